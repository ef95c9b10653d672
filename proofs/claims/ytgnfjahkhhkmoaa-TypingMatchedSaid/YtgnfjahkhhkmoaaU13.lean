import Derived.Test.YtgnfjahkhhkmoaaU12
namespace Go.Proofs.Ytgnfjahkhhkmoaa.V
open Go
set_option linter.unusedSimpArgs false
set_option linter.unusedVariables false

def m0 : MS := ⟨[], []⟩
theorem Match_c (t u : Ty) (ht : t.size ≤ 1000000) (hu : u.size ≤ 1000000) : ACalls Try.prog 12 [.agg t.enc, .agg u.enc] XH.none (fun av _ => ∃ r, r = matchF m0 t u ∧ r.1.types.length ≤ 101 ∧ smallT r.1.types ∧ (r.2 = true → av = .tup [.sl false r.1.types.length (Ty.encs r.1.types), .v (.bool true)]) ∧ (r.2 = false → av = .tup [.sl true 0 [], .v (.bool false)])) := by
  rcases t with ⟨k, n, l⟩
  rcases u with ⟨k', n', l'⟩
  refine calls_body td_ok Try.func12 rfl rfl rfl ?_
  refine AWP_seq ?_
  refine AWP_region ?_
  refine st_box td_ok rfl rfl rfl rfl rfl rfl (by ((repeat' with_reducible apply And.intro) <;> exact rfl)) fun r2 hr2 => ?_
  refine st_box td_ok rfl rfl rfl rfl rfl rfl (by ((repeat' with_reducible apply And.intro) <;> exact rfl)) fun r3 hr3 => ?_
  refine st td_ok rfl rfl rfl rfl (r := .sl _ _ _) rfl trivial ?_
  refine st td_ok rfl rfl rfl rfl (r := .v _) rfl trivial ?_
  refine AOps_nil ?_
  refine qn ?_
  refine AWP_seq ?_
  refine AWP_region ?_
  refine st_alloc td_ok rfl rfl rfl rfl rfl rfl (zs := [_, _]) rfl fun r6 hr6 => ?_
  refine AOps_nil ?_
  refine qn ?_
  refine AWP_seq ?_
  refine AWP_seq ?_
  obtain ⟨h63, hx⟩ := XH.put_none hr6
  have h62 := (XH.put_none hx).1
  have h32 := (XH.put_none hr3).1
  refine AWP_region ?_
  refine st_own (r := .agg [.v _, .v _, _]) td_ok rfl rfl rfl rfl rfl rfl rfl (XH.put_ne (by (first | assumption | exact Ne.symm (by assumption) | (intro h; simp [XH.put, h] at *; done))) (XH.put_ne (by (first | assumption | exact Ne.symm (by assumption) | (intro h; simp [XH.put, h] at *; done))) XH.put_same)) (Nat.le_of_ble_eq_true rfl) rfl  ?_
  refine st_own (r := .agg [.v _, .v _, _]) td_ok rfl rfl rfl rfl rfl rfl rfl (XH.put_ne (by (first | assumption | exact Ne.symm (by assumption) | (intro h; simp [XH.put, h] at *; done))) XH.put_same) (Nat.le_of_ble_eq_true rfl) rfl  ?_
  refine st_call rfl rfl rfl rfl rfl rfl rfl ⟨_, rfl, rfl, rfl⟩ (ACalls.mono (match_c _ (Ty.mk k n l) (Ty.mk k' n' l') _ r6 m0 (Nat.lt_succ_self _) ht hu ⟨.sl true 0 [], .sl true 0 [], ⟨rfl, by decide, fun t ht => absurd ht (by simp [m0]), XH.put_same, Own.nil _ _ _, Own.nil _ _ _, fun h => h, fun h => h, fun q h => absurd h (fun h => h)⟩⟩) ?_)
  rintro av X' ⟨b, rfl, hb, fs, ts, hM⟩
  refine st td_ok rfl rfl rfl rfl (r := .v _) rfl trivial ?_
  refine AOps_nil ?_
  refine qn ?_
  refine AWP_cond rfl rfl (fun h0 => ?_) (fun h0 => ?_)
  ·
    refine AWP_seq ?_
    refine AWP_region ?_
    refine st td_ok rfl rfl rfl rfl (r := .sl _ _ _) rfl trivial ?_
    refine st td_ok rfl rfl rfl rfl (r := .v _) rfl trivial ?_
    refine AOps_nil ?_
    refine qn ?_
    refine AWP_ret ?_
    refine qr ?_
    refine ⟨_, _, _, _, rfl, trivial, GS.forget _ _, ?_⟩
    first | show AV.v _ = _ | show AV.tup _ = _ | show AV.sl _ _ _ = _ | show AV.agg _ = _ | skip
    have e : (matchF m0 (Ty.mk k n l) (Ty.mk k' n' l')).2 = false := by rw [← hb]; simpa using h0
    exact ⟨_, rfl, hM.few, hM.small, fun h => by rw [e] at h; exact absurd h (by simp), fun _ => rfl⟩
  ·
    refine AWP_skip ?_
    refine qn ?_
    refine AWP_seq ?_
    refine AWP_region ?_
    refine st td_ok rfl rfl rfl rfl (r := .v _) rfl trivial ?_
    refine st_own (r := ts) td_ok rfl rfl rfl rfl rfl rfl rfl hM.at_ (Nat.le_of_ble_eq_true rfl) rfl  ?_
    refine st td_ok rfl rfl rfl rfl (r := _) rfl trivial ?_
    refine st td_ok rfl rfl rfl rfl (r := .v _) rfl trivial ?_
    refine AOps_nil ?_
    refine qn ?_
    refine AWP_ret ?_
    obtain ⟨X'', hgs, _⟩ := GS.give hM.own2 [] [.v (.bool true)]
    refine ⟨_, _, _, _, rfl, trivial, (GS.tup hgs), ?_⟩
    first | show AV.v _ = _ | show AV.tup _ = _ | show AV.sl _ _ _ = _ | show AV.agg _ = _ | skip
    have e : (matchF m0 (Ty.mk k n l) (Ty.mk k' n' l')).2 = true := by rw [← hb]; simpa using h0
    exact ⟨_, rfl, hM.few, hM.small, fun _ => rfl, fun h => by rw [e] at h; exact absurd h (by simp)⟩
theorem Match_yes {t u : Ty} (ht : t.size ≤ 1000000) (hu : u.size ≤ 1000000) (h : (matchF m0 t u).2 = true) : PCalls Try.prog 12 [.agg t.enc, .agg u.enc] (.tup [.sl false (matchF m0 t u).1.types.length (Ty.encs (matchF m0 t u).1.types), .v (.bool true)]) :=
  (Match_c t u ht hu).mono fun av _ ⟨r, hr, _, _, h1, _⟩ => by subst hr; exact h1 h
theorem Match_no {t u : Ty} (ht : t.size ≤ 1000000) (hu : u.size ≤ 1000000) (h : (matchF m0 t u).2 = false) : PCalls Try.prog 12 [.agg t.enc, .agg u.enc] (.tup [.sl true 0 [], .v (.bool false)]) :=
  (Match_c t u ht hu).mono fun av _ ⟨r, hr, _, _, _, h1⟩ => by subst hr; exact h1 h
def typsOk (l : List Ty) : Bool := (l.take 5).all (fun t => (typF t 250).1) && decide ((l.length : Int) ≤ 4)
theorem all_take {α : Type} {l : List α} {p : α → Bool} {d : α} {j : Nat} (h : j < l.length) : (l.take (j + 1)).all p = ((l.take j).all p && p (l.getD j d)) := by
  rw [List.getD_eq_getElem?_getD, List.getElem?_eq_getElem h, List.take_succ_eq_append_getElem h, List.all_append]
  simp
theorem all_take_no {α : Type} {l : List α} {p : α → Bool} : ∀ {i j : Nat}, i ≤ j → (l.take i).all p = false → (l.take j).all p = false := by
  intro i j hij h
  rw [List.all_eq_false] at h ⊢
  obtain ⟨x, hx, hp⟩ := h
  exact ⟨x, (List.take_subset_take_left l hij) hx, hp⟩
theorem Types_c (l : List Ty) (ta : Bool) : PCalls Try.prog 10 [.sl ta l.length (Ty.encs l), .v (.int .i64 4)] (.v (.bool (typsOk l))) := by
  refine calls_body td_ok Try.func10 rfl rfl rfl ?_
  refine AWP_seq ?_
  refine AWP_region ?_
  refine st td_ok rfl rfl rfl rfl (r := .v _) rfl trivial ?_
  refine AOps_nil ?_
  refine qn ?_
  refine AWP_seq ?_
  refine AWP_seq ?_
  refine AWP_region ?_
  refine st td_ok rfl rfl rfl rfl (r := .v _) rfl trivial ?_
  refine AOps_nil ?_
  refine qn ?_
  refine AWP_block ?_
  refine AWP_for (fun (j : Nat) => [(0, .sl ta l.length (Ty.encs l)), (1, .v (.int .i64 4)), (5, .v (.int .i64 j))]) (fun j X => j ≤ l.length ∧ j ≤ 5 ∧ (l.take j).all (fun t => (typF t 250).1) = true) (fun j => l.length - j) 0 ⟨by (repeat' (first | exact rfl | exact trivial | apply And.intro)), ⟨Nat.zero_le _, by decide, rfl⟩⟩ ?_
  rintro j X ⟨hj, hj2, hq⟩
  refine AWP_seq ?_
  refine AWP_seq ?_
  refine AWP_region ?_
  refine st td_ok rfl rfl rfl rfl (r := .v _) rfl trivial ?_
  refine st td_ok rfl rfl rfl rfl (r := .sl _ _ _) rfl trivial ?_
  refine st td_ok rfl rfl rfl rfl (r := .v _) rfl trivial ?_
  refine st td_ok rfl rfl rfl rfl (r := .v _) rfl trivial ?_
  refine st td_ok rfl rfl rfl rfl (r := .v _) rfl trivial ?_
  (refine sgk0 td_ok rfl rfl rfl rfl rfl rfl (r := .v _) rfl ?_ ?_; · exact fun hg => ⟨by (repeat' (first | exact trivial | exact hg | exact (Bool.and_eq_true_iff.mp hg).1 | apply And.intro)), by exact trivial⟩)
  (refine sgk0 td_ok rfl rfl rfl rfl rfl rfl (r := .v _) rfl ?_ ?_; · exact fun hg => ⟨by (repeat' (first | exact trivial | exact hg | exact (Bool.and_eq_true_iff.mp hg).1 | apply And.intro)), by exact trivial⟩)
  (refine sgk0 td_ok rfl rfl rfl rfl rfl rfl (r := .v _) rfl ?_ ?_; · exact fun hg => ⟨by (repeat' (first | exact trivial | exact hg | exact (Bool.and_eq_true_iff.mp hg).1 | apply And.intro)), by exact trivial⟩)
  (refine st td_ok rfl rfl rfl rfl (r := .v _) rfl ?_ ?_; · exact (fun h => h))
  refine AOps_nil ?_
  refine qn ?_
  refine AWP_cond rfl rfl (fun h0 => ?_) (fun h0 => ?_)
  ·
    refine AWP_skip ?_
    refine qn ?_
    refine AWP_seq ?_
    refine AWP_block ?_
    refine AWP_seq ?_
    obtain ⟨h0a, h0b⟩ := bif_t h0
    simp only [decide_eq_true_eq] at h0a h0b
    have hlt : j < l.length := by omega
    have hst := all_take (p := fun t => (typF t 250).1) (d := ty0) hlt
    refine AWP_region ?_
    refine st td_ok rfl rfl rfl rfl (r := .sl _ _ _) rfl trivial ?_
    refine st td_ok rfl rfl rfl rfl (r := .v _) rfl trivial ?_
    (refine st td_ok rfl rfl rfl rfl (r := .pp _ _) rfl ?_ ?_; · ((repeat' with_reducible apply And.intro) <;> (first | with_reducible assumption | omega | (simp only [Ty.encs_len, Ty.enc_len, bools_len, cond_true, cond_false, nd, Option.getD_none, Option.getD_some, Int.toNat_natCast, strs_len, nums_len, List.length_append, tds2, tds3, tds4, tds5, tds9, tds12, tds21, tds22, tds23, tds24, tds25, tds30, tds31, tds32, tds33, tds34, tds45, tds47, tds48, tds49, tds52, tds62, tds66, decide_eq_true_eq, Bool.and_eq_true, Bool.not_eq_true', decide_eq_false_iff_not] at *; omega))))
    (refine st_eq td_ok rfl rfl rfl rfl (r := _) rfl ?_ ((Ty.at_lt l j hlt _)) ?_; · ((repeat' with_reducible apply And.intro) <;> (simp only [Ty.encs_len, Ty.enc_len, bools_len, cond_true, cond_false, nd, Option.getD_none, Option.getD_some, Int.toNat_natCast, strs_len, nums_len, List.length_append, tds2, tds3, tds4, tds5, tds9, tds12, tds21, tds22, tds23, tds24, tds25, tds30, tds31, tds32, tds33, tds34, tds45, tds47, tds48, tds49, tds52, tds62, tds66, decide_eq_true_eq, Bool.and_eq_true, Bool.not_eq_true', decide_eq_false_iff_not] at *; omega)))
    refine st_pcall rfl rfl rfl rfl rfl rfl rfl ⟨_, rfl, rfl, rfl⟩ (Type_c (l.getD j ty0)) ?_
    refine st td_ok rfl rfl rfl rfl (r := .v _) rfl trivial ?_
    refine AOps_nil ?_
    refine qn ?_
    refine AWP_cond rfl rfl (fun h1 => ?_) (fun h1 => ?_)
    ·
      refine AWP_seq ?_
      refine AWP_region ?_
      refine st td_ok rfl rfl rfl rfl (r := .v _) rfl trivial ?_
      refine AOps_nil ?_
      refine qn ?_
      refine AWP_ret ?_
      refine qbr ?_
      refine qr ?_
      refine qr ?_
      refine qbr ?_
      refine qr ?_
      refine ⟨_, _, _, _, rfl, trivial, GS.forget _ _, ?_⟩
      first | show AV.v _ = _ | show AV.tup _ = _ | show AV.sl _ _ _ = _ | show AV.agg _ = _ | skip
      have e : (l.take (j + 1)).all (fun t => (typF t 250).1) = false := by rw [hst, hq]; simpa using h1
      unfold typsOk
      rw [all_take_no (show j + 1 ≤ 5 by omega) e]; rfl
    ·
      refine AWP_skip ?_
      refine qbn ?_
      refine qn ?_
      refine AWP_region ?_
      refine st td_ok rfl rfl rfl rfl (r := .v _) rfl trivial ?_
      refine st_eq td_ok rfl rfl rfl rfl (r := .v _) rfl trivial (w64 (by omega)) ?_
      refine st td_ok rfl rfl rfl rfl (r := .v _) rfl trivial ?_
      refine AOps_nil ?_
      refine qn ?_
      exact ⟨j + 1, by omega, by (repeat' (first | exact rfl | exact trivial | apply And.intro)), by omega, by omega, by rw [hst, hq]; simpa using h1⟩
  ·
    refine AWP_exit ?_
    refine qx ?_
    refine qx ?_
    refine qbh ?_
    refine qn ?_
    refine AWP_seq ?_
    refine AWP_region ?_
    refine st td_ok rfl rfl rfl rfl (r := .sl _ _ _) rfl trivial ?_
    refine st td_ok rfl rfl rfl rfl (r := .v _) rfl trivial ?_
    refine st td_ok rfl rfl rfl rfl (r := .v _) rfl trivial ?_
    refine st td_ok rfl rfl rfl rfl (r := .v _) rfl trivial ?_
    refine st td_ok rfl rfl rfl rfl (r := .v _) rfl trivial ?_
    refine AOps_nil ?_
    refine qn ?_
    refine AWP_ret ?_
    refine ⟨_, _, _, _, rfl, trivial, GS.forget _ _, ?_⟩
    first | show AV.v _ = _ | show AV.tup _ = _ | show AV.sl _ _ _ = _ | show AV.agg _ = _ | skip
    have e : l.take 5 = l.take j ∨ 4 < l.length := by
      by_cases h5 : j < l.length
      · right
        rw [decide_eq_true (show (j : Int) < l.length by omega)] at h0
        have : decide ((j : Int) ≤ 4) = false := h0
        simp only [decide_eq_false_iff_not] at this
        omega
      · left
        rw [List.take_of_length_le (by omega), List.take_of_length_le (by omega)]
    unfold typsOk
    rcases e with e | e
    · rw [e, hq]; rfl
    · rw [decide_eq_false (show ¬ (l.length : Int) ≤ 4 by omega)]; simp
theorem varsL_go {l : List Ty} {j : Nat} {c : Int} (h : j < l.length) : varsL (l.drop j) c = (bif varsF (l.getD j ty0) c then varsL (l.drop (j + 1)) c else false) := by
  rw [List.getD_eq_getElem?_getD, List.getElem?_eq_getElem h, Option.getD_some, List.drop_eq_getElem_cons h]
  rfl
theorem vars_c (m : Nat) : ∀ (t : Ty) (c : Int), t.size < m → t.size ≤ 1000000 → PCalls Try.prog 15 [.agg t.enc, .v (.int .i64 c)] (.v (.bool (varsF t c))) := by
  induction m with
  | zero => intro t c h; omega
  | succ m ih =>
    rintro ⟨k, n, l⟩ c hsz hs
    simp only [Ty.size] at hs
    have hll := Ty.sizes_len l
    refine calls_body td_ok Try.func15 rfl rfl rfl ?_
    refine AWP_seq ?_
    refine AWP_region ?_
    refine st_box td_ok rfl rfl rfl rfl rfl rfl (by ((repeat' with_reducible apply And.intro) <;> exact rfl)) fun r2 hr2 => ?_
    refine st td_ok rfl rfl rfl rfl (r := .v _) rfl trivial ?_
    refine AOps_nil ?_
    refine qn ?_
    refine AWP_seq ?_
    refine AWP_seq ?_
    refine AWP_region ?_
    refine st td_ok rfl rfl rfl rfl (r := .v _) rfl trivial ?_
    refine st_own (r := .v _) td_ok rfl rfl rfl rfl rfl rfl rfl XH.put_same (Nat.le_of_ble_eq_true rfl) rfl  ?_
    refine st td_ok rfl rfl rfl rfl (r := .v _) rfl trivial ?_
    refine AOps_nil ?_
    refine qn ?_
    refine AWP_cond rfl rfl (fun h0 => ?_) (fun h0 => ?_)
    ·
      refine AWP_seq ?_
      refine AWP_region ?_
      refine st td_ok rfl rfl rfl rfl (r := .v _) rfl trivial ?_
      refine st_own (r := .v _) td_ok rfl rfl rfl rfl rfl rfl rfl XH.put_same (Nat.le_of_ble_eq_true rfl) rfl  ?_
      refine st td_ok rfl rfl rfl rfl (r := .v _) rfl trivial ?_
      refine st td_ok rfl rfl rfl rfl (r := .v _) rfl trivial ?_
      (refine sgk0 td_ok rfl rfl rfl rfl rfl rfl (r := .v _) rfl ?_ ?_; · exact fun hg => ⟨by (repeat' (first | exact trivial | exact hg | exact (Bool.and_eq_true_iff.mp hg).1 | apply And.intro)), by exact trivial⟩)
      refine sgk_own (r := .v _) td_ok rfl rfl rfl rfl rfl rfl rfl rfl rfl XH.put_same (fun hg => by (repeat' (first | exact trivial | exact hg | exact (Bool.and_eq_true_iff.mp hg).1 | apply And.intro))) (Nat.le_of_ble_eq_true rfl) rfl ?_
      (refine sgk0 td_ok rfl rfl rfl rfl rfl rfl (r := .v _) rfl ?_ ?_; · exact fun hg => ⟨by (repeat' (first | exact trivial | exact hg | exact (Bool.and_eq_true_iff.mp hg).1 | apply And.intro)), by exact trivial⟩)
      (refine sgk0 td_ok rfl rfl rfl rfl rfl rfl (r := .v _) rfl ?_ ?_; · exact fun hg => ⟨by (repeat' (first | exact trivial | exact hg | exact (Bool.and_eq_true_iff.mp hg).1 | apply And.intro)), by exact trivial⟩)
      (refine st td_ok rfl rfl rfl rfl (r := .v _) rfl ?_ ?_; · exact (fun h => h))
      refine st td_ok rfl rfl rfl rfl (r := .v _) rfl trivial ?_
      (refine sgk0 td_ok rfl rfl rfl rfl rfl rfl (r := .v _) rfl ?_ ?_; · exact fun hg => ⟨by (repeat' (first | exact trivial | exact hg | exact (Bool.and_eq_true_iff.mp hg).1 | apply And.intro)), by exact trivial⟩)
      refine sgk_own (r := .sl _ _ _) td_ok rfl rfl rfl rfl rfl rfl rfl rfl rfl XH.put_same (fun hg => by (repeat' (first | exact trivial | exact hg | exact (Bool.and_eq_true_iff.mp hg).1 | apply And.intro))) (Nat.le_of_ble_eq_true rfl) rfl ?_
      (refine sgk0 td_ok rfl rfl rfl rfl rfl rfl (r := .v _) rfl ?_ ?_; · exact fun hg => ⟨by (repeat' (first | exact trivial | exact hg | exact (Bool.and_eq_true_iff.mp hg).1 | apply And.intro)), by exact trivial⟩)
      (refine sgk0 td_ok rfl rfl rfl rfl rfl rfl (r := .v _) rfl ?_ ?_; · exact fun hg => ⟨by (repeat' (first | exact trivial | exact hg | exact (Bool.and_eq_true_iff.mp hg).1 | apply And.intro)), by exact trivial⟩)
      (refine st td_ok rfl rfl rfl rfl (r := .v _) rfl ?_ ?_; · exact (fun h => h))
      refine st td_ok rfl rfl rfl rfl (r := .v _) rfl trivial ?_
      refine AOps_nil ?_
      refine qn ?_
      refine AWP_ret ?_
      refine qr ?_
      refine ⟨_, _, _, _, rfl, trivial, GS.forget _ _, ?_⟩
      first | show AV.v _ = _ | show AV.tup _ = _ | show AV.sl _ _ _ = _ | show AV.agg _ = _ | skip
      simp only [varsF]
      rw [h0]; rfl
    ·
      refine AWP_skip ?_
      refine qn ?_
      refine AWP_seq ?_
      refine AWP_seq ?_
      refine AWP_region ?_
      refine st td_ok rfl rfl rfl rfl (r := .v _) rfl trivial ?_
      refine st_own (r := .sl _ _ _) td_ok rfl rfl rfl rfl rfl rfl rfl XH.put_same (Nat.le_of_ble_eq_true rfl) rfl  ?_
      refine st td_ok rfl rfl rfl rfl (r := .v _) rfl trivial ?_
      refine st td_ok rfl rfl rfl rfl (r := .v _) rfl trivial ?_
      refine AOps_nil ?_
      refine qn ?_
      refine AWP_block ?_
      refine AWP_for (fun (j : Nat) => [(1, .v (.int .i64 c)), (26, .sl false l.length (Ty.encs l)), (27, .v (.int .i64 l.length)), (28, .v (.int .i64 j))]) (fun j X => j ≤ l.length ∧ varsL (l.drop j) c = varsL l c) (fun j => l.length - j) 0 ⟨by (repeat' (first | exact rfl | exact trivial | apply And.intro)), ⟨Nat.zero_le _, rfl⟩⟩ ?_
      rintro j X ⟨hj, hq⟩
      refine AWP_seq ?_
      refine AWP_region ?_
      refine st td_ok rfl rfl rfl rfl (r := .v _) rfl trivial ?_
      refine AOps_nil ?_
      refine qn ?_
      refine AWP_seq ?_
      refine AWP_cond rfl rfl (fun h1 => ?_) (fun h1 => ?_)
      ·
        refine AWP_skip ?_
        refine qn ?_
        refine AWP_seq ?_
        refine AWP_block ?_
        refine AWP_seq ?_
        have hlt : j < l.length := Int.ofNat_lt.mp (of_decide_eq_true h1)
        have hk := Ty.sizes_get l j hlt
        have hst := varsL_go (c := c) hlt
        obtain ⟨⟨k2, n2, l2⟩, hel⟩ : ∃ t, l.getD j ty0 = t := ⟨_, rfl⟩
        rw [hel] at hk hst
        refine AWP_region ?_
        (refine st td_ok rfl rfl rfl rfl (r := .pp _ _) rfl ?_ ?_; · ((repeat' with_reducible apply And.intro) <;> (first | omega | (simp only [Ty.encs_len, Ty.enc_len, bools_len, cond_true, cond_false, nd, Option.getD_none, Option.getD_some, Int.toNat_natCast, strs_len, nums_len, List.length_append, tds2, tds3, tds4, tds5, tds9, tds12, tds21, tds22, tds23, tds24, tds25, tds30, tds31, tds32, tds33, tds34, tds45, tds47, tds48, tds49, tds52, tds62, tds66, decide_eq_true_eq, Bool.and_eq_true, Bool.not_eq_true', decide_eq_false_iff_not] at *; omega))))
        (refine st_eq td_ok rfl rfl rfl rfl (r := _) rfl ?_ ((show _ = AV.agg (Ty.mk k2 n2 l2).enc from (Ty.at_lt l j hlt _).trans (by rw [hel]))) ?_; · ((repeat' with_reducible apply And.intro) <;> (simp only [Ty.encs_len, Ty.enc_len, bools_len, cond_true, cond_false, nd, Option.getD_none, Option.getD_some, Int.toNat_natCast, strs_len, nums_len, List.length_append, tds2, tds3, tds4, tds5, tds9, tds12, tds21, tds22, tds23, tds24, tds25, tds30, tds31, tds32, tds33, tds34, tds45, tds47, tds48, tds49, tds52, tds62, tds66, decide_eq_true_eq, Bool.and_eq_true, Bool.not_eq_true', decide_eq_false_iff_not] at *; omega)))
        refine st_alloc td_ok rfl rfl rfl rfl rfl rfl (zs := [.v _, .v _, _]) rfl fun r6 hr6 => ?_
        refine st_store td_ok rfl rfl rfl rfl rfl rfl XH.put_same rfl (by ((repeat' with_reducible apply And.intro) <;> exact rfl)) (Nat.le_of_ble_eq_true rfl) (cs' := [.v _, .v _, _]) (T' := 25) rfl rfl ?_
        refine AOps_nil ?_
        refine qn ?_
        refine AWP_seq ?_
        refine AWP_region ?_
        refine st_own (r := .agg [.v _, .v _, _]) td_ok rfl rfl rfl rfl rfl rfl rfl XH.put_same (Nat.le_of_ble_eq_true rfl) rfl  ?_
        refine st td_ok rfl rfl rfl rfl (r := .v _) rfl trivial ?_
        refine st_pcall rfl rfl rfl rfl rfl rfl rfl ⟨_, rfl, rfl, rfl⟩ (ih (Ty.mk k2 n2 l2) c (by simp only [Ty.size] at hsz hk ⊢; omega) (by omega)) ?_
        refine st td_ok rfl rfl rfl rfl (r := .v _) rfl trivial ?_
        refine AOps_nil ?_
        refine qn ?_
        refine AWP_cond rfl rfl (fun h2 => ?_) (fun h2 => ?_)
        ·
          refine AWP_seq ?_
          refine AWP_region ?_
          refine st td_ok rfl rfl rfl rfl (r := .v _) rfl trivial ?_
          refine AOps_nil ?_
          refine qn ?_
          refine AWP_ret ?_
          refine qbr ?_
          refine qr ?_
          refine qr ?_
          refine qbr ?_
          refine qr ?_
          refine ⟨_, _, _, _, rfl, trivial, GS.forget _ _, ?_⟩
          first | show AV.v _ = _ | show AV.tup _ = _ | show AV.sl _ _ _ = _ | show AV.agg _ = _ | skip
          simp only [varsF]
          rw [h0, ← hq, hst, show varsF (Ty.mk k2 n2 l2) c = false by simpa using h2]; rfl
        ·
          refine AWP_skip ?_
          refine qbn ?_
          refine qn ?_
          refine AWP_region ?_
          refine st_eq td_ok rfl rfl rfl rfl (r := .v _) rfl trivial (w64 (by omega)) ?_
          refine st td_ok rfl rfl rfl rfl (r := .v _) rfl trivial ?_
          refine AOps_nil ?_
          refine qn ?_
          exact ⟨j + 1, by omega, by (repeat' (first | exact rfl | exact trivial | apply And.intro)), by omega, by rw [← hq, hst, show varsF (Ty.mk k2 n2 l2) c = true by simpa using h2]; rfl⟩
      ·
        refine AWP_exit ?_
        refine qx ?_
        refine qx ?_
        refine qbh ?_
        refine qn ?_
        refine AWP_seq ?_
        refine AWP_region ?_
        refine st td_ok rfl rfl rfl rfl (r := .v _) rfl trivial ?_
        refine AOps_nil ?_
        refine qn ?_
        refine AWP_ret ?_
        refine ⟨_, _, _, _, rfl, trivial, GS.forget _ _, ?_⟩
        first | show AV.v _ = _ | show AV.tup _ = _ | show AV.sl _ _ _ = _ | show AV.agg _ = _ | skip
        simp only [varsF]
        rw [h0, ← hq, List.drop_of_length_le (by simp only [decide_eq_false_iff_not] at h1; omega)]; rfl
theorem Index0_c (a : AV) (g : AV) : PCalls Try.prog 27 [.sl true 0 [], g] (.v (.int .i64 (-1))) := by
  refine calls_body td_ok Try.func27 rfl rfl rfl ?_
  refine AWP_seq ?_
  refine AWP_region ?_
  refine st td_ok rfl rfl rfl rfl (r := .v _) rfl trivial ?_
  refine AOps_nil ?_
  refine qn ?_
  refine AWP_seq ?_
  refine AWP_seq ?_
  refine AWP_region ?_
  refine st td_ok rfl rfl rfl rfl (r := .sl _ _ _) rfl trivial ?_
  refine st td_ok rfl rfl rfl rfl (r := .v _) rfl trivial ?_
  refine st td_ok rfl rfl rfl rfl (r := .v _) rfl trivial ?_
  refine AOps_nil ?_
  refine qn ?_
  refine AWP_block ?_
  refine AWP_for (fun (j : Nat) => [(0, .sl true 0 []), (1, g), (7, .v (.int .i64 0)), (8, .v (.int .i64 j))]) (fun j X => j = 0) (fun j => j) 0 ⟨by (repeat' (first | exact rfl | exact trivial | apply And.intro)), rfl⟩ ?_
  rintro j X hj
  refine AWP_seq ?_
  refine AWP_region ?_
  refine st td_ok rfl rfl rfl rfl (r := .v _) rfl trivial ?_
  refine AOps_nil ?_
  refine qn ?_
  refine AWP_seq ?_
  refine AWP_cond rfl rfl (fun h0 => ?_) (fun h0 => ?_)
  ·
    (exfalso; subst hj; simp at h0)
  ·
    refine AWP_exit ?_
    refine qx ?_
    refine qx ?_
    refine qbh ?_
    refine qn ?_
    refine AWP_seq ?_
    refine AWP_region ?_
    refine st td_ok rfl rfl rfl rfl (r := .v _) rfl trivial ?_
    refine AOps_nil ?_
    refine qn ?_
    refine AWP_ret ?_
    refine ⟨_, _, _, _, rfl, trivial, GS.forget _ _, ?_⟩
    first | show AV.v _ = _ | show AV.tup _ = _ | show AV.sl _ _ _ = _ | show AV.agg _ = _ | skip
    rfl
theorem Contains0_c (g : AV) : PCalls Try.prog 22 [.sl true 0 [], g] (.v (.bool false)) := by
  refine calls_body td_ok Try.func22 rfl rfl rfl ?_
  refine AWP_seq ?_
  refine AWP_region ?_
  refine st td_ok rfl rfl rfl rfl (r := .v _) rfl trivial ?_
  refine AOps_nil ?_
  refine qn ?_
  refine AWP_seq ?_
  refine AWP_region ?_
  refine st td_ok rfl rfl rfl rfl (r := .sl _ _ _) rfl trivial ?_
  refine st td_ok rfl rfl rfl rfl (r := _) rfl trivial ?_
  refine st_pcall rfl rfl rfl rfl rfl rfl rfl ⟨_, rfl, rfl, rfl⟩ (Index0_c .any g) ?_
  refine st td_ok rfl rfl rfl rfl (r := .v _) rfl trivial ?_
  refine st td_ok rfl rfl rfl rfl (r := .v _) rfl trivial ?_
  refine AOps_nil ?_
  refine qn ?_
  refine AWP_ret ?_
  refine ⟨_, _, _, _, rfl, trivial, GS.forget _ _, ?_⟩
  first | show AV.v _ = _ | show AV.tup _ = _ | show AV.sl _ _ _ = _ | show AV.agg _ = _ | skip
  rfl
theorem Ground1_c : PCalls Try.prog 16 [.agg [.v (.int .i64 1), .v (.int .i64 0), .sl true 0 []]] (.v (.bool true)) := by
  refine calls_body td_ok Try.func16 rfl rfl rfl ?_
  refine AWP_seq ?_
  refine AWP_region ?_
  refine st_box td_ok rfl rfl rfl rfl rfl rfl (by ((repeat' with_reducible apply And.intro) <;> exact rfl)) fun r1 hr1 => ?_
  refine st td_ok rfl rfl rfl rfl (r := .v _) rfl trivial ?_
  refine AOps_nil ?_
  refine qn ?_
  refine AWP_seq ?_
  refine AWP_region ?_
  refine st td_ok rfl rfl rfl rfl (r := .v _) rfl trivial ?_
  refine st_own (r := .v _) td_ok rfl rfl rfl rfl rfl rfl rfl XH.put_same (Nat.le_of_ble_eq_true rfl) rfl  ?_
  refine st td_ok rfl rfl rfl rfl (r := .v _) rfl trivial ?_
  refine st td_ok rfl rfl rfl rfl (r := .v _) rfl trivial ?_
  (refine sgk0 td_ok rfl rfl rfl rfl rfl rfl (r := .v _) rfl ?_ ?_; · exact fun hg => ⟨by (repeat' (first | exact trivial | exact hg | exact (Bool.and_eq_true_iff.mp hg).1 | apply And.intro)), by exact trivial⟩)
  refine sgk_own (r := .sl _ _ _) td_ok rfl rfl rfl rfl rfl rfl rfl rfl rfl XH.put_same (fun hg => by (repeat' (first | exact trivial | exact hg | exact (Bool.and_eq_true_iff.mp hg).1 | apply And.intro))) (Nat.le_of_ble_eq_true rfl) rfl ?_
  refine stg_call rfl rfl rfl rfl rfl rfl rfl rfl (fun hg => ⟨by (repeat' (first | exact trivial | exact hg | exact (Bool.and_eq_true_iff.mp hg).1 | apply And.intro)), rfl, ⟨_, rfl, rfl, rfl⟩, (Contains0_c _)⟩) ?_
  (refine sgk0 td_ok rfl rfl rfl rfl rfl rfl (r := .v _) rfl ?_ ?_; · exact fun hg => ⟨by (repeat' (first | exact trivial | exact hg | exact (Bool.and_eq_true_iff.mp hg).1 | apply And.intro)), by exact trivial⟩)
  (refine st td_ok rfl rfl rfl rfl (r := .v _) rfl ?_ ?_; · exact (fun h => h))
  refine st td_ok rfl rfl rfl rfl (r := .v _) rfl trivial ?_
  refine AOps_nil ?_
  refine qn ?_
  refine AWP_ret ?_
  refine ⟨_, _, _, _, rfl, trivial, GS.forget _ _, ?_⟩
  first | show AV.v _ = _ | show AV.tup _ = _ | show AV.sl _ _ _ = _ | show AV.agg _ = _ | skip
  rfl
end Go.Proofs.Ytgnfjahkhhkmoaa.V
