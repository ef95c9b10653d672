import Derived.Test.YtgnfjahkhhkmoaaU1
namespace Go.Proofs.Ytgnfjahkhhkmoaa.V
open Go
set_option linter.unusedSimpArgs false
set_option linter.unusedVariables false

theorem all_go {α : Type} {l : List α} {p : α → Bool} {d : α} {j : Nat} (h : j < l.length) (hp : p (l.getD j d) = true) : (l.drop j).all p = (l.drop (j + 1)).all p := by
  rw [List.getD_eq_getElem?_getD, List.getElem?_eq_getElem h, Option.getD_some] at hp
  rw [List.drop_eq_getElem_cons h, List.all_cons, hp, Bool.true_and]
theorem all_no {α : Type} {l : List α} {p : α → Bool} {d : α} {j : Nat} (h : j < l.length) (hp : p (l.getD j d) = false) : (l.drop j).all p = false := by
  rw [List.getD_eq_getElem?_getD, List.getElem?_eq_getElem h, Option.getD_some] at hp
  rw [List.drop_eq_getElem_cons h, List.all_cons, hp, Bool.false_and]
theorem all_end {α : Type} {l : List α} {p : α → Bool} {j : Nat} (h : l.length ≤ j) : (l.drop j).all p = true := by rw [List.drop_of_length_le h]; rfl
mutual
theorem typF_size : ∀ (t : Ty) (n : Int), 0 ≤ n → (typF t n).1 = true → (typF t n).2 = n - t.size
  | .mk _ _ l, n, h, hg => by
    simp only [typF] at hg ⊢
    split at hg
    · exact absurd hg (by simp)
    · rename_i h0
      rw [if_neg h0, typsF_size l (n - 1) (by omega) hg]
      simp only [Ty.size]; omega
theorem typsF_size : ∀ (l : List Ty) (n : Int), 0 ≤ n → (typsF l n).1 = true → (typsF l n).2 = n - Ty.sizes l
  | [], n, h, hg => by simp [typsF, Ty.sizes]
  | t :: l, n, h, hg => by
    simp only [typsF] at hg ⊢
    split at hg
    · rename_i h1
      rw [if_pos h1, typsF_size l _ ((typF_le t n h).2.2 h1) hg, typF_size t n h h1]
      simp only [Ty.sizes]; omega
    · exact absurd hg (by simp)
end
theorem typF_ok {t : Ty} {n : Int} (h : 0 ≤ n) (hg : (typF t n).1 = true) : (t.size : Int) ≤ n := by
  have h1 := typF_size t n h hg
  have h2 := (typF_le t n h).2.2 hg
  omega
theorem typsF_ok {l : List Ty} {n : Int} (h : 0 ≤ n) (hg : (typsF l n).1 = true) : (Ty.sizes l : Int) ≤ n := by
  have h1 := typsF_size l n h hg
  have h2 := (typsF_le l n h).2.2 hg
  omega
theorem Type_c (t : Ty) : PCalls Try.prog 6 [.agg t.enc] (.v (.bool (typF t 250).1)) := by
  rcases t with ⟨k, nu, l⟩
  refine calls_body td_ok Try.func6 rfl rfl rfl ?_
  refine AWP_seq ?_
  refine AWP_region ?_
  refine st_box td_ok rfl rfl rfl rfl rfl rfl (by ((repeat' with_reducible apply And.intro) <;> exact rfl)) fun r1 hr1 => ?_
  refine st td_ok rfl rfl rfl rfl (r := .v _) rfl trivial ?_
  refine AOps_nil ?_
  refine qn ?_
  refine AWP_seq ?_
  refine AWP_region ?_
  refine st_alloc td_ok rfl rfl rfl rfl rfl rfl (zs := [.v _]) rfl fun r3 hr3 => ?_
  refine st_store td_ok rfl rfl rfl rfl rfl rfl XH.put_same rfl (by ((repeat' with_reducible apply And.intro) <;> exact rfl)) (Nat.le_of_ble_eq_true rfl) (cs' := [.v _]) (T' := 3) rfl rfl ?_
  refine AOps_nil ?_
  refine qn ?_
  refine AWP_seq ?_
  refine AWP_region ?_
  refine st_own (r := .agg [.v _, .v _, _]) td_ok rfl rfl rfl rfl rfl rfl rfl (XH.put_ne (by (first | assumption | exact Ne.symm (by assumption) | (intro h; simp [XH.put, h] at *; done))) (XH.put_ne (by (first | assumption | exact Ne.symm (by assumption) | (intro h; simp [XH.put, h] at *; done))) XH.put_same)) (Nat.le_of_ble_eq_true rfl) rfl  ?_
  refine st_call rfl rfl rfl rfl rfl rfl rfl ⟨_, rfl, rfl, rfl⟩ (ACalls.mono (ACalls.cell (typ_c ((Ty.mk k nu l).size + 1) (Ty.mk k nu l) 250 r3 (by omega) (by decide) (by decide)) XH.put_same) ?_)
  rintro av X' ⟨o', rfl, rfl, rfl⟩
  refine st td_ok rfl rfl rfl rfl (r := .v _) rfl trivial ?_
  refine AOps_nil ?_
  refine qn ?_
  refine AWP_ret ?_
  refine ⟨_, _, _, _, rfl, trivial, GS.forget _ _, ?_⟩
  first | show AV.v _ = _ | show AV.tup _ = _ | show AV.sl _ _ _ = _ | show AV.agg _ = _ | skip
  first | exact ⟨rfl, rfl⟩ | rfl | sorry
def typesF (l : List Ty) (n : Int) : Bool := (l.take (n.toNat + 1)).all (fun t => (typF t 250).1) && decide ((l.length : Int) ≤ n)
def tyEq0 : Unit := ()
mutual
def tyEq : Ty → Ty → Bool
  | .mk k n l, .mk k' n' l' => bif (bif k == k' then n == n' else false) then tysEq l l' else false
def tysEq : List Ty → List Ty → Bool
  | [], [] => true
  | t :: l, u :: m => bif tyEq t u then tysEq l m else false
  | _, _ => false
end
theorem tysEq_len : ∀ (l m : List Ty), l.length ≠ m.length → tysEq l m = false
  | [], [], h => absurd rfl h
  | [], _ :: _, _ => rfl
  | _ :: _, [], _ => rfl
  | t :: l, u :: m, h => by
    simp only [tysEq]
    rw [tysEq_len l m (by simpa using h)]
    cases tyEq t u <;> rfl
theorem tysEq_step {l m : List Ty} {j : Nat} (h : j < l.length) (h2 : j < m.length) : tysEq (l.drop j) (m.drop j) = (bif tyEq (l.getD j ty0) (m.getD j ty0) then tysEq (l.drop (j + 1)) (m.drop (j + 1)) else false) := by
  simp only [List.getD_eq_getElem?_getD]
  rw [List.getElem?_eq_getElem h, List.getElem?_eq_getElem h2, List.drop_eq_getElem_cons h, List.drop_eq_getElem_cons h2]
  simp only [tysEq, Option.getD_some]
theorem SameTypes_of (l m : List Ty) (hl : l.length ≤ 1000000000) (h : ∀ j, j < l.length → ∀ u, PCalls Try.prog 13 [.agg (l.getD j ty0).enc, .agg u.enc] (.v (.bool (tyEq (l.getD j ty0) u)))) (ta tb : Bool) : PCalls Try.prog 9 [.sl ta l.length (Ty.encs l), .sl tb m.length (Ty.encs m)] (.v (.bool (tysEq l m))) := by
  refine calls_body td_ok Try.func9 rfl rfl rfl ?_
  refine AWP_seq ?_
  refine AWP_region ?_
  refine st td_ok rfl rfl rfl rfl (r := .v _) rfl trivial ?_
  refine AOps_nil ?_
  refine qn ?_
  refine AWP_seq ?_
  refine AWP_seq ?_
  refine AWP_region ?_
  refine st td_ok rfl rfl rfl rfl (r := .sl _ _ _) rfl trivial ?_
  refine st td_ok rfl rfl rfl rfl (r := .v _) rfl trivial ?_
  refine st td_ok rfl rfl rfl rfl (r := .sl _ _ _) rfl trivial ?_
  refine st td_ok rfl rfl rfl rfl (r := .v _) rfl trivial ?_
  refine st td_ok rfl rfl rfl rfl (r := .v _) rfl trivial ?_
  refine AOps_nil ?_
  refine qn ?_
  refine AWP_cond rfl rfl (fun h0 => ?_) (fun h0 => ?_)
  ·
    refine AWP_seq ?_
    refine AWP_region ?_
    refine st td_ok rfl rfl rfl rfl (r := .v _) rfl trivial ?_
    refine AOps_nil ?_
    refine qn ?_
    refine AWP_ret ?_
    refine qr ?_
    refine ⟨_, _, _, _, rfl, trivial, GS.forget _ _, ?_⟩
    first | show AV.v _ = _ | show AV.tup _ = _ | show AV.sl _ _ _ = _ | show AV.agg _ = _ | skip
    rw [tysEq_len l m (fun e => by rw [e] at h0; simp at h0)]
  ·
    have hlm : m.length = l.length := by simp only [bne_eq_false_iff_eq] at h0; omega
    refine AWP_skip ?_
    refine qn ?_
    refine AWP_seq ?_
    refine AWP_seq ?_
    refine AWP_region ?_
    refine st td_ok rfl rfl rfl rfl (r := .sl _ _ _) rfl trivial ?_
    refine st td_ok rfl rfl rfl rfl (r := .v _) rfl trivial ?_
    refine st td_ok rfl rfl rfl rfl (r := .v _) rfl trivial ?_
    refine AOps_nil ?_
    refine qn ?_
    refine AWP_block ?_
    refine AWP_for (fun (j : Nat) => [(0, .sl ta l.length (Ty.encs l)), (1, .sl tb m.length (Ty.encs m)), (12, .v (.int .i64 l.length)), (13, .v (.int .i64 j))]) (fun j X => X = XH.none ∧ j ≤ l.length ∧ tysEq (l.drop j) (m.drop j) = tysEq l m) (fun j => l.length - j) 0 ⟨by (repeat' (first | exact rfl | exact trivial | apply And.intro)), ⟨rfl, Nat.zero_le _, rfl⟩⟩ ?_
    rintro j X ⟨rfl, hj, hq⟩
    refine AWP_seq ?_
    refine AWP_region ?_
    refine st td_ok rfl rfl rfl rfl (r := .v _) rfl trivial ?_
    refine AOps_nil ?_
    refine qn ?_
    refine AWP_seq ?_
    refine AWP_cond rfl rfl (fun h1 => ?_) (fun h1 => ?_)
    ·
      refine AWP_skip ?_
      refine qn ?_
      refine AWP_seq ?_
      refine AWP_block ?_
      refine AWP_seq ?_
      refine AWP_region ?_
      refine st td_ok rfl rfl rfl rfl (r := .v _) rfl trivial ?_
      refine st td_ok rfl rfl rfl rfl (r := .v _) rfl trivial ?_
      refine AOps_nil ?_
      refine qn ?_
      refine AWP_seq ?_
      have hlt : j < l.length := Int.ofNat_lt.mp (of_decide_eq_true h1)
      have hst := tysEq_step hlt (show j < m.length by omega)
      refine AWP_drawn rfl rfl rfl rfl ?_
      refine es td_ok rfl rfl rfl (r := .sl _ _ _) rfl trivial (rfl) ?_
      refine es td_ok rfl rfl rfl (r := .v _) rfl trivial (rfl) ?_
      (refine es td_ok rfl rfl rfl (r := .pp _ _) rfl ?_ (rfl) ?_; · ((repeat' with_reducible apply And.intro) <;> (first | omega | (simp only [Ty.encs_len, Ty.enc_len, cond_true, cond_false, nd, Option.getD_none, Option.getD_some, Int.toNat_natCast, strs_len, nums_len, List.length_append, tds2, tds3, tds4, tds5, tds9, tds12, tds21, tds22, tds23, tds24, tds25, tds30, tds31, tds32, tds33, tds34, tds45, tds47, tds48, tds49, tds52, tds62, tds66, decide_eq_true_eq, Bool.and_eq_true, Bool.not_eq_true', decide_eq_false_iff_not] at *; omega))))
      (refine es td_ok rfl rfl rfl (r := _) rfl ?_ ((Ty.at_lt l j hlt _)) ?_; · ((repeat' with_reducible apply And.intro) <;> (simp only [Ty.encs_len, Ty.enc_len, cond_true, cond_false, nd, Option.getD_none, Option.getD_some, Int.toNat_natCast, strs_len, nums_len, List.length_append, tds2, tds3, tds4, tds5, tds9, tds12, tds21, tds22, tds23, tds24, tds25, tds30, tds31, tds32, tds33, tds34, tds45, tds47, tds48, tds49, tds52, tds62, tds66, decide_eq_true_eq, Bool.and_eq_true, Bool.not_eq_true', decide_eq_false_iff_not] at *; omega)))
      refine es td_ok rfl rfl rfl (r := .sl _ _ _) rfl trivial (rfl) ?_
      refine es td_ok rfl rfl rfl (r := .v _) rfl trivial (rfl) ?_
      (refine es td_ok rfl rfl rfl (r := .pp _ _) rfl ?_ (rfl) ?_; · ((repeat' with_reducible apply And.intro) <;> (first | omega | (simp only [Ty.encs_len, Ty.enc_len, cond_true, cond_false, nd, Option.getD_none, Option.getD_some, Int.toNat_natCast, strs_len, nums_len, List.length_append, tds2, tds3, tds4, tds5, tds9, tds12, tds21, tds22, tds23, tds24, tds25, tds30, tds31, tds32, tds33, tds34, tds45, tds47, tds48, tds49, tds52, tds62, tds66, decide_eq_true_eq, Bool.and_eq_true, Bool.not_eq_true', decide_eq_false_iff_not] at *; omega))))
      (refine es td_ok rfl rfl rfl (r := _) rfl ?_ ((Ty.at_lt m j (by omega) _)) ?_; · ((repeat' with_reducible apply And.intro) <;> (simp only [Ty.encs_len, Ty.enc_len, cond_true, cond_false, nd, Option.getD_none, Option.getD_some, Int.toNat_natCast, strs_len, nums_len, List.length_append, tds2, tds3, tds4, tds5, tds9, tds12, tds21, tds22, tds23, tds24, tds25, tds30, tds31, tds32, tds33, tds34, tds45, tds47, tds48, tds49, tds52, tds62, tds66, decide_eq_true_eq, Bool.and_eq_true, Bool.not_eq_true', decide_eq_false_iff_not] at *; omega)))
      refine es_call rfl rfl rfl rfl rfl rfl ⟨_, rfl, rfl, rfl⟩ (h j hlt _) ?_
      refine es td_ok rfl rfl rfl (r := .v _) rfl trivial (rfl) ?_
      refine AOps_nil ?_
      refine qn ?_
      refine AWP_cond rfl rfl (fun h2 => ?_) (fun h2 => ?_)
      ·
        refine AWP_seq ?_
        refine AWP_region ?_
        refine st td_ok rfl rfl rfl rfl (r := .v _) rfl trivial ?_
        refine AOps_nil ?_
        refine qn ?_
        refine AWP_ret ?_
        refine qbr ?_
        refine qr ?_
        refine qr ?_
        refine qbr ?_
        refine qr ?_
        refine ⟨_, _, _, _, rfl, trivial, GS.forget _ _, ?_⟩
        first | show AV.v _ = _ | show AV.tup _ = _ | show AV.sl _ _ _ = _ | show AV.agg _ = _ | skip
        rw [← hq, hst, show tyEq (l.getD j ty0) (m.getD j ty0) = false by simpa using h2]; rfl
      ·
        refine AWP_skip ?_
        refine qbn ?_
        refine qn ?_
        refine AWP_region ?_
        refine st_eq td_ok rfl rfl rfl rfl (r := .v _) rfl trivial (w64 (by omega)) ?_
        refine st td_ok rfl rfl rfl rfl (r := .v _) rfl trivial ?_
        refine AOps_nil ?_
        refine qn ?_
        exact ⟨j + 1, by omega, by (repeat' (first | exact rfl | exact trivial | apply And.intro)), rfl, by omega, by rw [← hq, hst, show tyEq (l.getD j ty0) (m.getD j ty0) = true by simpa using h2]; rfl⟩
    ·
      refine AWP_exit ?_
      refine qx ?_
      refine qx ?_
      refine qbh ?_
      refine qn ?_
      refine AWP_seq ?_
      refine AWP_region ?_
      refine st td_ok rfl rfl rfl rfl (r := .v _) rfl trivial ?_
      refine AOps_nil ?_
      refine qn ?_
      refine AWP_ret ?_
      refine ⟨_, _, _, _, rfl, trivial, GS.forget _ _, ?_⟩
      first | show AV.v _ = _ | show AV.tup _ = _ | show AV.sl _ _ _ = _ | show AV.agg _ = _ | skip
      rw [← hq, List.drop_of_length_le (show l.length ≤ j by simp only [decide_eq_false_iff_not] at h1; omega), List.drop_of_length_le (show m.length ≤ j by simp only [decide_eq_false_iff_not] at h1; omega)]; rfl
theorem SameType_c (m : Nat) : ∀ (t u : Ty), t.size < m → t.size ≤ 1000000000 → PCalls Try.prog 13 [.agg t.enc, .agg u.enc] (.v (.bool (tyEq t u))) := by
  induction m with
  | zero => intro t u h; omega
  | succ m ih =>
    rintro ⟨k, n, l⟩ ⟨k', n', l'⟩ hsz hs
    simp only [Ty.size] at hs
    have hll := Ty.sizes_len l
    refine calls_body td_ok Try.func13 rfl rfl rfl ?_
    refine AWP_seq ?_
    refine AWP_region ?_
    refine st_box td_ok rfl rfl rfl rfl rfl rfl (by ((repeat' with_reducible apply And.intro) <;> exact rfl)) fun r2 hr2 => ?_
    refine st_box td_ok rfl rfl rfl rfl rfl rfl (by ((repeat' with_reducible apply And.intro) <;> exact rfl)) fun r3 hr3 => ?_
    refine st td_ok rfl rfl rfl rfl (r := .v _) rfl trivial ?_
    refine AOps_nil ?_
    refine qn ?_
    refine AWP_seq ?_
    refine AWP_region ?_
    refine st td_ok rfl rfl rfl rfl (r := .v _) rfl trivial ?_
    refine st_own (r := .v _) td_ok rfl rfl rfl rfl rfl rfl rfl (XH.put_ne (by (first | assumption | exact Ne.symm (by assumption) | (intro h; simp [XH.put, h] at *; done))) XH.put_same) (Nat.le_of_ble_eq_true rfl) rfl  ?_
    refine st td_ok rfl rfl rfl rfl (r := .v _) rfl trivial ?_
    refine st_own (r := .v _) td_ok rfl rfl rfl rfl rfl rfl rfl XH.put_same (Nat.le_of_ble_eq_true rfl) rfl  ?_
    refine st td_ok rfl rfl rfl rfl (r := .v _) rfl trivial ?_
    refine st td_ok rfl rfl rfl rfl (r := .v _) rfl trivial ?_
    (refine sgk0 td_ok rfl rfl rfl rfl rfl rfl (r := .v _) rfl ?_ ?_; · exact fun hg => ⟨by (repeat' (first | exact trivial | exact hg | exact (Bool.and_eq_true_iff.mp hg).1 | apply And.intro)), by exact trivial⟩)
    refine sgk_own (r := .v _) td_ok rfl rfl rfl rfl rfl rfl rfl rfl rfl (XH.put_ne (by (first | assumption | exact Ne.symm (by assumption) | (intro h; simp [XH.put, h] at *; done))) XH.put_same) (fun hg => by (repeat' (first | exact trivial | exact hg | exact (Bool.and_eq_true_iff.mp hg).1 | apply And.intro))) (Nat.le_of_ble_eq_true rfl) rfl ?_
    (refine sgk0 td_ok rfl rfl rfl rfl rfl rfl (r := .v _) rfl ?_ ?_; · exact fun hg => ⟨by (repeat' (first | exact trivial | exact hg | exact (Bool.and_eq_true_iff.mp hg).1 | apply And.intro)), by exact trivial⟩)
    refine sgk_own (r := .v _) td_ok rfl rfl rfl rfl rfl rfl rfl rfl rfl XH.put_same (fun hg => by (repeat' (first | exact trivial | exact hg | exact (Bool.and_eq_true_iff.mp hg).1 | apply And.intro))) (Nat.le_of_ble_eq_true rfl) rfl ?_
    (refine sgk0 td_ok rfl rfl rfl rfl rfl rfl (r := .v _) rfl ?_ ?_; · exact fun hg => ⟨by (repeat' (first | exact trivial | exact hg | exact (Bool.and_eq_true_iff.mp hg).1 | apply And.intro)), by exact trivial⟩)
    (refine st td_ok rfl rfl rfl rfl (r := .v _) rfl ?_ ?_; · exact (fun h => h))
    refine st td_ok rfl rfl rfl rfl (r := .v _) rfl trivial ?_
    (refine sgk0 td_ok rfl rfl rfl rfl rfl rfl (r := .v _) rfl ?_ ?_; · exact fun hg => ⟨by (repeat' (first | exact trivial | exact hg | exact (Bool.and_eq_true_iff.mp hg).1 | apply And.intro)), by exact trivial⟩)
    refine sgk_own (r := .sl _ _ _) td_ok rfl rfl rfl rfl rfl rfl rfl rfl rfl (XH.put_ne (by (first | assumption | exact Ne.symm (by assumption) | (intro h; simp [XH.put, h] at *; done))) XH.put_same) (fun hg => by (repeat' (first | exact trivial | exact hg | exact (Bool.and_eq_true_iff.mp hg).1 | apply And.intro))) (Nat.le_of_ble_eq_true rfl) rfl ?_
    (refine sgk0 td_ok rfl rfl rfl rfl rfl rfl (r := .v _) rfl ?_ ?_; · exact fun hg => ⟨by (repeat' (first | exact trivial | exact hg | exact (Bool.and_eq_true_iff.mp hg).1 | apply And.intro)), by exact trivial⟩)
    refine sgk_own (r := .sl _ _ _) td_ok rfl rfl rfl rfl rfl rfl rfl rfl rfl XH.put_same (fun hg => by (repeat' (first | exact trivial | exact hg | exact (Bool.and_eq_true_iff.mp hg).1 | apply And.intro))) (Nat.le_of_ble_eq_true rfl) rfl ?_
    refine stg_call rfl rfl rfl rfl rfl rfl rfl rfl (fun hg => ⟨by (repeat' (first | exact trivial | exact hg | exact (Bool.and_eq_true_iff.mp hg).1 | apply And.intro)), rfl, ⟨_, rfl, rfl, rfl⟩, (SameTypes_of l l' (by omega) (fun j hj u => ih _ u (by have := Ty.kid_lt (k := k) (n := n) hj; omega) (by have := Ty.sizes_get l j hj; omega)) false false)⟩) ?_
    (refine st td_ok rfl rfl rfl rfl (r := .v _) rfl ?_ ?_; · exact (fun h => h))
    refine st td_ok rfl rfl rfl rfl (r := .v _) rfl trivial ?_
    refine AOps_nil ?_
    refine qn ?_
    refine AWP_ret ?_
    refine ⟨_, _, _, _, rfl, trivial, GS.forget _ _, ?_⟩
    first | show AV.v _ = _ | show AV.tup _ = _ | show AV.sl _ _ _ = _ | show AV.agg _ = _ | skip
    rfl
theorem SameTypes_c (l m : List Ty) (hs : Ty.sizes l ≤ 1000000000) (ta tb : Bool) : PCalls Try.prog 9 [.sl ta l.length (Ty.encs l), .sl tb m.length (Ty.encs m)] (.v (.bool (tysEq l m))) :=
  SameTypes_of l m (by have := Ty.sizes_len l; omega) (fun j hj u => SameType_c _ _ u (Nat.lt_succ_self _) (by have := Ty.sizes_get l j hj; omega)) ta tb
end Go.Proofs.Ytgnfjahkhhkmoaa.V
