import Derived.Test.YtgnfjahkhhkmoaaU3
namespace Go.Proofs.Ytgnfjahkhhkmoaa.V
open Go
set_option linter.unusedSimpArgs false
set_option linter.unusedVariables false

theorem clone_c (t : Ty) (hs : t.size ≤ 1000000000) : PCalls Try.prog 21 [.agg t.enc] (.agg t.enc) := by
  have hc := Subst_of [] true (by decide) (fun j hj => absurd hj (by simp)) _ t (Nat.lt_succ_self _) hs
  rw [substT_nil] at hc
  rcases t with ⟨k, nu, l⟩
  refine calls_body td_ok Try.func21 rfl rfl rfl ?_
  refine AWP_seq ?_
  refine AWP_region ?_
  refine st_box td_ok rfl rfl rfl rfl rfl rfl (by ((repeat' with_reducible apply And.intro) <;> exact rfl)) fun r1 hr1 => ?_
  refine st_alloc td_ok rfl rfl rfl rfl rfl rfl (zs := [.v _, .v _, _]) rfl fun r2 hr2 => ?_
  refine AOps_nil ?_
  refine qn ?_
  refine AWP_seq ?_
  refine AWP_region ?_
  refine st_own (r := .agg [.v _, .v _, _]) td_ok rfl rfl rfl rfl rfl rfl rfl (XH.put_ne (by (first | assumption | exact Ne.symm (by assumption) | (intro h; simp [XH.put, h] at *; done))) XH.put_same) (Nat.le_of_ble_eq_true rfl) rfl  ?_
  refine st_pcall rfl rfl rfl rfl rfl rfl rfl ⟨_, rfl, rfl, rfl⟩ hc ?_
  refine st_store td_ok rfl rfl rfl rfl rfl rfl XH.put_same rfl (by ((repeat' with_reducible apply And.intro) <;> exact rfl)) (Nat.le_of_ble_eq_true rfl) (cs' := [.v _, .v _, _]) (T' := 25) rfl rfl ?_
  refine AOps_nil ?_
  refine qn ?_
  refine AWP_ret ?_
  refine ⟨_, _, _, _, (rv1_own (r := .agg [.v _, .v _, _]) rfl rfl XH.put_same rfl), (by ((repeat' with_reducible apply And.intro) <;> exact Nat.le_of_ble_eq_true rfl)), GS.forget _ _, ?_⟩
  first | show AV.v _ = _ | show AV.tup _ = _ | show AV.sl _ _ _ = _ | show AV.agg _ = _ | skip
  rfl
theorem Subst_c (t : Ty) (sg : List Ty) (ta : Bool) (hs : t.size ≤ 1000000000) (hg : Ty.sizes sg ≤ 1000000000) : PCalls Try.prog 14 [.agg t.enc, .sl ta sg.length (Ty.encs sg)] (.agg (substT t sg).enc) :=
  Subst_of sg ta (by have := Ty.sizes_len sg; omega) (fun j hj => clone_c _ (by have := Ty.sizes_get sg j hj; omega)) _ t (Nat.lt_succ_self _) hs
theorem copied_c (m : Nat) : ∀ (t : Ty), t.size < m → t.size ≤ 1000000000 → PCalls Try.prog 24 [.agg t.enc] (.agg t.enc) := by
  induction m with
  | zero => intro t h; omega
  | succ m ih =>
    rintro ⟨k, nu, l⟩ hsz hs
    simp only [Ty.size] at hs
    have hll := Ty.sizes_len l
    refine calls_body td_ok Try.func24 rfl rfl rfl ?_
    refine AWP_seq ?_
    refine AWP_region ?_
    refine st_box td_ok rfl rfl rfl rfl rfl rfl (by ((repeat' with_reducible apply And.intro) <;> exact rfl)) fun r1 hr1 => ?_
    refine st_alloc td_ok rfl rfl rfl rfl rfl rfl (zs := [.v _, .v _, _]) rfl fun r2 hr2 => ?_
    refine AOps_nil ?_
    refine qn ?_
    refine AWP_seq ?_
    have hne := (XH.put_none hr2).1
    refine AWP_region ?_
    refine st td_ok rfl rfl rfl rfl (r := .v _) rfl trivial ?_
    refine st_own (r := .v _) td_ok rfl rfl rfl rfl rfl rfl rfl (XH.put_ne (by (first | assumption | exact Ne.symm (by assumption) | (intro h; simp [XH.put, h] at *; done))) XH.put_same) (Nat.le_of_ble_eq_true rfl) rfl  ?_
    refine st td_ok rfl rfl rfl rfl (r := .v _) rfl trivial ?_
    refine st_own (r := .v _) td_ok rfl rfl rfl rfl rfl rfl rfl (XH.put_ne (by (first | assumption | exact Ne.symm (by assumption) | (intro h; simp [XH.put, h] at *; done))) XH.put_same) (Nat.le_of_ble_eq_true rfl) rfl  ?_
    (refine st td_ok rfl rfl rfl rfl (r := .agg [.v _, .v _, _]) rfl ?_ ?_; · ((repeat' with_reducible apply And.intro) <;> (first | with_reducible exact trivial | exact rfl | exact Nat.le_of_ble_eq_true rfl)))
    refine st_alloc td_ok rfl rfl rfl rfl rfl rfl (zs := [.v _, .v _, _]) rfl fun r3 hr3 => ?_
    refine st_store td_ok rfl rfl rfl rfl rfl rfl XH.put_same rfl (by ((repeat' with_reducible apply And.intro) <;> exact rfl)) (Nat.le_of_ble_eq_true rfl) (cs' := [.v _, .v _, _]) (T' := 25) rfl rfl ?_
    refine AOps_nil ?_
    refine qn ?_
    refine AWP_seq ?_
    refine AWP_seq ?_
    obtain ⟨h32, hx⟩ := XH.put_none hr3
    have h31 := (XH.put_none hx).1
    refine AWP_region ?_
    refine st td_ok rfl rfl rfl rfl (r := .v _) rfl trivial ?_
    refine AOps_nil ?_
    refine qn ?_
    refine AWP_block ?_
    refine AWP_for (fun (x : Nat × AV) => [(1, .v (.pointer (some ⟨r1, 0, none⟩))), (2, .v (.pointer (some ⟨r2, 0, none⟩))), (3, .v (.pointer (some ⟨r3, 0, none⟩))), (4, .v (.int .i64 x.1))]) (fun x X => x.1 ≤ l.length ∧ Own X 25 3 x.2 x.1 (Ty.encs (l.take x.1)) ∧ X r1 = some ⟨25, (Ty.mk k nu l).enc⟩ ∧ X r2 = some ⟨25, [.v (.int .i64 0), .v (.int .i64 0), .sl true 0 []]⟩ ∧ X r3 = some ⟨25, [.v (.int .i64 k), .v (.int .i64 nu), x.2]⟩ ∧ ¬ x.2.at? r1 ∧ ¬ x.2.at? r2 ∧ ¬ x.2.at? r3) (fun x => l.length - x.1) (0, .sl true 0 []) ⟨by (repeat' (first | exact rfl | exact trivial | apply And.intro)), ⟨Nat.zero_le _, Own.nil _ _ _, XH.put_ne h31.symm (XH.put_ne h31.symm (XH.put_ne hne.symm XH.put_same)), XH.put_ne h32.symm (XH.put_ne h32.symm XH.put_same), XH.put_same, fun h => h, fun h => h, fun h => h⟩⟩ ?_
    rintro x X ⟨hx1, hown, hr1', hr2', hr3', hn1, hn2, hn3⟩
    refine AWP_seq ?_
    refine AWP_seq ?_
    refine AWP_region ?_
    refine st td_ok rfl rfl rfl rfl (r := .v _) rfl trivial ?_
    refine st td_ok rfl rfl rfl rfl (r := .v _) rfl trivial ?_
    refine st_own (r := .sl _ _ _) td_ok rfl rfl rfl rfl rfl rfl rfl (by assumption) (Nat.le_of_ble_eq_true rfl) rfl  ?_
    refine st td_ok rfl rfl rfl rfl (r := .v _) rfl trivial ?_
    refine st td_ok rfl rfl rfl rfl (r := .v _) rfl trivial ?_
    refine AOps_nil ?_
    refine qn ?_
    refine AWP_cond rfl rfl (fun h0 => ?_) (fun h0 => ?_)
    ·
      refine AWP_skip ?_
      refine qn ?_
      refine AWP_seq ?_
      refine AWP_block ?_
      have hlt : x.1 < l.length := Int.ofNat_lt.mp (of_decide_eq_true h0)
      have hk := Ty.sizes_get l x.1 hlt
      have hst := Ty.take_get hlt
      obtain ⟨⟨k2, n2, l2⟩, hel⟩ : ∃ t, l.getD x.1 ty0 = t := ⟨_, rfl⟩
      rw [hel] at hk hst
      have hc7 := ih (Ty.mk k2 n2 l2) (by simp only [Ty.size] at hsz hk ⊢; omega) (by omega)
      refine AWP_par rfl td_ok [(0, .D), (2, .D), (3, .D), (4, .D), (5, .D), (6, .D), (7, .D), (8, .D), (10, .D), (1, .W), (9, .W), (11, .W)] [(3, fun X' => X' r1 = some ⟨25, (Ty.mk k nu l).enc⟩)] rfl rfl rfl rfl ?_
      refine gs td_ok rfl rfl rfl (r := .v _) (fun _ _ => rfl) trivial trivial (rfl) ?_
      refine gs td_ok rfl rfl rfl (r := .v _) (fun _ _ => rfl) trivial trivial (rfl) ?_
      refine gs_own (r := .sl _ _ _) td_ok rfl rfl rfl rfl rfl rfl (fun X' hX' => hX') (by first | assumption | exact XH.put_same | exact XH.put_ne (by assumption) (by assumption)) (Nat.le_of_ble_eq_true rfl) rfl ?_
      refine gs td_ok rfl rfl rfl (r := .v _) (fun _ _ => rfl) trivial trivial (rfl) ?_
      (refine gs td_ok rfl rfl rfl (r := .pp _ _) (fun _ _ => rfl) trivial ?_ (rfl) ?_; · ((repeat' with_reducible apply And.intro) <;> (first | omega | (simp only [Ty.encs_len, Ty.enc_len, cond_true, cond_false, nd, Option.getD_none, Option.getD_some, Int.toNat_natCast, strs_len, nums_len, List.length_append, tds2, tds3, tds4, tds5, tds9, tds12, tds21, tds22, tds23, tds24, tds25, tds30, tds31, tds32, tds33, tds34, tds45, tds47, tds48, tds49, tds52, tds62, tds66, decide_eq_true_eq, Bool.and_eq_true, Bool.not_eq_true', decide_eq_false_iff_not] at *; omega))))
      (refine gs td_ok rfl rfl rfl (r := _) (fun _ _ => rfl) trivial ?_ ((show _ = AV.agg (Ty.mk k2 n2 l2).enc from (Ty.at_lt l x.1 hlt _).trans (by rw [hel]))) ?_; · ((repeat' with_reducible apply And.intro) <;> (simp only [Ty.encs_len, Ty.enc_len, cond_true, cond_false, nd, Option.getD_none, Option.getD_some, Int.toNat_natCast, strs_len, nums_len, List.length_append, tds2, tds3, tds4, tds5, tds9, tds12, tds21, tds22, tds23, tds24, tds25, tds30, tds31, tds32, tds33, tds34, tds45, tds47, tds48, tds49, tds52, tds62, tds66, decide_eq_true_eq, Bool.and_eq_true, Bool.not_eq_true', decide_eq_false_iff_not] at *; omega)))
      refine gs_pcall rfl rfl rfl rfl rfl rfl ⟨_, rfl, rfl, rfl⟩ trivial hc7 ?_
      refine gs_lit td_ok rfl rfl rfl  rfl rfl rfl rfl rfl (by decide) (cs := [.v _, .v _, _]) rfl (by ((repeat' with_reducible apply And.intro) <;> (first | with_reducible exact trivial | exact rfl))) trivial ?_
      refine gs td_ok rfl rfl rfl (r := .v _) (fun _ _ => rfl) trivial trivial (rfl) ?_
      refine gs_ownW (r := x.2) td_ok rfl rfl rfl rfl rfl rfl (by assumption) (Nat.le_of_ble_eq_true rfl) rfl (by repeat (first | exact trivial | refine ⟨?_, ?_⟩ | exact fun h => h)) ?_
      refine gs_append td_ok rfl rfl rfl rfl rfl rfl rfl rfl rfl (.inl ⟨_, rfl⟩) (by decide) hown rfl rfl rfl (by show (x.1 + 1) * 40 ≤ _; omega) fun a26 X26 ho26 hr26 ha26 => ⟨(by repeat (first | exact trivial | refine ⟨?_, ?_⟩ | exact fun h => h)), ?_⟩
      refine gs_store td_ok rfl rfl rfl rfl rfl (hr26 r3 _ hr3' hn3) rfl ⟨rfl, Own.one ho26⟩ (Nat.le_of_ble_eq_true rfl) (cs' := [.v _, .v _, _]) (T' := 25) rfl rfl (by repeat (first | exact trivial | refine ⟨?_, ?_⟩ | exact fun h => h)) ?_
      refine gs_nil ?_
      refine qbn ?_
      refine qn ?_
      refine AWP_region ?_
      refine st td_ok rfl rfl rfl rfl (r := .v _) rfl trivial ?_
      refine st_eq td_ok rfl rfl rfl rfl (r := .v _) rfl trivial (w64 (by omega)) ?_
      refine st td_ok rfl rfl rfl rfl (r := .v _) rfl trivial ?_
      refine AOps_nil ?_
      refine qn ?_
      have hat : ∀ q o, X q = some o → ¬ x.2.at? q → ¬ a26.at? q := by
        intro q o hq hn hc
        rcases ha26 q hc with h | h
        · rw [hq] at h; exact absurd h (by simp)
        · exact hn h
      refine ⟨(x.1 + 1, a26), by dsimp only; omega, by (repeat' (first | exact rfl | exact trivial | apply And.intro)), by dsimp only; omega, ?_, XH.put_ne h31.symm (hr26 r1 _ hr1' hn1), XH.put_ne h32.symm (hr26 r2 _ hr2' hn2), XH.put_same, hat r1 _ hr1' hn1, hat r2 _ hr2' hn2, hat r3 _ hr3' hn3⟩
      dsimp only
      rw [hst, Ty.encs_app, Ty.encs_one]
      exact Own.put ho26 (hat r3 _ hr3' hn3)
    ·
      refine AWP_exit ?_
      refine qx ?_
      refine qx ?_
      refine qbh ?_
      refine qn ?_
      refine AWP_seq ?_
      refine AWP_region ?_
      refine st_own (r := .agg [.v _, .v _, _]) td_ok rfl rfl rfl rfl rfl rfl rfl (by assumption) (Nat.le_of_ble_eq_true rfl) rfl  ?_
      refine st_store td_ok rfl rfl rfl rfl rfl rfl (by assumption) rfl (by refine ⟨rfl, ?_⟩; show (true && (true && (AV.one x.2 && true))) = true; rw [Own.one hown]; rfl) (Nat.le_of_ble_eq_true rfl) (cs' := [.v _, .v _, _]) (T' := 25) rfl rfl ?_
      refine AOps_nil ?_
      refine qn ?_
      refine AWP_ret ?_
      obtain ⟨X', hgs, _⟩ := GS.give (Own.put (o := ⟨25, [.v (.int .i64 k), .v (.int .i64 nu), x.2]⟩) hown hn2) [.v (.int .i64 k), .v (.int .i64 nu)] []
      refine ⟨_, _, _, _, (rv1_own (r := .agg [.v _, .v _, _]) rfl rfl XH.put_same rfl), (by ((repeat' with_reducible apply And.intro) <;> exact Nat.le_of_ble_eq_true rfl)), (GS.agg hgs), ?_⟩
      first | show AV.v _ = _ | show AV.tup _ = _ | show AV.sl _ _ _ = _ | show AV.agg _ = _ | skip
      have e1 : l.take x.1 = l := List.take_of_length_le (by simp only [decide_eq_false_iff_not] at h0; omega)
      have e2 : x.1 = l.length := by simp only [decide_eq_false_iff_not] at h0; omega
      rw [e1, e2]
      rfl
theorem rSubst_c (sg : List Ty) (ta : Bool) (hla : Ty.sizes sg ≤ 1000000000) (m : Nat) : ∀ (t : Ty), t.size < m → t.size ≤ 1000000000 → PCalls Try.prog 19 [.agg t.enc, .sl ta sg.length (Ty.encs sg)] (.agg (substT t sg).enc) := by
  induction m with
  | zero => intro t h; omega
  | succ m ih =>
    rintro ⟨k, nu, l⟩ hsz hs
    simp only [Ty.size] at hs
    have hll := Ty.sizes_len l
    refine calls_body td_ok Try.func19 rfl rfl rfl ?_
    refine AWP_seq ?_
    refine AWP_region ?_
    refine st_box td_ok rfl rfl rfl rfl rfl rfl (by ((repeat' with_reducible apply And.intro) <;> exact rfl)) fun r2 hr2 => ?_
    refine st_alloc td_ok rfl rfl rfl rfl rfl rfl (zs := [.v _, .v _, _]) rfl fun r4 hr4 => ?_
    refine AOps_nil ?_
    refine qn ?_
    refine AWP_seq ?_
    refine AWP_seq ?_
    have hne := (XH.put_none hr4).1
    refine AWP_region ?_
    refine st td_ok rfl rfl rfl rfl (r := .v _) rfl trivial ?_
    refine st_own (r := .v _) td_ok rfl rfl rfl rfl rfl rfl rfl (XH.put_ne (by (first | assumption | exact Ne.symm (by assumption) | (intro h; simp [XH.put, h] at *; done))) XH.put_same) (Nat.le_of_ble_eq_true rfl) rfl  ?_
    refine st td_ok rfl rfl rfl rfl (r := .v _) rfl trivial ?_
    refine st td_ok rfl rfl rfl rfl (r := .v _) rfl trivial ?_
    (refine sgk0 td_ok rfl rfl rfl rfl rfl rfl (r := .v _) rfl ?_ ?_; · exact fun hg => ⟨by (repeat' (first | exact trivial | exact hg | exact (Bool.and_eq_true_iff.mp hg).1 | apply And.intro)), by exact trivial⟩)
    refine sgk_own (r := .v _) td_ok rfl rfl rfl rfl rfl rfl rfl rfl rfl (XH.put_ne (by (first | assumption | exact Ne.symm (by assumption) | (intro h; simp [XH.put, h] at *; done))) XH.put_same) (fun hg => by (repeat' (first | exact trivial | exact hg | exact (Bool.and_eq_true_iff.mp hg).1 | apply And.intro))) (Nat.le_of_ble_eq_true rfl) rfl ?_
    (refine sgk0 td_ok rfl rfl rfl rfl rfl rfl (r := .v _) rfl ?_ ?_; · exact fun hg => ⟨by (repeat' (first | exact trivial | exact hg | exact (Bool.and_eq_true_iff.mp hg).1 | apply And.intro)), by exact trivial⟩)
    (refine st td_ok rfl rfl rfl rfl (r := .v _) rfl ?_ ?_; · exact (fun h => h))
    refine st td_ok rfl rfl rfl rfl (r := .v _) rfl trivial ?_
    (refine sgk0 td_ok rfl rfl rfl rfl rfl rfl (r := .v _) rfl ?_ ?_; · exact fun hg => ⟨by (repeat' (first | exact trivial | exact hg | exact (Bool.and_eq_true_iff.mp hg).1 | apply And.intro)), by exact trivial⟩)
    refine sgk_own (r := .v _) td_ok rfl rfl rfl rfl rfl rfl rfl rfl rfl (XH.put_ne (by (first | assumption | exact Ne.symm (by assumption) | (intro h; simp [XH.put, h] at *; done))) XH.put_same) (fun hg => by (repeat' (first | exact trivial | exact hg | exact (Bool.and_eq_true_iff.mp hg).1 | apply And.intro))) (Nat.le_of_ble_eq_true rfl) rfl ?_
    (refine sgk0 td_ok rfl rfl rfl rfl rfl rfl (r := .sl _ _ _) rfl ?_ ?_; · exact fun hg => ⟨by (repeat' (first | exact trivial | exact hg | exact (Bool.and_eq_true_iff.mp hg).1 | apply And.intro)), by exact trivial⟩)
    (refine sgk0 td_ok rfl rfl rfl rfl rfl rfl (r := .v _) rfl ?_ ?_; · exact fun hg => ⟨by (repeat' (first | exact trivial | exact hg | exact (Bool.and_eq_true_iff.mp hg).1 | apply And.intro)), by exact trivial⟩)
    (refine sgk0 td_ok rfl rfl rfl rfl rfl rfl (r := .v _) rfl ?_ ?_; · exact fun hg => ⟨by (repeat' (first | exact trivial | exact hg | exact (Bool.and_eq_true_iff.mp hg).1 | apply And.intro)), by exact trivial⟩)
    (refine st td_ok rfl rfl rfl rfl (r := .v _) rfl ?_ ?_; · exact (fun h => h))
    refine AOps_nil ?_
    refine qn ?_
    refine AWP_cond rfl rfl (fun h0 => ?_) (fun h0 => ?_)
    ·
      have h0' : subK k nu sg.length = true := h0
      obtain ⟨hq, hq3⟩ := bif_t h0
      obtain ⟨hq1, hq2⟩ := bif_t hq
      simp only [decide_eq_true_eq] at hq3 hq2
      have hlt : nu.toNat < sg.length := by omega
      have hc2 := copied_c _ (sg.getD nu.toNat ty0) (Nat.lt_succ_self _) (by have := Ty.sizes_get sg _ hlt; omega)
      obtain ⟨⟨k3, n3, l3⟩, he⟩ : ∃ t, sg.getD nu.toNat ty0 = t := ⟨_, rfl⟩
      rw [he] at hc2
      refine AWP_seq ?_
      refine AWP_region ?_
      refine st td_ok rfl rfl rfl rfl (r := .sl _ _ _) rfl trivial ?_
      refine st td_ok rfl rfl rfl rfl (r := .v _) rfl trivial ?_
      refine st_own (r := .v _) td_ok rfl rfl rfl rfl rfl rfl rfl (XH.put_ne (by (first | assumption | exact Ne.symm (by assumption) | (intro h; simp [XH.put, h] at *; done))) XH.put_same) (Nat.le_of_ble_eq_true rfl) rfl  ?_
      (refine st td_ok rfl rfl rfl rfl (r := .pp _ _) rfl ?_ ?_; · ((repeat' with_reducible apply And.intro) <;> (first | with_reducible assumption | (simp only [Ty.encs_len, Ty.enc_len, cond_true, cond_false, nd, Option.getD_none, Option.getD_some, Int.toNat_natCast, strs_len, nums_len, List.length_append, tds2, tds3, tds4, tds5, tds9, tds12, tds21, tds22, tds23, tds24, tds25, tds30, tds31, tds32, tds33, tds34, tds45, tds47, tds48, tds49, tds52, tds62, tds66, decide_eq_true_eq, Bool.and_eq_true, Bool.not_eq_true', decide_eq_false_iff_not] at *; omega))))
      (refine st_eq td_ok rfl rfl rfl rfl (r := _) rfl ?_ ((show _ = AV.agg (Ty.mk k3 n3 l3).enc from (Ty.at_lt sg nu.toNat hlt _).trans (by rw [he]))) ?_; · ((repeat' with_reducible apply And.intro) <;> (simp only [Ty.encs_len, Ty.enc_len, cond_true, cond_false, nd, Option.getD_none, Option.getD_some, Int.toNat_natCast, strs_len, nums_len, List.length_append, tds2, tds3, tds4, tds5, tds9, tds12, tds21, tds22, tds23, tds24, tds25, tds30, tds31, tds32, tds33, tds34, tds45, tds47, tds48, tds49, tds52, tds62, tds66, decide_eq_true_eq, Bool.and_eq_true, Bool.not_eq_true', decide_eq_false_iff_not] at *; omega)))
      refine st_pcall rfl rfl rfl rfl rfl rfl rfl ⟨_, rfl, rfl, rfl⟩ hc2 ?_
      refine st_store td_ok rfl rfl rfl rfl rfl rfl XH.put_same rfl (by ((repeat' with_reducible apply And.intro) <;> exact rfl)) (Nat.le_of_ble_eq_true rfl) (cs' := [.v _, .v _, _]) (T' := 25) rfl rfl ?_
      refine AOps_nil ?_
      refine qn ?_
      refine AWP_ret ?_
      refine qr ?_
      refine ⟨_, _, _, _, (rv1_own (r := .agg [.v _, .v _, _]) rfl rfl XH.put_same rfl), (by ((repeat' with_reducible apply And.intro) <;> exact Nat.le_of_ble_eq_true rfl)), GS.forget _ _, ?_⟩
      first | show AV.v _ = _ | show AV.tup _ = _ | show AV.sl _ _ _ = _ | show AV.agg _ = _ | skip
      have e : substT (Ty.mk k nu l) sg = Ty.mk k3 n3 l3 := by simp only [substT]; rw [if_pos h0', he]
      rw [e]; rfl
    ·
      have h0' : subK k nu sg.length = false := h0
      refine AWP_skip ?_
      refine qn ?_
      refine AWP_seq ?_
      refine AWP_region ?_
      refine st td_ok rfl rfl rfl rfl (r := .v _) rfl trivial ?_
      refine st_own (r := .v _) td_ok rfl rfl rfl rfl rfl rfl rfl (XH.put_ne (by (first | assumption | exact Ne.symm (by assumption) | (intro h; simp [XH.put, h] at *; done))) XH.put_same) (Nat.le_of_ble_eq_true rfl) rfl  ?_
      refine st td_ok rfl rfl rfl rfl (r := .v _) rfl trivial ?_
      refine st_own (r := .v _) td_ok rfl rfl rfl rfl rfl rfl rfl (XH.put_ne (by (first | assumption | exact Ne.symm (by assumption) | (intro h; simp [XH.put, h] at *; done))) XH.put_same) (Nat.le_of_ble_eq_true rfl) rfl  ?_
      (refine st td_ok rfl rfl rfl rfl (r := .agg [.v _, .v _, _]) rfl ?_ ?_; · ((repeat' with_reducible apply And.intro) <;> (first | with_reducible exact trivial | exact rfl | exact Nat.le_of_ble_eq_true rfl)))
      refine st_alloc td_ok rfl rfl rfl rfl rfl rfl (zs := [.v _, .v _, _]) rfl fun r5 hr5 => ?_
      refine st_store td_ok rfl rfl rfl rfl rfl rfl XH.put_same rfl (by ((repeat' with_reducible apply And.intro) <;> exact rfl)) (Nat.le_of_ble_eq_true rfl) (cs' := [.v _, .v _, _]) (T' := 25) rfl rfl ?_
      refine AOps_nil ?_
      refine qn ?_
      refine AWP_seq ?_
      refine AWP_seq ?_
      obtain ⟨h54, hx⟩ := XH.put_none hr5
      have h52 := (XH.put_none hx).1
      refine AWP_region ?_
      refine st td_ok rfl rfl rfl rfl (r := .v _) rfl trivial ?_
      refine AOps_nil ?_
      refine qn ?_
      refine AWP_block ?_
      refine AWP_for (fun (x : Nat × AV) => [(1, .sl ta sg.length (Ty.encs sg)), (2, .v (.pointer (some ⟨r2, 0, none⟩))), (4, .v (.pointer (some ⟨r4, 0, none⟩))), (5, .v (.pointer (some ⟨r5, 0, none⟩))), (6, .v (.int .i64 x.1))]) (fun x X => x.1 ≤ l.length ∧ Own X 25 3 x.2 x.1 (Ty.encs (substs (l.take x.1) sg)) ∧ X r2 = some ⟨25, (Ty.mk k nu l).enc⟩ ∧ X r4 = some ⟨25, [.v (.int .i64 0), .v (.int .i64 0), .sl true 0 []]⟩ ∧ X r5 = some ⟨25, [.v (.int .i64 k), .v (.int .i64 nu), x.2]⟩ ∧ ¬ x.2.at? r2 ∧ ¬ x.2.at? r4 ∧ ¬ x.2.at? r5) (fun x => l.length - x.1) (0, .sl true 0 []) ⟨by (repeat' (first | exact rfl | exact trivial | apply And.intro)), ⟨Nat.zero_le _, Own.nil _ _ _, XH.put_ne h52.symm (XH.put_ne h52.symm (XH.put_ne hne.symm XH.put_same)), XH.put_ne h54.symm (XH.put_ne h54.symm XH.put_same), XH.put_same, fun h => h, fun h => h, fun h => h⟩⟩ ?_
      rintro x X ⟨hx1, hown, hr2', hr4', hr5', hn2, hn4, hn5⟩
      refine AWP_seq ?_
      refine AWP_seq ?_
      refine AWP_region ?_
      refine st td_ok rfl rfl rfl rfl (r := .v _) rfl trivial ?_
      refine st td_ok rfl rfl rfl rfl (r := .v _) rfl trivial ?_
      refine st_own (r := .sl _ _ _) td_ok rfl rfl rfl rfl rfl rfl rfl (by assumption) (Nat.le_of_ble_eq_true rfl) rfl  ?_
      refine st td_ok rfl rfl rfl rfl (r := .v _) rfl trivial ?_
      refine st td_ok rfl rfl rfl rfl (r := .v _) rfl trivial ?_
      refine AOps_nil ?_
      refine qn ?_
      refine AWP_cond rfl rfl (fun h1 => ?_) (fun h1 => ?_)
      ·
        refine AWP_skip ?_
        refine qn ?_
        refine AWP_seq ?_
        refine AWP_block ?_
        have hlt : x.1 < l.length := Int.ofNat_lt.mp (of_decide_eq_true h1)
        have hk := Ty.sizes_get l x.1 hlt
        have hst := substs_take (sg := sg) hlt
        obtain ⟨⟨k2, n2, l2⟩, hel⟩ : ∃ t, l.getD x.1 ty0 = t := ⟨_, rfl⟩
        rw [hel] at hk hst
        obtain ⟨⟨k4, n4, l4⟩, hs4⟩ : ∃ t, substT (Ty.mk k2 n2 l2) sg = t := ⟨_, rfl⟩
        have hc7 := ih (Ty.mk k2 n2 l2) (by simp only [Ty.size] at hsz hk ⊢; omega) (by omega)
        rw [hs4] at hc7 hst
        refine AWP_par rfl td_ok [(0, .D), (2, .D), (3, .D), (4, .D), (5, .D), (6, .D), (7, .D), (8, .D), (9, .D), (11, .D), (1, .W), (10, .W), (12, .W)] [(3, fun X' => X' r2 = some ⟨25, (Ty.mk k nu l).enc⟩)] rfl rfl rfl rfl ?_
        refine gs td_ok rfl rfl rfl (r := .v _) (fun _ _ => rfl) trivial trivial (rfl) ?_
        refine gs td_ok rfl rfl rfl (r := .v _) (fun _ _ => rfl) trivial trivial (rfl) ?_
        refine gs_own (r := .sl _ _ _) td_ok rfl rfl rfl rfl rfl rfl (fun X' hX' => hX') (by first | assumption | exact XH.put_same | exact XH.put_ne (by assumption) (by assumption)) (Nat.le_of_ble_eq_true rfl) rfl ?_
        refine gs td_ok rfl rfl rfl (r := .v _) (fun _ _ => rfl) trivial trivial (rfl) ?_
        (refine gs td_ok rfl rfl rfl (r := .pp _ _) (fun _ _ => rfl) trivial ?_ (rfl) ?_; · ((repeat' with_reducible apply And.intro) <;> (first | omega | (simp only [Ty.encs_len, Ty.enc_len, cond_true, cond_false, nd, Option.getD_none, Option.getD_some, Int.toNat_natCast, strs_len, nums_len, List.length_append, tds2, tds3, tds4, tds5, tds9, tds12, tds21, tds22, tds23, tds24, tds25, tds30, tds31, tds32, tds33, tds34, tds45, tds47, tds48, tds49, tds52, tds62, tds66, decide_eq_true_eq, Bool.and_eq_true, Bool.not_eq_true', decide_eq_false_iff_not] at *; omega))))
        (refine gs td_ok rfl rfl rfl (r := _) (fun _ _ => rfl) trivial ?_ ((show _ = AV.agg (Ty.mk k2 n2 l2).enc from (Ty.at_lt l x.1 hlt _).trans (by rw [hel]))) ?_; · ((repeat' with_reducible apply And.intro) <;> (simp only [Ty.encs_len, Ty.enc_len, cond_true, cond_false, nd, Option.getD_none, Option.getD_some, Int.toNat_natCast, strs_len, nums_len, List.length_append, tds2, tds3, tds4, tds5, tds9, tds12, tds21, tds22, tds23, tds24, tds25, tds30, tds31, tds32, tds33, tds34, tds45, tds47, tds48, tds49, tds52, tds62, tds66, decide_eq_true_eq, Bool.and_eq_true, Bool.not_eq_true', decide_eq_false_iff_not] at *; omega)))
        refine gs td_ok rfl rfl rfl (r := .sl _ _ _) (fun _ _ => rfl) trivial trivial (rfl) ?_
        refine gs_pcall rfl rfl rfl rfl rfl rfl ⟨_, rfl, rfl, rfl⟩ trivial hc7 ?_
        refine gs_lit td_ok rfl rfl rfl  rfl rfl rfl rfl rfl (by decide) (cs := [.v _, .v _, _]) rfl (by ((repeat' with_reducible apply And.intro) <;> (first | with_reducible exact trivial | exact rfl))) trivial ?_
        refine gs td_ok rfl rfl rfl (r := .v _) (fun _ _ => rfl) trivial trivial (rfl) ?_
        refine gs_ownW (r := x.2) td_ok rfl rfl rfl rfl rfl rfl (by assumption) (Nat.le_of_ble_eq_true rfl) rfl (by repeat (first | exact trivial | refine ⟨?_, ?_⟩ | exact fun h => h)) ?_
        refine gs_append td_ok rfl rfl rfl rfl rfl rfl rfl rfl rfl (.inl ⟨_, rfl⟩) (by decide) hown rfl rfl rfl (by show (x.1 + 1) * 40 ≤ _; omega) fun a50 X50 ho50 hr50 ha50 => ⟨(by repeat (first | exact trivial | refine ⟨?_, ?_⟩ | exact fun h => h)), ?_⟩
        refine gs_store td_ok rfl rfl rfl rfl rfl (hr50 r5 _ hr5' hn5) rfl ⟨rfl, Own.one ho50⟩ (Nat.le_of_ble_eq_true rfl) (cs' := [.v _, .v _, _]) (T' := 25) rfl rfl (by repeat (first | exact trivial | refine ⟨?_, ?_⟩ | exact fun h => h)) ?_
        refine gs_nil ?_
        refine qbn ?_
        refine qn ?_
        refine AWP_region ?_
        refine st td_ok rfl rfl rfl rfl (r := .v _) rfl trivial ?_
        refine st_eq td_ok rfl rfl rfl rfl (r := .v _) rfl trivial (w64 (by omega)) ?_
        refine st td_ok rfl rfl rfl rfl (r := .v _) rfl trivial ?_
        refine AOps_nil ?_
        refine qn ?_
        have hat : ∀ q o, X q = some o → ¬ x.2.at? q → ¬ a50.at? q := by
          intro q o hq hn hc
          rcases ha50 q hc with h | h
          · rw [hq] at h; exact absurd h (by simp)
          · exact hn h
        refine ⟨(x.1 + 1, a50), by dsimp only; omega, by (repeat' (first | exact rfl | exact trivial | apply And.intro)), by dsimp only; omega, ?_, XH.put_ne h52.symm (hr50 r2 _ hr2' hn2), XH.put_ne h54.symm (hr50 r4 _ hr4' hn4), XH.put_same, hat r2 _ hr2' hn2, hat r4 _ hr4' hn4, hat r5 _ hr5' hn5⟩
        dsimp only
        rw [hst, Ty.encs_app, Ty.encs_one]
        exact Own.put ho50 (hat r5 _ hr5' hn5)
      ·
        refine AWP_exit ?_
        refine qx ?_
        refine qx ?_
        refine qbh ?_
        refine qn ?_
        refine AWP_seq ?_
        refine AWP_region ?_
        refine st_own (r := .agg [.v _, .v _, _]) td_ok rfl rfl rfl rfl rfl rfl rfl (by assumption) (Nat.le_of_ble_eq_true rfl) rfl  ?_
        refine st_store td_ok rfl rfl rfl rfl rfl rfl (by assumption) rfl (by refine ⟨rfl, ?_⟩; show (true && (true && (AV.one x.2 && true))) = true; rw [Own.one hown]; rfl) (Nat.le_of_ble_eq_true rfl) (cs' := [.v _, .v _, _]) (T' := 25) rfl rfl ?_
        refine AOps_nil ?_
        refine qn ?_
        refine AWP_ret ?_
        obtain ⟨X', hgs, _⟩ := GS.give (Own.put (o := ⟨25, [.v (.int .i64 k), .v (.int .i64 nu), x.2]⟩) hown hn4) [.v (.int .i64 k), .v (.int .i64 nu)] []
        refine ⟨_, _, _, _, (rv1_own (r := .agg [.v _, .v _, _]) rfl rfl XH.put_same rfl), (by ((repeat' with_reducible apply And.intro) <;> exact Nat.le_of_ble_eq_true rfl)), (GS.agg hgs), ?_⟩
        first | show AV.v _ = _ | show AV.tup _ = _ | show AV.sl _ _ _ = _ | show AV.agg _ = _ | skip
        have e : substT (Ty.mk k nu l) sg = Ty.mk k nu (substs l sg) := by simp only [substT]; rw [if_neg (by rw [h0']; simp)]
        have e1 : l.take x.1 = l := List.take_of_length_le (by simp only [decide_eq_false_iff_not] at h1; omega)
        have e2 : x.1 = l.length := by simp only [decide_eq_false_iff_not] at h1; omega
        rw [e, e1, e2]
        simp only [Ty.enc, substs_len]; rfl
end Go.Proofs.Ytgnfjahkhhkmoaa.V
