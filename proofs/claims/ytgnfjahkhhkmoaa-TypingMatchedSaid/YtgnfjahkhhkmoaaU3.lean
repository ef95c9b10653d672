import Derived.Test.YtgnfjahkhhkmoaaU2
namespace Go.Proofs.Ytgnfjahkhhkmoaa.V
open Go
set_option linter.unusedSimpArgs false
set_option linter.unusedVariables false

theorem bif_t {a b : Bool} (h : (bif a then b else false) = true) : a = true ∧ b = true := by cases a <;> simp_all
theorem Ty.sizes_app : ∀ (l m : List Ty), Ty.sizes (l ++ m) = Ty.sizes l + Ty.sizes m
  | [], m => by simp [Ty.sizes]
  | t :: l, m => by simp only [List.cons_append, Ty.sizes, Ty.sizes_app l m]; omega
theorem Ty.take_get {l : List Ty} {j : Nat} (h : j < l.length) : l.take (j + 1) = l.take j ++ [l.getD j ty0] := by
  rw [List.take_add_one, List.getD_eq_getElem?_getD, List.getElem?_eq_getElem h]; rfl
theorem Ty.sizes_take {l : List Ty} {j : Nat} (h : j < l.length) : Ty.sizes (l.take (j + 1)) = Ty.sizes (l.take j) + (l.getD j ty0).size := by
  rw [Ty.take_get h, Ty.sizes_app]; simp [Ty.sizes]
theorem Ty.sizes_take_le (l : List Ty) (j : Nat) : Ty.sizes (l.take j) ≤ Ty.sizes l := by
  have := Ty.sizes_app (l.take j) (l.drop j)
  rw [List.take_append_drop] at this
  omega
theorem Ty.encs_app (l m : List Ty) : Ty.encs (l ++ m) = Ty.encs l ++ Ty.encs m := by rw [Ty.encs_flat, Ty.encs_flat, Ty.encs_flat, List.flatMap_append]
theorem Ty.encs_one (t : Ty) : Ty.encs [t] = t.enc := by simp [Ty.encs]
theorem size_c (m : Nat) : ∀ (t : Ty) (n : Int), t.size < m → t.size ≤ 1000000000 → 1 ≤ n → n ≤ 1000000000 → PCalls Try.prog 18 [.agg t.enc, .v (.int .i64 n)] (.v (.int .i64 (min (t.size : Int) n))) := by
  induction m with
  | zero => intro t n h; omega
  | succ m ih =>
    rintro ⟨k, nu, l⟩ n hsz hs h1 h2
    simp only [Ty.size] at hs
    have hll := Ty.sizes_len l
    refine calls_body td_ok Try.func18 rfl rfl rfl ?_
    refine AWP_seq ?_
    refine AWP_region ?_
    refine st_box td_ok rfl rfl rfl rfl rfl rfl (by ((repeat' with_reducible apply And.intro) <;> exact rfl)) fun r2 hr2 => ?_
    refine st td_ok rfl rfl rfl rfl (r := .v _) rfl trivial ?_
    refine AOps_nil ?_
    refine qn ?_
    refine AWP_seq ?_
    refine AWP_region ?_
    refine st td_ok rfl rfl rfl rfl (r := .v _) rfl trivial ?_
    refine AOps_nil ?_
    refine qn ?_
    refine AWP_seq ?_
    refine AWP_seq ?_
    refine AWP_region ?_
    refine st td_ok rfl rfl rfl rfl (r := .v _) rfl trivial ?_
    refine st_own (r := .sl _ _ _) td_ok rfl rfl rfl rfl rfl rfl rfl XH.put_same (Nat.le_of_ble_eq_true rfl) rfl  ?_
    refine st td_ok rfl rfl rfl rfl (r := .v _) rfl trivial ?_
    refine st td_ok rfl rfl rfl rfl (r := .v _) rfl trivial ?_
    refine AOps_nil ?_
    refine qn ?_
    refine AWP_block ?_
    refine AWP_for (fun (x : Nat × Int) => [(1, .v (.int .i64 n)), (5, .v (.int .i64 x.2)), (9, .sl false l.length (Ty.encs l)), (10, .v (.int .i64 l.length)), (11, .v (.int .i64 x.1))]) (fun x X => x.1 ≤ l.length ∧ x.2 = min (1 + (Ty.sizes (l.take x.1) : Int)) n) (fun x => l.length - x.1) (0, 1) ⟨by (repeat' (first | exact rfl | exact trivial | apply And.intro)), ⟨Nat.zero_le _, by simp [Ty.sizes]; omega⟩⟩ ?_
    rintro x X ⟨hx1, hx2⟩
    refine AWP_seq ?_
    refine AWP_region ?_
    refine st td_ok rfl rfl rfl rfl (r := .v _) rfl trivial ?_
    refine AOps_nil ?_
    refine qn ?_
    refine AWP_seq ?_
    refine AWP_cond rfl rfl (fun h0 => ?_) (fun h0 => ?_)
    ·
      refine AWP_skip ?_
      refine qn ?_
      refine AWP_seq ?_
      refine AWP_block ?_
      refine AWP_seq ?_
      have hlt : x.1 < l.length := Int.ofNat_lt.mp (of_decide_eq_true h0)
      have hk := Ty.sizes_get l x.1 hlt
      have hst := Ty.sizes_take hlt
      have hsl := Ty.sizes_take_le l (x.1 + 1)
      obtain ⟨⟨k2, n2, l2⟩, hel⟩ : ∃ t, l.getD x.1 ty0 = t := ⟨_, rfl⟩
      have hsp := (Ty.mk k2 n2 l2).size_pos
      rw [hel] at hk hst
      refine AWP_region ?_
      (refine st td_ok rfl rfl rfl rfl (r := .pp _ _) rfl ?_ ?_; · ((repeat' with_reducible apply And.intro) <;> (first | omega | (simp only [Ty.encs_len, Ty.enc_len, cond_true, cond_false, nd, Option.getD_none, Option.getD_some, Int.toNat_natCast, strs_len, nums_len, List.length_append, tds2, tds3, tds4, tds5, tds9, tds12, tds21, tds22, tds23, tds24, tds25, tds30, tds31, tds32, tds33, tds34, tds45, tds47, tds48, tds49, tds52, tds62, tds66, decide_eq_true_eq, Bool.and_eq_true, Bool.not_eq_true', decide_eq_false_iff_not] at *; omega))))
      (refine st_eq td_ok rfl rfl rfl rfl (r := _) rfl ?_ ((show _ = AV.agg (Ty.mk k2 n2 l2).enc from (Ty.at_lt l x.1 hlt _).trans (by rw [hel]))) ?_; · ((repeat' with_reducible apply And.intro) <;> (simp only [Ty.encs_len, Ty.enc_len, cond_true, cond_false, nd, Option.getD_none, Option.getD_some, Int.toNat_natCast, strs_len, nums_len, List.length_append, tds2, tds3, tds4, tds5, tds9, tds12, tds21, tds22, tds23, tds24, tds25, tds30, tds31, tds32, tds33, tds34, tds45, tds47, tds48, tds49, tds52, tds62, tds66, decide_eq_true_eq, Bool.and_eq_true, Bool.not_eq_true', decide_eq_false_iff_not] at *; omega)))
      refine st_alloc td_ok rfl rfl rfl rfl rfl rfl (zs := [.v _, .v _, _]) rfl fun r7 hr7 => ?_
      refine st_store td_ok rfl rfl rfl rfl rfl rfl XH.put_same rfl (by ((repeat' with_reducible apply And.intro) <;> exact rfl)) (Nat.le_of_ble_eq_true rfl) (cs' := [.v _, .v _, _]) (T' := 25) rfl rfl ?_
      refine AOps_nil ?_
      refine qn ?_
      refine AWP_seq ?_
      refine AWP_seq ?_
      refine AWP_region ?_
      refine st td_ok rfl rfl rfl rfl (r := .v _) rfl trivial ?_
      refine st td_ok rfl rfl rfl rfl (r := .v _) rfl trivial ?_
      refine st td_ok rfl rfl rfl rfl (r := .v _) rfl trivial ?_
      refine AOps_nil ?_
      refine qn ?_
      refine AWP_cond rfl rfl (fun h1 => ?_) (fun h1 => ?_)
      ·
        refine AWP_seq ?_
        refine AWP_region ?_
        refine st td_ok rfl rfl rfl rfl (r := .v _) rfl trivial ?_
        refine st td_ok rfl rfl rfl rfl (r := .v _) rfl trivial ?_
        refine AOps_nil ?_
        refine qn ?_
        refine AWP_ret ?_
        refine qr ?_
        refine qbr ?_
        refine qr ?_
        refine qr ?_
        refine qbr ?_
        refine qr ?_
        refine ⟨_, _, _, _, rfl, trivial, GS.forget _ _, ?_⟩
        first | show AV.v _ = _ | show AV.tup _ = _ | show AV.sl _ _ _ = _ | show AV.agg _ = _ | skip
        simp only [decide_eq_true_eq] at h1
        have := Ty.sizes_take_le l x.1
        have e : n = min ((Ty.mk k nu l).size : Int) n := by simp only [Ty.size]; omega
        rw [← e]
      ·
        have h1' : x.2 < n := by simpa using h1
        refine AWP_skip ?_
        refine qn ?_
        refine AWP_region ?_
        refine st td_ok rfl rfl rfl rfl (r := .v _) rfl trivial ?_
        refine st_own (r := .agg [.v _, .v _, _]) td_ok rfl rfl rfl rfl rfl rfl rfl XH.put_same (Nat.le_of_ble_eq_true rfl) rfl  ?_
        refine st td_ok rfl rfl rfl rfl (r := .v _) rfl trivial ?_
        refine st td_ok rfl rfl rfl rfl (r := .v _) rfl trivial ?_
        refine st_eq td_ok rfl rfl rfl rfl (r := .v _) rfl trivial (w64 (by omega)) ?_
        refine st_pcall rfl rfl rfl rfl rfl rfl rfl ⟨_, rfl, rfl, rfl⟩ (ih (Ty.mk k2 n2 l2) (n - x.2) (by simp only [Ty.size] at hsz; omega) (by omega) (by omega) (by omega)) ?_
        refine st_eq td_ok rfl rfl rfl rfl (r := .v _) rfl trivial (w64 (by omega)) ?_
        refine st td_ok rfl rfl rfl rfl (r := .v _) rfl trivial ?_
        refine AOps_nil ?_
        refine qbn ?_
        refine qn ?_
        refine AWP_region ?_
        refine st_eq td_ok rfl rfl rfl rfl (r := .v _) rfl trivial (w64 (by omega)) ?_
        refine st td_ok rfl rfl rfl rfl (r := .v _) rfl trivial ?_
        refine AOps_nil ?_
        refine qn ?_
        exact ⟨(x.1 + 1, x.2 + min ((Ty.mk k2 n2 l2).size : Int) (n - x.2)), by dsimp only; omega, by (repeat' (first | exact rfl | exact trivial | apply And.intro)), by dsimp only; omega, by dsimp only; omega⟩
    ·
      refine AWP_exit ?_
      refine qx ?_
      refine qx ?_
      refine qbh ?_
      refine qn ?_
      refine AWP_seq ?_
      refine AWP_region ?_
      refine st td_ok rfl rfl rfl rfl (r := .v _) rfl trivial ?_
      refine st td_ok rfl rfl rfl rfl (r := .v _) rfl trivial ?_
      refine st td_ok rfl rfl rfl rfl (r := .v _) rfl trivial ?_
      refine st td_ok rfl rfl rfl rfl (r := .v _) rfl trivial ?_
      refine AOps_nil ?_
      refine qn ?_
      refine AWP_ret ?_
      refine ⟨_, _, _, _, rfl, trivial, GS.forget _ _, ?_⟩
      first | show AV.v _ = _ | show AV.tup _ = _ | show AV.sl _ _ _ = _ | show AV.agg _ = _ | skip
      have e1 : l.take x.1 = l := List.take_of_length_le (by simp only [decide_eq_false_iff_not] at h0; omega)
      rw [e1] at hx2
      have e : (if n < x.2 then n else x.2) = min ((Ty.mk k nu l).size : Int) n := by simp only [Ty.size]; split <;> omega
      rw [e]
theorem Size_c (m : Nat) : ∀ (t : Ty), t.size < m → t.size ≤ 1000000000 → PCalls Try.prog 11 [.agg t.enc] (.v (.int .i64 (t.size : Int))) := by
  induction m with
  | zero => intro t h; omega
  | succ m ih =>
    rintro ⟨k, nu, l⟩ hsz hs
    simp only [Ty.size] at hs
    have hll := Ty.sizes_len l
    refine calls_body td_ok Try.func11 rfl rfl rfl ?_
    refine AWP_seq ?_
    refine AWP_region ?_
    refine st_box td_ok rfl rfl rfl rfl rfl rfl (by ((repeat' with_reducible apply And.intro) <;> exact rfl)) fun r1 hr1 => ?_
    refine st td_ok rfl rfl rfl rfl (r := .v _) rfl trivial ?_
    refine AOps_nil ?_
    refine qn ?_
    refine AWP_seq ?_
    refine AWP_region ?_
    refine st td_ok rfl rfl rfl rfl (r := .v _) rfl trivial ?_
    refine AOps_nil ?_
    refine qn ?_
    refine AWP_seq ?_
    refine AWP_seq ?_
    refine AWP_region ?_
    refine st td_ok rfl rfl rfl rfl (r := .v _) rfl trivial ?_
    refine AOps_nil ?_
    refine qn ?_
    refine AWP_block ?_
    refine AWP_for (fun (x : Nat × Int) => [(1, .v (.pointer (some ⟨r1, 0, none⟩))), (3, .v (.int .i64 x.2)), (4, .v (.int .i64 x.1))]) (fun x X => x.1 ≤ l.length ∧ x.2 = 1 + (Ty.sizes (l.take x.1) : Int) ∧ X r1 = some ⟨25, (Ty.mk k nu l).enc⟩) (fun x => l.length - x.1) (0, 1) ⟨by (repeat' (first | exact rfl | exact trivial | apply And.intro)), ⟨Nat.zero_le _, rfl, XH.put_same⟩⟩ ?_
    rintro x X ⟨hx1, hx2, hx3⟩
    refine AWP_seq ?_
    refine AWP_seq ?_
    refine AWP_region ?_
    refine st td_ok rfl rfl rfl rfl (r := .v _) rfl trivial ?_
    refine st td_ok rfl rfl rfl rfl (r := .v _) rfl trivial ?_
    refine st_own (r := .sl _ _ _) td_ok rfl rfl rfl rfl rfl rfl rfl (by assumption) (Nat.le_of_ble_eq_true rfl) rfl  ?_
    refine st td_ok rfl rfl rfl rfl (r := .v _) rfl trivial ?_
    refine st td_ok rfl rfl rfl rfl (r := .v _) rfl trivial ?_
    refine AOps_nil ?_
    refine qn ?_
    refine AWP_cond rfl rfl (fun h0 => ?_) (fun h0 => ?_)
    ·
      refine AWP_skip ?_
      refine qn ?_
      refine AWP_seq ?_
      refine AWP_block ?_
      have hlt : x.1 < l.length := Int.ofNat_lt.mp (of_decide_eq_true h0)
      have hk := Ty.sizes_get l x.1 hlt
      have hst := Ty.sizes_take hlt
      have hsl := Ty.sizes_take_le l (x.1 + 1)
      refine AWP_region ?_
      refine st td_ok rfl rfl rfl rfl (r := .v _) rfl trivial ?_
      refine st td_ok rfl rfl rfl rfl (r := .v _) rfl trivial ?_
      refine st_own (r := .sl _ _ _) td_ok rfl rfl rfl rfl rfl rfl rfl (by assumption) (Nat.le_of_ble_eq_true rfl) rfl  ?_
      refine st td_ok rfl rfl rfl rfl (r := .v _) rfl trivial ?_
      (refine st td_ok rfl rfl rfl rfl (r := .pp _ _) rfl ?_ ?_; · ((repeat' with_reducible apply And.intro) <;> (first | omega | (simp only [Ty.encs_len, Ty.enc_len, cond_true, cond_false, nd, Option.getD_none, Option.getD_some, Int.toNat_natCast, strs_len, nums_len, List.length_append, tds2, tds3, tds4, tds5, tds9, tds12, tds21, tds22, tds23, tds24, tds25, tds30, tds31, tds32, tds33, tds34, tds45, tds47, tds48, tds49, tds52, tds62, tds66, decide_eq_true_eq, Bool.and_eq_true, Bool.not_eq_true', decide_eq_false_iff_not] at *; omega))))
      (refine st_eq td_ok rfl rfl rfl rfl (r := _) rfl ?_ ((Ty.at_lt l x.1 hlt _)) ?_; · ((repeat' with_reducible apply And.intro) <;> (simp only [Ty.encs_len, Ty.enc_len, cond_true, cond_false, nd, Option.getD_none, Option.getD_some, Int.toNat_natCast, strs_len, nums_len, List.length_append, tds2, tds3, tds4, tds5, tds9, tds12, tds21, tds22, tds23, tds24, tds25, tds30, tds31, tds32, tds33, tds34, tds45, tds47, tds48, tds49, tds52, tds62, tds66, decide_eq_true_eq, Bool.and_eq_true, Bool.not_eq_true', decide_eq_false_iff_not] at *; omega)))
      refine st_pcall rfl rfl rfl rfl rfl rfl rfl ⟨_, rfl, rfl, rfl⟩ (ih (l.getD x.1 ty0) (by simp only [Ty.size] at hsz; omega) (by omega)) ?_
      refine st_eq td_ok rfl rfl rfl rfl (r := .v _) rfl trivial (w64 (by omega)) ?_
      refine st td_ok rfl rfl rfl rfl (r := .v _) rfl trivial ?_
      refine AOps_nil ?_
      refine qbn ?_
      refine qn ?_
      refine AWP_region ?_
      refine st td_ok rfl rfl rfl rfl (r := .v _) rfl trivial ?_
      refine st_eq td_ok rfl rfl rfl rfl (r := .v _) rfl trivial (w64 (by omega)) ?_
      refine st td_ok rfl rfl rfl rfl (r := .v _) rfl trivial ?_
      refine AOps_nil ?_
      refine qn ?_
      exact ⟨(x.1 + 1, x.2 + ((l.getD x.1 ty0).size : Int)), by dsimp only; omega, by (repeat' (first | exact rfl | exact trivial | apply And.intro)), by dsimp only; omega, by dsimp only; omega, by assumption⟩
    ·
      refine AWP_exit ?_
      refine qx ?_
      refine qx ?_
      refine qbh ?_
      refine qn ?_
      refine AWP_seq ?_
      refine AWP_region ?_
      refine st td_ok rfl rfl rfl rfl (r := .v _) rfl trivial ?_
      refine st td_ok rfl rfl rfl rfl (r := .v _) rfl trivial ?_
      refine AOps_nil ?_
      refine qn ?_
      refine AWP_ret ?_
      refine ⟨_, _, _, _, rfl, trivial, GS.forget _ _, ?_⟩
      first | show AV.v _ = _ | show AV.tup _ = _ | show AV.sl _ _ _ = _ | show AV.agg _ = _ | skip
      have e1 : l.take x.1 = l := List.take_of_length_le (by simp only [decide_eq_false_iff_not] at h0; omega)
      rw [e1] at hx2
      have e : x.2 = ((Ty.mk k nu l).size : Int) := by simp only [Ty.size]; omega
      rw [e]
/-- The type with its variables replaced. -/
def subK (k n : Int) (c : Nat) : Bool := bif (bif k == 4 then decide (n ≥ 0) else false) then decide (n < c) else false
mutual
def substT : Ty → List Ty → Ty
  | .mk k n l, sg => if subK k n sg.length then sg.getD n.toNat ty0 else .mk k n (substs l sg)
def substs : List Ty → List Ty → List Ty
  | [], _ => []
  | t :: l, sg => substT t sg :: substs l sg
end
theorem substs_len : ∀ (l sg : List Ty), (substs l sg).length = l.length
  | [], sg => by simp [substs]
  | t :: l, sg => by simp [substs, substs_len l sg]
theorem substs_app : ∀ (l m sg : List Ty), substs (l ++ m) sg = substs l sg ++ substs m sg
  | [], m, sg => by simp [substs]
  | t :: l, m, sg => by simp [substs, substs_app l m sg]
theorem subK_nil (k n : Int) : subK k n 0 = false := by
  unfold subK
  cases h : k == 4 <;> simp
mutual
theorem substT_nil : ∀ t : Ty, substT t [] = t
  | .mk k n l => by
    simp only [substT]
    rw [List.length_nil, subK_nil, substs_nil l]; simp
theorem substs_nil : ∀ l : List Ty, substs l [] = l
  | [] => by simp [substs]
  | t :: l => by simp only [substs]; rw [substT_nil t, substs_nil l]
end
theorem substs_take {l sg : List Ty} {j : Nat} (h : j < l.length) : substs (l.take (j + 1)) sg = substs (l.take j) sg ++ [substT (l.getD j ty0) sg] := by
  rw [Ty.take_get h, substs_app]; simp [substs]
theorem Subst_of (sg : List Ty) (ta : Bool) (hla : sg.length ≤ 1000000000) (hcl : ∀ j, j < sg.length → PCalls Try.prog 21 [.agg (sg.getD j ty0).enc] (.agg (sg.getD j ty0).enc)) (m : Nat) : ∀ (t : Ty), t.size < m → t.size ≤ 1000000000 → PCalls Try.prog 14 [.agg t.enc, .sl ta sg.length (Ty.encs sg)] (.agg (substT t sg).enc) := by
  induction m with
  | zero => intro t h; omega
  | succ m ih =>
    rintro ⟨k, nu, l⟩ hsz hs
    simp only [Ty.size] at hs
    have hll := Ty.sizes_len l
    refine calls_body td_ok Try.func14 rfl rfl rfl ?_
    refine AWP_seq ?_
    refine AWP_region ?_
    refine st_box td_ok rfl rfl rfl rfl rfl rfl (by ((repeat' with_reducible apply And.intro) <;> exact rfl)) fun r2 hr2 => ?_
    refine st_alloc td_ok rfl rfl rfl rfl rfl rfl (zs := [.v _, .v _, _]) rfl fun r4 hr4 => ?_
    refine AOps_nil ?_
    refine qn ?_
    refine AWP_seq ?_
    refine AWP_seq ?_
    have hne := (XH.put_none hr4).1
    refine AWP_region ?_
    refine st td_ok rfl rfl rfl rfl (r := .v _) rfl trivial ?_
    refine st_own (r := .v _) td_ok rfl rfl rfl rfl rfl rfl rfl (XH.put_ne (by (first | assumption | exact Ne.symm (by assumption) | (intro h; simp [XH.put, h] at *; done))) XH.put_same) (Nat.le_of_ble_eq_true rfl) rfl  ?_
    refine st td_ok rfl rfl rfl rfl (r := .v _) rfl trivial ?_
    refine st td_ok rfl rfl rfl rfl (r := .v _) rfl trivial ?_
    (refine sgk0 td_ok rfl rfl rfl rfl rfl rfl (r := .v _) rfl ?_ ?_; · exact fun hg => ⟨by (repeat' (first | exact trivial | exact hg | exact (Bool.and_eq_true_iff.mp hg).1 | apply And.intro)), by exact trivial⟩)
    refine sgk_own (r := .v _) td_ok rfl rfl rfl rfl rfl rfl rfl rfl rfl (XH.put_ne (by (first | assumption | exact Ne.symm (by assumption) | (intro h; simp [XH.put, h] at *; done))) XH.put_same) (fun hg => by (repeat' (first | exact trivial | exact hg | exact (Bool.and_eq_true_iff.mp hg).1 | apply And.intro))) (Nat.le_of_ble_eq_true rfl) rfl ?_
    (refine sgk0 td_ok rfl rfl rfl rfl rfl rfl (r := .v _) rfl ?_ ?_; · exact fun hg => ⟨by (repeat' (first | exact trivial | exact hg | exact (Bool.and_eq_true_iff.mp hg).1 | apply And.intro)), by exact trivial⟩)
    (refine st td_ok rfl rfl rfl rfl (r := .v _) rfl ?_ ?_; · exact (fun h => h))
    refine st td_ok rfl rfl rfl rfl (r := .v _) rfl trivial ?_
    (refine sgk0 td_ok rfl rfl rfl rfl rfl rfl (r := .v _) rfl ?_ ?_; · exact fun hg => ⟨by (repeat' (first | exact trivial | exact hg | exact (Bool.and_eq_true_iff.mp hg).1 | apply And.intro)), by exact trivial⟩)
    refine sgk_own (r := .v _) td_ok rfl rfl rfl rfl rfl rfl rfl rfl rfl (XH.put_ne (by (first | assumption | exact Ne.symm (by assumption) | (intro h; simp [XH.put, h] at *; done))) XH.put_same) (fun hg => by (repeat' (first | exact trivial | exact hg | exact (Bool.and_eq_true_iff.mp hg).1 | apply And.intro))) (Nat.le_of_ble_eq_true rfl) rfl ?_
    (refine sgk0 td_ok rfl rfl rfl rfl rfl rfl (r := .sl _ _ _) rfl ?_ ?_; · exact fun hg => ⟨by (repeat' (first | exact trivial | exact hg | exact (Bool.and_eq_true_iff.mp hg).1 | apply And.intro)), by exact trivial⟩)
    (refine sgk0 td_ok rfl rfl rfl rfl rfl rfl (r := .v _) rfl ?_ ?_; · exact fun hg => ⟨by (repeat' (first | exact trivial | exact hg | exact (Bool.and_eq_true_iff.mp hg).1 | apply And.intro)), by exact trivial⟩)
    (refine sgk0 td_ok rfl rfl rfl rfl rfl rfl (r := .v _) rfl ?_ ?_; · exact fun hg => ⟨by (repeat' (first | exact trivial | exact hg | exact (Bool.and_eq_true_iff.mp hg).1 | apply And.intro)), by exact trivial⟩)
    (refine st td_ok rfl rfl rfl rfl (r := .v _) rfl ?_ ?_; · exact (fun h => h))
    refine AOps_nil ?_
    refine qn ?_
    refine AWP_cond rfl rfl (fun h0 => ?_) (fun h0 => ?_)
    ·
      have h0' : subK k nu sg.length = true := h0
      obtain ⟨hq, hq3⟩ := bif_t h0
      obtain ⟨hq1, hq2⟩ := bif_t hq
      simp only [decide_eq_true_eq] at hq3 hq2
      have hlt : nu.toNat < sg.length := by omega
      have hc2 := hcl nu.toNat hlt
      obtain ⟨⟨k3, n3, l3⟩, he⟩ : ∃ t, sg.getD nu.toNat ty0 = t := ⟨_, rfl⟩
      rw [he] at hc2
      refine AWP_seq ?_
      refine AWP_region ?_
      refine st td_ok rfl rfl rfl rfl (r := .sl _ _ _) rfl trivial ?_
      refine st td_ok rfl rfl rfl rfl (r := .v _) rfl trivial ?_
      refine st_own (r := .v _) td_ok rfl rfl rfl rfl rfl rfl rfl (XH.put_ne (by (first | assumption | exact Ne.symm (by assumption) | (intro h; simp [XH.put, h] at *; done))) XH.put_same) (Nat.le_of_ble_eq_true rfl) rfl  ?_
      (refine st td_ok rfl rfl rfl rfl (r := .pp _ _) rfl ?_ ?_; · ((repeat' with_reducible apply And.intro) <;> (first | with_reducible assumption | (simp only [Ty.encs_len, Ty.enc_len, cond_true, cond_false, nd, Option.getD_none, Option.getD_some, Int.toNat_natCast, strs_len, nums_len, List.length_append, tds2, tds3, tds4, tds5, tds9, tds12, tds21, tds22, tds23, tds24, tds25, tds30, tds31, tds32, tds33, tds34, tds45, tds47, tds48, tds49, tds52, tds62, tds66, decide_eq_true_eq, Bool.and_eq_true, Bool.not_eq_true', decide_eq_false_iff_not] at *; omega))))
      (refine st_eq td_ok rfl rfl rfl rfl (r := _) rfl ?_ ((show _ = AV.agg (Ty.mk k3 n3 l3).enc from (Ty.at_lt sg nu.toNat hlt _).trans (by rw [he]))) ?_; · ((repeat' with_reducible apply And.intro) <;> (simp only [Ty.encs_len, Ty.enc_len, cond_true, cond_false, nd, Option.getD_none, Option.getD_some, Int.toNat_natCast, strs_len, nums_len, List.length_append, tds2, tds3, tds4, tds5, tds9, tds12, tds21, tds22, tds23, tds24, tds25, tds30, tds31, tds32, tds33, tds34, tds45, tds47, tds48, tds49, tds52, tds62, tds66, decide_eq_true_eq, Bool.and_eq_true, Bool.not_eq_true', decide_eq_false_iff_not] at *; omega)))
      refine st_pcall rfl rfl rfl rfl rfl rfl rfl ⟨_, rfl, rfl, rfl⟩ hc2 ?_
      refine st_store td_ok rfl rfl rfl rfl rfl rfl XH.put_same rfl (by ((repeat' with_reducible apply And.intro) <;> exact rfl)) (Nat.le_of_ble_eq_true rfl) (cs' := [.v _, .v _, _]) (T' := 25) rfl rfl ?_
      refine AOps_nil ?_
      refine qn ?_
      refine AWP_ret ?_
      refine qr ?_
      refine ⟨_, _, _, _, (rv1_own (r := .agg [.v _, .v _, _]) rfl rfl XH.put_same rfl), (by ((repeat' with_reducible apply And.intro) <;> exact Nat.le_of_ble_eq_true rfl)), GS.forget _ _, ?_⟩
      first | show AV.v _ = _ | show AV.tup _ = _ | show AV.sl _ _ _ = _ | show AV.agg _ = _ | skip
      have e : substT (Ty.mk k nu l) sg = Ty.mk k3 n3 l3 := by simp only [substT]; rw [if_pos h0', he]
      rw [e]; rfl
    ·
      have h0' : subK k nu sg.length = false := h0
      refine AWP_skip ?_
      refine qn ?_
      refine AWP_seq ?_
      refine AWP_region ?_
      refine st td_ok rfl rfl rfl rfl (r := .v _) rfl trivial ?_
      refine st_own (r := .v _) td_ok rfl rfl rfl rfl rfl rfl rfl (XH.put_ne (by (first | assumption | exact Ne.symm (by assumption) | (intro h; simp [XH.put, h] at *; done))) XH.put_same) (Nat.le_of_ble_eq_true rfl) rfl  ?_
      refine st td_ok rfl rfl rfl rfl (r := .v _) rfl trivial ?_
      refine st_own (r := .v _) td_ok rfl rfl rfl rfl rfl rfl rfl (XH.put_ne (by (first | assumption | exact Ne.symm (by assumption) | (intro h; simp [XH.put, h] at *; done))) XH.put_same) (Nat.le_of_ble_eq_true rfl) rfl  ?_
      (refine st td_ok rfl rfl rfl rfl (r := .agg [.v _, .v _, _]) rfl ?_ ?_; · ((repeat' with_reducible apply And.intro) <;> (first | with_reducible exact trivial | exact rfl | exact Nat.le_of_ble_eq_true rfl)))
      refine st_alloc td_ok rfl rfl rfl rfl rfl rfl (zs := [.v _, .v _, _]) rfl fun r5 hr5 => ?_
      refine st_store td_ok rfl rfl rfl rfl rfl rfl XH.put_same rfl (by ((repeat' with_reducible apply And.intro) <;> exact rfl)) (Nat.le_of_ble_eq_true rfl) (cs' := [.v _, .v _, _]) (T' := 25) rfl rfl ?_
      refine AOps_nil ?_
      refine qn ?_
      refine AWP_seq ?_
      refine AWP_seq ?_
      obtain ⟨h54, hx⟩ := XH.put_none hr5
      have h52 := (XH.put_none hx).1
      refine AWP_region ?_
      refine st td_ok rfl rfl rfl rfl (r := .v _) rfl trivial ?_
      refine st_own (r := .sl _ _ _) td_ok rfl rfl rfl rfl rfl rfl rfl (XH.put_ne (by (first | assumption | exact Ne.symm (by assumption) | (intro h; simp [XH.put, h] at *; done))) (XH.put_ne (by (first | assumption | exact Ne.symm (by assumption) | (intro h; simp [XH.put, h] at *; done))) (XH.put_ne (by (first | assumption | exact Ne.symm (by assumption) | (intro h; simp [XH.put, h] at *; done))) XH.put_same))) (Nat.le_of_ble_eq_true rfl) rfl  ?_
      refine st td_ok rfl rfl rfl rfl (r := .v _) rfl trivial ?_
      refine st td_ok rfl rfl rfl rfl (r := .v _) rfl trivial ?_
      refine AOps_nil ?_
      refine qn ?_
      refine AWP_block ?_
      refine AWP_for (fun (x : Nat × AV) => [(1, .sl ta sg.length (Ty.encs sg)), (4, .v (.pointer (some ⟨r4, 0, none⟩))), (5, .v (.pointer (some ⟨r5, 0, none⟩))), (35, .sl false l.length (Ty.encs l)), (36, .v (.int .i64 l.length)), (37, .v (.int .i64 x.1))]) (fun x X => x.1 ≤ l.length ∧ Own X 25 3 x.2 x.1 (Ty.encs (substs (l.take x.1) sg)) ∧ X r2 = some ⟨25, (Ty.mk k nu l).enc⟩ ∧ X r4 = some ⟨25, [.v (.int .i64 0), .v (.int .i64 0), .sl true 0 []]⟩ ∧ X r5 = some ⟨25, [.v (.int .i64 k), .v (.int .i64 nu), x.2]⟩ ∧ ¬ x.2.at? r2 ∧ ¬ x.2.at? r4 ∧ ¬ x.2.at? r5) (fun x => l.length - x.1) (0, .sl true 0 []) ⟨by (repeat' (first | exact rfl | exact trivial | apply And.intro)), ⟨Nat.zero_le _, Own.nil _ _ _, XH.put_ne h52.symm (XH.put_ne h52.symm (XH.put_ne hne.symm XH.put_same)), XH.put_ne h54.symm (XH.put_ne h54.symm XH.put_same), XH.put_same, fun h => h, fun h => h, fun h => h⟩⟩ ?_
      rintro x X ⟨hx1, hown, hr2', hr4', hr5', hn2, hn4, hn5⟩
      refine AWP_seq ?_
      refine AWP_region ?_
      refine st td_ok rfl rfl rfl rfl (r := .v _) rfl trivial ?_
      refine AOps_nil ?_
      refine qn ?_
      refine AWP_seq ?_
      refine AWP_cond rfl rfl (fun h1 => ?_) (fun h1 => ?_)
      ·
        refine AWP_skip ?_
        refine qn ?_
        refine AWP_seq ?_
        refine AWP_block ?_
        refine AWP_seq ?_
        have hlt : x.1 < l.length := Int.ofNat_lt.mp (of_decide_eq_true h1)
        have hk := Ty.sizes_get l x.1 hlt
        have hst := substs_take (sg := sg) hlt
        obtain ⟨⟨k2, n2, l2⟩, hel⟩ : ∃ t, l.getD x.1 ty0 = t := ⟨_, rfl⟩
        rw [hel] at hk hst
        obtain ⟨⟨k4, n4, l4⟩, hs4⟩ : ∃ t, substT (Ty.mk k2 n2 l2) sg = t := ⟨_, rfl⟩
        have hc7 := ih (Ty.mk k2 n2 l2) (by simp only [Ty.size] at hsz hk ⊢; omega) (by omega)
        rw [hs4] at hc7 hst
        refine AWP_region ?_
        (refine st td_ok rfl rfl rfl rfl (r := .pp _ _) rfl ?_ ?_; · ((repeat' with_reducible apply And.intro) <;> (first | omega | (simp only [Ty.encs_len, Ty.enc_len, cond_true, cond_false, nd, Option.getD_none, Option.getD_some, Int.toNat_natCast, strs_len, nums_len, List.length_append, tds2, tds3, tds4, tds5, tds9, tds12, tds21, tds22, tds23, tds24, tds25, tds30, tds31, tds32, tds33, tds34, tds45, tds47, tds48, tds49, tds52, tds62, tds66, decide_eq_true_eq, Bool.and_eq_true, Bool.not_eq_true', decide_eq_false_iff_not] at *; omega))))
        (refine st_eq td_ok rfl rfl rfl rfl (r := _) rfl ?_ ((show _ = AV.agg (Ty.mk k2 n2 l2).enc from (Ty.at_lt l x.1 hlt _).trans (by rw [hel]))) ?_; · ((repeat' with_reducible apply And.intro) <;> (simp only [Ty.encs_len, Ty.enc_len, cond_true, cond_false, nd, Option.getD_none, Option.getD_some, Int.toNat_natCast, strs_len, nums_len, List.length_append, tds2, tds3, tds4, tds5, tds9, tds12, tds21, tds22, tds23, tds24, tds25, tds30, tds31, tds32, tds33, tds34, tds45, tds47, tds48, tds49, tds52, tds62, tds66, decide_eq_true_eq, Bool.and_eq_true, Bool.not_eq_true', decide_eq_false_iff_not] at *; omega)))
        refine st_alloc td_ok rfl rfl rfl rfl rfl rfl (zs := [.v _, .v _, _]) rfl fun r7 hr7 => ?_
        refine st_store td_ok rfl rfl rfl rfl rfl rfl XH.put_same rfl (by ((repeat' with_reducible apply And.intro) <;> exact rfl)) (Nat.le_of_ble_eq_true rfl) (cs' := [.v _, .v _, _]) (T' := 25) rfl rfl ?_
        refine AOps_nil ?_
        refine qn ?_
        have h57 := XH.ne hr5' hr7
        have h47 := XH.ne hr4' hr7
        have h27 := XH.ne hr2' hr7
        have hn7 := Own.nat hown hr7
        refine AWP_par rfl td_ok [(0, .D), (2, .D), (3, .D), (4, .D), (5, .D), (7, .D), (1, .W), (6, .W), (8, .W)] [(2, fun X' => X' r7 = some ⟨25, (Ty.mk k2 n2 l2).enc⟩)] rfl rfl rfl rfl ?_
        refine gs td_ok rfl rfl rfl (r := .v _) (fun _ _ => rfl) trivial trivial (rfl) ?_
        refine gs_own (r := .agg [.v _, .v _, _]) td_ok rfl rfl rfl rfl rfl rfl (fun X' hX' => hX') (by first | assumption | exact XH.put_same | exact XH.put_ne (by assumption) (by assumption)) (Nat.le_of_ble_eq_true rfl) rfl ?_
        refine gs td_ok rfl rfl rfl (r := .sl _ _ _) (fun _ _ => rfl) trivial trivial (rfl) ?_
        refine gs_pcall rfl rfl rfl rfl rfl rfl ⟨_, rfl, rfl, rfl⟩ trivial hc7 ?_
        refine gs_lit td_ok rfl rfl rfl  rfl rfl rfl rfl rfl (by decide) (cs := [.v _, .v _, _]) rfl (by ((repeat' with_reducible apply And.intro) <;> (first | with_reducible exact trivial | exact rfl))) trivial ?_
        refine gs td_ok rfl rfl rfl (r := .v _) (fun _ _ => rfl) trivial trivial (rfl) ?_
        refine gs_ownW (r := x.2) td_ok rfl rfl rfl rfl rfl rfl (XH.put_ne (by (first | assumption | exact Ne.symm (by assumption) | (intro h; simp [XH.put, h] at *; done))) (XH.put_ne (by (first | assumption | exact Ne.symm (by assumption) | (intro h; simp [XH.put, h] at *; done))) (by assumption))) (Nat.le_of_ble_eq_true rfl) rfl (by repeat (first | exact trivial | refine ⟨?_, ?_⟩ | exact fun h => h)) ?_
        refine gs_append td_ok rfl rfl rfl rfl rfl rfl rfl rfl rfl (.inl ⟨_, rfl⟩) (by decide) (Own.put (Own.put hown hn7) hn7) rfl rfl rfl (by show (x.1 + 1) * 40 ≤ _; omega) fun a47 X47 ho47 hr47 ha47 => ⟨(by repeat (first | exact trivial | refine ⟨?_, ?_⟩ | exact fun h => h)), ?_⟩
        refine gs_store td_ok rfl rfl rfl rfl rfl (hr47 r5 _ (XH.put_ne h57 (XH.put_ne h57 hr5')) hn5) rfl ⟨rfl, Own.one ho47⟩ (Nat.le_of_ble_eq_true rfl) (cs' := [.v _, .v _, _]) (T' := 25) rfl rfl (by repeat (first | exact trivial | refine ⟨?_, ?_⟩ | exact fun h => h)) ?_
        refine gs_nil ?_
        refine qbn ?_
        refine qn ?_
        refine AWP_region ?_
        refine st_eq td_ok rfl rfl rfl rfl (r := .v _) rfl trivial (w64 (by omega)) ?_
        refine st td_ok rfl rfl rfl rfl (r := .v _) rfl trivial ?_
        refine AOps_nil ?_
        refine qn ?_
        have hat : ∀ q o, X q = some o → ¬ x.2.at? q → ¬ a47.at? q := by
          intro q o hq hn hc
          have hq7 := XH.ne hq hr7
          rcases ha47 q hc with h | h
          · rw [XH.put_ne hq7 (XH.put_ne hq7 hq)] at h; exact absurd h (by simp)
          · exact hn h
        refine ⟨(x.1 + 1, a47), by dsimp only; omega, by (repeat' (first | exact rfl | exact trivial | apply And.intro)), by dsimp only; omega, ?_, XH.put_ne h52.symm (hr47 r2 _ (XH.put_ne h27 (XH.put_ne h27 hr2')) hn2), XH.put_ne h54.symm (hr47 r4 _ (XH.put_ne h47 (XH.put_ne h47 hr4')) hn4), XH.put_same, hat r2 _ hr2' hn2, hat r4 _ hr4' hn4, hat r5 _ hr5' hn5⟩
        dsimp only
        rw [hst, Ty.encs_app, Ty.encs_one]
        exact Own.put ho47 (hat r5 _ hr5' hn5)
      ·
        refine AWP_exit ?_
        refine qx ?_
        refine qx ?_
        refine qbh ?_
        refine qn ?_
        refine AWP_seq ?_
        refine AWP_region ?_
        refine st_own (r := .agg [.v _, .v _, _]) td_ok rfl rfl rfl rfl rfl rfl rfl (by assumption) (Nat.le_of_ble_eq_true rfl) rfl  ?_
        refine st_store td_ok rfl rfl rfl rfl rfl rfl (by assumption) rfl (by refine ⟨rfl, ?_⟩; show (true && (true && (AV.one x.2 && true))) = true; rw [Own.one hown]; rfl) (Nat.le_of_ble_eq_true rfl) (cs' := [.v _, .v _, _]) (T' := 25) rfl rfl ?_
        refine AOps_nil ?_
        refine qn ?_
        refine AWP_ret ?_
        obtain ⟨X', hgs, _⟩ := GS.give (Own.put (o := ⟨25, [.v (.int .i64 k), .v (.int .i64 nu), x.2]⟩) hown hn4) [.v (.int .i64 k), .v (.int .i64 nu)] []
        refine ⟨_, _, _, _, (rv1_own (r := .agg [.v _, .v _, _]) rfl rfl XH.put_same rfl), (by ((repeat' with_reducible apply And.intro) <;> exact Nat.le_of_ble_eq_true rfl)), (GS.agg hgs), ?_⟩
        first | show AV.v _ = _ | show AV.tup _ = _ | show AV.sl _ _ _ = _ | show AV.agg _ = _ | skip
        have e : substT (Ty.mk k nu l) sg = Ty.mk k nu (substs l sg) := by simp only [substT]; rw [if_neg (by rw [h0']; simp)]
        have e1 : l.take x.1 = l := List.take_of_length_le (by simp only [decide_eq_false_iff_not] at h1; omega)
        have e2 : x.1 = l.length := by simp only [decide_eq_false_iff_not] at h1; omega
        rw [e, e1, e2]
        simp only [Ty.enc, substs_len]; rfl
end Go.Proofs.Ytgnfjahkhhkmoaa.V
