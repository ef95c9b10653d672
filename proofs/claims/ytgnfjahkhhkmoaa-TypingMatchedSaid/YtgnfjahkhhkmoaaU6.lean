import Derived.Test.YtgnfjahkhhkmoaaU5
namespace Go.Proofs.Ytgnfjahkhhkmoaa.V
open Go
set_option linter.unusedSimpArgs false
set_option linter.unusedVariables false

mutual
theorem substT_size (sg : List Ty) : ∀ t : Ty, (substT t sg).size ≤ t.size * (1 + Ty.sizes sg)
  | .mk k n l => by
    simp only [substT]
    split
    · rename_i h
      have hlt : n.toNat < sg.length := by
        unfold subK at h
        obtain ⟨h1, h2⟩ := bif_t h
        obtain ⟨h3, h4⟩ := bif_t h1
        simp only [decide_eq_true_eq] at h2 h4
        omega
      have := Ty.sizes_get sg _ hlt
      have h1 := (Ty.mk k n l).size_pos
      calc (sg.getD n.toNat ty0).size ≤ 1 * (1 + Ty.sizes sg) := by omega
        _ ≤ _ := Nat.mul_le_mul_right _ h1
    · have := substs_size sg l
      simp only [Ty.size]
      rw [Nat.add_mul]
      omega
theorem substs_size (sg : List Ty) : ∀ l : List Ty, Ty.sizes (substs l sg) ≤ Ty.sizes l * (1 + Ty.sizes sg)
  | [] => by simp [substs, Ty.sizes]
  | t :: l => by
    have h1 := substT_size sg t
    have h2 := substs_size sg l
    simp only [substs, Ty.sizes]
    rw [Nat.add_mul]
    omega
end
/-- The argument types, or none if one is too large. -/
def fieldsL (sg : List Ty) : List Ty → List Ty → Option (List Ty)
  | [], acc => some acc
  | a :: l, acc => if (substT a sg).size > 200 then none else fieldsL sg l (acc ++ [substT a sg])
def Con.args : Con → List Ty | .mk _ l => l
def Dat.vars : Dat → Int | .mk _ n _ => n
def Dat.cons : Dat → List Con | .mk _ _ l => l
def fieldsG (d : Dat) (sg : List Ty) (c : Int) : Option (List Ty) :=
  if (bif (bif ((sg.length : Int) != d.vars) then true else decide (c < 0)) then true else decide (c ≥ d.cons.length)) then none
  else fieldsL sg (d.cons.getD c.toNat con0).args []
def fieldsF (data : List Dat) (k n : Int) (sg : List Ty) (c : Int) : Option (List Ty) :=
  if (bif (bif k != 5 then true else decide (n < 0)) then true else decide (n ≥ data.length)) then none
  else fieldsG (data.getD n.toNat dat0) sg c
def fieldsA : Option (List Ty) → AV
  | none => .tup [.sl true 0 [], .v (.bool false)]
  | some l => .tup [.sl false l.length (Ty.encs l), .v (.bool true)]
theorem fieldsL_go {sg l acc : List Ty} {j : Nat} (h : j < l.length) (hs : ¬ (substT (l.getD j ty0) sg).size > 200) : fieldsL sg (l.drop j) acc = fieldsL sg (l.drop (j + 1)) (acc ++ [substT (l.getD j ty0) sg]) := by
  rw [List.getD_eq_getElem?_getD, List.getElem?_eq_getElem h, Option.getD_some] at hs ⊢
  rw [List.drop_eq_getElem_cons h]
  simp only [fieldsL]
  rw [if_neg hs]
theorem fieldsL_no {sg l acc : List Ty} {j : Nat} (h : j < l.length) (hs : (substT (l.getD j ty0) sg).size > 200) : fieldsL sg (l.drop j) acc = none := by
  rw [List.getD_eq_getElem?_getD, List.getElem?_eq_getElem h, Option.getD_some] at hs
  rw [List.drop_eq_getElem_cons h]
  simp only [fieldsL]
  rw [if_pos hs]
/-- What the guards leave of the data. -/
def dataOk (data : List Dat) : Prop := ∀ d, d ∈ data → ∀ c, c ∈ d.cons → Ty.sizes c.args ≤ 20
theorem Fields_c (data : List Dat) (k n : Int) (sg : List Ty) (c : Int) (ta : Bool) (hd : dataOk data) (hsg : Ty.sizes sg ≤ 250) : PCalls Try.prog 7 [.sl ta data.length (data.flatMap Dat.enc), .agg (Ty.mk k n sg).enc, .v (.int .i64 c)] (fieldsA (fieldsF data k n sg c)) := by
  refine calls_body td_ok Try.func7 rfl rfl rfl ?_
  refine AWP_seq ?_
  refine AWP_region ?_
  refine st_box td_ok rfl rfl rfl rfl rfl rfl (by ((repeat' with_reducible apply And.intro) <;> exact rfl)) fun r4 hr4 => ?_
  refine st td_ok rfl rfl rfl rfl (r := .sl _ _ _) rfl trivial ?_
  refine st td_ok rfl rfl rfl rfl (r := .v _) rfl trivial ?_
  refine AOps_nil ?_
  refine qn ?_
  refine AWP_seq ?_
  refine AWP_seq ?_
  refine AWP_region ?_
  refine st td_ok rfl rfl rfl rfl (r := .v _) rfl trivial ?_
  refine st_own (r := .v _) td_ok rfl rfl rfl rfl rfl rfl rfl XH.put_same (Nat.le_of_ble_eq_true rfl) rfl  ?_
  refine st td_ok rfl rfl rfl rfl (r := .v _) rfl trivial ?_
  refine st td_ok rfl rfl rfl rfl (r := .v _) rfl trivial ?_
  (refine sgk0 td_ok rfl rfl rfl rfl rfl rfl (r := .v _) rfl ?_ ?_; · exact fun hg => ⟨by (repeat' (first | exact trivial | exact hg | exact (Bool.and_eq_true_iff.mp hg).1 | apply And.intro)), by exact trivial⟩)
  refine sgk_own (r := .v _) td_ok rfl rfl rfl rfl rfl rfl rfl rfl rfl XH.put_same (fun hg => by (repeat' (first | exact trivial | exact hg | exact (Bool.and_eq_true_iff.mp hg).1 | apply And.intro))) (Nat.le_of_ble_eq_true rfl) rfl ?_
  (refine sgk0 td_ok rfl rfl rfl rfl rfl rfl (r := .v _) rfl ?_ ?_; · exact fun hg => ⟨by (repeat' (first | exact trivial | exact hg | exact (Bool.and_eq_true_iff.mp hg).1 | apply And.intro)), by exact trivial⟩)
  (refine st td_ok rfl rfl rfl rfl (r := .v _) rfl ?_ ?_; · first | (simp_all; done) | ((repeat' with_reducible apply And.intro) <;> with_reducible exact trivial))
  refine st td_ok rfl rfl rfl rfl (r := .v _) rfl trivial ?_
  (refine sgk0 td_ok rfl rfl rfl rfl rfl rfl (r := .v _) rfl ?_ ?_; · exact fun hg => ⟨by (repeat' (first | exact trivial | exact hg | exact (Bool.and_eq_true_iff.mp hg).1 | apply And.intro)), by exact trivial⟩)
  refine sgk_own (r := .v _) td_ok rfl rfl rfl rfl rfl rfl rfl rfl rfl XH.put_same (fun hg => by (repeat' (first | exact trivial | exact hg | exact (Bool.and_eq_true_iff.mp hg).1 | apply And.intro))) (Nat.le_of_ble_eq_true rfl) rfl ?_
  (refine sgk0 td_ok rfl rfl rfl rfl rfl rfl (r := .sl _ _ _) rfl ?_ ?_; · exact fun hg => ⟨by (repeat' (first | exact trivial | exact hg | exact (Bool.and_eq_true_iff.mp hg).1 | apply And.intro)), by exact trivial⟩)
  (refine sgk0 td_ok rfl rfl rfl rfl rfl rfl (r := .v _) rfl ?_ ?_; · exact fun hg => ⟨by (repeat' (first | exact trivial | exact hg | exact (Bool.and_eq_true_iff.mp hg).1 | apply And.intro)), by exact trivial⟩)
  (refine sgk0 td_ok rfl rfl rfl rfl rfl rfl (r := .v _) rfl ?_ ?_; · exact fun hg => ⟨by (repeat' (first | exact trivial | exact hg | exact (Bool.and_eq_true_iff.mp hg).1 | apply And.intro)), by exact trivial⟩)
  (refine st td_ok rfl rfl rfl rfl (r := .v _) rfl ?_ ?_; · first | (simp_all; done) | ((repeat' with_reducible apply And.intro) <;> with_reducible exact trivial))
  refine AOps_nil ?_
  refine qn ?_
  refine AWP_cond rfl rfl (fun h0 => ?_) (fun h0 => ?_)
  ·
    have hF : fieldsF data k n sg c = none := by unfold fieldsF; rw [if_pos h0]
    refine AWP_seq ?_
    refine AWP_region ?_
    refine st td_ok rfl rfl rfl rfl (r := .sl _ _ _) rfl trivial ?_
    refine st td_ok rfl rfl rfl rfl (r := .v _) rfl trivial ?_
    refine AOps_nil ?_
    refine qn ?_
    refine AWP_ret ?_
    refine qr ?_
    refine ⟨_, _, _, _, rfl, trivial, GS.forget _ _, ?_⟩
    first | show AV.v _ = _ | show AV.tup _ = _ | show AV.sl _ _ _ = _ | show AV.agg _ = _ | skip
    rw [hF]; rfl
  ·
    have hF0 : fieldsF data k n sg c = fieldsG (data.getD n.toNat dat0) sg c := by unfold fieldsF; rw [if_neg (by rw [h0]; simp)]
    have h0n := or_no h0
    have hn0 := (or_no h0n.1).2
    have hn1 := h0n.2
    simp only [decide_eq_false_iff_not] at hn0 hn1
    have hlt : n.toNat < data.length := by omega
    have hmem : data.getD n.toNat dat0 ∈ data := by rw [List.getD_eq_getElem?_getD, List.getElem?_eq_getElem hlt]; exact List.getElem_mem hlt
    have hdd := hd _ hmem
    obtain ⟨⟨nm, vs, cs⟩, hda⟩ : ∃ t, data.getD n.toNat dat0 = t := ⟨_, rfl⟩
    rw [hda] at hF0 hdd
    clear h0
    refine AWP_skip ?_
    refine qn ?_
    refine AWP_seq ?_
    refine AWP_region ?_
    refine st td_ok rfl rfl rfl rfl (r := .sl _ _ _) rfl trivial ?_
    refine st td_ok rfl rfl rfl rfl (r := .v _) rfl trivial ?_
    refine st_own (r := .v _) td_ok rfl rfl rfl rfl rfl rfl rfl XH.put_same (Nat.le_of_ble_eq_true rfl) rfl  ?_
    (refine st td_ok rfl rfl rfl rfl (r := .pp _ _) rfl ?_ ?_; · ((repeat' with_reducible apply And.intro) <;> (first | omega | (simp only [Ty.encs_len, Ty.enc_len, cons_len, dats_len, cond_true, cond_false, nd, Option.getD_none, Option.getD_some, Int.toNat_natCast, strs_len, nums_len, List.length_append, tds2, tds3, tds4, tds5, tds9, tds12, tds21, tds22, tds23, tds24, tds25, tds30, tds31, tds32, tds33, tds34, tds45, tds47, tds48, tds49, tds52, tds62, tds66, decide_eq_true_eq, Bool.and_eq_true, Bool.not_eq_true', decide_eq_false_iff_not] at *; omega))))
    (refine st_eq td_ok rfl rfl rfl rfl (r := _) rfl ?_ ((show _ = AV.agg (Dat.mk nm vs cs).enc from (congrArg AV.agg (flat_at_lt Dat.enc dat0 Dat.enc_len data n.toNat hlt)).trans (by rw [hda]))) ?_; · ((repeat' with_reducible apply And.intro) <;> (simp only [Ty.encs_len, Ty.enc_len, cons_len, dats_len, cond_true, cond_false, nd, Option.getD_none, Option.getD_some, Int.toNat_natCast, strs_len, nums_len, List.length_append, tds2, tds3, tds4, tds5, tds9, tds12, tds21, tds22, tds23, tds24, tds25, tds30, tds31, tds32, tds33, tds34, tds45, tds47, tds48, tds49, tds52, tds62, tds66, decide_eq_true_eq, Bool.and_eq_true, Bool.not_eq_true', decide_eq_false_iff_not] at *; omega)))
    refine st_alloc td_ok rfl rfl rfl rfl rfl rfl (zs := [.v _, .v _, _]) rfl fun r8 hr8 => ?_
    refine st_store td_ok rfl rfl rfl rfl rfl rfl XH.put_same rfl (by ((repeat' with_reducible apply And.intro) <;> exact rfl)) (Nat.le_of_ble_eq_true rfl) (cs' := [.v _, .v _, _]) (T' := 34) rfl rfl ?_
    refine AOps_nil ?_
    refine qn ?_
    refine AWP_seq ?_
    refine AWP_seq ?_
    have h84 := (XH.put_none hr8).1
    refine AWP_region ?_
    refine st td_ok rfl rfl rfl rfl (r := .v _) rfl trivial ?_
    refine st_own (r := .sl _ _ _) td_ok rfl rfl rfl rfl rfl rfl rfl (XH.put_ne (by (first | assumption | exact Ne.symm (by assumption) | (intro h; simp [XH.put, h] at *; done))) (XH.put_ne (by (first | assumption | exact Ne.symm (by assumption) | (intro h; simp [XH.put, h] at *; done))) XH.put_same)) (Nat.le_of_ble_eq_true rfl) rfl  ?_
    refine st td_ok rfl rfl rfl rfl (r := .v _) rfl trivial ?_
    refine st td_ok rfl rfl rfl rfl (r := .v _) rfl trivial ?_
    refine st_own (r := .v _) td_ok rfl rfl rfl rfl rfl rfl rfl XH.put_same (Nat.le_of_ble_eq_true rfl) rfl  ?_
    refine st td_ok rfl rfl rfl rfl (r := .v _) rfl trivial ?_
    refine st td_ok rfl rfl rfl rfl (r := .v _) rfl trivial ?_
    (refine sgk0 td_ok rfl rfl rfl rfl rfl rfl (r := .v _) rfl ?_ ?_; · exact fun hg => ⟨by (repeat' (first | exact trivial | exact hg | exact (Bool.and_eq_true_iff.mp hg).1 | apply And.intro)), by exact trivial⟩)
    (refine sgk0 td_ok rfl rfl rfl rfl rfl rfl (r := .v _) rfl ?_ ?_; · exact fun hg => ⟨by (repeat' (first | exact trivial | exact hg | exact (Bool.and_eq_true_iff.mp hg).1 | apply And.intro)), by exact trivial⟩)
    (refine st td_ok rfl rfl rfl rfl (r := .v _) rfl ?_ ?_; · first | (simp_all; done) | ((repeat' with_reducible apply And.intro) <;> with_reducible exact trivial))
    refine st td_ok rfl rfl rfl rfl (r := .v _) rfl trivial ?_
    (refine sgk0 td_ok rfl rfl rfl rfl rfl rfl (r := .v _) rfl ?_ ?_; · exact fun hg => ⟨by (repeat' (first | exact trivial | exact hg | exact (Bool.and_eq_true_iff.mp hg).1 | apply And.intro)), by exact trivial⟩)
    (refine sgk0 td_ok rfl rfl rfl rfl rfl rfl (r := .v _) rfl ?_ ?_; · exact fun hg => ⟨by (repeat' (first | exact trivial | exact hg | exact (Bool.and_eq_true_iff.mp hg).1 | apply And.intro)), by exact trivial⟩)
    refine sgk_own (r := .sl _ _ _) td_ok rfl rfl rfl rfl rfl rfl rfl rfl rfl XH.put_same (fun hg => by (repeat' (first | exact trivial | exact hg | exact (Bool.and_eq_true_iff.mp hg).1 | apply And.intro))) (Nat.le_of_ble_eq_true rfl) rfl ?_
    (refine sgk0 td_ok rfl rfl rfl rfl rfl rfl (r := .v _) rfl ?_ ?_; · exact fun hg => ⟨by (repeat' (first | exact trivial | exact hg | exact (Bool.and_eq_true_iff.mp hg).1 | apply And.intro)), by exact trivial⟩)
    (refine sgk0 td_ok rfl rfl rfl rfl rfl rfl (r := .v _) rfl ?_ ?_; · exact fun hg => ⟨by (repeat' (first | exact trivial | exact hg | exact (Bool.and_eq_true_iff.mp hg).1 | apply And.intro)), by exact trivial⟩)
    (refine st td_ok rfl rfl rfl rfl (r := .v _) rfl ?_ ?_; · first | (simp_all; done) | ((repeat' with_reducible apply And.intro) <;> with_reducible exact trivial))
    refine AOps_nil ?_
    refine qn ?_
    refine AWP_cond rfl rfl (fun h1 => ?_) (fun h1 => ?_)
    ·
      have hF : fieldsF data k n sg c = none := by rw [hF0]; exact if_pos h1
      refine AWP_seq ?_
      refine AWP_region ?_
      refine st td_ok rfl rfl rfl rfl (r := .sl _ _ _) rfl trivial ?_
      refine st td_ok rfl rfl rfl rfl (r := .v _) rfl trivial ?_
      refine AOps_nil ?_
      refine qn ?_
      refine AWP_ret ?_
      refine qr ?_
      refine ⟨_, _, _, _, rfl, trivial, GS.forget _ _, ?_⟩
      first | show AV.v _ = _ | show AV.tup _ = _ | show AV.sl _ _ _ = _ | show AV.agg _ = _ | skip
      rw [hF]; rfl
    ·
      have hF1 : fieldsF data k n sg c = fieldsL sg (cs.getD c.toNat con0).args [] := by rw [hF0]; exact if_neg (fun e => absurd (h1.symm.trans e) (by simp))
      have h1n := or_no h1
      have hc0 := (or_no h1n.1).2
      have hc1 := h1n.2
      simp only [decide_eq_false_iff_not] at hc0 hc1
      have hlt2 : c.toNat < cs.length := by omega
      have hmem2 : cs.getD c.toNat con0 ∈ cs := by rw [List.getD_eq_getElem?_getD, List.getElem?_eq_getElem hlt2]; exact List.getElem_mem hlt2
      have hcc := hdd _ hmem2
      obtain ⟨⟨cn, ca⟩, hco⟩ : ∃ t, cs.getD c.toNat con0 = t := ⟨_, rfl⟩
      rw [hco] at hF1 hcc
      simp only [Con.args] at hF1 hcc
      have hcl := Ty.sizes_len ca
      clear h1
      refine AWP_skip ?_
      refine qn ?_
      refine AWP_seq ?_
      refine AWP_region ?_
      refine st td_ok rfl rfl rfl rfl (r := .sl _ _ _) rfl trivial ?_
      refine AOps_nil ?_
      refine qn ?_
      refine AWP_seq ?_
      refine AWP_seq ?_
      refine AWP_region ?_
      refine st td_ok rfl rfl rfl rfl (r := .v _) rfl trivial ?_
      refine st_own (r := .sl _ _ _) td_ok rfl rfl rfl rfl rfl rfl rfl XH.put_same (Nat.le_of_ble_eq_true rfl) rfl  ?_
      refine st td_ok rfl rfl rfl rfl (r := .v _) rfl trivial ?_
      (refine st td_ok rfl rfl rfl rfl (r := .pp _ _) rfl ?_ ?_; · ((repeat' with_reducible apply And.intro) <;> (first | omega | (simp only [Ty.encs_len, Ty.enc_len, cons_len, dats_len, cond_true, cond_false, nd, Option.getD_none, Option.getD_some, Int.toNat_natCast, strs_len, nums_len, List.length_append, tds2, tds3, tds4, tds5, tds9, tds12, tds21, tds22, tds23, tds24, tds25, tds30, tds31, tds32, tds33, tds34, tds45, tds47, tds48, tds49, tds52, tds62, tds66, decide_eq_true_eq, Bool.and_eq_true, Bool.not_eq_true', decide_eq_false_iff_not] at *; omega))))
      refine st td_ok rfl rfl rfl rfl (r := .pp _ _) rfl trivial ?_
      (refine st_eq td_ok rfl rfl rfl rfl (r := _) rfl ?_ ((show _ = AV.sl false ca.length (Ty.encs ca) from (flat_cell_lt Con.enc con0 Con.enc_len cs c.toNat 1 (by decide) hlt2).trans (by rw [hco]; rfl))) ?_; · ((repeat' with_reducible apply And.intro) <;> (simp only [Ty.encs_len, Ty.enc_len, cons_len, dats_len, cond_true, cond_false, nd, Option.getD_none, Option.getD_some, Int.toNat_natCast, strs_len, nums_len, List.length_append, tds2, tds3, tds4, tds5, tds9, tds12, tds21, tds22, tds23, tds24, tds25, tds30, tds31, tds32, tds33, tds34, tds45, tds47, tds48, tds49, tds52, tds62, tds66, decide_eq_true_eq, Bool.and_eq_true, Bool.not_eq_true', decide_eq_false_iff_not] at *; omega)))
      refine st td_ok rfl rfl rfl rfl (r := .v _) rfl trivial ?_
      refine st td_ok rfl rfl rfl rfl (r := .v _) rfl trivial ?_
      refine AOps_nil ?_
      refine qn ?_
      refine AWP_block ?_
      refine AWP_for (fun (x : Nat × AV × List Ty) => [(4, .v (.pointer (some ⟨r4, 0, none⟩))), (9, x.2.1), (55, .sl false ca.length (Ty.encs ca)), (56, .v (.int .i64 ca.length)), (57, .v (.int .i64 x.1))]) (fun x X => x.1 ≤ ca.length ∧ (Own X 25 3 x.2.1 x.2.2.length (Ty.encs x.2.2) ∧ x.2.2.length = x.1) ∧ X r4 = some ⟨25, (Ty.mk k n sg).enc⟩ ∧ ¬ x.2.1.at? r4 ∧ fieldsL sg (ca.drop x.1) x.2.2 = fieldsL sg ca []) (fun x => ca.length - x.1) (0, .sl true 0 [], []) ⟨by (repeat' (first | exact rfl | exact trivial | apply And.intro)), ⟨Nat.zero_le _, ⟨Own.nil _ _ _, rfl⟩, XH.put_ne h84.symm (XH.put_ne h84.symm XH.put_same), fun h => h, rfl⟩⟩ ?_
      rintro x X ⟨hx1, hown, hr4', hn4, hx2⟩
      refine AWP_seq ?_
      refine AWP_region ?_
      refine st td_ok rfl rfl rfl rfl (r := .v _) rfl trivial ?_
      refine AOps_nil ?_
      refine qn ?_
      refine AWP_seq ?_
      refine AWP_cond rfl rfl (fun h2 => ?_) (fun h2 => ?_)
      ·
        refine AWP_skip ?_
        refine qn ?_
        refine AWP_seq ?_
        refine AWP_block ?_
        refine AWP_seq ?_
        have hlt3 : x.1 < ca.length := Int.ofNat_lt.mp (of_decide_eq_true h2)
        have hgo := fieldsL_go (sg := sg) (acc := x.2.2) hlt3
        have hno := fieldsL_no (sg := sg) (acc := x.2.2) hlt3
        have hk := Ty.sizes_get ca x.1 hlt3
        obtain ⟨⟨k2, n2, l2⟩, hel⟩ : ∃ t, ca.getD x.1 ty0 = t := ⟨_, rfl⟩
        rw [hel] at hgo hno hk
        have hsz := substT_size sg (Ty.mk k2 n2 l2)
        have hsz2 : (Ty.mk k2 n2 l2).size * (1 + Ty.sizes sg) ≤ 20 * 251 := Nat.mul_le_mul (by omega) (by omega)
        have hc10 := Subst_c (Ty.mk k2 n2 l2) sg false (by omega) (by omega)
        obtain ⟨⟨k4, n4, l4⟩, hs4⟩ : ∃ t, substT (Ty.mk k2 n2 l2) sg = t := ⟨_, rfl⟩
        rw [hs4] at hc10 hgo hno hsz
        have hc11 := size_c _ (Ty.mk k4 n4 l4) 201 (Nat.lt_succ_self _) (by omega) (by decide) (by decide)
        refine AWP_region ?_
        (refine st td_ok rfl rfl rfl rfl (r := .pp _ _) rfl ?_ ?_; · ((repeat' with_reducible apply And.intro) <;> (first | omega | (simp only [Ty.encs_len, Ty.enc_len, cons_len, dats_len, cond_true, cond_false, nd, Option.getD_none, Option.getD_some, Int.toNat_natCast, strs_len, nums_len, List.length_append, tds2, tds3, tds4, tds5, tds9, tds12, tds21, tds22, tds23, tds24, tds25, tds30, tds31, tds32, tds33, tds34, tds45, tds47, tds48, tds49, tds52, tds62, tds66, decide_eq_true_eq, Bool.and_eq_true, Bool.not_eq_true', decide_eq_false_iff_not] at *; omega))))
        (refine st_eq td_ok rfl rfl rfl rfl (r := _) rfl ?_ ((show _ = AV.agg (Ty.mk k2 n2 l2).enc from (Ty.at_lt ca x.1 hlt3 _).trans (by rw [hel]))) ?_; · ((repeat' with_reducible apply And.intro) <;> (simp only [Ty.encs_len, Ty.enc_len, cons_len, dats_len, cond_true, cond_false, nd, Option.getD_none, Option.getD_some, Int.toNat_natCast, strs_len, nums_len, List.length_append, tds2, tds3, tds4, tds5, tds9, tds12, tds21, tds22, tds23, tds24, tds25, tds30, tds31, tds32, tds33, tds34, tds45, tds47, tds48, tds49, tds52, tds62, tds66, decide_eq_true_eq, Bool.and_eq_true, Bool.not_eq_true', decide_eq_false_iff_not] at *; omega)))
        refine st_alloc td_ok rfl rfl rfl rfl rfl rfl (zs := [.v _, .v _, _]) rfl fun r11 hr11 => ?_
        refine st_store td_ok rfl rfl rfl rfl rfl rfl XH.put_same rfl (by ((repeat' with_reducible apply And.intro) <;> exact rfl)) (Nat.le_of_ble_eq_true rfl) (cs' := [.v _, .v _, _]) (T' := 25) rfl rfl ?_
        refine AOps_nil ?_
        refine qn ?_
        refine AWP_seq ?_
        have h411 := XH.ne hr4' hr11
        have hn11 := Own.nat hown.1 hr11
        refine AWP_region ?_
        refine st_own (r := .agg [.v _, .v _, _]) td_ok rfl rfl rfl rfl rfl rfl rfl XH.put_same (Nat.le_of_ble_eq_true rfl) rfl  ?_
        refine st td_ok rfl rfl rfl rfl (r := .v _) rfl trivial ?_
        refine st_own (r := .sl _ _ _) td_ok rfl rfl rfl rfl rfl rfl rfl (XH.put_ne (by (first | assumption | exact Ne.symm (by assumption) | (intro h; simp [XH.put, h] at *; done))) (XH.put_ne (by (first | assumption | exact Ne.symm (by assumption) | (intro h; simp [XH.put, h] at *; done))) (by assumption))) (Nat.le_of_ble_eq_true rfl) rfl  ?_
        refine st_pcall rfl rfl rfl rfl rfl rfl rfl ⟨_, rfl, rfl, rfl⟩ hc10 ?_
        refine st_alloc td_ok rfl rfl rfl rfl rfl rfl (zs := [.v _, .v _, _]) rfl fun r12 hr12 => ?_
        refine st_store td_ok rfl rfl rfl rfl rfl rfl XH.put_same rfl (by ((repeat' with_reducible apply And.intro) <;> exact rfl)) (Nat.le_of_ble_eq_true rfl) (cs' := [.v _, .v _, _]) (T' := 25) rfl rfl ?_
        refine AOps_nil ?_
        refine qn ?_
        refine AWP_seq ?_
        refine AWP_seq ?_
        have hr12n : X r12 = none := (XH.put_none (XH.put_none hr12).2).2
        have h412 := XH.ne hr4' hr12n
        have hn12 := Own.nat hown.1 hr12n
        refine AWP_region ?_
        refine st_own (r := .agg [.v _, .v _, _]) td_ok rfl rfl rfl rfl rfl rfl rfl XH.put_same (Nat.le_of_ble_eq_true rfl) rfl  ?_
        refine st_pcall rfl rfl rfl rfl rfl rfl rfl ⟨_, rfl, rfl, rfl⟩ hc11 ?_
        refine st td_ok rfl rfl rfl rfl (r := .v _) rfl trivial ?_
        refine AOps_nil ?_
        refine qn ?_
        refine AWP_cond rfl rfl (fun h3 => ?_) (fun h3 => ?_)
        ·
          refine AWP_seq ?_
          refine AWP_region ?_
          refine st td_ok rfl rfl rfl rfl (r := .sl _ _ _) rfl trivial ?_
          refine st td_ok rfl rfl rfl rfl (r := .v _) rfl trivial ?_
          refine AOps_nil ?_
          refine qn ?_
          refine AWP_ret ?_
          refine qr ?_
          refine qbr ?_
          refine qr ?_
          refine qr ?_
          refine qbr ?_
          refine qr ?_
          refine ⟨_, _, _, _, rfl, trivial, GS.forget _ _, ?_⟩
          first | show AV.v _ = _ | show AV.tup _ = _ | show AV.sl _ _ _ = _ | show AV.agg _ = _ | skip
          have h3' : (Ty.mk k4 n4 l4).size > 200 := by simp only [decide_eq_true_eq] at h3; omega
          rw [hF1, ← hx2, hno h3']; rfl
        ·
          refine AWP_skip ?_
          refine qn ?_
          refine AWP_region ?_
          refine st td_ok rfl rfl rfl rfl (r := _) rfl trivial ?_
          refine st_own (r := .agg [.v _, .v _, _]) td_ok rfl rfl rfl rfl rfl rfl rfl XH.put_same (Nat.le_of_ble_eq_true rfl) rfl  ?_
          refine st_lit td_ok rfl rfl rfl rfl rfl rfl rfl rfl rfl (by decide) (cs := [.v _, .v _, _]) rfl (by ((repeat' with_reducible apply And.intro) <;> (first | with_reducible exact trivial | exact rfl))) ?_
          refine st_append td_ok rfl rfl rfl rfl rfl rfl rfl rfl rfl rfl (.inl ⟨_, rfl⟩) (by decide) (Own.put (Own.put (Own.put (Own.put hown.1 hn11) hn11) hn12) hn12) rfl rfl rfl (by show (x.2.2.length + 1) * 40 ≤ _; omega) fun a71 X71 ho71 hr71 ha71 => ?_
          refine st td_ok rfl rfl rfl rfl (r := _) rfl trivial ?_
          refine AOps_nil ?_
          refine qbn ?_
          refine qn ?_
          refine AWP_region ?_
          refine st_eq td_ok rfl rfl rfl rfl (r := .v _) rfl trivial (w64 (by omega)) ?_
          refine st td_ok rfl rfl rfl rfl (r := .v _) rfl trivial ?_
          refine AOps_nil ?_
          refine qn ?_
          have h3' : ¬ (Ty.mk k4 n4 l4).size > 200 := by simp only [decide_eq_false_iff_not] at h3; omega
          refine ⟨(x.1 + 1, a71, x.2.2 ++ [Ty.mk k4 n4 l4]), by dsimp only; omega, by (repeat' (first | exact rfl | exact trivial | apply And.intro)), by dsimp only; omega, ⟨?_, by dsimp only; rw [List.length_append]; simp only [List.length_cons, List.length_nil]; omega⟩, hr71 r4 _ (XH.put_ne h412 (XH.put_ne h412 (XH.put_ne h411 (XH.put_ne h411 hr4')))) hn4, ?_, by dsimp only; rw [← hx2, hgo h3']⟩
          · dsimp only
            rw [Ty.encs_app, Ty.encs_one, List.length_append]
            exact ho71
          · dsimp only
            intro hc
            rcases ha71 r4 hc with h | h
            · exact absurd (h.symm.trans (XH.put_ne h412 (XH.put_ne h412 (XH.put_ne h411 (XH.put_ne h411 hr4'))))) (by simp)
            · exact hn4 h
      ·
        refine AWP_exit ?_
        refine qx ?_
        refine qx ?_
        refine qbh ?_
        refine qn ?_
        refine AWP_seq ?_
        refine AWP_region ?_
        refine st td_ok rfl rfl rfl rfl (r := _) rfl trivial ?_
        refine st td_ok rfl rfl rfl rfl (r := _) rfl trivial ?_
        refine st td_ok rfl rfl rfl rfl (r := .v _) rfl trivial ?_
        refine AOps_nil ?_
        refine qn ?_
        refine AWP_ret ?_
        obtain ⟨X', hgs, _⟩ := GS.give hown.1 [] [.v (.bool true)]
        refine ⟨_, _, _, _, rfl, trivial, (GS.tup hgs), ?_⟩
        first | show AV.v _ = _ | show AV.tup _ = _ | show AV.sl _ _ _ = _ | show AV.agg _ = _ | skip
        rw [hF1, ← hx2, List.drop_of_length_le (by simp only [decide_eq_false_iff_not] at h2; omega)]; rfl
end Go.Proofs.Ytgnfjahkhhkmoaa.V
