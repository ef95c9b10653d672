import Derived.Test.YtgnfjahkhhkmoaaU6
import Derived.KernelRfl
namespace Go.Proofs.Ytgnfjahkhhkmoaa.V
open Go
set_option linter.unusedSimpArgs false
set_option linter.unusedVariables false

theorem guard_no {b : Bool} (h : (bif false then b else !b) = true) : b = false := by cases b <;> simp_all
theorem n_ok {k n : Int} {m : Nat} (h : (bif (bif k != 5 then true else decide (n < 0)) then true else decide (n ≥ m)) = false) : n.toNat < m := by
  obtain ⟨h1, h2⟩ := or_no h
  obtain ⟨_, h3⟩ := or_no h1
  simp only [decide_eq_false_iff_not] at h2 h3
  omega
theorem n_ok2 {k n : Int} {m : Nat} (h : (bif (bif k != 5 then true else decide (n < 0)) then true else decide (n ≥ m)) = false) : 0 ≤ n ∧ n < m := by
  obtain ⟨h1, h2⟩ := or_no h
  obtain ⟨_, h3⟩ := or_no h1
  simp only [decide_eq_false_iff_not] at h2 h3
  omega
theorem Dat.get1 (d : Dat) : d.enc.getD 1 .any = .v (.int .i64 d.vars) := by cases d; rfl
theorem Dat.get2 (d : Dat) : d.enc.getD 2 .any = .sl false d.cons.length (d.cons.flatMap Con.enc) := by cases d; rfl
theorem Con.get1 (d : Con) : d.enc.getD 1 .any = .sl false d.args.length (Ty.encs d.args) := by cases d; rfl
set_option maxRecDepth 20000 in
theorem rFields_c (data : List Dat) (k n : Int) (sg : List Ty) (c : Int) (ta : Bool) (hd : dataOk data) (hsg : Ty.sizes sg ≤ 250) : PCalls Try.prog 8 [.sl ta data.length (data.flatMap Dat.enc), .agg (Ty.mk k n sg).enc, .v (.int .i64 c)] (fieldsA (fieldsF data k n sg c)) := by
  refine calls_body td_ok Try.func8 rfl rfl rfl ?_
  refine AWP_seq ?_
  refine AWP_region ?_
  refine st_box td_ok rfl rfl rfl rfl rfl rfl (by ((repeat' with_reducible apply And.intro) <;> exact rfl)) fun r4 hr4 => ?_
  refine st td_ok rfl rfl rfl rfl (r := .sl _ _ _) rfl trivial ?_
  refine st td_ok rfl rfl rfl rfl (r := .v _) rfl trivial ?_
  refine AOps_nil ?_
  refine qn ?_
  refine AWP_seq ?_
  refine AWP_seq ?_
  refine AWP_drawn rfl (by kernel_rfl) (by kernel_rfl) (by kernel_rfl) ?_
  refine es td_ok rfl rfl rfl (r := .v _) rfl trivial (rfl) ?_
  refine es_own (r := .v _) td_ok rfl rfl rfl rfl rfl rfl XH.put_same (Nat.le_of_ble_eq_true rfl) rfl ?_
  refine es td_ok rfl rfl rfl (r := .v _) rfl trivial (rfl) ?_
  refine es td_ok rfl rfl rfl (r := .v _) rfl trivial (rfl) ?_
  (refine esk0 td_ok rfl rfl rfl rfl (r := .v _) rfl ?_ ?_; · exact fun hg => ⟨by (repeat' (first | exact trivial | exact hg | exact (Bool.and_eq_true_iff.mp hg).1 | apply And.intro)), by exact trivial⟩)
  refine esk_own (r := .v _) td_ok rfl rfl rfl rfl rfl rfl rfl XH.put_same (fun hg => by (repeat' (first | exact trivial | exact hg | exact (Bool.and_eq_true_iff.mp hg).1 | apply And.intro))) (Nat.le_of_ble_eq_true rfl) rfl ?_
  (refine esk0 td_ok rfl rfl rfl rfl (r := .v _) rfl ?_ ?_; · exact fun hg => ⟨by (repeat' (first | exact trivial | exact hg | exact (Bool.and_eq_true_iff.mp hg).1 | apply And.intro)), by exact trivial⟩)
  (refine es td_ok rfl rfl rfl (r := .v _) rfl ?_ (rfl) ?_; · first | (simp_all; done) | ((repeat' with_reducible apply And.intro) <;> with_reducible exact trivial))
  refine es td_ok rfl rfl rfl (r := .v _) rfl trivial (rfl) ?_
  (refine esk0 td_ok rfl rfl rfl rfl (r := .v _) rfl ?_ ?_; · exact fun hg => ⟨by (repeat' (first | exact trivial | exact hg | exact (Bool.and_eq_true_iff.mp hg).1 | apply And.intro)), by exact trivial⟩)
  refine esk_own (r := .v _) td_ok rfl rfl rfl rfl rfl rfl rfl XH.put_same (fun hg => by (repeat' (first | exact trivial | exact hg | exact (Bool.and_eq_true_iff.mp hg).1 | apply And.intro))) (Nat.le_of_ble_eq_true rfl) rfl ?_
  (refine esk0 td_ok rfl rfl rfl rfl (r := .sl _ _ _) rfl ?_ ?_; · exact fun hg => ⟨by (repeat' (first | exact trivial | exact hg | exact (Bool.and_eq_true_iff.mp hg).1 | apply And.intro)), by exact trivial⟩)
  (refine esk0 td_ok rfl rfl rfl rfl (r := .v _) rfl ?_ ?_; · exact fun hg => ⟨by (repeat' (first | exact trivial | exact hg | exact (Bool.and_eq_true_iff.mp hg).1 | apply And.intro)), by exact trivial⟩)
  (refine esk0 td_ok rfl rfl rfl rfl (r := .v _) rfl ?_ ?_; · exact fun hg => ⟨by (repeat' (first | exact trivial | exact hg | exact (Bool.and_eq_true_iff.mp hg).1 | apply And.intro)), by exact trivial⟩)
  (refine es td_ok rfl rfl rfl (r := .v _) rfl ?_ (rfl) ?_; · first | (simp_all; done) | ((repeat' with_reducible apply And.intro) <;> with_reducible exact trivial))
  refine es td_ok rfl rfl rfl (r := .v _) rfl trivial (rfl) ?_
  (refine esk0 td_ok rfl rfl rfl rfl (r := .v _) rfl ?_ ?_; · exact fun hg => ⟨by (repeat' (first | exact trivial | exact hg | exact (Bool.and_eq_true_iff.mp hg).1 | apply And.intro)), by exact trivial⟩)
  refine esk_own (r := .sl _ _ _) td_ok rfl rfl rfl rfl rfl rfl rfl XH.put_same (fun hg => by (repeat' (first | exact trivial | exact hg | exact (Bool.and_eq_true_iff.mp hg).1 | apply And.intro))) (Nat.le_of_ble_eq_true rfl) rfl ?_
  (refine esk0 td_ok rfl rfl rfl rfl (r := .v _) rfl ?_ ?_; · exact fun hg => ⟨by (repeat' (first | exact trivial | exact hg | exact (Bool.and_eq_true_iff.mp hg).1 | apply And.intro)), by exact trivial⟩)
  (refine esk0 td_ok rfl rfl rfl rfl (r := .sl _ _ _) rfl ?_ ?_; · exact fun hg => ⟨by (repeat' (first | exact trivial | exact hg | exact (Bool.and_eq_true_iff.mp hg).1 | apply And.intro)), by exact trivial⟩)
  (refine esk0 td_ok rfl rfl rfl rfl (r := .v _) rfl ?_ ?_; · exact fun hg => ⟨by (repeat' (first | exact trivial | exact hg | exact (Bool.and_eq_true_iff.mp hg).1 | apply And.intro)), by exact trivial⟩)
  refine esk_own (r := .v _) td_ok rfl rfl rfl rfl rfl rfl rfl XH.put_same (fun hg => by (repeat' (first | exact trivial | exact hg | exact (Bool.and_eq_true_iff.mp hg).1 | apply And.intro))) (Nat.le_of_ble_eq_true rfl) rfl ?_
  (refine esk0 td_ok rfl rfl rfl rfl (r := .pp _ _) rfl ?_ ?_; · exact fun hg => ⟨by (repeat' (first | exact trivial | exact hg | exact (Bool.and_eq_true_iff.mp hg).1 | apply And.intro)), by have hq := n_ok2 (guard_no hg); clear hg; ((repeat' with_reducible apply And.intro) <;> (first | omega | (simp only [Ty.encs_len, Ty.enc_len, cons_len, dats_len, cond_true, cond_false, nd, Option.getD_none, Option.getD_some, Int.toNat_natCast, strs_len, nums_len, List.length_append, tds2, tds3, tds4, tds5, tds9, tds12, tds21, tds22, tds23, tds24, tds25, tds30, tds31, tds32, tds33, tds34, tds45, tds47, tds48, tds49, tds52, tds62, tds66, decide_eq_true_eq, Bool.and_eq_true, Bool.not_eq_true', decide_eq_false_iff_not] at *; omega)))⟩)
  (refine esk0 td_ok rfl rfl rfl rfl (r := .pp _ _) rfl ?_ ?_; · exact fun hg => ⟨by (repeat' (first | exact trivial | exact hg | exact (Bool.and_eq_true_iff.mp hg).1 | apply And.intro)), by exact trivial⟩)
  refine esk td_ok rfl rfl rfl rfl (r := _) rfl (fun hg => ⟨by (repeat' (first | exact trivial | exact hg | exact (Bool.and_eq_true_iff.mp hg).1 | apply And.intro)), by have hq := n_ok2 (guard_no hg); clear hg; ((repeat' with_reducible apply And.intro) <;> (simp only [Ty.encs_len, Ty.enc_len, cons_len, dats_len, cond_true, cond_false, nd, Option.getD_none, Option.getD_some, Int.toNat_natCast, strs_len, nums_len, List.length_append, tds2, tds3, tds4, tds5, tds9, tds12, tds21, tds22, tds23, tds24, tds25, tds30, tds31, tds32, tds33, tds34, tds45, tds47, tds48, tds49, tds52, tds62, tds66, decide_eq_true_eq, Bool.and_eq_true, Bool.not_eq_true', decide_eq_false_iff_not] at *; omega)), ((flat_cell_lt Dat.enc dat0 Dat.enc_len data n.toNat 1 (by decide) (n_ok (guard_no hg))).trans (Dat.get1 _))⟩) ?_
  (refine esk0 td_ok rfl rfl rfl rfl (r := .v _) rfl ?_ ?_; · exact fun hg => ⟨by (repeat' (first | exact trivial | exact hg | exact (Bool.and_eq_true_iff.mp hg).1 | apply And.intro)), by exact trivial⟩)
  (refine es td_ok rfl rfl rfl (r := .v _) rfl ?_ (rfl) ?_; · first | (simp_all; done) | ((repeat' with_reducible apply And.intro) <;> with_reducible exact trivial))
  refine es td_ok rfl rfl rfl (r := .v _) rfl trivial (rfl) ?_
  (refine esk0 td_ok rfl rfl rfl rfl (r := .v _) rfl ?_ ?_; · exact fun hg => ⟨by (repeat' (first | exact trivial | exact hg | exact (Bool.and_eq_true_iff.mp hg).1 | apply And.intro)), by exact trivial⟩)
  (refine esk0 td_ok rfl rfl rfl rfl (r := .v _) rfl ?_ ?_; · exact fun hg => ⟨by (repeat' (first | exact trivial | exact hg | exact (Bool.and_eq_true_iff.mp hg).1 | apply And.intro)), by exact trivial⟩)
  (refine es td_ok rfl rfl rfl (r := .v _) rfl ?_ (rfl) ?_; · first | (simp_all; done) | ((repeat' with_reducible apply And.intro) <;> with_reducible exact trivial))
  refine es td_ok rfl rfl rfl (r := .v _) rfl trivial (rfl) ?_
  (refine esk0 td_ok rfl rfl rfl rfl (r := .v _) rfl ?_ ?_; · exact fun hg => ⟨by (repeat' (first | exact trivial | exact hg | exact (Bool.and_eq_true_iff.mp hg).1 | apply And.intro)), by exact trivial⟩)
  (refine esk0 td_ok rfl rfl rfl rfl (r := .sl _ _ _) rfl ?_ ?_; · exact fun hg => ⟨by (repeat' (first | exact trivial | exact hg | exact (Bool.and_eq_true_iff.mp hg).1 | apply And.intro)), by exact trivial⟩)
  (refine esk0 td_ok rfl rfl rfl rfl (r := .v _) rfl ?_ ?_; · exact fun hg => ⟨by (repeat' (first | exact trivial | exact hg | exact (Bool.and_eq_true_iff.mp hg).1 | apply And.intro)), by exact trivial⟩)
  refine esk_own (r := .v _) td_ok rfl rfl rfl rfl rfl rfl rfl XH.put_same (fun hg => by (repeat' (first | exact trivial | exact hg | exact (Bool.and_eq_true_iff.mp hg).1 | apply And.intro))) (Nat.le_of_ble_eq_true rfl) rfl ?_
  (refine esk0 td_ok rfl rfl rfl rfl (r := .pp _ _) rfl ?_ ?_; · exact fun hg => ⟨by (repeat' (first | exact trivial | exact hg | exact (Bool.and_eq_true_iff.mp hg).1 | apply And.intro)), by have hq := n_ok2 (or_no (or_no (guard_no hg)).1).1; clear hg; ((repeat' with_reducible apply And.intro) <;> (first | omega | (simp only [Ty.encs_len, Ty.enc_len, cons_len, dats_len, cond_true, cond_false, nd, Option.getD_none, Option.getD_some, Int.toNat_natCast, strs_len, nums_len, List.length_append, tds2, tds3, tds4, tds5, tds9, tds12, tds21, tds22, tds23, tds24, tds25, tds30, tds31, tds32, tds33, tds34, tds45, tds47, tds48, tds49, tds52, tds62, tds66, decide_eq_true_eq, Bool.and_eq_true, Bool.not_eq_true', decide_eq_false_iff_not] at *; omega)))⟩)
  (refine esk0 td_ok rfl rfl rfl rfl (r := .pp _ _) rfl ?_ ?_; · exact fun hg => ⟨by (repeat' (first | exact trivial | exact hg | exact (Bool.and_eq_true_iff.mp hg).1 | apply And.intro)), by exact trivial⟩)
  refine esk td_ok rfl rfl rfl rfl (r := _) rfl (fun hg => ⟨by (repeat' (first | exact trivial | exact hg | exact (Bool.and_eq_true_iff.mp hg).1 | apply And.intro)), by have hq := n_ok2 (or_no (or_no (guard_no hg)).1).1; clear hg; ((repeat' with_reducible apply And.intro) <;> (simp only [Ty.encs_len, Ty.enc_len, cons_len, dats_len, cond_true, cond_false, nd, Option.getD_none, Option.getD_some, Int.toNat_natCast, strs_len, nums_len, List.length_append, tds2, tds3, tds4, tds5, tds9, tds12, tds21, tds22, tds23, tds24, tds25, tds30, tds31, tds32, tds33, tds34, tds45, tds47, tds48, tds49, tds52, tds62, tds66, decide_eq_true_eq, Bool.and_eq_true, Bool.not_eq_true', decide_eq_false_iff_not] at *; omega)), ((flat_cell_lt Dat.enc dat0 Dat.enc_len data n.toNat 2 (by decide) (n_ok (or_no (or_no (guard_no hg)).1).1)).trans (Dat.get2 _))⟩) ?_
  (refine esk0 td_ok rfl rfl rfl rfl (r := .v _) rfl ?_ ?_; · exact fun hg => ⟨by (repeat' (first | exact trivial | exact hg | exact (Bool.and_eq_true_iff.mp hg).1 | apply And.intro)), by exact trivial⟩)
  (refine esk0 td_ok rfl rfl rfl rfl (r := .v _) rfl ?_ ?_; · exact fun hg => ⟨by (repeat' (first | exact trivial | exact hg | exact (Bool.and_eq_true_iff.mp hg).1 | apply And.intro)), by exact trivial⟩)
  (refine es td_ok rfl rfl rfl (r := .v _) rfl ?_ (rfl) ?_; · first | (simp_all; done) | ((repeat' with_reducible apply And.intro) <;> with_reducible exact trivial))
  refine AOps_nil ?_
  refine qn ?_
  refine AWP_cond rfl rfl (fun h0 => ?_) (fun h0 => ?_)
  ·
    have hF : fieldsF data k n sg c = none := by
      unfold fieldsF
      split
      · rfl
      · rename_i hx
        have hx' : (bif (bif k != 5 then true else decide (n < 0)) then true else decide (n ≥ data.length)) = false := by simpa using hx
        unfold fieldsG
        rw [if_pos]
        rw [hx'] at h0
        exact h0
    refine AWP_seq ?_
    refine AWP_region ?_
    refine st td_ok rfl rfl rfl rfl (r := .sl _ _ _) rfl trivial ?_
    refine st td_ok rfl rfl rfl rfl (r := .v _) rfl trivial ?_
    refine AOps_nil ?_
    refine qn ?_
    refine AWP_ret ?_
    refine qr ?_
    refine ⟨_, _, _, _, rfl, trivial, GS.forget _ _, ?_⟩
    first | show AV.v _ = _ | show AV.tup _ = _ | show AV.sl _ _ _ = _ | show AV.agg _ = _ | skip
    rw [hF]; rfl
  ·
    obtain ⟨h0a, hc1⟩ := or_no h0
    obtain ⟨h0b, hc0⟩ := or_no h0a
    obtain ⟨h0c, hsl⟩ := or_no h0b
    have hF0 : fieldsF data k n sg c = fieldsG (data.getD n.toNat dat0) sg c := by unfold fieldsF; rw [if_neg (fun e => absurd (h0c.symm.trans e) (by simp))]
    have hF1 : fieldsG (data.getD n.toNat dat0) sg c = fieldsL sg ((data.getD n.toNat dat0).cons.getD c.toNat con0).args [] := by unfold fieldsG; rw [if_neg]; rw [show (bif ((sg.length : Int) != (data.getD n.toNat dat0).vars) then true else decide (c < 0)) = false by rw [hsl, hc0]; rfl, hc1]; simp
    have hlt := n_ok h0c
    obtain ⟨hn0, hn1⟩ := n_ok2 h0c
    simp only [decide_eq_false_iff_not] at hc0 hc1
    have hmem : data.getD n.toNat dat0 ∈ data := by rw [List.getD_eq_getElem?_getD, List.getElem?_eq_getElem hlt]; exact List.getElem_mem hlt
    have hdd := hd _ hmem
    obtain ⟨⟨nm, vs, cs⟩, hda⟩ : ∃ t, data.getD n.toNat dat0 = t := ⟨_, rfl⟩
    rw [hda] at hF0 hF1 hdd hc1
    simp only [Dat.cons] at hF1 hdd hc1
    have hlt2 : c.toNat < cs.length := by omega
    have hmem2 : cs.getD c.toNat con0 ∈ cs := by rw [List.getD_eq_getElem?_getD, List.getElem?_eq_getElem hlt2]; exact List.getElem_mem hlt2
    have hcc := hdd _ hmem2
    obtain ⟨⟨cn, ca⟩, hco⟩ : ∃ t, cs.getD c.toNat con0 = t := ⟨_, rfl⟩
    rw [hco] at hF1 hcc
    simp only [Con.args] at hF1 hcc
    rw [← hF0] at hF1
    have hcl := Ty.sizes_len ca
    clear h0 h0a h0b h0c
    refine AWP_skip ?_
    refine qn ?_
    refine AWP_seq ?_
    refine AWP_region ?_
    refine st td_ok rfl rfl rfl rfl (r := .sl _ _ _) rfl trivial ?_
    refine AOps_nil ?_
    refine qn ?_
    refine AWP_seq ?_
    refine AWP_seq ?_
    refine AWP_region ?_
    refine st td_ok rfl rfl rfl rfl (r := .sl _ _ _) rfl trivial ?_
    refine st td_ok rfl rfl rfl rfl (r := .v _) rfl trivial ?_
    refine st_own (r := .v _) td_ok rfl rfl rfl rfl rfl rfl rfl XH.put_same (Nat.le_of_ble_eq_true rfl) rfl  ?_
    (refine st td_ok rfl rfl rfl rfl (r := .pp _ _) rfl ?_ ?_; · ((repeat' with_reducible apply And.intro) <;> (first | with_reducible assumption | (simp only [Ty.encs_len, Ty.enc_len, cons_len, dats_len, cond_true, cond_false, nd, Option.getD_none, Option.getD_some, Int.toNat_natCast, strs_len, nums_len, List.length_append, tds2, tds3, tds4, tds5, tds9, tds12, tds21, tds22, tds23, tds24, tds25, tds30, tds31, tds32, tds33, tds34, tds45, tds47, tds48, tds49, tds52, tds62, tds66, decide_eq_true_eq, Bool.and_eq_true, Bool.not_eq_true', decide_eq_false_iff_not] at *; omega))))
    refine st td_ok rfl rfl rfl rfl (r := .pp _ _) rfl trivial ?_
    (refine st_eq td_ok rfl rfl rfl rfl (r := _) rfl ?_ ((show _ = AV.sl false cs.length (cs.flatMap Con.enc) from (flat_cell_lt Dat.enc dat0 Dat.enc_len data n.toNat 2 (by decide) hlt).trans (by rw [hda]; rfl))) ?_; · ((repeat' with_reducible apply And.intro) <;> (simp only [Ty.encs_len, Ty.enc_len, cons_len, dats_len, cond_true, cond_false, nd, Option.getD_none, Option.getD_some, Int.toNat_natCast, strs_len, nums_len, List.length_append, tds2, tds3, tds4, tds5, tds9, tds12, tds21, tds22, tds23, tds24, tds25, tds30, tds31, tds32, tds33, tds34, tds45, tds47, tds48, tds49, tds52, tds62, tds66, decide_eq_true_eq, Bool.and_eq_true, Bool.not_eq_true', decide_eq_false_iff_not] at *; omega)))
    refine st td_ok rfl rfl rfl rfl (r := .v _) rfl trivial ?_
    (refine st td_ok rfl rfl rfl rfl (r := .pp _ _) rfl ?_ ?_; · ((repeat' with_reducible apply And.intro) <;> (first | omega | (simp only [Ty.encs_len, Ty.enc_len, cons_len, dats_len, cond_true, cond_false, nd, Option.getD_none, Option.getD_some, Int.toNat_natCast, strs_len, nums_len, List.length_append, tds2, tds3, tds4, tds5, tds9, tds12, tds21, tds22, tds23, tds24, tds25, tds30, tds31, tds32, tds33, tds34, tds45, tds47, tds48, tds49, tds52, tds62, tds66, decide_eq_true_eq, Bool.and_eq_true, Bool.not_eq_true', decide_eq_false_iff_not] at *; omega))))
    refine st td_ok rfl rfl rfl rfl (r := .pp _ _) rfl trivial ?_
    (refine st_eq td_ok rfl rfl rfl rfl (r := _) rfl ?_ ((show _ = AV.sl false ca.length (Ty.encs ca) from (flat_cell_lt Con.enc con0 Con.enc_len cs c.toNat 1 (by decide) hlt2).trans (by rw [hco]; rfl))) ?_; · ((repeat' with_reducible apply And.intro) <;> (simp only [Ty.encs_len, Ty.enc_len, cons_len, dats_len, cond_true, cond_false, nd, Option.getD_none, Option.getD_some, Int.toNat_natCast, strs_len, nums_len, List.length_append, tds2, tds3, tds4, tds5, tds9, tds12, tds21, tds22, tds23, tds24, tds25, tds30, tds31, tds32, tds33, tds34, tds45, tds47, tds48, tds49, tds52, tds62, tds66, decide_eq_true_eq, Bool.and_eq_true, Bool.not_eq_true', decide_eq_false_iff_not] at *; omega)))
    refine st td_ok rfl rfl rfl rfl (r := .v _) rfl trivial ?_
    refine st td_ok rfl rfl rfl rfl (r := .v _) rfl trivial ?_
    refine AOps_nil ?_
    refine qn ?_
    refine AWP_block ?_
    refine AWP_for (fun (x : Nat × AV × List Ty) => [(4, .v (.pointer (some ⟨r4, 0, none⟩))), (8, x.2.1), (63, .sl false ca.length (Ty.encs ca)), (64, .v (.int .i64 ca.length)), (65, .v (.int .i64 x.1))]) (fun x X => x.1 ≤ ca.length ∧ (Own X 25 3 x.2.1 x.2.2.length (Ty.encs x.2.2) ∧ x.2.2.length = x.1) ∧ X r4 = some ⟨25, (Ty.mk k n sg).enc⟩ ∧ ¬ x.2.1.at? r4 ∧ fieldsL sg (ca.drop x.1) x.2.2 = fieldsL sg ca []) (fun x => ca.length - x.1) (0, .sl true 0 [], []) ⟨by (repeat' (first | exact rfl | exact trivial | apply And.intro)), ⟨Nat.zero_le _, ⟨Own.nil _ _ _, rfl⟩, XH.put_same, fun h => h, rfl⟩⟩ ?_
    rintro x X ⟨hx1, hown, hr4', hn4, hx2⟩
    refine AWP_seq ?_
    refine AWP_region ?_
    refine st td_ok rfl rfl rfl rfl (r := .v _) rfl trivial ?_
    refine AOps_nil ?_
    refine qn ?_
    refine AWP_seq ?_
    refine AWP_cond rfl rfl (fun h1 => ?_) (fun h1 => ?_)
    ·
      refine AWP_skip ?_
      refine qn ?_
      refine AWP_seq ?_
      refine AWP_block ?_
      refine AWP_seq ?_
      have hlt3 : x.1 < ca.length := Int.ofNat_lt.mp (of_decide_eq_true h1)
      have hgo := fieldsL_go (sg := sg) (acc := x.2.2) hlt3
      have hno := fieldsL_no (sg := sg) (acc := x.2.2) hlt3
      have hk := Ty.sizes_get ca x.1 hlt3
      obtain ⟨⟨k2, n2, l2⟩, hel⟩ : ∃ t, ca.getD x.1 ty0 = t := ⟨_, rfl⟩
      rw [hel] at hgo hno hk
      have hsz := substT_size sg (Ty.mk k2 n2 l2)
      have hsz2 : (Ty.mk k2 n2 l2).size * (1 + Ty.sizes sg) ≤ 20 * 251 := Nat.mul_le_mul (by omega) (by omega)
      have hc10 := rSubst_c sg false (by omega) _ (Ty.mk k2 n2 l2) (Nat.lt_succ_self _) (by omega)
      obtain ⟨⟨k4, n4, l4⟩, hs4⟩ : ∃ t, substT (Ty.mk k2 n2 l2) sg = t := ⟨_, rfl⟩
      rw [hs4] at hc10 hgo hno hsz
      have hc11 := Size_c _ (Ty.mk k4 n4 l4) (Nat.lt_succ_self _) (by omega)
      refine AWP_region ?_
      (refine st td_ok rfl rfl rfl rfl (r := .pp _ _) rfl ?_ ?_; · ((repeat' with_reducible apply And.intro) <;> (first | omega | (simp only [Ty.encs_len, Ty.enc_len, cons_len, dats_len, cond_true, cond_false, nd, Option.getD_none, Option.getD_some, Int.toNat_natCast, strs_len, nums_len, List.length_append, tds2, tds3, tds4, tds5, tds9, tds12, tds21, tds22, tds23, tds24, tds25, tds30, tds31, tds32, tds33, tds34, tds45, tds47, tds48, tds49, tds52, tds62, tds66, decide_eq_true_eq, Bool.and_eq_true, Bool.not_eq_true', decide_eq_false_iff_not] at *; omega))))
      (refine st_eq td_ok rfl rfl rfl rfl (r := _) rfl ?_ ((show _ = AV.agg (Ty.mk k2 n2 l2).enc from (Ty.at_lt ca x.1 hlt3 _).trans (by rw [hel]))) ?_; · ((repeat' with_reducible apply And.intro) <;> (simp only [Ty.encs_len, Ty.enc_len, cons_len, dats_len, cond_true, cond_false, nd, Option.getD_none, Option.getD_some, Int.toNat_natCast, strs_len, nums_len, List.length_append, tds2, tds3, tds4, tds5, tds9, tds12, tds21, tds22, tds23, tds24, tds25, tds30, tds31, tds32, tds33, tds34, tds45, tds47, tds48, tds49, tds52, tds62, tds66, decide_eq_true_eq, Bool.and_eq_true, Bool.not_eq_true', decide_eq_false_iff_not] at *; omega)))
      refine st_alloc td_ok rfl rfl rfl rfl rfl rfl (zs := [.v _, .v _, _]) rfl fun r10 hr10 => ?_
      refine st_store td_ok rfl rfl rfl rfl rfl rfl XH.put_same rfl (by ((repeat' with_reducible apply And.intro) <;> exact rfl)) (Nat.le_of_ble_eq_true rfl) (cs' := [.v _, .v _, _]) (T' := 25) rfl rfl ?_
      refine AOps_nil ?_
      refine qn ?_
      refine AWP_seq ?_
      have h411 := XH.ne hr4' hr10
      have hn11 := Own.nat hown.1 hr10
      refine AWP_region ?_
      refine st_own (r := .agg [.v _, .v _, _]) td_ok rfl rfl rfl rfl rfl rfl rfl XH.put_same (Nat.le_of_ble_eq_true rfl) rfl  ?_
      refine st td_ok rfl rfl rfl rfl (r := .v _) rfl trivial ?_
      refine st_own (r := .sl _ _ _) td_ok rfl rfl rfl rfl rfl rfl rfl (XH.put_ne (by (first | assumption | exact Ne.symm (by assumption) | (intro h; simp [XH.put, h] at *; done))) (XH.put_ne (by (first | assumption | exact Ne.symm (by assumption) | (intro h; simp [XH.put, h] at *; done))) (by assumption))) (Nat.le_of_ble_eq_true rfl) rfl  ?_
      refine st_pcall rfl rfl rfl rfl rfl rfl rfl ⟨_, rfl, rfl, rfl⟩ hc10 ?_
      refine st_alloc td_ok rfl rfl rfl rfl rfl rfl (zs := [.v _, .v _, _]) rfl fun r11 hr11 => ?_
      refine st_store td_ok rfl rfl rfl rfl rfl rfl XH.put_same rfl (by ((repeat' with_reducible apply And.intro) <;> exact rfl)) (Nat.le_of_ble_eq_true rfl) (cs' := [.v _, .v _, _]) (T' := 25) rfl rfl ?_
      refine AOps_nil ?_
      refine qn ?_
      refine AWP_seq ?_
      refine AWP_seq ?_
      have hr12n : X r11 = none := (XH.put_none (XH.put_none hr11).2).2
      have h412 := XH.ne hr4' hr12n
      have hn12 := Own.nat hown.1 hr12n
      refine AWP_region ?_
      refine st_own (r := .agg [.v _, .v _, _]) td_ok rfl rfl rfl rfl rfl rfl rfl XH.put_same (Nat.le_of_ble_eq_true rfl) rfl  ?_
      refine st_pcall rfl rfl rfl rfl rfl rfl rfl ⟨_, rfl, rfl, rfl⟩ hc11 ?_
      refine st td_ok rfl rfl rfl rfl (r := .v _) rfl trivial ?_
      refine AOps_nil ?_
      refine qn ?_
      refine AWP_cond rfl rfl (fun h2 => ?_) (fun h2 => ?_)
      ·
        refine AWP_seq ?_
        refine AWP_region ?_
        refine st td_ok rfl rfl rfl rfl (r := .sl _ _ _) rfl trivial ?_
        refine st td_ok rfl rfl rfl rfl (r := .v _) rfl trivial ?_
        refine AOps_nil ?_
        refine qn ?_
        refine AWP_ret ?_
        refine qr ?_
        refine qbr ?_
        refine qr ?_
        refine qr ?_
        refine qbr ?_
        refine qr ?_
        refine ⟨_, _, _, _, rfl, trivial, GS.forget _ _, ?_⟩
        first | show AV.v _ = _ | show AV.tup _ = _ | show AV.sl _ _ _ = _ | show AV.agg _ = _ | skip
        have h3' : (Ty.mk k4 n4 l4).size > 200 := by simp only [decide_eq_true_eq] at h2; omega
        rw [hF1, ← hx2, hno h3']; rfl
      ·
        refine AWP_skip ?_
        refine qn ?_
        refine AWP_region ?_
        refine st td_ok rfl rfl rfl rfl (r := _) rfl trivial ?_
        refine st_own (r := .agg [.v _, .v _, _]) td_ok rfl rfl rfl rfl rfl rfl rfl XH.put_same (Nat.le_of_ble_eq_true rfl) rfl  ?_
        refine st_lit td_ok rfl rfl rfl rfl rfl rfl rfl rfl rfl (by decide) (cs := [.v _, .v _, _]) rfl (by ((repeat' with_reducible apply And.intro) <;> (first | with_reducible exact trivial | exact rfl))) ?_
        refine st_append td_ok rfl rfl rfl rfl rfl rfl rfl rfl rfl rfl (.inl ⟨_, rfl⟩) (by decide) (Own.put (Own.put (Own.put (Own.put hown.1 hn11) hn11) hn12) hn12) rfl rfl rfl (by show (x.2.2.length + 1) * 40 ≤ _; omega) fun a79 X79 ho79 hr79 ha79 => ?_
        refine st td_ok rfl rfl rfl rfl (r := _) rfl trivial ?_
        refine AOps_nil ?_
        refine qbn ?_
        refine qn ?_
        refine AWP_region ?_
        refine st_eq td_ok rfl rfl rfl rfl (r := .v _) rfl trivial (w64 (by omega)) ?_
        refine st td_ok rfl rfl rfl rfl (r := .v _) rfl trivial ?_
        refine AOps_nil ?_
        refine qn ?_
        have h3' : ¬ (Ty.mk k4 n4 l4).size > 200 := by simp only [decide_eq_false_iff_not] at h2; omega
        refine ⟨(x.1 + 1, a79, x.2.2 ++ [Ty.mk k4 n4 l4]), by dsimp only; omega, by (repeat' (first | exact rfl | exact trivial | apply And.intro)), by dsimp only; omega, ⟨?_, by dsimp only; rw [List.length_append]; simp only [List.length_cons, List.length_nil]; omega⟩, hr79 r4 _ (XH.put_ne h412 (XH.put_ne h412 (XH.put_ne h411 (XH.put_ne h411 hr4')))) hn4, ?_, by dsimp only; rw [← hx2, hgo h3']⟩
        · dsimp only
          rw [Ty.encs_app, Ty.encs_one, List.length_append]
          exact ho79
        · dsimp only
          intro hc
          rcases ha79 r4 hc with h | h
          · exact absurd (h.symm.trans (XH.put_ne h412 (XH.put_ne h412 (XH.put_ne h411 (XH.put_ne h411 hr4'))))) (by simp)
          · exact hn4 h
    ·
      refine AWP_exit ?_
      refine qx ?_
      refine qx ?_
      refine qbh ?_
      refine qn ?_
      refine AWP_seq ?_
      refine AWP_region ?_
      refine st td_ok rfl rfl rfl rfl (r := _) rfl trivial ?_
      refine st td_ok rfl rfl rfl rfl (r := _) rfl trivial ?_
      refine st td_ok rfl rfl rfl rfl (r := .v _) rfl trivial ?_
      refine AOps_nil ?_
      refine qn ?_
      refine AWP_ret ?_
      obtain ⟨X', hgs, _⟩ := GS.give hown.1 [] [.v (.bool true)]
      refine ⟨_, _, _, _, rfl, trivial, (GS.tup hgs), ?_⟩
      first | show AV.v _ = _ | show AV.tup _ = _ | show AV.sl _ _ _ = _ | show AV.agg _ = _ | skip
      rw [hF1, ← hx2, List.drop_of_length_le (by simp only [decide_eq_false_iff_not] at h1; omega)]; rfl
end Go.Proofs.Ytgnfjahkhhkmoaa.V
