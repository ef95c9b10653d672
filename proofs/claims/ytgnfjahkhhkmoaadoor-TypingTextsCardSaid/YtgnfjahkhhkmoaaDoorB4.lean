import Derived.Test.YtgnfjahkhhkmoaaDoorB3
namespace Go.Proofs.YtgnfjahkhhkmoaaDoor.V
open Go
set_option linter.unusedSimpArgs false
set_option linter.unusedVariables false

inductive Con where
  | mk (name : ByteArray) (args : List Ty)
def Con.enc : Con → List AV
  | .mk nm l => [.v (.string nm), .sl false l.length (Ty.encs l)]
inductive Dat where
  | mk (name : ByteArray) (vars : Int) (cons : List Con)
def Dat.enc : Dat → List AV
  | .mk nm n l => [.v (.string nm), .v (.int .i64 n), .sl false l.length (l.flatMap Con.enc)]
def con0 : Con := .mk ⟨#[]⟩ []
def dat0 : Dat := .mk ⟨#[]⟩ 0 []
theorem Con.enc_len : ∀ c : Con, c.enc.length = 2
  | .mk _ _ => rfl
theorem Dat.enc_len : ∀ c : Dat, c.enc.length = 3
  | .mk _ _ _ => rfl
theorem cons_len (l : List Con) : (l.flatMap Con.enc).length = l.length * 2 := flat_len _ 2 Con.enc_len l
theorem dats_len (l : List Dat) : (l.flatMap Dat.enc).length = l.length * 3 := flat_len _ 3 Dat.enc_len l
def conF : Con → Bool
  | .mk nm l => bif (bif decide ((nm.size : Int) > 40) then true else decide ((l.length : Int) > 8)) then false else (typsF l 20).1
def datF : Dat → Bool
  | .mk nm _ l => bif (bif decide ((nm.size : Int) > 40) then true else decide ((l.length : Int) > 10)) then false else l.all conF
def dataF (l : List Dat) : Bool := bif decide ((l.length : Int) > 14) then false else l.all datF
theorem Data_c (l : List Dat) (ta : Bool) : PCalls Tryd.prog 4 [.sl ta l.length (l.flatMap Dat.enc)] (.v (.bool (dataF l))) := by
  refine calls_body td_ok Tryd.func4 rfl rfl rfl ?_
  refine AWP_seq ?_
  refine AWP_region ?_
  refine st td_ok rfl rfl rfl rfl (r := .v _) rfl trivial ?_
  refine AOps_nil ?_
  refine qn ?_
  refine AWP_seq ?_
  refine AWP_seq ?_
  refine AWP_region ?_
  refine st td_ok rfl rfl rfl rfl (r := .sl _ _ _) rfl trivial ?_
  refine st td_ok rfl rfl rfl rfl (r := .v _) rfl trivial ?_
  refine st td_ok rfl rfl rfl rfl (r := .v _) rfl trivial ?_
  refine AOps_nil ?_
  refine qn ?_
  refine AWP_cond rfl rfl (fun h0 => ?_) (fun h0 => ?_)
  ·
    have hF : dataF l = false := by unfold dataF; rw [h0]; rfl
    refine AWP_seq ?_
    refine AWP_region ?_
    refine st td_ok rfl rfl rfl rfl (r := .v _) rfl trivial ?_
    refine AOps_nil ?_
    refine qn ?_
    refine AWP_ret ?_
    refine qr ?_
    refine ⟨_, _, _, _, rfl, trivial, GS.forget _ _, ?_⟩
    first | show AV.v _ = _ | show AV.tup _ = _ | show AV.sl _ _ _ = _ | show AV.agg _ = _ | skip
    rw [hF]
  ·
    have hF : dataF l = l.all datF := by unfold dataF; rw [h0]; rfl
    have hl14 : l.length ≤ 14 := by simp only [decide_eq_false_iff_not] at h0; omega
    refine AWP_skip ?_
    refine qn ?_
    refine AWP_seq ?_
    refine AWP_seq ?_
    refine AWP_region ?_
    refine st td_ok rfl rfl rfl rfl (r := .sl _ _ _) rfl trivial ?_
    refine st td_ok rfl rfl rfl rfl (r := .v _) rfl trivial ?_
    refine st td_ok rfl rfl rfl rfl (r := .v _) rfl trivial ?_
    refine AOps_nil ?_
    refine qn ?_
    refine AWP_block ?_
    refine AWP_for (fun (j : Nat) => [(13, .sl ta l.length (l.flatMap Dat.enc)), (14, .v (.int .i64 l.length)), (15, .v (.int .i64 j))]) (fun j X => j ≤ l.length ∧ (l.drop j).all datF = l.all datF) (fun j => l.length - j) 0 ⟨by (repeat' (first | exact rfl | exact trivial | apply And.intro)), ⟨Nat.zero_le _, rfl⟩⟩ ?_
    rintro j X ⟨hj, hj2⟩
    refine AWP_seq ?_
    refine AWP_region ?_
    refine st td_ok rfl rfl rfl rfl (r := .v _) rfl trivial ?_
    refine AOps_nil ?_
    refine qn ?_
    refine AWP_seq ?_
    refine AWP_cond rfl rfl (fun h1 => ?_) (fun h1 => ?_)
    ·
      refine AWP_skip ?_
      refine qn ?_
      refine AWP_seq ?_
      refine AWP_block ?_
      refine AWP_seq ?_
      have hlt : j < l.length := Int.ofNat_lt.mp (of_decide_eq_true h1)
      obtain ⟨⟨nm, vs, cs⟩, hd⟩ : ∃ t, l.getD j dat0 = t := ⟨_, rfl⟩
      refine AWP_region ?_
      (refine st td_ok rfl rfl rfl rfl (r := .pp _ _) rfl ?_ ?_; · ((repeat' with_reducible apply And.intro) <;> (first | omega | (simp only [Ty.encs_len, Ty.enc_len, cons_len, dats_len, cond_true, cond_false, nd, Option.getD_none, Option.getD_some, Int.toNat_natCast, strs_len, nums_len, List.length_append, tds2, tds3, tds4, tds5, tds9, tds12, tds21, tds22, tds23, tds24, tds25, tds30, tds31, tds32, tds33, tds34, tds36, tds43, tds45, tds47, tds57, tds62, tds66, tds69, decide_eq_true_eq, Bool.and_eq_true, Bool.not_eq_true', decide_eq_false_iff_not] at *; omega))))
      (refine st_eq td_ok rfl rfl rfl rfl (r := _) rfl ?_ ((show _ = AV.agg (Dat.mk nm vs cs).enc from (congrArg AV.agg (flat_at_lt Dat.enc dat0 Dat.enc_len l j hlt)).trans (by rw [hd]))) ?_; · ((repeat' with_reducible apply And.intro) <;> (simp only [Ty.encs_len, Ty.enc_len, cons_len, dats_len, cond_true, cond_false, nd, Option.getD_none, Option.getD_some, Int.toNat_natCast, strs_len, nums_len, List.length_append, tds2, tds3, tds4, tds5, tds9, tds12, tds21, tds22, tds23, tds24, tds25, tds30, tds31, tds32, tds33, tds34, tds36, tds43, tds45, tds47, tds57, tds62, tds66, tds69, decide_eq_true_eq, Bool.and_eq_true, Bool.not_eq_true', decide_eq_false_iff_not] at *; omega)))
      refine st_alloc td_ok rfl rfl rfl rfl rfl rfl (zs := [.v _, .v _, _]) rfl fun r4 hr4 => ?_
      refine st_store td_ok rfl rfl rfl rfl rfl rfl XH.put_same rfl (by ((repeat' with_reducible apply And.intro) <;> exact rfl)) (Nat.le_of_ble_eq_true rfl) (cs' := [.v _, .v _, _]) (T' := 32) rfl rfl ?_
      refine AOps_nil ?_
      refine qn ?_
      refine AWP_seq ?_
      refine AWP_seq ?_
      refine AWP_region ?_
      refine st td_ok rfl rfl rfl rfl (r := .v _) rfl trivial ?_
      refine st_own (r := .v _) td_ok rfl rfl rfl rfl rfl rfl rfl XH.put_same (Nat.le_of_ble_eq_true rfl) rfl  ?_
      refine st td_ok rfl rfl rfl rfl (r := .v _) rfl trivial ?_
      refine st td_ok rfl rfl rfl rfl (r := .v _) rfl trivial ?_
      refine st td_ok rfl rfl rfl rfl (r := .v _) rfl trivial ?_
      (refine sgk0 td_ok rfl rfl rfl rfl rfl rfl (r := .v _) rfl ?_ ?_; · exact fun hg => ⟨by (repeat' (first | exact trivial | exact hg | exact (Bool.and_eq_true_iff.mp hg).1 | apply And.intro)), by exact trivial⟩)
      refine sgk_own (r := .sl _ _ _) td_ok rfl rfl rfl rfl rfl rfl rfl rfl rfl XH.put_same (fun hg => by (repeat' (first | exact trivial | exact hg | exact (Bool.and_eq_true_iff.mp hg).1 | apply And.intro))) (Nat.le_of_ble_eq_true rfl) rfl ?_
      (refine sgk0 td_ok rfl rfl rfl rfl rfl rfl (r := .v _) rfl ?_ ?_; · exact fun hg => ⟨by (repeat' (first | exact trivial | exact hg | exact (Bool.and_eq_true_iff.mp hg).1 | apply And.intro)), by exact trivial⟩)
      (refine sgk0 td_ok rfl rfl rfl rfl rfl rfl (r := .v _) rfl ?_ ?_; · exact fun hg => ⟨by (repeat' (first | exact trivial | exact hg | exact (Bool.and_eq_true_iff.mp hg).1 | apply And.intro)), by exact trivial⟩)
      (refine st td_ok rfl rfl rfl rfl (r := .v _) rfl ?_ ?_; · first | (simp_all; done) | ((repeat' with_reducible apply And.intro) <;> with_reducible exact trivial))
      refine AOps_nil ?_
      refine qn ?_
      refine AWP_cond rfl rfl (fun h2 => ?_) (fun h2 => ?_)
      ·
        have hD : datF (l.getD j dat0) = false := by rw [hd]; simp only [datF]; rw [show (bif decide ((nm.size : Int) > 40) then true else decide ((cs.length : Int) > 10)) = true from h2]; rfl
        refine AWP_seq ?_
        refine AWP_region ?_
        refine st td_ok rfl rfl rfl rfl (r := .v _) rfl trivial ?_
        refine AOps_nil ?_
        refine qn ?_
        refine AWP_ret ?_
        refine qr ?_
        refine qbr ?_
        refine qr ?_
        refine qr ?_
        refine qbr ?_
        refine qr ?_
        refine ⟨_, _, _, _, rfl, trivial, GS.forget _ _, ?_⟩
        first | show AV.v _ = _ | show AV.tup _ = _ | show AV.sl _ _ _ = _ | show AV.agg _ = _ | skip
        rw [hF, ← hj2, all_no hlt hD]
      ·
        have hD : datF (l.getD j dat0) = cs.all conF := by rw [hd]; simp only [datF]; rw [show (bif decide ((nm.size : Int) > 40) then true else decide ((cs.length : Int) > 10)) = false from h2]; rfl
        have hc10 : cs.length ≤ 10 := by have := (or_no h2).2; simp only [decide_eq_false_iff_not] at this; omega
        refine AWP_skip ?_
        refine qn ?_
        refine AWP_seq ?_
        refine AWP_region ?_
        refine st td_ok rfl rfl rfl rfl (r := .v _) rfl trivial ?_
        refine st_own (r := .sl _ _ _) td_ok rfl rfl rfl rfl rfl rfl rfl XH.put_same (Nat.le_of_ble_eq_true rfl) rfl  ?_
        refine st td_ok rfl rfl rfl rfl (r := .v _) rfl trivial ?_
        refine st td_ok rfl rfl rfl rfl (r := .v _) rfl trivial ?_
        refine AOps_nil ?_
        refine qn ?_
        refine AWP_block ?_
        refine AWP_for (fun (i : Nat) => [(13, .sl ta l.length (l.flatMap Dat.enc)), (14, .v (.int .i64 l.length)), (15, .v (.int .i64 j)), (30, .sl false cs.length (cs.flatMap Con.enc)), (31, .v (.int .i64 cs.length)), (32, .v (.int .i64 i))]) (fun i X => i ≤ cs.length ∧ (cs.drop i).all conF = cs.all conF) (fun i => cs.length - i) 0 ⟨by (repeat' (first | exact rfl | exact trivial | apply And.intro)), ⟨Nat.zero_le _, rfl⟩⟩ ?_
        rintro i X ⟨hi, hi2⟩
        refine AWP_seq ?_
        refine AWP_region ?_
        refine st td_ok rfl rfl rfl rfl (r := .v _) rfl trivial ?_
        refine AOps_nil ?_
        refine qn ?_
        refine AWP_seq ?_
        refine AWP_cond rfl rfl (fun h3 => ?_) (fun h3 => ?_)
        ·
          refine AWP_skip ?_
          refine qn ?_
          refine AWP_seq ?_
          refine AWP_block ?_
          refine AWP_seq ?_
          have hlt2 : i < cs.length := Int.ofNat_lt.mp (of_decide_eq_true h3)
          obtain ⟨⟨cn, ca⟩, hc⟩ : ∃ t, cs.getD i con0 = t := ⟨_, rfl⟩
          refine AWP_region ?_
          (refine st td_ok rfl rfl rfl rfl (r := .pp _ _) rfl ?_ ?_; · ((repeat' with_reducible apply And.intro) <;> (first | omega | (simp only [Ty.encs_len, Ty.enc_len, cons_len, dats_len, cond_true, cond_false, nd, Option.getD_none, Option.getD_some, Int.toNat_natCast, strs_len, nums_len, List.length_append, tds2, tds3, tds4, tds5, tds9, tds12, tds21, tds22, tds23, tds24, tds25, tds30, tds31, tds32, tds33, tds34, tds36, tds43, tds45, tds47, tds57, tds62, tds66, tds69, decide_eq_true_eq, Bool.and_eq_true, Bool.not_eq_true', decide_eq_false_iff_not] at *; omega))))
          (refine st_eq td_ok rfl rfl rfl rfl (r := _) rfl ?_ ((show _ = AV.agg (Con.mk cn ca).enc from (congrArg AV.agg (flat_at_lt Con.enc con0 Con.enc_len cs i hlt2)).trans (by rw [hc]))) ?_; · ((repeat' with_reducible apply And.intro) <;> (simp only [Ty.encs_len, Ty.enc_len, cons_len, dats_len, cond_true, cond_false, nd, Option.getD_none, Option.getD_some, Int.toNat_natCast, strs_len, nums_len, List.length_append, tds2, tds3, tds4, tds5, tds9, tds12, tds21, tds22, tds23, tds24, tds25, tds30, tds31, tds32, tds33, tds34, tds36, tds43, tds45, tds47, tds57, tds62, tds66, tds69, decide_eq_true_eq, Bool.and_eq_true, Bool.not_eq_true', decide_eq_false_iff_not] at *; omega)))
          refine st_alloc td_ok rfl rfl rfl rfl rfl rfl (zs := [.v _, _]) rfl fun r6 hr6 => ?_
          refine st_store td_ok rfl rfl rfl rfl rfl rfl XH.put_same rfl (by ((repeat' with_reducible apply And.intro) <;> exact rfl)) (Nat.le_of_ble_eq_true rfl) (cs' := [.v _, _]) (T' := 34) rfl rfl ?_
          refine AOps_nil ?_
          refine qn ?_
          refine AWP_seq ?_
          refine AWP_seq ?_
          refine AWP_region ?_
          refine st td_ok rfl rfl rfl rfl (r := .v _) rfl trivial ?_
          refine st_own (r := .v _) td_ok rfl rfl rfl rfl rfl rfl rfl XH.put_same (Nat.le_of_ble_eq_true rfl) rfl  ?_
          refine st td_ok rfl rfl rfl rfl (r := .v _) rfl trivial ?_
          refine st td_ok rfl rfl rfl rfl (r := .v _) rfl trivial ?_
          refine st td_ok rfl rfl rfl rfl (r := .v _) rfl trivial ?_
          (refine sgk0 td_ok rfl rfl rfl rfl rfl rfl (r := .v _) rfl ?_ ?_; · exact fun hg => ⟨by (repeat' (first | exact trivial | exact hg | exact (Bool.and_eq_true_iff.mp hg).1 | apply And.intro)), by exact trivial⟩)
          refine sgk_own (r := .sl _ _ _) td_ok rfl rfl rfl rfl rfl rfl rfl rfl rfl XH.put_same (fun hg => by (repeat' (first | exact trivial | exact hg | exact (Bool.and_eq_true_iff.mp hg).1 | apply And.intro))) (Nat.le_of_ble_eq_true rfl) rfl ?_
          (refine sgk0 td_ok rfl rfl rfl rfl rfl rfl (r := .v _) rfl ?_ ?_; · exact fun hg => ⟨by (repeat' (first | exact trivial | exact hg | exact (Bool.and_eq_true_iff.mp hg).1 | apply And.intro)), by exact trivial⟩)
          (refine sgk0 td_ok rfl rfl rfl rfl rfl rfl (r := .v _) rfl ?_ ?_; · exact fun hg => ⟨by (repeat' (first | exact trivial | exact hg | exact (Bool.and_eq_true_iff.mp hg).1 | apply And.intro)), by exact trivial⟩)
          (refine st td_ok rfl rfl rfl rfl (r := .v _) rfl ?_ ?_; · first | (simp_all; done) | ((repeat' with_reducible apply And.intro) <;> with_reducible exact trivial))
          refine AOps_nil ?_
          refine qn ?_
          refine AWP_cond rfl rfl (fun h4 => ?_) (fun h4 => ?_)
          ·
            have hC : conF (cs.getD i con0) = false := by rw [hc]; simp only [conF]; rw [show (bif decide ((cn.size : Int) > 40) then true else decide ((ca.length : Int) > 8)) = true from h4]; rfl
            refine AWP_seq ?_
            refine AWP_region ?_
            refine st td_ok rfl rfl rfl rfl (r := .v _) rfl trivial ?_
            refine AOps_nil ?_
            refine qn ?_
            refine AWP_ret ?_
            refine qr ?_
            refine qbr ?_
            refine qr ?_
            refine qr ?_
            refine qbr ?_
            refine qbr ?_
            refine qr ?_
            refine qr ?_
            refine qbr ?_
            refine qr ?_
            refine ⟨_, _, _, _, rfl, trivial, GS.forget _ _, ?_⟩
            first | show AV.v _ = _ | show AV.tup _ = _ | show AV.sl _ _ _ = _ | show AV.agg _ = _ | skip
            rw [hF, ← hj2, all_no hlt (hD.trans (hi2.symm.trans (all_no hlt2 hC)))]
          ·
            have hC : conF (cs.getD i con0) = (typsF ca 20).1 := by rw [hc]; simp only [conF]; rw [show (bif decide ((cn.size : Int) > 40) then true else decide ((ca.length : Int) > 8)) = false from h4]; rfl
            have hc8 : ca.length ≤ 8 := by have := (or_no h4).2; simp only [decide_eq_false_iff_not] at this; omega
            refine AWP_skip ?_
            refine qn ?_
            refine AWP_seq ?_
            refine AWP_region ?_
            refine st_alloc td_ok rfl rfl rfl rfl rfl rfl (zs := [.v _]) rfl fun r7 hr7 => ?_
            refine st_store td_ok rfl rfl rfl rfl rfl rfl XH.put_same rfl (by ((repeat' with_reducible apply And.intro) <;> exact rfl)) (Nat.le_of_ble_eq_true rfl) (cs' := [.v _]) (T' := 3) rfl rfl ?_
            refine AOps_nil ?_
            refine qn ?_
            refine AWP_seq ?_
            refine AWP_region ?_
            refine st td_ok rfl rfl rfl rfl (r := .v _) rfl trivial ?_
            refine st_own (r := .sl _ _ _) td_ok rfl rfl rfl rfl rfl rfl rfl (XH.put_ne (by (first | assumption | exact Ne.symm (by assumption) | (intro h; simp [XH.put, h] at *; done))) (XH.put_ne (by (first | assumption | exact Ne.symm (by assumption) | (intro h; simp [XH.put, h] at *; done))) XH.put_same)) (Nat.le_of_ble_eq_true rfl) rfl  ?_
            refine st td_ok rfl rfl rfl rfl (r := .v _) rfl trivial ?_
            refine st td_ok rfl rfl rfl rfl (r := .v _) rfl trivial ?_
            refine AOps_nil ?_
            refine qn ?_
            refine AWP_block ?_
            refine AWP_for (fun (x : Nat × Int) => [(7, .v (.pointer (some ⟨r7, 0, none⟩))), (13, .sl ta l.length (l.flatMap Dat.enc)), (14, .v (.int .i64 l.length)), (15, .v (.int .i64 j)), (30, .sl false cs.length (cs.flatMap Con.enc)), (31, .v (.int .i64 cs.length)), (32, .v (.int .i64 i)), (47, .sl false ca.length (Ty.encs ca)), (48, .v (.int .i64 ca.length)), (49, .v (.int .i64 x.1))]) (fun x X => X r7 = some (leftC x.2) ∧ x.1 ≤ ca.length ∧ 0 ≤ x.2 ∧ x.2 ≤ 20 ∧ typsF (ca.drop x.1) x.2 = typsF ca 20) (fun x => ca.length - x.1) (0, 20) ⟨by (repeat' (first | exact rfl | exact trivial | apply And.intro)), ⟨XH.put_same, Nat.zero_le _, by decide, by decide, rfl⟩⟩ ?_
            rintro x X ⟨hr7', hx1, hx2, hx3, hx4⟩
            refine AWP_seq ?_
            refine AWP_region ?_
            refine st td_ok rfl rfl rfl rfl (r := .v _) rfl trivial ?_
            refine AOps_nil ?_
            refine qn ?_
            refine AWP_seq ?_
            refine AWP_cond rfl rfl (fun h5 => ?_) (fun h5 => ?_)
            ·
              refine AWP_skip ?_
              refine qn ?_
              refine AWP_seq ?_
              refine AWP_block ?_
              refine AWP_seq ?_
              have hlt3 : x.1 < ca.length := Int.ofNat_lt.mp (of_decide_eq_true h5)
              have hlo := typF_le (ca.getD x.1 ty0) x.2 hx2
              have hty := typsF_go (l := ca) (n := x.2) hlt3
              have htn := typsF_no (l := ca) (n := x.2) hlt3
              obtain ⟨⟨k2, n2, l2⟩, hel⟩ : ∃ t, ca.getD x.1 ty0 = t := ⟨_, rfl⟩
              rw [hel] at hlo hty htn
              refine AWP_region ?_
              (refine st td_ok rfl rfl rfl rfl (r := .pp _ _) rfl ?_ ?_; · ((repeat' with_reducible apply And.intro) <;> (first | omega | (simp only [Ty.encs_len, Ty.enc_len, cons_len, dats_len, cond_true, cond_false, nd, Option.getD_none, Option.getD_some, Int.toNat_natCast, strs_len, nums_len, List.length_append, tds2, tds3, tds4, tds5, tds9, tds12, tds21, tds22, tds23, tds24, tds25, tds30, tds31, tds32, tds33, tds34, tds36, tds43, tds45, tds47, tds57, tds62, tds66, tds69, decide_eq_true_eq, Bool.and_eq_true, Bool.not_eq_true', decide_eq_false_iff_not] at *; omega))))
              (refine st_eq td_ok rfl rfl rfl rfl (r := _) rfl ?_ ((show _ = AV.agg (Ty.mk k2 n2 l2).enc from (Ty.at_lt ca x.1 hlt3 _).trans (by rw [hel]))) ?_; · ((repeat' with_reducible apply And.intro) <;> (simp only [Ty.encs_len, Ty.enc_len, cons_len, dats_len, cond_true, cond_false, nd, Option.getD_none, Option.getD_some, Int.toNat_natCast, strs_len, nums_len, List.length_append, tds2, tds3, tds4, tds5, tds9, tds12, tds21, tds22, tds23, tds24, tds25, tds30, tds31, tds32, tds33, tds34, tds36, tds43, tds45, tds47, tds57, tds62, tds66, tds69, decide_eq_true_eq, Bool.and_eq_true, Bool.not_eq_true', decide_eq_false_iff_not] at *; omega)))
              refine st_alloc td_ok rfl rfl rfl rfl rfl rfl (zs := [.v _, .v _, _]) rfl fun r9 hr9 => ?_
              refine st_store td_ok rfl rfl rfl rfl rfl rfl XH.put_same rfl (by ((repeat' with_reducible apply And.intro) <;> exact rfl)) (Nat.le_of_ble_eq_true rfl) (cs' := [.v _, .v _, _]) (T' := 25) rfl rfl ?_
              refine AOps_nil ?_
              refine qn ?_
              refine AWP_seq ?_
              have h79 := XH.ne hr7' hr9
              refine AWP_region ?_
              refine st_own (r := .agg [.v _, .v _, _]) td_ok rfl rfl rfl rfl rfl rfl rfl XH.put_same (Nat.le_of_ble_eq_true rfl) rfl  ?_
              refine st_call rfl rfl rfl rfl rfl rfl rfl ⟨_, rfl, rfl, rfl⟩ (ACalls.mono (ACalls.cell (typ_c _ (Ty.mk k2 n2 l2) x.2 r7 (Nat.lt_succ_self _) hx2 (by omega)) (XH.put_ne h79 (XH.put_ne h79 hr7'))) ?_)
              rintro av X' ⟨o', rfl, rfl, rfl⟩
              refine st td_ok rfl rfl rfl rfl (r := .v _) rfl trivial ?_
              refine AOps_nil ?_
              refine qn ?_
              refine AWP_cond rfl rfl (fun h6 => ?_) (fun h6 => ?_)
              ·
                refine AWP_seq ?_
                refine AWP_region ?_
                refine st td_ok rfl rfl rfl rfl (r := .v _) rfl trivial ?_
                refine AOps_nil ?_
                refine qn ?_
                refine AWP_ret ?_
                refine qbr ?_
                refine qr ?_
                refine qr ?_
                refine qbr ?_
                refine qbr ?_
                refine qr ?_
                refine qr ?_
                refine qbr ?_
                refine qbr ?_
                refine qr ?_
                refine qr ?_
                refine qbr ?_
                refine qr ?_
                refine ⟨_, _, _, _, rfl, trivial, GS.forget _ _, ?_⟩
                first | show AV.v _ = _ | show AV.tup _ = _ | show AV.sl _ _ _ = _ | show AV.agg _ = _ | skip
                have e : (typsF ca 20).1 = false := by rw [← hx4, htn (by simpa using h6)]
                rw [hF, ← hj2, all_no hlt (hD.trans (hi2.symm.trans (all_no hlt2 (hC.trans e))))]
              ·
                refine AWP_skip ?_
                refine qbn ?_
                refine qn ?_
                refine AWP_region ?_
                refine st_eq td_ok rfl rfl rfl rfl (r := .v _) rfl trivial (w64 (by omega)) ?_
                refine st td_ok rfl rfl rfl rfl (r := .v _) rfl trivial ?_
                refine AOps_nil ?_
                refine qn ?_
                have h6' : (typF (Ty.mk k2 n2 l2) x.2).1 = true := by simpa using h6
                exact ⟨(x.1 + 1, (typF (Ty.mk k2 n2 l2) x.2).2), by dsimp only; omega, by (repeat' (first | exact rfl | exact trivial | apply And.intro)), XH.put_same, by dsimp only; omega, hlo.2.2 h6', by dsimp only; omega, by dsimp only; rw [← hx4, hty h6']⟩
            ·
              refine AWP_exit ?_
              refine qx ?_
              refine qx ?_
              refine qbh ?_
              refine qbn ?_
              refine qn ?_
              refine AWP_region ?_
              refine st_eq td_ok rfl rfl rfl rfl (r := .v _) rfl trivial (w64 (by omega)) ?_
              refine st td_ok rfl rfl rfl rfl (r := .v _) rfl trivial ?_
              refine AOps_nil ?_
              refine qn ?_
              have e : (typsF ca 20).1 = true := by rw [← hx4, List.drop_of_length_le (by simp only [decide_eq_false_iff_not] at h5; omega)]; rfl
              rw [e] at hC
              exact ⟨i + 1, by omega, by (repeat' (first | exact rfl | exact trivial | apply And.intro)), by omega, by rw [← hi2, all_go hlt2 hC]⟩
        ·
          refine AWP_exit ?_
          refine qx ?_
          refine qx ?_
          refine qbh ?_
          refine qbn ?_
          refine qn ?_
          refine AWP_region ?_
          refine st_eq td_ok rfl rfl rfl rfl (r := .v _) rfl trivial (w64 (by omega)) ?_
          refine st td_ok rfl rfl rfl rfl (r := .v _) rfl trivial ?_
          refine AOps_nil ?_
          refine qn ?_
          have e : cs.all conF = true := by rw [← hi2]; exact all_end (by simp only [decide_eq_false_iff_not] at h3; omega)
          rw [e] at hD
          exact ⟨j + 1, by omega, by (repeat' (first | exact rfl | exact trivial | apply And.intro)), by omega, by rw [← hj2, all_go hlt hD]⟩
    ·
      refine AWP_exit ?_
      refine qx ?_
      refine qx ?_
      refine qbh ?_
      refine qn ?_
      refine AWP_seq ?_
      refine AWP_region ?_
      refine st td_ok rfl rfl rfl rfl (r := .v _) rfl trivial ?_
      refine AOps_nil ?_
      refine qn ?_
      refine AWP_ret ?_
      refine ⟨_, _, _, _, rfl, trivial, GS.forget _ _, ?_⟩
      first | show AV.v _ = _ | show AV.tup _ = _ | show AV.sl _ _ _ = _ | show AV.agg _ = _ | skip
      rw [hF, ← hj2, all_end (by simp only [decide_eq_false_iff_not] at h1; omega)]
end Go.Proofs.YtgnfjahkhhkmoaaDoor.V
