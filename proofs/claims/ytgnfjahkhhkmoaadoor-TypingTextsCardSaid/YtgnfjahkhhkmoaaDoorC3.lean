import Derived.Test.YtgnfjahkhhkmoaaDoorC2
namespace Go.Proofs.YtgnfjahkhhkmoaaDoor.V
open Go
set_option linter.unusedSimpArgs false
set_option linter.unusedVariables false
set_option maxRecDepth 20000

theorem validT_leaf {data : List Dat} {vars k n : Int} {l : List Ty} (h : headV data vars k n l.length = true → l.length = 0) : validT data vars (.mk k n l) = headV data vars k n l.length := by
  simp only [validT]
  cases hh : headV data vars k n l.length with
  | false => rfl
  | true =>
    have := h hh
    have e : l = [] := by cases l with | nil => rfl | cons _ _ => simp at this
    subst e; rfl
theorem validT_no {data : List Dat} {vars k n : Int} {l : List Ty} (h : headV data vars k n l.length = false) : validT data vars (.mk k n l) = false := by simp only [validT, h, Bool.false_and]
theorem validT_go {data : List Dat} {vars k n : Int} {l : List Ty} (h : headV data vars k n l.length = true) : validT data vars (.mk k n l) = l.all (validT data vars) := by simp only [validT, h, Bool.true_and, validL_all]
theorem Dat.enc_vars : ∀ d : Dat, d.enc.getD 1 .any = .v (.int .i64 d.vars)
  | .mk _ _ _ => rfl
theorem rvalid_c (data : List Dat) (ta : Bool) (vars : Int) (hd : data.length ≤ 1000000000) (m : Nat) : ∀ (t : Ty), t.size < m → t.size ≤ 1000000000 → PCalls Tryd.prog 14 [.sl ta data.length (data.flatMap Dat.enc), .agg t.enc, .v (.int .i64 vars)] (.v (.bool (validT data vars t))) := by
  induction m with
  | zero => intro t h; omega
  | succ m ih =>
    rintro ⟨k, n, l⟩ hsz hs
    simp only [Ty.size] at hs
    have hll := Ty.sizes_len l
    refine calls_body td_ok Tryd.func14 rfl rfl rfl ?_
    refine AWP_seq ?_
    refine AWP_region ?_
    refine st_box td_ok rfl rfl rfl rfl rfl rfl (by ((repeat' with_reducible apply And.intro) <;> exact rfl)) fun r4 hr4 => ?_
    refine st td_ok rfl rfl rfl rfl (r := .v _) rfl trivial ?_
    refine AOps_nil ?_
    refine qn ?_
    refine AWP_seq ?_
    refine AWP_region ?_
    refine st td_ok rfl rfl rfl rfl (r := .v _) rfl trivial ?_
    refine st_own (r := .sl _ _ _) td_ok rfl rfl rfl rfl rfl rfl rfl XH.put_same (Nat.le_of_ble_eq_true rfl) rfl  ?_
    refine st td_ok rfl rfl rfl rfl (r := .v _) rfl trivial ?_
    refine st td_ok rfl rfl rfl rfl (r := .v _) rfl trivial ?_
    refine AOps_nil ?_
    refine qn ?_
    refine AWP_cut (fun (x : Unit) => [(0, .sl ta data.length (data.flatMap Dat.enc)), (2, .v (.int .i64 vars)), (4, .v (.pointer (some ⟨r4, 0, none⟩))), (7, .v (.int .i64 l.length))]) (fun x X => X r4 = some ⟨25, (Ty.mk k n l).enc⟩ ∧ headV data vars k n l.length = true) ?_ ?_
    ·
      refine AWP_seq ?_
      refine AWP_region ?_
      refine st td_ok rfl rfl rfl rfl (r := .v _) rfl trivial ?_
      refine st_own (r := .v _) td_ok rfl rfl rfl rfl rfl rfl rfl XH.put_same (Nat.le_of_ble_eq_true rfl) rfl  ?_
      refine AOps_nil ?_
      refine qn ?_
      refine AWP_block ?_
      refine AWP_cut (fun (b : Bool) => [(0, .sl ta data.length (data.flatMap Dat.enc)), (2, .v (.int .i64 vars)), (4, .v (.pointer (some ⟨r4, 0, none⟩))), (7, .v (.int .i64 l.length)), (13, .v (.int .i64 k)), (14, .v (.bool b))]) (fun b X => X r4 = some ⟨25, (Ty.mk k n l).enc⟩ ∧ b = (bif k == 1 then true else bif k == 2 then true else k == 3)) ?_ ?_
      ·
        refine AWP_seq ?_
        refine AWP_region ?_
        refine st td_ok rfl rfl rfl rfl (r := .v _) rfl trivial ?_
        refine st td_ok rfl rfl rfl rfl (r := .v _) rfl trivial ?_
        refine AOps_nil ?_
        refine qn ?_
        refine AWP_cond rfl rfl (fun h0 => ?_) (fun h0 => ?_)
        ·
          refine AWP_skip ?_
          refine qn ?_
          exact ⟨_, by (repeat' (first | exact rfl | exact trivial | apply And.intro)), XH.put_same, by rw [h0]; rfl⟩
        ·
          refine AWP_seq ?_
          refine AWP_region ?_
          refine st td_ok rfl rfl rfl rfl (r := .v _) rfl trivial ?_
          refine st td_ok rfl rfl rfl rfl (r := .v _) rfl trivial ?_
          refine AOps_nil ?_
          refine qn ?_
          refine AWP_cond rfl rfl (fun h1 => ?_) (fun h1 => ?_)
          ·
            refine AWP_skip ?_
            refine qn ?_
            exact ⟨_, by (repeat' (first | exact rfl | exact trivial | apply And.intro)), XH.put_same, by rw [h0, h1]; rfl⟩
          ·
            refine AWP_region ?_
            refine st td_ok rfl rfl rfl rfl (r := .v _) rfl trivial ?_
            refine st td_ok rfl rfl rfl rfl (r := .v _) rfl trivial ?_
            refine AOps_nil ?_
            refine qn ?_
            exact ⟨_, by (repeat' (first | exact rfl | exact trivial | apply And.intro)), XH.put_same, by rw [h0, h1]; rfl⟩
      ·
        rintro b X ⟨hX, hb⟩
        refine AWP_cond rfl rfl (fun h2 => ?_) (fun h2 => ?_)
        ·
          have hk : k = 1 ∨ k = 2 ∨ k = 3 := by subst hb; simp only [Bool.cond_eq_ite, Bool.if_true_left, Bool.or_eq_true, beq_iff_eq, decide_eq_true_eq] at h2; exact h2
          have hF := validT_leaf (data := data) (vars := vars) (k := k) (n := n) (l := l) (by rw [headV, if_pos hk]; simp)
          rw [headV, if_pos hk] at hF
          refine AWP_seq ?_
          refine AWP_region ?_
          refine st td_ok rfl rfl rfl rfl (r := .v _) rfl trivial ?_
          refine st_own (r := .v _) td_ok rfl rfl rfl rfl rfl rfl rfl (by assumption) (Nat.le_of_ble_eq_true rfl) rfl  ?_
          refine st td_ok rfl rfl rfl rfl (r := .v _) rfl trivial ?_
          refine st td_ok rfl rfl rfl rfl (r := .v _) rfl trivial ?_
          (refine sgk0 td_ok rfl rfl rfl rfl rfl rfl (r := .v _) rfl ?_ ?_; · exact fun hg => ⟨by (repeat' (first | exact trivial | exact hg | exact (Bool.and_eq_true_iff.mp hg).1 | apply And.intro)), by exact trivial⟩)
          (refine sgk0 td_ok rfl rfl rfl rfl rfl rfl (r := .v _) rfl ?_ ?_; · exact fun hg => ⟨by (repeat' (first | exact trivial | exact hg | exact (Bool.and_eq_true_iff.mp hg).1 | apply And.intro)), by exact trivial⟩)
          (refine st td_ok rfl rfl rfl rfl (r := .v _) rfl ?_ ?_; · exact (fun h => h))
          refine st td_ok rfl rfl rfl rfl (r := .v _) rfl trivial ?_
          refine AOps_nil ?_
          refine qn ?_
          refine AWP_ret ?_
          refine qbr ?_
          refine qr ?_
          refine ⟨_, _, _, _, rfl, trivial, GS.forget _ _, ?_⟩
          first | show AV.v _ = _ | show AV.tup _ = _ | show AV.sl _ _ _ = _ | show AV.agg _ = _ | skip
          rw [hF]; refine congrArg (fun b => AV.v (.bool b)) ?_; generalize l.length = len at *; rw [Bool.eq_iff_iff]; by_cases hn : n = 0 <;> simp [hn] <;> omega
        ·
          have hk : ¬ (k = 1 ∨ k = 2 ∨ k = 3) := by subst hb; intro hc; rcases hc with rfl | rfl | rfl <;> simp at h2
          clear hb h2
          refine AWP_seq ?_
          refine AWP_region ?_
          refine st td_ok rfl rfl rfl rfl (r := .v _) rfl trivial ?_
          refine st td_ok rfl rfl rfl rfl (r := .v _) rfl trivial ?_
          refine AOps_nil ?_
          refine qn ?_
          refine AWP_cond rfl rfl (fun h3 => ?_) (fun h3 => ?_)
          ·
            have hk4 : k = 4 := by simpa using h3
            have hF := validT_leaf (data := data) (vars := vars) (k := k) (n := n) (l := l) (by rw [headV, if_neg hk, if_pos hk4]; simp)
            rw [headV, if_neg hk, if_pos hk4] at hF
            refine AWP_seq ?_
            refine AWP_region ?_
            refine st td_ok rfl rfl rfl rfl (r := .v _) rfl trivial ?_
            refine st_own (r := .v _) td_ok rfl rfl rfl rfl rfl rfl rfl (by assumption) (Nat.le_of_ble_eq_true rfl) rfl  ?_
            refine st td_ok rfl rfl rfl rfl (r := .v _) rfl trivial ?_
            refine st td_ok rfl rfl rfl rfl (r := .v _) rfl trivial ?_
            (refine sgk0 td_ok rfl rfl rfl rfl rfl rfl (r := .v _) rfl ?_ ?_; · exact fun hg => ⟨by (repeat' (first | exact trivial | exact hg | exact (Bool.and_eq_true_iff.mp hg).1 | apply And.intro)), by exact trivial⟩)
            refine sgk_own (r := .v _) td_ok rfl rfl rfl rfl rfl rfl rfl rfl rfl (by assumption) (fun hg => by (repeat' (first | exact trivial | exact hg | exact (Bool.and_eq_true_iff.mp hg).1 | apply And.intro))) (Nat.le_of_ble_eq_true rfl) rfl ?_
            (refine sgk0 td_ok rfl rfl rfl rfl rfl rfl (r := .v _) rfl ?_ ?_; · exact fun hg => ⟨by (repeat' (first | exact trivial | exact hg | exact (Bool.and_eq_true_iff.mp hg).1 | apply And.intro)), by exact trivial⟩)
            (refine sgk0 td_ok rfl rfl rfl rfl rfl rfl (r := .v _) rfl ?_ ?_; · exact fun hg => ⟨by (repeat' (first | exact trivial | exact hg | exact (Bool.and_eq_true_iff.mp hg).1 | apply And.intro)), by exact trivial⟩)
            (refine st td_ok rfl rfl rfl rfl (r := .v _) rfl ?_ ?_; · exact (fun h => h))
            refine st td_ok rfl rfl rfl rfl (r := .v _) rfl trivial ?_
            (refine sgk0 td_ok rfl rfl rfl rfl rfl rfl (r := .v _) rfl ?_ ?_; · exact fun hg => ⟨by (repeat' (first | exact trivial | exact hg | exact (Bool.and_eq_true_iff.mp hg).1 | apply And.intro)), by exact trivial⟩)
            (refine sgk0 td_ok rfl rfl rfl rfl rfl rfl (r := .v _) rfl ?_ ?_; · exact fun hg => ⟨by (repeat' (first | exact trivial | exact hg | exact (Bool.and_eq_true_iff.mp hg).1 | apply And.intro)), by exact trivial⟩)
            (refine st td_ok rfl rfl rfl rfl (r := .v _) rfl ?_ ?_; · exact (fun h => h))
            refine st td_ok rfl rfl rfl rfl (r := .v _) rfl trivial ?_
            refine AOps_nil ?_
            refine qn ?_
            refine AWP_ret ?_
            refine qbr ?_
            refine qr ?_
            refine ⟨_, _, _, _, rfl, trivial, GS.forget _ _, ?_⟩
            first | show AV.v _ = _ | show AV.tup _ = _ | show AV.sl _ _ _ = _ | show AV.agg _ = _ | skip
            rw [hF]; refine congrArg (fun b => AV.v (.bool b)) ?_; generalize l.length = len at *; rw [Bool.eq_iff_iff]; by_cases hn : 0 ≤ n <;> by_cases hn2 : n < vars <;> simp [hn, hn2] <;> omega
          ·
            have hk4 : ¬ k = 4 := by simpa using h3
            refine AWP_seq ?_
            refine AWP_region ?_
            refine st td_ok rfl rfl rfl rfl (r := .v _) rfl trivial ?_
            refine st td_ok rfl rfl rfl rfl (r := .v _) rfl trivial ?_
            refine AOps_nil ?_
            refine qn ?_
            refine AWP_cond rfl rfl (fun h4 => ?_) (fun h4 => ?_)
            ·
              have hk5 : k = 5 := by simpa using h4
              refine AWP_seq ?_
              refine AWP_region ?_
              refine st td_ok rfl rfl rfl rfl (r := .v _) rfl trivial ?_
              refine st_own (r := .v _) td_ok rfl rfl rfl rfl rfl rfl rfl (by assumption) (Nat.le_of_ble_eq_true rfl) rfl  ?_
              refine st td_ok rfl rfl rfl rfl (r := .v _) rfl trivial ?_
              refine st td_ok rfl rfl rfl rfl (r := .v _) rfl trivial ?_
              (refine sgk0 td_ok rfl rfl rfl rfl rfl rfl (r := .v _) rfl ?_ ?_; · exact fun hg => ⟨by (repeat' (first | exact trivial | exact hg | exact (Bool.and_eq_true_iff.mp hg).1 | apply And.intro)), by exact trivial⟩)
              refine sgk_own (r := .v _) td_ok rfl rfl rfl rfl rfl rfl rfl rfl rfl (by assumption) (fun hg => by (repeat' (first | exact trivial | exact hg | exact (Bool.and_eq_true_iff.mp hg).1 | apply And.intro))) (Nat.le_of_ble_eq_true rfl) rfl ?_
              (refine sgk0 td_ok rfl rfl rfl rfl rfl rfl (r := .sl _ _ _) rfl ?_ ?_; · exact fun hg => ⟨by (repeat' (first | exact trivial | exact hg | exact (Bool.and_eq_true_iff.mp hg).1 | apply And.intro)), by exact trivial⟩)
              (refine sgk0 td_ok rfl rfl rfl rfl rfl rfl (r := .v _) rfl ?_ ?_; · exact fun hg => ⟨by (repeat' (first | exact trivial | exact hg | exact (Bool.and_eq_true_iff.mp hg).1 | apply And.intro)), by exact trivial⟩)
              (refine sgk0 td_ok rfl rfl rfl rfl rfl rfl (r := .v _) rfl ?_ ?_; · exact fun hg => ⟨by (repeat' (first | exact trivial | exact hg | exact (Bool.and_eq_true_iff.mp hg).1 | apply And.intro)), by exact trivial⟩)
              (refine st td_ok rfl rfl rfl rfl (r := .v _) rfl ?_ ?_; · first | (simp_all; done) | ((repeat' with_reducible apply And.intro) <;> with_reducible exact trivial))
              refine st td_ok rfl rfl rfl rfl (r := .v _) rfl trivial ?_
              (refine sgk0 td_ok rfl rfl rfl rfl rfl rfl (r := .v _) rfl ?_ ?_; · exact fun hg => ⟨by (repeat' (first | exact trivial | exact hg | exact (Bool.and_eq_true_iff.mp hg).1 | apply And.intro)), by exact trivial⟩)
              (refine sgk0 td_ok rfl rfl rfl rfl rfl rfl (r := .sl _ _ _) rfl ?_ ?_; · exact fun hg => ⟨by (repeat' (first | exact trivial | exact hg | exact (Bool.and_eq_true_iff.mp hg).1 | apply And.intro)), by exact trivial⟩)
              (refine sgk0 td_ok rfl rfl rfl rfl rfl rfl (r := .v _) rfl ?_ ?_; · exact fun hg => ⟨by (repeat' (first | exact trivial | exact hg | exact (Bool.and_eq_true_iff.mp hg).1 | apply And.intro)), by exact trivial⟩)
              refine sgk_own (r := .v _) td_ok rfl rfl rfl rfl rfl rfl rfl rfl rfl (by assumption) (fun hg => by (repeat' (first | exact trivial | exact hg | exact (Bool.and_eq_true_iff.mp hg).1 | apply And.intro))) (Nat.le_of_ble_eq_true rfl) rfl ?_
              (refine sgk0 td_ok rfl rfl rfl rfl rfl rfl (r := .pp _ _) rfl ?_ ?_; · exact fun hg => ⟨by (repeat' (first | exact trivial | exact hg | exact (Bool.and_eq_true_iff.mp hg).1 | apply And.intro)), by have hh := or_no (guard_no hg); simp only [decide_eq_false_iff_not] at hh; ((repeat' with_reducible apply And.intro) <;> (first | omega | (simp only [Ty.encs_len, Ty.enc_len, dats_len, cond_true, cond_false, nd, Option.getD_none, Option.getD_some, Int.toNat_natCast, strs_len, nums_len, List.length_append, tds2, tds3, tds4, tds5, tds9, tds12, tds21, tds22, tds23, tds24, tds25, tds30, tds31, tds32, tds33, tds34, tds36, tds43, tds45, tds47, tds57, tds62, tds66, tds69, decide_eq_true_eq, Bool.and_eq_true, Bool.not_eq_true', decide_eq_false_iff_not] at *; omega)))⟩)
              (refine sgk0 td_ok rfl rfl rfl rfl rfl rfl (r := .pp _ _) rfl ?_ ?_; · exact fun hg => ⟨by (repeat' (first | exact trivial | exact hg | exact (Bool.and_eq_true_iff.mp hg).1 | apply And.intro)), by have hh := or_no (guard_no hg); simp only [decide_eq_false_iff_not] at hh; ((repeat' with_reducible apply And.intro) <;> with_reducible exact trivial)⟩)
              refine sgk td_ok rfl rfl rfl rfl rfl rfl (r := _) rfl (fun hg => ⟨by (repeat' (first | exact trivial | exact hg | exact (Bool.and_eq_true_iff.mp hg).1 | apply And.intro)), by have hh := or_no (guard_no hg); simp only [decide_eq_false_iff_not] at hh; ((repeat' with_reducible apply And.intro) <;> (simp only [Ty.encs_len, Ty.enc_len, dats_len, cond_true, cond_false, nd, Option.getD_none, Option.getD_some, Int.toNat_natCast, strs_len, nums_len, List.length_append, tds2, tds3, tds4, tds5, tds9, tds12, tds21, tds22, tds23, tds24, tds25, tds30, tds31, tds32, tds33, tds34, tds36, tds43, tds45, tds47, tds57, tds62, tds66, tds69, decide_eq_true_eq, Bool.and_eq_true, Bool.not_eq_true', decide_eq_false_iff_not] at *; omega)), ((flat_cell_lt Dat.enc dat0 Dat.enc_len data n.toNat 1 (by decide) (by have hh := or_no (guard_no hg); simp at hh; omega)).trans (Dat.enc_vars _))⟩) ?_
              (refine sgk0 td_ok rfl rfl rfl rfl rfl rfl (r := .v _) rfl ?_ ?_; · exact fun hg => ⟨by (repeat' (first | exact trivial | exact hg | exact (Bool.and_eq_true_iff.mp hg).1 | apply And.intro)), by exact trivial⟩)
              (refine st td_ok rfl rfl rfl rfl (r := .v _) rfl ?_ ?_; · first | (simp_all; done) | ((repeat' with_reducible apply And.intro) <;> with_reducible exact trivial))
              refine AOps_nil ?_
              refine qn ?_
              refine AWP_cond rfl rfl (fun h5 => ?_) (fun h5 => ?_)
              ·
                have hF := validT_no (data := data) (vars := vars) (k := k) (n := n) (l := l) (by rw [headV, if_neg hk, if_neg hk4, if_pos hk5]; simp at h5 ⊢; omega)
                refine AWP_seq ?_
                refine AWP_region ?_
                refine st td_ok rfl rfl rfl rfl (r := .v _) rfl trivial ?_
                refine AOps_nil ?_
                refine qn ?_
                refine AWP_ret ?_
                refine qbr ?_
                refine qr ?_
                refine ⟨_, _, _, _, rfl, trivial, GS.forget _ _, ?_⟩
                first | show AV.v _ = _ | show AV.tup _ = _ | show AV.sl _ _ _ = _ | show AV.agg _ = _ | skip
                rw [hF]
              ·
                obtain ⟨h5a, h5b⟩ := or_no h5
                obtain ⟨h5c, h5d⟩ := or_no h5a
                refine AWP_skip ?_
                refine qbn ?_
                refine qn ?_
                exact ⟨(), by (repeat' (first | exact rfl | exact trivial | apply And.intro)), hX, by rw [headV, if_neg hk, if_neg hk4, if_pos hk5]; simp at h5b h5c h5d ⊢; omega⟩
            ·
              have hk5 : ¬ k = 5 := by simpa using h4
              refine AWP_seq ?_
              refine AWP_region ?_
              refine st td_ok rfl rfl rfl rfl (r := .v _) rfl trivial ?_
              refine st td_ok rfl rfl rfl rfl (r := .v _) rfl trivial ?_
              refine AOps_nil ?_
              refine qn ?_
              refine AWP_cond rfl rfl (fun h6 => ?_) (fun h6 => ?_)
              ·
                have hk6 : k = 6 := by simpa using h6
                refine AWP_seq ?_
                refine AWP_region ?_
                refine st td_ok rfl rfl rfl rfl (r := .v _) rfl trivial ?_
                refine st_own (r := .v _) td_ok rfl rfl rfl rfl rfl rfl rfl (by assumption) (Nat.le_of_ble_eq_true rfl) rfl  ?_
                refine st td_ok rfl rfl rfl rfl (r := .v _) rfl trivial ?_
                refine st td_ok rfl rfl rfl rfl (r := .v _) rfl trivial ?_
                (refine sgk0 td_ok rfl rfl rfl rfl rfl rfl (r := .v _) rfl ?_ ?_; · exact fun hg => ⟨by (repeat' (first | exact trivial | exact hg | exact (Bool.and_eq_true_iff.mp hg).1 | apply And.intro)), by exact trivial⟩)
                (refine sgk0 td_ok rfl rfl rfl rfl rfl rfl (r := .v _) rfl ?_ ?_; · exact fun hg => ⟨by (repeat' (first | exact trivial | exact hg | exact (Bool.and_eq_true_iff.mp hg).1 | apply And.intro)), by exact trivial⟩)
                (refine st td_ok rfl rfl rfl rfl (r := .v _) rfl ?_ ?_; · first | (simp_all; done) | ((repeat' with_reducible apply And.intro) <;> with_reducible exact trivial))
                refine st td_ok rfl rfl rfl rfl (r := .v _) rfl trivial ?_
                (refine sgk0 td_ok rfl rfl rfl rfl rfl rfl (r := .v _) rfl ?_ ?_; · exact fun hg => ⟨by (repeat' (first | exact trivial | exact hg | exact (Bool.and_eq_true_iff.mp hg).1 | apply And.intro)), by exact trivial⟩)
                (refine sgk0 td_ok rfl rfl rfl rfl rfl rfl (r := .v _) rfl ?_ ?_; · exact fun hg => ⟨by (repeat' (first | exact trivial | exact hg | exact (Bool.and_eq_true_iff.mp hg).1 | apply And.intro)), by exact trivial⟩)
                (refine st td_ok rfl rfl rfl rfl (r := .v _) rfl ?_ ?_; · first | (simp_all; done) | ((repeat' with_reducible apply And.intro) <;> with_reducible exact trivial))
                refine AOps_nil ?_
                refine qn ?_
                refine AWP_cond rfl rfl (fun h7 => ?_) (fun h7 => ?_)
                ·
                  have hF := validT_no (data := data) (vars := vars) (k := k) (n := n) (l := l) (by rw [headV, if_neg hk, if_neg hk4, if_neg hk5, if_pos hk6]; simp at h7 ⊢; omega)
                  refine AWP_seq ?_
                  refine AWP_region ?_
                  refine st td_ok rfl rfl rfl rfl (r := .v _) rfl trivial ?_
                  refine AOps_nil ?_
                  refine qn ?_
                  refine AWP_ret ?_
                  refine qbr ?_
                  refine qr ?_
                  refine ⟨_, _, _, _, rfl, trivial, GS.forget _ _, ?_⟩
                  first | show AV.v _ = _ | show AV.tup _ = _ | show AV.sl _ _ _ = _ | show AV.agg _ = _ | skip
                  rw [hF]
                ·
                  refine AWP_skip ?_
                  refine qbn ?_
                  refine qn ?_
                  exact ⟨(), by (repeat' (first | exact rfl | exact trivial | apply And.intro)), hX, by rw [headV, if_neg hk, if_neg hk4, if_neg hk5, if_pos hk6]; simp at h7 ⊢; omega⟩
              ·
                have hk6 : ¬ k = 6 := by simpa using h6
                refine AWP_cut (fun (b : Bool) => [(0, .sl ta data.length (data.flatMap Dat.enc)), (2, .v (.int .i64 vars)), (4, .v (.pointer (some ⟨r4, 0, none⟩))), (7, .v (.int .i64 l.length)), (13, .v (.int .i64 k)), (75, .v (.bool b))]) (fun b X => X r4 = some ⟨25, (Ty.mk k n l).enc⟩ ∧ b = (bif k == 7 then true else k == 8)) ?_ ?_
                ·
                  refine AWP_seq ?_
                  refine AWP_region ?_
                  refine st td_ok rfl rfl rfl rfl (r := .v _) rfl trivial ?_
                  refine st td_ok rfl rfl rfl rfl (r := .v _) rfl trivial ?_
                  refine AOps_nil ?_
                  refine qn ?_
                  refine AWP_cond rfl rfl (fun h8 => ?_) (fun h8 => ?_)
                  ·
                    refine AWP_skip ?_
                    refine qn ?_
                    exact ⟨_, by (repeat' (first | exact rfl | exact trivial | apply And.intro)), hX, by rw [h8]; rfl⟩
                  ·
                    refine AWP_region ?_
                    refine st td_ok rfl rfl rfl rfl (r := .v _) rfl trivial ?_
                    refine st td_ok rfl rfl rfl rfl (r := .v _) rfl trivial ?_
                    refine AOps_nil ?_
                    refine qn ?_
                    exact ⟨_, by (repeat' (first | exact rfl | exact trivial | apply And.intro)), hX, by rw [h8]; rfl⟩
                ·
                  rintro b X2 ⟨hX2, hb⟩
                  refine AWP_cond rfl rfl (fun h9 => ?_) (fun h9 => ?_)
                  ·
                    have hk78 : k = 7 ∨ k = 8 := by subst hb; simp only [Bool.cond_eq_ite, Bool.if_true_left, Bool.or_eq_true, beq_iff_eq, decide_eq_true_eq] at h9; simpa using h9
                    refine AWP_seq ?_
                    refine AWP_region ?_
                    refine st td_ok rfl rfl rfl rfl (r := .v _) rfl trivial ?_
                    refine st_own (r := .v _) td_ok rfl rfl rfl rfl rfl rfl rfl (by assumption) (Nat.le_of_ble_eq_true rfl) rfl  ?_
                    refine st td_ok rfl rfl rfl rfl (r := .v _) rfl trivial ?_
                    refine st td_ok rfl rfl rfl rfl (r := .v _) rfl trivial ?_
                    (refine sgk0 td_ok rfl rfl rfl rfl rfl rfl (r := .v _) rfl ?_ ?_; · exact fun hg => ⟨by (repeat' (first | exact trivial | exact hg | exact (Bool.and_eq_true_iff.mp hg).1 | apply And.intro)), by exact trivial⟩)
                    (refine sgk0 td_ok rfl rfl rfl rfl rfl rfl (r := .v _) rfl ?_ ?_; · exact fun hg => ⟨by (repeat' (first | exact trivial | exact hg | exact (Bool.and_eq_true_iff.mp hg).1 | apply And.intro)), by exact trivial⟩)
                    (refine st td_ok rfl rfl rfl rfl (r := .v _) rfl ?_ ?_; · first | (simp_all; done) | ((repeat' with_reducible apply And.intro) <;> with_reducible exact trivial))
                    refine AOps_nil ?_
                    refine qn ?_
                    refine AWP_cond rfl rfl (fun h10 => ?_) (fun h10 => ?_)
                    ·
                      have hF := validT_no (data := data) (vars := vars) (k := k) (n := n) (l := l) (by rw [headV, if_neg hk, if_neg hk4, if_neg hk5, if_neg hk6, if_pos hk78]; simp at h10 ⊢; omega)
                      refine AWP_seq ?_
                      refine AWP_region ?_
                      refine st td_ok rfl rfl rfl rfl (r := .v _) rfl trivial ?_
                      refine AOps_nil ?_
                      refine qn ?_
                      refine AWP_ret ?_
                      refine qbr ?_
                      refine qr ?_
                      refine ⟨_, _, _, _, rfl, trivial, GS.forget _ _, ?_⟩
                      first | show AV.v _ = _ | show AV.tup _ = _ | show AV.sl _ _ _ = _ | show AV.agg _ = _ | skip
                      rw [hF]
                    ·
                      refine AWP_skip ?_
                      refine qbn ?_
                      refine qn ?_
                      exact ⟨(), by (repeat' (first | exact rfl | exact trivial | apply And.intro)), hX2, by rw [headV, if_neg hk, if_neg hk4, if_neg hk5, if_neg hk6, if_pos hk78]; simp at h10 ⊢; omega⟩
                  ·
                    have hk78 : ¬ (k = 7 ∨ k = 8) := by subst hb; intro hc; rcases hc with rfl | rfl <;> simp at h9
                    clear hb h9
                    refine AWP_seq ?_
                    refine AWP_region ?_
                    refine st td_ok rfl rfl rfl rfl (r := .v _) rfl trivial ?_
                    refine st td_ok rfl rfl rfl rfl (r := .v _) rfl trivial ?_
                    refine AOps_nil ?_
                    refine qn ?_
                    refine AWP_cond rfl rfl (fun h11 => ?_) (fun h11 => ?_)
                    ·
                      have hk9 : k = 9 := by simpa using h11
                      refine AWP_seq ?_
                      refine AWP_region ?_
                      refine st td_ok rfl rfl rfl rfl (r := .v _) rfl trivial ?_
                      refine st_own (r := .v _) td_ok rfl rfl rfl rfl rfl rfl rfl (by assumption) (Nat.le_of_ble_eq_true rfl) rfl  ?_
                      refine st td_ok rfl rfl rfl rfl (r := .v _) rfl trivial ?_
                      refine st td_ok rfl rfl rfl rfl (r := .v _) rfl trivial ?_
                      (refine sgk0 td_ok rfl rfl rfl rfl rfl rfl (r := .v _) rfl ?_ ?_; · exact fun hg => ⟨by (repeat' (first | exact trivial | exact hg | exact (Bool.and_eq_true_iff.mp hg).1 | apply And.intro)), by exact trivial⟩)
                      (refine sgk0 td_ok rfl rfl rfl rfl rfl rfl (r := .v _) rfl ?_ ?_; · exact fun hg => ⟨by (repeat' (first | exact trivial | exact hg | exact (Bool.and_eq_true_iff.mp hg).1 | apply And.intro)), by exact trivial⟩)
                      (refine st td_ok rfl rfl rfl rfl (r := .v _) rfl ?_ ?_; · first | (simp_all; done) | ((repeat' with_reducible apply And.intro) <;> with_reducible exact trivial))
                      refine st td_ok rfl rfl rfl rfl (r := .v _) rfl trivial ?_
                      (refine sgk0 td_ok rfl rfl rfl rfl rfl rfl (r := .v _) rfl ?_ ?_; · exact fun hg => ⟨by (repeat' (first | exact trivial | exact hg | exact (Bool.and_eq_true_iff.mp hg).1 | apply And.intro)), by exact trivial⟩)
                      (refine sgk0 td_ok rfl rfl rfl rfl rfl rfl (r := .v _) rfl ?_ ?_; · exact fun hg => ⟨by (repeat' (first | exact trivial | exact hg | exact (Bool.and_eq_true_iff.mp hg).1 | apply And.intro)), by exact trivial⟩)
                      (refine st td_ok rfl rfl rfl rfl (r := .v _) rfl ?_ ?_; · first | (simp_all; done) | ((repeat' with_reducible apply And.intro) <;> with_reducible exact trivial))
                      refine AOps_nil ?_
                      refine qn ?_
                      refine AWP_cond rfl rfl (fun h12 => ?_) (fun h12 => ?_)
                      ·
                        have hF := validT_no (data := data) (vars := vars) (k := k) (n := n) (l := l) (by rw [headV, if_neg hk, if_neg hk4, if_neg hk5, if_neg hk6, if_neg hk78, if_pos hk9]; simp at h12 ⊢; omega)
                        refine AWP_seq ?_
                        refine AWP_region ?_
                        refine st td_ok rfl rfl rfl rfl (r := .v _) rfl trivial ?_
                        refine AOps_nil ?_
                        refine qn ?_
                        refine AWP_ret ?_
                        refine qbr ?_
                        refine qr ?_
                        refine ⟨_, _, _, _, rfl, trivial, GS.forget _ _, ?_⟩
                        first | show AV.v _ = _ | show AV.tup _ = _ | show AV.sl _ _ _ = _ | show AV.agg _ = _ | skip
                        rw [hF]
                      ·
                        refine AWP_skip ?_
                        refine qbn ?_
                        refine qn ?_
                        exact ⟨(), by (repeat' (first | exact rfl | exact trivial | apply And.intro)), hX2, by rw [headV, if_neg hk, if_neg hk4, if_neg hk5, if_neg hk6, if_neg hk78, if_pos hk9]; simp at h12 ⊢; omega⟩
                    ·
                      have hk9 : ¬ k = 9 := by simpa using h11
                      refine AWP_seq ?_
                      refine AWP_region ?_
                      refine st td_ok rfl rfl rfl rfl (r := .v _) rfl trivial ?_
                      refine AOps_nil ?_
                      refine qn ?_
                      refine AWP_ret ?_
                      refine qbr ?_
                      refine qr ?_
                      refine ⟨_, _, _, _, rfl, trivial, GS.forget _ _, ?_⟩
                      first | show AV.v _ = _ | show AV.tup _ = _ | show AV.sl _ _ _ = _ | show AV.agg _ = _ | skip
                      rw [validT_no (by rw [headV, if_neg hk, if_neg hk4, if_neg hk5, if_neg hk6, if_neg hk78, if_neg hk9])]
    ·
      rintro _ X ⟨hX4, hv⟩
      refine AWP_seq ?_
      refine AWP_seq ?_
      refine AWP_region ?_
      refine st td_ok rfl rfl rfl rfl (r := .v _) rfl trivial ?_
      refine AOps_nil ?_
      refine qn ?_
      refine AWP_block ?_
      refine AWP_for (fun (j : Nat) => [(0, .sl ta data.length (data.flatMap Dat.enc)), (2, .v (.int .i64 vars)), (4, .v (.pointer (some ⟨r4, 0, none⟩))), (7, .v (.int .i64 l.length)), (8, .v (.int .i64 j))]) (fun j X => X r4 = some ⟨25, (Ty.mk k n l).enc⟩ ∧ j ≤ l.length ∧ (l.drop j).all (validT data vars) = l.all (validT data vars)) (fun j => l.length - j) 0 ⟨by (repeat' (first | exact rfl | exact trivial | apply And.intro)), ⟨hX4, Nat.zero_le _, rfl⟩⟩ ?_
      rintro j X ⟨hX, hj, hq⟩
      refine AWP_seq ?_
      refine AWP_seq ?_
      refine AWP_region ?_
      refine st td_ok rfl rfl rfl rfl (r := .v _) rfl trivial ?_
      refine st td_ok rfl rfl rfl rfl (r := .v _) rfl trivial ?_
      refine st td_ok rfl rfl rfl rfl (r := .v _) rfl trivial ?_
      refine AOps_nil ?_
      refine qn ?_
      refine AWP_cond rfl rfl (fun h13 => ?_) (fun h13 => ?_)
      ·
        refine AWP_skip ?_
        refine qn ?_
        refine AWP_seq ?_
        refine AWP_block ?_
        refine AWP_seq ?_
        have hlt : j < l.length := Int.ofNat_lt.mp (of_decide_eq_true h13)
        have hgo := all_go (p := validT data vars) (d := ty0) hlt
        have hno := all_no (p := validT data vars) (d := ty0) hlt
        have hv26 := ih (l.getD j ty0) (by have := Ty.kid_lt (k := k) (n := n) hlt; omega) (by have := Ty.sizes_get l j hlt; omega)
        obtain ⟨⟨k2, n2, l2⟩, hel⟩ : ∃ t, l.getD j ty0 = t := ⟨_, rfl⟩
        rw [hel] at hgo hno hv26
        refine AWP_region ?_
        refine st td_ok rfl rfl rfl rfl (r := .sl _ _ _) rfl trivial ?_
        refine st td_ok rfl rfl rfl rfl (r := .v _) rfl trivial ?_
        refine st_own (r := .sl _ _ _) td_ok rfl rfl rfl rfl rfl rfl rfl (by assumption) (Nat.le_of_ble_eq_true rfl) rfl  ?_
        refine st td_ok rfl rfl rfl rfl (r := .v _) rfl trivial ?_
        (refine st td_ok rfl rfl rfl rfl (r := .pp _ _) rfl ?_ ?_; · ((repeat' with_reducible apply And.intro) <;> (first | omega | (simp only [Ty.encs_len, Ty.enc_len, dats_len, cond_true, cond_false, nd, Option.getD_none, Option.getD_some, Int.toNat_natCast, strs_len, nums_len, List.length_append, tds2, tds3, tds4, tds5, tds9, tds12, tds21, tds22, tds23, tds24, tds25, tds30, tds31, tds32, tds33, tds34, tds36, tds43, tds45, tds47, tds57, tds62, tds66, tds69, decide_eq_true_eq, Bool.and_eq_true, Bool.not_eq_true', decide_eq_false_iff_not] at *; omega))))
        (refine st_eq td_ok rfl rfl rfl rfl (r := _) rfl ?_ ((show _ = AV.agg (Ty.mk k2 n2 l2).enc from (Ty.at_lt l j hlt _).trans (by rw [hel]))) ?_; · ((repeat' with_reducible apply And.intro) <;> (simp only [Ty.encs_len, Ty.enc_len, dats_len, cond_true, cond_false, nd, Option.getD_none, Option.getD_some, Int.toNat_natCast, strs_len, nums_len, List.length_append, tds2, tds3, tds4, tds5, tds9, tds12, tds21, tds22, tds23, tds24, tds25, tds30, tds31, tds32, tds33, tds34, tds36, tds43, tds45, tds47, tds57, tds62, tds66, tds69, decide_eq_true_eq, Bool.and_eq_true, Bool.not_eq_true', decide_eq_false_iff_not] at *; omega)))
        refine st td_ok rfl rfl rfl rfl (r := .v _) rfl trivial ?_
        refine st_pcall rfl rfl rfl rfl rfl rfl rfl ⟨_, rfl, rfl, rfl⟩ hv26 ?_
        refine st td_ok rfl rfl rfl rfl (r := .v _) rfl trivial ?_
        refine AOps_nil ?_
        refine qn ?_
        refine AWP_cond rfl rfl (fun h14 => ?_) (fun h14 => ?_)
        ·
          refine AWP_seq ?_
          refine AWP_region ?_
          refine st td_ok rfl rfl rfl rfl (r := .v _) rfl trivial ?_
          refine AOps_nil ?_
          refine qn ?_
          refine AWP_ret ?_
          refine qbr ?_
          refine qr ?_
          refine qr ?_
          refine qbr ?_
          refine qr ?_
          refine ⟨_, _, _, _, rfl, trivial, GS.forget _ _, ?_⟩
          first | show AV.v _ = _ | show AV.tup _ = _ | show AV.sl _ _ _ = _ | show AV.agg _ = _ | skip
          rw [validT_go hv, ← hq, hno (by simpa using h14)]
        ·
          refine AWP_skip ?_
          refine qbn ?_
          refine qn ?_
          refine AWP_region ?_
          refine st td_ok rfl rfl rfl rfl (r := .v _) rfl trivial ?_
          refine st_eq td_ok rfl rfl rfl rfl (r := .v _) rfl trivial (w64 (by omega)) ?_
          refine st td_ok rfl rfl rfl rfl (r := .v _) rfl trivial ?_
          refine AOps_nil ?_
          refine qn ?_
          exact ⟨j + 1, by omega, by (repeat' (first | exact rfl | exact trivial | apply And.intro)), hX, by omega, by rw [← hq, hgo (by simpa using h14)]⟩
      ·
        refine AWP_exit ?_
        refine qx ?_
        refine qx ?_
        refine qbh ?_
        refine qn ?_
        refine AWP_seq ?_
        refine AWP_region ?_
        refine st td_ok rfl rfl rfl rfl (r := .v _) rfl trivial ?_
        refine AOps_nil ?_
        refine qn ?_
        refine AWP_ret ?_
        refine ⟨_, _, _, _, rfl, trivial, GS.forget _ _, ?_⟩
        first | show AV.v _ = _ | show AV.tup _ = _ | show AV.sl _ _ _ = _ | show AV.agg _ = _ | skip
        rw [validT_go hv, ← hq, all_end (by simp only [decide_eq_false_iff_not] at h13; omega)]
theorem rValid_c (data : List Dat) (ta : Bool) (vars : Int) (hd : data.length ≤ 1000000000) (t : Ty) (hs : t.size ≤ 1000000000) : PCalls Tryd.prog 7 [.sl ta data.length (data.flatMap Dat.enc), .agg t.enc, .v (.int .i64 vars)] (.v (.bool (decide (t.size ≤ 200) && validT data vars t))) := by
  obtain ⟨b, hb⟩ : ∃ b, validT data vars t = b := ⟨_, rfl⟩
  have hv := rvalid_c data ta vars hd _ t (Nat.lt_succ_self _) hs
  have hz := Size_c _ t (Nat.lt_succ_self _) hs
  have e : decide ((t.size : Int) ≤ 200) = decide (t.size ≤ 200) := by rw [Bool.eq_iff_iff]; simp; omega
  rw [hb] at hv ⊢
  rcases t with ⟨k, n, l⟩
  refine calls_body td_ok Tryd.func7 rfl rfl rfl ?_
  refine AWP_seq ?_
  refine AWP_region ?_
  refine st_box td_ok rfl rfl rfl rfl rfl rfl (by ((repeat' with_reducible apply And.intro) <;> exact rfl)) fun r4 hr4 => ?_
  refine st td_ok rfl rfl rfl rfl (r := .v _) rfl trivial ?_
  refine AOps_nil ?_
  refine qn ?_
  refine AWP_seq ?_
  refine AWP_region ?_
  refine st_own (r := .agg [.v _, .v _, _]) td_ok rfl rfl rfl rfl rfl rfl rfl XH.put_same (Nat.le_of_ble_eq_true rfl) rfl  ?_
  refine st_pcall rfl rfl rfl rfl rfl rfl rfl ⟨_, rfl, rfl, rfl⟩ hz ?_
  refine st td_ok rfl rfl rfl rfl (r := .v _) rfl trivial ?_
  refine st td_ok rfl rfl rfl rfl (r := .v _) rfl trivial ?_
  (refine sgk0 td_ok rfl rfl rfl rfl rfl rfl (r := .sl _ _ _) rfl ?_ ?_; · exact fun hg => ⟨by (repeat' (first | exact trivial | exact hg | exact (Bool.and_eq_true_iff.mp hg).1 | apply And.intro)), by exact trivial⟩)
  refine sgk_own (r := .agg [.v _, .v _, _]) td_ok rfl rfl rfl rfl rfl rfl rfl rfl rfl XH.put_same (fun hg => by (repeat' (first | exact trivial | exact hg | exact (Bool.and_eq_true_iff.mp hg).1 | apply And.intro))) (Nat.le_of_ble_eq_true rfl) rfl ?_
  (refine sgk0 td_ok rfl rfl rfl rfl rfl rfl (r := .v _) rfl ?_ ?_; · exact fun hg => ⟨by (repeat' (first | exact trivial | exact hg | exact (Bool.and_eq_true_iff.mp hg).1 | apply And.intro)), by exact trivial⟩)
  refine stg_call rfl rfl rfl rfl rfl rfl rfl rfl (fun hg => ⟨by (repeat' (first | exact trivial | exact hg | exact (Bool.and_eq_true_iff.mp hg).1 | apply And.intro)), rfl, ⟨_, rfl, rfl, rfl⟩, hv⟩) ?_
  (refine st td_ok rfl rfl rfl rfl (r := .v _) rfl ?_ ?_; · exact (fun h => h))
  refine st td_ok rfl rfl rfl rfl (r := .v _) rfl trivial ?_
  refine AOps_nil ?_
  refine qn ?_
  refine AWP_ret ?_
  refine ⟨_, _, _, _, rfl, trivial, GS.forget _ _, ?_⟩
  first | show AV.v _ = _ | show AV.tup _ = _ | show AV.sl _ _ _ = _ | show AV.agg _ = _ | skip
  rw [e]; cases decide ((Ty.mk k n l).size ≤ 200) <;> rfl
end Go.Proofs.YtgnfjahkhhkmoaaDoor.V
