import Derived.Test.YtgnfjahkhhkmoaaDoorC1
namespace Go.Proofs.YtgnfjahkhhkmoaaDoor.V
open Go
set_option linter.unusedSimpArgs false
set_option linter.unusedVariables false
set_option maxRecDepth 20000

theorem validClo_c (data : List Dat) (ta : Bool) (vars : Int) (t : Ty) (b : Bool) (hv : PCalls Tryd.prog 12 [.sl ta data.length (data.flatMap Dat.enc), .agg t.enc, .v (.int .i64 vars)] (.v (.bool b))) (X : XH) (a c : Nat) (ha : X a = some ⟨22, [.sl ta data.length (data.flatMap Dat.enc)]⟩) (hc : X c = some ⟨3, [.v (.int .i64 vars)]⟩) :
    ACalls Tryd.prog 18 [.agg t.enc, .v (.pointer (some ⟨a, 0, none⟩)), .v (.pointer (some ⟨c, 0, none⟩))] X (fun av X' => ∃ b', av = .v (.bool b') ∧ b' = !b ∧ X' a = some ⟨22, [.sl ta data.length (data.flatMap Dat.enc)]⟩ ∧ X' c = some ⟨3, [.v (.int .i64 vars)]⟩) := by
  rcases t with ⟨k, n, l⟩
  refine calls_body td_ok Tryd.func18 rfl rfl rfl ?_
  refine AWP_seq ?_
  refine AWP_region ?_
  refine st_box td_ok rfl rfl rfl rfl rfl rfl (by ((repeat' with_reducible apply And.intro) <;> exact rfl)) fun r3 hr3 => ?_
  refine st td_ok rfl rfl rfl rfl (r := .v _) rfl trivial ?_
  refine AOps_nil ?_
  refine qn ?_
  refine AWP_seq ?_
  have h3a := XH.ne ha hr3
  have h3c := XH.ne hc hr3
  refine AWP_region ?_
  refine st_own (r := .sl _ _ _) td_ok rfl rfl rfl rfl rfl rfl rfl (XH.put_ne (by (first | assumption | exact Ne.symm (by assumption) | (intro h; simp [XH.put, h] at *; done))) (by assumption)) (Nat.le_of_ble_eq_true rfl) rfl  ?_
  refine st_own (r := .agg [.v _, .v _, _]) td_ok rfl rfl rfl rfl rfl rfl rfl XH.put_same (Nat.le_of_ble_eq_true rfl) rfl  ?_
  refine st_own (r := .v _) td_ok rfl rfl rfl rfl rfl rfl rfl (XH.put_ne (by (first | assumption | exact Ne.symm (by assumption) | (intro h; simp [XH.put, h] at *; done))) (by assumption)) (Nat.le_of_ble_eq_true rfl) rfl  ?_
  refine st_pcall rfl rfl rfl rfl rfl rfl rfl ⟨_, rfl, rfl, rfl⟩ hv ?_
  refine st td_ok rfl rfl rfl rfl (r := .v _) rfl trivial ?_
  refine st td_ok rfl rfl rfl rfl (r := .v _) rfl trivial ?_
  refine AOps_nil ?_
  refine qn ?_
  refine AWP_ret ?_
  refine ⟨_, _, _, _, rfl, trivial, (GS.refl _ _), ?_⟩
  first | show AV.v _ = _ | show AV.tup _ = _ | show AV.sl _ _ _ = _ | show AV.agg _ = _ | skip
  exact ⟨_, rfl, rfl, XH.put_ne h3a ha, XH.put_ne h3c hc⟩
theorem valid_c (data : List Dat) (ta : Bool) (vars : Int) (hd : data.length ≤ 1000000000) (m : Nat) : ∀ (t : Ty), t.size < m → t.size ≤ 1000000000 → PCalls Tryd.prog 12 [.sl ta data.length (data.flatMap Dat.enc), .agg t.enc, .v (.int .i64 vars)] (.v (.bool (validT data vars t))) := by
  induction m with
  | zero => intro t h; omega
  | succ m ih =>
    rintro ⟨k, n, l⟩ hsz hs
    simp only [Ty.size] at hs
    have hll := Ty.sizes_len l
    refine calls_body td_ok Tryd.func12 rfl rfl rfl ?_
    refine AWP_seq ?_
    refine AWP_region ?_
    refine st_box td_ok rfl rfl rfl rfl rfl rfl (by ((repeat' with_reducible apply And.intro) <;> exact rfl)) fun r3 hr3 => ?_
    refine st_box td_ok rfl rfl rfl rfl rfl rfl (by ((repeat' with_reducible apply And.intro) <;> exact rfl)) fun r4 hr4 => ?_
    refine st_box td_ok rfl rfl rfl rfl rfl rfl (by ((repeat' with_reducible apply And.intro) <;> exact rfl)) fun r5 hr5 => ?_
    refine st td_ok rfl rfl rfl rfl (r := .v _) rfl trivial ?_
    refine AOps_nil ?_
    refine qn ?_
    refine AWP_seq ?_
    obtain ⟨h54, hr5n⟩ := XH.put_none hr5
    obtain ⟨h43, hr4n⟩ := XH.put_none hr4
    have h53 := (XH.put_none hr5n).1
    have hX3 : (((XH.none.put r3 ⟨22, [.sl ta data.length (data.flatMap Dat.enc)]⟩).put r4 ⟨25, (Ty.mk k n l).enc⟩).put r5 ⟨3, [.v (.int .i64 vars)]⟩) r3 = some ⟨22, [.sl ta data.length (data.flatMap Dat.enc)]⟩ := XH.put_ne h53.symm (XH.put_ne h43.symm XH.put_same)
    have hX4 : (((XH.none.put r3 ⟨22, [.sl ta data.length (data.flatMap Dat.enc)]⟩).put r4 ⟨25, (Ty.mk k n l).enc⟩).put r5 ⟨3, [.v (.int .i64 vars)]⟩) r4 = some ⟨25, (Ty.mk k n l).enc⟩ := XH.put_ne h54.symm XH.put_same
    have hX5 : (((XH.none.put r3 ⟨22, [.sl ta data.length (data.flatMap Dat.enc)]⟩).put r4 ⟨25, (Ty.mk k n l).enc⟩).put r5 ⟨3, [.v (.int .i64 vars)]⟩) r5 = some ⟨3, [.v (.int .i64 vars)]⟩ := XH.put_same
    clear hr5 hr4
    show AWP _ _ _ _ _ (((XH.none.put r3 ⟨22, [.sl ta data.length (data.flatMap Dat.enc)]⟩).put r4 ⟨25, (Ty.mk k n l).enc⟩).put r5 ⟨3, [.v (.int .i64 vars)]⟩)
    generalize (((XH.none.put r3 ⟨22, [.sl ta data.length (data.flatMap Dat.enc)]⟩).put r4 ⟨25, (Ty.mk k n l).enc⟩).put r5 ⟨3, [.v (.int .i64 vars)]⟩) = X0 at hX3 hX4 hX5 ⊢
    refine AWP_drawn rfl rfl rfl rfl ?_
    refine es td_ok rfl rfl rfl (r := .v _) rfl trivial (rfl) ?_
    refine es_own (r := .sl _ _ _) td_ok rfl rfl rfl rfl rfl rfl (by assumption) (Nat.le_of_ble_eq_true rfl) rfl ?_
    refine es td_ok rfl rfl rfl (r := .v _) rfl trivial (rfl) ?_
    refine es td_ok rfl rfl rfl (r := .v _) rfl trivial (rfl) ?_
    refine es_own (r := .v _) td_ok rfl rfl rfl rfl rfl rfl (by assumption) (Nat.le_of_ble_eq_true rfl) rfl ?_
    refine es td_ok rfl rfl rfl (r := .v _) rfl trivial (rfl) ?_
    refine es td_ok rfl rfl rfl (r := .v _) rfl trivial (rfl) ?_
    refine es td_ok rfl rfl rfl (r := .v _) rfl trivial (rfl) ?_
    refine es td_ok rfl rfl rfl (r := .v _) rfl trivial (rfl) ?_
    refine es td_ok rfl rfl rfl (r := .v _) rfl trivial (rfl) ?_
    refine AOps_nil ?_
    refine qn ?_
    refine AWP_cut (fun (x : Bool × Int × Int) => [(3, .v (.pointer (some ⟨r3, 0, none⟩))), (4, .v (.pointer (some ⟨r4, 0, none⟩))), (5, .v (.pointer (some ⟨r5, 0, none⟩))), (7, .v (.int .i64 l.length)), (8, .v (.int .i64 x.2.1)), (9, .v (.int .i64 x.2.2)), (10, .v (.bool x.1))]) (fun x X => X r3 = some ⟨22, [.sl ta data.length (data.flatMap Dat.enc)]⟩ ∧ X r4 = some ⟨25, (Ty.mk k n l).enc⟩ ∧ X r5 = some ⟨3, [.v (.int .i64 vars)]⟩ ∧ (x.1 && (decide (x.2.1 ≤ l.length) && decide ((l.length : Int) ≤ x.2.2))) = headV data vars k n l.length) ?_ ?_
    ·
      refine AWP_seq ?_
      refine AWP_region ?_
      refine st td_ok rfl rfl rfl rfl (r := .v _) rfl trivial ?_
      refine st_own (r := .v _) td_ok rfl rfl rfl rfl rfl rfl rfl (by assumption) (Nat.le_of_ble_eq_true rfl) rfl  ?_
      refine AOps_nil ?_
      refine qn ?_
      refine AWP_block ?_
      refine AWP_cut (fun (b : Bool) => [(3, .v (.pointer (some ⟨r3, 0, none⟩))), (4, .v (.pointer (some ⟨r4, 0, none⟩))), (5, .v (.pointer (some ⟨r5, 0, none⟩))), (7, .v (.int .i64 l.length)), (8, .v (.int .i64 0)), (9, .v (.int .i64 0)), (10, .v (.bool (n == 0))), (18, .v (.int .i64 k)), (19, .v (.bool b))]) (fun b X => X = X0 ∧ b = (bif k == 1 then true else bif k == 2 then true else k == 3)) ?_ ?_
      ·
        refine AWP_seq ?_
        refine AWP_region ?_
        refine st td_ok rfl rfl rfl rfl (r := .v _) rfl trivial ?_
        refine st td_ok rfl rfl rfl rfl (r := .v _) rfl trivial ?_
        refine AOps_nil ?_
        refine qn ?_
        refine AWP_cond rfl rfl (fun h0 => ?_) (fun h0 => ?_)
        ·
          refine AWP_skip ?_
          refine qn ?_
          exact ⟨_, by (repeat' (first | exact rfl | exact trivial | apply And.intro)), rfl, by rw [h0]; rfl⟩
        ·
          refine AWP_seq ?_
          refine AWP_region ?_
          refine st td_ok rfl rfl rfl rfl (r := .v _) rfl trivial ?_
          refine st td_ok rfl rfl rfl rfl (r := .v _) rfl trivial ?_
          refine AOps_nil ?_
          refine qn ?_
          refine AWP_cond rfl rfl (fun h1 => ?_) (fun h1 => ?_)
          ·
            refine AWP_skip ?_
            refine qn ?_
            exact ⟨_, by (repeat' (first | exact rfl | exact trivial | apply And.intro)), rfl, by rw [h0, h1]; rfl⟩
          ·
            refine AWP_region ?_
            refine st td_ok rfl rfl rfl rfl (r := .v _) rfl trivial ?_
            refine st td_ok rfl rfl rfl rfl (r := .v _) rfl trivial ?_
            refine AOps_nil ?_
            refine qn ?_
            exact ⟨_, by (repeat' (first | exact rfl | exact trivial | apply And.intro)), rfl, by rw [h0, h1]; rfl⟩
      ·
        rintro b X ⟨hX, hb⟩
        refine AWP_cond rfl rfl (fun h2 => ?_) (fun h2 => ?_)
        ·
          subst hX
          have hk : k = 1 ∨ k = 2 ∨ k = 3 := by subst hb; simp only [Bool.cond_eq_ite, Bool.if_true_left, Bool.or_eq_true, beq_iff_eq, decide_eq_true_eq] at h2; exact h2
          refine AWP_skip ?_
          refine qbn ?_
          refine qn ?_
          exact ⟨(_, _, _), by (repeat' (first | exact rfl | exact trivial | apply And.intro)), hX3, hX4, hX5, by dsimp only; generalize l.length = len; rw [headV, if_pos hk, Bool.eq_iff_iff]; by_cases hn : 0 ≤ n <;> simp [hn] <;> omega⟩
        ·
          subst hX
          have hk : ¬ (k = 1 ∨ k = 2 ∨ k = 3) := by subst hb; intro hc; rcases hc with rfl | rfl | rfl <;> simp at h2
          clear hb h2
          refine AWP_seq ?_
          refine AWP_region ?_
          refine st td_ok rfl rfl rfl rfl (r := .v _) rfl trivial ?_
          refine st td_ok rfl rfl rfl rfl (r := .v _) rfl trivial ?_
          refine AOps_nil ?_
          refine qn ?_
          refine AWP_cond rfl rfl (fun h3 => ?_) (fun h3 => ?_)
          ·
            have hk4 : k = 4 := by simpa using h3
            refine AWP_region ?_
            refine st td_ok rfl rfl rfl rfl (r := .v _) rfl trivial ?_
            refine st_own (r := .v _) td_ok rfl rfl rfl rfl rfl rfl rfl (by assumption) (Nat.le_of_ble_eq_true rfl) rfl  ?_
            refine st td_ok rfl rfl rfl rfl (r := .v _) rfl trivial ?_
            refine st td_ok rfl rfl rfl rfl (r := .v _) rfl trivial ?_
            (refine sgk0 td_ok rfl rfl rfl rfl rfl rfl (r := .v _) rfl ?_ ?_; · exact fun hg => ⟨by (repeat' (first | exact trivial | exact hg | exact (Bool.and_eq_true_iff.mp hg).1 | apply And.intro)), by exact trivial⟩)
            refine sgk_own (r := .v _) td_ok rfl rfl rfl rfl rfl rfl rfl rfl rfl (by assumption) (fun hg => by (repeat' (first | exact trivial | exact hg | exact (Bool.and_eq_true_iff.mp hg).1 | apply And.intro))) (Nat.le_of_ble_eq_true rfl) rfl ?_
            refine sgk_own (r := .v _) td_ok rfl rfl rfl rfl rfl rfl rfl rfl rfl (by assumption) (fun hg => by (repeat' (first | exact trivial | exact hg | exact (Bool.and_eq_true_iff.mp hg).1 | apply And.intro))) (Nat.le_of_ble_eq_true rfl) rfl ?_
            (refine sgk0 td_ok rfl rfl rfl rfl rfl rfl (r := .v _) rfl ?_ ?_; · exact fun hg => ⟨by (repeat' (first | exact trivial | exact hg | exact (Bool.and_eq_true_iff.mp hg).1 | apply And.intro)), by exact trivial⟩)
            (refine st td_ok rfl rfl rfl rfl (r := .v _) rfl ?_ ?_; · exact (fun h => h))
            refine st td_ok rfl rfl rfl rfl (r := .v _) rfl trivial ?_
            refine AOps_nil ?_
            refine qbn ?_
            refine qn ?_
            exact ⟨(_, _, _), by (repeat' (first | exact rfl | exact trivial | apply And.intro)), hX3, hX4, hX5, by dsimp only; generalize l.length = len; rw [headV, if_neg hk, if_pos hk4, Bool.eq_iff_iff]; by_cases hn : 0 ≤ n <;> simp [hn] <;> omega⟩
          ·
            have hk4 : ¬ k = 4 := by simpa using h3
            refine AWP_seq ?_
            refine AWP_region ?_
            refine st td_ok rfl rfl rfl rfl (r := .v _) rfl trivial ?_
            refine st td_ok rfl rfl rfl rfl (r := .v _) rfl trivial ?_
            refine AOps_nil ?_
            refine qn ?_
            refine AWP_cond rfl rfl (fun h4 => ?_) (fun h4 => ?_)
            ·
              have hk5 : k = 5 := by simpa using h4
              refine AWP_seq ?_
              refine AWP_region ?_
              refine st td_ok rfl rfl rfl rfl (r := .v _) rfl trivial ?_
              refine st_own (r := .v _) td_ok rfl rfl rfl rfl rfl rfl rfl (by assumption) (Nat.le_of_ble_eq_true rfl) rfl  ?_
              refine st td_ok rfl rfl rfl rfl (r := .v _) rfl trivial ?_
              refine st td_ok rfl rfl rfl rfl (r := .v _) rfl trivial ?_
              (refine sgk0 td_ok rfl rfl rfl rfl rfl rfl (r := .v _) rfl ?_ ?_; · exact fun hg => ⟨by (repeat' (first | exact trivial | exact hg | exact (Bool.and_eq_true_iff.mp hg).1 | apply And.intro)), by exact trivial⟩)
              refine sgk_own (r := .v _) td_ok rfl rfl rfl rfl rfl rfl rfl rfl rfl (by assumption) (fun hg => by (repeat' (first | exact trivial | exact hg | exact (Bool.and_eq_true_iff.mp hg).1 | apply And.intro))) (Nat.le_of_ble_eq_true rfl) rfl ?_
              refine sgk_own (r := .sl _ _ _) td_ok rfl rfl rfl rfl rfl rfl rfl rfl rfl (by assumption) (fun hg => by (repeat' (first | exact trivial | exact hg | exact (Bool.and_eq_true_iff.mp hg).1 | apply And.intro))) (Nat.le_of_ble_eq_true rfl) rfl ?_
              (refine sgk0 td_ok rfl rfl rfl rfl rfl rfl (r := .v _) rfl ?_ ?_; · exact fun hg => ⟨by (repeat' (first | exact trivial | exact hg | exact (Bool.and_eq_true_iff.mp hg).1 | apply And.intro)), by exact trivial⟩)
              (refine sgk0 td_ok rfl rfl rfl rfl rfl rfl (r := .v _) rfl ?_ ?_; · exact fun hg => ⟨by (repeat' (first | exact trivial | exact hg | exact (Bool.and_eq_true_iff.mp hg).1 | apply And.intro)), by exact trivial⟩)
              (refine st td_ok rfl rfl rfl rfl (r := .v _) rfl ?_ ?_; · exact (fun h => h))
              refine st td_ok rfl rfl rfl rfl (r := .v _) rfl trivial ?_
              refine AOps_nil ?_
              refine qn ?_
              refine AWP_seq ?_
              refine AWP_region ?_
              refine st td_ok rfl rfl rfl rfl (r := .v _) rfl trivial ?_
              refine AOps_nil ?_
              refine qn ?_
              refine AWP_cond rfl rfl (fun h5 => ?_) (fun h5 => ?_)
              ·
                have hlt : n.toNat < data.length := by have h5' := h5; simp at h5'; omega
                have hn0 : 0 ≤ n := by have h5' := h5; simp at h5'; omega
                have hn1 : n < data.length := by omega
                obtain ⟨⟨nm, vs, cs⟩, hda⟩ : ∃ t, data.getD n.toNat dat0 = t := ⟨_, rfl⟩
                have hdv : (data.getD n.toNat dat0).vars = vs := by rw [hda]; rfl
                refine AWP_drawn rfl rfl rfl rfl ?_
                refine es_own (r := .sl _ _ _) td_ok rfl rfl rfl rfl rfl rfl (by assumption) (Nat.le_of_ble_eq_true rfl) rfl ?_
                refine es td_ok rfl rfl rfl (r := .v _) rfl trivial (rfl) ?_
                refine es_own (r := .v _) td_ok rfl rfl rfl rfl rfl rfl (by assumption) (Nat.le_of_ble_eq_true rfl) rfl ?_
                (refine es td_ok rfl rfl rfl (r := .pp _ _) rfl ?_ (rfl) ?_; · ((repeat' with_reducible apply And.intro) <;> (first | with_reducible assumption | (simp only [Ty.encs_len, Ty.enc_len, dats_len, cond_true, cond_false, nd, Option.getD_none, Option.getD_some, Int.toNat_natCast, strs_len, nums_len, List.length_append, tds2, tds3, tds4, tds5, tds9, tds12, tds21, tds22, tds23, tds24, tds25, tds30, tds31, tds32, tds33, tds34, tds36, tds43, tds45, tds47, tds57, tds62, tds66, tds69, decide_eq_true_eq, Bool.and_eq_true, Bool.not_eq_true', decide_eq_false_iff_not] at *; omega))))
                refine es td_ok rfl rfl rfl (r := .pp _ _) rfl trivial (rfl) ?_
                (refine es td_ok rfl rfl rfl (r := _) rfl ?_ (((flat_cell_lt Dat.enc dat0 Dat.enc_len data n.toNat 1 (by decide) hlt).trans (by rw [hda]; first | done | rfl))) ?_; · ((repeat' with_reducible apply And.intro) <;> (simp only [Ty.encs_len, Ty.enc_len, dats_len, cond_true, cond_false, nd, Option.getD_none, Option.getD_some, Int.toNat_natCast, strs_len, nums_len, List.length_append, tds2, tds3, tds4, tds5, tds9, tds12, tds21, tds22, tds23, tds24, tds25, tds30, tds31, tds32, tds33, tds34, tds36, tds43, tds45, tds47, tds57, tds62, tds66, tds69, decide_eq_true_eq, Bool.and_eq_true, Bool.not_eq_true', decide_eq_false_iff_not] at *; omega)))
                refine es_own (r := .sl _ _ _) td_ok rfl rfl rfl rfl rfl rfl (by assumption) (Nat.le_of_ble_eq_true rfl) rfl ?_
                refine es td_ok rfl rfl rfl (r := .v _) rfl trivial (rfl) ?_
                refine es_own (r := .v _) td_ok rfl rfl rfl rfl rfl rfl (by assumption) (Nat.le_of_ble_eq_true rfl) rfl ?_
                (refine es td_ok rfl rfl rfl (r := .pp _ _) rfl ?_ (rfl) ?_; · ((repeat' with_reducible apply And.intro) <;> (first | with_reducible assumption | (simp only [Ty.encs_len, Ty.enc_len, dats_len, cond_true, cond_false, nd, Option.getD_none, Option.getD_some, Int.toNat_natCast, strs_len, nums_len, List.length_append, tds2, tds3, tds4, tds5, tds9, tds12, tds21, tds22, tds23, tds24, tds25, tds30, tds31, tds32, tds33, tds34, tds36, tds43, tds45, tds47, tds57, tds62, tds66, tds69, decide_eq_true_eq, Bool.and_eq_true, Bool.not_eq_true', decide_eq_false_iff_not] at *; omega))))
                refine es td_ok rfl rfl rfl (r := .pp _ _) rfl trivial (rfl) ?_
                (refine es td_ok rfl rfl rfl (r := _) rfl ?_ (((flat_cell_lt Dat.enc dat0 Dat.enc_len data n.toNat 1 (by decide) hlt).trans (by rw [hda]; first | done | rfl))) ?_; · ((repeat' with_reducible apply And.intro) <;> (simp only [Ty.encs_len, Ty.enc_len, dats_len, cond_true, cond_false, nd, Option.getD_none, Option.getD_some, Int.toNat_natCast, strs_len, nums_len, List.length_append, tds2, tds3, tds4, tds5, tds9, tds12, tds21, tds22, tds23, tds24, tds25, tds30, tds31, tds32, tds33, tds34, tds36, tds43, tds45, tds47, tds57, tds62, tds66, tds69, decide_eq_true_eq, Bool.and_eq_true, Bool.not_eq_true', decide_eq_false_iff_not] at *; omega)))
                refine es td_ok rfl rfl rfl (r := .v _) rfl trivial (rfl) ?_
                refine es td_ok rfl rfl rfl (r := .v _) rfl trivial (rfl) ?_
                refine AOps_nil ?_
                refine qbn ?_
                refine qn ?_
                exact ⟨(_, _, _), by (repeat' (first | exact rfl | exact trivial | apply And.intro)), hX3, hX4, hX5, by dsimp only; generalize l.length = len; rw [headV, if_neg hk, if_neg hk4, if_pos hk5, hdv, Bool.eq_iff_iff]; simp [hn0, hn1]; omega⟩
              ·
                refine AWP_skip ?_
                refine qbn ?_
                refine qn ?_
                exact ⟨(_, _, _), by (repeat' (first | exact rfl | exact trivial | apply And.intro)), hX3, hX4, hX5, by dsimp only; generalize l.length = len; rw [headV, if_neg hk, if_neg hk4, if_pos hk5, Bool.eq_iff_iff]; by_cases hn : 0 ≤ n <;> simp [hn] at h5 ⊢ <;> omega⟩
            ·
              have hk5 : ¬ k = 5 := by simpa using h4
              refine AWP_seq ?_
              refine AWP_region ?_
              refine st td_ok rfl rfl rfl rfl (r := .v _) rfl trivial ?_
              refine st td_ok rfl rfl rfl rfl (r := .v _) rfl trivial ?_
              refine AOps_nil ?_
              refine qn ?_
              refine AWP_cond rfl rfl (fun h6 => ?_) (fun h6 => ?_)
              ·
                have hk6 : k = 6 := by simpa using h6
                refine AWP_region ?_
                refine st td_ok rfl rfl rfl rfl (r := .v _) rfl trivial ?_
                refine st td_ok rfl rfl rfl rfl (r := .v _) rfl trivial ?_
                refine AOps_nil ?_
                refine qbn ?_
                refine qn ?_
                exact ⟨(_, _, _), by (repeat' (first | exact rfl | exact trivial | apply And.intro)), hX3, hX4, hX5, by dsimp only; generalize l.length = len; rw [headV, if_neg hk, if_neg hk4, if_neg hk5, if_pos hk6, Bool.eq_iff_iff]; by_cases hn : 0 ≤ n <;> simp [hn] <;> omega⟩
              ·
                have hk6 : ¬ k = 6 := by simpa using h6
                refine AWP_cut (fun (b : Bool) => [(3, .v (.pointer (some ⟨r3, 0, none⟩))), (4, .v (.pointer (some ⟨r4, 0, none⟩))), (5, .v (.pointer (some ⟨r5, 0, none⟩))), (7, .v (.int .i64 l.length)), (8, .v (.int .i64 0)), (9, .v (.int .i64 0)), (10, .v (.bool (n == 0))), (18, .v (.int .i64 k)), (61, .v (.bool b))]) (fun b X' => X' = X ∧ b = (bif k == 7 then true else k == 8)) ?_ ?_
                ·
                  refine AWP_seq ?_
                  refine AWP_region ?_
                  refine st td_ok rfl rfl rfl rfl (r := .v _) rfl trivial ?_
                  refine st td_ok rfl rfl rfl rfl (r := .v _) rfl trivial ?_
                  refine AOps_nil ?_
                  refine qn ?_
                  refine AWP_cond rfl rfl (fun h7 => ?_) (fun h7 => ?_)
                  ·
                    refine AWP_skip ?_
                    refine qn ?_
                    exact ⟨_, by (repeat' (first | exact rfl | exact trivial | apply And.intro)), rfl, by rw [h7]; rfl⟩
                  ·
                    refine AWP_region ?_
                    refine st td_ok rfl rfl rfl rfl (r := .v _) rfl trivial ?_
                    refine st td_ok rfl rfl rfl rfl (r := .v _) rfl trivial ?_
                    refine AOps_nil ?_
                    refine qn ?_
                    exact ⟨_, by (repeat' (first | exact rfl | exact trivial | apply And.intro)), rfl, by rw [h7]; rfl⟩
                ·
                  rintro b X ⟨hX, hb⟩
                  refine AWP_cond rfl rfl (fun h8 => ?_) (fun h8 => ?_)
                  ·
                    subst hX
                    have hk78 : k = 7 ∨ k = 8 := by subst hb; simp only [Bool.cond_eq_ite, Bool.if_true_left, Bool.or_eq_true, beq_iff_eq, decide_eq_true_eq] at h8; simpa using h8
                    refine AWP_region ?_
                    refine st td_ok rfl rfl rfl rfl (r := .v _) rfl trivial ?_
                    refine st td_ok rfl rfl rfl rfl (r := .v _) rfl trivial ?_
                    refine AOps_nil ?_
                    refine qbn ?_
                    refine qn ?_
                    exact ⟨(_, _, _), by (repeat' (first | exact rfl | exact trivial | apply And.intro)), hX3, hX4, hX5, by dsimp only; generalize l.length = len; rw [headV, if_neg hk, if_neg hk4, if_neg hk5, if_neg hk6, if_pos hk78, Bool.eq_iff_iff]; by_cases hn : 0 ≤ n <;> simp [hn] <;> omega⟩
                  ·
                    subst hX
                    have hk78 : ¬ (k = 7 ∨ k = 8) := by subst hb; intro hc; rcases hc with rfl | rfl <;> simp at h8
                    clear hb h8
                    refine AWP_seq ?_
                    refine AWP_region ?_
                    refine st td_ok rfl rfl rfl rfl (r := .v _) rfl trivial ?_
                    refine st td_ok rfl rfl rfl rfl (r := .v _) rfl trivial ?_
                    refine AOps_nil ?_
                    refine qn ?_
                    refine AWP_cond rfl rfl (fun h9 => ?_) (fun h9 => ?_)
                    ·
                      have hk9 : k = 9 := by simpa using h9
                      refine AWP_region ?_
                      refine st td_ok rfl rfl rfl rfl (r := .v _) rfl trivial ?_
                      refine st td_ok rfl rfl rfl rfl (r := .v _) rfl trivial ?_
                      refine AOps_nil ?_
                      refine qbn ?_
                      refine qn ?_
                      exact ⟨(_, _, _), by (repeat' (first | exact rfl | exact trivial | apply And.intro)), hX3, hX4, hX5, by dsimp only; generalize l.length = len; rw [headV, if_neg hk, if_neg hk4, if_neg hk5, if_neg hk6, if_neg hk78, if_pos hk9, Bool.eq_iff_iff]; by_cases hn : 0 ≤ n <;> simp [hn] <;> omega⟩
                    ·
                      have hk9 : ¬ k = 9 := by simpa using h9
                      refine AWP_seq ?_
                      refine AWP_region ?_
                      refine st td_ok rfl rfl rfl rfl (r := .v _) rfl trivial ?_
                      refine AOps_nil ?_
                      refine qn ?_
                      refine AWP_ret ?_
                      refine qbr ?_
                      refine qr ?_
                      refine ⟨_, _, _, _, rfl, trivial, GS.forget _ _, ?_⟩
                      first | show AV.v _ = _ | show AV.tup _ = _ | show AV.sl _ _ _ = _ | show AV.agg _ = _ | skip
                      rw [validT, headV, if_neg hk, if_neg hk4, if_neg hk5, if_neg hk6, if_neg hk78, if_neg hk9]; rfl
    ·
      rintro ⟨num, lo, hi⟩ X ⟨hX3, hX4, hX5, hv⟩
      refine AWP_seq ?_
      refine AWP_region ?_
      refine st td_ok rfl rfl rfl rfl (r := .v _) rfl trivial ?_
      refine st td_ok rfl rfl rfl rfl (r := .v _) rfl trivial ?_
      (refine sgk0 td_ok rfl rfl rfl rfl rfl rfl (r := .v _) rfl ?_ ?_; · exact fun hg => ⟨by (repeat' (first | exact trivial | exact hg | exact (Bool.and_eq_true_iff.mp hg).1 | apply And.intro)), by exact trivial⟩)
      (refine sgk0 td_ok rfl rfl rfl rfl rfl rfl (r := .v _) rfl ?_ ?_; · exact fun hg => ⟨by (repeat' (first | exact trivial | exact hg | exact (Bool.and_eq_true_iff.mp hg).1 | apply And.intro)), by exact trivial⟩)
      (refine sgk0 td_ok rfl rfl rfl rfl rfl rfl (r := .v _) rfl ?_ ?_; · exact fun hg => ⟨by (repeat' (first | exact trivial | exact hg | exact (Bool.and_eq_true_iff.mp hg).1 | apply And.intro)), by exact trivial⟩)
      (refine st td_ok rfl rfl rfl rfl (r := .v _) rfl ?_ ?_; · exact (fun h => h))
      refine st td_ok rfl rfl rfl rfl (r := .v _) rfl trivial ?_
      (refine sgk0 td_ok rfl rfl rfl rfl rfl rfl (r := .v _) rfl ?_ ?_; · exact fun hg => ⟨by (repeat' (first | exact trivial | exact hg | exact (Bool.and_eq_true_iff.mp hg).1 | apply And.intro)), by exact trivial⟩)
      (refine sgk0 td_ok rfl rfl rfl rfl rfl rfl (r := .v _) rfl ?_ ?_; · exact fun hg => ⟨by (repeat' (first | exact trivial | exact hg | exact (Bool.and_eq_true_iff.mp hg).1 | apply And.intro)), by exact trivial⟩)
      (refine sgk0 td_ok rfl rfl rfl rfl rfl rfl (r := .v _) rfl ?_ ?_; · exact fun hg => ⟨by (repeat' (first | exact trivial | exact hg | exact (Bool.and_eq_true_iff.mp hg).1 | apply And.intro)), by exact trivial⟩)
      (refine st td_ok rfl rfl rfl rfl (r := .v _) rfl ?_ ?_; · exact (fun h => h))
      refine st td_ok rfl rfl rfl rfl (r := .v _) rfl trivial ?_
      (refine sgk0 td_ok rfl rfl rfl rfl rfl rfl (r := .v _) rfl ?_ ?_; · exact fun hg => ⟨by (repeat' (first | exact trivial | exact hg | exact (Bool.and_eq_true_iff.mp hg).1 | apply And.intro)), by exact trivial⟩)
      refine sgk_own (r := .sl _ _ _) td_ok rfl rfl rfl rfl rfl rfl rfl rfl rfl (by assumption) (fun hg => by (repeat' (first | exact trivial | exact hg | exact (Bool.and_eq_true_iff.mp hg).1 | apply And.intro))) (Nat.le_of_ble_eq_true rfl) rfl ?_
      (refine sgk0 td_ok rfl rfl rfl rfl rfl rfl (r := .clo _ _ _) rfl ?_ ?_; · exact fun hg => ⟨by (repeat' (first | exact trivial | exact hg | exact (Bool.and_eq_true_iff.mp hg).1 | apply And.intro)), by exact trivial⟩)
      refine stg_acall (K := fun b X' => b = l.any fun t => !(validT data vars t)) rfl rfl rfl rfl rfl rfl rfl rfl (fun hg => ⟨by (repeat' (first | exact trivial | exact hg | exact (Bool.and_eq_true_iff.mp hg).1 | apply And.intro)), rfl, ⟨_, rfl, rfl, rfl⟩, ?_⟩) fun b29 X29 hy29 hn29 => ?_
      · exact (ContainsFunc_of (fun Y => Y r3 = some ⟨22, [.sl ta data.length (data.flatMap Dat.enc)]⟩ ∧ Y r5 = some ⟨3, [.v (.int .i64 vars)]⟩) (fun t => !(validT data vars t)) 18 [] [.v (.pointer (some ⟨r3, 0, none⟩)), .v (.pointer (some ⟨r5, 0, none⟩))] l false (by omega) ⟨_, rfl, rfl, rfl⟩ (fun j Y hj hY => (validClo_c data ta vars (l.getD j ty0) _ (ih _ (by have := Ty.kid_lt (k := k) (n := n) hj; omega) (by have := Ty.sizes_get l j hj; omega)) Y r3 r5 hY.1 hY.2).mono (fun av X' ⟨b', h1, h2, h3, h4⟩ => ⟨b', h1, h2, h3, h4⟩)) X ⟨hX3, hX5⟩).mono (fun av X' ⟨b', h1, h2, h3⟩ => ⟨b', h1, h2⟩)
      (refine sgk0 td_ok rfl rfl rfl rfl rfl rfl (r := .v _) rfl ?_ ?_; · exact fun hg => ⟨by (repeat' (first | exact trivial | exact hg | exact (Bool.and_eq_true_iff.mp hg).1 | apply And.intro)), by exact trivial⟩)
      (refine st td_ok rfl rfl rfl rfl (r := .v _) rfl ?_ ?_; · exact (fun h => h))
      refine st td_ok rfl rfl rfl rfl (r := .v _) rfl trivial ?_
      refine AOps_nil ?_
      refine qn ?_
      refine AWP_ret ?_
      refine ⟨_, _, _, _, rfl, trivial, GS.forget _ _, ?_⟩
      first | show AV.v _ = _ | show AV.tup _ = _ | show AV.sl _ _ _ = _ | show AV.agg _ = _ | skip
      change (num && (decide (lo ≤ (l.length : Int)) && decide ((l.length : Int) ≤ hi))) = _ at hv
      have hy : (bif (bif num then decide (lo ≤ (l.length : Int)) else false) then decide ((l.length : Int) ≤ hi) else false) = true → b29 = l.any fun t => !validT data vars t := hy29
      have e : (bif (bif (bif num then decide (lo ≤ (l.length : Int)) else false) then decide ((l.length : Int) ≤ hi) else false) then !b29 else false) = validT data vars (Ty.mk k n l) := by
        simp only [validT]
        rw [← validL_any, ← hv]
        generalize decide (lo ≤ (l.length : Int)) = d1 at hy ⊢
        generalize decide ((l.length : Int) ≤ hi) = d2 at hy ⊢
        cases num <;> cases d1 <;> cases d2 <;> first | rfl | (rw [hy rfl]; rfl)
      exact congrArg (fun b => AV.v (.bool b)) e
theorem Valid_c (data : List Dat) (ta : Bool) (vars : Int) (hd : data.length ≤ 1000000000) (t : Ty) (hs : t.size ≤ 1000000000) : PCalls Tryd.prog 6 [.sl ta data.length (data.flatMap Dat.enc), .agg t.enc, .v (.int .i64 vars)] (.v (.bool (decide (t.size ≤ 200) && validT data vars t))) := by
  obtain ⟨b, hb⟩ : ∃ b, validT data vars t = b := ⟨_, rfl⟩
  have hv := valid_c data ta vars hd _ t (Nat.lt_succ_self _) hs
  have hz := size_c _ t 201 (Nat.lt_succ_self _) hs (by decide) (by decide)
  have e : decide (min (t.size : Int) 201 ≤ 200) = decide (t.size ≤ 200) := by rw [Bool.eq_iff_iff]; simp; omega
  rw [hb] at hv ⊢
  rcases t with ⟨k, n, l⟩
  refine calls_body td_ok Tryd.func6 rfl rfl rfl ?_
  refine AWP_seq ?_
  refine AWP_region ?_
  refine st_box td_ok rfl rfl rfl rfl rfl rfl (by ((repeat' with_reducible apply And.intro) <;> exact rfl)) fun r4 hr4 => ?_
  refine st td_ok rfl rfl rfl rfl (r := .v _) rfl trivial ?_
  refine AOps_nil ?_
  refine qn ?_
  refine AWP_seq ?_
  refine AWP_region ?_
  refine st_own (r := .agg [.v _, .v _, _]) td_ok rfl rfl rfl rfl rfl rfl rfl XH.put_same (Nat.le_of_ble_eq_true rfl) rfl  ?_
  refine st_pcall rfl rfl rfl rfl rfl rfl rfl ⟨_, rfl, rfl, rfl⟩ hz ?_
  refine st td_ok rfl rfl rfl rfl (r := .v _) rfl trivial ?_
  refine st td_ok rfl rfl rfl rfl (r := .v _) rfl trivial ?_
  (refine sgk0 td_ok rfl rfl rfl rfl rfl rfl (r := .sl _ _ _) rfl ?_ ?_; · exact fun hg => ⟨by (repeat' (first | exact trivial | exact hg | exact (Bool.and_eq_true_iff.mp hg).1 | apply And.intro)), by exact trivial⟩)
  refine sgk_own (r := .agg [.v _, .v _, _]) td_ok rfl rfl rfl rfl rfl rfl rfl rfl rfl XH.put_same (fun hg => by (repeat' (first | exact trivial | exact hg | exact (Bool.and_eq_true_iff.mp hg).1 | apply And.intro))) (Nat.le_of_ble_eq_true rfl) rfl ?_
  (refine sgk0 td_ok rfl rfl rfl rfl rfl rfl (r := .v _) rfl ?_ ?_; · exact fun hg => ⟨by (repeat' (first | exact trivial | exact hg | exact (Bool.and_eq_true_iff.mp hg).1 | apply And.intro)), by exact trivial⟩)
  refine stg_call rfl rfl rfl rfl rfl rfl rfl rfl (fun hg => ⟨by (repeat' (first | exact trivial | exact hg | exact (Bool.and_eq_true_iff.mp hg).1 | apply And.intro)), rfl, ⟨_, rfl, rfl, rfl⟩, hv⟩) ?_
  (refine st td_ok rfl rfl rfl rfl (r := .v _) rfl ?_ ?_; · exact (fun h => h))
  refine st td_ok rfl rfl rfl rfl (r := .v _) rfl trivial ?_
  refine AOps_nil ?_
  refine qn ?_
  refine AWP_ret ?_
  refine ⟨_, _, _, _, rfl, trivial, GS.forget _ _, ?_⟩
  first | show AV.v _ = _ | show AV.tup _ = _ | show AV.sl _ _ _ = _ | show AV.agg _ = _ | skip
  rw [e]; cases decide ((Ty.mk k n l).size ≤ 200) <;> rfl
end Go.Proofs.YtgnfjahkhhkmoaaDoor.V
