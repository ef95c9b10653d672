import Derived.Test.YtgnfjahkhhkmoaaDoorC6
namespace Go.Proofs.YtgnfjahkhhkmoaaDoor.V
open Go
set_option linter.unusedSimpArgs false
set_option linter.unusedVariables false
set_option maxRecDepth 20000

theorem Ty.encs_take : ∀ (l : List Ty) (k : Nat), (Ty.encs l).take (k * 3) = Ty.encs (l.take k)
  | [], k => by simp [Ty.encs]
  | t :: l, 0 => by simp [Ty.encs]
  | t :: l, k + 1 => by
    rw [List.take_succ_cons]
    simp only [Ty.encs]
    rw [show (k + 1) * 3 = t.enc.length + k * 3 by rw [Ty.enc_len]; omega, List.take_length_add_append, Ty.encs_take l k]
theorem sub1 {n : Nat} (h : 1 ≤ n) (hl : n ≤ 1000000000) : AV.v (.int .i64 (IntKind.i64.wrap ((n : Int) - 1))) = AV.v (.int .i64 ((n - 1 : Nat) : Int)) := by
  rw [IntWalk.i64_in _ (by omega), show (n : Int) - 1 = ((n - 1 : Nat) : Int) by omega]
theorem validL_get {data : List Dat} {vars : Int} {l : List Ty} (h : validL data vars l = true) {j : Nat} (hj : j < l.length) : validT data vars (l.getD j ty0) = true := by
  rw [validL_all, List.all_eq_true] at h
  exact h _ (getD_mem hj)
theorem validL_take {data : List Dat} {vars : Int} {l : List Ty} (h : validL data vars l = true) (k : Nat) : validL data vars (l.take k) = true := by
  rw [validL_all, List.all_eq_true] at h ⊢
  exact fun x hx => h x (List.mem_of_mem_take hx)
theorem Dat.enc_name : ∀ d : Dat, d.enc.getD 0 .any = .v (.string (mkS (nameL d)))
  | .mk _ _ _ => rfl
theorem getD_map' {α β : Type} (f : α → β) {l : List α} {d : α} {e : β} {j : Nat} (h : j < l.length) : (l.map f).getD j e = f (l.getD j d) := by
  rw [List.getD_eq_getElem?_getD, List.getD_eq_getElem?_getD, List.getElem?_map, List.getElem?_eq_getElem h]; rfl
theorem text_c (data : List Dat) (ta : Bool) (hd : data.length ≤ 1000000000) (hno : namesOk data) (m : Nat) : ∀ (t : Ty), t.size < m → t.size ≤ 1000000 → validT data 101 t = true → PCalls Tryd.prog 15 [.sl ta data.length (data.flatMap Dat.enc), .agg t.enc] (.v (.string (mkS (fmtT data t)))) := by
  induction m with
  | zero => intro t h; omega
  | succ m ih =>
    rintro ⟨k, n, l⟩ hsz hs hv
    simp only [Ty.size] at hs
    have hll := Ty.sizes_len l
    have hvb := hv
    simp only [validT, Bool.and_eq_true] at hvb
    obtain ⟨hh, hvl⟩ := hvb
    have hjl : jl (fmtL data l) ≤ 200000000 := by have := fmtL_le hno l hvl; omega
    have hk1 : ∀ j, j < l.length → PCalls Tryd.prog 15 [.sl ta data.length (data.flatMap Dat.enc), .agg (l.getD j ty0).enc] (.v (.string (mkS (fmtT data (l.getD j ty0))))) := fun j hj => ih _ (by have := Ty.kid_lt (k := k) (n := n) hj; omega) (by have := Ty.sizes_get l j hj; omega) (validL_get hvl hj)
    have hT : PCalls Tryd.prog 20 [.sl ta data.length (data.flatMap Dat.enc), .sl false l.length (Ty.encs l)] (.v (.string (mkS (paren (fmtL data l))))) := by
      have := texts_of data ta false (fmtT data) l (by omega) (by rw [← fmtL_map]; omega) hk1
      rw [← fmtL_map] at this; exact this
    have hpl := paren_le (fmtL data l)
    have hlen := fmtL_len data l
    have hF : fmtT data (.mk k n l) = fmtK data k n (fmtL data l) := rfl
    refine calls_body td_ok Tryd.func15 rfl rfl rfl ?_
    refine AWP_seq ?_
    refine AWP_region ?_
    refine st_box td_ok rfl rfl rfl rfl rfl rfl (by ((repeat' with_reducible apply And.intro) <;> exact rfl)) fun r3 hr3 => ?_
    refine st td_ok rfl rfl rfl rfl (r := .v _) rfl trivial ?_
    refine AOps_nil ?_
    refine qn ?_
    refine AWP_seq ?_
    refine AWP_seq ?_
    refine AWP_region ?_
    refine st td_ok rfl rfl rfl rfl (r := .v _) rfl trivial ?_
    refine st_own (r := .v _) td_ok rfl rfl rfl rfl rfl rfl rfl XH.put_same (Nat.le_of_ble_eq_true rfl) rfl  ?_
    refine AOps_nil ?_
    refine qn ?_
    refine AWP_block ?_
    refine AWP_seq ?_
    refine AWP_region ?_
    refine st td_ok rfl rfl rfl rfl (r := .v _) rfl trivial ?_
    refine st td_ok rfl rfl rfl rfl (r := .v _) rfl trivial ?_
    refine AOps_nil ?_
    refine qn ?_
    refine AWP_cond rfl rfl (fun h0 => ?_) (fun h0 => ?_)
    ·
      have hk : k = 1 := by simpa using h0
      rw [hF, fmtK, if_pos hk]
      refine AWP_seq ?_
      refine AWP_region ?_
      refine st td_ok rfl rfl rfl rfl (r := .v _) rfl trivial ?_
      refine AOps_nil ?_
      refine qn ?_
      refine AWP_ret ?_
      refine qbr ?_
      refine qr ?_
      refine ⟨_, _, _, _, rfl, trivial, GS.forget _ _, ?_⟩
      first | show AV.v _ = _ | show AV.tup _ = _ | show AV.sl _ _ _ = _ | show AV.agg _ = _ | skip
      rfl
    ·
      have hk1' : ¬ k = 1 := by simpa using h0
      refine AWP_seq ?_
      refine AWP_region ?_
      refine st td_ok rfl rfl rfl rfl (r := .v _) rfl trivial ?_
      refine st td_ok rfl rfl rfl rfl (r := .v _) rfl trivial ?_
      refine AOps_nil ?_
      refine qn ?_
      refine AWP_cond rfl rfl (fun h1 => ?_) (fun h1 => ?_)
      ·
        have hk : k = 2 := by simpa using h1
        rw [hF, fmtK, if_neg hk1', if_pos hk]
        refine AWP_seq ?_
        refine AWP_region ?_
        refine st td_ok rfl rfl rfl rfl (r := .v _) rfl trivial ?_
        refine AOps_nil ?_
        refine qn ?_
        refine AWP_ret ?_
        refine qbr ?_
        refine qr ?_
        refine ⟨_, _, _, _, rfl, trivial, GS.forget _ _, ?_⟩
        first | show AV.v _ = _ | show AV.tup _ = _ | show AV.sl _ _ _ = _ | show AV.agg _ = _ | skip
        rfl
      ·
        have hk2 : ¬ k = 2 := by simpa using h1
        refine AWP_seq ?_
        refine AWP_region ?_
        refine st td_ok rfl rfl rfl rfl (r := .v _) rfl trivial ?_
        refine st td_ok rfl rfl rfl rfl (r := .v _) rfl trivial ?_
        refine AOps_nil ?_
        refine qn ?_
        refine AWP_cond rfl rfl (fun h2 => ?_) (fun h2 => ?_)
        ·
          have hk : k = 3 := by simpa using h2
          rw [hF, fmtK, if_neg hk1', if_neg hk2, if_pos hk]
          refine AWP_seq ?_
          refine AWP_region ?_
          refine st td_ok rfl rfl rfl rfl (r := .v _) rfl trivial ?_
          refine AOps_nil ?_
          refine qn ?_
          refine AWP_ret ?_
          refine qbr ?_
          refine qr ?_
          refine ⟨_, _, _, _, rfl, trivial, GS.forget _ _, ?_⟩
          first | show AV.v _ = _ | show AV.tup _ = _ | show AV.sl _ _ _ = _ | show AV.agg _ = _ | skip
          rfl
        ·
          have hk3 : ¬ k = 3 := by simpa using h2
          refine AWP_seq ?_
          refine AWP_region ?_
          refine st td_ok rfl rfl rfl rfl (r := .v _) rfl trivial ?_
          refine st td_ok rfl rfl rfl rfl (r := .v _) rfl trivial ?_
          refine AOps_nil ?_
          refine qn ?_
          refine AWP_cond rfl rfl (fun h3 => ?_) (fun h3 => ?_)
          ·
            have hk : k = 4 := by simpa using h3
            rw [hF, fmtK, if_neg hk1', if_neg hk2, if_neg hk3, if_pos hk]
            rw [headV, if_neg (by omega), if_pos hk] at hh
            simp only [decide_eq_true_eq] at hh
            have hit := itoa_short hh.1 hh.2.1
            refine AWP_seq ?_
            refine AWP_region ?_
            refine st td_ok rfl rfl rfl rfl (r := .v _) rfl trivial ?_
            refine st_own (r := .v _) td_ok rfl rfl rfl rfl rfl rfl rfl XH.put_same (Nat.le_of_ble_eq_true rfl) rfl  ?_
            refine st_pcall rfl rfl rfl rfl rfl rfl rfl ⟨_, rfl, rfl, rfl⟩ (Itoa_c n (by omega) (by omega)) ?_
            (refine st_eq td_ok rfl rfl rfl rfl (r := _) rfl ?_ ((show _ = AV.v (.string (mkS ([97] ++ Lib.itoa n))) from congrArg (fun b => AV.v (.string b)) (mkS_app [97] _))) ?_; · show (mkS [97]).size + (mkS (Lib.itoa n)).size ≤ _; rw [mkS_size, mkS_size]; simp only [List.length_cons, List.length_nil]; omega)
            refine st td_ok rfl rfl rfl rfl (r := .v _) rfl trivial ?_
            refine AOps_nil ?_
            refine qn ?_
            refine AWP_ret ?_
            refine qbr ?_
            refine qr ?_
            refine ⟨_, _, _, _, rfl, trivial, GS.forget _ _, ?_⟩
            first | show AV.v _ = _ | show AV.tup _ = _ | show AV.sl _ _ _ = _ | show AV.agg _ = _ | skip
            rfl
          ·
            have hk4 : ¬ k = 4 := by simpa using h3
            refine AWP_seq ?_
            refine AWP_region ?_
            refine st td_ok rfl rfl rfl rfl (r := .v _) rfl trivial ?_
            refine st td_ok rfl rfl rfl rfl (r := .v _) rfl trivial ?_
            refine AOps_nil ?_
            refine qn ?_
            refine AWP_cond rfl rfl (fun h4 => ?_) (fun h4 => ?_)
            ·
              have hk5 : k = 5 := by simpa using h4
              rw [headV, if_neg (by omega), if_neg hk4, if_pos hk5] at hh
              simp only [decide_eq_true_eq] at hh
              have hlt : n.toNat < data.length := by omega
              have hnl : (nameL (data.getD n.toNat dat0)).length ≤ 40 := hno _ (getD_mem hlt)
              rw [hF, fmtK, if_neg hk1', if_neg hk2, if_neg hk3, if_neg hk4, if_pos hk5]
              refine AWP_seq ?_
              refine AWP_seq ?_
              refine AWP_region ?_
              refine st td_ok rfl rfl rfl rfl (r := .v _) rfl trivial ?_
              refine st_own (r := .sl _ _ _) td_ok rfl rfl rfl rfl rfl rfl rfl XH.put_same (Nat.le_of_ble_eq_true rfl) rfl  ?_
              refine st td_ok rfl rfl rfl rfl (r := .v _) rfl trivial ?_
              refine st td_ok rfl rfl rfl rfl (r := .v _) rfl trivial ?_
              refine AOps_nil ?_
              refine qn ?_
              refine AWP_cond rfl rfl (fun h5 => ?_) (fun h5 => ?_)
              ·
                have hl0 : l.length = 0 := by have := h5; simp at this; rw [this]; rfl
                rw [if_pos (by rw [hlen]; exact hl0)]
                refine AWP_seq ?_
                refine AWP_region ?_
                refine st td_ok rfl rfl rfl rfl (r := .sl _ _ _) rfl trivial ?_
                refine st td_ok rfl rfl rfl rfl (r := .v _) rfl trivial ?_
                refine st_own (r := .v _) td_ok rfl rfl rfl rfl rfl rfl rfl XH.put_same (Nat.le_of_ble_eq_true rfl) rfl  ?_
                (refine st td_ok rfl rfl rfl rfl (r := .pp _ _) rfl ?_ ?_; · ((repeat' with_reducible apply And.intro) <;> (first | omega | (simp only [Ty.encs_len, Ty.enc_len, dats_len, mkS_size, List.length_append, List.length_map, List.length_take, cond_true, cond_false, nd, Option.getD_none, Option.getD_some, Int.toNat_natCast, strs_len, nums_len, List.length_append, tds2, tds3, tds4, tds5, tds9, tds12, tds21, tds22, tds23, tds24, tds25, tds30, tds31, tds32, tds33, tds34, tds36, tds43, tds45, tds47, tds57, tds62, tds66, tds69, decide_eq_true_eq, Bool.and_eq_true, Bool.not_eq_true', decide_eq_false_iff_not] at *; omega))))
                refine st td_ok rfl rfl rfl rfl (r := .pp _ _) rfl trivial ?_
                (refine st_eq td_ok rfl rfl rfl rfl (r := _) rfl ?_ (((flat_cell_lt Dat.enc dat0 Dat.enc_len data n.toNat 0 (by decide) hlt).trans (Dat.enc_name _))) ?_; · ((repeat' with_reducible apply And.intro) <;> (simp only [Ty.encs_len, Ty.enc_len, dats_len, mkS_size, List.length_append, List.length_map, List.length_take, cond_true, cond_false, nd, Option.getD_none, Option.getD_some, Int.toNat_natCast, strs_len, nums_len, List.length_append, tds2, tds3, tds4, tds5, tds9, tds12, tds21, tds22, tds23, tds24, tds25, tds30, tds31, tds32, tds33, tds34, tds36, tds43, tds45, tds47, tds57, tds62, tds66, tds69, decide_eq_true_eq, Bool.and_eq_true, Bool.not_eq_true', decide_eq_false_iff_not] at *; omega)))
                refine st td_ok rfl rfl rfl rfl (r := .v _) rfl trivial ?_
                refine AOps_nil ?_
                refine qn ?_
                refine AWP_ret ?_
                refine qr ?_
                refine qbr ?_
                refine qr ?_
                refine ⟨_, _, _, _, rfl, trivial, GS.forget _ _, ?_⟩
                first | show AV.v _ = _ | show AV.tup _ = _ | show AV.sl _ _ _ = _ | show AV.agg _ = _ | skip
                rfl
              ·
                have hl0 : ¬ l.length = 0 := by intro hc; simp [hc] at h5
                rw [if_neg (by rw [hlen]; exact hl0)]
                refine AWP_skip ?_
                refine qn ?_
                refine AWP_seq ?_
                refine AWP_drawn rfl rfl rfl rfl ?_
                refine es td_ok rfl rfl rfl (r := .sl _ _ _) rfl trivial (rfl) ?_
                refine es td_ok rfl rfl rfl (r := .v _) rfl trivial (rfl) ?_
                refine es_own (r := .v _) td_ok rfl rfl rfl rfl rfl rfl XH.put_same (Nat.le_of_ble_eq_true rfl) rfl ?_
                (refine es td_ok rfl rfl rfl (r := .pp _ _) rfl ?_ (rfl) ?_; · ((repeat' with_reducible apply And.intro) <;> (first | omega | (simp only [Ty.encs_len, Ty.enc_len, dats_len, mkS_size, List.length_append, List.length_map, List.length_take, cond_true, cond_false, nd, Option.getD_none, Option.getD_some, Int.toNat_natCast, strs_len, nums_len, List.length_append, tds2, tds3, tds4, tds5, tds9, tds12, tds21, tds22, tds23, tds24, tds25, tds30, tds31, tds32, tds33, tds34, tds36, tds43, tds45, tds47, tds57, tds62, tds66, tds69, decide_eq_true_eq, Bool.and_eq_true, Bool.not_eq_true', decide_eq_false_iff_not] at *; omega))))
                refine es td_ok rfl rfl rfl (r := .pp _ _) rfl trivial (rfl) ?_
                (refine es td_ok rfl rfl rfl (r := _) rfl ?_ (((flat_cell_lt Dat.enc dat0 Dat.enc_len data n.toNat 0 (by decide) hlt).trans (Dat.enc_name _))) ?_; · ((repeat' with_reducible apply And.intro) <;> (simp only [Ty.encs_len, Ty.enc_len, dats_len, mkS_size, List.length_append, List.length_map, List.length_take, cond_true, cond_false, nd, Option.getD_none, Option.getD_some, Int.toNat_natCast, strs_len, nums_len, List.length_append, tds2, tds3, tds4, tds5, tds9, tds12, tds21, tds22, tds23, tds24, tds25, tds30, tds31, tds32, tds33, tds34, tds36, tds43, tds45, tds47, tds57, tds62, tds66, tds69, decide_eq_true_eq, Bool.and_eq_true, Bool.not_eq_true', decide_eq_false_iff_not] at *; omega)))
                refine es td_ok rfl rfl rfl (r := .sl _ _ _) rfl trivial (rfl) ?_
                refine es td_ok rfl rfl rfl (r := .v _) rfl trivial (rfl) ?_
                refine es_own (r := .sl _ _ _) td_ok rfl rfl rfl rfl rfl rfl XH.put_same (Nat.le_of_ble_eq_true rfl) rfl ?_
                refine es_call rfl rfl rfl rfl rfl rfl ⟨_, rfl, rfl, rfl⟩ hT ?_
                (refine es td_ok rfl rfl rfl (r := _) rfl ?_ ((congrArg (fun b => AV.v (.string b)) (mkS_app _ _))) ?_; · show (mkS _).size + (mkS _).size ≤ _; rw [mkS_size, mkS_size]; omega)
                refine es td_ok rfl rfl rfl (r := .v _) rfl trivial (rfl) ?_
                refine AOps_nil ?_
                refine qn ?_
                refine AWP_ret ?_
                refine qbr ?_
                refine qr ?_
                refine ⟨_, _, _, _, rfl, trivial, GS.forget _ _, ?_⟩
                first | show AV.v _ = _ | show AV.tup _ = _ | show AV.sl _ _ _ = _ | show AV.agg _ = _ | skip
                rfl
            ·
              have hk5 : ¬ k = 5 := by simpa using h4
              refine AWP_seq ?_
              refine AWP_region ?_
              refine st td_ok rfl rfl rfl rfl (r := .v _) rfl trivial ?_
              refine st td_ok rfl rfl rfl rfl (r := .v _) rfl trivial ?_
              refine AOps_nil ?_
              refine qn ?_
              refine AWP_cond rfl rfl (fun h6 => ?_) (fun h6 => ?_)
              ·
                have hk : k = 7 := by simpa using h6
                rw [hF, fmtK, if_neg hk1', if_neg hk2, if_neg hk3, if_neg hk4, if_neg hk5, if_pos hk]
                refine AWP_seq ?_
                refine AWP_region ?_
                refine st td_ok rfl rfl rfl rfl (r := .sl _ _ _) rfl trivial ?_
                refine st td_ok rfl rfl rfl rfl (r := .v _) rfl trivial ?_
                refine st_own (r := .sl _ _ _) td_ok rfl rfl rfl rfl rfl rfl rfl XH.put_same (Nat.le_of_ble_eq_true rfl) rfl  ?_
                refine st_pcall rfl rfl rfl rfl rfl rfl rfl ⟨_, rfl, rfl, rfl⟩ hT ?_
                (refine st_eq td_ok rfl rfl rfl rfl (r := _) rfl ?_ ((show _ = AV.v (.string (mkS ([97, 114, 114, 97, 121] ++ paren (fmtL data l)))) from congrArg (fun b => AV.v (.string b)) (mkS_app [97, 114, 114, 97, 121] _))) ?_; · show (mkS [97, 114, 114, 97, 121]).size + (mkS _).size ≤ _; rw [mkS_size, mkS_size]; simp only [List.length_cons, List.length_nil]; omega)
                refine st td_ok rfl rfl rfl rfl (r := .v _) rfl trivial ?_
                refine AOps_nil ?_
                refine qn ?_
                refine AWP_ret ?_
                refine qbr ?_
                refine qr ?_
                refine ⟨_, _, _, _, rfl, trivial, GS.forget _ _, ?_⟩
                first | show AV.v _ = _ | show AV.tup _ = _ | show AV.sl _ _ _ = _ | show AV.agg _ = _ | skip
                rfl
              ·
                have hk7 : ¬ k = 7 := by simpa using h6
                refine AWP_seq ?_
                refine AWP_region ?_
                refine st td_ok rfl rfl rfl rfl (r := .v _) rfl trivial ?_
                refine st td_ok rfl rfl rfl rfl (r := .v _) rfl trivial ?_
                refine AOps_nil ?_
                refine qn ?_
                refine AWP_cond rfl rfl (fun h7 => ?_) (fun h7 => ?_)
                ·
                  have hk : k = 8 := by simpa using h7
                  rw [hF, fmtK, if_neg hk1', if_neg hk2, if_neg hk3, if_neg hk4, if_neg hk5, if_neg hk7, if_pos hk]
                  refine AWP_seq ?_
                  refine AWP_region ?_
                  refine st td_ok rfl rfl rfl rfl (r := .sl _ _ _) rfl trivial ?_
                  refine st td_ok rfl rfl rfl rfl (r := .v _) rfl trivial ?_
                  refine st_own (r := .sl _ _ _) td_ok rfl rfl rfl rfl rfl rfl rfl XH.put_same (Nat.le_of_ble_eq_true rfl) rfl  ?_
                  refine st_pcall rfl rfl rfl rfl rfl rfl rfl ⟨_, rfl, rfl, rfl⟩ hT ?_
                  (refine st_eq td_ok rfl rfl rfl rfl (r := _) rfl ?_ ((show _ = AV.v (.string (mkS ([114, 101, 102] ++ paren (fmtL data l)))) from congrArg (fun b => AV.v (.string b)) (mkS_app [114, 101, 102] _))) ?_; · show (mkS [114, 101, 102]).size + (mkS _).size ≤ _; rw [mkS_size, mkS_size]; simp only [List.length_cons, List.length_nil]; omega)
                  refine st td_ok rfl rfl rfl rfl (r := .v _) rfl trivial ?_
                  refine AOps_nil ?_
                  refine qn ?_
                  refine AWP_ret ?_
                  refine qbr ?_
                  refine qr ?_
                  refine ⟨_, _, _, _, rfl, trivial, GS.forget _ _, ?_⟩
                  first | show AV.v _ = _ | show AV.tup _ = _ | show AV.sl _ _ _ = _ | show AV.agg _ = _ | skip
                  rfl
                ·
                  have hk8 : ¬ k = 8 := by simpa using h7
                  refine AWP_seq ?_
                  refine AWP_region ?_
                  refine st td_ok rfl rfl rfl rfl (r := .v _) rfl trivial ?_
                  refine st td_ok rfl rfl rfl rfl (r := .v _) rfl trivial ?_
                  refine AOps_nil ?_
                  refine qn ?_
                  refine AWP_cond rfl rfl (fun h8 => ?_) (fun h8 => ?_)
                  ·
                    have hk9 : k = 9 := by simpa using h8
                    rw [headV, if_neg (by omega), if_neg hk4, if_neg hk5, if_neg (by omega), if_neg (by omega), if_pos hk9] at hh
                    simp only [decide_eq_true_eq] at hh
                    rw [hF, fmtK, if_neg hk1', if_neg hk2, if_neg hk3, if_neg hk4, if_neg hk5, if_neg hk7, if_neg hk8, if_pos hk9]
                    have hlt : l.length - 1 < l.length := by omega
                    have htk : (fmtL data l).take ((fmtL data l).length - 1) = (l.take (l.length - 1)).map (fmtT data) := by rw [hlen, fmtL_map, ← List.map_take]
                    have hla : (fmtL data l).getD ((fmtL data l).length - 1) [] = fmtT data (l.getD (l.length - 1) ty0) := by rw [hlen, fmtL_map]; exact getD_map' _ hlt
                    rw [htk, hla]
                    have hjt := jl_take (fmtL data l) ((fmtL data l).length - 1) (by omega)
                    rw [htk, hla] at hjt
                    have hT2 := texts_of data ta false (fmtT data) (l.take (l.length - 1)) (by rw [List.length_take]; omega) (by omega) (fun j hj => by
                      rw [List.length_take] at hj
                      have e : (l.take (l.length - 1)).getD j ty0 = l.getD j ty0 := by rw [List.getD_eq_getElem?_getD, List.getD_eq_getElem?_getD, List.getElem?_take, if_pos (by omega)]
                      rw [e]; exact hk1 j (by omega))
                    rw [List.length_take, show min (l.length - 1) l.length = l.length - 1 by omega] at hT2
                    have hp2 := paren_le ((l.take (l.length - 1)).map (fmtT data))
                    have hL := hk1 _ hlt
                    obtain ⟨⟨k2, n2, l2⟩, hel⟩ : ∃ t, l.getD (l.length - 1) ty0 = t := ⟨_, rfl⟩
                    rw [hel] at hL hjt
                    rw [hel]
                    refine AWP_seq ?_
                    refine AWP_region ?_
                    refine st td_ok rfl rfl rfl rfl (r := .v _) rfl trivial ?_
                    refine st_own (r := .sl _ _ _) td_ok rfl rfl rfl rfl rfl rfl rfl XH.put_same (Nat.le_of_ble_eq_true rfl) rfl  ?_
                    refine st td_ok rfl rfl rfl rfl (r := .v _) rfl trivial ?_
                    refine st_eq td_ok rfl rfl rfl rfl (r := _) rfl trivial ((sub1 (by omega) (by omega))) ?_
                    refine st td_ok rfl rfl rfl rfl (r := .v _) rfl trivial ?_
                    refine AOps_nil ?_
                    refine qn ?_
                    refine AWP_seq ?_
                    refine AWP_drawn rfl rfl rfl rfl ?_
                    refine es td_ok rfl rfl rfl (r := .sl _ _ _) rfl trivial (rfl) ?_
                    refine es td_ok rfl rfl rfl (r := .v _) rfl trivial (rfl) ?_
                    refine es_own (r := .sl _ _ _) td_ok rfl rfl rfl rfl rfl rfl XH.put_same (Nat.le_of_ble_eq_true rfl) rfl ?_
                    refine es td_ok rfl rfl rfl (r := .v _) rfl trivial (rfl) ?_
                    (refine es td_ok rfl rfl rfl (r := _) rfl ?_ ((show _ = AV.sl false (l.length - 1) (Ty.encs (l.take (l.length - 1))) from congrArg (AV.sl false (l.length - 1)) (Ty.encs_take l (l.length - 1)))) ?_; · ((repeat' with_reducible apply And.intro) <;> (first | with_reducible exact trivial | omega | exact Nat.le_of_ble_eq_true rfl | (simp only [Ty.encs_len, Ty.enc_len, dats_len, mkS_size, List.length_append, List.length_map, List.length_take, cond_true, cond_false, nd, Option.getD_none, Option.getD_some, Int.toNat_natCast, strs_len, nums_len, List.length_append, tds2, tds3, tds4, tds5, tds9, tds12, tds21, tds22, tds23, tds24, tds25, tds30, tds31, tds32, tds33, tds34, tds36, tds43, tds45, tds47, tds57, tds62, tds66, tds69, decide_eq_true_eq, Bool.and_eq_true, Bool.not_eq_true', decide_eq_false_iff_not] at *; omega))))
                    refine es_call rfl rfl rfl rfl rfl rfl ⟨_, rfl, rfl, rfl⟩ hT2 ?_
                    (refine es td_ok rfl rfl rfl (r := _) rfl ?_ ((show _ = AV.v (.string (mkS ([102, 110] ++ paren ((l.take (l.length - 1)).map (fmtT data))))) from congrArg (fun b => AV.v (.string b)) (mkS_app [102, 110] _))) ?_; · show (mkS [102, 110]).size + (mkS _).size ≤ _; rw [mkS_size, mkS_size]; simp only [List.length_cons, List.length_nil]; omega)
                    (refine es td_ok rfl rfl rfl (r := _) rfl ?_ ((show _ = AV.v (.string (mkS ([102, 110] ++ paren ((l.take (l.length - 1)).map (fmtT data)) ++ [32, 45, 62, 32]))) from congrArg (fun b => AV.v (.string b)) (mkS_app _ [32, 45, 62, 32]))) ?_; · show (mkS _).size + (mkS [32, 45, 62, 32]).size ≤ _; rw [mkS_size, mkS_size]; simp only [List.length_append, List.length_cons, List.length_nil]; omega)
                    refine es td_ok rfl rfl rfl (r := .sl _ _ _) rfl trivial (rfl) ?_
                    refine es td_ok rfl rfl rfl (r := .v _) rfl trivial (rfl) ?_
                    refine es_own (r := .sl _ _ _) td_ok rfl rfl rfl rfl rfl rfl XH.put_same (Nat.le_of_ble_eq_true rfl) rfl ?_
                    refine es td_ok rfl rfl rfl (r := .v _) rfl trivial (rfl) ?_
                    (refine es td_ok rfl rfl rfl (r := .pp _ _) rfl ?_ (rfl) ?_; · ((repeat' with_reducible apply And.intro) <;> (first | omega | (simp only [Ty.encs_len, Ty.enc_len, dats_len, mkS_size, List.length_append, List.length_map, List.length_take, cond_true, cond_false, nd, Option.getD_none, Option.getD_some, Int.toNat_natCast, strs_len, nums_len, List.length_append, tds2, tds3, tds4, tds5, tds9, tds12, tds21, tds22, tds23, tds24, tds25, tds30, tds31, tds32, tds33, tds34, tds36, tds43, tds45, tds47, tds57, tds62, tds66, tds69, decide_eq_true_eq, Bool.and_eq_true, Bool.not_eq_true', decide_eq_false_iff_not] at *; omega))))
                    (refine es td_ok rfl rfl rfl (r := _) rfl ?_ ((show _ = AV.agg (Ty.mk k2 n2 l2).enc from (Ty.at_lt l (l.length - 1) hlt _).trans (by rw [hel]))) ?_; · ((repeat' with_reducible apply And.intro) <;> (simp only [Ty.encs_len, Ty.enc_len, dats_len, mkS_size, List.length_append, List.length_map, List.length_take, cond_true, cond_false, nd, Option.getD_none, Option.getD_some, Int.toNat_natCast, strs_len, nums_len, List.length_append, tds2, tds3, tds4, tds5, tds9, tds12, tds21, tds22, tds23, tds24, tds25, tds30, tds31, tds32, tds33, tds34, tds36, tds43, tds45, tds47, tds57, tds62, tds66, tds69, decide_eq_true_eq, Bool.and_eq_true, Bool.not_eq_true', decide_eq_false_iff_not] at *; omega)))
                    refine es_call rfl rfl rfl rfl rfl rfl ⟨_, rfl, rfl, rfl⟩ hL ?_
                    (refine es td_ok rfl rfl rfl (r := _) rfl ?_ ((congrArg (fun b => AV.v (.string b)) (mkS_app _ _))) ?_; · show (mkS _).size + (mkS _).size ≤ _; rw [mkS_size, mkS_size]; simp only [List.length_append, List.length_cons, List.length_nil]; omega)
                    refine es td_ok rfl rfl rfl (r := .v _) rfl trivial (rfl) ?_
                    refine AOps_nil ?_
                    refine qn ?_
                    refine AWP_ret ?_
                    refine qbr ?_
                    refine qr ?_
                    refine ⟨_, _, _, _, rfl, trivial, GS.forget _ _, ?_⟩
                    first | show AV.v _ = _ | show AV.tup _ = _ | show AV.sl _ _ _ = _ | show AV.agg _ = _ | skip
                    rfl
                  ·
                    have hk9 : ¬ k = 9 := by simpa using h8
                    rw [hF, fmtK, if_neg hk1', if_neg hk2, if_neg hk3, if_neg hk4, if_neg hk5, if_neg hk7, if_neg hk8, if_neg hk9]
                    refine AWP_skip ?_
                    refine qbn ?_
                    refine qn ?_
                    refine AWP_seq ?_
                    refine AWP_region ?_
                    refine st td_ok rfl rfl rfl rfl (r := .sl _ _ _) rfl trivial ?_
                    refine st td_ok rfl rfl rfl rfl (r := .v _) rfl trivial ?_
                    refine st_own (r := .sl _ _ _) td_ok rfl rfl rfl rfl rfl rfl rfl XH.put_same (Nat.le_of_ble_eq_true rfl) rfl  ?_
                    refine st_pcall rfl rfl rfl rfl rfl rfl rfl ⟨_, rfl, rfl, rfl⟩ hT ?_
                    refine st td_ok rfl rfl rfl rfl (r := .v _) rfl trivial ?_
                    refine AOps_nil ?_
                    refine qn ?_
                    refine AWP_ret ?_
                    refine ⟨_, _, _, _, rfl, trivial, GS.forget _ _, ?_⟩
                    first | show AV.v _ = _ | show AV.tup _ = _ | show AV.sl _ _ _ = _ | show AV.agg _ = _ | skip
                    rfl
end Go.Proofs.YtgnfjahkhhkmoaaDoor.V
