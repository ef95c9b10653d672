import Derived.Test.YtgnfjahkhhkmoaaDoorC7
namespace Go.Proofs.YtgnfjahkhhkmoaaDoor.V
open Go
set_option linter.unusedSimpArgs false
set_option linter.unusedVariables false
set_option maxRecDepth 20000

theorem join_snoc (ss : List (List UInt8)) (x sep : List UInt8) : Lib.join (ss ++ [x]) sep = (if ss.length = 0 then [] else Lib.join ss sep ++ sep) ++ x := by
  cases ss with
  | nil => simp [Lib.join_one]
  | cons s r =>
    rw [List.cons_append, Lib.join_cons, Lib.join_cons, if_neg (by simp)]
    simp [Lib.joinTail]
theorem join_take_le (ss : List (List UInt8)) (j : Nat) : (Lib.join (ss.take j) [44, 32]).length ≤ jl ss := Nat.le_trans (join_le _) (jl_take_le _ _)
/-- How many arguments stand in parentheses. -/
def lastA (k : Int) (n : Nat) : Nat := if k = 9 then n - 1 else n
theorem rformat_c (data : List Dat) (ta : Bool) (hd : data.length ≤ 1000000000) (hno : namesOk data) (m : Nat) : ∀ (t : Ty), t.size < m → t.size ≤ 1000000 → validT data 101 t = true → PCalls Tryd.prog 16 [.sl ta data.length (data.flatMap Dat.enc), .agg t.enc] (.v (.string (mkS (fmtT data t)))) := by
  induction m with
  | zero => intro t h; omega
  | succ m ih =>
    rintro ⟨k, n, l⟩ hsz hs hv
    simp only [Ty.size] at hs
    have hll := Ty.sizes_len l
    have hvb := hv
    simp only [validT, Bool.and_eq_true] at hvb
    obtain ⟨hh, hvl⟩ := hvb
    have hjl : jl (fmtL data l) ≤ 200000000 := by have := fmtL_le hno l hvl; omega
    have hk1 : ∀ j, j < l.length → PCalls Tryd.prog 16 [.sl ta data.length (data.flatMap Dat.enc), .agg (l.getD j ty0).enc] (.v (.string (mkS (fmtT data (l.getD j ty0))))) := fun j hj => ih _ (by have := Ty.kid_lt (k := k) (n := n) hj; omega) (by have := Ty.sizes_get l j hj; omega) (validL_get hvl hj)
    have hlen := fmtL_len data l
    have hF : fmtT data (.mk k n l) = fmtK data k n (fmtL data l) := rfl
    have h9' : k = 9 → 1 ≤ l.length := by
      intro hk
      rw [headV, if_neg (by omega), if_neg (by omega), if_neg (by omega), if_neg (by omega), if_neg (by omega), if_pos hk] at hh
      simp only [decide_eq_true_eq] at hh
      omega
    have hla : lastA k l.length ≤ l.length := by unfold lastA; split <;> omega
    refine calls_body td_ok Tryd.func16 rfl rfl rfl ?_
    refine AWP_seq ?_
    refine AWP_region ?_
    refine st_box td_ok rfl rfl rfl rfl rfl rfl (by ((repeat' with_reducible apply And.intro) <;> exact rfl)) fun r3 hr3 => ?_
    refine st td_ok rfl rfl rfl rfl (r := .v _) rfl trivial ?_
    refine AOps_nil ?_
    refine qn ?_
    refine AWP_seq ?_
    refine AWP_region ?_
    refine st td_ok rfl rfl rfl rfl (r := .v _) rfl trivial ?_
    refine AOps_nil ?_
    refine qn ?_
    refine AWP_seq ?_
    refine AWP_region ?_
    refine st td_ok rfl rfl rfl rfl (r := .v _) rfl trivial ?_
    refine st_own (r := .sl _ _ _) td_ok rfl rfl rfl rfl rfl rfl rfl XH.put_same (Nat.le_of_ble_eq_true rfl) rfl  ?_
    refine st td_ok rfl rfl rfl rfl (r := .v _) rfl trivial ?_
    refine st td_ok rfl rfl rfl rfl (r := .v _) rfl trivial ?_
    refine AOps_nil ?_
    refine qn ?_
    refine AWP_cut (fun (_ : Unit) => [(0, .sl ta data.length (data.flatMap Dat.enc)), (3, .v (.pointer (some ⟨r3, 0, none⟩))), (5, .v (.string (mkS []))), (6, .v (.int .i64 (lastA k l.length)))]) (fun _ X => X r3 = some ⟨25, (Ty.mk k n l).enc⟩) ?_ ?_
    ·
      refine AWP_seq ?_
      refine AWP_region ?_
      refine st td_ok rfl rfl rfl rfl (r := .v _) rfl trivial ?_
      refine st_own (r := .v _) td_ok rfl rfl rfl rfl rfl rfl rfl XH.put_same (Nat.le_of_ble_eq_true rfl) rfl  ?_
      refine st td_ok rfl rfl rfl rfl (r := .v _) rfl trivial ?_
      refine AOps_nil ?_
      refine qn ?_
      refine AWP_cond rfl rfl (fun h0 => ?_) (fun h0 => ?_)
      ·
        have hk : k = 9 := by simpa using h0
        have := h9' hk
        refine AWP_region ?_
        refine st td_ok rfl rfl rfl rfl (r := .v _) rfl trivial ?_
        refine st_eq td_ok rfl rfl rfl rfl (r := _) rfl trivial ((show _ = AV.v (.int .i64 (lastA k l.length)) from (sub1 this (by omega)).trans (by rw [lastA, if_pos hk]))) ?_
        refine st td_ok rfl rfl rfl rfl (r := .v _) rfl trivial ?_
        refine AOps_nil ?_
        refine qn ?_
        exact ⟨(), by (repeat' (first | exact rfl | exact trivial | apply And.intro)), XH.put_same⟩
      ·
        have hk : ¬ k = 9 := by simpa using h0
        have e6 : lastA k l.length = l.length := by rw [lastA, if_neg hk]
        refine AWP_skip ?_
        refine qn ?_
        exact ⟨(), by rw [e6]; (repeat' (first | exact rfl | exact trivial | apply And.intro)), XH.put_same⟩
    ·
      rintro _ X hX3
      refine AWP_seq ?_
      refine AWP_seq ?_
      refine AWP_region ?_
      refine st td_ok rfl rfl rfl rfl (r := .v _) rfl trivial ?_
      refine AOps_nil ?_
      refine qn ?_
      refine AWP_block ?_
      refine AWP_for (fun (j : Nat) => [(0, .sl ta data.length (data.flatMap Dat.enc)), (3, .v (.pointer (some ⟨r3, 0, none⟩))), (5, .v (.string (mkS (Lib.join ((fmtL data l).take j) [44, 32])))), (6, .v (.int .i64 (lastA k l.length))), (7, .v (.int .i64 j))]) (fun j X => X r3 = some ⟨25, (Ty.mk k n l).enc⟩ ∧ j ≤ lastA k l.length) (fun j => lastA k l.length - j) 0 ⟨by (repeat' (first | exact rfl | exact trivial | apply And.intro)), ⟨hX3, Nat.zero_le _⟩⟩ ?_
      rintro j X ⟨hX3, hj⟩
      refine AWP_seq ?_
      refine AWP_seq ?_
      refine AWP_region ?_
      refine st td_ok rfl rfl rfl rfl (r := .v _) rfl trivial ?_
      refine st td_ok rfl rfl rfl rfl (r := .v _) rfl trivial ?_
      refine st td_ok rfl rfl rfl rfl (r := .v _) rfl trivial ?_
      refine AOps_nil ?_
      refine qn ?_
      refine AWP_cond rfl rfl (fun h1 => ?_) (fun h1 => ?_)
      ·
        have hlt : j < l.length := by have := Int.ofNat_lt.mp (of_decide_eq_true h1); omega
        have hj1 : j < lastA k l.length := Int.ofNat_lt.mp (of_decide_eq_true h1)
        have hc := hk1 j hlt
        have hjt := join_take_le (fmtL data l) j
        have hxt := jl_take (fmtL data l) j (by omega)
        have hsn := join_snoc ((fmtL data l).take j) ((fmtL data l).getD j []) [44, 32]
        rw [← take_get (d := []) (by omega), List.length_take, show min j (fmtL data l).length = j by omega] at hsn
        have hge : (fmtL data l).getD j [] = fmtT data (l.getD j ty0) := by rw [fmtL_map]; exact getD_map' _ hlt
        rw [hge] at hsn hxt
        obtain ⟨⟨k2, n2, l2⟩, hel⟩ : ∃ t, l.getD j ty0 = t := ⟨_, rfl⟩
        rw [hel] at hc hsn hxt
        refine AWP_skip ?_
        refine qn ?_
        refine AWP_seq ?_
        refine AWP_block ?_
        refine AWP_cut (fun (s : List UInt8) => [(0, .sl ta data.length (data.flatMap Dat.enc)), (3, .v (.pointer (some ⟨r3, 0, none⟩))), (5, .v (.string (mkS s))), (6, .v (.int .i64 (lastA k l.length))), (7, .v (.int .i64 j))]) (fun s X => X r3 = some ⟨25, (Ty.mk k n l).enc⟩ ∧ s = (if j = 0 then [] else Lib.join ((fmtL data l).take j) [44, 32] ++ [44, 32])) ?_ ?_
        ·
          refine AWP_seq ?_
          refine AWP_region ?_
          refine st td_ok rfl rfl rfl rfl (r := .v _) rfl trivial ?_
          refine st td_ok rfl rfl rfl rfl (r := .v _) rfl trivial ?_
          refine AOps_nil ?_
          refine qn ?_
          refine AWP_cond rfl rfl (fun h2 => ?_) (fun h2 => ?_)
          ·
            refine AWP_region ?_
            refine st td_ok rfl rfl rfl rfl (r := .v _) rfl trivial ?_
            (refine st_eq td_ok rfl rfl rfl rfl (r := _) rfl ?_ ((show _ = AV.v (.string (mkS (Lib.join ((fmtL data l).take j) [44, 32] ++ [44, 32]))) from congrArg (fun b => AV.v (.string b)) (mkS_app _ [44, 32]))) ?_; · show (mkS _).size + (mkS [44, 32]).size ≤ _; rw [mkS_size, mkS_size]; simp only [List.length_append, List.length_cons, List.length_nil]; omega)
            refine st td_ok rfl rfl rfl rfl (r := .v _) rfl trivial ?_
            refine AOps_nil ?_
            refine qn ?_
            exact ⟨_, by (repeat' (first | exact rfl | exact trivial | apply And.intro)), hX3, by rw [if_neg (by have := of_decide_eq_true h2; omega)]⟩
          ·
            refine AWP_skip ?_
            refine qn ?_
            have hj0 : j = 0 := by simp only [decide_eq_false_iff_not] at h2; omega
            exact ⟨[], by rw [hj0]; (repeat' (first | exact rfl | exact trivial | apply And.intro)), hX3, by rw [if_pos hj0]⟩
        ·
          rintro s X ⟨hX3, hsl⟩
          have hsl2 : s.length ≤ 200000002 := by rw [hsl]; split <;> simp only [List.length_append, List.length_cons, List.length_nil] <;> omega
          refine AWP_region ?_
          refine st td_ok rfl rfl rfl rfl (r := .v _) rfl trivial ?_
          refine st td_ok rfl rfl rfl rfl (r := .sl _ _ _) rfl trivial ?_
          refine st td_ok rfl rfl rfl rfl (r := .v _) rfl trivial ?_
          refine st_own (r := .sl _ _ _) td_ok rfl rfl rfl rfl rfl rfl rfl (by assumption) (Nat.le_of_ble_eq_true rfl) rfl  ?_
          refine st td_ok rfl rfl rfl rfl (r := .v _) rfl trivial ?_
          (refine st td_ok rfl rfl rfl rfl (r := .pp _ _) rfl ?_ ?_; · ((repeat' with_reducible apply And.intro) <;> (first | omega | (simp only [Ty.encs_len, Ty.enc_len, dats_len, mkS_size, List.length_append, List.length_map, List.length_take, cond_true, cond_false, nd, Option.getD_none, Option.getD_some, Int.toNat_natCast, strs_len, nums_len, List.length_append, tds2, tds3, tds4, tds5, tds9, tds12, tds21, tds22, tds23, tds24, tds25, tds30, tds31, tds32, tds33, tds34, tds36, tds43, tds45, tds47, tds57, tds62, tds66, tds69, decide_eq_true_eq, Bool.and_eq_true, Bool.not_eq_true', decide_eq_false_iff_not] at *; omega))))
          (refine st_eq td_ok rfl rfl rfl rfl (r := _) rfl ?_ ((show _ = AV.agg (Ty.mk k2 n2 l2).enc from (Ty.at_lt l j hlt _).trans (by rw [hel]))) ?_; · ((repeat' with_reducible apply And.intro) <;> (simp only [Ty.encs_len, Ty.enc_len, dats_len, mkS_size, List.length_append, List.length_map, List.length_take, cond_true, cond_false, nd, Option.getD_none, Option.getD_some, Int.toNat_natCast, strs_len, nums_len, List.length_append, tds2, tds3, tds4, tds5, tds9, tds12, tds21, tds22, tds23, tds24, tds25, tds30, tds31, tds32, tds33, tds34, tds36, tds43, tds45, tds47, tds57, tds62, tds66, tds69, decide_eq_true_eq, Bool.and_eq_true, Bool.not_eq_true', decide_eq_false_iff_not] at *; omega)))
          refine st_pcall rfl rfl rfl rfl rfl rfl rfl ⟨_, rfl, rfl, rfl⟩ hc ?_
          (refine st_eq td_ok rfl rfl rfl rfl (r := _) rfl ?_ ((show _ = AV.v (.string (mkS (Lib.join ((fmtL data l).take (j + 1)) [44, 32]))) from (congrArg (fun b => AV.v (.string b)) (mkS_app _ _)).trans (by rw [hsn, hsl]))) ?_; · show (mkS _).size + (mkS _).size ≤ _; rw [mkS_size, mkS_size]; omega)
          refine st td_ok rfl rfl rfl rfl (r := .v _) rfl trivial ?_
          refine AOps_nil ?_
          refine qbn ?_
          refine qn ?_
          refine AWP_region ?_
          refine st td_ok rfl rfl rfl rfl (r := .v _) rfl trivial ?_
          refine st_eq td_ok rfl rfl rfl rfl (r := .v _) rfl trivial (w64 (by omega)) ?_
          refine st td_ok rfl rfl rfl rfl (r := .v _) rfl trivial ?_
          refine AOps_nil ?_
          refine qn ?_
          exact ⟨j + 1, by omega, by (repeat' (first | exact rfl | exact trivial | apply And.intro)), hX3, by omega⟩
      ·
        have hjL : j = lastA k l.length := by simp only [decide_eq_false_iff_not] at h1; omega
        have hS := join_take_le (fmtL data l) j
        have hS9 : ¬ k = 9 → Lib.join ((fmtL data l).take j) [44, 32] = Lib.join (fmtL data l) [44, 32] := by
          intro hk; rw [hjL, lastA, if_neg hk, List.take_of_length_le (by omega)]
        have hL9 : ¬ k = 9 → lastA k l.length = l.length := fun hk => by rw [lastA, if_neg hk]
        refine AWP_exit ?_
        refine qx ?_
        refine qx ?_
        refine qbh ?_
        refine qn ?_
        refine AWP_seq ?_
        refine AWP_seq ?_
        refine AWP_region ?_
        refine st td_ok rfl rfl rfl rfl (r := .v _) rfl trivial ?_
        refine st_own (r := .v _) td_ok rfl rfl rfl rfl rfl rfl rfl (by assumption) (Nat.le_of_ble_eq_true rfl) rfl  ?_
        refine AOps_nil ?_
        refine qn ?_
        refine AWP_block ?_
        refine AWP_seq ?_
        refine AWP_region ?_
        refine st td_ok rfl rfl rfl rfl (r := .v _) rfl trivial ?_
        refine st td_ok rfl rfl rfl rfl (r := .v _) rfl trivial ?_
        refine AOps_nil ?_
        refine qn ?_
        refine AWP_cond rfl rfl (fun h3 => ?_) (fun h3 => ?_)
        ·
          have hk : k = 1 := by simpa using h3
          rw [hF, fmtK, if_pos hk]
          refine AWP_seq ?_
          refine AWP_region ?_
          refine st td_ok rfl rfl rfl rfl (r := .v _) rfl trivial ?_
          refine AOps_nil ?_
          refine qn ?_
          refine AWP_ret ?_
          refine qbr ?_
          refine qr ?_
          refine ⟨_, _, _, _, rfl, trivial, GS.forget _ _, ?_⟩
          first | show AV.v _ = _ | show AV.tup _ = _ | show AV.sl _ _ _ = _ | show AV.agg _ = _ | skip
          rfl
        ·
          have hk1' : ¬ k = 1 := by simpa using h3
          refine AWP_seq ?_
          refine AWP_region ?_
          refine st td_ok rfl rfl rfl rfl (r := .v _) rfl trivial ?_
          refine st td_ok rfl rfl rfl rfl (r := .v _) rfl trivial ?_
          refine AOps_nil ?_
          refine qn ?_
          refine AWP_cond rfl rfl (fun h4 => ?_) (fun h4 => ?_)
          ·
            have hk : k = 2 := by simpa using h4
            rw [hF, fmtK, if_neg hk1', if_pos hk]
            refine AWP_seq ?_
            refine AWP_region ?_
            refine st td_ok rfl rfl rfl rfl (r := .v _) rfl trivial ?_
            refine AOps_nil ?_
            refine qn ?_
            refine AWP_ret ?_
            refine qbr ?_
            refine qr ?_
            refine ⟨_, _, _, _, rfl, trivial, GS.forget _ _, ?_⟩
            first | show AV.v _ = _ | show AV.tup _ = _ | show AV.sl _ _ _ = _ | show AV.agg _ = _ | skip
            rfl
          ·
            have hk2 : ¬ k = 2 := by simpa using h4
            refine AWP_seq ?_
            refine AWP_region ?_
            refine st td_ok rfl rfl rfl rfl (r := .v _) rfl trivial ?_
            refine st td_ok rfl rfl rfl rfl (r := .v _) rfl trivial ?_
            refine AOps_nil ?_
            refine qn ?_
            refine AWP_cond rfl rfl (fun h5 => ?_) (fun h5 => ?_)
            ·
              have hk : k = 3 := by simpa using h5
              rw [hF, fmtK, if_neg hk1', if_neg hk2, if_pos hk]
              refine AWP_seq ?_
              refine AWP_region ?_
              refine st td_ok rfl rfl rfl rfl (r := .v _) rfl trivial ?_
              refine AOps_nil ?_
              refine qn ?_
              refine AWP_ret ?_
              refine qbr ?_
              refine qr ?_
              refine ⟨_, _, _, _, rfl, trivial, GS.forget _ _, ?_⟩
              first | show AV.v _ = _ | show AV.tup _ = _ | show AV.sl _ _ _ = _ | show AV.agg _ = _ | skip
              rfl
            ·
              have hk3 : ¬ k = 3 := by simpa using h5
              refine AWP_seq ?_
              refine AWP_region ?_
              refine st td_ok rfl rfl rfl rfl (r := .v _) rfl trivial ?_
              refine st td_ok rfl rfl rfl rfl (r := .v _) rfl trivial ?_
              refine AOps_nil ?_
              refine qn ?_
              refine AWP_cond rfl rfl (fun h6 => ?_) (fun h6 => ?_)
              ·
                have hk : k = 4 := by simpa using h6
                rw [hF, fmtK, if_neg hk1', if_neg hk2, if_neg hk3, if_pos hk]
                rw [headV, if_neg (by omega), if_pos hk] at hh
                simp only [decide_eq_true_eq] at hh
                have hit := itoa_short hh.1 hh.2.1
                have hnum := number_c n.toNat (by omega)
                rw [show ((n.toNat : Nat) : Int) = n by omega] at hnum
                refine AWP_seq ?_
                refine AWP_region ?_
                refine st td_ok rfl rfl rfl rfl (r := .v _) rfl trivial ?_
                refine st_own (r := .v _) td_ok rfl rfl rfl rfl rfl rfl rfl (by assumption) (Nat.le_of_ble_eq_true rfl) rfl  ?_
                refine st_pcall rfl rfl rfl rfl rfl rfl rfl ⟨_, rfl, rfl, rfl⟩ hnum ?_
                (refine st_eq td_ok rfl rfl rfl rfl (r := _) rfl ?_ ((show _ = AV.v (.string (mkS ([97] ++ Lib.itoa n))) from congrArg (fun b => AV.v (.string b)) (mkS_app [97] _))) ?_; · show (mkS [97]).size + (mkS (Lib.itoa n)).size ≤ _; rw [mkS_size, mkS_size]; simp only [List.length_cons, List.length_nil]; omega)
                refine st td_ok rfl rfl rfl rfl (r := .v _) rfl trivial ?_
                refine AOps_nil ?_
                refine qn ?_
                refine AWP_ret ?_
                refine qbr ?_
                refine qr ?_
                refine ⟨_, _, _, _, rfl, trivial, GS.forget _ _, ?_⟩
                first | show AV.v _ = _ | show AV.tup _ = _ | show AV.sl _ _ _ = _ | show AV.agg _ = _ | skip
                rfl
              ·
                have hk4 : ¬ k = 4 := by simpa using h6
                refine AWP_seq ?_
                refine AWP_region ?_
                refine st td_ok rfl rfl rfl rfl (r := .v _) rfl trivial ?_
                refine st td_ok rfl rfl rfl rfl (r := .v _) rfl trivial ?_
                refine AOps_nil ?_
                refine qn ?_
                refine AWP_cond rfl rfl (fun h7 => ?_) (fun h7 => ?_)
                ·
                  have hk5 : k = 5 := by simpa using h7
                  have hk9' : ¬ k = 9 := by omega
                  rw [headV, if_neg (by omega), if_neg hk4, if_pos hk5] at hh
                  simp only [decide_eq_true_eq] at hh
                  have hlt : n.toNat < data.length := by omega
                  have hnl : (nameL (data.getD n.toNat dat0)).length ≤ 40 := hno _ (getD_mem hlt)
                  rw [hF, fmtK, if_neg hk1', if_neg hk2, if_neg hk3, if_neg hk4, if_pos hk5]
                  rw [hS9 hk9'] at hS ⊢
                  have hL := hL9 hk9'
                  rw [hL]
                  refine AWP_seq ?_
                  refine AWP_seq ?_
                  refine AWP_region ?_
                  refine st td_ok rfl rfl rfl rfl (r := .v _) rfl trivial ?_
                  refine st td_ok rfl rfl rfl rfl (r := .v _) rfl trivial ?_
                  refine AOps_nil ?_
                  refine qn ?_
                  refine AWP_cond rfl rfl (fun h8 => ?_) (fun h8 => ?_)
                  ·
                    have hl0 : l.length = 0 := by have := h8; simp at this; rw [this]; rfl
                    rw [if_pos (by rw [hlen]; exact hl0)]
                    refine AWP_seq ?_
                    refine AWP_region ?_
                    refine st td_ok rfl rfl rfl rfl (r := .sl _ _ _) rfl trivial ?_
                    refine st td_ok rfl rfl rfl rfl (r := .v _) rfl trivial ?_
                    refine st_own (r := .v _) td_ok rfl rfl rfl rfl rfl rfl rfl (by assumption) (Nat.le_of_ble_eq_true rfl) rfl  ?_
                    (refine st td_ok rfl rfl rfl rfl (r := .pp _ _) rfl ?_ ?_; · ((repeat' with_reducible apply And.intro) <;> (first | omega | (simp only [Ty.encs_len, Ty.enc_len, dats_len, mkS_size, List.length_append, List.length_map, List.length_take, cond_true, cond_false, nd, Option.getD_none, Option.getD_some, Int.toNat_natCast, strs_len, nums_len, List.length_append, tds2, tds3, tds4, tds5, tds9, tds12, tds21, tds22, tds23, tds24, tds25, tds30, tds31, tds32, tds33, tds34, tds36, tds43, tds45, tds47, tds57, tds62, tds66, tds69, decide_eq_true_eq, Bool.and_eq_true, Bool.not_eq_true', decide_eq_false_iff_not] at *; omega))))
                    refine st td_ok rfl rfl rfl rfl (r := .pp _ _) rfl trivial ?_
                    (refine st_eq td_ok rfl rfl rfl rfl (r := _) rfl ?_ (((flat_cell_lt Dat.enc dat0 Dat.enc_len data n.toNat 0 (by decide) hlt).trans (Dat.enc_name _))) ?_; · ((repeat' with_reducible apply And.intro) <;> (simp only [Ty.encs_len, Ty.enc_len, dats_len, mkS_size, List.length_append, List.length_map, List.length_take, cond_true, cond_false, nd, Option.getD_none, Option.getD_some, Int.toNat_natCast, strs_len, nums_len, List.length_append, tds2, tds3, tds4, tds5, tds9, tds12, tds21, tds22, tds23, tds24, tds25, tds30, tds31, tds32, tds33, tds34, tds36, tds43, tds45, tds47, tds57, tds62, tds66, tds69, decide_eq_true_eq, Bool.and_eq_true, Bool.not_eq_true', decide_eq_false_iff_not] at *; omega)))
                    refine st td_ok rfl rfl rfl rfl (r := .v _) rfl trivial ?_
                    refine AOps_nil ?_
                    refine qn ?_
                    refine AWP_ret ?_
                    refine qr ?_
                    refine qbr ?_
                    refine qr ?_
                    refine ⟨_, _, _, _, rfl, trivial, GS.forget _ _, ?_⟩
                    first | show AV.v _ = _ | show AV.tup _ = _ | show AV.sl _ _ _ = _ | show AV.agg _ = _ | skip
                    rfl
                  ·
                    have hl0 : ¬ l.length = 0 := by intro hc; simp [hc] at h8
                    rw [if_neg (by rw [hlen]; exact hl0)]
                    refine AWP_skip ?_
                    refine qn ?_
                    refine AWP_seq ?_
                    refine AWP_region ?_
                    refine st td_ok rfl rfl rfl rfl (r := .sl _ _ _) rfl trivial ?_
                    refine st td_ok rfl rfl rfl rfl (r := .v _) rfl trivial ?_
                    refine st_own (r := .v _) td_ok rfl rfl rfl rfl rfl rfl rfl (by assumption) (Nat.le_of_ble_eq_true rfl) rfl  ?_
                    (refine st td_ok rfl rfl rfl rfl (r := .pp _ _) rfl ?_ ?_; · ((repeat' with_reducible apply And.intro) <;> (first | omega | (simp only [Ty.encs_len, Ty.enc_len, dats_len, mkS_size, List.length_append, List.length_map, List.length_take, cond_true, cond_false, nd, Option.getD_none, Option.getD_some, Int.toNat_natCast, strs_len, nums_len, List.length_append, tds2, tds3, tds4, tds5, tds9, tds12, tds21, tds22, tds23, tds24, tds25, tds30, tds31, tds32, tds33, tds34, tds36, tds43, tds45, tds47, tds57, tds62, tds66, tds69, decide_eq_true_eq, Bool.and_eq_true, Bool.not_eq_true', decide_eq_false_iff_not] at *; omega))))
                    refine st td_ok rfl rfl rfl rfl (r := .pp _ _) rfl trivial ?_
                    (refine st_eq td_ok rfl rfl rfl rfl (r := _) rfl ?_ (((flat_cell_lt Dat.enc dat0 Dat.enc_len data n.toNat 0 (by decide) hlt).trans (Dat.enc_name _))) ?_; · ((repeat' with_reducible apply And.intro) <;> (simp only [Ty.encs_len, Ty.enc_len, dats_len, mkS_size, List.length_append, List.length_map, List.length_take, cond_true, cond_false, nd, Option.getD_none, Option.getD_some, Int.toNat_natCast, strs_len, nums_len, List.length_append, tds2, tds3, tds4, tds5, tds9, tds12, tds21, tds22, tds23, tds24, tds25, tds30, tds31, tds32, tds33, tds34, tds36, tds43, tds45, tds47, tds57, tds62, tds66, tds69, decide_eq_true_eq, Bool.and_eq_true, Bool.not_eq_true', decide_eq_false_iff_not] at *; omega)))
                    (refine st_eq td_ok rfl rfl rfl rfl (r := _) rfl ?_ ((show _ = AV.v (.string (mkS (nameL (data.getD n.toNat dat0) ++ [40]))) from congrArg (fun b => AV.v (.string b)) (mkS_app _ [40]))) ?_; · show (mkS _).size + (mkS [40]).size ≤ _; rw [mkS_size, mkS_size]; simp only [List.length_cons, List.length_nil]; omega)
                    refine st td_ok rfl rfl rfl rfl (r := .v _) rfl trivial ?_
                    (refine st_eq td_ok rfl rfl rfl rfl (r := _) rfl ?_ ((congrArg (fun b => AV.v (.string b)) (mkS_app _ _))) ?_; · show (mkS _).size + (mkS _).size ≤ _; rw [mkS_size, mkS_size]; simp only [List.length_append, List.length_cons, List.length_nil]; omega)
                    (refine st_eq td_ok rfl rfl rfl rfl (r := _) rfl ?_ ((show _ = AV.v (.string (mkS (nameL (data.getD n.toNat dat0) ++ [40] ++ Lib.join (fmtL data l) [44, 32] ++ [41]))) from congrArg (fun b => AV.v (.string b)) (mkS_app _ [41]))) ?_; · show (mkS _).size + (mkS [41]).size ≤ _; rw [mkS_size, mkS_size]; simp only [List.length_append, List.length_cons, List.length_nil]; omega)
                    refine st td_ok rfl rfl rfl rfl (r := .v _) rfl trivial ?_
                    refine AOps_nil ?_
                    refine qn ?_
                    refine AWP_ret ?_
                    refine qbr ?_
                    refine qr ?_
                    refine ⟨_, _, _, _, rfl, trivial, GS.forget _ _, ?_⟩
                    first | show AV.v _ = _ | show AV.tup _ = _ | show AV.sl _ _ _ = _ | show AV.agg _ = _ | skip
                    exact mkS_inj (by simp only [paren, List.append_assoc])
                ·
                  have hk5 : ¬ k = 5 := by simpa using h7
                  refine AWP_seq ?_
                  refine AWP_region ?_
                  refine st td_ok rfl rfl rfl rfl (r := .v _) rfl trivial ?_
                  refine st td_ok rfl rfl rfl rfl (r := .v _) rfl trivial ?_
                  refine AOps_nil ?_
                  refine qn ?_
                  refine AWP_cond rfl rfl (fun h9 => ?_) (fun h9 => ?_)
                  ·
                    have hk : k = 7 := by simpa using h9
                    rw [hF, fmtK, if_neg hk1', if_neg hk2, if_neg hk3, if_neg hk4, if_neg hk5, if_pos hk]
                    rw [hS9 (by omega)] at hS ⊢
                    refine AWP_seq ?_
                    refine AWP_region ?_
                    refine st td_ok rfl rfl rfl rfl (r := .v _) rfl trivial ?_
                    (refine st_eq td_ok rfl rfl rfl rfl (r := _) rfl ?_ ((show _ = AV.v (.string (mkS ([97, 114, 114, 97, 121, 40] ++ Lib.join (fmtL data l) [44, 32]))) from congrArg (fun b => AV.v (.string b)) (mkS_app [97, 114, 114, 97, 121, 40] _))) ?_; · show (mkS [97, 114, 114, 97, 121, 40]).size + (mkS _).size ≤ _; rw [mkS_size, mkS_size]; simp only [List.length_cons, List.length_nil]; omega)
                    (refine st_eq td_ok rfl rfl rfl rfl (r := _) rfl ?_ ((show _ = AV.v (.string (mkS ([97, 114, 114, 97, 121, 40] ++ Lib.join (fmtL data l) [44, 32] ++ [41]))) from congrArg (fun b => AV.v (.string b)) (mkS_app _ [41]))) ?_; · show (mkS _).size + (mkS [41]).size ≤ _; rw [mkS_size, mkS_size]; simp only [List.length_append, List.length_cons, List.length_nil]; omega)
                    refine st td_ok rfl rfl rfl rfl (r := .v _) rfl trivial ?_
                    refine AOps_nil ?_
                    refine qn ?_
                    refine AWP_ret ?_
                    refine qbr ?_
                    refine qr ?_
                    refine ⟨_, _, _, _, rfl, trivial, GS.forget _ _, ?_⟩
                    first | show AV.v _ = _ | show AV.tup _ = _ | show AV.sl _ _ _ = _ | show AV.agg _ = _ | skip
                    exact mkS_inj (by simp [paren])
                  ·
                    have hk7 : ¬ k = 7 := by simpa using h9
                    refine AWP_seq ?_
                    refine AWP_region ?_
                    refine st td_ok rfl rfl rfl rfl (r := .v _) rfl trivial ?_
                    refine st td_ok rfl rfl rfl rfl (r := .v _) rfl trivial ?_
                    refine AOps_nil ?_
                    refine qn ?_
                    refine AWP_cond rfl rfl (fun h10 => ?_) (fun h10 => ?_)
                    ·
                      have hk : k = 8 := by simpa using h10
                      rw [hF, fmtK, if_neg hk1', if_neg hk2, if_neg hk3, if_neg hk4, if_neg hk5, if_neg hk7, if_pos hk]
                      rw [hS9 (by omega)] at hS ⊢
                      refine AWP_seq ?_
                      refine AWP_region ?_
                      refine st td_ok rfl rfl rfl rfl (r := .v _) rfl trivial ?_
                      (refine st_eq td_ok rfl rfl rfl rfl (r := _) rfl ?_ ((show _ = AV.v (.string (mkS ([114, 101, 102, 40] ++ Lib.join (fmtL data l) [44, 32]))) from congrArg (fun b => AV.v (.string b)) (mkS_app [114, 101, 102, 40] _))) ?_; · show (mkS [114, 101, 102, 40]).size + (mkS _).size ≤ _; rw [mkS_size, mkS_size]; simp only [List.length_cons, List.length_nil]; omega)
                      (refine st_eq td_ok rfl rfl rfl rfl (r := _) rfl ?_ ((show _ = AV.v (.string (mkS ([114, 101, 102, 40] ++ Lib.join (fmtL data l) [44, 32] ++ [41]))) from congrArg (fun b => AV.v (.string b)) (mkS_app _ [41]))) ?_; · show (mkS _).size + (mkS [41]).size ≤ _; rw [mkS_size, mkS_size]; simp only [List.length_append, List.length_cons, List.length_nil]; omega)
                      refine st td_ok rfl rfl rfl rfl (r := .v _) rfl trivial ?_
                      refine AOps_nil ?_
                      refine qn ?_
                      refine AWP_ret ?_
                      refine qbr ?_
                      refine qr ?_
                      refine ⟨_, _, _, _, rfl, trivial, GS.forget _ _, ?_⟩
                      first | show AV.v _ = _ | show AV.tup _ = _ | show AV.sl _ _ _ = _ | show AV.agg _ = _ | skip
                      exact mkS_inj (by simp [paren])
                    ·
                      have hk8 : ¬ k = 8 := by simpa using h10
                      refine AWP_seq ?_
                      refine AWP_region ?_
                      refine st td_ok rfl rfl rfl rfl (r := .v _) rfl trivial ?_
                      refine st td_ok rfl rfl rfl rfl (r := .v _) rfl trivial ?_
                      refine AOps_nil ?_
                      refine qn ?_
                      refine AWP_cond rfl rfl (fun h11 => ?_) (fun h11 => ?_)
                      ·
                        have hk9 : k = 9 := by simpa using h11
                        have hl1 := h9' hk9
                        have hlt : l.length - 1 < l.length := by omega
                        rw [hF, fmtK, if_neg hk1', if_neg hk2, if_neg hk3, if_neg hk4, if_neg hk5, if_neg hk7, if_neg hk8, if_pos hk9]
                        have hla : (fmtL data l).getD ((fmtL data l).length - 1) [] = fmtT data (l.getD (l.length - 1) ty0) := by rw [hlen, fmtL_map]; exact getD_map' _ hlt
                        have hjj : j = (fmtL data l).length - 1 := by rw [hjL, lastA, if_pos hk9, hlen]
                        have hLl : lastA k l.length = l.length - 1 := by rw [lastA, if_pos hk9]
                        have hjt := jl_take (fmtL data l) ((fmtL data l).length - 1) (by omega)
                        rw [hla] at hjt ⊢
                        rw [← hjj] at hjt ⊢
                        rw [hLl]
                        have hLc := hk1 _ hlt
                        obtain ⟨⟨k2, n2, l2⟩, hel⟩ : ∃ t, l.getD (l.length - 1) ty0 = t := ⟨_, rfl⟩
                        rw [hel] at hLc hjt ⊢
                        refine AWP_seq ?_
                        refine AWP_region ?_
                        refine st td_ok rfl rfl rfl rfl (r := .v _) rfl trivial ?_
                        (refine st_eq td_ok rfl rfl rfl rfl (r := _) rfl ?_ ((show _ = AV.v (.string (mkS ([102, 110, 40] ++ Lib.join ((fmtL data l).take j) [44, 32]))) from congrArg (fun b => AV.v (.string b)) (mkS_app [102, 110, 40] _))) ?_; · show (mkS [102, 110, 40]).size + (mkS _).size ≤ _; rw [mkS_size, mkS_size]; simp only [List.length_cons, List.length_nil]; omega)
                        (refine st_eq td_ok rfl rfl rfl rfl (r := _) rfl ?_ ((show _ = AV.v (.string (mkS ([102, 110, 40] ++ Lib.join ((fmtL data l).take j) [44, 32] ++ [41, 32, 45, 62, 32]))) from congrArg (fun b => AV.v (.string b)) (mkS_app _ [41, 32, 45, 62, 32]))) ?_; · show (mkS _).size + (mkS [41, 32, 45, 62, 32]).size ≤ _; rw [mkS_size, mkS_size]; simp only [List.length_append, List.length_cons, List.length_nil]; omega)
                        refine st td_ok rfl rfl rfl rfl (r := .sl _ _ _) rfl trivial ?_
                        refine st td_ok rfl rfl rfl rfl (r := .v _) rfl trivial ?_
                        refine st_own (r := .sl _ _ _) td_ok rfl rfl rfl rfl rfl rfl rfl (by assumption) (Nat.le_of_ble_eq_true rfl) rfl  ?_
                        refine st td_ok rfl rfl rfl rfl (r := .v _) rfl trivial ?_
                        (refine st td_ok rfl rfl rfl rfl (r := .pp _ _) rfl ?_ ?_; · ((repeat' with_reducible apply And.intro) <;> (first | omega | (simp only [Ty.encs_len, Ty.enc_len, dats_len, mkS_size, List.length_append, List.length_map, List.length_take, cond_true, cond_false, nd, Option.getD_none, Option.getD_some, Int.toNat_natCast, strs_len, nums_len, List.length_append, tds2, tds3, tds4, tds5, tds9, tds12, tds21, tds22, tds23, tds24, tds25, tds30, tds31, tds32, tds33, tds34, tds36, tds43, tds45, tds47, tds57, tds62, tds66, tds69, decide_eq_true_eq, Bool.and_eq_true, Bool.not_eq_true', decide_eq_false_iff_not] at *; omega))))
                        (refine st_eq td_ok rfl rfl rfl rfl (r := _) rfl ?_ ((show _ = AV.agg (Ty.mk k2 n2 l2).enc from (Ty.at_lt l (l.length - 1) hlt _).trans (by rw [hel]))) ?_; · ((repeat' with_reducible apply And.intro) <;> (simp only [Ty.encs_len, Ty.enc_len, dats_len, mkS_size, List.length_append, List.length_map, List.length_take, cond_true, cond_false, nd, Option.getD_none, Option.getD_some, Int.toNat_natCast, strs_len, nums_len, List.length_append, tds2, tds3, tds4, tds5, tds9, tds12, tds21, tds22, tds23, tds24, tds25, tds30, tds31, tds32, tds33, tds34, tds36, tds43, tds45, tds47, tds57, tds62, tds66, tds69, decide_eq_true_eq, Bool.and_eq_true, Bool.not_eq_true', decide_eq_false_iff_not] at *; omega)))
                        refine st_pcall rfl rfl rfl rfl rfl rfl rfl ⟨_, rfl, rfl, rfl⟩ hLc ?_
                        (refine st_eq td_ok rfl rfl rfl rfl (r := _) rfl ?_ ((congrArg (fun b => AV.v (.string b)) (mkS_app _ _))) ?_; · show (mkS _).size + (mkS _).size ≤ _; rw [mkS_size, mkS_size]; simp only [List.length_append, List.length_cons, List.length_nil]; omega)
                        refine st td_ok rfl rfl rfl rfl (r := .v _) rfl trivial ?_
                        refine AOps_nil ?_
                        refine qn ?_
                        refine AWP_ret ?_
                        refine qbr ?_
                        refine qr ?_
                        refine ⟨_, _, _, _, rfl, trivial, GS.forget _ _, ?_⟩
                        first | show AV.v _ = _ | show AV.tup _ = _ | show AV.sl _ _ _ = _ | show AV.agg _ = _ | skip
                        exact mkS_inj (by simp [paren])
                      ·
                        have hk9 : ¬ k = 9 := by simpa using h11
                        rw [hF, fmtK, if_neg hk1', if_neg hk2, if_neg hk3, if_neg hk4, if_neg hk5, if_neg hk7, if_neg hk8, if_neg hk9]
                        rw [hS9 hk9] at hS ⊢
                        refine AWP_skip ?_
                        refine qbn ?_
                        refine qn ?_
                        refine AWP_seq ?_
                        refine AWP_region ?_
                        refine st td_ok rfl rfl rfl rfl (r := .v _) rfl trivial ?_
                        (refine st_eq td_ok rfl rfl rfl rfl (r := _) rfl ?_ ((show _ = AV.v (.string (mkS ([40] ++ Lib.join (fmtL data l) [44, 32]))) from congrArg (fun b => AV.v (.string b)) (mkS_app [40] _))) ?_; · show (mkS [40]).size + (mkS _).size ≤ _; rw [mkS_size, mkS_size]; simp only [List.length_cons, List.length_nil]; omega)
                        (refine st_eq td_ok rfl rfl rfl rfl (r := _) rfl ?_ ((show _ = AV.v (.string (mkS ([40] ++ Lib.join (fmtL data l) [44, 32] ++ [41]))) from congrArg (fun b => AV.v (.string b)) (mkS_app _ [41]))) ?_; · show (mkS _).size + (mkS [41]).size ≤ _; rw [mkS_size, mkS_size]; simp only [List.length_append, List.length_cons, List.length_nil]; omega)
                        refine st td_ok rfl rfl rfl rfl (r := .v _) rfl trivial ?_
                        refine AOps_nil ?_
                        refine qn ?_
                        refine AWP_ret ?_
                        refine ⟨_, _, _, _, rfl, trivial, GS.forget _ _, ?_⟩
                        first | show AV.v _ = _ | show AV.tup _ = _ | show AV.sl _ _ _ = _ | show AV.agg _ = _ | skip
                        exact mkS_inj (by simp [paren])
end Go.Proofs.YtgnfjahkhhkmoaaDoor.V
