import Derived.Test.YtoiolofgcgkgiaaT11
namespace Go.Proofs.Ytoiolofgcgkgiaa.V
open Go
set_option linter.unusedSimpArgs false
set_option linter.unusedVariables false

def joinB (sep : ByteArray) (l : List Tok) : ByteArray := ⟨(joinL (bl sep) l).toArray⟩
theorem bl_joinB (sep : ByteArray) (l : List Tok) : bl (joinB sep l) = joinL (bl sep) l := by show ((joinL (bl sep) l).toArray).toList = _; rw [List.toList_toArray]
theorem take_getD {l : List Tok} {j : Nat} (h : j < l.length) : l.take (j + 1) = l.take j ++ [l.getD j tok0] := by
  rw [List.take_add_one, List.getD_eq_getElem?_getD, List.getElem?_eq_getElem h]; rfl
theorem joinB_step {sep : ByteArray} {l : List Tok} {j : Nat} (h : j < l.length) : joinB sep (l.take j) ++ ((l.getD j tok0).text ++ sep) = joinB sep (l.take (j + 1)) := by
  refine bl_ext ?_
  rw [bl_app, bl_app, bl_joinB, bl_joinB, take_getD h, joinL_app]
  simp only [joinL, List.append_nil]
theorem app_size (a b : ByteArray) : (a ++ b).size = a.size + b.size := ByteArray.size_append
theorem joined_c (l : List Tok) (sep : ByteArray) (hl : l.length ≤ 500) (ht : ∀ j, j < l.length → (l.getD j tok0).text.size ≤ 16384) (hs : sep.size ≤ 100) : PCalls Try.prog 13 [.sl false l.length (toks l), .v (.string sep)] (.v (.string (joinB sep l))) := by
  refine calls_body td_ok Try.func13 rfl rfl rfl ?_
  refine AWP_seq ?_
  refine AWP_region ?_
  -- op 0.0 assign t4
  refine st td_ok rfl rfl rfl rfl (r := .v _) rfl trivial ?_
  refine AOps_nil ?_
  refine qn ?_
  refine AWP_seq ?_
  refine AWP_region ?_
  -- op 1.0 assign t5
  refine st td_ok rfl rfl rfl rfl (r := .v _) rfl trivial ?_
  refine AOps_nil ?_
  refine qn ?_
  refine AWP_seq ?_
  refine AWP_seq ?_
  refine AWP_region ?_
  -- op 2.0 move t8
  refine st td_ok rfl rfl rfl rfl (r := .sl _ _ _) rfl trivial ?_
  -- op 2.1 call t9
  refine st td_ok rfl rfl rfl rfl (r := .v _) rfl trivial ?_
  -- op 2.2 move t10
  refine st td_ok rfl rfl rfl rfl (r := .v _) rfl trivial ?_
  refine AOps_nil ?_
  refine qn ?_
  refine AWP_block ?_
  -- loop: live [1, 5, 8, 9, 10]
  refine AWP_for (fun (x : Nat × ByteArray) => [(1, .v (.string sep)), (5, .v (.string x.2)), (8, .sl false l.length (toks l)), (9, .v (.int .i64 l.length)), (10, .v (.int .i64 x.1))]) (fun x X => x.1 ≤ l.length ∧ x.2 = joinB sep (l.take x.1) ∧ x.2.size ≤ x.1 * 16484) (fun x => l.length - x.1) (0, ⟨#[]⟩) ⟨by (repeat' (first | exact rfl | exact trivial | apply And.intro)), ⟨Nat.zero_le _, rfl, Nat.zero_le _⟩⟩ ?_
  rintro x X ⟨hj, hx1, hx2⟩
  refine AWP_seq ?_
  refine AWP_region ?_
  -- op 3.0 binOp t11
  refine st td_ok rfl rfl rfl rfl (r := .v _) rfl trivial ?_
  refine AOps_nil ?_
  refine qn ?_
  refine AWP_seq ?_
  refine AWP_cond rfl rfl (fun h0 => ?_) (fun h0 => ?_)
  ·
    refine AWP_skip ?_
    refine qn ?_
    refine AWP_seq ?_
    refine AWP_block ?_
    refine AWP_seq ?_
    have hlt : x.1 < l.length := Int.ofNat_lt.mp (of_decide_eq_true h0)
    have htx := ht x.1 hlt
    refine AWP_region ?_
    -- op 4.0 indexAddr t12
    (refine st td_ok rfl rfl rfl rfl (r := .pp _ _) rfl ?_ ?_; · ((repeat' with_reducible apply And.intro) <;> (first | omega | (simp only [toks_len, app_size, cond_true, cond_false, nd, Option.getD_none, Option.getD_some, Int.toNat_natCast, strs_len, nums_len, List.length_append, tds2, tds3, tds4, tds5, tds9, tds12, tds21, tds23, tds24, tds27, tds30, tds31, tds32, tds34, tds51, tds55, decide_eq_true_eq, Bool.and_eq_true, Bool.not_eq_true', decide_eq_false_iff_not] at *; omega))))
    -- op 4.1 load t13
    (refine st_eq td_ok rfl rfl rfl rfl (r := _) rfl ?_ ((toks_all l x.1)) ?_; · ((repeat' with_reducible apply And.intro) <;> (simp only [toks_len, app_size, cond_true, cond_false, nd, Option.getD_none, Option.getD_some, Int.toNat_natCast, strs_len, nums_len, List.length_append, tds2, tds3, tds4, tds5, tds9, tds12, tds21, tds23, tds24, tds27, tds30, tds31, tds32, tds34, tds51, tds55, decide_eq_true_eq, Bool.and_eq_true, Bool.not_eq_true', decide_eq_false_iff_not] at *; omega)))
    -- op 4.2 alloc t7
    refine st_alloc td_ok rfl rfl rfl rfl rfl rfl (zs := [.v _, .v _, .v _]) rfl fun r7 hr7 => ?_
    -- op 4.3 store tNone
    refine st_store td_ok rfl rfl rfl rfl rfl rfl XH.put_same rfl (by ((repeat' with_reducible apply And.intro) <;> exact rfl)) (Nat.le_of_ble_eq_true rfl) (cs' := [.v _, .v _, .v _]) (T' := 31) rfl rfl ?_
    refine AOps_nil ?_
    refine qn ?_
    refine AWP_region ?_
    -- op 5.0 move t14
    refine st td_ok rfl rfl rfl rfl (r := .v _) rfl trivial ?_
    -- op 5.1 fieldAddr t15
    refine st td_ok rfl rfl rfl rfl (r := .v _) rfl trivial ?_
    -- op 5.2 load t16
    refine st_own (r := .v _) td_ok rfl rfl rfl rfl rfl rfl rfl XH.put_same (Nat.le_of_ble_eq_true rfl) rfl  ?_
    -- op 5.3 move t17
    refine st td_ok rfl rfl rfl rfl (r := .v _) rfl trivial ?_
    -- op 5.4 binOp t18
    (refine st td_ok rfl rfl rfl rfl (r := .v _) rfl ?_ ?_; · ((repeat' with_reducible apply And.intro) <;> omega))
    -- op 5.5 binOp t19
    (refine st td_ok rfl rfl rfl rfl (r := .v _) rfl ?_ ?_; · ((repeat' with_reducible apply And.intro) <;> (simp only [toks_len, app_size, cond_true, cond_false, nd, Option.getD_none, Option.getD_some, Int.toNat_natCast, strs_len, nums_len, List.length_append, tds2, tds3, tds4, tds5, tds9, tds12, tds21, tds23, tds24, tds27, tds30, tds31, tds32, tds34, tds51, tds55, decide_eq_true_eq, Bool.and_eq_true, Bool.not_eq_true', decide_eq_false_iff_not] at *; omega)))
    -- op 5.6 assign t5
    refine st td_ok rfl rfl rfl rfl (r := .v _) rfl trivial ?_
    refine AOps_nil ?_
    refine qbn ?_
    refine qn ?_
    refine AWP_region ?_
    -- op 6.0 binOp t20
    refine st_eq td_ok rfl rfl rfl rfl (r := .v _) rfl trivial (w64 (by omega)) ?_
    -- op 6.1 move t10
    refine st td_ok rfl rfl rfl rfl (r := .v _) rfl trivial ?_
    refine AOps_nil ?_
    -- back 0 (loop 3)
    refine qn ?_
    refine ⟨(x.1 + 1, x.2 ++ ((l.getD x.1 tok0).text ++ sep)), by dsimp only; omega, by (repeat' (first | exact rfl | exact trivial | apply And.intro)), by dsimp only; omega, by dsimp only; rw [hx1, joinB_step hlt], by dsimp only; rw [app_size, app_size]; omega⟩
  ·
    refine AWP_exit ?_
    refine qx ?_
    refine qx ?_
    refine qbh ?_
    refine qn ?_
    refine AWP_seq ?_
    refine AWP_region ?_
    -- op 7.0 move t21
    refine st td_ok rfl rfl rfl rfl (r := .v _) rfl trivial ?_
    -- op 7.1 assign t4
    refine st td_ok rfl rfl rfl rfl (r := .v _) rfl trivial ?_
    refine AOps_nil ?_
    refine qn ?_
    refine AWP_ret ?_
    -- ret 0
    refine ⟨_, _, _, _, rfl, trivial, GS.forget _ _, ?_⟩
    first | show AV.v _ = _ | show AV.tup _ = _ | show AV.sl _ _ _ = _ | show AV.agg _ = _ | skip
    have : x.1 = l.length := by simp only [decide_eq_false_iff_not] at h0; omega
    rw [hx1, this, List.take_length]
theorem shape_get {l l' : List Tok} (h : shape l' = shape l) (j : Nat) : (l'.getD j tok0).kind = (l.getD j tok0).kind ∧ (l'.getD j tok0).text = (l.getD j tok0).text := by
  have h1 := congrArg (fun q => q[j]?) h
  simp only [shape, List.getElem?_map] at h1
  simp only [List.getD_eq_getElem?_getD]
  cases e1 : l'[j]? <;> cases e2 : l[j]? <;> rw [e1, e2] at h1 <;> simp at h1 ⊢
  · exact h1
theorem shape_len {l l' : List Tok} (h : shape l' = shape l) : l'.length = l.length := by
  have := congrArg List.length h
  simpa [shape] using this
theorem lit35 : (⟨#[35]⟩ : ByteArray).size = 1 := rfl
theorem lit10 : (⟨#[10]⟩ : ByteArray).size = 1 := rfl
def seps (cm : ByteArray) : List ByteArray := [⟨#[32]⟩, ⟨#[9, 13, 10]⟩, ⟨#[35]⟩ ++ cm ++ ⟨#[10]⟩]
theorem seps_ok {cm : ByteArray} (hc : ∀ j : Nat, j < cm.size → bt cm j ≠ 10) (hs : cm.size ≤ 20) (q : Nat) (hq : q < 3) : sepOk (bl ((seps cm).getD q ⟨#[]⟩)) ∧ ((seps cm).getD q ⟨#[]⟩).size ≤ 100 := by
  match q, hq with
  | 0, _ => exact ⟨sep_space, show (1 : Nat) ≤ 100 by decide⟩
  | 1, _ => exact ⟨sep_three, show (3 : Nat) ≤ 100 by decide⟩
  | 2, _ =>
    show sepOk (bl (⟨#[35]⟩ ++ cm ++ ⟨#[10]⟩)) ∧ (⟨#[35]⟩ ++ cm ++ ⟨#[10]⟩ : ByteArray).size ≤ 100
    rw [bl_app, bl_app, app_size, app_size, lit35, lit10]
    refine ⟨?_, by omega⟩
    show sepOk ((35 :: bl cm) ++ [10])
    rw [List.cons_append]
    exact sep_comment hc
set_option maxRecDepth 20000 in
theorem joins_ok (s cm : ByteArray) (hb : s.size < 2 ^ 47) (hb2 : cm.size < 2 ^ 47) (l : List Tok) (hl : splitP s = .ok l) (ht : ∀ j, j < l.length → (l.getD j tok0).text.size ≤ 16384)
    (hj : ∀ sep x, sepOk (bl sep) → bl x = joinL (bl sep) l → x.size ≤ 16384 → ∃ l', splitP x = .ok l' ∧ shape l' = shape l) : PCalls Try.prog 6 [.v (.string s), .v (.string cm)] (.v (.bool true)) := by
  refine calls_body td_ok Try.func6 rfl rfl rfl ?_
  refine AWP_seq ?_
  refine AWP_region ?_
  -- op 0.0 assign t4
  refine st td_ok rfl rfl rfl rfl (r := .v _) rfl trivial ?_
  refine AOps_nil ?_
  refine qn ?_
  refine AWP_seq ?_
  refine AWP_region ?_
  -- op 1.0 move t17
  refine st td_ok rfl rfl rfl rfl (r := .v _) rfl trivial ?_
  -- op 1.1 call t18
  refine st_pcall rfl rfl rfl rfl rfl rfl rfl ⟨_, rfl, rfl, rfl⟩ (split_ok hb hl) ?_
  -- op 1.2 move t16
  refine st td_ok rfl rfl rfl rfl (r := .tup _) rfl trivial ?_
  -- op 1.3 extract t19
  refine st td_ok rfl rfl rfl rfl (r := .sl _ _ _) rfl trivial ?_
  -- op 1.4 extract t20
  refine st td_ok rfl rfl rfl rfl (r := .v _) rfl trivial ?_
  -- op 1.5 extract t21
  refine st td_ok rfl rfl rfl rfl (r := .v _) rfl trivial ?_
  -- op 1.6 assign t5
  refine st td_ok rfl rfl rfl rfl (r := .sl _ _ _) rfl trivial ?_
  -- op 1.7 assign t6
  refine st td_ok rfl rfl rfl rfl (r := .v _) rfl trivial ?_
  -- op 1.8 assign t7
  refine st td_ok rfl rfl rfl rfl (r := .v _) rfl trivial ?_
  refine AOps_nil ?_
  refine qn ?_
  refine AWP_seq ?_
  refine AWP_seq ?_
  refine AWP_region ?_
  -- op 2.0 move t22
  refine st td_ok rfl rfl rfl rfl (r := .v _) rfl trivial ?_
  -- op 2.1 binOp t23
  refine st td_ok rfl rfl rfl rfl (r := .v _) rfl trivial ?_
  -- op 2.2 move t24
  refine st td_ok rfl rfl rfl rfl (r := .v _) rfl trivial ?_
  -- op 2.3 move t25 g['2', 'false']
  (refine sgk0 td_ok rfl rfl rfl rfl rfl rfl (r := .sl _ _ _) rfl ?_ ?_; · exact fun hg => ⟨by (repeat' (first | exact trivial | exact hg | exact (Bool.and_eq_true_iff.mp hg).1 | apply And.intro)), by exact trivial⟩)
  -- op 2.4 call t26 g['2', 'false']
  (refine sgk0 td_ok rfl rfl rfl rfl rfl rfl (r := .v _) rfl ?_ ?_; · exact fun hg => ⟨by (repeat' (first | exact trivial | exact hg | exact (Bool.and_eq_true_iff.mp hg).1 | apply And.intro)), by exact trivial⟩)
  -- op 2.5 binOp t27 g['2', 'false']
  (refine sgk0 td_ok rfl rfl rfl rfl rfl rfl (r := .v _) rfl ?_ ?_; · exact fun hg => ⟨by (repeat' (first | exact trivial | exact hg | exact (Bool.and_eq_true_iff.mp hg).1 | apply And.intro)), by exact trivial⟩)
  -- op 2.6 pick t28
  (refine st td_ok rfl rfl rfl rfl (r := .v _) rfl ?_ ?_; · first | (simp_all; done) | ((repeat' with_reducible apply And.intro) <;> with_reducible exact trivial))
  -- op 2.7 move t29
  refine st td_ok rfl rfl rfl rfl (r := .v _) rfl trivial ?_
  -- op 2.8 move t30 g['7', 'false']
  (refine sgk0 td_ok rfl rfl rfl rfl rfl rfl (r := .v _) rfl ?_ ?_; · exact fun hg => ⟨by (repeat' (first | exact trivial | exact hg | exact (Bool.and_eq_true_iff.mp hg).1 | apply And.intro)), by exact trivial⟩)
  -- op 2.9 call t31 g['7', 'false']
  (refine sgk0 td_ok rfl rfl rfl rfl rfl rfl (r := .v _) rfl ?_ ?_; · exact fun hg => ⟨by (repeat' (first | exact trivial | exact hg | exact (Bool.and_eq_true_iff.mp hg).1 | apply And.intro)), by exact trivial⟩)
  -- op 2.10 binOp t32 g['7', 'false']
  (refine sgk0 td_ok rfl rfl rfl rfl rfl rfl (r := .v _) rfl ?_ ?_; · exact fun hg => ⟨by (repeat' (first | exact trivial | exact hg | exact (Bool.and_eq_true_iff.mp hg).1 | apply And.intro)), by exact trivial⟩)
  -- op 2.11 pick t33
  (refine st td_ok rfl rfl rfl rfl (r := .v _) rfl ?_ ?_; · first | (simp_all; done) | ((repeat' with_reducible apply And.intro) <;> with_reducible exact trivial))
  refine AOps_nil ?_
  refine qn ?_
  refine AWP_cond rfl rfl (fun h0 => ?_) (fun h0 => ?_)
  ·
    refine AWP_seq ?_
    refine AWP_region ?_
    -- op 3.0 call t34
    refine st_pcall rfl rfl rfl rfl rfl rfl rfl ⟨_, rfl, rfl, rfl⟩ (by first | exact awake_c) ?_
    -- op 3.1 assign t4
    refine st td_ok rfl rfl rfl rfl (r := .v _) rfl trivial ?_
    refine AOps_nil ?_
    refine qn ?_
    refine AWP_ret ?_
    refine qr ?_
    -- ret 0
    refine ⟨_, _, _, _, rfl, trivial, GS.forget _ _, ?_⟩
    first | show AV.v _ = _ | show AV.tup _ = _ | show AV.sl _ _ _ = _ | show AV.agg _ = _ | skip
    rfl
  ·
    have hlc : l.length ≤ 500 ∧ cm.size ≤ 20 := by
      cases e1 : decide ((l.length : Int) > 500) with
      | true => rw [e1] at h0; exact absurd h0 (by simp)
      | false =>
        rw [e1] at h0
        have h0' : decide ((cm.size : Int) > 20) = false := h0
        simp only [decide_eq_false_iff_not] at e1 h0'
        omega
    clear h0
    obtain ⟨hl5, hc2⟩ := hlc
    refine AWP_skip ?_
    refine qn ?_
    refine AWP_seq ?_
    refine AWP_seq ?_
    refine AWP_region ?_
    -- op 4.0 assign t8
    refine st td_ok rfl rfl rfl rfl (r := .v _) rfl trivial ?_
    refine AOps_nil ?_
    refine qn ?_
    refine AWP_block ?_
    -- loop: live [1, 5, 8]
    refine AWP_for (fun (j : Nat) => [(1, .v (.string cm)), (5, .sl false l.length (toks l)), (8, .v (.int .i64 j))]) (fun j X => X = XH.none ∧ j ≤ cm.size ∧ ∀ k : Nat, k < j → bt cm k ≠ 10) (fun j => cm.size - j) 0 ⟨by (repeat' (first | exact rfl | exact trivial | apply And.intro)), ⟨rfl, Nat.zero_le _, fun k hk => by omega⟩⟩ ?_
    rintro j X ⟨rfl, hj1, hj2⟩
    refine AWP_seq ?_
    refine AWP_seq ?_
    refine AWP_region ?_
    -- op 5.0 move t35
    refine st td_ok rfl rfl rfl rfl (r := .v _) rfl trivial ?_
    -- op 5.1 move t36
    refine st td_ok rfl rfl rfl rfl (r := .v _) rfl trivial ?_
    -- op 5.2 call t37
    refine st td_ok rfl rfl rfl rfl (r := .v _) rfl trivial ?_
    -- op 5.3 binOp t38
    refine st td_ok rfl rfl rfl rfl (r := .v _) rfl trivial ?_
    refine AOps_nil ?_
    refine qn ?_
    refine AWP_cond rfl rfl (fun h1 => ?_) (fun h1 => ?_)
    ·
      refine AWP_skip ?_
      refine qn ?_
      refine AWP_seq ?_
      refine AWP_block ?_
      refine AWP_seq ?_
      refine AWP_region ?_
      -- op 7.0 move t41
      refine st td_ok rfl rfl rfl rfl (r := .v _) rfl trivial ?_
      -- op 7.1 move t42
      refine st td_ok rfl rfl rfl rfl (r := .v _) rfl trivial ?_
      -- op 7.2 index t43
      (refine st td_ok rfl rfl rfl rfl (r := .v _) rfl ?_ ?_; · ((repeat' with_reducible apply And.intro) <;> (first | omega | (simp only [toks_len, app_size, lit35, lit10, cond_true, cond_false, nd, Option.getD_none, Option.getD_some, Int.toNat_natCast, strs_len, nums_len, List.length_append, tds2, tds3, tds4, tds5, tds9, tds12, tds21, tds23, tds24, tds27, tds30, tds31, tds32, tds34, tds51, tds55, decide_eq_true_eq, Bool.and_eq_true, Bool.not_eq_true', decide_eq_false_iff_not] at *; omega))))
      -- op 7.3 binOp t44
      refine st td_ok rfl rfl rfl rfl (r := .v _) rfl trivial ?_
      refine AOps_nil ?_
      refine qn ?_
      refine AWP_cond rfl rfl (fun h2 => ?_) (fun h2 => ?_)
      ·
        refine AWP_seq ?_
        refine AWP_region ?_
        -- op 8.0 call t45
        refine st_pcall rfl rfl rfl rfl rfl rfl rfl ⟨_, rfl, rfl, rfl⟩ (by first | exact awake_c) ?_
        -- op 8.1 assign t4
        refine st td_ok rfl rfl rfl rfl (r := .v _) rfl trivial ?_
        refine AOps_nil ?_
        refine qn ?_
        refine AWP_ret ?_
        refine qbr ?_
        refine qr ?_
        refine qr ?_
        refine qbr ?_
        refine qr ?_
        -- ret 1
        refine ⟨_, _, _, _, rfl, trivial, GS.forget _ _, ?_⟩
        first | show AV.v _ = _ | show AV.tup _ = _ | show AV.sl _ _ _ = _ | show AV.agg _ = _ | skip
        rfl
      ·
        refine AWP_skip ?_
        refine qbn ?_
        refine qn ?_
        refine AWP_region ?_
        -- op 6.0 move t39
        refine st td_ok rfl rfl rfl rfl (r := .v _) rfl trivial ?_
        -- op 6.1 binOp t40
        refine st_eq td_ok rfl rfl rfl rfl (r := .v _) rfl trivial (w64 (by omega)) ?_
        -- op 6.2 assign t8
        refine st td_ok rfl rfl rfl rfl (r := .v _) rfl trivial ?_
        refine AOps_nil ?_
        -- back 0 (loop 5)
        refine qn ?_
        refine ⟨j + 1, by simp only [decide_eq_true_eq] at h1; omega, by (repeat' (first | exact rfl | exact trivial | apply And.intro)), rfl, by simp only [decide_eq_true_eq] at h1; omega, fun k hk => ?_⟩
        rcases Nat.lt_or_ge k j with h | h
        · exact hj2 k h
        · have : k = j := by omega
          subst this
          simpa using h2
    ·
      have hcm : ∀ k : Nat, k < cm.size → bt cm k ≠ 10 := fun k hk => hj2 k (by simp only [decide_eq_false_iff_not] at h1; omega)
      refine AWP_exit ?_
      refine qx ?_
      refine qx ?_
      refine qbh ?_
      refine qn ?_
      refine AWP_seq ?_
      refine AWP_seq ?_
      refine AWP_region ?_
      -- op 9.0 move t46
      refine st td_ok rfl rfl rfl rfl (r := .v _) rfl trivial ?_
      -- op 9.1 binOp t47
      (refine st td_ok rfl rfl rfl rfl (r := .v _) rfl ?_ ?_; · ((repeat' with_reducible apply And.intro) <;> (simp only [toks_len, app_size, lit35, lit10, cond_true, cond_false, nd, Option.getD_none, Option.getD_some, Int.toNat_natCast, strs_len, nums_len, List.length_append, tds2, tds3, tds4, tds5, tds9, tds12, tds21, tds23, tds24, tds27, tds30, tds31, tds32, tds34, tds51, tds55, decide_eq_true_eq, Bool.and_eq_true, Bool.not_eq_true', decide_eq_false_iff_not] at *; omega)))
      -- op 9.2 binOp t48
      (refine st td_ok rfl rfl rfl rfl (r := .v _) rfl ?_ ?_; · ((repeat' with_reducible apply And.intro) <;> (simp only [toks_len, app_size, lit35, lit10, cond_true, cond_false, nd, Option.getD_none, Option.getD_some, Int.toNat_natCast, strs_len, nums_len, List.length_append, tds2, tds3, tds4, tds5, tds9, tds12, tds21, tds23, tds24, tds27, tds30, tds31, tds32, tds34, tds51, tds55, decide_eq_true_eq, Bool.and_eq_true, Bool.not_eq_true', decide_eq_false_iff_not] at *; omega)))
      -- op 9.3 buildSlice t49
      refine st_lit td_ok rfl rfl rfl rfl rfl rfl rfl rfl rfl (by decide)  rfl (by ((repeat' with_reducible apply And.intro) <;> (first | with_reducible exact trivial | exact rfl))) ?_
      -- op 9.4 call t50
      refine st td_ok rfl rfl rfl rfl (r := .v _) rfl trivial ?_
      -- op 9.5 move t51
      refine st td_ok rfl rfl rfl rfl (r := .v _) rfl trivial ?_
      refine AOps_nil ?_
      refine qn ?_
      refine AWP_block ?_
      -- loop: live [5, 49, 50, 51]
      obtain ⟨sp, hsp⟩ : ∃ sp, sp = seps cm := ⟨_, rfl⟩
      have hsl : sp.length = 3 := by rw [hsp]; rfl
      have hsq : ∀ q, q < 3 → sepOk (bl (sp.getD q ⟨#[]⟩)) ∧ (sp.getD q ⟨#[]⟩).size ≤ 100 := by rw [hsp]; exact seps_ok hcm hc2
      refine AWP_for (fun (q : Nat) => [(5, .sl false l.length (toks l)), (49, .sl true 3 (strs sp)), (50, .v (.int .i64 3)), (51, .v (.int .i64 q))]) (fun q X => X = XH.none ∧ q ≤ 3) (fun q => 3 - q) 0 ⟨by (subst hsp; (repeat' (first | exact rfl | exact trivial | apply And.intro))), ⟨rfl, by decide⟩⟩ ?_
      rintro q X ⟨rfl, hq⟩
      refine AWP_seq ?_
      refine AWP_region ?_
      -- op 10.0 binOp t52
      refine st td_ok rfl rfl rfl rfl (r := .v _) rfl trivial ?_
      refine AOps_nil ?_
      refine qn ?_
      refine AWP_seq ?_
      refine AWP_cond rfl rfl (fun h3 => ?_) (fun h3 => ?_)
      ·
        refine AWP_skip ?_
        refine qn ?_
        refine AWP_seq ?_
        refine AWP_block ?_
        refine AWP_seq ?_
        have hq3 : q < 3 := by simp only [decide_eq_true_eq] at h3; omega
        obtain ⟨hq1, hq2⟩ := hsq q hq3
        refine AWP_region ?_
        -- op 11.0 indexAddr t53
        (refine st td_ok rfl rfl rfl rfl (r := .pp _ _) rfl ?_ ?_; · ((repeat' with_reducible apply And.intro) <;> (first | omega | (simp only [toks_len, app_size, lit35, lit10, cond_true, cond_false, nd, Option.getD_none, Option.getD_some, Int.toNat_natCast, strs_len, nums_len, List.length_append, tds2, tds3, tds4, tds5, tds9, tds12, tds21, tds23, tds24, tds27, tds30, tds31, tds32, tds34, tds51, tds55, decide_eq_true_eq, Bool.and_eq_true, Bool.not_eq_true', decide_eq_false_iff_not] at *; omega))))
        -- op 11.1 load t54
        (refine st_eq td_ok rfl rfl rfl rfl (r := _) rfl ?_ ((show _ = AV.v (.string (sp.getD q ⟨#[]⟩)) from (strs_at _ _).trans (by simp [tds9]))) ?_; · ((repeat' with_reducible apply And.intro) <;> (simp only [toks_len, app_size, lit35, lit10, cond_true, cond_false, nd, Option.getD_none, Option.getD_some, Int.toNat_natCast, strs_len, nums_len, List.length_append, tds2, tds3, tds4, tds5, tds9, tds12, tds21, tds23, tds24, tds27, tds30, tds31, tds32, tds34, tds51, tds55, decide_eq_true_eq, Bool.and_eq_true, Bool.not_eq_true', decide_eq_false_iff_not] at *; omega)))
        -- op 11.2 assign t10
        refine st td_ok rfl rfl rfl rfl (r := .v _) rfl trivial ?_
        refine AOps_nil ?_
        refine qn ?_
        refine AWP_seq ?_
        refine AWP_region ?_
        -- op 12.0 move t55
        refine st td_ok rfl rfl rfl rfl (r := .sl _ _ _) rfl trivial ?_
        -- op 12.1 move t56
        refine st td_ok rfl rfl rfl rfl (r := .v _) rfl trivial ?_
        -- op 12.2 call t57
        refine st_pcall rfl rfl rfl rfl rfl rfl rfl ⟨_, rfl, rfl, rfl⟩ (joined_c l (sp.getD q ⟨#[]⟩) hl5 ht hq2) ?_
        -- op 12.3 assign t11
        refine st td_ok rfl rfl rfl rfl (r := .v _) rfl trivial ?_
        refine AOps_nil ?_
        refine qn ?_
        refine AWP_seq ?_
        refine AWP_seq ?_
        refine AWP_region ?_
        -- op 13.0 move t58
        refine st td_ok rfl rfl rfl rfl (r := .v _) rfl trivial ?_
        -- op 13.1 call t59
        refine st td_ok rfl rfl rfl rfl (r := .v _) rfl trivial ?_
        -- op 13.2 binOp t60
        refine st td_ok rfl rfl rfl rfl (r := .v _) rfl trivial ?_
        refine AOps_nil ?_
        refine qn ?_
        refine AWP_cond rfl rfl (fun h4 => ?_) (fun h4 => ?_)
        ·
          refine AWP_exit ?_
          refine qx ?_
          refine qbh ?_
          refine qn ?_
          refine AWP_region ?_
          -- op 23.0 binOp t106
          refine st_eq td_ok rfl rfl rfl rfl (r := .v _) rfl trivial (w64 (by omega)) ?_
          -- op 23.1 move t51
          refine st td_ok rfl rfl rfl rfl (r := .v _) rfl trivial ?_
          refine AOps_nil ?_
          -- back 1 (loop 10)
          refine qn ?_
          exact ⟨q + 1, by omega, by (repeat' (first | exact rfl | exact trivial | apply And.intro)), rfl, by omega⟩
        ·
          refine AWP_skip ?_
          refine qn ?_
          refine AWP_seq ?_
          obtain ⟨l', hl', hsh⟩ := hj _ _ hq1 (bl_joinB _ _) (by simp only [decide_eq_false_iff_not] at h4; omega)
          have hln := shape_len hsh
          refine AWP_region ?_
          -- op 14.0 move t62
          refine st td_ok rfl rfl rfl rfl (r := .v _) rfl trivial ?_
          -- op 14.1 call t63
          refine st_pcall rfl rfl rfl rfl rfl rfl rfl ⟨_, rfl, rfl, rfl⟩ (split_ok (by simp only [decide_eq_false_iff_not] at h4; omega) hl') ?_
          -- op 14.2 move t61
          refine st td_ok rfl rfl rfl rfl (r := .tup _) rfl trivial ?_
          -- op 14.3 extract t64
          refine st td_ok rfl rfl rfl rfl (r := .sl _ _ _) rfl trivial ?_
          -- op 14.4 extract t65
          refine st td_ok rfl rfl rfl rfl (r := .v _) rfl trivial ?_
          -- op 14.5 extract t66
          refine st td_ok rfl rfl rfl rfl (r := .v _) rfl trivial ?_
          -- op 14.6 assign t12
          refine st td_ok rfl rfl rfl rfl (r := .sl _ _ _) rfl trivial ?_
          -- op 14.7 assign t13
          refine st td_ok rfl rfl rfl rfl (r := .v _) rfl trivial ?_
          -- op 14.8 assign t14
          refine st td_ok rfl rfl rfl rfl (r := .v _) rfl trivial ?_
          refine AOps_nil ?_
          refine qn ?_
          refine AWP_seq ?_
          refine AWP_seq ?_
          refine AWP_region ?_
          -- op 15.0 move t67
          refine st td_ok rfl rfl rfl rfl (r := .v _) rfl trivial ?_
          -- op 15.1 binOp t68
          refine st td_ok rfl rfl rfl rfl (r := .v _) rfl trivial ?_
          -- op 15.2 move t69
          refine st td_ok rfl rfl rfl rfl (r := .v _) rfl trivial ?_
          -- op 15.3 move t70 g['2', 'false']
          (refine sgk0 td_ok rfl rfl rfl rfl rfl rfl (r := .sl _ _ _) rfl ?_ ?_; · exact fun hg => ⟨by (repeat' (first | exact trivial | exact hg | exact (Bool.and_eq_true_iff.mp hg).1 | apply And.intro)), by exact trivial⟩)
          -- op 15.4 call t71 g['2', 'false']
          (refine sgk0 td_ok rfl rfl rfl rfl rfl rfl (r := .v _) rfl ?_ ?_; · exact fun hg => ⟨by (repeat' (first | exact trivial | exact hg | exact (Bool.and_eq_true_iff.mp hg).1 | apply And.intro)), by exact trivial⟩)
          -- op 15.5 move t72 g['2', 'false']
          (refine sgk0 td_ok rfl rfl rfl rfl rfl rfl (r := .sl _ _ _) rfl ?_ ?_; · exact fun hg => ⟨by (repeat' (first | exact trivial | exact hg | exact (Bool.and_eq_true_iff.mp hg).1 | apply And.intro)), by exact trivial⟩)
          -- op 15.6 call t73 g['2', 'false']
          (refine sgk0 td_ok rfl rfl rfl rfl rfl rfl (r := .v _) rfl ?_ ?_; · exact fun hg => ⟨by (repeat' (first | exact trivial | exact hg | exact (Bool.and_eq_true_iff.mp hg).1 | apply And.intro)), by exact trivial⟩)
          -- op 15.7 binOp t74 g['2', 'false']
          (refine sgk0 td_ok rfl rfl rfl rfl rfl rfl (r := .v _) rfl ?_ ?_; · exact fun hg => ⟨by (repeat' (first | exact trivial | exact hg | exact (Bool.and_eq_true_iff.mp hg).1 | apply And.intro)), by exact trivial⟩)
          -- op 15.8 pick t75
          (refine st td_ok rfl rfl rfl rfl (r := .v _) rfl ?_ ?_; · first | (simp_all; done) | ((repeat' with_reducible apply And.intro) <;> with_reducible exact trivial))
          refine AOps_nil ?_
          refine qn ?_
          refine AWP_cond rfl rfl (fun h5 => ?_) (fun h5 => ?_)
          ·
            (exfalso; rw [hln] at h5; simp at h5)
          ·
            refine AWP_skip ?_
            refine qn ?_
            refine AWP_seq ?_
            refine AWP_region ?_
            -- op 17.0 move t76
            refine st td_ok rfl rfl rfl rfl (r := .sl _ _ _) rfl trivial ?_
            -- op 17.1 call t77
            refine st td_ok rfl rfl rfl rfl (r := .v _) rfl trivial ?_
            -- op 17.2 move t78
            refine st td_ok rfl rfl rfl rfl (r := .v _) rfl trivial ?_
            refine AOps_nil ?_
            refine qn ?_
            refine AWP_block ?_
            -- loop: live [5, 12, 49, 50, 51, 77, 78]
            refine AWP_for (fun (j : Nat) => [(5, .sl false l.length (toks l)), (12, .sl false l'.length (toks l')), (49, .sl true 3 (strs sp)), (50, .v (.int .i64 3)), (51, .v (.int .i64 q)), (77, .v (.int .i64 l.length)), (78, .v (.int .i64 j))]) (fun j X => X = XH.none ∧ j ≤ l.length) (fun j => l.length - j) 0 ⟨by (repeat' (first | exact rfl | exact trivial | apply And.intro)), ⟨rfl, Nat.zero_le _⟩⟩ ?_
            rintro j X ⟨rfl, hj⟩
            refine AWP_seq ?_
            refine AWP_region ?_
            -- op 18.0 binOp t79
            refine st td_ok rfl rfl rfl rfl (r := .v _) rfl trivial ?_
            refine AOps_nil ?_
            refine qn ?_
            refine AWP_seq ?_
            refine AWP_cond rfl rfl (fun h6 => ?_) (fun h6 => ?_)
            ·
              refine AWP_skip ?_
              refine qn ?_
              refine AWP_seq ?_
              refine AWP_block ?_
              refine AWP_seq ?_
              refine AWP_region ?_
              -- op 19.0 move t80
              refine st td_ok rfl rfl rfl rfl (r := .v _) rfl trivial ?_
              -- op 19.1 assign t15
              refine st td_ok rfl rfl rfl rfl (r := .v _) rfl trivial ?_
              refine AOps_nil ?_
              refine qn ?_
              refine AWP_seq ?_
              have hlt : j < l.length := Int.ofNat_lt.mp (of_decide_eq_true h6)
              obtain ⟨hk1, hk2⟩ := shape_get hsh j
              refine AWP_drawn rfl rfl rfl rfl ?_
              -- op 20.0 move t81
              refine es td_ok rfl rfl rfl (r := .sl _ _ _) rfl trivial (rfl) ?_
              -- op 20.1 move t82
              refine es td_ok rfl rfl rfl (r := .v _) rfl trivial (rfl) ?_
              -- op 20.2 indexAddr t83
              (refine es td_ok rfl rfl rfl (r := .pp _ _) rfl ?_ (rfl) ?_; · ((repeat' with_reducible apply And.intro) <;> (first | omega | (simp only [toks_len, app_size, lit35, lit10, cond_true, cond_false, nd, Option.getD_none, Option.getD_some, Int.toNat_natCast, strs_len, nums_len, List.length_append, tds2, tds3, tds4, tds5, tds9, tds12, tds21, tds23, tds24, tds27, tds30, tds31, tds32, tds34, tds51, tds55, decide_eq_true_eq, Bool.and_eq_true, Bool.not_eq_true', decide_eq_false_iff_not] at *; omega))))
              -- op 20.3 fieldAddr t84
              refine es td_ok rfl rfl rfl (r := .pp _ _) rfl trivial (rfl) ?_
              -- op 20.4 load t85
              (refine es td_ok rfl rfl rfl (r := _) rfl ?_ ((toks_kind l j)) ?_; · ((repeat' with_reducible apply And.intro) <;> (simp only [toks_len, app_size, lit35, lit10, cond_true, cond_false, nd, Option.getD_none, Option.getD_some, Int.toNat_natCast, strs_len, nums_len, List.length_append, tds2, tds3, tds4, tds5, tds9, tds12, tds21, tds23, tds24, tds27, tds30, tds31, tds32, tds34, tds51, tds55, decide_eq_true_eq, Bool.and_eq_true, Bool.not_eq_true', decide_eq_false_iff_not] at *; omega)))
              -- op 20.5 move t86
              refine es td_ok rfl rfl rfl (r := .sl _ _ _) rfl trivial (rfl) ?_
              -- op 20.6 move t87
              refine es td_ok rfl rfl rfl (r := .v _) rfl trivial (rfl) ?_
              -- op 20.7 indexAddr t88
              (refine es td_ok rfl rfl rfl (r := .pp _ _) rfl ?_ (rfl) ?_; · ((repeat' with_reducible apply And.intro) <;> (first | omega | (simp only [toks_len, app_size, lit35, lit10, cond_true, cond_false, nd, Option.getD_none, Option.getD_some, Int.toNat_natCast, strs_len, nums_len, List.length_append, tds2, tds3, tds4, tds5, tds9, tds12, tds21, tds23, tds24, tds27, tds30, tds31, tds32, tds34, tds51, tds55, decide_eq_true_eq, Bool.and_eq_true, Bool.not_eq_true', decide_eq_false_iff_not] at *; omega))))
              -- op 20.8 fieldAddr t89
              refine es td_ok rfl rfl rfl (r := .pp _ _) rfl trivial (rfl) ?_
              -- op 20.9 load t90
              (refine es td_ok rfl rfl rfl (r := _) rfl ?_ (((toks_kind l' j).trans (by rw [hk1]))) ?_; · ((repeat' with_reducible apply And.intro) <;> (simp only [toks_len, app_size, lit35, lit10, cond_true, cond_false, nd, Option.getD_none, Option.getD_some, Int.toNat_natCast, strs_len, nums_len, List.length_append, tds2, tds3, tds4, tds5, tds9, tds12, tds21, tds23, tds24, tds27, tds30, tds31, tds32, tds34, tds51, tds55, decide_eq_true_eq, Bool.and_eq_true, Bool.not_eq_true', decide_eq_false_iff_not] at *; omega)))
              -- op 20.10 binOp t91
              refine es td_ok rfl rfl rfl (r := .v _) rfl trivial (rfl) ?_
              -- op 20.11 move t92
              refine es td_ok rfl rfl rfl (r := .v _) rfl trivial (rfl) ?_
              -- op 20.12 move t93 g['11', 'false']
              (refine esk0 td_ok rfl rfl rfl rfl (r := .sl _ _ _) rfl ?_ ?_; · exact fun hg => ⟨by (repeat' (first | exact trivial | exact hg | exact (Bool.and_eq_true_iff.mp hg).1 | apply And.intro)), by exact trivial⟩)
              -- op 20.13 move t94 g['11', 'false']
              (refine esk0 td_ok rfl rfl rfl rfl (r := .v _) rfl ?_ ?_; · exact fun hg => ⟨by (repeat' (first | exact trivial | exact hg | exact (Bool.and_eq_true_iff.mp hg).1 | apply And.intro)), by exact trivial⟩)
              -- op 20.14 indexAddr t95 g['11', 'false']
              (refine esk0 td_ok rfl rfl rfl rfl (r := .pp _ _) rfl ?_ ?_; · exact fun hg => ⟨by (repeat' (first | exact trivial | exact hg | exact (Bool.and_eq_true_iff.mp hg).1 | apply And.intro)), by ((repeat' with_reducible apply And.intro) <;> (first | omega | (simp only [toks_len, app_size, lit35, lit10, cond_true, cond_false, nd, Option.getD_none, Option.getD_some, Int.toNat_natCast, strs_len, nums_len, List.length_append, tds2, tds3, tds4, tds5, tds9, tds12, tds21, tds23, tds24, tds27, tds30, tds31, tds32, tds34, tds51, tds55, decide_eq_true_eq, Bool.and_eq_true, Bool.not_eq_true', decide_eq_false_iff_not] at *; omega)))⟩)
              -- op 20.15 fieldAddr t96 g['11', 'false']
              (refine esk0 td_ok rfl rfl rfl rfl (r := .pp _ _) rfl ?_ ?_; · exact fun hg => ⟨by (repeat' (first | exact trivial | exact hg | exact (Bool.and_eq_true_iff.mp hg).1 | apply And.intro)), by exact trivial⟩)
              -- op 20.16 load t97 g['11', 'false']
              refine esk td_ok rfl rfl rfl rfl (r := _) rfl (fun hg => ⟨by (repeat' (first | exact trivial | exact hg | exact (Bool.and_eq_true_iff.mp hg).1 | apply And.intro)), by ((repeat' with_reducible apply And.intro) <;> (simp only [toks_len, app_size, lit35, lit10, cond_true, cond_false, nd, Option.getD_none, Option.getD_some, Int.toNat_natCast, strs_len, nums_len, List.length_append, tds2, tds3, tds4, tds5, tds9, tds12, tds21, tds23, tds24, tds27, tds30, tds31, tds32, tds34, tds51, tds55, decide_eq_true_eq, Bool.and_eq_true, Bool.not_eq_true', decide_eq_false_iff_not] at *; omega)), (toks_text l j)⟩) ?_
              -- op 20.17 move t98 g['11', 'false']
              (refine esk0 td_ok rfl rfl rfl rfl (r := .sl _ _ _) rfl ?_ ?_; · exact fun hg => ⟨by (repeat' (first | exact trivial | exact hg | exact (Bool.and_eq_true_iff.mp hg).1 | apply And.intro)), by exact trivial⟩)
              -- op 20.18 move t99 g['11', 'false']
              (refine esk0 td_ok rfl rfl rfl rfl (r := .v _) rfl ?_ ?_; · exact fun hg => ⟨by (repeat' (first | exact trivial | exact hg | exact (Bool.and_eq_true_iff.mp hg).1 | apply And.intro)), by exact trivial⟩)
              -- op 20.19 indexAddr t100 g['11', 'false']
              (refine esk0 td_ok rfl rfl rfl rfl (r := .pp _ _) rfl ?_ ?_; · exact fun hg => ⟨by (repeat' (first | exact trivial | exact hg | exact (Bool.and_eq_true_iff.mp hg).1 | apply And.intro)), by ((repeat' with_reducible apply And.intro) <;> (first | omega | (simp only [toks_len, app_size, lit35, lit10, cond_true, cond_false, nd, Option.getD_none, Option.getD_some, Int.toNat_natCast, strs_len, nums_len, List.length_append, tds2, tds3, tds4, tds5, tds9, tds12, tds21, tds23, tds24, tds27, tds30, tds31, tds32, tds34, tds51, tds55, decide_eq_true_eq, Bool.and_eq_true, Bool.not_eq_true', decide_eq_false_iff_not] at *; omega)))⟩)
              -- op 20.20 fieldAddr t101 g['11', 'false']
              (refine esk0 td_ok rfl rfl rfl rfl (r := .pp _ _) rfl ?_ ?_; · exact fun hg => ⟨by (repeat' (first | exact trivial | exact hg | exact (Bool.and_eq_true_iff.mp hg).1 | apply And.intro)), by exact trivial⟩)
              -- op 20.21 load t102 g['11', 'false']
              refine esk td_ok rfl rfl rfl rfl (r := _) rfl (fun hg => ⟨by (repeat' (first | exact trivial | exact hg | exact (Bool.and_eq_true_iff.mp hg).1 | apply And.intro)), by ((repeat' with_reducible apply And.intro) <;> (simp only [toks_len, app_size, lit35, lit10, cond_true, cond_false, nd, Option.getD_none, Option.getD_some, Int.toNat_natCast, strs_len, nums_len, List.length_append, tds2, tds3, tds4, tds5, tds9, tds12, tds21, tds23, tds24, tds27, tds30, tds31, tds32, tds34, tds51, tds55, decide_eq_true_eq, Bool.and_eq_true, Bool.not_eq_true', decide_eq_false_iff_not] at *; omega)), ((toks_text l' j).trans (by rw [hk2]))⟩) ?_
              -- op 20.22 binOp t103 g['11', 'false']
              (refine esk0 td_ok rfl rfl rfl rfl (r := .v _) rfl ?_ ?_; · exact fun hg => ⟨by (repeat' (first | exact trivial | exact hg | exact (Bool.and_eq_true_iff.mp hg).1 | apply And.intro)), by exact trivial⟩)
              -- op 20.23 pick t104
              (refine es td_ok rfl rfl rfl (r := .v _) rfl ?_ (rfl) ?_; · first | (simp_all; done) | ((repeat' with_reducible apply And.intro) <;> with_reducible exact trivial))
              refine AOps_nil ?_
              refine qn ?_
              refine AWP_cond rfl rfl (fun h7 => ?_) (fun h7 => ?_)
              ·
                simp at h7
              ·
                refine AWP_skip ?_
                refine qbn ?_
                refine qn ?_
                refine AWP_region ?_
                -- op 22.0 binOp t105
                refine st_eq td_ok rfl rfl rfl rfl (r := .v _) rfl trivial (w64 (by omega)) ?_
                -- op 22.1 move t78
                refine st td_ok rfl rfl rfl rfl (r := .v _) rfl trivial ?_
                refine AOps_nil ?_
                -- back 2 (loop 18)
                refine qn ?_
                exact ⟨j + 1, by omega, by (repeat' (first | exact rfl | exact trivial | apply And.intro)), rfl, by omega⟩
            ·
              refine AWP_exit ?_
              refine qx ?_
              refine qx ?_
              refine qbh ?_
              refine qbn ?_
              refine qn ?_
              refine AWP_region ?_
              -- op 23.0 binOp t106
              refine st_eq td_ok rfl rfl rfl rfl (r := .v _) rfl trivial (w64 (by omega)) ?_
              -- op 23.1 move t51
              refine st td_ok rfl rfl rfl rfl (r := .v _) rfl trivial ?_
              refine AOps_nil ?_
              -- back 3 (loop 10)
              refine qn ?_
              exact ⟨q + 1, by omega, by (repeat' (first | exact rfl | exact trivial | apply And.intro)), rfl, by omega⟩
      ·
        refine AWP_exit ?_
        refine qx ?_
        refine qx ?_
        refine qbh ?_
        refine qn ?_
        refine AWP_seq ?_
        refine AWP_region ?_
        -- op 24.0 call t107
        refine st_pcall rfl rfl rfl rfl rfl rfl rfl ⟨_, rfl, rfl, rfl⟩ (by first | exact awake_c) ?_
        -- op 24.1 assign t4
        refine st td_ok rfl rfl rfl rfl (r := .v _) rfl trivial ?_
        refine AOps_nil ?_
        refine qn ?_
        refine AWP_ret ?_
        -- ret 2
        refine ⟨_, _, _, _, rfl, trivial, GS.forget _ _, ?_⟩
        first | show AV.v _ = _ | show AV.tup _ = _ | show AV.sl _ _ _ = _ | show AV.agg _ = _ | skip
        rfl
theorem joins_err (s cm : ByteArray) (hb : s.size < 2 ^ 47) (hb2 : cm.size < 2 ^ 47) (i : Nat) (e : Int) (hl : splitP s = .err i e) (he : e ≠ 0) : PCalls Try.prog 6 [.v (.string s), .v (.string cm)] (.v (.bool true)) := by
  refine calls_body td_ok Try.func6 rfl rfl rfl ?_
  refine AWP_seq ?_
  refine AWP_region ?_
  -- op 0.0 assign t4
  refine st td_ok rfl rfl rfl rfl (r := .v _) rfl trivial ?_
  refine AOps_nil ?_
  refine qn ?_
  refine AWP_seq ?_
  refine AWP_region ?_
  -- op 1.0 move t17
  refine st td_ok rfl rfl rfl rfl (r := .v _) rfl trivial ?_
  -- op 1.1 call t18
  refine st_pcall rfl rfl rfl rfl rfl rfl rfl ⟨_, rfl, rfl, rfl⟩ (split_err hb hl) ?_
  -- op 1.2 move t16
  refine st td_ok rfl rfl rfl rfl (r := .tup _) rfl trivial ?_
  -- op 1.3 extract t19
  refine st td_ok rfl rfl rfl rfl (r := .sl _ _ _) rfl trivial ?_
  -- op 1.4 extract t20
  refine st td_ok rfl rfl rfl rfl (r := .v _) rfl trivial ?_
  -- op 1.5 extract t21
  refine st td_ok rfl rfl rfl rfl (r := .v _) rfl trivial ?_
  -- op 1.6 assign t5
  refine st td_ok rfl rfl rfl rfl (r := .sl _ _ _) rfl trivial ?_
  -- op 1.7 assign t6
  refine st td_ok rfl rfl rfl rfl (r := .v _) rfl trivial ?_
  -- op 1.8 assign t7
  refine st td_ok rfl rfl rfl rfl (r := .v _) rfl trivial ?_
  refine AOps_nil ?_
  refine qn ?_
  refine AWP_seq ?_
  refine AWP_seq ?_
  refine AWP_region ?_
  -- op 2.0 move t22
  refine st td_ok rfl rfl rfl rfl (r := .v _) rfl trivial ?_
  -- op 2.1 binOp t23
  refine st td_ok rfl rfl rfl rfl (r := .v _) rfl trivial ?_
  -- op 2.2 move t24
  refine st td_ok rfl rfl rfl rfl (r := .v _) rfl trivial ?_
  -- op 2.3 move t25 g['2', 'false']
  (refine sgk0 td_ok rfl rfl rfl rfl rfl rfl (r := .sl _ _ _) rfl ?_ ?_; · exact fun hg => ⟨by (repeat' (first | exact trivial | exact hg | exact (Bool.and_eq_true_iff.mp hg).1 | apply And.intro)), by exact trivial⟩)
  -- op 2.4 call t26 g['2', 'false']
  (refine sgk0 td_ok rfl rfl rfl rfl rfl rfl (r := .v _) rfl ?_ ?_; · exact fun hg => ⟨by (repeat' (first | exact trivial | exact hg | exact (Bool.and_eq_true_iff.mp hg).1 | apply And.intro)), by exact trivial⟩)
  -- op 2.5 binOp t27 g['2', 'false']
  (refine sgk0 td_ok rfl rfl rfl rfl rfl rfl (r := .v _) rfl ?_ ?_; · exact fun hg => ⟨by (repeat' (first | exact trivial | exact hg | exact (Bool.and_eq_true_iff.mp hg).1 | apply And.intro)), by exact trivial⟩)
  -- op 2.6 pick t28
  (refine st td_ok rfl rfl rfl rfl (r := .v _) rfl ?_ ?_; · first | (simp_all; done) | ((repeat' with_reducible apply And.intro) <;> with_reducible exact trivial))
  -- op 2.7 move t29
  refine st td_ok rfl rfl rfl rfl (r := .v _) rfl trivial ?_
  -- op 2.8 move t30 g['7', 'false']
  (refine sgk0 td_ok rfl rfl rfl rfl rfl rfl (r := .v _) rfl ?_ ?_; · exact fun hg => ⟨by (repeat' (first | exact trivial | exact hg | exact (Bool.and_eq_true_iff.mp hg).1 | apply And.intro)), by exact trivial⟩)
  -- op 2.9 call t31 g['7', 'false']
  (refine sgk0 td_ok rfl rfl rfl rfl rfl rfl (r := .v _) rfl ?_ ?_; · exact fun hg => ⟨by (repeat' (first | exact trivial | exact hg | exact (Bool.and_eq_true_iff.mp hg).1 | apply And.intro)), by exact trivial⟩)
  -- op 2.10 binOp t32 g['7', 'false']
  (refine sgk0 td_ok rfl rfl rfl rfl rfl rfl (r := .v _) rfl ?_ ?_; · exact fun hg => ⟨by (repeat' (first | exact trivial | exact hg | exact (Bool.and_eq_true_iff.mp hg).1 | apply And.intro)), by exact trivial⟩)
  -- op 2.11 pick t33
  (refine st td_ok rfl rfl rfl rfl (r := .v _) rfl ?_ ?_; · first | (simp_all; done) | ((repeat' with_reducible apply And.intro) <;> with_reducible exact trivial))
  refine AOps_nil ?_
  refine qn ?_
  refine AWP_cond rfl rfl (fun h0 => ?_) (fun h0 => ?_)
  ·
    refine AWP_seq ?_
    refine AWP_region ?_
    -- op 3.0 call t34
    refine st_pcall rfl rfl rfl rfl rfl rfl rfl ⟨_, rfl, rfl, rfl⟩ (by first | exact awake_c) ?_
    -- op 3.1 assign t4
    refine st td_ok rfl rfl rfl rfl (r := .v _) rfl trivial ?_
    refine AOps_nil ?_
    refine qn ?_
    refine AWP_ret ?_
    refine qr ?_
    -- ret 0
    refine ⟨_, _, _, _, rfl, trivial, GS.forget _ _, ?_⟩
    first | show AV.v _ = _ | show AV.tup _ = _ | show AV.sl _ _ _ = _ | show AV.agg _ = _ | skip
    rfl
  ·
    (exfalso; rw [show (e != 0) = true by simpa using he] at h0; exact absurd h0 (by simp))
theorem split_size {s : ByteArray} {l : List Tok} (h : splitP s = .ok l) : s.size ≤ 16384 := by
  unfold splitP at h
  split at h
  · exact absurd h (by simp)
  · omega
theorem joins_c (s cm : ByteArray) (hb : s.size < 2 ^ 47) (hb2 : cm.size < 2 ^ 47) : PCalls Try.prog 6 [.v (.string s), .v (.string cm)] (.v (.bool true)) := by
  cases h : splitP s with
  | ok l =>
    obtain ⟨hg, _⟩ := split_good h
    obtain ⟨m, hm, hk⟩ := split_toks h
    have := split_size h
    refine joins_ok s cm hb hb2 l h (fun j hj => ?_) (fun sep x hs hx hz => split_join hs hm hk hx hz)
    have := (hg j hj).2.1
    omega
  | err i e => exact joins_err s cm hb hb2 i e h (split_ne h)
end Go.Proofs.Ytoiolofgcgkgiaa.V
