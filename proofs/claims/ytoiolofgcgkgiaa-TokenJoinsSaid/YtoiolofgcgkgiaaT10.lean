import Derived.Test.YtoiolofgcgkgiaaT9
namespace Go.Proofs.Ytoiolofgcgkgiaa.V
open Go
set_option linter.unusedSimpArgs false
set_option linter.unusedVariables false

theorem errors_ok (s : ByteArray) (hb : s.size < 2 ^ 47) (l : List Tok) (hl : splitP s = .ok l) : PCalls Try.prog 7 [.v (.string s)] (.v (.bool true)) := by
  refine calls_body td_ok Try.func7 rfl rfl rfl ?_
  refine AWP_seq ?_
  refine AWP_region ?_
  -- op 0.0 assign t2
  refine st td_ok rfl rfl rfl rfl (r := .v _) rfl trivial ?_
  refine AOps_nil ?_
  refine qn ?_
  refine AWP_seq ?_
  refine AWP_region ?_
  -- op 1.0 move t10
  refine st td_ok rfl rfl rfl rfl (r := .v _) rfl trivial ?_
  -- op 1.1 call t11
  refine st_pcall rfl rfl rfl rfl rfl rfl rfl ⟨_, rfl, rfl, rfl⟩ (split_ok hb hl) ?_
  -- op 1.2 move t9
  refine st td_ok rfl rfl rfl rfl (r := .tup _) rfl trivial ?_
  -- op 1.3 extract t12
  refine st td_ok rfl rfl rfl rfl (r := .sl _ _ _) rfl trivial ?_
  -- op 1.4 extract t13
  refine st td_ok rfl rfl rfl rfl (r := .v _) rfl trivial ?_
  -- op 1.5 extract t14
  refine st td_ok rfl rfl rfl rfl (r := .v _) rfl trivial ?_
  -- op 1.6 assign t3
  refine st td_ok rfl rfl rfl rfl (r := .sl _ _ _) rfl trivial ?_
  -- op 1.7 assign t4
  refine st td_ok rfl rfl rfl rfl (r := .v _) rfl trivial ?_
  -- op 1.8 assign t5
  refine st td_ok rfl rfl rfl rfl (r := .v _) rfl trivial ?_
  refine AOps_nil ?_
  refine qn ?_
  refine AWP_seq ?_
  refine AWP_seq ?_
  refine AWP_region ?_
  -- op 2.0 move t15
  refine st td_ok rfl rfl rfl rfl (r := .v _) rfl trivial ?_
  -- op 2.1 binOp t16
  refine st td_ok rfl rfl rfl rfl (r := .v _) rfl trivial ?_
  -- op 2.2 move t17
  refine st td_ok rfl rfl rfl rfl (r := .v _) rfl trivial ?_
  -- op 2.3 move t18 g['2', 'false']
  (refine sgk0 td_ok rfl rfl rfl rfl rfl rfl (r := .v _) rfl ?_ ?_; · exact fun hg => ⟨by (repeat' (first | exact trivial | exact hg | exact (Bool.and_eq_true_iff.mp hg).1 | apply And.intro)), by exact trivial⟩)
  -- op 2.4 call t19 g['2', 'false']
  (refine sgk0 td_ok rfl rfl rfl rfl rfl rfl (r := .v _) rfl ?_ ?_; · exact fun hg => ⟨by (repeat' (first | exact trivial | exact hg | exact (Bool.and_eq_true_iff.mp hg).1 | apply And.intro)), by exact trivial⟩)
  -- op 2.5 binOp t20 g['2', 'false']
  (refine sgk0 td_ok rfl rfl rfl rfl rfl rfl (r := .v _) rfl ?_ ?_; · exact fun hg => ⟨by (repeat' (first | exact trivial | exact hg | exact (Bool.and_eq_true_iff.mp hg).1 | apply And.intro)), by exact trivial⟩)
  -- op 2.6 pick t21
  (refine st td_ok rfl rfl rfl rfl (r := .v _) rfl ?_ ?_; · first | (simp_all; done) | ((repeat' with_reducible apply And.intro) <;> with_reducible exact trivial))
  refine AOps_nil ?_
  refine qn ?_
  refine AWP_cond rfl rfl (fun h0 => ?_) (fun h0 => ?_)
  ·
    refine AWP_seq ?_
    refine AWP_region ?_
    -- op 3.0 call t22
    refine st_pcall rfl rfl rfl rfl rfl rfl rfl ⟨_, rfl, rfl, rfl⟩ (by first | exact awake_c) ?_
    -- op 3.1 assign t2
    refine st td_ok rfl rfl rfl rfl (r := .v _) rfl trivial ?_
    refine AOps_nil ?_
    refine qn ?_
    refine AWP_ret ?_
    refine qr ?_
    -- ret 0
    refine ⟨_, _, _, _, rfl, trivial, GS.forget _ _, ?_⟩
    first | show AV.v _ = _ | show AV.tup _ = _ | show AV.sl _ _ _ = _ | show AV.agg _ = _ | skip
    rfl
  ·
    simp at h0
theorem errors_err (s : ByteArray) (hb : s.size < 2 ^ 47) (i : Nat) (e : Int) (hl : splitP s = .err i e) (he : e ≠ 0) (hi : s.size ≤ 16384 → i < s.size ∧ ∃ l, splitP (s.extract 0 i) = .ok l) : PCalls Try.prog 7 [.v (.string s)] (.v (.bool true)) := by
  refine calls_body td_ok Try.func7 rfl rfl rfl ?_
  refine AWP_seq ?_
  refine AWP_region ?_
  -- op 0.0 assign t2
  refine st td_ok rfl rfl rfl rfl (r := .v _) rfl trivial ?_
  refine AOps_nil ?_
  refine qn ?_
  refine AWP_seq ?_
  refine AWP_region ?_
  -- op 1.0 move t10
  refine st td_ok rfl rfl rfl rfl (r := .v _) rfl trivial ?_
  -- op 1.1 call t11
  refine st_pcall rfl rfl rfl rfl rfl rfl rfl ⟨_, rfl, rfl, rfl⟩ (split_err hb hl) ?_
  -- op 1.2 move t9
  refine st td_ok rfl rfl rfl rfl (r := .tup _) rfl trivial ?_
  -- op 1.3 extract t12
  refine st td_ok rfl rfl rfl rfl (r := .sl _ _ _) rfl trivial ?_
  -- op 1.4 extract t13
  refine st td_ok rfl rfl rfl rfl (r := .v _) rfl trivial ?_
  -- op 1.5 extract t14
  refine st td_ok rfl rfl rfl rfl (r := .v _) rfl trivial ?_
  -- op 1.6 assign t3
  refine st td_ok rfl rfl rfl rfl (r := .sl _ _ _) rfl trivial ?_
  -- op 1.7 assign t4
  refine st td_ok rfl rfl rfl rfl (r := .v _) rfl trivial ?_
  -- op 1.8 assign t5
  refine st td_ok rfl rfl rfl rfl (r := .v _) rfl trivial ?_
  refine AOps_nil ?_
  refine qn ?_
  refine AWP_seq ?_
  refine AWP_seq ?_
  refine AWP_region ?_
  -- op 2.0 move t15
  refine st td_ok rfl rfl rfl rfl (r := .v _) rfl trivial ?_
  -- op 2.1 binOp t16
  refine st td_ok rfl rfl rfl rfl (r := .v _) rfl trivial ?_
  -- op 2.2 move t17
  refine st td_ok rfl rfl rfl rfl (r := .v _) rfl trivial ?_
  -- op 2.3 move t18 g['2', 'false']
  (refine sgk0 td_ok rfl rfl rfl rfl rfl rfl (r := .v _) rfl ?_ ?_; · exact fun hg => ⟨by (repeat' (first | exact trivial | exact hg | exact (Bool.and_eq_true_iff.mp hg).1 | apply And.intro)), by exact trivial⟩)
  -- op 2.4 call t19 g['2', 'false']
  (refine sgk0 td_ok rfl rfl rfl rfl rfl rfl (r := .v _) rfl ?_ ?_; · exact fun hg => ⟨by (repeat' (first | exact trivial | exact hg | exact (Bool.and_eq_true_iff.mp hg).1 | apply And.intro)), by exact trivial⟩)
  -- op 2.5 binOp t20 g['2', 'false']
  (refine sgk0 td_ok rfl rfl rfl rfl rfl rfl (r := .v _) rfl ?_ ?_; · exact fun hg => ⟨by (repeat' (first | exact trivial | exact hg | exact (Bool.and_eq_true_iff.mp hg).1 | apply And.intro)), by exact trivial⟩)
  -- op 2.6 pick t21
  (refine st td_ok rfl rfl rfl rfl (r := .v _) rfl ?_ ?_; · first | (simp_all; done) | ((repeat' with_reducible apply And.intro) <;> with_reducible exact trivial))
  refine AOps_nil ?_
  refine qn ?_
  refine AWP_cond rfl rfl (fun h0 => ?_) (fun h0 => ?_)
  ·
    refine AWP_seq ?_
    refine AWP_region ?_
    -- op 3.0 call t22
    refine st_pcall rfl rfl rfl rfl rfl rfl rfl ⟨_, rfl, rfl, rfl⟩ (by first | exact awake_c) ?_
    -- op 3.1 assign t2
    refine st td_ok rfl rfl rfl rfl (r := .v _) rfl trivial ?_
    refine AOps_nil ?_
    refine qn ?_
    refine AWP_ret ?_
    refine qr ?_
    -- ret 0
    refine ⟨_, _, _, _, rfl, trivial, GS.forget _ _, ?_⟩
    first | show AV.v _ = _ | show AV.tup _ = _ | show AV.sl _ _ _ = _ | show AV.agg _ = _ | skip
    rfl
  ·
    have h0' : s.size ≤ 16384 := by
      have e0 : (e == 0) = false := by simpa using he
      rw [e0] at h0
      simp only [cond_false, decide_eq_false_iff_not] at h0
      omega
    obtain ⟨hi1, l, hi2⟩ := hi h0'
    clear hi
    refine AWP_skip ?_
    refine qn ?_
    refine AWP_seq ?_
    refine AWP_seq ?_
    refine AWP_region ?_
    -- op 4.0 move t23
    refine st td_ok rfl rfl rfl rfl (r := .sl _ _ _) rfl trivial ?_
    -- op 4.1 call t24
    refine st td_ok rfl rfl rfl rfl (r := .v _) rfl trivial ?_
    -- op 4.2 binOp t25
    refine st td_ok rfl rfl rfl rfl (r := .v _) rfl trivial ?_
    -- op 4.3 move t26
    refine st td_ok rfl rfl rfl rfl (r := .v _) rfl trivial ?_
    -- op 4.4 move t27 g['3', 'false']
    (refine sgk0 td_ok rfl rfl rfl rfl rfl rfl (r := .v _) rfl ?_ ?_; · exact fun hg => ⟨by (repeat' (first | exact trivial | exact hg | exact (Bool.and_eq_true_iff.mp hg).1 | apply And.intro)), by exact trivial⟩)
    -- op 4.5 binOp t28 g['3', 'false']
    (refine sgk0 td_ok rfl rfl rfl rfl rfl rfl (r := .v _) rfl ?_ ?_; · exact fun hg => ⟨by (repeat' (first | exact trivial | exact hg | exact (Bool.and_eq_true_iff.mp hg).1 | apply And.intro)), by exact trivial⟩)
    -- op 4.6 pick t29
    (refine st td_ok rfl rfl rfl rfl (r := .v _) rfl ?_ ?_; · first | (simp_all; done) | ((repeat' with_reducible apply And.intro) <;> with_reducible exact trivial))
    -- op 4.7 move t30
    refine st td_ok rfl rfl rfl rfl (r := .v _) rfl trivial ?_
    -- op 4.8 move t31 g['7', 'false']
    (refine sgk0 td_ok rfl rfl rfl rfl rfl rfl (r := .v _) rfl ?_ ?_; · exact fun hg => ⟨by (repeat' (first | exact trivial | exact hg | exact (Bool.and_eq_true_iff.mp hg).1 | apply And.intro)), by exact trivial⟩)
    -- op 4.9 move t32 g['7', 'false']
    (refine sgk0 td_ok rfl rfl rfl rfl rfl rfl (r := .v _) rfl ?_ ?_; · exact fun hg => ⟨by (repeat' (first | exact trivial | exact hg | exact (Bool.and_eq_true_iff.mp hg).1 | apply And.intro)), by exact trivial⟩)
    -- op 4.10 call t33 g['7', 'false']
    (refine sgk0 td_ok rfl rfl rfl rfl rfl rfl (r := .v _) rfl ?_ ?_; · exact fun hg => ⟨by (repeat' (first | exact trivial | exact hg | exact (Bool.and_eq_true_iff.mp hg).1 | apply And.intro)), by exact trivial⟩)
    -- op 4.11 binOp t34 g['7', 'false']
    (refine sgk0 td_ok rfl rfl rfl rfl rfl rfl (r := .v _) rfl ?_ ?_; · exact fun hg => ⟨by (repeat' (first | exact trivial | exact hg | exact (Bool.and_eq_true_iff.mp hg).1 | apply And.intro)), by exact trivial⟩)
    -- op 4.12 pick t35
    (refine st td_ok rfl rfl rfl rfl (r := .v _) rfl ?_ ?_; · first | (simp_all; done) | ((repeat' with_reducible apply And.intro) <;> with_reducible exact trivial))
    refine AOps_nil ?_
    refine qn ?_
    refine AWP_cond rfl rfl (fun h1 => ?_) (fun h1 => ?_)
    ·
      simp at h1; omega
    ·
      refine AWP_skip ?_
      refine qn ?_
      refine AWP_seq ?_
      refine AWP_region ?_
      -- op 6.0 move t37
      refine st td_ok rfl rfl rfl rfl (r := .v _) rfl trivial ?_
      -- op 6.1 move t38
      refine st td_ok rfl rfl rfl rfl (r := .v _) rfl trivial ?_
      -- op 6.2 slice t39
      (refine st td_ok rfl rfl rfl rfl (r := .v _) rfl ?_ ?_; · ((repeat' with_reducible apply And.intro) <;> (first | with_reducible exact trivial | omega | exact Nat.le_of_ble_eq_true rfl)))
      -- op 6.3 call t40
      refine st_pcall rfl rfl rfl rfl rfl rfl rfl ⟨_, rfl, rfl, rfl⟩ (split_ok (s := s.extract 0 i) (by simp only [ByteArray.size_extract]; omega) hi2) ?_
      -- op 6.4 move t36
      refine st td_ok rfl rfl rfl rfl (r := .tup _) rfl trivial ?_
      -- op 6.5 extract t41
      refine st td_ok rfl rfl rfl rfl (r := .sl _ _ _) rfl trivial ?_
      -- op 6.6 extract t42
      refine st td_ok rfl rfl rfl rfl (r := .v _) rfl trivial ?_
      -- op 6.7 extract t43
      refine st td_ok rfl rfl rfl rfl (r := .v _) rfl trivial ?_
      -- op 6.8 assign t6
      refine st td_ok rfl rfl rfl rfl (r := .sl _ _ _) rfl trivial ?_
      -- op 6.9 assign t7
      refine st td_ok rfl rfl rfl rfl (r := .v _) rfl trivial ?_
      -- op 6.10 assign t8
      refine st td_ok rfl rfl rfl rfl (r := .v _) rfl trivial ?_
      refine AOps_nil ?_
      refine qn ?_
      refine AWP_seq ?_
      refine AWP_region ?_
      -- op 7.0 move t44
      refine st td_ok rfl rfl rfl rfl (r := .v _) rfl trivial ?_
      -- op 7.1 binOp t45
      refine st td_ok rfl rfl rfl rfl (r := .v _) rfl trivial ?_
      -- op 7.2 move t46
      refine st td_ok rfl rfl rfl rfl (r := .v _) rfl trivial ?_
      -- op 7.3 call t47 g['2', 'true']
      refine stg_call rfl rfl rfl rfl rfl rfl rfl rfl (fun hg => ⟨by (repeat' (first | exact trivial | exact hg | exact (Bool.and_eq_true_iff.mp hg).1 | apply And.intro)), rfl, ⟨_, rfl, rfl, rfl⟩, (by first | exact awake_c)⟩) ?_
      -- op 7.4 pick t48
      (refine st td_ok rfl rfl rfl rfl (r := .v _) rfl ?_ ?_; · exact (fun h => h))
      -- op 7.5 assign t2
      refine st td_ok rfl rfl rfl rfl (r := .v _) rfl trivial ?_
      refine AOps_nil ?_
      refine qn ?_
      refine AWP_ret ?_
      -- ret 1
      refine ⟨_, _, _, _, rfl, trivial, GS.forget _ _, ?_⟩
      first | show AV.v _ = _ | show AV.tup _ = _ | show AV.sl _ _ _ = _ | show AV.agg _ = _ | skip
      rfl
theorem errors_c (s : ByteArray) (hb : s.size < 2 ^ 47) : PCalls Try.prog 7 [.v (.string s)] (.v (.bool true)) := by
  cases h : splitP s with
  | ok l => exact errors_ok s hb l h
  | err i e =>
    refine errors_err s hb i e h ?_ (fun hs => ⟨(split_prefix h hs).1, (split_prefix h hs).2.2⟩)
    by_cases hs : s.size ≤ 16384
    · exact (split_prefix h hs).2.1
    · unfold splitP at h
      rw [if_pos (by omega)] at h
      simp only [LR.err.injEq] at h
      rw [← h.2]; decide
theorem toks_all (l : List Tok) (j : Nat) : AV.agg (cellsAt (toks l) (j * 3) 3 [.int .i64 0, .string ⟨#[]⟩, .int .i64 0]) = .agg [.v (.int .i64 (l.getD j tok0).kind), .v (.string (l.getD j tok0).text), .v (.int .i64 (l.getD j tok0).pos)] :=
  congrArg AV.agg (flat_at Tok.cells tok0 cells_len rfl l j (by decide))
theorem ext_self {s t : ByteArray} {a b : Int} {x y : Nat} (ha : a = x) (hb : b = y) (h : s.extract x y = t) : ((s.extract a.toNat b.toNat).toList != t.toList) = false := by
  subst ha hb
  rw [Int.toNat_natCast, Int.toNat_natCast, h]; simp
theorem place_no {s t : ByteArray} {at_ p : Nat} (g1 : at_ ≤ p) (g2 : p + t.size ≤ s.size) (g3 : s.extract p (p + t.size) = t) (h : (bif (bif decide ((p : Int) < at_) then true else decide ((p : Int) + t.size > s.size)) then true else (s.extract p (p + t.size)).toList != t.toList) = true) : False := by
  rw [decide_eq_false (show ¬ (p : Int) < at_ by omega), decide_eq_false (show ¬ (p : Int) + t.size > s.size by omega), g3] at h
  simp at h
set_option maxRecDepth 20000 in
theorem places_ok (s : ByteArray) (hb : s.size < 2 ^ 47) (l : List Tok) (hl : splitP s = .ok l) (m : List Tok) (hm : l = m ++ [⟨6, ⟨#[]⟩, s.size⟩]) (hg : good s l) : PCalls Try.prog 5 [.v (.string s)] (.v (.bool true)) := by
  refine calls_body td_ok Try.func5 rfl rfl rfl ?_
  refine AWP_seq ?_
  have hll := split_len hl
  have hl1 : 1 ≤ l.length := by rw [hm]; simp
  have hlast : l.getD (l.length - 1) tok0 = ⟨6, ⟨#[]⟩, s.size⟩ := by
    have e : l.length - 1 = m.length := by rw [hm]; simp
    rw [e, hm, getD_last]
  refine AWP_region ?_
  -- op 0.0 assign t2
  refine st td_ok rfl rfl rfl rfl (r := .v _) rfl trivial ?_
  refine AOps_nil ?_
  refine qn ?_
  refine AWP_seq ?_
  refine AWP_region ?_
  -- op 1.0 move t10
  refine st td_ok rfl rfl rfl rfl (r := .v _) rfl trivial ?_
  -- op 1.1 call t11
  refine st_pcall rfl rfl rfl rfl rfl rfl rfl ⟨_, rfl, rfl, rfl⟩ (split_ok hb hl) ?_
  -- op 1.2 move t9
  refine st td_ok rfl rfl rfl rfl (r := .tup _) rfl trivial ?_
  -- op 1.3 extract t12
  refine st td_ok rfl rfl rfl rfl (r := .sl _ _ _) rfl trivial ?_
  -- op 1.4 extract t13
  refine st td_ok rfl rfl rfl rfl (r := .v _) rfl trivial ?_
  -- op 1.5 extract t14
  refine st td_ok rfl rfl rfl rfl (r := .v _) rfl trivial ?_
  -- op 1.6 assign t3
  refine st td_ok rfl rfl rfl rfl (r := .sl _ _ _) rfl trivial ?_
  -- op 1.7 assign t4
  refine st td_ok rfl rfl rfl rfl (r := .v _) rfl trivial ?_
  -- op 1.8 assign t5
  refine st td_ok rfl rfl rfl rfl (r := .v _) rfl trivial ?_
  refine AOps_nil ?_
  refine qn ?_
  refine AWP_seq ?_
  refine AWP_seq ?_
  refine AWP_region ?_
  -- op 2.0 move t15
  refine st td_ok rfl rfl rfl rfl (r := .v _) rfl trivial ?_
  -- op 2.1 binOp t16
  refine st td_ok rfl rfl rfl rfl (r := .v _) rfl trivial ?_
  refine AOps_nil ?_
  refine qn ?_
  refine AWP_cond rfl rfl (fun h0 => ?_) (fun h0 => ?_)
  ·
    simp at h0
  ·
    clear h0
    refine AWP_skip ?_
    refine qn ?_
    refine AWP_seq ?_
    refine AWP_region ?_
    -- op 4.0 assign t6
    refine st td_ok rfl rfl rfl rfl (r := .v _) rfl trivial ?_
    refine AOps_nil ?_
    refine qn ?_
    refine AWP_seq ?_
    refine AWP_seq ?_
    refine AWP_region ?_
    -- op 5.0 move t18
    refine st td_ok rfl rfl rfl rfl (r := .sl _ _ _) rfl trivial ?_
    -- op 5.1 call t19
    refine st td_ok rfl rfl rfl rfl (r := .v _) rfl trivial ?_
    -- op 5.2 move t20
    refine st td_ok rfl rfl rfl rfl (r := .v _) rfl trivial ?_
    refine AOps_nil ?_
    refine qn ?_
    refine AWP_block ?_
    -- loop: live [0, 3, 6, 18, 19, 20]
    refine AWP_for (fun (j : Nat) => [(0, .v (.string s)), (3, .sl false l.length (toks l)), (6, .v (.int .i64 (endN l j))), (18, .sl false l.length (toks l)), (19, .v (.int .i64 l.length)), (20, .v (.int .i64 j))]) (fun j X => j ≤ l.length ∧ endN l j ≤ s.size) (fun j => l.length - j) 0 ⟨by (repeat' (first | exact rfl | exact trivial | apply And.intro)), ⟨by omega, Nat.zero_le _⟩⟩ ?_
    rintro j X ⟨hj, hend⟩
    refine AWP_seq ?_
    refine AWP_region ?_
    -- op 6.0 binOp t21
    refine st td_ok rfl rfl rfl rfl (r := .v _) rfl trivial ?_
    refine AOps_nil ?_
    refine qn ?_
    refine AWP_seq ?_
    refine AWP_cond rfl rfl (fun h1 => ?_) (fun h1 => ?_)
    ·
      refine AWP_skip ?_
      refine qn ?_
      refine AWP_seq ?_
      refine AWP_block ?_
      refine AWP_seq ?_
      have hlt : j < l.length := Int.ofNat_lt.mp (of_decide_eq_true h1)
      obtain ⟨g1, g2, g3⟩ := hg j hlt
      refine AWP_region ?_
      -- op 7.0 indexAddr t22
      (refine st td_ok rfl rfl rfl rfl (r := .pp _ _) rfl ?_ ?_; · ((repeat' with_reducible apply And.intro) <;> (first | omega | (simp only [toks_len, cond_true, cond_false, nd, Option.getD_none, Option.getD_some, Int.toNat_natCast, strs_len, nums_len, List.length_append, tds2, tds3, tds4, tds5, tds9, tds12, tds21, tds23, tds24, tds27, tds30, tds31, tds32, tds34, tds51, tds55, decide_eq_true_eq, Bool.and_eq_true, Bool.not_eq_true', decide_eq_false_iff_not] at *; omega))))
      -- op 7.1 load t23
      (refine st_eq td_ok rfl rfl rfl rfl (r := _) rfl ?_ ((toks_all l j)) ?_; · ((repeat' with_reducible apply And.intro) <;> (simp only [toks_len, cond_true, cond_false, nd, Option.getD_none, Option.getD_some, Int.toNat_natCast, strs_len, nums_len, List.length_append, tds2, tds3, tds4, tds5, tds9, tds12, tds21, tds23, tds24, tds27, tds30, tds31, tds32, tds34, tds51, tds55, decide_eq_true_eq, Bool.and_eq_true, Bool.not_eq_true', decide_eq_false_iff_not] at *; omega)))
      -- op 7.2 alloc t8
      refine st_alloc td_ok rfl rfl rfl rfl rfl rfl (zs := [.v _, .v _, .v _]) rfl fun r8 hr8 => ?_
      -- op 7.3 store tNone
      refine st_store td_ok rfl rfl rfl rfl rfl rfl XH.put_same rfl (by ((repeat' with_reducible apply And.intro) <;> exact rfl)) (Nat.le_of_ble_eq_true rfl) (cs' := [.v _, .v _, .v _]) (T' := 31) rfl rfl ?_
      refine AOps_nil ?_
      refine qn ?_
      refine AWP_seq ?_
      refine AWP_seq ?_
      refine AWP_drawn rfl rfl rfl rfl ?_
      -- op 8.0 fieldAddr t24
      refine es td_ok rfl rfl rfl (r := .v _) rfl trivial (rfl) ?_
      -- op 8.1 load t25
      refine es_own (r := .v _) td_ok rfl rfl rfl rfl rfl rfl XH.put_same (Nat.le_of_ble_eq_true rfl) rfl ?_
      -- op 8.2 move t26
      refine es td_ok rfl rfl rfl (r := .v _) rfl trivial (rfl) ?_
      -- op 8.3 binOp t27
      refine es td_ok rfl rfl rfl (r := .v _) rfl trivial (rfl) ?_
      -- op 8.4 move t28
      refine es td_ok rfl rfl rfl (r := .v _) rfl trivial (rfl) ?_
      -- op 8.5 fieldAddr t29 g['4', 'false']
      (refine esk0 td_ok rfl rfl rfl rfl (r := .v _) rfl ?_ ?_; · exact fun hg => ⟨by (repeat' (first | exact trivial | exact hg | exact (Bool.and_eq_true_iff.mp hg).1 | apply And.intro)), by exact trivial⟩)
      -- op 8.6 load t30 g['4', 'false']
      refine esk_own (r := .v _) td_ok rfl rfl rfl rfl rfl rfl rfl XH.put_same (fun hg => by (repeat' (first | exact trivial | exact hg | exact (Bool.and_eq_true_iff.mp hg).1 | apply And.intro))) (Nat.le_of_ble_eq_true rfl) rfl ?_
      -- op 8.7 fieldAddr t31 g['4', 'false']
      (refine esk0 td_ok rfl rfl rfl rfl (r := .v _) rfl ?_ ?_; · exact fun hg => ⟨by (repeat' (first | exact trivial | exact hg | exact (Bool.and_eq_true_iff.mp hg).1 | apply And.intro)), by exact trivial⟩)
      -- op 8.8 load t32 g['4', 'false']
      refine esk_own (r := .v _) td_ok rfl rfl rfl rfl rfl rfl rfl XH.put_same (fun hg => by (repeat' (first | exact trivial | exact hg | exact (Bool.and_eq_true_iff.mp hg).1 | apply And.intro))) (Nat.le_of_ble_eq_true rfl) rfl ?_
      -- op 8.9 call t33 g['4', 'false']
      (refine esk0 td_ok rfl rfl rfl rfl (r := .v _) rfl ?_ ?_; · exact fun hg => ⟨by (repeat' (first | exact trivial | exact hg | exact (Bool.and_eq_true_iff.mp hg).1 | apply And.intro)), by exact trivial⟩)
      -- op 8.10 binOp t34 g['4', 'false']
      (refine eske td_ok rfl rfl rfl rfl (r := .v _) rfl (w64 (by omega)) ?_ ?_; · exact fun hg => ⟨by (repeat' (first | exact trivial | exact hg | exact (Bool.and_eq_true_iff.mp hg).1 | apply And.intro)), trivial⟩)
      -- op 8.11 move t35 g['4', 'false']
      (refine esk0 td_ok rfl rfl rfl rfl (r := .v _) rfl ?_ ?_; · exact fun hg => ⟨by (repeat' (first | exact trivial | exact hg | exact (Bool.and_eq_true_iff.mp hg).1 | apply And.intro)), by exact trivial⟩)
      -- op 8.12 call t36 g['4', 'false']
      (refine esk0 td_ok rfl rfl rfl rfl (r := .v _) rfl ?_ ?_; · exact fun hg => ⟨by (repeat' (first | exact trivial | exact hg | exact (Bool.and_eq_true_iff.mp hg).1 | apply And.intro)), by exact trivial⟩)
      -- op 8.13 binOp t37 g['4', 'false']
      (refine esk0 td_ok rfl rfl rfl rfl (r := .v _) rfl ?_ ?_; · exact fun hg => ⟨by (repeat' (first | exact trivial | exact hg | exact (Bool.and_eq_true_iff.mp hg).1 | apply And.intro)), by exact trivial⟩)
      -- op 8.14 pick t38
      (refine es td_ok rfl rfl rfl (r := .v _) rfl ?_ (rfl) ?_; · first | (simp_all; done) | ((repeat' with_reducible apply And.intro) <;> with_reducible exact trivial))
      -- op 8.15 move t39
      refine es td_ok rfl rfl rfl (r := .v _) rfl trivial (rfl) ?_
      -- op 8.16 move t40 g['15', 'false']
      (refine esk0 td_ok rfl rfl rfl rfl (r := .v _) rfl ?_ ?_; · exact fun hg => ⟨by (repeat' (first | exact trivial | exact hg | exact (Bool.and_eq_true_iff.mp hg).1 | apply And.intro)), by exact trivial⟩)
      -- op 8.17 fieldAddr t41 g['15', 'false']
      (refine esk0 td_ok rfl rfl rfl rfl (r := .v _) rfl ?_ ?_; · exact fun hg => ⟨by (repeat' (first | exact trivial | exact hg | exact (Bool.and_eq_true_iff.mp hg).1 | apply And.intro)), by exact trivial⟩)
      -- op 8.18 load t42 g['15', 'false']
      refine esk_own (r := .v _) td_ok rfl rfl rfl rfl rfl rfl rfl XH.put_same (fun hg => by (repeat' (first | exact trivial | exact hg | exact (Bool.and_eq_true_iff.mp hg).1 | apply And.intro))) (Nat.le_of_ble_eq_true rfl) rfl ?_
      -- op 8.19 fieldAddr t43 g['15', 'false']
      (refine esk0 td_ok rfl rfl rfl rfl (r := .v _) rfl ?_ ?_; · exact fun hg => ⟨by (repeat' (first | exact trivial | exact hg | exact (Bool.and_eq_true_iff.mp hg).1 | apply And.intro)), by exact trivial⟩)
      -- op 8.20 load t44 g['15', 'false']
      refine esk_own (r := .v _) td_ok rfl rfl rfl rfl rfl rfl rfl XH.put_same (fun hg => by (repeat' (first | exact trivial | exact hg | exact (Bool.and_eq_true_iff.mp hg).1 | apply And.intro))) (Nat.le_of_ble_eq_true rfl) rfl ?_
      -- op 8.21 fieldAddr t45 g['15', 'false']
      (refine esk0 td_ok rfl rfl rfl rfl (r := .v _) rfl ?_ ?_; · exact fun hg => ⟨by (repeat' (first | exact trivial | exact hg | exact (Bool.and_eq_true_iff.mp hg).1 | apply And.intro)), by exact trivial⟩)
      -- op 8.22 load t46 g['15', 'false']
      refine esk_own (r := .v _) td_ok rfl rfl rfl rfl rfl rfl rfl XH.put_same (fun hg => by (repeat' (first | exact trivial | exact hg | exact (Bool.and_eq_true_iff.mp hg).1 | apply And.intro))) (Nat.le_of_ble_eq_true rfl) rfl ?_
      -- op 8.23 call t47 g['15', 'false']
      (refine esk0 td_ok rfl rfl rfl rfl (r := .v _) rfl ?_ ?_; · exact fun hg => ⟨by (repeat' (first | exact trivial | exact hg | exact (Bool.and_eq_true_iff.mp hg).1 | apply And.intro)), by exact trivial⟩)
      -- op 8.24 binOp t48 g['15', 'false']
      (refine eske td_ok rfl rfl rfl rfl (r := .v _) rfl (w64 (by omega)) ?_ ?_; · exact fun hg => ⟨by (repeat' (first | exact trivial | exact hg | exact (Bool.and_eq_true_iff.mp hg).1 | apply And.intro)), trivial⟩)
      -- op 8.25 slice t49 g['15', 'false']
      (refine esk0 td_ok rfl rfl rfl rfl (r := .v _) rfl ?_ ?_; · exact fun hg => ⟨by (repeat' (first | exact trivial | exact hg | exact (Bool.and_eq_true_iff.mp hg).1 | apply And.intro)), by ((repeat' with_reducible apply And.intro) <;> (first | omega | (simp only [toks_len, cond_true, cond_false, nd, Option.getD_none, Option.getD_some, Int.toNat_natCast, strs_len, nums_len, List.length_append, tds2, tds3, tds4, tds5, tds9, tds12, tds21, tds23, tds24, tds27, tds30, tds31, tds32, tds34, tds51, tds55, decide_eq_true_eq, Bool.and_eq_true, Bool.not_eq_true', decide_eq_false_iff_not] at *; omega)))⟩)
      -- op 8.26 fieldAddr t50 g['15', 'false']
      (refine esk0 td_ok rfl rfl rfl rfl (r := .v _) rfl ?_ ?_; · exact fun hg => ⟨by (repeat' (first | exact trivial | exact hg | exact (Bool.and_eq_true_iff.mp hg).1 | apply And.intro)), by exact trivial⟩)
      -- op 8.27 load t51 g['15', 'false']
      refine esk_own (r := .v _) td_ok rfl rfl rfl rfl rfl rfl rfl XH.put_same (fun hg => by (repeat' (first | exact trivial | exact hg | exact (Bool.and_eq_true_iff.mp hg).1 | apply And.intro))) (Nat.le_of_ble_eq_true rfl) rfl ?_
      -- op 8.28 binOp t52 g['15', 'false']
      (refine esk0 td_ok rfl rfl rfl rfl (r := .v _) rfl ?_ ?_; · exact fun hg => ⟨by (repeat' (first | exact trivial | exact hg | exact (Bool.and_eq_true_iff.mp hg).1 | apply And.intro)), by exact trivial⟩)
      -- op 8.29 pick t53
      (refine es td_ok rfl rfl rfl (r := .v _) rfl ?_ (rfl) ?_; · first | (simp_all; done) | ((repeat' with_reducible apply And.intro) <;> with_reducible exact trivial))
      refine AOps_nil ?_
      refine qn ?_
      refine AWP_cond rfl rfl (fun h2 => ?_) (fun h2 => ?_)
      ·
        (exfalso; exact place_no g1 g2 g3 h2)
      ·
        refine AWP_skip ?_
        refine qn ?_
        refine AWP_region ?_
        -- op 10.0 fieldAddr t54
        refine st td_ok rfl rfl rfl rfl (r := .v _) rfl trivial ?_
        -- op 10.1 load t55
        refine st_own (r := .v _) td_ok rfl rfl rfl rfl rfl rfl rfl XH.put_same (Nat.le_of_ble_eq_true rfl) rfl  ?_
        -- op 10.2 fieldAddr t56
        refine st td_ok rfl rfl rfl rfl (r := .v _) rfl trivial ?_
        -- op 10.3 load t57
        refine st_own (r := .v _) td_ok rfl rfl rfl rfl rfl rfl rfl XH.put_same (Nat.le_of_ble_eq_true rfl) rfl  ?_
        -- op 10.4 call t58
        refine st td_ok rfl rfl rfl rfl (r := .v _) rfl trivial ?_
        -- op 10.5 binOp t59
        refine st_eq td_ok rfl rfl rfl rfl (r := .v _) rfl trivial (w64 (by omega)) ?_
        -- op 10.6 assign t6
        refine st td_ok rfl rfl rfl rfl (r := .v _) rfl trivial ?_
        refine AOps_nil ?_
        refine qbn ?_
        refine qn ?_
        refine AWP_region ?_
        -- op 11.0 binOp t60
        refine st_eq td_ok rfl rfl rfl rfl (r := .v _) rfl trivial (w64 (by omega)) ?_
        -- op 11.1 move t20
        refine st td_ok rfl rfl rfl rfl (r := .v _) rfl trivial ?_
        refine AOps_nil ?_
        -- back 0 (loop 6)
        refine qn ?_
        have he : endN l (j + 1) = (l.getD j tok0).pos + (l.getD j tok0).text.size := by unfold endN; rw [if_neg (by omega), Nat.add_sub_cancel]
        exact ⟨j + 1, by omega, by rw [he]; (repeat' (first | exact rfl | exact trivial | apply And.intro)), by omega, by omega⟩
    ·
      refine AWP_exit ?_
      refine qx ?_
      refine qx ?_
      refine qbh ?_
      refine qn ?_
      refine AWP_seq ?_
      have hq : ((l.length : Int) - 1).toNat = l.length - 1 := by omega
      refine AWP_region ?_
      -- op 12.0 move t61
      refine st td_ok rfl rfl rfl rfl (r := .sl _ _ _) rfl trivial ?_
      -- op 12.1 call t62
      refine st td_ok rfl rfl rfl rfl (r := .v _) rfl trivial ?_
      -- op 12.2 binOp t63
      refine st td_ok rfl rfl rfl rfl (r := .v _) rfl trivial ?_
      -- op 12.3 move t64
      refine st td_ok rfl rfl rfl rfl (r := .v _) rfl trivial ?_
      -- op 12.4 move t65 g['3', 'true']
      (refine sgk0 td_ok rfl rfl rfl rfl rfl rfl (r := .sl _ _ _) rfl ?_ ?_; · exact fun hg => ⟨by (repeat' (first | exact trivial | exact hg | exact (Bool.and_eq_true_iff.mp hg).1 | apply And.intro)), by exact trivial⟩)
      -- op 12.5 move t66 g['3', 'true']
      (refine sgk0 td_ok rfl rfl rfl rfl rfl rfl (r := .sl _ _ _) rfl ?_ ?_; · exact fun hg => ⟨by (repeat' (first | exact trivial | exact hg | exact (Bool.and_eq_true_iff.mp hg).1 | apply And.intro)), by exact trivial⟩)
      -- op 12.6 call t67 g['3', 'true']
      (refine sgk0 td_ok rfl rfl rfl rfl rfl rfl (r := .v _) rfl ?_ ?_; · exact fun hg => ⟨by (repeat' (first | exact trivial | exact hg | exact (Bool.and_eq_true_iff.mp hg).1 | apply And.intro)), by exact trivial⟩)
      -- op 12.7 binOp t68 g['3', 'true']
      (refine sgke td_ok rfl rfl rfl rfl rfl rfl (r := .v _) rfl (w64 (by omega)) ?_ ?_; · exact fun hg => ⟨by (repeat' (first | exact trivial | exact hg | exact (Bool.and_eq_true_iff.mp hg).1 | apply And.intro)), trivial⟩)
      -- op 12.8 indexAddr t69 g['3', 'true']
      (refine sgk0 td_ok rfl rfl rfl rfl rfl rfl (r := .pp _ _) rfl ?_ ?_; · exact fun hg => ⟨by (repeat' (first | exact trivial | exact hg | exact (Bool.and_eq_true_iff.mp hg).1 | apply And.intro)), by ((repeat' with_reducible apply And.intro) <;> (first | omega | (simp only [toks_len, cond_true, cond_false, nd, Option.getD_none, Option.getD_some, Int.toNat_natCast, strs_len, nums_len, List.length_append, tds2, tds3, tds4, tds5, tds9, tds12, tds21, tds23, tds24, tds27, tds30, tds31, tds32, tds34, tds51, tds55, decide_eq_true_eq, Bool.and_eq_true, Bool.not_eq_true', decide_eq_false_iff_not] at *; omega)))⟩)
      -- op 12.9 fieldAddr t70 g['3', 'true']
      (refine sgk0 td_ok rfl rfl rfl rfl rfl rfl (r := .pp _ _) rfl ?_ ?_; · exact fun hg => ⟨by (repeat' (first | exact trivial | exact hg | exact (Bool.and_eq_true_iff.mp hg).1 | apply And.intro)), by exact trivial⟩)
      -- op 12.10 load t71 g['3', 'true']
      refine sgk td_ok rfl rfl rfl rfl rfl rfl (r := _) rfl (fun hg => ⟨by (repeat' (first | exact trivial | exact hg | exact (Bool.and_eq_true_iff.mp hg).1 | apply And.intro)), by ((repeat' with_reducible apply And.intro) <;> (simp only [toks_len, cond_true, cond_false, nd, Option.getD_none, Option.getD_some, Int.toNat_natCast, strs_len, nums_len, List.length_append, tds2, tds3, tds4, tds5, tds9, tds12, tds21, tds23, tds24, tds27, tds30, tds31, tds32, tds34, tds51, tds55, decide_eq_true_eq, Bool.and_eq_true, Bool.not_eq_true', decide_eq_false_iff_not] at *; omega)), (show _ = AV.v (.int .i64 s.size) from (toks_pos l ((l.length : Int) - 1).toNat).trans (by rw [hq, hlast]))⟩) ?_
      -- op 12.11 move t72 g['3', 'true']
      (refine sgk0 td_ok rfl rfl rfl rfl rfl rfl (r := .v _) rfl ?_ ?_; · exact fun hg => ⟨by (repeat' (first | exact trivial | exact hg | exact (Bool.and_eq_true_iff.mp hg).1 | apply And.intro)), by exact trivial⟩)
      -- op 12.12 call t73 g['3', 'true']
      (refine sgk0 td_ok rfl rfl rfl rfl rfl rfl (r := .v _) rfl ?_ ?_; · exact fun hg => ⟨by (repeat' (first | exact trivial | exact hg | exact (Bool.and_eq_true_iff.mp hg).1 | apply And.intro)), by exact trivial⟩)
      -- op 12.13 binOp t74 g['3', 'true']
      (refine sgk0 td_ok rfl rfl rfl rfl rfl rfl (r := .v _) rfl ?_ ?_; · exact fun hg => ⟨by (repeat' (first | exact trivial | exact hg | exact (Bool.and_eq_true_iff.mp hg).1 | apply And.intro)), by exact trivial⟩)
      -- op 12.14 pick t75
      (refine st td_ok rfl rfl rfl rfl (r := .v _) rfl ?_ ?_; · exact (fun h => h))
      -- op 12.15 move t76
      refine st td_ok rfl rfl rfl rfl (r := .v _) rfl trivial ?_
      -- op 12.16 move t77 g['15', 'true']
      (refine sgk0 td_ok rfl rfl rfl rfl rfl rfl (r := .sl _ _ _) rfl ?_ ?_; · exact fun hg => ⟨by (repeat' (first | exact trivial | exact hg | exact (Bool.and_eq_true_iff.mp hg).1 | apply And.intro)), by exact trivial⟩)
      -- op 12.17 move t78 g['15', 'true']
      (refine sgk0 td_ok rfl rfl rfl rfl rfl rfl (r := .sl _ _ _) rfl ?_ ?_; · exact fun hg => ⟨by (repeat' (first | exact trivial | exact hg | exact (Bool.and_eq_true_iff.mp hg).1 | apply And.intro)), by exact trivial⟩)
      -- op 12.18 call t79 g['15', 'true']
      (refine sgk0 td_ok rfl rfl rfl rfl rfl rfl (r := .v _) rfl ?_ ?_; · exact fun hg => ⟨by (repeat' (first | exact trivial | exact hg | exact (Bool.and_eq_true_iff.mp hg).1 | apply And.intro)), by exact trivial⟩)
      -- op 12.19 binOp t80 g['15', 'true']
      (refine sgke td_ok rfl rfl rfl rfl rfl rfl (r := .v _) rfl (w64 (by omega)) ?_ ?_; · exact fun hg => ⟨by (repeat' (first | exact trivial | exact hg | exact (Bool.and_eq_true_iff.mp hg).1 | apply And.intro)), trivial⟩)
      -- op 12.20 indexAddr t81 g['15', 'true']
      (refine sgk0 td_ok rfl rfl rfl rfl rfl rfl (r := .pp _ _) rfl ?_ ?_; · exact fun hg => ⟨by (repeat' (first | exact trivial | exact hg | exact (Bool.and_eq_true_iff.mp hg).1 | apply And.intro)), by ((repeat' with_reducible apply And.intro) <;> (first | omega | (simp only [toks_len, cond_true, cond_false, nd, Option.getD_none, Option.getD_some, Int.toNat_natCast, strs_len, nums_len, List.length_append, tds2, tds3, tds4, tds5, tds9, tds12, tds21, tds23, tds24, tds27, tds30, tds31, tds32, tds34, tds51, tds55, decide_eq_true_eq, Bool.and_eq_true, Bool.not_eq_true', decide_eq_false_iff_not] at *; omega)))⟩)
      -- op 12.21 fieldAddr t82 g['15', 'true']
      (refine sgk0 td_ok rfl rfl rfl rfl rfl rfl (r := .pp _ _) rfl ?_ ?_; · exact fun hg => ⟨by (repeat' (first | exact trivial | exact hg | exact (Bool.and_eq_true_iff.mp hg).1 | apply And.intro)), by exact trivial⟩)
      -- op 12.22 load t83 g['15', 'true']
      refine sgk td_ok rfl rfl rfl rfl rfl rfl (r := _) rfl (fun hg => ⟨by (repeat' (first | exact trivial | exact hg | exact (Bool.and_eq_true_iff.mp hg).1 | apply And.intro)), by ((repeat' with_reducible apply And.intro) <;> (simp only [toks_len, cond_true, cond_false, nd, Option.getD_none, Option.getD_some, Int.toNat_natCast, strs_len, nums_len, List.length_append, tds2, tds3, tds4, tds5, tds9, tds12, tds21, tds23, tds24, tds27, tds30, tds31, tds32, tds34, tds51, tds55, decide_eq_true_eq, Bool.and_eq_true, Bool.not_eq_true', decide_eq_false_iff_not] at *; omega)), (show _ = AV.v (.string ⟨#[]⟩) from (toks_text l ((l.length : Int) - 1).toNat).trans (by rw [hq, hlast]))⟩) ?_
      -- op 12.23 binOp t84 g['15', 'true']
      (refine sgk0 td_ok rfl rfl rfl rfl rfl rfl (r := .v _) rfl ?_ ?_; · exact fun hg => ⟨by (repeat' (first | exact trivial | exact hg | exact (Bool.and_eq_true_iff.mp hg).1 | apply And.intro)), by exact trivial⟩)
      -- op 12.24 pick t85
      (refine st td_ok rfl rfl rfl rfl (r := .v _) rfl ?_ ?_; · exact (fun h => h))
      -- op 12.25 move t86
      refine st td_ok rfl rfl rfl rfl (r := .v _) rfl trivial ?_
      -- op 12.26 call t87 g['25', 'true']
      refine stg_call rfl rfl rfl rfl rfl rfl rfl rfl (fun hg => ⟨by (repeat' (first | exact trivial | exact hg | exact (Bool.and_eq_true_iff.mp hg).1 | apply And.intro)), rfl, ⟨_, rfl, rfl, rfl⟩, (by first | exact awake_c)⟩) ?_
      -- op 12.27 pick t88
      (refine st td_ok rfl rfl rfl rfl (r := .v _) rfl ?_ ?_; · exact (fun h => h))
      -- op 12.28 assign t2
      refine st td_ok rfl rfl rfl rfl (r := .v _) rfl trivial ?_
      refine AOps_nil ?_
      refine qn ?_
      refine AWP_ret ?_
      -- ret 0
      refine ⟨_, _, _, _, rfl, trivial, GS.forget _ _, ?_⟩
      first | show AV.v _ = _ | show AV.tup _ = _ | show AV.sl _ _ _ = _ | show AV.agg _ = _ | skip
      rw [decide_eq_true (show (l.length : Int) > 0 by omega)]; simp
theorem places_err (s : ByteArray) (hb : s.size < 2 ^ 47) (i : Nat) (e : Int) (hl : splitP s = .err i e) (he : e ≠ 0) : PCalls Try.prog 5 [.v (.string s)] (.v (.bool true)) := by
  refine calls_body td_ok Try.func5 rfl rfl rfl ?_
  refine AWP_seq ?_
  refine AWP_region ?_
  -- op 0.0 assign t2
  refine st td_ok rfl rfl rfl rfl (r := .v _) rfl trivial ?_
  refine AOps_nil ?_
  refine qn ?_
  refine AWP_seq ?_
  refine AWP_region ?_
  -- op 1.0 move t10
  refine st td_ok rfl rfl rfl rfl (r := .v _) rfl trivial ?_
  -- op 1.1 call t11
  refine st_pcall rfl rfl rfl rfl rfl rfl rfl ⟨_, rfl, rfl, rfl⟩ (split_err hb hl) ?_
  -- op 1.2 move t9
  refine st td_ok rfl rfl rfl rfl (r := .tup _) rfl trivial ?_
  -- op 1.3 extract t12
  refine st td_ok rfl rfl rfl rfl (r := .sl _ _ _) rfl trivial ?_
  -- op 1.4 extract t13
  refine st td_ok rfl rfl rfl rfl (r := .v _) rfl trivial ?_
  -- op 1.5 extract t14
  refine st td_ok rfl rfl rfl rfl (r := .v _) rfl trivial ?_
  -- op 1.6 assign t3
  refine st td_ok rfl rfl rfl rfl (r := .sl _ _ _) rfl trivial ?_
  -- op 1.7 assign t4
  refine st td_ok rfl rfl rfl rfl (r := .v _) rfl trivial ?_
  -- op 1.8 assign t5
  refine st td_ok rfl rfl rfl rfl (r := .v _) rfl trivial ?_
  refine AOps_nil ?_
  refine qn ?_
  refine AWP_seq ?_
  refine AWP_seq ?_
  refine AWP_region ?_
  -- op 2.0 move t15
  refine st td_ok rfl rfl rfl rfl (r := .v _) rfl trivial ?_
  -- op 2.1 binOp t16
  refine st td_ok rfl rfl rfl rfl (r := .v _) rfl trivial ?_
  refine AOps_nil ?_
  refine qn ?_
  refine AWP_cond rfl rfl (fun h0 => ?_) (fun h0 => ?_)
  ·
    refine AWP_seq ?_
    refine AWP_region ?_
    -- op 3.0 call t17
    refine st_pcall rfl rfl rfl rfl rfl rfl rfl ⟨_, rfl, rfl, rfl⟩ (by first | exact awake_c) ?_
    -- op 3.1 assign t2
    refine st td_ok rfl rfl rfl rfl (r := .v _) rfl trivial ?_
    refine AOps_nil ?_
    refine qn ?_
    refine AWP_ret ?_
    refine qr ?_
    -- ret 0
    refine ⟨_, _, _, _, rfl, trivial, GS.forget _ _, ?_⟩
    first | show AV.v _ = _ | show AV.tup _ = _ | show AV.sl _ _ _ = _ | show AV.agg _ = _ | skip
    rfl
  ·
    (exfalso; simp only [bne_eq_false_iff_eq] at h0; exact he h0)
theorem split_ne {s : ByteArray} {i : Nat} {e : Int} (h : splitP s = .err i e) : e ≠ 0 := by
  by_cases hs : s.size ≤ 16384
  · exact (split_prefix h hs).2.1
  · unfold splitP at h
    rw [if_pos (by omega)] at h
    simp only [LR.err.injEq] at h
    rw [← h.2]; decide
theorem places_c (s : ByteArray) (hb : s.size < 2 ^ 47) : PCalls Try.prog 5 [.v (.string s)] (.v (.bool true)) := by
  cases h : splitP s with
  | ok l =>
    obtain ⟨hg, m, hm⟩ := split_good h
    exact places_ok s hb l h m hm hg
  | err i e => exact places_err s hb i e h (split_ne h)
end Go.Proofs.Ytoiolofgcgkgiaa.V
