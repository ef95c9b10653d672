import Derived.Test.YtoiolofgcgkgiaaT6
namespace Go.Proofs.Ytoiolofgcgkgiaa.V
open Go
set_option linter.unusedSimpArgs false
set_option linter.unusedVariables false

theorem lex_len (s : ByteArray) : ∀ (f i : Nat) (acc l : List Tok), lex s f i acc = .ok l → l.length ≤ acc.length + f + 1
  | 0, i, acc, l, h => by
    simp only [lex, LR.ok.injEq] at h
    subst h; simp
  | f + 1, i, acc, l, h => by
    simp only [lex] at h
    split at h
    · simp only [LR.ok.injEq] at h; subst h; simp
    · split at h
      · have := lex_len s f _ _ _ h; omega
      · split at h
        · have := lex_len s f _ _ _ h; omega
        · split at h
          · have := lex_len s f _ _ _ h
            simp only [List.length_append, List.length_cons, List.length_nil] at this
            omega
          · exact absurd h (by simp)
theorem split_len {s : ByteArray} {l : List Tok} (h : splitP s = .ok l) : l.length ≤ 16400 := by
  unfold splitP at h
  split at h
  · exact absurd h (by simp)
  · have := lex_len s _ _ _ _ h
    simp only [List.length_nil] at this
    omega
set_option maxRecDepth 20000 in
theorem splits_ok (s : ByteArray) (hb : s.size < 2 ^ 47) (l : List Tok) (hl : splitP s = .ok l) : PCalls Try.prog 4 [.v (.string s)] (.v (.bool true)) := by
  refine calls_body td_ok Try.func4 rfl rfl rfl ?_
  refine AWP_seq ?_
  have hll := split_len hl
  refine AWP_region ?_
  -- op 0.0 assign t2
  refine st td_ok rfl rfl rfl rfl (r := .v _) rfl trivial ?_
  refine AOps_nil ?_
  refine qn ?_
  refine AWP_seq ?_
  refine AWP_region ?_
  -- op 1.0 move t11
  refine st td_ok rfl rfl rfl rfl (r := .v _) rfl trivial ?_
  -- op 1.1 call t12
  refine st_pcall rfl rfl rfl rfl rfl rfl rfl ⟨_, rfl, rfl, rfl⟩ (split_ok hb hl) ?_
  -- op 1.2 move t10
  refine st td_ok rfl rfl rfl rfl (r := .tup _) rfl trivial ?_
  -- op 1.3 extract t13
  refine st td_ok rfl rfl rfl rfl (r := .sl _ _ _) rfl trivial ?_
  -- op 1.4 extract t14
  refine st td_ok rfl rfl rfl rfl (r := .v _) rfl trivial ?_
  -- op 1.5 extract t15
  refine st td_ok rfl rfl rfl rfl (r := .v _) rfl trivial ?_
  -- op 1.6 assign t3
  refine st td_ok rfl rfl rfl rfl (r := .sl _ _ _) rfl trivial ?_
  -- op 1.7 assign t4
  refine st td_ok rfl rfl rfl rfl (r := .v _) rfl trivial ?_
  -- op 1.8 assign t5
  refine st td_ok rfl rfl rfl rfl (r := .v _) rfl trivial ?_
  refine AOps_nil ?_
  refine qn ?_
  refine AWP_seq ?_
  refine AWP_region ?_
  -- op 2.0 move t17
  refine st td_ok rfl rfl rfl rfl (r := .v _) rfl trivial ?_
  -- op 2.1 call t18
  refine st_pcall rfl rfl rfl rfl rfl rfl rfl ⟨_, rfl, rfl, rfl⟩ (rsplit_ok hb hl) ?_
  -- op 2.2 move t16
  refine st td_ok rfl rfl rfl rfl (r := .tup _) rfl trivial ?_
  -- op 2.3 extract t19
  refine st td_ok rfl rfl rfl rfl (r := .sl _ _ _) rfl trivial ?_
  -- op 2.4 extract t20
  refine st td_ok rfl rfl rfl rfl (r := .v _) rfl trivial ?_
  -- op 2.5 extract t21
  refine st td_ok rfl rfl rfl rfl (r := .v _) rfl trivial ?_
  -- op 2.6 assign t6
  refine st td_ok rfl rfl rfl rfl (r := .sl _ _ _) rfl trivial ?_
  -- op 2.7 assign t7
  refine st td_ok rfl rfl rfl rfl (r := .v _) rfl trivial ?_
  -- op 2.8 assign t8
  refine st td_ok rfl rfl rfl rfl (r := .v _) rfl trivial ?_
  refine AOps_nil ?_
  refine qn ?_
  refine AWP_seq ?_
  refine AWP_seq ?_
  refine AWP_region ?_
  -- op 3.0 move t22
  refine st td_ok rfl rfl rfl rfl (r := .v _) rfl trivial ?_
  -- op 3.1 move t23
  refine st td_ok rfl rfl rfl rfl (r := .v _) rfl trivial ?_
  -- op 3.2 binOp t24
  refine st td_ok rfl rfl rfl rfl (r := .v _) rfl trivial ?_
  -- op 3.3 move t25
  refine st td_ok rfl rfl rfl rfl (r := .v _) rfl trivial ?_
  -- op 3.4 move t26 g['3', 'false']
  (refine sgk0 td_ok rfl rfl rfl rfl rfl rfl (r := .v _) rfl ?_ ?_; · exact fun hg => ⟨by (repeat' (first | exact trivial | exact hg | exact (Bool.and_eq_true_iff.mp hg).1 | apply And.intro)), by exact trivial⟩)
  -- op 3.5 move t27 g['3', 'false']
  (refine sgk0 td_ok rfl rfl rfl rfl rfl rfl (r := .v _) rfl ?_ ?_; · exact fun hg => ⟨by (repeat' (first | exact trivial | exact hg | exact (Bool.and_eq_true_iff.mp hg).1 | apply And.intro)), by exact trivial⟩)
  -- op 3.6 binOp t28 g['3', 'false']
  (refine sgk0 td_ok rfl rfl rfl rfl rfl rfl (r := .v _) rfl ?_ ?_; · exact fun hg => ⟨by (repeat' (first | exact trivial | exact hg | exact (Bool.and_eq_true_iff.mp hg).1 | apply And.intro)), by exact trivial⟩)
  -- op 3.7 pick t29
  (refine st td_ok rfl rfl rfl rfl (r := .v _) rfl ?_ ?_; · first | (simp_all; done) | ((repeat' with_reducible apply And.intro) <;> with_reducible exact trivial))
  -- op 3.8 move t30
  refine st td_ok rfl rfl rfl rfl (r := .v _) rfl trivial ?_
  -- op 3.9 move t31 g['8', 'false']
  (refine sgk0 td_ok rfl rfl rfl rfl rfl rfl (r := .sl _ _ _) rfl ?_ ?_; · exact fun hg => ⟨by (repeat' (first | exact trivial | exact hg | exact (Bool.and_eq_true_iff.mp hg).1 | apply And.intro)), by exact trivial⟩)
  -- op 3.10 call t32 g['8', 'false']
  (refine sgk0 td_ok rfl rfl rfl rfl rfl rfl (r := .v _) rfl ?_ ?_; · exact fun hg => ⟨by (repeat' (first | exact trivial | exact hg | exact (Bool.and_eq_true_iff.mp hg).1 | apply And.intro)), by exact trivial⟩)
  -- op 3.11 move t33 g['8', 'false']
  (refine sgk0 td_ok rfl rfl rfl rfl rfl rfl (r := .sl _ _ _) rfl ?_ ?_; · exact fun hg => ⟨by (repeat' (first | exact trivial | exact hg | exact (Bool.and_eq_true_iff.mp hg).1 | apply And.intro)), by exact trivial⟩)
  -- op 3.12 call t34 g['8', 'false']
  (refine sgk0 td_ok rfl rfl rfl rfl rfl rfl (r := .v _) rfl ?_ ?_; · exact fun hg => ⟨by (repeat' (first | exact trivial | exact hg | exact (Bool.and_eq_true_iff.mp hg).1 | apply And.intro)), by exact trivial⟩)
  -- op 3.13 binOp t35 g['8', 'false']
  (refine sgk0 td_ok rfl rfl rfl rfl rfl rfl (r := .v _) rfl ?_ ?_; · exact fun hg => ⟨by (repeat' (first | exact trivial | exact hg | exact (Bool.and_eq_true_iff.mp hg).1 | apply And.intro)), by exact trivial⟩)
  -- op 3.14 pick t36
  (refine st td_ok rfl rfl rfl rfl (r := .v _) rfl ?_ ?_; · first | (simp_all; done) | ((repeat' with_reducible apply And.intro) <;> with_reducible exact trivial))
  refine AOps_nil ?_
  refine qn ?_
  refine AWP_cond rfl rfl (fun h0 => ?_) (fun h0 => ?_)
  ·
    simp at h0
  ·
    clear h0
    refine AWP_skip ?_
    refine qn ?_
    refine AWP_seq ?_
    refine AWP_seq ?_
    refine AWP_region ?_
    -- op 5.0 move t37
    refine st td_ok rfl rfl rfl rfl (r := .sl _ _ _) rfl trivial ?_
    -- op 5.1 call t38
    refine st td_ok rfl rfl rfl rfl (r := .v _) rfl trivial ?_
    -- op 5.2 move t39
    refine st td_ok rfl rfl rfl rfl (r := .v _) rfl trivial ?_
    refine AOps_nil ?_
    refine qn ?_
    refine AWP_block ?_
    -- loop: live [3, 6, 38, 39]
    refine AWP_for (fun (j : Nat) => [(3, .sl false l.length (toks l)), (6, .sl false l.length (toks l)), (38, .v (.int .i64 l.length)), (39, .v (.int .i64 j))]) (fun j X => X = XH.none ∧ j ≤ l.length) (fun j => l.length - j) 0 ⟨by (repeat' (first | exact rfl | exact trivial | apply And.intro)), ⟨rfl, by omega⟩⟩ ?_
    rintro j X ⟨rfl, hj⟩
    refine AWP_seq ?_
    refine AWP_region ?_
    -- op 6.0 binOp t40
    refine st td_ok rfl rfl rfl rfl (r := .v _) rfl trivial ?_
    refine AOps_nil ?_
    refine qn ?_
    refine AWP_seq ?_
    refine AWP_cond rfl rfl (fun h1 => ?_) (fun h1 => ?_)
    ·
      refine AWP_skip ?_
      refine qn ?_
      refine AWP_seq ?_
      refine AWP_block ?_
      refine AWP_seq ?_
      refine AWP_region ?_
      -- op 7.0 move t41
      refine st td_ok rfl rfl rfl rfl (r := .v _) rfl trivial ?_
      -- op 7.1 assign t9
      refine st td_ok rfl rfl rfl rfl (r := .v _) rfl trivial ?_
      refine AOps_nil ?_
      refine qn ?_
      refine AWP_seq ?_
      have hlt : j < l.length := Int.ofNat_lt.mp (of_decide_eq_true h1)
      refine AWP_drawn rfl rfl rfl rfl ?_
      -- op 8.0 move t42
      refine es td_ok rfl rfl rfl (r := .sl _ _ _) rfl trivial (rfl) ?_
      -- op 8.1 move t43
      refine es td_ok rfl rfl rfl (r := .v _) rfl trivial (rfl) ?_
      -- op 8.2 indexAddr t44
      (refine es td_ok rfl rfl rfl (r := .pp _ _) rfl ?_ (rfl) ?_; · ((repeat' with_reducible apply And.intro) <;> (first | omega | (simp only [toks_len, cond_true, cond_false, nd, Option.getD_none, Option.getD_some, Int.toNat_natCast, strs_len, nums_len, List.length_append, tds2, tds3, tds4, tds5, tds9, tds12, tds21, tds23, tds24, tds27, tds30, tds31, tds32, tds34, tds51, tds55, decide_eq_true_eq, Bool.and_eq_true, Bool.not_eq_true', decide_eq_false_iff_not] at *; omega))))
      -- op 8.3 fieldAddr t45
      refine es td_ok rfl rfl rfl (r := .pp _ _) rfl trivial (rfl) ?_
      -- op 8.4 load t46
      (refine es td_ok rfl rfl rfl (r := _) rfl ?_ ((toks_kind l j)) ?_; · ((repeat' with_reducible apply And.intro) <;> (simp only [toks_len, cond_true, cond_false, nd, Option.getD_none, Option.getD_some, Int.toNat_natCast, strs_len, nums_len, List.length_append, tds2, tds3, tds4, tds5, tds9, tds12, tds21, tds23, tds24, tds27, tds30, tds31, tds32, tds34, tds51, tds55, decide_eq_true_eq, Bool.and_eq_true, Bool.not_eq_true', decide_eq_false_iff_not] at *; omega)))
      -- op 8.5 move t47
      refine es td_ok rfl rfl rfl (r := .sl _ _ _) rfl trivial (rfl) ?_
      -- op 8.6 move t48
      refine es td_ok rfl rfl rfl (r := .v _) rfl trivial (rfl) ?_
      -- op 8.7 indexAddr t49
      (refine es td_ok rfl rfl rfl (r := .pp _ _) rfl ?_ (rfl) ?_; · ((repeat' with_reducible apply And.intro) <;> (first | omega | (simp only [toks_len, cond_true, cond_false, nd, Option.getD_none, Option.getD_some, Int.toNat_natCast, strs_len, nums_len, List.length_append, tds2, tds3, tds4, tds5, tds9, tds12, tds21, tds23, tds24, tds27, tds30, tds31, tds32, tds34, tds51, tds55, decide_eq_true_eq, Bool.and_eq_true, Bool.not_eq_true', decide_eq_false_iff_not] at *; omega))))
      -- op 8.8 fieldAddr t50
      refine es td_ok rfl rfl rfl (r := .pp _ _) rfl trivial (rfl) ?_
      -- op 8.9 load t51
      (refine es td_ok rfl rfl rfl (r := _) rfl ?_ ((toks_kind l j)) ?_; · ((repeat' with_reducible apply And.intro) <;> (simp only [toks_len, cond_true, cond_false, nd, Option.getD_none, Option.getD_some, Int.toNat_natCast, strs_len, nums_len, List.length_append, tds2, tds3, tds4, tds5, tds9, tds12, tds21, tds23, tds24, tds27, tds30, tds31, tds32, tds34, tds51, tds55, decide_eq_true_eq, Bool.and_eq_true, Bool.not_eq_true', decide_eq_false_iff_not] at *; omega)))
      -- op 8.10 binOp t52
      refine es td_ok rfl rfl rfl (r := .v _) rfl trivial (rfl) ?_
      -- op 8.11 move t53
      refine es td_ok rfl rfl rfl (r := .v _) rfl trivial (rfl) ?_
      -- op 8.12 move t54 g['11', 'false']
      (refine esk0 td_ok rfl rfl rfl rfl (r := .sl _ _ _) rfl ?_ ?_; · exact fun hg => ⟨by (repeat' (first | exact trivial | exact hg | exact (Bool.and_eq_true_iff.mp hg).1 | apply And.intro)), by exact trivial⟩)
      -- op 8.13 move t55 g['11', 'false']
      (refine esk0 td_ok rfl rfl rfl rfl (r := .v _) rfl ?_ ?_; · exact fun hg => ⟨by (repeat' (first | exact trivial | exact hg | exact (Bool.and_eq_true_iff.mp hg).1 | apply And.intro)), by exact trivial⟩)
      -- op 8.14 indexAddr t56 g['11', 'false']
      (refine esk0 td_ok rfl rfl rfl rfl (r := .pp _ _) rfl ?_ ?_; · exact fun hg => ⟨by (repeat' (first | exact trivial | exact hg | exact (Bool.and_eq_true_iff.mp hg).1 | apply And.intro)), by ((repeat' with_reducible apply And.intro) <;> (first | omega | (simp only [toks_len, cond_true, cond_false, nd, Option.getD_none, Option.getD_some, Int.toNat_natCast, strs_len, nums_len, List.length_append, tds2, tds3, tds4, tds5, tds9, tds12, tds21, tds23, tds24, tds27, tds30, tds31, tds32, tds34, tds51, tds55, decide_eq_true_eq, Bool.and_eq_true, Bool.not_eq_true', decide_eq_false_iff_not] at *; omega)))⟩)
      -- op 8.15 fieldAddr t57 g['11', 'false']
      (refine esk0 td_ok rfl rfl rfl rfl (r := .pp _ _) rfl ?_ ?_; · exact fun hg => ⟨by (repeat' (first | exact trivial | exact hg | exact (Bool.and_eq_true_iff.mp hg).1 | apply And.intro)), by exact trivial⟩)
      -- op 8.16 load t58 g['11', 'false']
      refine esk td_ok rfl rfl rfl rfl (r := _) rfl (fun hg => ⟨by (repeat' (first | exact trivial | exact hg | exact (Bool.and_eq_true_iff.mp hg).1 | apply And.intro)), by ((repeat' with_reducible apply And.intro) <;> (simp only [toks_len, cond_true, cond_false, nd, Option.getD_none, Option.getD_some, Int.toNat_natCast, strs_len, nums_len, List.length_append, tds2, tds3, tds4, tds5, tds9, tds12, tds21, tds23, tds24, tds27, tds30, tds31, tds32, tds34, tds51, tds55, decide_eq_true_eq, Bool.and_eq_true, Bool.not_eq_true', decide_eq_false_iff_not] at *; omega)), (toks_text l j)⟩) ?_
      -- op 8.17 move t59 g['11', 'false']
      (refine esk0 td_ok rfl rfl rfl rfl (r := .sl _ _ _) rfl ?_ ?_; · exact fun hg => ⟨by (repeat' (first | exact trivial | exact hg | exact (Bool.and_eq_true_iff.mp hg).1 | apply And.intro)), by exact trivial⟩)
      -- op 8.18 move t60 g['11', 'false']
      (refine esk0 td_ok rfl rfl rfl rfl (r := .v _) rfl ?_ ?_; · exact fun hg => ⟨by (repeat' (first | exact trivial | exact hg | exact (Bool.and_eq_true_iff.mp hg).1 | apply And.intro)), by exact trivial⟩)
      -- op 8.19 indexAddr t61 g['11', 'false']
      (refine esk0 td_ok rfl rfl rfl rfl (r := .pp _ _) rfl ?_ ?_; · exact fun hg => ⟨by (repeat' (first | exact trivial | exact hg | exact (Bool.and_eq_true_iff.mp hg).1 | apply And.intro)), by ((repeat' with_reducible apply And.intro) <;> (first | omega | (simp only [toks_len, cond_true, cond_false, nd, Option.getD_none, Option.getD_some, Int.toNat_natCast, strs_len, nums_len, List.length_append, tds2, tds3, tds4, tds5, tds9, tds12, tds21, tds23, tds24, tds27, tds30, tds31, tds32, tds34, tds51, tds55, decide_eq_true_eq, Bool.and_eq_true, Bool.not_eq_true', decide_eq_false_iff_not] at *; omega)))⟩)
      -- op 8.20 fieldAddr t62 g['11', 'false']
      (refine esk0 td_ok rfl rfl rfl rfl (r := .pp _ _) rfl ?_ ?_; · exact fun hg => ⟨by (repeat' (first | exact trivial | exact hg | exact (Bool.and_eq_true_iff.mp hg).1 | apply And.intro)), by exact trivial⟩)
      -- op 8.21 load t63 g['11', 'false']
      refine esk td_ok rfl rfl rfl rfl (r := _) rfl (fun hg => ⟨by (repeat' (first | exact trivial | exact hg | exact (Bool.and_eq_true_iff.mp hg).1 | apply And.intro)), by ((repeat' with_reducible apply And.intro) <;> (simp only [toks_len, cond_true, cond_false, nd, Option.getD_none, Option.getD_some, Int.toNat_natCast, strs_len, nums_len, List.length_append, tds2, tds3, tds4, tds5, tds9, tds12, tds21, tds23, tds24, tds27, tds30, tds31, tds32, tds34, tds51, tds55, decide_eq_true_eq, Bool.and_eq_true, Bool.not_eq_true', decide_eq_false_iff_not] at *; omega)), (toks_text l j)⟩) ?_
      -- op 8.22 binOp t64 g['11', 'false']
      (refine esk0 td_ok rfl rfl rfl rfl (r := .v _) rfl ?_ ?_; · exact fun hg => ⟨by (repeat' (first | exact trivial | exact hg | exact (Bool.and_eq_true_iff.mp hg).1 | apply And.intro)), by exact trivial⟩)
      -- op 8.23 pick t65
      (refine es td_ok rfl rfl rfl (r := .v _) rfl ?_ (rfl) ?_; · first | (simp_all; done) | ((repeat' with_reducible apply And.intro) <;> with_reducible exact trivial))
      -- op 8.24 move t66
      refine es td_ok rfl rfl rfl (r := .v _) rfl trivial (rfl) ?_
      -- op 8.25 move t67 g['24', 'false']
      (refine esk0 td_ok rfl rfl rfl rfl (r := .sl _ _ _) rfl ?_ ?_; · exact fun hg => ⟨by (repeat' (first | exact trivial | exact hg | exact (Bool.and_eq_true_iff.mp hg).1 | apply And.intro)), by exact trivial⟩)
      -- op 8.26 move t68 g['24', 'false']
      (refine esk0 td_ok rfl rfl rfl rfl (r := .v _) rfl ?_ ?_; · exact fun hg => ⟨by (repeat' (first | exact trivial | exact hg | exact (Bool.and_eq_true_iff.mp hg).1 | apply And.intro)), by exact trivial⟩)
      -- op 8.27 indexAddr t69 g['24', 'false']
      (refine esk0 td_ok rfl rfl rfl rfl (r := .pp _ _) rfl ?_ ?_; · exact fun hg => ⟨by (repeat' (first | exact trivial | exact hg | exact (Bool.and_eq_true_iff.mp hg).1 | apply And.intro)), by ((repeat' with_reducible apply And.intro) <;> (first | omega | (simp only [toks_len, cond_true, cond_false, nd, Option.getD_none, Option.getD_some, Int.toNat_natCast, strs_len, nums_len, List.length_append, tds2, tds3, tds4, tds5, tds9, tds12, tds21, tds23, tds24, tds27, tds30, tds31, tds32, tds34, tds51, tds55, decide_eq_true_eq, Bool.and_eq_true, Bool.not_eq_true', decide_eq_false_iff_not] at *; omega)))⟩)
      -- op 8.28 fieldAddr t70 g['24', 'false']
      (refine esk0 td_ok rfl rfl rfl rfl (r := .pp _ _) rfl ?_ ?_; · exact fun hg => ⟨by (repeat' (first | exact trivial | exact hg | exact (Bool.and_eq_true_iff.mp hg).1 | apply And.intro)), by exact trivial⟩)
      -- op 8.29 load t71 g['24', 'false']
      refine esk td_ok rfl rfl rfl rfl (r := _) rfl (fun hg => ⟨by (repeat' (first | exact trivial | exact hg | exact (Bool.and_eq_true_iff.mp hg).1 | apply And.intro)), by ((repeat' with_reducible apply And.intro) <;> (simp only [toks_len, cond_true, cond_false, nd, Option.getD_none, Option.getD_some, Int.toNat_natCast, strs_len, nums_len, List.length_append, tds2, tds3, tds4, tds5, tds9, tds12, tds21, tds23, tds24, tds27, tds30, tds31, tds32, tds34, tds51, tds55, decide_eq_true_eq, Bool.and_eq_true, Bool.not_eq_true', decide_eq_false_iff_not] at *; omega)), (toks_pos l j)⟩) ?_
      -- op 8.30 move t72 g['24', 'false']
      (refine esk0 td_ok rfl rfl rfl rfl (r := .sl _ _ _) rfl ?_ ?_; · exact fun hg => ⟨by (repeat' (first | exact trivial | exact hg | exact (Bool.and_eq_true_iff.mp hg).1 | apply And.intro)), by exact trivial⟩)
      -- op 8.31 move t73 g['24', 'false']
      (refine esk0 td_ok rfl rfl rfl rfl (r := .v _) rfl ?_ ?_; · exact fun hg => ⟨by (repeat' (first | exact trivial | exact hg | exact (Bool.and_eq_true_iff.mp hg).1 | apply And.intro)), by exact trivial⟩)
      -- op 8.32 indexAddr t74 g['24', 'false']
      (refine esk0 td_ok rfl rfl rfl rfl (r := .pp _ _) rfl ?_ ?_; · exact fun hg => ⟨by (repeat' (first | exact trivial | exact hg | exact (Bool.and_eq_true_iff.mp hg).1 | apply And.intro)), by ((repeat' with_reducible apply And.intro) <;> (first | omega | (simp only [toks_len, cond_true, cond_false, nd, Option.getD_none, Option.getD_some, Int.toNat_natCast, strs_len, nums_len, List.length_append, tds2, tds3, tds4, tds5, tds9, tds12, tds21, tds23, tds24, tds27, tds30, tds31, tds32, tds34, tds51, tds55, decide_eq_true_eq, Bool.and_eq_true, Bool.not_eq_true', decide_eq_false_iff_not] at *; omega)))⟩)
      -- op 8.33 fieldAddr t75 g['24', 'false']
      (refine esk0 td_ok rfl rfl rfl rfl (r := .pp _ _) rfl ?_ ?_; · exact fun hg => ⟨by (repeat' (first | exact trivial | exact hg | exact (Bool.and_eq_true_iff.mp hg).1 | apply And.intro)), by exact trivial⟩)
      -- op 8.34 load t76 g['24', 'false']
      refine esk td_ok rfl rfl rfl rfl (r := _) rfl (fun hg => ⟨by (repeat' (first | exact trivial | exact hg | exact (Bool.and_eq_true_iff.mp hg).1 | apply And.intro)), by ((repeat' with_reducible apply And.intro) <;> (simp only [toks_len, cond_true, cond_false, nd, Option.getD_none, Option.getD_some, Int.toNat_natCast, strs_len, nums_len, List.length_append, tds2, tds3, tds4, tds5, tds9, tds12, tds21, tds23, tds24, tds27, tds30, tds31, tds32, tds34, tds51, tds55, decide_eq_true_eq, Bool.and_eq_true, Bool.not_eq_true', decide_eq_false_iff_not] at *; omega)), (toks_pos l j)⟩) ?_
      -- op 8.35 binOp t77 g['24', 'false']
      (refine esk0 td_ok rfl rfl rfl rfl (r := .v _) rfl ?_ ?_; · exact fun hg => ⟨by (repeat' (first | exact trivial | exact hg | exact (Bool.and_eq_true_iff.mp hg).1 | apply And.intro)), by exact trivial⟩)
      -- op 8.36 pick t78
      (refine es td_ok rfl rfl rfl (r := .v _) rfl ?_ (rfl) ?_; · first | (simp_all; done) | ((repeat' with_reducible apply And.intro) <;> with_reducible exact trivial))
      refine AOps_nil ?_
      refine qn ?_
      refine AWP_cond rfl rfl (fun h2 => ?_) (fun h2 => ?_)
      ·
        simp at h2
      ·
        refine AWP_skip ?_
        refine qbn ?_
        refine qn ?_
        refine AWP_region ?_
        -- op 10.0 binOp t79
        refine st_eq td_ok rfl rfl rfl rfl (r := .v _) rfl trivial (w64 (by omega)) ?_
        -- op 10.1 move t39
        refine st td_ok rfl rfl rfl rfl (r := .v _) rfl trivial ?_
        refine AOps_nil ?_
        -- back 0 (loop 6)
        refine qn ?_
        exact ⟨j + 1, by omega, by (repeat' (first | exact rfl | exact trivial | apply And.intro)), rfl, by omega⟩
    ·
      refine AWP_exit ?_
      refine qx ?_
      refine qx ?_
      refine qbh ?_
      refine qn ?_
      refine AWP_seq ?_
      refine AWP_region ?_
      -- op 11.0 call t80
      refine st_pcall rfl rfl rfl rfl rfl rfl rfl ⟨_, rfl, rfl, rfl⟩ (by first | exact awake_c) ?_
      -- op 11.1 assign t2
      refine st td_ok rfl rfl rfl rfl (r := .v _) rfl trivial ?_
      refine AOps_nil ?_
      refine qn ?_
      refine AWP_ret ?_
      -- ret 0
      refine ⟨_, _, _, _, rfl, trivial, GS.forget _ _, ?_⟩
      first | show AV.v _ = _ | show AV.tup _ = _ | show AV.sl _ _ _ = _ | show AV.agg _ = _ | skip
      rfl
theorem splits_err (s : ByteArray) (hb : s.size < 2 ^ 47) (i : Nat) (e : Int) (hl : splitP s = .err i e) : PCalls Try.prog 4 [.v (.string s)] (.v (.bool true)) := by
  refine calls_body td_ok Try.func4 rfl rfl rfl ?_
  refine AWP_seq ?_
  refine AWP_region ?_
  -- op 0.0 assign t2
  refine st td_ok rfl rfl rfl rfl (r := .v _) rfl trivial ?_
  refine AOps_nil ?_
  refine qn ?_
  refine AWP_seq ?_
  refine AWP_region ?_
  -- op 1.0 move t11
  refine st td_ok rfl rfl rfl rfl (r := .v _) rfl trivial ?_
  -- op 1.1 call t12
  refine st_pcall rfl rfl rfl rfl rfl rfl rfl ⟨_, rfl, rfl, rfl⟩ (split_err hb hl) ?_
  -- op 1.2 move t10
  refine st td_ok rfl rfl rfl rfl (r := .tup _) rfl trivial ?_
  -- op 1.3 extract t13
  refine st td_ok rfl rfl rfl rfl (r := .sl _ _ _) rfl trivial ?_
  -- op 1.4 extract t14
  refine st td_ok rfl rfl rfl rfl (r := .v _) rfl trivial ?_
  -- op 1.5 extract t15
  refine st td_ok rfl rfl rfl rfl (r := .v _) rfl trivial ?_
  -- op 1.6 assign t3
  refine st td_ok rfl rfl rfl rfl (r := .sl _ _ _) rfl trivial ?_
  -- op 1.7 assign t4
  refine st td_ok rfl rfl rfl rfl (r := .v _) rfl trivial ?_
  -- op 1.8 assign t5
  refine st td_ok rfl rfl rfl rfl (r := .v _) rfl trivial ?_
  refine AOps_nil ?_
  refine qn ?_
  refine AWP_seq ?_
  refine AWP_region ?_
  -- op 2.0 move t17
  refine st td_ok rfl rfl rfl rfl (r := .v _) rfl trivial ?_
  -- op 2.1 call t18
  refine st_pcall rfl rfl rfl rfl rfl rfl rfl ⟨_, rfl, rfl, rfl⟩ (rsplit_err hb hl) ?_
  -- op 2.2 move t16
  refine st td_ok rfl rfl rfl rfl (r := .tup _) rfl trivial ?_
  -- op 2.3 extract t19
  refine st td_ok rfl rfl rfl rfl (r := .sl _ _ _) rfl trivial ?_
  -- op 2.4 extract t20
  refine st td_ok rfl rfl rfl rfl (r := .v _) rfl trivial ?_
  -- op 2.5 extract t21
  refine st td_ok rfl rfl rfl rfl (r := .v _) rfl trivial ?_
  -- op 2.6 assign t6
  refine st td_ok rfl rfl rfl rfl (r := .sl _ _ _) rfl trivial ?_
  -- op 2.7 assign t7
  refine st td_ok rfl rfl rfl rfl (r := .v _) rfl trivial ?_
  -- op 2.8 assign t8
  refine st td_ok rfl rfl rfl rfl (r := .v _) rfl trivial ?_
  refine AOps_nil ?_
  refine qn ?_
  refine AWP_seq ?_
  refine AWP_seq ?_
  refine AWP_region ?_
  -- op 3.0 move t22
  refine st td_ok rfl rfl rfl rfl (r := .v _) rfl trivial ?_
  -- op 3.1 move t23
  refine st td_ok rfl rfl rfl rfl (r := .v _) rfl trivial ?_
  -- op 3.2 binOp t24
  refine st td_ok rfl rfl rfl rfl (r := .v _) rfl trivial ?_
  -- op 3.3 move t25
  refine st td_ok rfl rfl rfl rfl (r := .v _) rfl trivial ?_
  -- op 3.4 move t26 g['3', 'false']
  (refine sgk0 td_ok rfl rfl rfl rfl rfl rfl (r := .v _) rfl ?_ ?_; · exact fun hg => ⟨by (repeat' (first | exact trivial | exact hg | exact (Bool.and_eq_true_iff.mp hg).1 | apply And.intro)), by exact trivial⟩)
  -- op 3.5 move t27 g['3', 'false']
  (refine sgk0 td_ok rfl rfl rfl rfl rfl rfl (r := .v _) rfl ?_ ?_; · exact fun hg => ⟨by (repeat' (first | exact trivial | exact hg | exact (Bool.and_eq_true_iff.mp hg).1 | apply And.intro)), by exact trivial⟩)
  -- op 3.6 binOp t28 g['3', 'false']
  (refine sgk0 td_ok rfl rfl rfl rfl rfl rfl (r := .v _) rfl ?_ ?_; · exact fun hg => ⟨by (repeat' (first | exact trivial | exact hg | exact (Bool.and_eq_true_iff.mp hg).1 | apply And.intro)), by exact trivial⟩)
  -- op 3.7 pick t29
  (refine st td_ok rfl rfl rfl rfl (r := .v _) rfl ?_ ?_; · first | (simp_all; done) | ((repeat' with_reducible apply And.intro) <;> with_reducible exact trivial))
  -- op 3.8 move t30
  refine st td_ok rfl rfl rfl rfl (r := .v _) rfl trivial ?_
  -- op 3.9 move t31 g['8', 'false']
  (refine sgk0 td_ok rfl rfl rfl rfl rfl rfl (r := .sl _ _ _) rfl ?_ ?_; · exact fun hg => ⟨by (repeat' (first | exact trivial | exact hg | exact (Bool.and_eq_true_iff.mp hg).1 | apply And.intro)), by exact trivial⟩)
  -- op 3.10 call t32 g['8', 'false']
  (refine sgk0 td_ok rfl rfl rfl rfl rfl rfl (r := .v _) rfl ?_ ?_; · exact fun hg => ⟨by (repeat' (first | exact trivial | exact hg | exact (Bool.and_eq_true_iff.mp hg).1 | apply And.intro)), by exact trivial⟩)
  -- op 3.11 move t33 g['8', 'false']
  (refine sgk0 td_ok rfl rfl rfl rfl rfl rfl (r := .sl _ _ _) rfl ?_ ?_; · exact fun hg => ⟨by (repeat' (first | exact trivial | exact hg | exact (Bool.and_eq_true_iff.mp hg).1 | apply And.intro)), by exact trivial⟩)
  -- op 3.12 call t34 g['8', 'false']
  (refine sgk0 td_ok rfl rfl rfl rfl rfl rfl (r := .v _) rfl ?_ ?_; · exact fun hg => ⟨by (repeat' (first | exact trivial | exact hg | exact (Bool.and_eq_true_iff.mp hg).1 | apply And.intro)), by exact trivial⟩)
  -- op 3.13 binOp t35 g['8', 'false']
  (refine sgk0 td_ok rfl rfl rfl rfl rfl rfl (r := .v _) rfl ?_ ?_; · exact fun hg => ⟨by (repeat' (first | exact trivial | exact hg | exact (Bool.and_eq_true_iff.mp hg).1 | apply And.intro)), by exact trivial⟩)
  -- op 3.14 pick t36
  (refine st td_ok rfl rfl rfl rfl (r := .v _) rfl ?_ ?_; · first | (simp_all; done) | ((repeat' with_reducible apply And.intro) <;> with_reducible exact trivial))
  refine AOps_nil ?_
  refine qn ?_
  refine AWP_cond rfl rfl (fun h0 => ?_) (fun h0 => ?_)
  ·
    simp at h0
  ·
    refine AWP_skip ?_
    refine qn ?_
    refine AWP_seq ?_
    refine AWP_seq ?_
    refine AWP_region ?_
    -- op 5.0 move t37
    refine st td_ok rfl rfl rfl rfl (r := .sl _ _ _) rfl trivial ?_
    -- op 5.1 call t38
    refine st td_ok rfl rfl rfl rfl (r := .v _) rfl trivial ?_
    -- op 5.2 move t39
    refine st td_ok rfl rfl rfl rfl (r := .v _) rfl trivial ?_
    refine AOps_nil ?_
    refine qn ?_
    refine AWP_block ?_
    -- loop: live [3, 6, 38, 39]
    refine AWP_for (fun (j : Nat) => [(3, .sl true 0 []), (6, .sl true 0 []), (38, .v (.int .i64 0)), (39, .v (.int .i64 j))]) (fun j X => X = XH.none ∧ j = 0) (fun j => j) 0 ⟨by (repeat' (first | exact rfl | exact trivial | apply And.intro)), ⟨rfl, rfl⟩⟩ ?_
    rintro j X ⟨rfl, rfl⟩
    refine AWP_seq ?_
    refine AWP_region ?_
    -- op 6.0 binOp t40
    refine st td_ok rfl rfl rfl rfl (r := .v _) rfl trivial ?_
    refine AOps_nil ?_
    refine qn ?_
    refine AWP_seq ?_
    refine AWP_cond rfl rfl (fun h1 => ?_) (fun h1 => ?_)
    ·
      simp at h1
    ·
      refine AWP_exit ?_
      refine qx ?_
      refine qx ?_
      refine qbh ?_
      refine qn ?_
      refine AWP_seq ?_
      refine AWP_region ?_
      -- op 11.0 call t80
      refine st_pcall rfl rfl rfl rfl rfl rfl rfl ⟨_, rfl, rfl, rfl⟩ (by first | exact awake_c) ?_
      -- op 11.1 assign t2
      refine st td_ok rfl rfl rfl rfl (r := .v _) rfl trivial ?_
      refine AOps_nil ?_
      refine qn ?_
      refine AWP_ret ?_
      -- ret 0
      refine ⟨_, _, _, _, rfl, trivial, GS.forget _ _, ?_⟩
      first | show AV.v _ = _ | show AV.tup _ = _ | show AV.sl _ _ _ = _ | show AV.agg _ = _ | skip
      rfl
theorem splits_c (s : ByteArray) (hb : s.size < 2 ^ 47) : PCalls Try.prog 4 [.v (.string s)] (.v (.bool true)) := by
  cases h : splitP s with
  | ok l => exact splits_ok s hb l h
  | err i e => exact splits_err s hb i e h
end Go.Proofs.Ytoiolofgcgkgiaa.V
