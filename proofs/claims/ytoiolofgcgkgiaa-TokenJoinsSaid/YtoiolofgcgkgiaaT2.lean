import Derived.Test.YtoiolofgcgkgiaaT1
namespace Go.Proofs.Ytoiolofgcgkgiaa.V
open Go
set_option linter.unusedSimpArgs false
set_option linter.unusedVariables false

/-- The value of digits, cut at a million and one; none if it is too great. -/
def valF (s : ByteArray) : Nat → Nat → Int → Option Int
  | 0, _, v => some v
  | k + 1, j, v => if v * 10 + (bt s j - 48) > 1000000 then none else valF s k (j + 1) (v * 10 + (bt s j - 48))
def digs (s : ByteArray) : Prop := ∀ j : Nat, j < s.size → 48 ≤ bt s j ∧ bt s j ≤ 57
theorem valF_go {s : ByteArray} {k j : Nat} {v : Int} (h : ¬ v * 10 + (bt s j - 48) > 1000000) : valF s (k + 1) j v = valF s k (j + 1) (v * 10 + (bt s j - 48)) := by simp only [valF]; rw [if_neg h]
theorem valF_stop {s : ByteArray} {k j : Nat} {v : Int} (h : v * 10 + (bt s j - 48) > 1000000) : valF s (k + 1) j v = none := by simp only [valF]; rw [if_pos h]
theorem u8c {n : Int} (h : 0 ≤ n ∧ n ≤ 255) : AV.v (.int .u8 (IntKind.u8.wrap n)) = AV.v (.int .u8 n) := by rw [IntWalk.u8_in n h]
theorem Value_c (s : ByteArray) (hd : digs s) (hb : s.size < 2 ^ 62) : PCalls Try.prog 18 [.v (.string s)] (.tup [.v (.int .i64 ((valF s s.size 0 0).getD 0)), .v (.bool (valF s s.size 0 0).isSome)]) := by
  refine calls_body td_ok Try.func18 rfl rfl rfl ?_
  refine AWP_seq ?_
  refine AWP_region ?_
  -- op 0.0 assign t2
  refine st td_ok rfl rfl rfl rfl (r := .v _) rfl trivial ?_
  -- op 0.1 assign t3
  refine st td_ok rfl rfl rfl rfl (r := .v _) rfl trivial ?_
  refine AOps_nil ?_
  refine qn ?_
  refine AWP_seq ?_
  refine AWP_region ?_
  -- op 1.0 assign t4
  refine st td_ok rfl rfl rfl rfl (r := .v _) rfl trivial ?_
  refine AOps_nil ?_
  refine qn ?_
  refine AWP_seq ?_
  refine AWP_seq ?_
  refine AWP_region ?_
  -- op 2.0 assign t5
  refine st td_ok rfl rfl rfl rfl (r := .v _) rfl trivial ?_
  refine AOps_nil ?_
  refine qn ?_
  refine AWP_block ?_
  -- loop: live [0, 4, 5]
  refine AWP_for (fun (x : Nat × Int) => [(0, .v (.string s)), (4, .v (.int .i64 x.2)), (5, .v (.int .i64 x.1))]) (fun x X => x.1 ≤ s.size ∧ 0 ≤ x.2 ∧ x.2 ≤ 1000000 ∧ valF s (s.size - x.1) x.1 x.2 = valF s s.size 0 0) (fun x => s.size - x.1) (0, 0) ⟨by (repeat' (first | exact rfl | exact trivial | apply And.intro)), ⟨by simp, by decide, by decide, rfl⟩⟩ ?_
  rintro x X hI
  refine AWP_seq ?_
  refine AWP_seq ?_
  refine AWP_region ?_
  -- op 3.0 move t6
  refine st td_ok rfl rfl rfl rfl (r := .v _) rfl trivial ?_
  -- op 3.1 move t7
  refine st td_ok rfl rfl rfl rfl (r := .v _) rfl trivial ?_
  -- op 3.2 call t8
  refine st td_ok rfl rfl rfl rfl (r := .v _) rfl trivial ?_
  -- op 3.3 binOp t9
  refine st td_ok rfl rfl rfl rfl (r := .v _) rfl trivial ?_
  refine AOps_nil ?_
  refine qn ?_
  refine AWP_cond rfl rfl (fun h0 => ?_) (fun h0 => ?_)
  ·
    refine AWP_skip ?_
    refine qn ?_
    refine AWP_seq ?_
    refine AWP_block ?_
    refine AWP_seq ?_
    have hdx := hd x.1 (by simp only [decide_eq_true_eq] at h0; omega)
    refine AWP_region ?_
    -- op 5.0 move t12
    refine st td_ok rfl rfl rfl rfl (r := .v _) rfl trivial ?_
    -- op 5.1 binOp t13
    refine st_eq td_ok rfl rfl rfl rfl (r := .v _) rfl trivial (w64 (by omega)) ?_
    -- op 5.2 move t14
    refine st td_ok rfl rfl rfl rfl (r := .v _) rfl trivial ?_
    -- op 5.3 move t15
    refine st td_ok rfl rfl rfl rfl (r := .v _) rfl trivial ?_
    -- op 5.4 index t16
    (refine st td_ok rfl rfl rfl rfl (r := .v _) rfl ?_ ?_; · ((repeat' with_reducible apply And.intro) <;> (first | omega | (simp only [cond_true, cond_false, nd, Option.getD_none, Option.getD_some, Int.toNat_natCast, strs_len, nums_len, List.length_append, tds2, tds3, tds4, tds5, tds9, tds12, tds21, tds23, tds24, tds27, tds30, tds31, tds32, tds34, tds51, tds55, decide_eq_true_eq, Bool.and_eq_true, Bool.not_eq_true', decide_eq_false_iff_not] at *; omega))))
    -- op 5.5 binOp t17
    refine st_eq td_ok rfl rfl rfl rfl (r := .v _) rfl trivial (u8c (by omega)) ?_
    -- op 5.6 convert t18
    refine st_eq td_ok rfl rfl rfl rfl (r := .v _) rfl trivial ((show AV.v (.int .i64 (IntKind.i64.wrap _)) = AV.v (.int .i64 (bt s x.1 - 48)) from w64 (by omega))) ?_
    -- op 5.7 binOp t19
    refine st_eq td_ok rfl rfl rfl rfl (r := .v _) rfl trivial (w64 (by omega)) ?_
    -- op 5.8 assign t4
    refine st td_ok rfl rfl rfl rfl (r := .v _) rfl trivial ?_
    refine AOps_nil ?_
    refine qn ?_
    refine AWP_seq ?_
    refine AWP_region ?_
    -- op 6.0 move t20
    refine st td_ok rfl rfl rfl rfl (r := .v _) rfl trivial ?_
    -- op 6.1 binOp t21
    refine st td_ok rfl rfl rfl rfl (r := .v _) rfl trivial ?_
    refine AOps_nil ?_
    refine qn ?_
    refine AWP_cond rfl rfl (fun h1 => ?_) (fun h1 => ?_)
    ·
      refine AWP_seq ?_
      refine AWP_region ?_
      -- op 7.0 assign t2
      refine st td_ok rfl rfl rfl rfl (r := .v _) rfl trivial ?_
      -- op 7.1 assign t3
      refine st td_ok rfl rfl rfl rfl (r := .v _) rfl trivial ?_
      refine AOps_nil ?_
      refine qn ?_
      refine AWP_ret ?_
      refine qbr ?_
      refine qr ?_
      refine qr ?_
      refine qbr ?_
      refine qr ?_
      -- ret 0
      refine ⟨_, _, _, _, rfl, trivial, GS.forget _ _, ?_⟩
      first | show AV.v _ = _ | show AV.tup _ = _ | show AV.sl _ _ _ = _ | show AV.agg _ = _ | skip
      simp only [decide_eq_true_eq] at h0 h1
      have hv := valF_stop (s := s) (k := s.size - (x.1 + 1)) (j := x.1) (v := x.2) h1
      rw [← hI.2.2.2, show s.size - x.1 = s.size - (x.1 + 1) + 1 by omega, hv]; rfl
    ·
      refine AWP_skip ?_
      refine qbn ?_
      refine qn ?_
      refine AWP_region ?_
      -- op 4.0 move t10
      refine st td_ok rfl rfl rfl rfl (r := .v _) rfl trivial ?_
      -- op 4.1 binOp t11
      refine st_eq td_ok rfl rfl rfl rfl (r := .v _) rfl trivial (w64 (by omega)) ?_
      -- op 4.2 assign t5
      refine st td_ok rfl rfl rfl rfl (r := .v _) rfl trivial ?_
      refine AOps_nil ?_
      -- back 0 (loop 3)
      refine qn ?_
      simp only [decide_eq_true_eq, decide_eq_false_iff_not] at h0 h1
      have hv := valF_go (s := s) (k := s.size - (x.1 + 1)) (j := x.1) (v := x.2) h1
      refine ⟨(x.1 + 1, x.2 * 10 + (bt s x.1 - 48)), by simp only []; omega, by (repeat' (first | exact rfl | exact trivial | apply And.intro)), by simp only []; omega, by simp only []; omega, by simp only []; omega, ?_⟩
      rw [← hI.2.2.2, show s.size - x.1 = s.size - (x.1 + 1) + 1 by omega, hv]
  ·
    refine AWP_exit ?_
    refine qx ?_
    refine qx ?_
    refine qbh ?_
    refine qn ?_
    refine AWP_seq ?_
    refine AWP_region ?_
    -- op 8.0 move t22
    refine st td_ok rfl rfl rfl rfl (r := .v _) rfl trivial ?_
    -- op 8.1 assign t2
    refine st td_ok rfl rfl rfl rfl (r := .v _) rfl trivial ?_
    -- op 8.2 assign t3
    refine st td_ok rfl rfl rfl rfl (r := .v _) rfl trivial ?_
    refine AOps_nil ?_
    refine qn ?_
    refine AWP_ret ?_
    -- ret 1
    refine ⟨_, _, _, _, rfl, trivial, GS.forget _ _, ?_⟩
    first | show AV.v _ = _ | show AV.tup _ = _ | show AV.sl _ _ _ = _ | show AV.agg _ = _ | skip
    simp only [decide_eq_false_iff_not] at h0
    rw [← hI.2.2.2, show s.size - x.1 = 0 by omega]; rfl


def signList : List Int := [40, 41, 44, 61, 124, 43, 45, 42, 47, 37, 60, 59, 95]
def signBytes : ByteArray := ⟨#[40, 41, 44, 61, 124, 43, 45, 42, 47, 37, 60, 59, 95]⟩
theorem signB (j : Nat) (h : j < 13) : signList[j]? = some (bt signBytes j) := by
  have : ∀ j : Fin 13, signList[j.1]? = some (bt signBytes j.1) := by decide
  exact this ⟨j, h⟩
theorem bif_two (a b c : Bool) : (bif bif a then true else b then true else c) = (bif a then true else bif b then true else c) := by cases a <;> rfl
theorem oneOf_no {c x : Int} {l : List Int} (h : (c == x) = false) : oneOf c (x :: l) = oneOf c l := by
  cases l with
  | nil => simp only [oneOf]; exact h
  | cons y l => simp only [oneOf, h]; rfl
theorem oneOf_yes {c x : Int} {l : List Int} (h : (c == x) = true) : oneOf c (x :: l) = true := by
  cases l with
  | nil => simp only [oneOf]; exact h
  | cons y l => simp only [oneOf, h]; rfl
theorem rsign_c (s : ByteArray) (hlen : 0 < s.size) : PCalls Try.prog 19 [.v (.string s)] (.v (.int .i64 (signN s : Nat))) := by
  refine calls_body td_ok Try.func19 rfl rfl rfl ?_
  refine AWP_seq ?_
  refine AWP_region ?_
  -- op 0.0 assign t2
  refine st td_ok rfl rfl rfl rfl (r := .v _) rfl trivial ?_
  refine AOps_nil ?_
  refine qn ?_
  refine AWP_seq ?_
  refine AWP_seq ?_
  refine AWP_region ?_
  -- op 1.0 move t5
  refine st td_ok rfl rfl rfl rfl (r := .v _) rfl trivial ?_
  -- op 1.1 call t6
  refine st td_ok rfl rfl rfl rfl (r := .v _) rfl trivial ?_
  -- op 1.2 binOp t7
  refine st td_ok rfl rfl rfl rfl (r := .v _) rfl trivial ?_
  -- op 1.3 move t8
  refine st td_ok rfl rfl rfl rfl (r := .v _) rfl trivial ?_
  -- op 1.4 move t9 g['3', 'true']
  (refine sgk0 td_ok rfl rfl rfl rfl rfl rfl (r := .v _) rfl ?_ ?_; · exact fun hg => ⟨by (repeat' (first | exact trivial | exact hg | exact (Bool.and_eq_true_iff.mp hg).1 | apply And.intro)), by exact trivial⟩)
  -- op 1.5 slice t10 g['3', 'true']
  (refine sgk0 td_ok rfl rfl rfl rfl rfl rfl (r := .v _) rfl ?_ ?_; · exact fun hg => ⟨by (repeat' (first | exact trivial | exact hg | exact (Bool.and_eq_true_iff.mp hg).1 | apply And.intro)), by ((repeat' with_reducible apply And.intro) <;> (first | with_reducible exact trivial | omega | exact Nat.le_of_ble_eq_true rfl | (simp only [cond_true, cond_false, nd, Option.getD_none, Option.getD_some, Int.toNat_natCast, strs_len, nums_len, List.length_append, tds2, tds3, tds4, tds5, tds9, tds12, tds21, tds23, tds24, tds27, tds30, tds31, tds32, tds34, tds51, tds55, decide_eq_true_eq, Bool.and_eq_true, Bool.not_eq_true', decide_eq_false_iff_not] at *; omega)))⟩)
  -- op 1.6 binOp t11 g['3', 'true']
  (refine sgk0 td_ok rfl rfl rfl rfl rfl rfl (r := .v _) rfl ?_ ?_; · exact fun hg => ⟨by (repeat' (first | exact trivial | exact hg | exact (Bool.and_eq_true_iff.mp hg).1 | apply And.intro)), by exact trivial⟩)
  -- op 1.7 move t12 g['3', 'true']
  (refine sgk0 td_ok rfl rfl rfl rfl rfl rfl (r := .v _) rfl ?_ ?_; · exact fun hg => ⟨by (repeat' (first | exact trivial | exact hg | exact (Bool.and_eq_true_iff.mp hg).1 | apply And.intro)), by exact trivial⟩)
  -- op 1.8 move t13 g['7', 'false']
  (refine sgk0 td_ok rfl rfl rfl rfl rfl rfl (r := .v _) rfl ?_ ?_; · exact fun hg => ⟨by (repeat' (first | exact trivial | exact hg | exact (Bool.and_eq_true_iff.mp hg).1 | apply And.intro)), by exact trivial⟩)
  -- op 1.9 slice t14 g['7', 'false']
  (refine sgk0 td_ok rfl rfl rfl rfl rfl rfl (r := .v _) rfl ?_ ?_; · exact fun hg => ⟨by (repeat' (first | exact trivial | exact hg | exact (Bool.and_eq_true_iff.mp hg).1 | apply And.intro)), by ((repeat' with_reducible apply And.intro) <;> (first | with_reducible exact trivial | omega | exact Nat.le_of_ble_eq_true rfl | (simp only [cond_true, cond_false, nd, Option.getD_none, Option.getD_some, Int.toNat_natCast, strs_len, nums_len, List.length_append, tds2, tds3, tds4, tds5, tds9, tds12, tds21, tds23, tds24, tds27, tds30, tds31, tds32, tds34, tds51, tds55, decide_eq_true_eq, Bool.and_eq_true, Bool.not_eq_true', decide_eq_false_iff_not] at *; omega)))⟩)
  -- op 1.10 binOp t15 g['7', 'false']
  (refine sgk0 td_ok rfl rfl rfl rfl rfl rfl (r := .v _) rfl ?_ ?_; · exact fun hg => ⟨by (repeat' (first | exact trivial | exact hg | exact (Bool.and_eq_true_iff.mp hg).1 | apply And.intro)), by exact trivial⟩)
  -- op 1.11 pick t16 g['3', 'true']
  (refine sgk0 td_ok rfl rfl rfl rfl rfl rfl (r := .v _) rfl ?_ ?_; · exact fun hg => ⟨by (repeat' (first | exact trivial | exact hg | exact (Bool.and_eq_true_iff.mp hg).1 | apply And.intro)), by first | (simp_all; done) | ((repeat' with_reducible apply And.intro) <;> with_reducible exact trivial)⟩)
  -- op 1.12 move t17 g['3', 'true']
  (refine sgk0 td_ok rfl rfl rfl rfl rfl rfl (r := .v _) rfl ?_ ?_; · exact fun hg => ⟨by (repeat' (first | exact trivial | exact hg | exact (Bool.and_eq_true_iff.mp hg).1 | apply And.intro)), by exact trivial⟩)
  -- op 1.13 move t18 g['12', 'false']
  (refine sgk0 td_ok rfl rfl rfl rfl rfl rfl (r := .v _) rfl ?_ ?_; · exact fun hg => ⟨by (repeat' (first | exact trivial | exact hg | exact (Bool.and_eq_true_iff.mp hg).1 | apply And.intro)), by exact trivial⟩)
  -- op 1.14 slice t19 g['12', 'false']
  (refine sgk0 td_ok rfl rfl rfl rfl rfl rfl (r := .v _) rfl ?_ ?_; · exact fun hg => ⟨by (repeat' (first | exact trivial | exact hg | exact (Bool.and_eq_true_iff.mp hg).1 | apply And.intro)), by ((repeat' with_reducible apply And.intro) <;> (first | with_reducible exact trivial | omega | exact Nat.le_of_ble_eq_true rfl | (simp only [cond_true, cond_false, nd, Option.getD_none, Option.getD_some, Int.toNat_natCast, strs_len, nums_len, List.length_append, tds2, tds3, tds4, tds5, tds9, tds12, tds21, tds23, tds24, tds27, tds30, tds31, tds32, tds34, tds51, tds55, decide_eq_true_eq, Bool.and_eq_true, Bool.not_eq_true', decide_eq_false_iff_not] at *; omega)))⟩)
  -- op 1.15 binOp t20 g['12', 'false']
  (refine sgk0 td_ok rfl rfl rfl rfl rfl rfl (r := .v _) rfl ?_ ?_; · exact fun hg => ⟨by (repeat' (first | exact trivial | exact hg | exact (Bool.and_eq_true_iff.mp hg).1 | apply And.intro)), by exact trivial⟩)
  -- op 1.16 pick t21 g['3', 'true']
  (refine sgk0 td_ok rfl rfl rfl rfl rfl rfl (r := .v _) rfl ?_ ?_; · exact fun hg => ⟨by (repeat' (first | exact trivial | exact hg | exact (Bool.and_eq_true_iff.mp hg).1 | apply And.intro)), by first | (simp_all; done) | ((repeat' with_reducible apply And.intro) <;> with_reducible exact trivial)⟩)
  -- op 1.17 pick t22
  (refine st td_ok rfl rfl rfl rfl (r := .v _) rfl ?_ ?_; · exact (fun h => h))
  refine AOps_nil ?_
  refine qn ?_
  refine AWP_cond rfl rfl (fun h0 => ?_) (fun h0 => ?_)
  ·
    have hs : signN s = 2 := by
      have e : (bif decide ((s.size : Int) ≥ 2) then isTwo (s.extract 0 2).toList else false) = true := by exact Eq.trans (by cases decide ((s.size : Int) ≥ 2) <;> first | rfl | exact (bif_two _ _ _).symm) h0
      unfold signN
      rw [if_pos]
      cases hd : decide ((s.size : Int) ≥ 2) with
      | false => rw [hd] at e; exact absurd e (by simp)
      | true =>
        rw [hd] at e
        have : decide ((s.size : Int) > 1) = true := by simp only [decide_eq_true_eq] at hd ⊢; omega
        rw [this]; exact e
    refine AWP_seq ?_
    refine AWP_region ?_
    -- op 2.0 assign t2
    refine st td_ok rfl rfl rfl rfl (r := .v _) rfl trivial ?_
    refine AOps_nil ?_
    refine qn ?_
    refine AWP_ret ?_
    refine qr ?_
    -- ret 0
    refine ⟨_, _, _, _, rfl, trivial, GS.forget _ _, ?_⟩
    first | show AV.v _ = _ | show AV.tup _ = _ | show AV.sl _ _ _ = _ | show AV.agg _ = _ | skip
    rw [hs]; rfl
  ·
    have hs : signN s = if isOne (bt s 0) then 1 else 0 := by
      have e : (bif decide ((s.size : Int) ≥ 2) then isTwo (s.extract 0 2).toList else false) = false := by exact Eq.trans (by cases decide ((s.size : Int) ≥ 2) <;> first | rfl | exact (bif_two _ _ _).symm) h0
      unfold signN
      rw [if_neg]
      cases hd : decide ((s.size : Int) ≥ 2) with
      | false =>
        have : decide ((s.size : Int) > 1) = false := by simp only [decide_eq_false_iff_not] at hd ⊢; omega
        rw [this]; simp
      | true => rw [hd] at e; rw [show isTwo (s.extract 0 2).toList = false from e]; simp
    clear h0
    refine AWP_skip ?_
    refine qn ?_
    refine AWP_seq ?_
    refine AWP_region ?_
    -- op 3.0 assign t3
    refine st td_ok rfl rfl rfl rfl (r := .v _) rfl trivial ?_
    refine AOps_nil ?_
    refine qn ?_
    refine AWP_seq ?_
    refine AWP_seq ?_
    refine AWP_region ?_
    -- op 4.0 assign t4
    refine st td_ok rfl rfl rfl rfl (r := .v _) rfl trivial ?_
    refine AOps_nil ?_
    refine qn ?_
    refine AWP_block ?_
    -- loop: live [0, 3, 4]
    obtain ⟨sb, hsb⟩ : ∃ sb, sb = signBytes := ⟨_, rfl⟩
    have hsz : sb.size = 13 := by rw [hsb]; rfl
    refine AWP_for (fun (j : Nat) => [(0, .v (.string s)), (3, .v (.string sb)), (4, .v (.int .i64 j))]) (fun j X => j ≤ 13 ∧ oneOf (bt s 0) (signList.drop j) = isOne (bt s 0)) (fun j => 13 - j) 0 ⟨by (subst hsb; (repeat' (first | exact rfl | exact trivial | apply And.intro))), ⟨by decide, rfl⟩⟩ ?_
    rintro j X hI
    refine AWP_seq ?_
    refine AWP_seq ?_
    refine AWP_region ?_
    -- op 5.0 move t23
    refine st td_ok rfl rfl rfl rfl (r := .v _) rfl trivial ?_
    -- op 5.1 move t24
    refine st td_ok rfl rfl rfl rfl (r := .v _) rfl trivial ?_
    -- op 5.2 call t25
    refine st td_ok rfl rfl rfl rfl (r := .v _) rfl trivial ?_
    -- op 5.3 binOp t26
    refine st td_ok rfl rfl rfl rfl (r := .v _) rfl trivial ?_
    refine AOps_nil ?_
    refine qn ?_
    refine AWP_cond rfl rfl (fun h1 => ?_) (fun h1 => ?_)
    ·
      refine AWP_skip ?_
      refine qn ?_
      refine AWP_seq ?_
      refine AWP_block ?_
      refine AWP_seq ?_
      refine AWP_drawn rfl rfl rfl rfl ?_
      -- op 7.0 move t29
      refine es td_ok rfl rfl rfl (r := .v _) rfl trivial (rfl) ?_
      -- op 7.1 index t30
      (refine es td_ok rfl rfl rfl (r := .v _) rfl ?_ (rfl) ?_; · ((repeat' with_reducible apply And.intro) <;> omega))
      -- op 7.2 move t31
      refine es td_ok rfl rfl rfl (r := .v _) rfl trivial (rfl) ?_
      -- op 7.3 move t32
      refine es td_ok rfl rfl rfl (r := .v _) rfl trivial (rfl) ?_
      -- op 7.4 index t33
      (refine es td_ok rfl rfl rfl (r := .v _) rfl ?_ (rfl) ?_; · ((repeat' with_reducible apply And.intro) <;> (first | omega | (simp only [cond_true, cond_false, nd, Option.getD_none, Option.getD_some, Int.toNat_natCast, strs_len, nums_len, List.length_append, tds2, tds3, tds4, tds5, tds9, tds12, tds21, tds23, tds24, tds27, tds30, tds31, tds32, tds34, tds51, tds55, decide_eq_true_eq, Bool.and_eq_true, Bool.not_eq_true', decide_eq_false_iff_not] at *; omega))))
      -- op 7.5 binOp t34
      refine es td_ok rfl rfl rfl (r := .v _) rfl trivial (rfl) ?_
      refine AOps_nil ?_
      refine qn ?_
      refine AWP_cond rfl rfl (fun h2 => ?_) (fun h2 => ?_)
      ·
        refine AWP_seq ?_
        refine AWP_region ?_
        -- op 8.0 assign t2
        refine st td_ok rfl rfl rfl rfl (r := .v _) rfl trivial ?_
        refine AOps_nil ?_
        refine qn ?_
        refine AWP_ret ?_
        refine qbr ?_
        refine qr ?_
        refine qr ?_
        refine qbr ?_
        refine qr ?_
        -- ret 1
        refine ⟨_, _, _, _, rfl, trivial, GS.forget _ _, ?_⟩
        first | show AV.v _ = _ | show AV.tup _ = _ | show AV.sl _ _ _ = _ | show AV.agg _ = _ | skip
        have hj : j < 13 := by simp only [decide_eq_true_eq] at h1; omega
        have hx := signB j hj
        have hlt : j < signList.length := hj
        have : isOne (bt s 0) = true := by
          rw [← hI.2, List.drop_eq_getElem_cons hlt]
          rw [List.getElem?_eq_getElem hlt, Option.some.injEq] at hx
          rw [hx, ← hsb]
          exact oneOf_yes h2
        rw [hs, this]; rfl
      ·
        refine AWP_skip ?_
        refine qbn ?_
        refine qn ?_
        refine AWP_region ?_
        -- op 6.0 move t27
        refine st td_ok rfl rfl rfl rfl (r := .v _) rfl trivial ?_
        -- op 6.1 binOp t28
        refine st_eq td_ok rfl rfl rfl rfl (r := .v _) rfl trivial (w64 (by omega)) ?_
        -- op 6.2 assign t4
        refine st td_ok rfl rfl rfl rfl (r := .v _) rfl trivial ?_
        refine AOps_nil ?_
        -- back 0 (loop 5)
        refine qn ?_
        have hj : j < 13 := by simp only [decide_eq_true_eq] at h1; omega
        refine ⟨j + 1, by omega, by (repeat' (first | exact rfl | exact trivial | apply And.intro)), by omega, ?_⟩
        have hx := signB j hj
        have hlt : j < signList.length := hj
        rw [← hI.2, List.drop_eq_getElem_cons hlt]
        rw [List.getElem?_eq_getElem hlt, Option.some.injEq] at hx
        rw [hx, ← hsb]
        exact (oneOf_no h2).symm
    ·
      refine AWP_exit ?_
      refine qx ?_
      refine qx ?_
      refine qbh ?_
      refine qn ?_
      refine AWP_seq ?_
      refine AWP_region ?_
      -- op 9.0 assign t2
      refine st td_ok rfl rfl rfl rfl (r := .v _) rfl trivial ?_
      refine AOps_nil ?_
      refine qn ?_
      refine AWP_ret ?_
      -- ret 2
      refine ⟨_, _, _, _, rfl, trivial, GS.forget _ _, ?_⟩
      first | show AV.v _ = _ | show AV.tup _ = _ | show AV.sl _ _ _ = _ | show AV.agg _ = _ | skip
      have hj : j = 13 := by simp only [decide_eq_false_iff_not] at h1; omega
      have : isOne (bt s 0) = false := by rw [← hI.2, hj]; rfl
      rw [hs, this]; rfl
end Go.Proofs.Ytoiolofgcgkgiaa.V
