import Derived.Test.YtoiolofgcgkgiaaVTab
namespace Go.Proofs.Ytoiolofgcgkgiaa.V
open Go
set_option linter.unusedSimpArgs false
set_option linter.unusedVariables false

def between (lo hi c : Int) : Bool := decide (c ≥ lo) && decide (c ≤ hi)
theorem bif_and (a b : Bool) : (bif a then b else false) = (a && b) := by cases a <;> rfl
theorem bif_or (a b : Bool) : (bif a then true else b) = (a || b) := by cases a <;> rfl

theorem small_c (c : Int) : PCalls Try.prog 20 [.v (.int .u8 c)] (.v (.bool (between 97 122 c))) := by
  refine calls_body td_ok Try.func20 rfl rfl rfl ?_
  refine AWP_seq ?_
  refine AWP_region ?_
  -- op 0.0 assign t2
  refine st td_ok rfl rfl rfl rfl (r := .v _) rfl trivial ?_
  refine AOps_nil ?_
  refine qn ?_
  refine AWP_seq ?_
  refine AWP_region ?_
  -- op 1.0 move t3
  refine st td_ok rfl rfl rfl rfl (r := .v _) rfl trivial ?_
  -- op 1.1 binOp t4
  refine st td_ok rfl rfl rfl rfl (r := .v _) rfl trivial ?_
  -- op 1.2 move t5
  refine st td_ok rfl rfl rfl rfl (r := .v _) rfl trivial ?_
  -- op 1.3 move t6 g['2', 'true']
  (refine sgk0 td_ok rfl rfl rfl rfl rfl rfl (r := .v _) rfl ?_ ?_; · exact fun hg => ⟨by (repeat' (first | exact trivial | exact hg | exact (Bool.and_eq_true_iff.mp hg).1 | apply And.intro)), by exact trivial⟩)
  -- op 1.4 binOp t7 g['2', 'true']
  (refine sgk0 td_ok rfl rfl rfl rfl rfl rfl (r := .v _) rfl ?_ ?_; · exact fun hg => ⟨by (repeat' (first | exact trivial | exact hg | exact (Bool.and_eq_true_iff.mp hg).1 | apply And.intro)), by exact trivial⟩)
  -- op 1.5 pick t8
  (refine st td_ok rfl rfl rfl rfl (r := .v _) rfl ?_ ?_; · exact (fun h => h))
  -- op 1.6 assign t2
  refine st td_ok rfl rfl rfl rfl (r := .v _) rfl trivial ?_
  refine AOps_nil ?_
  refine qn ?_
  refine AWP_ret ?_
  -- ret 0
  refine ⟨_, _, _, _, rfl, trivial, GS.forget _ _, ?_⟩
  first | show AV.v _ = _ | show AV.tup _ = _ | show AV.sl _ _ _ = _ | show AV.agg _ = _ | skip
  show AV.v (.bool (bif _ then _ else false)) = _
  rw [bif_and]; rfl

theorem great_c (c : Int) : PCalls Try.prog 21 [.v (.int .u8 c)] (.v (.bool (between 65 90 c))) := by
  refine calls_body td_ok Try.func21 rfl rfl rfl ?_
  refine AWP_seq ?_
  refine AWP_region ?_
  -- op 0.0 assign t2
  refine st td_ok rfl rfl rfl rfl (r := .v _) rfl trivial ?_
  refine AOps_nil ?_
  refine qn ?_
  refine AWP_seq ?_
  refine AWP_region ?_
  -- op 1.0 move t3
  refine st td_ok rfl rfl rfl rfl (r := .v _) rfl trivial ?_
  -- op 1.1 binOp t4
  refine st td_ok rfl rfl rfl rfl (r := .v _) rfl trivial ?_
  -- op 1.2 move t5
  refine st td_ok rfl rfl rfl rfl (r := .v _) rfl trivial ?_
  -- op 1.3 move t6 g['2', 'true']
  (refine sgk0 td_ok rfl rfl rfl rfl rfl rfl (r := .v _) rfl ?_ ?_; · exact fun hg => ⟨by (repeat' (first | exact trivial | exact hg | exact (Bool.and_eq_true_iff.mp hg).1 | apply And.intro)), by exact trivial⟩)
  -- op 1.4 binOp t7 g['2', 'true']
  (refine sgk0 td_ok rfl rfl rfl rfl rfl rfl (r := .v _) rfl ?_ ?_; · exact fun hg => ⟨by (repeat' (first | exact trivial | exact hg | exact (Bool.and_eq_true_iff.mp hg).1 | apply And.intro)), by exact trivial⟩)
  -- op 1.5 pick t8
  (refine st td_ok rfl rfl rfl rfl (r := .v _) rfl ?_ ?_; · exact (fun h => h))
  -- op 1.6 assign t2
  refine st td_ok rfl rfl rfl rfl (r := .v _) rfl trivial ?_
  refine AOps_nil ?_
  refine qn ?_
  refine AWP_ret ?_
  -- ret 0
  refine ⟨_, _, _, _, rfl, trivial, GS.forget _ _, ?_⟩
  first | show AV.v _ = _ | show AV.tup _ = _ | show AV.sl _ _ _ = _ | show AV.agg _ = _ | skip
  show AV.v (.bool (bif _ then _ else false)) = _
  rw [bif_and]; rfl

theorem digit_c (c : Int) : PCalls Try.prog 23 [.v (.int .u8 c)] (.v (.bool (between 48 57 c))) := by
  refine calls_body td_ok Try.func23 rfl rfl rfl ?_
  refine AWP_seq ?_
  refine AWP_region ?_
  -- op 0.0 assign t2
  refine st td_ok rfl rfl rfl rfl (r := .v _) rfl trivial ?_
  refine AOps_nil ?_
  refine qn ?_
  refine AWP_seq ?_
  refine AWP_region ?_
  -- op 1.0 move t3
  refine st td_ok rfl rfl rfl rfl (r := .v _) rfl trivial ?_
  -- op 1.1 binOp t4
  refine st td_ok rfl rfl rfl rfl (r := .v _) rfl trivial ?_
  -- op 1.2 move t5
  refine st td_ok rfl rfl rfl rfl (r := .v _) rfl trivial ?_
  -- op 1.3 move t6 g['2', 'true']
  (refine sgk0 td_ok rfl rfl rfl rfl rfl rfl (r := .v _) rfl ?_ ?_; · exact fun hg => ⟨by (repeat' (first | exact trivial | exact hg | exact (Bool.and_eq_true_iff.mp hg).1 | apply And.intro)), by exact trivial⟩)
  -- op 1.4 binOp t7 g['2', 'true']
  (refine sgk0 td_ok rfl rfl rfl rfl rfl rfl (r := .v _) rfl ?_ ?_; · exact fun hg => ⟨by (repeat' (first | exact trivial | exact hg | exact (Bool.and_eq_true_iff.mp hg).1 | apply And.intro)), by exact trivial⟩)
  -- op 1.5 pick t8
  (refine st td_ok rfl rfl rfl rfl (r := .v _) rfl ?_ ?_; · exact (fun h => h))
  -- op 1.6 assign t2
  refine st td_ok rfl rfl rfl rfl (r := .v _) rfl trivial ?_
  refine AOps_nil ?_
  refine qn ?_
  refine AWP_ret ?_
  -- ret 0
  refine ⟨_, _, _, _, rfl, trivial, GS.forget _ _, ?_⟩
  first | show AV.v _ = _ | show AV.tup _ = _ | show AV.sl _ _ _ = _ | show AV.agg _ = _ | skip
  show AV.v (.bool (bif _ then _ else false)) = _
  rw [bif_and]; rfl

theorem lower_c (c : Int) : PCalls Try.prog 15 [.v (.int .u8 c)] (.v (.bool (between 97 122 c))) := by
  refine calls_body td_ok Try.func15 rfl rfl rfl ?_
  refine AWP_seq ?_
  refine AWP_region ?_
  -- op 0.0 assign t2
  refine st td_ok rfl rfl rfl rfl (r := .v _) rfl trivial ?_
  refine AOps_nil ?_
  refine qn ?_
  refine AWP_seq ?_
  refine AWP_region ?_
  -- op 1.0 move t3
  refine st td_ok rfl rfl rfl rfl (r := .v _) rfl trivial ?_
  -- op 1.1 binOp t4
  refine st td_ok rfl rfl rfl rfl (r := .v _) rfl trivial ?_
  -- op 1.2 move t5
  refine st td_ok rfl rfl rfl rfl (r := .v _) rfl trivial ?_
  -- op 1.3 move t6 g['2', 'true']
  (refine sgk0 td_ok rfl rfl rfl rfl rfl rfl (r := .v _) rfl ?_ ?_; · exact fun hg => ⟨by (repeat' (first | exact trivial | exact hg | exact (Bool.and_eq_true_iff.mp hg).1 | apply And.intro)), by exact trivial⟩)
  -- op 1.4 binOp t7 g['2', 'true']
  (refine sgk0 td_ok rfl rfl rfl rfl rfl rfl (r := .v _) rfl ?_ ?_; · exact fun hg => ⟨by (repeat' (first | exact trivial | exact hg | exact (Bool.and_eq_true_iff.mp hg).1 | apply And.intro)), by exact trivial⟩)
  -- op 1.5 pick t8
  (refine st td_ok rfl rfl rfl rfl (r := .v _) rfl ?_ ?_; · exact (fun h => h))
  -- op 1.6 assign t2
  refine st td_ok rfl rfl rfl rfl (r := .v _) rfl trivial ?_
  refine AOps_nil ?_
  refine qn ?_
  refine AWP_ret ?_
  -- ret 0
  refine ⟨_, _, _, _, rfl, trivial, GS.forget _ _, ?_⟩
  first | show AV.v _ = _ | show AV.tup _ = _ | show AV.sl _ _ _ = _ | show AV.agg _ = _ | skip
  show AV.v (.bool (bif _ then _ else false)) = _
  rw [bif_and]; rfl

theorem upper_c (c : Int) : PCalls Try.prog 16 [.v (.int .u8 c)] (.v (.bool (between 65 90 c))) := by
  refine calls_body td_ok Try.func16 rfl rfl rfl ?_
  refine AWP_seq ?_
  refine AWP_region ?_
  -- op 0.0 assign t2
  refine st td_ok rfl rfl rfl rfl (r := .v _) rfl trivial ?_
  refine AOps_nil ?_
  refine qn ?_
  refine AWP_seq ?_
  refine AWP_region ?_
  -- op 1.0 move t3
  refine st td_ok rfl rfl rfl rfl (r := .v _) rfl trivial ?_
  -- op 1.1 binOp t4
  refine st td_ok rfl rfl rfl rfl (r := .v _) rfl trivial ?_
  -- op 1.2 move t5
  refine st td_ok rfl rfl rfl rfl (r := .v _) rfl trivial ?_
  -- op 1.3 move t6 g['2', 'true']
  (refine sgk0 td_ok rfl rfl rfl rfl rfl rfl (r := .v _) rfl ?_ ?_; · exact fun hg => ⟨by (repeat' (first | exact trivial | exact hg | exact (Bool.and_eq_true_iff.mp hg).1 | apply And.intro)), by exact trivial⟩)
  -- op 1.4 binOp t7 g['2', 'true']
  (refine sgk0 td_ok rfl rfl rfl rfl rfl rfl (r := .v _) rfl ?_ ?_; · exact fun hg => ⟨by (repeat' (first | exact trivial | exact hg | exact (Bool.and_eq_true_iff.mp hg).1 | apply And.intro)), by exact trivial⟩)
  -- op 1.5 pick t8
  (refine st td_ok rfl rfl rfl rfl (r := .v _) rfl ?_ ?_; · exact (fun h => h))
  -- op 1.6 assign t2
  refine st td_ok rfl rfl rfl rfl (r := .v _) rfl trivial ?_
  refine AOps_nil ?_
  refine qn ?_
  refine AWP_ret ?_
  -- ret 0
  refine ⟨_, _, _, _, rfl, trivial, GS.forget _ _, ?_⟩
  first | show AV.v _ = _ | show AV.tup _ = _ | show AV.sl _ _ _ = _ | show AV.agg _ = _ | skip
  show AV.v (.bool (bif _ then _ else false)) = _
  rw [bif_and]; rfl

theorem rdigit_c (c : Int) : PCalls Try.prog 17 [.v (.int .u8 c)] (.v (.bool (between 48 57 c))) := by
  refine calls_body td_ok Try.func17 rfl rfl rfl ?_
  refine AWP_seq ?_
  refine AWP_region ?_
  -- op 0.0 assign t2
  refine st td_ok rfl rfl rfl rfl (r := .v _) rfl trivial ?_
  refine AOps_nil ?_
  refine qn ?_
  refine AWP_seq ?_
  refine AWP_region ?_
  -- op 1.0 move t3
  refine st td_ok rfl rfl rfl rfl (r := .v _) rfl trivial ?_
  -- op 1.1 binOp t4
  refine st td_ok rfl rfl rfl rfl (r := .v _) rfl trivial ?_
  -- op 1.2 move t5
  refine st td_ok rfl rfl rfl rfl (r := .v _) rfl trivial ?_
  -- op 1.3 move t6 g['2', 'true']
  (refine sgk0 td_ok rfl rfl rfl rfl rfl rfl (r := .v _) rfl ?_ ?_; · exact fun hg => ⟨by (repeat' (first | exact trivial | exact hg | exact (Bool.and_eq_true_iff.mp hg).1 | apply And.intro)), by exact trivial⟩)
  -- op 1.4 binOp t7 g['2', 'true']
  (refine sgk0 td_ok rfl rfl rfl rfl rfl rfl (r := .v _) rfl ?_ ?_; · exact fun hg => ⟨by (repeat' (first | exact trivial | exact hg | exact (Bool.and_eq_true_iff.mp hg).1 | apply And.intro)), by exact trivial⟩)
  -- op 1.5 pick t8
  (refine st td_ok rfl rfl rfl rfl (r := .v _) rfl ?_ ?_; · exact (fun h => h))
  -- op 1.6 assign t2
  refine st td_ok rfl rfl rfl rfl (r := .v _) rfl trivial ?_
  refine AOps_nil ?_
  refine qn ?_
  refine AWP_ret ?_
  -- ret 0
  refine ⟨_, _, _, _, rfl, trivial, GS.forget _ _, ?_⟩
  first | show AV.v _ = _ | show AV.tup _ = _ | show AV.sl _ _ _ = _ | show AV.agg _ = _ | skip
  show AV.v (.bool (bif _ then _ else false)) = _
  rw [bif_and]; rfl

def isPart (c : Int) : Bool := between 97 122 c || between 65 90 c || between 48 57 c || decide (c = 95)
theorem part_c (c : Int) : PCalls Try.prog 22 [.v (.int .u8 c)] (.v (.bool (isPart c))) := by
  refine calls_body td_ok Try.func22 rfl rfl rfl ?_
  refine AWP_seq ?_
  refine AWP_region ?_
  -- op 0.0 assign t2
  refine st td_ok rfl rfl rfl rfl (r := .v _) rfl trivial ?_
  refine AOps_nil ?_
  refine qn ?_
  refine AWP_seq ?_
  refine AWP_region ?_
  -- op 1.0 move t3
  refine st td_ok rfl rfl rfl rfl (r := .v _) rfl trivial ?_
  -- op 1.1 call t4
  refine st_pcall rfl rfl rfl rfl rfl rfl rfl ⟨_, rfl, rfl, rfl⟩ (by first | exact small_c _ | exact great_c _ | exact digit_c _) ?_
  -- op 1.2 move t5
  refine st td_ok rfl rfl rfl rfl (r := .v _) rfl trivial ?_
  -- op 1.3 move t6 g['2', 'false']
  (refine sgk0 td_ok rfl rfl rfl rfl rfl rfl (r := .v _) rfl ?_ ?_; · exact fun hg => ⟨by (repeat' (first | exact trivial | exact hg | exact (Bool.and_eq_true_iff.mp hg).1 | apply And.intro)), by exact trivial⟩)
  -- op 1.4 call t7 g['2', 'false']
  refine stg_call rfl rfl rfl rfl rfl rfl rfl rfl (fun hg => ⟨by (repeat' (first | exact trivial | exact hg | exact (Bool.and_eq_true_iff.mp hg).1 | apply And.intro)), rfl, ⟨_, rfl, rfl, rfl⟩, (by first | exact small_c _ | exact great_c _ | exact digit_c _)⟩) ?_
  -- op 1.5 pick t8
  (refine st td_ok rfl rfl rfl rfl (r := .v _) rfl ?_ ?_; · first | (simp_all; done) | ((repeat' with_reducible apply And.intro) <;> with_reducible exact trivial))
  -- op 1.6 move t9
  refine st td_ok rfl rfl rfl rfl (r := .v _) rfl trivial ?_
  -- op 1.7 move t10 g['6', 'false']
  (refine sgk0 td_ok rfl rfl rfl rfl rfl rfl (r := .v _) rfl ?_ ?_; · exact fun hg => ⟨by (repeat' (first | exact trivial | exact hg | exact (Bool.and_eq_true_iff.mp hg).1 | apply And.intro)), by exact trivial⟩)
  -- op 1.8 call t11 g['6', 'false']
  refine stg_call rfl rfl rfl rfl rfl rfl rfl rfl (fun hg => ⟨by (repeat' (first | exact trivial | exact hg | exact (Bool.and_eq_true_iff.mp hg).1 | apply And.intro)), rfl, ⟨_, rfl, rfl, rfl⟩, (by first | exact small_c _ | exact great_c _ | exact digit_c _)⟩) ?_
  -- op 1.9 pick t12
  (refine st td_ok rfl rfl rfl rfl (r := .v _) rfl ?_ ?_; · first | (simp_all; done) | ((repeat' with_reducible apply And.intro) <;> with_reducible exact trivial))
  -- op 1.10 move t13
  refine st td_ok rfl rfl rfl rfl (r := .v _) rfl trivial ?_
  -- op 1.11 move t14 g['10', 'false']
  (refine sgk0 td_ok rfl rfl rfl rfl rfl rfl (r := .v _) rfl ?_ ?_; · exact fun hg => ⟨by (repeat' (first | exact trivial | exact hg | exact (Bool.and_eq_true_iff.mp hg).1 | apply And.intro)), by exact trivial⟩)
  -- op 1.12 binOp t15 g['10', 'false']
  (refine sgk0 td_ok rfl rfl rfl rfl rfl rfl (r := .v _) rfl ?_ ?_; · exact fun hg => ⟨by (repeat' (first | exact trivial | exact hg | exact (Bool.and_eq_true_iff.mp hg).1 | apply And.intro)), by exact trivial⟩)
  -- op 1.13 pick t16
  (refine st td_ok rfl rfl rfl rfl (r := .v _) rfl ?_ ?_; · first | (simp_all; done) | ((repeat' with_reducible apply And.intro) <;> with_reducible exact trivial))
  -- op 1.14 assign t2
  refine st td_ok rfl rfl rfl rfl (r := .v _) rfl trivial ?_
  refine AOps_nil ?_
  refine qn ?_
  refine AWP_ret ?_
  -- ret 0
  refine ⟨_, _, _, _, rfl, trivial, GS.forget _ _, ?_⟩
  first | show AV.v _ = _ | show AV.tup _ = _ | show AV.sl _ _ _ = _ | show AV.agg _ = _ | skip
  show AV.v (.bool (bif (bif (bif _ then true else _) then true else _) then true else _)) = _
  simp only [bif_or]; rfl

def oneOf (c : Int) : List Int → Bool
  | [] => false
  | [x] => c == x
  | x :: l => bif c == x then true else oneOf c l
def isTwo (l : List UInt8) : Bool := bif l == (⟨#[45, 62]⟩ : ByteArray).toList then true else bif l == (⟨#[60, 61]⟩ : ByteArray).toList then true else l == (⟨#[61, 61]⟩ : ByteArray).toList
def isOne (c : Int) : Bool := oneOf c [40, 41, 44, 61, 124, 43, 45, 42, 47, 37, 60, 59, 95]
def signN (s : ByteArray) : Nat := if decide ((s.size : Int) > 1) && isTwo (s.extract 0 2).toList then 2 else if isOne (bt s 0) then 1 else 0
theorem sign_c (s : ByteArray) (hlen : 0 < s.size) : PCalls Try.prog 24 [.v (.string s)] (.v (.string (if signN s = 0 then ⟨#[]⟩ else s.extract 0 (signN s)))) := by
  refine calls_body td_ok Try.func24 rfl rfl rfl ?_
  refine AWP_seq ?_
  refine AWP_region ?_
  -- op 0.0 assign t2
  refine st td_ok rfl rfl rfl rfl (r := .v _) rfl trivial ?_
  refine AOps_nil ?_
  refine qn ?_
  -- joins: live [0]
  refine AWP_cut (fun (_ : Unit) => [(0, .v (.string s))]) (fun _ X => (decide ((s.size : Int) > 1) && isTwo (s.extract 0 2).toList) = false) ?_ ?_
  ·
    refine AWP_seq ?_
    refine AWP_region ?_
    -- op 1.0 move t3
    refine st td_ok rfl rfl rfl rfl (r := .v _) rfl trivial ?_
    -- op 1.1 call t4
    refine st td_ok rfl rfl rfl rfl (r := .v _) rfl trivial ?_
    -- op 1.2 binOp t5
    refine st td_ok rfl rfl rfl rfl (r := .v _) rfl trivial ?_
    refine AOps_nil ?_
    refine qn ?_
    refine AWP_cond rfl rfl (fun h0 => ?_) (fun h0 => ?_)
    ·
      refine AWP_seq ?_
      refine AWP_region ?_
      -- op 2.0 move t6
      refine st td_ok rfl rfl rfl rfl (r := .v _) rfl trivial ?_
      -- op 2.1 slice t7
      (refine st td_ok rfl rfl rfl rfl (r := .v _) rfl ?_ ?_; · ((repeat' with_reducible apply And.intro) <;> (first | with_reducible exact trivial | omega | exact Nat.le_of_ble_eq_true rfl | (simp only [cond_true, cond_false, nd, Option.getD_none, Option.getD_some, Int.toNat_natCast, strs_len, nums_len, List.length_append, tds2, tds3, tds4, tds5, tds9, tds12, tds21, tds23, tds24, tds27, tds30, tds31, tds32, tds34, tds51, tds55, decide_eq_true_eq, Bool.and_eq_true, Bool.not_eq_true', decide_eq_false_iff_not] at *; omega))))
      refine AOps_nil ?_
      refine qn ?_
      refine AWP_block ?_
      -- joins: live [0, 8]
      refine AWP_cut (fun (b : Bool) => [(0, .v (.string s)), (8, .v (.bool b))]) (fun b X => b = isTwo (s.extract 0 2).toList) ?_ ?_
      ·
        refine AWP_seq ?_
        refine AWP_region ?_
        -- op 3.0 binOp t9
        refine st td_ok rfl rfl rfl rfl (r := .v _) rfl trivial ?_
        -- op 3.1 assign t8
        refine st td_ok rfl rfl rfl rfl (r := .v _) rfl trivial ?_
        refine AOps_nil ?_
        refine qn ?_
        refine AWP_cond rfl rfl (fun h1 => ?_) (fun h1 => ?_)
        ·
          refine AWP_skip ?_
          -- join 0 (cut 3)
          refine qn ?_
          refine ⟨_, by (repeat' (first | exact rfl | exact trivial | apply And.intro)), ?_⟩
          repeat (first | exact rfl | exact trivial | exact orL | exact orT (by assumption) (by assumption) | refine orF (by assumption) ?_)
        ·
          refine AWP_seq ?_
          refine AWP_region ?_
          -- op 4.0 binOp t10
          refine st td_ok rfl rfl rfl rfl (r := .v _) rfl trivial ?_
          -- op 4.1 assign t8
          refine st td_ok rfl rfl rfl rfl (r := .v _) rfl trivial ?_
          refine AOps_nil ?_
          refine qn ?_
          refine AWP_cond rfl rfl (fun h2 => ?_) (fun h2 => ?_)
          ·
            refine AWP_skip ?_
            -- join 1 (cut 3)
            refine qn ?_
            refine ⟨_, by (repeat' (first | exact rfl | exact trivial | apply And.intro)), ?_⟩
            repeat (first | exact rfl | exact trivial | exact orL | exact orT (by assumption) (by assumption) | refine orF (by assumption) ?_)
          ·
            refine AWP_region ?_
            -- op 5.0 binOp t11
            refine st td_ok rfl rfl rfl rfl (r := .v _) rfl trivial ?_
            -- op 5.1 assign t8
            refine st td_ok rfl rfl rfl rfl (r := .v _) rfl trivial ?_
            refine AOps_nil ?_
            -- join 2 (cut 3)
            refine qn ?_
            refine ⟨_, by (repeat' (first | exact rfl | exact trivial | apply And.intro)), ?_⟩
            repeat (first | exact rfl | exact trivial | exact orL | exact orT (by assumption) (by assumption) | refine orF (by assumption) ?_)
      ·
        rintro b X hb
        refine AWP_cond rfl rfl (fun h3 => ?_) (fun h3 => ?_)
        ·
          refine AWP_seq ?_
          refine AWP_region ?_
          -- op 6.0 move t12
          refine st td_ok rfl rfl rfl rfl (r := .v _) rfl trivial ?_
          -- op 6.1 slice t13
          (refine st td_ok rfl rfl rfl rfl (r := .v _) rfl ?_ ?_; · ((repeat' with_reducible apply And.intro) <;> (first | with_reducible exact trivial | omega | exact Nat.le_of_ble_eq_true rfl | (simp only [cond_true, cond_false, nd, Option.getD_none, Option.getD_some, Int.toNat_natCast, strs_len, nums_len, List.length_append, tds2, tds3, tds4, tds5, tds9, tds12, tds21, tds23, tds24, tds27, tds30, tds31, tds32, tds34, tds51, tds55, decide_eq_true_eq, Bool.and_eq_true, Bool.not_eq_true', decide_eq_false_iff_not] at *; omega))))
          -- op 6.2 assign t2
          refine st td_ok rfl rfl rfl rfl (r := .v _) rfl trivial ?_
          refine AOps_nil ?_
          refine qn ?_
          refine AWP_ret ?_
          refine qbr ?_
          refine qr ?_
          -- ret 0
          refine ⟨_, _, _, _, rfl, trivial, GS.forget _ _, ?_⟩
          first | show AV.v _ = _ | show AV.tup _ = _ | show AV.sl _ _ _ = _ | show AV.agg _ = _ | skip
          have : signN s = 2 := by unfold signN; rw [← hb, h3, h0]; rfl
          rw [this]; rfl
        ·
          refine AWP_skip ?_
          refine qbn ?_
          -- join 3 (cut 1)
          refine qn ?_
          exact ⟨(), by (repeat' (first | exact rfl | exact trivial | apply And.intro)), by rw [← hb, h3]; simp⟩
    ·
      refine AWP_skip ?_
      -- join 4 (cut 1)
      refine qn ?_
      exact ⟨(), by (repeat' (first | exact rfl | exact trivial | apply And.intro)), by rw [h0]; rfl⟩
  ·
    rintro _ X hI
    refine AWP_seq ?_
    refine AWP_seq ?_
    refine AWP_region ?_
    -- op 7.0 move t14
    refine st td_ok rfl rfl rfl rfl (r := .v _) rfl trivial ?_
    -- op 7.1 index t15
    (refine st td_ok rfl rfl rfl rfl (r := .v _) rfl ?_ ?_; · ((repeat' with_reducible apply And.intro) <;> omega))
    refine AOps_nil ?_
    refine qn ?_
    refine AWP_block ?_
    -- joins: live [0, 16]
    refine AWP_cut (fun (b : Bool) => [(0, .v (.string s)), (16, .v (.bool b))]) (fun b X => b = isOne (bt s 0)) ?_ ?_
    ·
      refine AWP_seq ?_
      refine AWP_region ?_
      -- op 8.0 binOp t17
      refine st td_ok rfl rfl rfl rfl (r := .v _) rfl trivial ?_
      -- op 8.1 assign t16
      refine st td_ok rfl rfl rfl rfl (r := .v _) rfl trivial ?_
      refine AOps_nil ?_
      refine qn ?_
      refine AWP_cond rfl rfl (fun h4 => ?_) (fun h4 => ?_)
      ·
        refine AWP_skip ?_
        -- join 5 (cut 8)
        refine qn ?_
        refine ⟨_, by (repeat' (first | exact rfl | exact trivial | apply And.intro)), ?_⟩
        repeat (first | exact rfl | exact trivial | exact orL | exact orT (by assumption) (by assumption) | refine orF (by assumption) ?_)
      ·
        refine AWP_seq ?_
        refine AWP_region ?_
        -- op 9.0 binOp t18
        refine st td_ok rfl rfl rfl rfl (r := .v _) rfl trivial ?_
        -- op 9.1 assign t16
        refine st td_ok rfl rfl rfl rfl (r := .v _) rfl trivial ?_
        refine AOps_nil ?_
        refine qn ?_
        refine AWP_cond rfl rfl (fun h5 => ?_) (fun h5 => ?_)
        ·
          refine AWP_skip ?_
          -- join 6 (cut 8)
          refine qn ?_
          refine ⟨_, by (repeat' (first | exact rfl | exact trivial | apply And.intro)), ?_⟩
          repeat (first | exact rfl | exact trivial | exact orL | exact orT (by assumption) (by assumption) | refine orF (by assumption) ?_)
        ·
          refine AWP_seq ?_
          refine AWP_region ?_
          -- op 10.0 binOp t19
          refine st td_ok rfl rfl rfl rfl (r := .v _) rfl trivial ?_
          -- op 10.1 assign t16
          refine st td_ok rfl rfl rfl rfl (r := .v _) rfl trivial ?_
          refine AOps_nil ?_
          refine qn ?_
          refine AWP_cond rfl rfl (fun h6 => ?_) (fun h6 => ?_)
          ·
            refine AWP_skip ?_
            -- join 7 (cut 8)
            refine qn ?_
            refine ⟨_, by (repeat' (first | exact rfl | exact trivial | apply And.intro)), ?_⟩
            repeat (first | exact rfl | exact trivial | exact orL | exact orT (by assumption) (by assumption) | refine orF (by assumption) ?_)
          ·
            refine AWP_seq ?_
            refine AWP_region ?_
            -- op 11.0 binOp t20
            refine st td_ok rfl rfl rfl rfl (r := .v _) rfl trivial ?_
            -- op 11.1 assign t16
            refine st td_ok rfl rfl rfl rfl (r := .v _) rfl trivial ?_
            refine AOps_nil ?_
            refine qn ?_
            refine AWP_cond rfl rfl (fun h7 => ?_) (fun h7 => ?_)
            ·
              refine AWP_skip ?_
              -- join 8 (cut 8)
              refine qn ?_
              refine ⟨_, by (repeat' (first | exact rfl | exact trivial | apply And.intro)), ?_⟩
              repeat (first | exact rfl | exact trivial | exact orL | exact orT (by assumption) (by assumption) | refine orF (by assumption) ?_)
            ·
              refine AWP_seq ?_
              refine AWP_region ?_
              -- op 12.0 binOp t21
              refine st td_ok rfl rfl rfl rfl (r := .v _) rfl trivial ?_
              -- op 12.1 assign t16
              refine st td_ok rfl rfl rfl rfl (r := .v _) rfl trivial ?_
              refine AOps_nil ?_
              refine qn ?_
              refine AWP_cond rfl rfl (fun h8 => ?_) (fun h8 => ?_)
              ·
                refine AWP_skip ?_
                -- join 9 (cut 8)
                refine qn ?_
                refine ⟨_, by (repeat' (first | exact rfl | exact trivial | apply And.intro)), ?_⟩
                repeat (first | exact rfl | exact trivial | exact orL | exact orT (by assumption) (by assumption) | refine orF (by assumption) ?_)
              ·
                refine AWP_seq ?_
                refine AWP_region ?_
                -- op 13.0 binOp t22
                refine st td_ok rfl rfl rfl rfl (r := .v _) rfl trivial ?_
                -- op 13.1 assign t16
                refine st td_ok rfl rfl rfl rfl (r := .v _) rfl trivial ?_
                refine AOps_nil ?_
                refine qn ?_
                refine AWP_cond rfl rfl (fun h9 => ?_) (fun h9 => ?_)
                ·
                  refine AWP_skip ?_
                  -- join 10 (cut 8)
                  refine qn ?_
                  refine ⟨_, by (repeat' (first | exact rfl | exact trivial | apply And.intro)), ?_⟩
                  repeat (first | exact rfl | exact trivial | exact orL | exact orT (by assumption) (by assumption) | refine orF (by assumption) ?_)
                ·
                  refine AWP_seq ?_
                  refine AWP_region ?_
                  -- op 14.0 binOp t23
                  refine st td_ok rfl rfl rfl rfl (r := .v _) rfl trivial ?_
                  -- op 14.1 assign t16
                  refine st td_ok rfl rfl rfl rfl (r := .v _) rfl trivial ?_
                  refine AOps_nil ?_
                  refine qn ?_
                  refine AWP_cond rfl rfl (fun h10 => ?_) (fun h10 => ?_)
                  ·
                    refine AWP_skip ?_
                    -- join 11 (cut 8)
                    refine qn ?_
                    refine ⟨_, by (repeat' (first | exact rfl | exact trivial | apply And.intro)), ?_⟩
                    repeat (first | exact rfl | exact trivial | exact orL | exact orT (by assumption) (by assumption) | refine orF (by assumption) ?_)
                  ·
                    refine AWP_seq ?_
                    refine AWP_region ?_
                    -- op 15.0 binOp t24
                    refine st td_ok rfl rfl rfl rfl (r := .v _) rfl trivial ?_
                    -- op 15.1 assign t16
                    refine st td_ok rfl rfl rfl rfl (r := .v _) rfl trivial ?_
                    refine AOps_nil ?_
                    refine qn ?_
                    refine AWP_cond rfl rfl (fun h11 => ?_) (fun h11 => ?_)
                    ·
                      refine AWP_skip ?_
                      -- join 12 (cut 8)
                      refine qn ?_
                      refine ⟨_, by (repeat' (first | exact rfl | exact trivial | apply And.intro)), ?_⟩
                      repeat (first | exact rfl | exact trivial | exact orL | exact orT (by assumption) (by assumption) | refine orF (by assumption) ?_)
                    ·
                      refine AWP_seq ?_
                      refine AWP_region ?_
                      -- op 16.0 binOp t25
                      refine st td_ok rfl rfl rfl rfl (r := .v _) rfl trivial ?_
                      -- op 16.1 assign t16
                      refine st td_ok rfl rfl rfl rfl (r := .v _) rfl trivial ?_
                      refine AOps_nil ?_
                      refine qn ?_
                      refine AWP_cond rfl rfl (fun h12 => ?_) (fun h12 => ?_)
                      ·
                        refine AWP_skip ?_
                        -- join 13 (cut 8)
                        refine qn ?_
                        refine ⟨_, by (repeat' (first | exact rfl | exact trivial | apply And.intro)), ?_⟩
                        repeat (first | exact rfl | exact trivial | exact orL | exact orT (by assumption) (by assumption) | refine orF (by assumption) ?_)
                      ·
                        refine AWP_seq ?_
                        refine AWP_region ?_
                        -- op 17.0 binOp t26
                        refine st td_ok rfl rfl rfl rfl (r := .v _) rfl trivial ?_
                        -- op 17.1 assign t16
                        refine st td_ok rfl rfl rfl rfl (r := .v _) rfl trivial ?_
                        refine AOps_nil ?_
                        refine qn ?_
                        refine AWP_cond rfl rfl (fun h13 => ?_) (fun h13 => ?_)
                        ·
                          refine AWP_skip ?_
                          -- join 14 (cut 8)
                          refine qn ?_
                          refine ⟨_, by (repeat' (first | exact rfl | exact trivial | apply And.intro)), ?_⟩
                          repeat (first | exact rfl | exact trivial | exact orL | exact orT (by assumption) (by assumption) | refine orF (by assumption) ?_)
                        ·
                          refine AWP_seq ?_
                          refine AWP_region ?_
                          -- op 18.0 binOp t27
                          refine st td_ok rfl rfl rfl rfl (r := .v _) rfl trivial ?_
                          -- op 18.1 assign t16
                          refine st td_ok rfl rfl rfl rfl (r := .v _) rfl trivial ?_
                          refine AOps_nil ?_
                          refine qn ?_
                          refine AWP_cond rfl rfl (fun h14 => ?_) (fun h14 => ?_)
                          ·
                            refine AWP_skip ?_
                            -- join 15 (cut 8)
                            refine qn ?_
                            refine ⟨_, by (repeat' (first | exact rfl | exact trivial | apply And.intro)), ?_⟩
                            repeat (first | exact rfl | exact trivial | exact orL | exact orT (by assumption) (by assumption) | refine orF (by assumption) ?_)
                          ·
                            refine AWP_seq ?_
                            refine AWP_region ?_
                            -- op 19.0 binOp t28
                            refine st td_ok rfl rfl rfl rfl (r := .v _) rfl trivial ?_
                            -- op 19.1 assign t16
                            refine st td_ok rfl rfl rfl rfl (r := .v _) rfl trivial ?_
                            refine AOps_nil ?_
                            refine qn ?_
                            refine AWP_cond rfl rfl (fun h15 => ?_) (fun h15 => ?_)
                            ·
                              refine AWP_skip ?_
                              -- join 16 (cut 8)
                              refine qn ?_
                              refine ⟨_, by (repeat' (first | exact rfl | exact trivial | apply And.intro)), ?_⟩
                              repeat (first | exact rfl | exact trivial | exact orL | exact orT (by assumption) (by assumption) | refine orF (by assumption) ?_)
                            ·
                              refine AWP_region ?_
                              -- op 20.0 binOp t29
                              refine st td_ok rfl rfl rfl rfl (r := .v _) rfl trivial ?_
                              -- op 20.1 assign t16
                              refine st td_ok rfl rfl rfl rfl (r := .v _) rfl trivial ?_
                              refine AOps_nil ?_
                              -- join 17 (cut 8)
                              refine qn ?_
                              refine ⟨_, by (repeat' (first | exact rfl | exact trivial | apply And.intro)), ?_⟩
                              repeat (first | exact rfl | exact trivial | exact orL | exact orT (by assumption) (by assumption) | refine orF (by assumption) ?_)
    ·
      rintro b X hb
      refine AWP_cond rfl rfl (fun h16 => ?_) (fun h16 => ?_)
      ·
        refine AWP_seq ?_
        refine AWP_region ?_
        -- op 21.0 move t30
        refine st td_ok rfl rfl rfl rfl (r := .v _) rfl trivial ?_
        -- op 21.1 slice t31
        (refine st td_ok rfl rfl rfl rfl (r := .v _) rfl ?_ ?_; · ((repeat' with_reducible apply And.intro) <;> (first | with_reducible exact trivial | omega | exact Nat.le_of_ble_eq_true rfl)))
        -- op 21.2 assign t2
        refine st td_ok rfl rfl rfl rfl (r := .v _) rfl trivial ?_
        refine AOps_nil ?_
        refine qn ?_
        refine AWP_ret ?_
        refine qbr ?_
        refine qr ?_
        -- ret 1
        refine ⟨_, _, _, _, rfl, trivial, GS.forget _ _, ?_⟩
        first | show AV.v _ = _ | show AV.tup _ = _ | show AV.sl _ _ _ = _ | show AV.agg _ = _ | skip
        have : signN s = 1 := by unfold signN; rw [hI, ← hb, h16]; rfl
        rw [this]; rfl
      ·
        refine AWP_skip ?_
        refine qbn ?_
        refine qn ?_
        refine AWP_seq ?_
        refine AWP_region ?_
        -- op 22.0 assign t2
        refine st td_ok rfl rfl rfl rfl (r := .v _) rfl trivial ?_
        refine AOps_nil ?_
        refine qn ?_
        refine AWP_ret ?_
        -- ret 2
        refine ⟨_, _, _, _, rfl, trivial, GS.forget _ _, ?_⟩
        first | show AV.v _ = _ | show AV.tup _ = _ | show AV.sl _ _ _ = _ | show AV.agg _ = _ | skip
        have : signN s = 0 := by unfold signN; rw [hI, ← hb, h16]; rfl
        rw [this]; rfl

def words : List ByteArray := [⟨#[97, 114, 114, 97, 121]⟩, ⟨#[98, 111, 111, 108]⟩, ⟨#[99, 97, 116, 99, 104]⟩, ⟨#[100, 97, 116, 97]⟩, ⟨#[101, 108, 115, 101]⟩, ⟨#[101, 110, 100]⟩, ⟨#[102, 97, 108, 115, 101]⟩, ⟨#[102, 110]⟩, ⟨#[102, 117, 110]⟩, ⟨#[103, 101, 116]⟩, ⟨#[105, 102]⟩, ⟨#[105, 110]⟩, ⟨#[105, 110, 116]⟩, ⟨#[108, 101, 110]⟩, ⟨#[108, 101, 116]⟩, ⟨#[109, 97, 116, 99, 104]⟩, ⟨#[110, 101, 119]⟩, ⟨#[114, 97, 105, 115, 101]⟩, ⟨#[114, 101, 97, 100]⟩, ⟨#[114, 101, 102]⟩, ⟨#[115, 101, 116]⟩, ⟨#[116, 104, 101, 110]⟩, ⟨#[116, 105, 99, 107]⟩, ⟨#[116, 114, 117, 101]⟩, ⟨#[116, 114, 121]⟩, ⟨#[117, 110, 105, 116]⟩, ⟨#[119, 105, 116, 104]⟩, ⟨#[119, 114, 105, 116, 101]⟩]
theorem words_len : words.length = 28 := rfl
def oneIn (l : List UInt8) : List ByteArray → Bool
  | [] => false
  | x :: r => bif l == x.toList then true else oneIn l r
theorem oneIn_yes {l : List UInt8} {x : ByteArray} {r : List ByteArray} (h : (x.toList == l) = true) : oneIn l (x :: r) = true := by
  have : (l == x.toList) = true := by rw [beq_iff_eq] at h ⊢; exact h.symm
  simp only [oneIn, this]; rfl
theorem oneIn_no {l : List UInt8} {x : ByteArray} {r : List ByteArray} (h : (x.toList == l) = false) : oneIn l (x :: r) = oneIn l r := by
  have : (l == x.toList) = false := by rw [beq_eq_false_iff_ne] at h ⊢; exact h.symm
  simp only [oneIn, this]; rfl
def isKw (s : ByteArray) : Bool := oneIn s.toList words
theorem Keyword_c (s : ByteArray) : PCalls Try.prog 8 [.v (.string s)] (.v (.bool (isKw s))) := by
  refine calls_body td_ok Try.func8 rfl rfl rfl ?_
  refine AWP_seq ?_
  refine AWP_region ?_
  -- op 0.0 assign t2
  refine st td_ok rfl rfl rfl rfl (r := .v _) rfl trivial ?_
  refine AOps_nil ?_
  refine qn ?_
  refine AWP_seq ?_
  refine AWP_seq ?_
  refine AWP_region ?_
  -- op 1.0 move t3
  refine st td_ok rfl rfl rfl rfl (r := .v _) rfl trivial ?_
  refine AOps_nil ?_
  refine qn ?_
  refine AWP_block ?_
  -- joins: live [4]
  refine AWP_cut (fun (b : Bool) => [(4, .v (.bool b))]) (fun b X => b = isKw s) ?_ ?_
  ·
    refine AWP_seq ?_
    refine AWP_region ?_
    -- op 2.0 binOp t5
    refine st td_ok rfl rfl rfl rfl (r := .v _) rfl trivial ?_
    -- op 2.1 assign t4
    refine st td_ok rfl rfl rfl rfl (r := .v _) rfl trivial ?_
    refine AOps_nil ?_
    refine qn ?_
    refine AWP_cond rfl rfl (fun h0 => ?_) (fun h0 => ?_)
    ·
      refine AWP_skip ?_
      -- join 0 (cut 2)
      refine qn ?_
      refine ⟨_, by (repeat' (first | exact rfl | exact trivial | apply And.intro)), ?_⟩
      repeat (first | exact rfl | exact trivial | exact orL | exact orT (by assumption) (by assumption) | refine orF (by assumption) ?_)
    ·
      refine AWP_seq ?_
      refine AWP_region ?_
      -- op 3.0 binOp t6
      refine st td_ok rfl rfl rfl rfl (r := .v _) rfl trivial ?_
      -- op 3.1 assign t4
      refine st td_ok rfl rfl rfl rfl (r := .v _) rfl trivial ?_
      refine AOps_nil ?_
      refine qn ?_
      refine AWP_cond rfl rfl (fun h1 => ?_) (fun h1 => ?_)
      ·
        refine AWP_skip ?_
        -- join 1 (cut 2)
        refine qn ?_
        refine ⟨_, by (repeat' (first | exact rfl | exact trivial | apply And.intro)), ?_⟩
        repeat (first | exact rfl | exact trivial | exact orL | exact orT (by assumption) (by assumption) | refine orF (by assumption) ?_)
      ·
        refine AWP_seq ?_
        refine AWP_region ?_
        -- op 4.0 binOp t7
        refine st td_ok rfl rfl rfl rfl (r := .v _) rfl trivial ?_
        -- op 4.1 assign t4
        refine st td_ok rfl rfl rfl rfl (r := .v _) rfl trivial ?_
        refine AOps_nil ?_
        refine qn ?_
        refine AWP_cond rfl rfl (fun h2 => ?_) (fun h2 => ?_)
        ·
          refine AWP_skip ?_
          -- join 2 (cut 2)
          refine qn ?_
          refine ⟨_, by (repeat' (first | exact rfl | exact trivial | apply And.intro)), ?_⟩
          repeat (first | exact rfl | exact trivial | exact orL | exact orT (by assumption) (by assumption) | refine orF (by assumption) ?_)
        ·
          refine AWP_seq ?_
          refine AWP_region ?_
          -- op 5.0 binOp t8
          refine st td_ok rfl rfl rfl rfl (r := .v _) rfl trivial ?_
          -- op 5.1 assign t4
          refine st td_ok rfl rfl rfl rfl (r := .v _) rfl trivial ?_
          refine AOps_nil ?_
          refine qn ?_
          refine AWP_cond rfl rfl (fun h3 => ?_) (fun h3 => ?_)
          ·
            refine AWP_skip ?_
            -- join 3 (cut 2)
            refine qn ?_
            refine ⟨_, by (repeat' (first | exact rfl | exact trivial | apply And.intro)), ?_⟩
            repeat (first | exact rfl | exact trivial | exact orL | exact orT (by assumption) (by assumption) | refine orF (by assumption) ?_)
          ·
            refine AWP_seq ?_
            refine AWP_region ?_
            -- op 6.0 binOp t9
            refine st td_ok rfl rfl rfl rfl (r := .v _) rfl trivial ?_
            -- op 6.1 assign t4
            refine st td_ok rfl rfl rfl rfl (r := .v _) rfl trivial ?_
            refine AOps_nil ?_
            refine qn ?_
            refine AWP_cond rfl rfl (fun h4 => ?_) (fun h4 => ?_)
            ·
              refine AWP_skip ?_
              -- join 4 (cut 2)
              refine qn ?_
              refine ⟨_, by (repeat' (first | exact rfl | exact trivial | apply And.intro)), ?_⟩
              repeat (first | exact rfl | exact trivial | exact orL | exact orT (by assumption) (by assumption) | refine orF (by assumption) ?_)
            ·
              refine AWP_seq ?_
              refine AWP_region ?_
              -- op 7.0 binOp t10
              refine st td_ok rfl rfl rfl rfl (r := .v _) rfl trivial ?_
              -- op 7.1 assign t4
              refine st td_ok rfl rfl rfl rfl (r := .v _) rfl trivial ?_
              refine AOps_nil ?_
              refine qn ?_
              refine AWP_cond rfl rfl (fun h5 => ?_) (fun h5 => ?_)
              ·
                refine AWP_skip ?_
                -- join 5 (cut 2)
                refine qn ?_
                refine ⟨_, by (repeat' (first | exact rfl | exact trivial | apply And.intro)), ?_⟩
                repeat (first | exact rfl | exact trivial | exact orL | exact orT (by assumption) (by assumption) | refine orF (by assumption) ?_)
              ·
                refine AWP_seq ?_
                refine AWP_region ?_
                -- op 8.0 binOp t11
                refine st td_ok rfl rfl rfl rfl (r := .v _) rfl trivial ?_
                -- op 8.1 assign t4
                refine st td_ok rfl rfl rfl rfl (r := .v _) rfl trivial ?_
                refine AOps_nil ?_
                refine qn ?_
                refine AWP_cond rfl rfl (fun h6 => ?_) (fun h6 => ?_)
                ·
                  refine AWP_skip ?_
                  -- join 6 (cut 2)
                  refine qn ?_
                  refine ⟨_, by (repeat' (first | exact rfl | exact trivial | apply And.intro)), ?_⟩
                  repeat (first | exact rfl | exact trivial | exact orL | exact orT (by assumption) (by assumption) | refine orF (by assumption) ?_)
                ·
                  refine AWP_seq ?_
                  refine AWP_region ?_
                  -- op 9.0 binOp t12
                  refine st td_ok rfl rfl rfl rfl (r := .v _) rfl trivial ?_
                  -- op 9.1 assign t4
                  refine st td_ok rfl rfl rfl rfl (r := .v _) rfl trivial ?_
                  refine AOps_nil ?_
                  refine qn ?_
                  refine AWP_cond rfl rfl (fun h7 => ?_) (fun h7 => ?_)
                  ·
                    refine AWP_skip ?_
                    -- join 7 (cut 2)
                    refine qn ?_
                    refine ⟨_, by (repeat' (first | exact rfl | exact trivial | apply And.intro)), ?_⟩
                    repeat (first | exact rfl | exact trivial | exact orL | exact orT (by assumption) (by assumption) | refine orF (by assumption) ?_)
                  ·
                    refine AWP_seq ?_
                    refine AWP_region ?_
                    -- op 10.0 binOp t13
                    refine st td_ok rfl rfl rfl rfl (r := .v _) rfl trivial ?_
                    -- op 10.1 assign t4
                    refine st td_ok rfl rfl rfl rfl (r := .v _) rfl trivial ?_
                    refine AOps_nil ?_
                    refine qn ?_
                    refine AWP_cond rfl rfl (fun h8 => ?_) (fun h8 => ?_)
                    ·
                      refine AWP_skip ?_
                      -- join 8 (cut 2)
                      refine qn ?_
                      refine ⟨_, by (repeat' (first | exact rfl | exact trivial | apply And.intro)), ?_⟩
                      repeat (first | exact rfl | exact trivial | exact orL | exact orT (by assumption) (by assumption) | refine orF (by assumption) ?_)
                    ·
                      refine AWP_seq ?_
                      refine AWP_region ?_
                      -- op 11.0 binOp t14
                      refine st td_ok rfl rfl rfl rfl (r := .v _) rfl trivial ?_
                      -- op 11.1 assign t4
                      refine st td_ok rfl rfl rfl rfl (r := .v _) rfl trivial ?_
                      refine AOps_nil ?_
                      refine qn ?_
                      refine AWP_cond rfl rfl (fun h9 => ?_) (fun h9 => ?_)
                      ·
                        refine AWP_skip ?_
                        -- join 9 (cut 2)
                        refine qn ?_
                        refine ⟨_, by (repeat' (first | exact rfl | exact trivial | apply And.intro)), ?_⟩
                        repeat (first | exact rfl | exact trivial | exact orL | exact orT (by assumption) (by assumption) | refine orF (by assumption) ?_)
                      ·
                        refine AWP_seq ?_
                        refine AWP_region ?_
                        -- op 12.0 binOp t15
                        refine st td_ok rfl rfl rfl rfl (r := .v _) rfl trivial ?_
                        -- op 12.1 assign t4
                        refine st td_ok rfl rfl rfl rfl (r := .v _) rfl trivial ?_
                        refine AOps_nil ?_
                        refine qn ?_
                        refine AWP_cond rfl rfl (fun h10 => ?_) (fun h10 => ?_)
                        ·
                          refine AWP_skip ?_
                          -- join 10 (cut 2)
                          refine qn ?_
                          refine ⟨_, by (repeat' (first | exact rfl | exact trivial | apply And.intro)), ?_⟩
                          repeat (first | exact rfl | exact trivial | exact orL | exact orT (by assumption) (by assumption) | refine orF (by assumption) ?_)
                        ·
                          refine AWP_seq ?_
                          refine AWP_region ?_
                          -- op 13.0 binOp t16
                          refine st td_ok rfl rfl rfl rfl (r := .v _) rfl trivial ?_
                          -- op 13.1 assign t4
                          refine st td_ok rfl rfl rfl rfl (r := .v _) rfl trivial ?_
                          refine AOps_nil ?_
                          refine qn ?_
                          refine AWP_cond rfl rfl (fun h11 => ?_) (fun h11 => ?_)
                          ·
                            refine AWP_skip ?_
                            -- join 11 (cut 2)
                            refine qn ?_
                            refine ⟨_, by (repeat' (first | exact rfl | exact trivial | apply And.intro)), ?_⟩
                            repeat (first | exact rfl | exact trivial | exact orL | exact orT (by assumption) (by assumption) | refine orF (by assumption) ?_)
                          ·
                            refine AWP_seq ?_
                            refine AWP_region ?_
                            -- op 14.0 binOp t17
                            refine st td_ok rfl rfl rfl rfl (r := .v _) rfl trivial ?_
                            -- op 14.1 assign t4
                            refine st td_ok rfl rfl rfl rfl (r := .v _) rfl trivial ?_
                            refine AOps_nil ?_
                            refine qn ?_
                            refine AWP_cond rfl rfl (fun h12 => ?_) (fun h12 => ?_)
                            ·
                              refine AWP_skip ?_
                              -- join 12 (cut 2)
                              refine qn ?_
                              refine ⟨_, by (repeat' (first | exact rfl | exact trivial | apply And.intro)), ?_⟩
                              repeat (first | exact rfl | exact trivial | exact orL | exact orT (by assumption) (by assumption) | refine orF (by assumption) ?_)
                            ·
                              refine AWP_seq ?_
                              refine AWP_region ?_
                              -- op 15.0 binOp t18
                              refine st td_ok rfl rfl rfl rfl (r := .v _) rfl trivial ?_
                              -- op 15.1 assign t4
                              refine st td_ok rfl rfl rfl rfl (r := .v _) rfl trivial ?_
                              refine AOps_nil ?_
                              refine qn ?_
                              refine AWP_cond rfl rfl (fun h13 => ?_) (fun h13 => ?_)
                              ·
                                refine AWP_skip ?_
                                -- join 13 (cut 2)
                                refine qn ?_
                                refine ⟨_, by (repeat' (first | exact rfl | exact trivial | apply And.intro)), ?_⟩
                                repeat (first | exact rfl | exact trivial | exact orL | exact orT (by assumption) (by assumption) | refine orF (by assumption) ?_)
                              ·
                                refine AWP_seq ?_
                                refine AWP_region ?_
                                -- op 16.0 binOp t19
                                refine st td_ok rfl rfl rfl rfl (r := .v _) rfl trivial ?_
                                -- op 16.1 assign t4
                                refine st td_ok rfl rfl rfl rfl (r := .v _) rfl trivial ?_
                                refine AOps_nil ?_
                                refine qn ?_
                                refine AWP_cond rfl rfl (fun h14 => ?_) (fun h14 => ?_)
                                ·
                                  refine AWP_skip ?_
                                  -- join 14 (cut 2)
                                  refine qn ?_
                                  refine ⟨_, by (repeat' (first | exact rfl | exact trivial | apply And.intro)), ?_⟩
                                  repeat (first | exact rfl | exact trivial | exact orL | exact orT (by assumption) (by assumption) | refine orF (by assumption) ?_)
                                ·
                                  refine AWP_seq ?_
                                  refine AWP_region ?_
                                  -- op 17.0 binOp t20
                                  refine st td_ok rfl rfl rfl rfl (r := .v _) rfl trivial ?_
                                  -- op 17.1 assign t4
                                  refine st td_ok rfl rfl rfl rfl (r := .v _) rfl trivial ?_
                                  refine AOps_nil ?_
                                  refine qn ?_
                                  refine AWP_cond rfl rfl (fun h15 => ?_) (fun h15 => ?_)
                                  ·
                                    refine AWP_skip ?_
                                    -- join 15 (cut 2)
                                    refine qn ?_
                                    refine ⟨_, by (repeat' (first | exact rfl | exact trivial | apply And.intro)), ?_⟩
                                    repeat (first | exact rfl | exact trivial | exact orL | exact orT (by assumption) (by assumption) | refine orF (by assumption) ?_)
                                  ·
                                    refine AWP_seq ?_
                                    refine AWP_region ?_
                                    -- op 18.0 binOp t21
                                    refine st td_ok rfl rfl rfl rfl (r := .v _) rfl trivial ?_
                                    -- op 18.1 assign t4
                                    refine st td_ok rfl rfl rfl rfl (r := .v _) rfl trivial ?_
                                    refine AOps_nil ?_
                                    refine qn ?_
                                    refine AWP_cond rfl rfl (fun h16 => ?_) (fun h16 => ?_)
                                    ·
                                      refine AWP_skip ?_
                                      -- join 16 (cut 2)
                                      refine qn ?_
                                      refine ⟨_, by (repeat' (first | exact rfl | exact trivial | apply And.intro)), ?_⟩
                                      repeat (first | exact rfl | exact trivial | exact orL | exact orT (by assumption) (by assumption) | refine orF (by assumption) ?_)
                                    ·
                                      refine AWP_seq ?_
                                      refine AWP_region ?_
                                      -- op 19.0 binOp t22
                                      refine st td_ok rfl rfl rfl rfl (r := .v _) rfl trivial ?_
                                      -- op 19.1 assign t4
                                      refine st td_ok rfl rfl rfl rfl (r := .v _) rfl trivial ?_
                                      refine AOps_nil ?_
                                      refine qn ?_
                                      refine AWP_cond rfl rfl (fun h17 => ?_) (fun h17 => ?_)
                                      ·
                                        refine AWP_skip ?_
                                        -- join 17 (cut 2)
                                        refine qn ?_
                                        refine ⟨_, by (repeat' (first | exact rfl | exact trivial | apply And.intro)), ?_⟩
                                        repeat (first | exact rfl | exact trivial | exact orL | exact orT (by assumption) (by assumption) | refine orF (by assumption) ?_)
                                      ·
                                        refine AWP_seq ?_
                                        refine AWP_region ?_
                                        -- op 20.0 binOp t23
                                        refine st td_ok rfl rfl rfl rfl (r := .v _) rfl trivial ?_
                                        -- op 20.1 assign t4
                                        refine st td_ok rfl rfl rfl rfl (r := .v _) rfl trivial ?_
                                        refine AOps_nil ?_
                                        refine qn ?_
                                        refine AWP_cond rfl rfl (fun h18 => ?_) (fun h18 => ?_)
                                        ·
                                          refine AWP_skip ?_
                                          -- join 18 (cut 2)
                                          refine qn ?_
                                          refine ⟨_, by (repeat' (first | exact rfl | exact trivial | apply And.intro)), ?_⟩
                                          repeat (first | exact rfl | exact trivial | exact orL | exact orT (by assumption) (by assumption) | refine orF (by assumption) ?_)
                                        ·
                                          refine AWP_seq ?_
                                          refine AWP_region ?_
                                          -- op 21.0 binOp t24
                                          refine st td_ok rfl rfl rfl rfl (r := .v _) rfl trivial ?_
                                          -- op 21.1 assign t4
                                          refine st td_ok rfl rfl rfl rfl (r := .v _) rfl trivial ?_
                                          refine AOps_nil ?_
                                          refine qn ?_
                                          refine AWP_cond rfl rfl (fun h19 => ?_) (fun h19 => ?_)
                                          ·
                                            refine AWP_skip ?_
                                            -- join 19 (cut 2)
                                            refine qn ?_
                                            refine ⟨_, by (repeat' (first | exact rfl | exact trivial | apply And.intro)), ?_⟩
                                            repeat (first | exact rfl | exact trivial | exact orL | exact orT (by assumption) (by assumption) | refine orF (by assumption) ?_)
                                          ·
                                            refine AWP_seq ?_
                                            refine AWP_region ?_
                                            -- op 22.0 binOp t25
                                            refine st td_ok rfl rfl rfl rfl (r := .v _) rfl trivial ?_
                                            -- op 22.1 assign t4
                                            refine st td_ok rfl rfl rfl rfl (r := .v _) rfl trivial ?_
                                            refine AOps_nil ?_
                                            refine qn ?_
                                            refine AWP_cond rfl rfl (fun h20 => ?_) (fun h20 => ?_)
                                            ·
                                              refine AWP_skip ?_
                                              -- join 20 (cut 2)
                                              refine qn ?_
                                              refine ⟨_, by (repeat' (first | exact rfl | exact trivial | apply And.intro)), ?_⟩
                                              repeat (first | exact rfl | exact trivial | exact orL | exact orT (by assumption) (by assumption) | refine orF (by assumption) ?_)
                                            ·
                                              refine AWP_seq ?_
                                              refine AWP_region ?_
                                              -- op 23.0 binOp t26
                                              refine st td_ok rfl rfl rfl rfl (r := .v _) rfl trivial ?_
                                              -- op 23.1 assign t4
                                              refine st td_ok rfl rfl rfl rfl (r := .v _) rfl trivial ?_
                                              refine AOps_nil ?_
                                              refine qn ?_
                                              refine AWP_cond rfl rfl (fun h21 => ?_) (fun h21 => ?_)
                                              ·
                                                refine AWP_skip ?_
                                                -- join 21 (cut 2)
                                                refine qn ?_
                                                refine ⟨_, by (repeat' (first | exact rfl | exact trivial | apply And.intro)), ?_⟩
                                                repeat (first | exact rfl | exact trivial | exact orL | exact orT (by assumption) (by assumption) | refine orF (by assumption) ?_)
                                              ·
                                                refine AWP_seq ?_
                                                refine AWP_region ?_
                                                -- op 24.0 binOp t27
                                                refine st td_ok rfl rfl rfl rfl (r := .v _) rfl trivial ?_
                                                -- op 24.1 assign t4
                                                refine st td_ok rfl rfl rfl rfl (r := .v _) rfl trivial ?_
                                                refine AOps_nil ?_
                                                refine qn ?_
                                                refine AWP_cond rfl rfl (fun h22 => ?_) (fun h22 => ?_)
                                                ·
                                                  refine AWP_skip ?_
                                                  -- join 22 (cut 2)
                                                  refine qn ?_
                                                  refine ⟨_, by (repeat' (first | exact rfl | exact trivial | apply And.intro)), ?_⟩
                                                  repeat (first | exact rfl | exact trivial | exact orL | exact orT (by assumption) (by assumption) | refine orF (by assumption) ?_)
                                                ·
                                                  refine AWP_seq ?_
                                                  refine AWP_region ?_
                                                  -- op 25.0 binOp t28
                                                  refine st td_ok rfl rfl rfl rfl (r := .v _) rfl trivial ?_
                                                  -- op 25.1 assign t4
                                                  refine st td_ok rfl rfl rfl rfl (r := .v _) rfl trivial ?_
                                                  refine AOps_nil ?_
                                                  refine qn ?_
                                                  refine AWP_cond rfl rfl (fun h23 => ?_) (fun h23 => ?_)
                                                  ·
                                                    refine AWP_skip ?_
                                                    -- join 23 (cut 2)
                                                    refine qn ?_
                                                    refine ⟨_, by (repeat' (first | exact rfl | exact trivial | apply And.intro)), ?_⟩
                                                    repeat (first | exact rfl | exact trivial | exact orL | exact orT (by assumption) (by assumption) | refine orF (by assumption) ?_)
                                                  ·
                                                    refine AWP_seq ?_
                                                    refine AWP_region ?_
                                                    -- op 26.0 binOp t29
                                                    refine st td_ok rfl rfl rfl rfl (r := .v _) rfl trivial ?_
                                                    -- op 26.1 assign t4
                                                    refine st td_ok rfl rfl rfl rfl (r := .v _) rfl trivial ?_
                                                    refine AOps_nil ?_
                                                    refine qn ?_
                                                    refine AWP_cond rfl rfl (fun h24 => ?_) (fun h24 => ?_)
                                                    ·
                                                      refine AWP_skip ?_
                                                      -- join 24 (cut 2)
                                                      refine qn ?_
                                                      refine ⟨_, by (repeat' (first | exact rfl | exact trivial | apply And.intro)), ?_⟩
                                                      repeat (first | exact rfl | exact trivial | exact orL | exact orT (by assumption) (by assumption) | refine orF (by assumption) ?_)
                                                    ·
                                                      refine AWP_seq ?_
                                                      refine AWP_region ?_
                                                      -- op 27.0 binOp t30
                                                      refine st td_ok rfl rfl rfl rfl (r := .v _) rfl trivial ?_
                                                      -- op 27.1 assign t4
                                                      refine st td_ok rfl rfl rfl rfl (r := .v _) rfl trivial ?_
                                                      refine AOps_nil ?_
                                                      refine qn ?_
                                                      refine AWP_cond rfl rfl (fun h25 => ?_) (fun h25 => ?_)
                                                      ·
                                                        refine AWP_skip ?_
                                                        -- join 25 (cut 2)
                                                        refine qn ?_
                                                        refine ⟨_, by (repeat' (first | exact rfl | exact trivial | apply And.intro)), ?_⟩
                                                        repeat (first | exact rfl | exact trivial | exact orL | exact orT (by assumption) (by assumption) | refine orF (by assumption) ?_)
                                                      ·
                                                        refine AWP_seq ?_
                                                        refine AWP_region ?_
                                                        -- op 28.0 binOp t31
                                                        refine st td_ok rfl rfl rfl rfl (r := .v _) rfl trivial ?_
                                                        -- op 28.1 assign t4
                                                        refine st td_ok rfl rfl rfl rfl (r := .v _) rfl trivial ?_
                                                        refine AOps_nil ?_
                                                        refine qn ?_
                                                        refine AWP_cond rfl rfl (fun h26 => ?_) (fun h26 => ?_)
                                                        ·
                                                          refine AWP_skip ?_
                                                          -- join 26 (cut 2)
                                                          refine qn ?_
                                                          refine ⟨_, by (repeat' (first | exact rfl | exact trivial | apply And.intro)), ?_⟩
                                                          repeat (first | exact rfl | exact trivial | exact orL | exact orT (by assumption) (by assumption) | refine orF (by assumption) ?_)
                                                        ·
                                                          refine AWP_region ?_
                                                          -- op 29.0 binOp t32
                                                          refine st td_ok rfl rfl rfl rfl (r := .v _) rfl trivial ?_
                                                          -- op 29.1 assign t4
                                                          refine st td_ok rfl rfl rfl rfl (r := .v _) rfl trivial ?_
                                                          refine AOps_nil ?_
                                                          -- join 27 (cut 2)
                                                          refine qn ?_
                                                          refine ⟨_, by (repeat' (first | exact rfl | exact trivial | apply And.intro)), ?_⟩
                                                          repeat (first | exact rfl | exact trivial | exact orL | exact orT (by assumption) (by assumption) | refine orF (by assumption) ?_)
  ·
    rintro b X hb
    refine AWP_cond rfl rfl (fun h27 => ?_) (fun h27 => ?_)
    ·
      refine AWP_seq ?_
      refine AWP_region ?_
      -- op 30.0 assign t2
      refine st td_ok rfl rfl rfl rfl (r := .v _) rfl trivial ?_
      refine AOps_nil ?_
      refine qn ?_
      refine AWP_ret ?_
      refine qbr ?_
      refine qr ?_
      -- ret 0
      refine ⟨_, _, _, _, rfl, trivial, GS.forget _ _, ?_⟩
      first | show AV.v _ = _ | show AV.tup _ = _ | show AV.sl _ _ _ = _ | show AV.agg _ = _ | skip
      first | rw [← hb, h27] | skip
    ·
      refine AWP_skip ?_
      refine qbn ?_
      refine qn ?_
      refine AWP_seq ?_
      refine AWP_region ?_
      -- op 31.0 assign t2
      refine st td_ok rfl rfl rfl rfl (r := .v _) rfl trivial ?_
      refine AOps_nil ?_
      refine qn ?_
      refine AWP_ret ?_
      -- ret 1
      refine ⟨_, _, _, _, rfl, trivial, GS.forget _ _, ?_⟩
      first | show AV.v _ = _ | show AV.tup _ = _ | show AV.sl _ _ _ = _ | show AV.agg _ = _ | skip
      first | rw [← hb, h27] | skip

theorem rKeyword_c (s : ByteArray) : PCalls Try.prog 9 [.v (.string s)] (.v (.bool (isKw s))) := by
  refine calls_body td_ok Try.func9 rfl rfl rfl ?_
  refine AWP_seq ?_
  refine AWP_region ?_
  -- op 0.0 assign t2
  refine st td_ok rfl rfl rfl rfl (r := .v _) rfl trivial ?_
  refine AOps_nil ?_
  refine qn ?_
  refine AWP_seq ?_
  refine AWP_region ?_
  -- op 1.0 buildSlice t5
  refine st_lit td_ok rfl rfl rfl rfl rfl rfl rfl rfl rfl (by decide)  rfl (by ((repeat' with_reducible apply And.intro) <;> (first | with_reducible exact trivial | exact rfl))) ?_
  -- op 1.1 assign t3
  refine st td_ok rfl rfl rfl rfl (r := .sl _ _ _) rfl trivial ?_
  refine AOps_nil ?_
  refine qn ?_
  refine AWP_seq ?_
  refine AWP_seq ?_
  refine AWP_region ?_
  -- op 2.0 assign t4
  refine st td_ok rfl rfl rfl rfl (r := .v _) rfl trivial ?_
  refine AOps_nil ?_
  refine qn ?_
  refine AWP_block ?_
  -- loop: live [0, 3, 4]
  obtain ⟨ws, hws⟩ : ∃ ws, ws = words := ⟨_, rfl⟩
  have hl : ws.length = 28 := by rw [hws]; rfl
  refine AWP_for (fun (j : Nat) => [(0, .v (.string s)), (3, .sl true 28 (strs ws)), (4, .v (.int .i64 j))]) (fun j X => j ≤ 28 ∧ oneIn s.toList (ws.drop j) = isKw s) (fun j => 28 - j) 0 ⟨by (subst hws; (repeat' (first | exact rfl | exact trivial | apply And.intro))), ⟨by decide, by rw [hws]; rfl⟩⟩ ?_
  rintro j X hI
  refine AWP_seq ?_
  refine AWP_seq ?_
  refine AWP_region ?_
  -- op 3.0 move t6
  refine st td_ok rfl rfl rfl rfl (r := .v _) rfl trivial ?_
  -- op 3.1 move t7
  refine st td_ok rfl rfl rfl rfl (r := .sl _ _ _) rfl trivial ?_
  -- op 3.2 call t8
  refine st td_ok rfl rfl rfl rfl (r := .v _) rfl trivial ?_
  -- op 3.3 binOp t9
  refine st td_ok rfl rfl rfl rfl (r := .v _) rfl trivial ?_
  refine AOps_nil ?_
  refine qn ?_
  refine AWP_cond rfl rfl (fun h0 => ?_) (fun h0 => ?_)
  ·
    refine AWP_skip ?_
    refine qn ?_
    refine AWP_seq ?_
    refine AWP_block ?_
    refine AWP_seq ?_
    refine AWP_region ?_
    -- op 5.0 move t12
    refine st td_ok rfl rfl rfl rfl (r := .sl _ _ _) rfl trivial ?_
    -- op 5.1 move t13
    refine st td_ok rfl rfl rfl rfl (r := .v _) rfl trivial ?_
    -- op 5.2 indexAddr t14
    (refine st td_ok rfl rfl rfl rfl (r := .pp _ _) rfl ?_ ?_; · ((repeat' with_reducible apply And.intro) <;> (first | omega | (simp only [cond_true, cond_false, nd, Option.getD_none, Option.getD_some, Int.toNat_natCast, strs_len, nums_len, List.length_append, tds2, tds3, tds4, tds5, tds9, tds12, tds21, tds23, tds24, tds27, tds30, tds31, tds32, tds34, tds51, tds55, decide_eq_true_eq, Bool.and_eq_true, Bool.not_eq_true', decide_eq_false_iff_not] at *; omega))))
    -- op 5.3 load t15
    (refine st_eq td_ok rfl rfl rfl rfl (r := _) rfl ?_ ((show _ = AV.v (.string (ws.getD j ⟨#[]⟩)) from (strs_at _ _).trans (by simp [tds9]))) ?_; · ((repeat' with_reducible apply And.intro) <;> (simp only [cond_true, cond_false, nd, Option.getD_none, Option.getD_some, Int.toNat_natCast, strs_len, nums_len, List.length_append, tds2, tds3, tds4, tds5, tds9, tds12, tds21, tds23, tds24, tds27, tds30, tds31, tds32, tds34, tds51, tds55, decide_eq_true_eq, Bool.and_eq_true, Bool.not_eq_true', decide_eq_false_iff_not] at *; omega)))
    -- op 5.4 move t16
    refine st td_ok rfl rfl rfl rfl (r := .v _) rfl trivial ?_
    -- op 5.5 binOp t17
    refine st td_ok rfl rfl rfl rfl (r := .v _) rfl trivial ?_
    refine AOps_nil ?_
    refine qn ?_
    refine AWP_cond rfl rfl (fun h1 => ?_) (fun h1 => ?_)
    ·
      refine AWP_seq ?_
      refine AWP_region ?_
      -- op 6.0 assign t2
      refine st td_ok rfl rfl rfl rfl (r := .v _) rfl trivial ?_
      refine AOps_nil ?_
      refine qn ?_
      refine AWP_ret ?_
      refine qbr ?_
      refine qr ?_
      refine qr ?_
      refine qbr ?_
      refine qr ?_
      -- ret 0
      refine ⟨_, _, _, _, rfl, trivial, GS.forget _ _, ?_⟩
      first | show AV.v _ = _ | show AV.tup _ = _ | show AV.sl _ _ _ = _ | show AV.agg _ = _ | skip
      have hj : j < 28 := by simp only [decide_eq_true_eq] at h0; omega
      rw [← hI.2, List.drop_eq_getElem_cons (show j < ws.length by omega)]
      rw [List.getD_eq_getElem?_getD, List.getElem?_eq_getElem (by omega), Option.getD_some] at h1
      rw [oneIn_yes h1]
    ·
      refine AWP_skip ?_
      refine qbn ?_
      refine qn ?_
      refine AWP_region ?_
      -- op 4.0 move t10
      refine st td_ok rfl rfl rfl rfl (r := .v _) rfl trivial ?_
      -- op 4.1 binOp t11
      refine st_eq td_ok rfl rfl rfl rfl (r := .v _) rfl trivial (w64 (by omega)) ?_
      -- op 4.2 assign t4
      refine st td_ok rfl rfl rfl rfl (r := .v _) rfl trivial ?_
      refine AOps_nil ?_
      -- back 0 (loop 3)
      refine qn ?_
      have hj : j < 28 := by simp only [decide_eq_true_eq] at h0; omega
      refine ⟨j + 1, by omega, ?_, by omega, ?_⟩
      · (repeat' (first | exact rfl | exact trivial | apply And.intro))
      · rw [← hI.2, List.drop_eq_getElem_cons (show j < ws.length by omega)]
        rw [List.getD_eq_getElem?_getD, List.getElem?_eq_getElem (by omega), Option.getD_some] at h1
        exact (oneIn_no h1).symm
  ·
    refine AWP_exit ?_
    refine qx ?_
    refine qx ?_
    refine qbh ?_
    refine qn ?_
    refine AWP_seq ?_
    refine AWP_region ?_
    -- op 7.0 assign t2
    refine st td_ok rfl rfl rfl rfl (r := .v _) rfl trivial ?_
    refine AOps_nil ?_
    refine qn ?_
    refine AWP_ret ?_
    -- ret 1
    refine ⟨_, _, _, _, rfl, trivial, GS.forget _ _, ?_⟩
    first | show AV.v _ = _ | show AV.tup _ = _ | show AV.sl _ _ _ = _ | show AV.agg _ = _ | skip
    have hj : j = 28 := by simp only [decide_eq_false_iff_not] at h0; omega
    rw [← hI.2, List.drop_of_length_le (show ws.length ≤ j by omega)]; rfl
end Go.Proofs.Ytoiolofgcgkgiaa.V
