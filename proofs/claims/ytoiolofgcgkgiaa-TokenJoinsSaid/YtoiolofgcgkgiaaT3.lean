import Derived.Test.YtoiolofgcgkgiaaT2
import Derived.Laws.Strings
namespace Go.Proofs.Ytoiolofgcgkgiaa.V
open Go
set_option linter.unusedSimpArgs false
set_option linter.unusedVariables false

/-- How far a property goes. -/
def scanE (p : Int → Bool) (s : ByteArray) : Nat → Nat → Nat
  | 0, j => j
  | k + 1, j => if p (bt s j) then scanE p s k (j + 1) else j
def numN (s : ByteArray) : Nat → Nat → Int → Nat × Int
  | 0, j, n => (j, n)
  | k + 1, j, n => if between 48 57 (bt s j) then numN s k (j + 1) (min (n * 10 + (bt s j - 48)) 1000001) else (j, n)
def nextP (s : ByteArray) (i : Nat) : Int × ByteArray × Int :=
  let c := bt s i
  if between 97 122 c || between 65 90 c then
    let e := scanE isPart s (s.size - (i + 1)) (i + 1)
    (if between 65 90 c then 2 else if isKw (s.extract i e) then 4 else 1, s.extract i e, if e - i > 24 then 9 else 0)
  else if between 48 57 c then
    let e := numN s (s.size - (i + 1)) (i + 1) (c - 48)
    (3, s.extract i e.1, if c = 48 ∧ e.1 - i > 1 then 2 else if e.2 > 1000000 then 9 else 0)
  else
    let n := signN (s.extract i s.size)
    let t := if n = 0 then ⟨#[]⟩ else (s.extract i s.size).extract 0 n
    (5, t, if n = 0 then 2 else 0)
theorem scan_stop {p : Int → Bool} {s : ByteArray} {j : Nat} (h : (bif decide ((j : Int) < s.size) then p (bt s j) else false) = false) : scanE p s (s.size - j) j = j := by
  by_cases hj : j < s.size
  · rw [decide_eq_true (show (j : Int) < s.size by omega)] at h
    rw [show s.size - j = (s.size - (j + 1)) + 1 by omega]
    simp only [scanE]; rw [if_neg]; simpa using h
  · rw [show s.size - j = 0 by omega]; rfl
theorem scan_go {p : Int → Bool} {s : ByteArray} {j : Nat} (hj : (j : Int) < s.size) (h : p (bt s j) = true) : scanE p s (s.size - j) j = scanE p s (s.size - (j + 1)) (j + 1) := by
  rw [show s.size - j = (s.size - (j + 1)) + 1 by omega]
  simp only [scanE]; rw [if_pos h]
theorem num_stop {s : ByteArray} {j : Nat} {n : Int} (h : (bif decide ((j : Int) < s.size) then between 48 57 (bt s j) else false) = false) : numN s (s.size - j) j n = (j, n) := by
  by_cases hj : j < s.size
  · rw [decide_eq_true (show (j : Int) < s.size by omega)] at h
    rw [show s.size - j = (s.size - (j + 1)) + 1 by omega]
    simp only [numN]; rw [if_neg]; simpa using h
  · rw [show s.size - j = 0 by omega]; rfl
theorem num_go {s : ByteArray} {j : Nat} {n : Int} (hj : (j : Int) < s.size) (h : between 48 57 (bt s j) = true) : numN s (s.size - j) j n = numN s (s.size - (j + 1)) (j + 1) (min (n * 10 + (bt s j - 48)) 1000001) := by
  rw [show s.size - j = (s.size - (j + 1)) + 1 by omega]
  simp only [numN]; rw [if_pos h]
theorem XH.put_put {X : XH} {r : Nat} {a b : XB} : (X.put r a).put r b = X.put r b := by
  funext q; simp only [XH.put]; split <;> rfl
theorem min_if (n : Int) : min n 1000001 = if (1000001 : Int) < n then 1000001 else n := by split <;> omega
theorem bif_t {a b : Bool} (h : (bif a then b else false) = true) : a = true ∧ b = true := by cases a <;> simp_all
theorem between_iff {a b c : Int} : between a b c = true ↔ a ≤ c ∧ c ≤ b := by
  unfold between; simp only [Bool.and_eq_true, decide_eq_true_eq, ge_iff_le]
theorem bt_range (s : ByteArray) (m : Int) : 0 ≤ bt s m ∧ bt s m ≤ 255 := by
  unfold bt
  have := (s.data.toList.getD m.toNat 0).toNat_lt
  omega
def tokA (k : Int) (t : ByteArray) (i : Nat) : AV := .agg [.v (.int .i64 k), .v (.string t), .v (.int .i64 i)]
def resN (i : Nat) (r : Int × ByteArray × Int) : AV := .tup [tokA r.1 r.2.1 i, .v (.int .i64 r.2.2)]
theorem ret_name {s : ByteArray} {i e : Nat} {k er : Int} (h0 : (bif between 97 122 (bt s i) then true else between 65 90 (bt s i)) = true) (he : scanE isPart s (s.size - (i + 1)) (i + 1) = e) (hk : (if between 65 90 (bt s i) = true then (2 : Int) else if isKw (s.extract i e) = true then 4 else 1) = k)
    (her : (if e - i > 24 then (9 : Int) else 0) = er) : AV.tup [.agg [.v (.int .i64 k), .v (.string (s.extract i e)), .v (.int .i64 i)], .v (.int .i64 er)] = resN i (nextP s i) := by
  have h : (between 97 122 (bt s i) || between 65 90 (bt s i)) = true := by rw [← bif_or]; exact h0
  unfold nextP
  simp only []
  rw [if_pos h, he, hk, her]; rfl
theorem ret_num {s : ByteArray} {i e : Nat} {v er : Int} (h0 : (bif between 97 122 (bt s i) then true else between 65 90 (bt s i)) = false) (h7 : between 48 57 (bt s i) = true) (he : numN s (s.size - (i + 1)) (i + 1) (bt s i - 48) = (e, v))
    (her : (if bt s i = 48 ∧ e - i > 1 then (2 : Int) else if v > 1000000 then 9 else 0) = er) : AV.tup [.agg [.v (.int .i64 3), .v (.string (s.extract i e)), .v (.int .i64 i)], .v (.int .i64 er)] = resN i (nextP s i) := by
  have h : ¬ (between 97 122 (bt s i) || between 65 90 (bt s i)) = true := by rw [← bif_or, h0]; simp
  unfold nextP
  simp only []
  rw [if_neg h, if_pos h7, he]
  simp only []
  rw [her]; rfl
theorem no_lead {s : ByteArray} {i e : Nat} (h : (bif bt s i == 48 then decide ((e : Int) - i > 1) else false) = false) : ¬ (bt s i = 48 ∧ e - i > 1) := by
  rintro ⟨h1, h2⟩
  rw [h1] at h
  have h3 : decide ((e : Int) - i > 1) = false := h
  simp only [decide_eq_false_iff_not] at h3
  omega
theorem ret_sign {s : ByteArray} {i : Nat} {er : Int} (h0 : (bif between 97 122 (bt s i) then true else between 65 90 (bt s i)) = false) (h7 : between 48 57 (bt s i) = false) (hlt : i < s.size)
    (her : (if signN (s.extract i s.size) = 0 then (2 : Int) else 0) = er) : AV.tup [.agg [.v (.int .i64 5), .v (.string (if signN (s.extract i s.size) = 0 then ⟨#[]⟩ else (s.extract i s.size).extract 0 (signN (s.extract i s.size)))), .v (.int .i64 i)], .v (.int .i64 er)] = resN i (nextP s i) := by
  have h : ¬ (between 97 122 (bt s i) || between 65 90 (bt s i)) = true := by rw [← bif_or, h0]; simp
  unfold nextP
  simp only []
  rw [if_neg h, if_neg (show ¬ between 48 57 (bt s i) = true by rw [h7]; simp), her]; rfl
theorem signN_le (s : ByteArray) (h : 0 < s.size) : signN s ≤ s.size := by
  unfold signN
  split
  · rename_i h2
    simp only [Bool.and_eq_true, decide_eq_true_eq] at h2
    omega
  · split <;> omega
theorem toList_len (s : ByteArray) : s.toList.length = s.size := by
  rw [ByteArray.toList_eq]; rfl
theorem sign_none {s : ByteArray} (h : 0 < s.size) (he : ((if signN s = 0 then (⟨#[]⟩ : ByteArray) else s.extract 0 (signN s)).toList == (⟨#[]⟩ : ByteArray).toList) = true) : signN s = 0 := by
  have hle := signN_le s h
  rw [beq_iff_eq] at he
  have hl := congrArg List.length he
  rw [toList_len, toList_len] at hl
  by_cases hn : signN s = 0
  · exact hn
  · rw [if_neg hn] at hl
    simp only [ByteArray.size_extract] at hl
    have : (⟨#[]⟩ : ByteArray).size = 0 := rfl
    omega
theorem sign_some {s : ByteArray} (he : ((if signN s = 0 then (⟨#[]⟩ : ByteArray) else s.extract 0 (signN s)).toList == (⟨#[]⟩ : ByteArray).toList) = false) : ¬ signN s = 0 := by
  intro hn
  rw [if_pos hn] at he
  simp at he
theorem next_c (s : ByteArray) (i : Nat) (hlt : i < s.size) (hb : s.size < 2 ^ 62) : PCalls Try.prog 14 [.v (.string s), .v (.int .i64 i)] (resN i (nextP s i)) := by
  refine calls_body td_ok Try.func14 rfl rfl rfl ?_
  refine AWP_seq ?_
  refine AWP_region ?_
  -- op 0.0 alloc t4
  refine st_alloc td_ok rfl rfl rfl rfl rfl rfl (zs := [.v _, .v _, .v _]) rfl fun r4 hr4 => ?_
  -- op 0.1 assign t5
  refine st td_ok rfl rfl rfl rfl (r := .v _) rfl trivial ?_
  refine AOps_nil ?_
  refine qn ?_
  refine AWP_seq ?_
  have hbt := bt_range s i
  refine AWP_region ?_
  -- op 1.0 move t10
  refine st td_ok rfl rfl rfl rfl (r := .v _) rfl trivial ?_
  -- op 1.1 move t11
  refine st td_ok rfl rfl rfl rfl (r := .v _) rfl trivial ?_
  -- op 1.2 index t12
  (refine st td_ok rfl rfl rfl rfl (r := .v _) rfl ?_ ?_; · ((repeat' with_reducible apply And.intro) <;> omega))
  -- op 1.3 move t13
  refine st td_ok rfl rfl rfl rfl (r := .v _) rfl trivial ?_
  -- op 1.4 binOp t14
  refine st_eq td_ok rfl rfl rfl rfl (r := .v _) rfl trivial (w64 (by omega)) ?_
  -- op 1.5 assign t6
  refine st td_ok rfl rfl rfl rfl (r := .v _) rfl trivial ?_
  -- op 1.6 assign t7
  refine st td_ok rfl rfl rfl rfl (r := .v _) rfl trivial ?_
  refine AOps_nil ?_
  refine qn ?_
  refine AWP_seq ?_
  refine AWP_region ?_
  -- op 2.0 move t15
  refine st td_ok rfl rfl rfl rfl (r := .v _) rfl trivial ?_
  -- op 2.1 build t16
  (refine st td_ok rfl rfl rfl rfl (r := .agg [.v _, .v _, .v _]) rfl ?_ ?_; · ((repeat' with_reducible apply And.intro) <;> (first | with_reducible exact trivial | exact rfl | exact Nat.le_of_ble_eq_true rfl)))
  -- op 2.2 alloc t8
  refine st_alloc td_ok rfl rfl rfl rfl rfl rfl (zs := [.v _, .v _, .v _]) rfl fun r8 hr8 => ?_
  -- op 2.3 store tNone
  refine st_store td_ok rfl rfl rfl rfl rfl rfl XH.put_same rfl (by ((repeat' with_reducible apply And.intro) <;> exact rfl)) (Nat.le_of_ble_eq_true rfl) (cs' := [.v _, .v _, .v _]) (T' := 31) rfl rfl ?_
  refine AOps_nil ?_
  refine qn ?_
  refine AWP_seq ?_
  refine AWP_block ?_
  refine AWP_seq ?_
  refine AWP_region ?_
  -- op 6.0 move t28
  refine st td_ok rfl rfl rfl rfl (r := .v _) rfl trivial ?_
  -- op 6.1 call t29
  refine st_pcall rfl rfl rfl rfl rfl rfl rfl ⟨_, rfl, rfl, rfl⟩ (by first | exact small_c _ | exact great_c _ | exact digit_c _ | exact part_c _ | exact Keyword_c _) ?_
  -- op 6.2 move t30
  refine st td_ok rfl rfl rfl rfl (r := .v _) rfl trivial ?_
  -- op 6.3 move t31 g['2', 'false']
  (refine sgk0 td_ok rfl rfl rfl rfl rfl rfl (r := .v _) rfl ?_ ?_; · exact fun hg => ⟨by (repeat' (first | exact trivial | exact hg | exact (Bool.and_eq_true_iff.mp hg).1 | apply And.intro)), by exact trivial⟩)
  -- op 6.4 call t32 g['2', 'false']
  refine stg_call rfl rfl rfl rfl rfl rfl rfl rfl (fun hg => ⟨by (repeat' (first | exact trivial | exact hg | exact (Bool.and_eq_true_iff.mp hg).1 | apply And.intro)), rfl, ⟨_, rfl, rfl, rfl⟩, (by first | exact small_c _ | exact great_c _ | exact digit_c _ | exact part_c _ | exact Keyword_c _)⟩) ?_
  -- op 6.5 pick t33
  (refine st td_ok rfl rfl rfl rfl (r := .v _) rfl ?_ ?_; · first | (simp_all; done) | ((repeat' with_reducible apply And.intro) <;> with_reducible exact trivial))
  -- op 6.6 assign t27
  refine st td_ok rfl rfl rfl rfl (r := .v _) rfl trivial ?_
  refine AOps_nil ?_
  refine qn ?_
  refine AWP_cond rfl rfl (fun h0 => ?_) (fun h0 => ?_)
  ·
    refine AWP_seq ?_
    refine AWP_block ?_
    -- loop: live [0, 1, 4, 6, 7, 8]
    have hne : r8 ≠ r4 := (XH.put_none hr8).1
    refine AWP_for (fun (j : Nat) => [(0, .v (.string s)), (1, .v (.int .i64 i)), (4, .v (.pointer (some ⟨r4, 0, none⟩))), (6, .v (.int .u8 (bt s i))), (7, .v (.int .i64 j)), (8, .v (.pointer (some ⟨r8, 0, none⟩)))]) (fun j X => i < j ∧ j ≤ s.size ∧ X = (XH.none.put r4 ⟨31, [.v (.int .i64 0), .v (.string ⟨#[]⟩), .v (.int .i64 0)]⟩).put r8 ⟨31, [.v (.int .i64 0), .v (.string ⟨#[]⟩), .v (.int .i64 i)]⟩ ∧ scanE isPart s (s.size - j) j = scanE isPart s (s.size - (i + 1)) (i + 1)) (fun j => s.size - j) (i + 1) ⟨by (repeat' (first | exact rfl | exact trivial | apply And.intro)), ⟨by omega, by omega, XH.put_put, rfl⟩⟩ ?_
    rintro j X ⟨hj1, hj2, rfl, hj3⟩
    refine AWP_seq ?_
    refine AWP_seq ?_
    refine AWP_region ?_
    -- op 7.0 move t34
    refine st td_ok rfl rfl rfl rfl (r := .v _) rfl trivial ?_
    -- op 7.1 move t35
    refine st td_ok rfl rfl rfl rfl (r := .v _) rfl trivial ?_
    -- op 7.2 call t36
    refine st td_ok rfl rfl rfl rfl (r := .v _) rfl trivial ?_
    -- op 7.3 binOp t37
    refine st td_ok rfl rfl rfl rfl (r := .v _) rfl trivial ?_
    -- op 7.4 move t38
    refine st td_ok rfl rfl rfl rfl (r := .v _) rfl trivial ?_
    -- op 7.5 move t39 g['4', 'true']
    (refine sgk0 td_ok rfl rfl rfl rfl rfl rfl (r := .v _) rfl ?_ ?_; · exact fun hg => ⟨by (repeat' (first | exact trivial | exact hg | exact (Bool.and_eq_true_iff.mp hg).1 | apply And.intro)), by exact trivial⟩)
    -- op 7.6 move t40 g['4', 'true']
    (refine sgk0 td_ok rfl rfl rfl rfl rfl rfl (r := .v _) rfl ?_ ?_; · exact fun hg => ⟨by (repeat' (first | exact trivial | exact hg | exact (Bool.and_eq_true_iff.mp hg).1 | apply And.intro)), by exact trivial⟩)
    -- op 7.7 index t41 g['4', 'true']
    (refine sgk0 td_ok rfl rfl rfl rfl rfl rfl (r := .v _) rfl ?_ ?_; · exact fun hg => ⟨by (repeat' (first | exact trivial | exact hg | exact (Bool.and_eq_true_iff.mp hg).1 | apply And.intro)), by ((repeat' with_reducible apply And.intro) <;> (first | omega | (simp only [cond_true, cond_false, nd, Option.getD_none, Option.getD_some, Int.toNat_natCast, strs_len, nums_len, List.length_append, tds2, tds3, tds4, tds5, tds9, tds12, tds21, tds23, tds24, tds27, tds30, tds31, tds32, tds34, tds51, tds55, decide_eq_true_eq, Bool.and_eq_true, Bool.not_eq_true', decide_eq_false_iff_not] at *; omega)))⟩)
    -- op 7.8 call t42 g['4', 'true']
    refine stg_call rfl rfl rfl rfl rfl rfl rfl rfl (fun hg => ⟨by (repeat' (first | exact trivial | exact hg | exact (Bool.and_eq_true_iff.mp hg).1 | apply And.intro)), rfl, ⟨_, rfl, rfl, rfl⟩, (by first | exact small_c _ | exact great_c _ | exact digit_c _ | exact part_c _ | exact Keyword_c _)⟩) ?_
    -- op 7.9 pick t43
    (refine st td_ok rfl rfl rfl rfl (r := .v _) rfl ?_ ?_; · exact (fun h => h))
    refine AOps_nil ?_
    refine qn ?_
    refine AWP_cond rfl rfl (fun h1 => ?_) (fun h1 => ?_)
    ·
      refine AWP_skip ?_
      refine qn ?_
      refine AWP_block ?_
      refine AWP_region ?_
      -- op 8.0 move t44
      refine st td_ok rfl rfl rfl rfl (r := .v _) rfl trivial ?_
      -- op 8.1 binOp t45
      refine st_eq td_ok rfl rfl rfl rfl (r := .v _) rfl trivial (w64 (by omega)) ?_
      -- op 8.2 assign t7
      refine st td_ok rfl rfl rfl rfl (r := .v _) rfl trivial ?_
      refine AOps_nil ?_
      refine qbn ?_
      -- back 0 (loop 7)
      refine qn ?_
      have hx := bif_t h1
      have hlt2 : (j : Int) < s.size := of_decide_eq_true hx.1
      exact ⟨j + 1, by omega, by (repeat' (first | exact rfl | exact trivial | apply And.intro)), by omega, by omega, rfl, by rw [← hj3]; exact (scan_go hlt2 hx.2).symm⟩
    ·
      refine AWP_exit ?_
      refine qx ?_
      refine qx ?_
      refine qbh ?_
      refine qn ?_
      refine AWP_seq ?_
      refine AWP_par rfl td_ok [(0, .D), (1, .D), (2, .D), (3, .D), (4, .D), (5, .W), (6, .D), (7, .W)] (fun _ => True) rfl rfl rfl rfl trivial ?_
      -- op 9.0 move t46
      refine gs td_ok rfl rfl rfl (r := .v _) (fun _ _ => rfl) trivial (rfl) ?_
      -- op 9.1 move t47
      refine gs td_ok rfl rfl rfl (r := .v _) (fun _ _ => rfl) trivial (rfl) ?_
      -- op 9.2 move t48
      refine gs td_ok rfl rfl rfl (r := .v _) (fun _ _ => rfl) trivial (rfl) ?_
      -- op 9.3 slice t49
      (refine gs td_ok rfl rfl rfl (r := .v _) (fun _ _ => rfl) ?_ (rfl) ?_; · ((repeat' with_reducible apply And.intro) <;> (first | omega | (simp only [cond_true, cond_false, nd, Option.getD_none, Option.getD_some, Int.toNat_natCast, strs_len, nums_len, List.length_append, tds2, tds3, tds4, tds5, tds9, tds12, tds21, tds23, tds24, tds27, tds30, tds31, tds32, tds34, tds51, tds55, decide_eq_true_eq, Bool.and_eq_true, Bool.not_eq_true', decide_eq_false_iff_not] at *; omega))))
      -- op 9.4 fieldAddr t50
      refine gs td_ok rfl rfl rfl (r := .v _) (fun _ _ => rfl) trivial (rfl) ?_
      -- op 9.5 store tNone
      refine gs_store td_ok rfl rfl rfl rfl rfl XH.put_same rfl (by ((repeat' with_reducible apply And.intro) <;> exact rfl)) (Nat.le_of_ble_eq_true rfl) (cs' := [.v _, .v _, .v _]) (T' := 31) rfl rfl trivial ?_
      -- op 9.6 fieldAddr t51
      refine gs td_ok rfl rfl rfl (r := .v _) (fun _ _ => rfl) trivial (rfl) ?_
      -- op 9.7 store tNone
      refine gs_store td_ok rfl rfl rfl rfl rfl XH.put_same rfl (by ((repeat' with_reducible apply And.intro) <;> exact rfl)) (Nat.le_of_ble_eq_true rfl) (cs' := [.v _, .v _, .v _]) (T' := 31) rfl rfl trivial ?_
      refine gs_nil ?_
      refine qn ?_
      refine AWP_seq ?_
      refine AWP_block ?_
      refine AWP_seq ?_
      refine AWP_region ?_
      -- op 10.0 move t53
      refine st td_ok rfl rfl rfl rfl (r := .v _) rfl trivial ?_
      -- op 10.1 call t54
      refine st_pcall rfl rfl rfl rfl rfl rfl rfl ⟨_, rfl, rfl, rfl⟩ (by first | exact small_c _ | exact great_c _ | exact digit_c _ | exact part_c _ | exact Keyword_c _) ?_
      -- op 10.2 assign t52
      refine st td_ok rfl rfl rfl rfl (r := .v _) rfl trivial ?_
      refine AOps_nil ?_
      refine qn ?_
      refine AWP_cond rfl rfl (fun h2 => ?_) (fun h2 => ?_)
      ·
        refine AWP_region ?_
        -- op 11.0 fieldAddr t55
        refine st td_ok rfl rfl rfl rfl (r := .v _) rfl trivial ?_
        -- op 11.1 store tNone
        refine st_store td_ok rfl rfl rfl rfl rfl rfl XH.put_same rfl (by ((repeat' with_reducible apply And.intro) <;> exact rfl)) (Nat.le_of_ble_eq_true rfl) (cs' := [.v _, .v _, .v _]) (T' := 31) rfl rfl ?_
        refine AOps_nil ?_
        refine qbn ?_
        refine qn ?_
        refine AWP_seq ?_
        refine AWP_region ?_
        -- op 14.0 move t61
        refine st td_ok rfl rfl rfl rfl (r := .v _) rfl trivial ?_
        -- op 14.1 move t62
        refine st td_ok rfl rfl rfl rfl (r := .v _) rfl trivial ?_
        -- op 14.2 binOp t63
        refine st_eq td_ok rfl rfl rfl rfl (r := .v _) rfl trivial (w64 (by omega)) ?_
        -- op 14.3 binOp t64
        refine st td_ok rfl rfl rfl rfl (r := .v _) rfl trivial ?_
        refine AOps_nil ?_
        refine qn ?_
        refine AWP_cond rfl rfl (fun h3 => ?_) (fun h3 => ?_)
        ·
          refine AWP_seq ?_
          refine AWP_region ?_
          -- op 15.0 load t65
          refine st_own (r := .agg [.v _, .v _, .v _]) td_ok rfl rfl rfl rfl rfl rfl rfl XH.put_same (Nat.le_of_ble_eq_true rfl) rfl  ?_
          -- op 15.1 store tNone
          refine st_store td_ok rfl rfl rfl rfl rfl rfl (XH.put_ne (by (first | assumption | exact Ne.symm (by assumption) | (intro h; simp [XH.put, h] at *; done))) (XH.put_ne (by (first | assumption | exact Ne.symm (by assumption) | (intro h; simp [XH.put, h] at *; done))) (XH.put_ne (by (first | assumption | exact Ne.symm (by assumption) | (intro h; simp [XH.put, h] at *; done))) (XH.put_ne (by (first | assumption | exact Ne.symm (by assumption) | (intro h; simp [XH.put, h] at *; done))) XH.put_same)))) rfl (by ((repeat' with_reducible apply And.intro) <;> exact rfl)) (Nat.le_of_ble_eq_true rfl) (cs' := [.v _, .v _, .v _]) (T' := 31) rfl rfl ?_
          -- op 15.2 assign t5
          refine st td_ok rfl rfl rfl rfl (r := .v _) rfl trivial ?_
          refine AOps_nil ?_
          refine qn ?_
          refine AWP_ret ?_
          refine qbr ?_
          refine qr ?_
          -- ret 0
          refine ⟨_, _, _, _, (resAV_many rfl (rvs_cons (rv1_own (r := .agg [.v _, .v _, .v _]) rfl rfl XH.put_same rfl) (rvs_cons rfl rfl))), (by ((repeat' with_reducible apply And.intro) <;> (first | with_reducible exact trivial | exact Nat.le_of_ble_eq_true rfl))), GS.forget _ _, ?_⟩
          first | show AV.v _ = _ | show AV.tup _ = _ | show AV.sl _ _ _ = _ | show AV.agg _ = _ | skip
          exact ret_name (s := s) (i := i) (e := j) h0 (hj3.symm.trans (scan_stop h1)) (by rw [if_pos h2]) (by rw [if_pos]; simp only [decide_eq_true_eq] at h3; omega)
        ·
          refine AWP_skip ?_
          refine qbn ?_
          refine qn ?_
          refine AWP_seq ?_
          refine AWP_region ?_
          -- op 26.0 load t111
          refine st_own (r := .agg [.v _, .v _, .v _]) td_ok rfl rfl rfl rfl rfl rfl rfl XH.put_same (Nat.le_of_ble_eq_true rfl) rfl  ?_
          -- op 26.1 store tNone
          refine st_store td_ok rfl rfl rfl rfl rfl rfl (XH.put_ne (by (first | assumption | exact Ne.symm (by assumption) | (intro h; simp [XH.put, h] at *; done))) (XH.put_ne (by (first | assumption | exact Ne.symm (by assumption) | (intro h; simp [XH.put, h] at *; done))) (XH.put_ne (by (first | assumption | exact Ne.symm (by assumption) | (intro h; simp [XH.put, h] at *; done))) (XH.put_ne (by (first | assumption | exact Ne.symm (by assumption) | (intro h; simp [XH.put, h] at *; done))) XH.put_same)))) rfl (by ((repeat' with_reducible apply And.intro) <;> exact rfl)) (Nat.le_of_ble_eq_true rfl) (cs' := [.v _, .v _, .v _]) (T' := 31) rfl rfl ?_
          -- op 26.2 assign t5
          refine st td_ok rfl rfl rfl rfl (r := .v _) rfl trivial ?_
          refine AOps_nil ?_
          refine qn ?_
          refine AWP_ret ?_
          -- ret 1
          refine ⟨_, _, _, _, (resAV_many rfl (rvs_cons (rv1_own (r := .agg [.v _, .v _, .v _]) rfl rfl XH.put_same rfl) (rvs_cons rfl rfl))), (by ((repeat' with_reducible apply And.intro) <;> (first | with_reducible exact trivial | exact Nat.le_of_ble_eq_true rfl))), GS.forget _ _, ?_⟩
          first | show AV.v _ = _ | show AV.tup _ = _ | show AV.sl _ _ _ = _ | show AV.agg _ = _ | skip
          exact ret_name (s := s) (i := i) (e := j) h0 (hj3.symm.trans (scan_stop h1)) (by rw [if_pos h2]) (by rw [if_neg]; simp only [decide_eq_false_iff_not] at h3; omega)
      ·
        refine AWP_seq ?_
        refine AWP_region ?_
        -- op 12.0 fieldAddr t57
        refine st td_ok rfl rfl rfl rfl (r := .v _) rfl trivial ?_
        -- op 12.1 load t58
        refine st_own (r := .v _) td_ok rfl rfl rfl rfl rfl rfl rfl XH.put_same (Nat.le_of_ble_eq_true rfl) rfl  ?_
        -- op 12.2 call t59
        refine st_pcall rfl rfl rfl rfl rfl rfl rfl ⟨_, rfl, rfl, rfl⟩ (by first | exact small_c _ | exact great_c _ | exact digit_c _ | exact part_c _ | exact Keyword_c _) ?_
        -- op 12.3 assign t56
        refine st td_ok rfl rfl rfl rfl (r := .v _) rfl trivial ?_
        refine AOps_nil ?_
        refine qn ?_
        refine AWP_cond rfl rfl (fun h4 => ?_) (fun h4 => ?_)
        ·
          refine AWP_region ?_
          -- op 13.0 fieldAddr t60
          refine st td_ok rfl rfl rfl rfl (r := .v _) rfl trivial ?_
          -- op 13.1 store tNone
          refine st_store td_ok rfl rfl rfl rfl rfl rfl XH.put_same rfl (by ((repeat' with_reducible apply And.intro) <;> exact rfl)) (Nat.le_of_ble_eq_true rfl) (cs' := [.v _, .v _, .v _]) (T' := 31) rfl rfl ?_
          refine AOps_nil ?_
          refine qbn ?_
          refine qn ?_
          refine AWP_seq ?_
          refine AWP_region ?_
          -- op 14.0 move t61
          refine st td_ok rfl rfl rfl rfl (r := .v _) rfl trivial ?_
          -- op 14.1 move t62
          refine st td_ok rfl rfl rfl rfl (r := .v _) rfl trivial ?_
          -- op 14.2 binOp t63
          refine st_eq td_ok rfl rfl rfl rfl (r := .v _) rfl trivial (w64 (by omega)) ?_
          -- op 14.3 binOp t64
          refine st td_ok rfl rfl rfl rfl (r := .v _) rfl trivial ?_
          refine AOps_nil ?_
          refine qn ?_
          refine AWP_cond rfl rfl (fun h5 => ?_) (fun h5 => ?_)
          ·
            refine AWP_seq ?_
            refine AWP_region ?_
            -- op 15.0 load t65
            refine st_own (r := .agg [.v _, .v _, .v _]) td_ok rfl rfl rfl rfl rfl rfl rfl XH.put_same (Nat.le_of_ble_eq_true rfl) rfl  ?_
            -- op 15.1 store tNone
            refine st_store td_ok rfl rfl rfl rfl rfl rfl (XH.put_ne (by (first | assumption | exact Ne.symm (by assumption) | (intro h; simp [XH.put, h] at *; done))) (XH.put_ne (by (first | assumption | exact Ne.symm (by assumption) | (intro h; simp [XH.put, h] at *; done))) (XH.put_ne (by (first | assumption | exact Ne.symm (by assumption) | (intro h; simp [XH.put, h] at *; done))) (XH.put_ne (by (first | assumption | exact Ne.symm (by assumption) | (intro h; simp [XH.put, h] at *; done))) XH.put_same)))) rfl (by ((repeat' with_reducible apply And.intro) <;> exact rfl)) (Nat.le_of_ble_eq_true rfl) (cs' := [.v _, .v _, .v _]) (T' := 31) rfl rfl ?_
            -- op 15.2 assign t5
            refine st td_ok rfl rfl rfl rfl (r := .v _) rfl trivial ?_
            refine AOps_nil ?_
            refine qn ?_
            refine AWP_ret ?_
            refine qbr ?_
            refine qr ?_
            -- ret 2
            refine ⟨_, _, _, _, (resAV_many rfl (rvs_cons (rv1_own (r := .agg [.v _, .v _, .v _]) rfl rfl XH.put_same rfl) (rvs_cons rfl rfl))), (by ((repeat' with_reducible apply And.intro) <;> (first | with_reducible exact trivial | exact Nat.le_of_ble_eq_true rfl))), GS.forget _ _, ?_⟩
            first | show AV.v _ = _ | show AV.tup _ = _ | show AV.sl _ _ _ = _ | show AV.agg _ = _ | skip
            exact ret_name (s := s) (i := i) (e := j) h0 (hj3.symm.trans (scan_stop h1)) (by rw [if_neg (by rw [h2]; simp)]; exact if_pos h4) (by rw [if_pos]; simp only [decide_eq_true_eq] at h5; omega)
          ·
            refine AWP_skip ?_
            refine qbn ?_
            refine qn ?_
            refine AWP_seq ?_
            refine AWP_region ?_
            -- op 26.0 load t111
            refine st_own (r := .agg [.v _, .v _, .v _]) td_ok rfl rfl rfl rfl rfl rfl rfl XH.put_same (Nat.le_of_ble_eq_true rfl) rfl  ?_
            -- op 26.1 store tNone
            refine st_store td_ok rfl rfl rfl rfl rfl rfl (XH.put_ne (by (first | assumption | exact Ne.symm (by assumption) | (intro h; simp [XH.put, h] at *; done))) (XH.put_ne (by (first | assumption | exact Ne.symm (by assumption) | (intro h; simp [XH.put, h] at *; done))) (XH.put_ne (by (first | assumption | exact Ne.symm (by assumption) | (intro h; simp [XH.put, h] at *; done))) (XH.put_ne (by (first | assumption | exact Ne.symm (by assumption) | (intro h; simp [XH.put, h] at *; done))) XH.put_same)))) rfl (by ((repeat' with_reducible apply And.intro) <;> exact rfl)) (Nat.le_of_ble_eq_true rfl) (cs' := [.v _, .v _, .v _]) (T' := 31) rfl rfl ?_
            -- op 26.2 assign t5
            refine st td_ok rfl rfl rfl rfl (r := .v _) rfl trivial ?_
            refine AOps_nil ?_
            refine qn ?_
            refine AWP_ret ?_
            -- ret 3
            refine ⟨_, _, _, _, (resAV_many rfl (rvs_cons (rv1_own (r := .agg [.v _, .v _, .v _]) rfl rfl XH.put_same rfl) (rvs_cons rfl rfl))), (by ((repeat' with_reducible apply And.intro) <;> (first | with_reducible exact trivial | exact Nat.le_of_ble_eq_true rfl))), GS.forget _ _, ?_⟩
            first | show AV.v _ = _ | show AV.tup _ = _ | show AV.sl _ _ _ = _ | show AV.agg _ = _ | skip
            exact ret_name (s := s) (i := i) (e := j) h0 (hj3.symm.trans (scan_stop h1)) (by rw [if_neg (by rw [h2]; simp)]; exact if_pos h4) (by rw [if_neg]; simp only [decide_eq_false_iff_not] at h5; omega)
        ·
          refine AWP_skip ?_
          refine qbn ?_
          refine qn ?_
          refine AWP_seq ?_
          refine AWP_region ?_
          -- op 14.0 move t61
          refine st td_ok rfl rfl rfl rfl (r := .v _) rfl trivial ?_
          -- op 14.1 move t62
          refine st td_ok rfl rfl rfl rfl (r := .v _) rfl trivial ?_
          -- op 14.2 binOp t63
          refine st_eq td_ok rfl rfl rfl rfl (r := .v _) rfl trivial (w64 (by omega)) ?_
          -- op 14.3 binOp t64
          refine st td_ok rfl rfl rfl rfl (r := .v _) rfl trivial ?_
          refine AOps_nil ?_
          refine qn ?_
          refine AWP_cond rfl rfl (fun h6 => ?_) (fun h6 => ?_)
          ·
            refine AWP_seq ?_
            refine AWP_region ?_
            -- op 15.0 load t65
            refine st_own (r := .agg [.v _, .v _, .v _]) td_ok rfl rfl rfl rfl rfl rfl rfl XH.put_same (Nat.le_of_ble_eq_true rfl) rfl  ?_
            -- op 15.1 store tNone
            refine st_store td_ok rfl rfl rfl rfl rfl rfl (XH.put_ne (by (first | assumption | exact Ne.symm (by assumption) | (intro h; simp [XH.put, h] at *; done))) (XH.put_ne (by (first | assumption | exact Ne.symm (by assumption) | (intro h; simp [XH.put, h] at *; done))) (XH.put_ne (by (first | assumption | exact Ne.symm (by assumption) | (intro h; simp [XH.put, h] at *; done))) XH.put_same))) rfl (by ((repeat' with_reducible apply And.intro) <;> exact rfl)) (Nat.le_of_ble_eq_true rfl) (cs' := [.v _, .v _, .v _]) (T' := 31) rfl rfl ?_
            -- op 15.2 assign t5
            refine st td_ok rfl rfl rfl rfl (r := .v _) rfl trivial ?_
            refine AOps_nil ?_
            refine qn ?_
            refine AWP_ret ?_
            refine qbr ?_
            refine qr ?_
            -- ret 4
            refine ⟨_, _, _, _, (resAV_many rfl (rvs_cons (rv1_own (r := .agg [.v _, .v _, .v _]) rfl rfl XH.put_same rfl) (rvs_cons rfl rfl))), (by ((repeat' with_reducible apply And.intro) <;> (first | with_reducible exact trivial | exact Nat.le_of_ble_eq_true rfl))), GS.forget _ _, ?_⟩
            first | show AV.v _ = _ | show AV.tup _ = _ | show AV.sl _ _ _ = _ | show AV.agg _ = _ | skip
            exact ret_name (s := s) (i := i) (e := j) h0 (hj3.symm.trans (scan_stop h1)) (by rw [if_neg (by rw [h2]; simp)]; exact if_neg (fun h => absurd (h4.symm.trans h) (by simp))) (by rw [if_pos]; simp only [decide_eq_true_eq] at h6; omega)
          ·
            refine AWP_skip ?_
            refine qbn ?_
            refine qn ?_
            refine AWP_seq ?_
            refine AWP_region ?_
            -- op 26.0 load t111
            refine st_own (r := .agg [.v _, .v _, .v _]) td_ok rfl rfl rfl rfl rfl rfl rfl XH.put_same (Nat.le_of_ble_eq_true rfl) rfl  ?_
            -- op 26.1 store tNone
            refine st_store td_ok rfl rfl rfl rfl rfl rfl (XH.put_ne (by (first | assumption | exact Ne.symm (by assumption) | (intro h; simp [XH.put, h] at *; done))) (XH.put_ne (by (first | assumption | exact Ne.symm (by assumption) | (intro h; simp [XH.put, h] at *; done))) (XH.put_ne (by (first | assumption | exact Ne.symm (by assumption) | (intro h; simp [XH.put, h] at *; done))) XH.put_same))) rfl (by ((repeat' with_reducible apply And.intro) <;> exact rfl)) (Nat.le_of_ble_eq_true rfl) (cs' := [.v _, .v _, .v _]) (T' := 31) rfl rfl ?_
            -- op 26.2 assign t5
            refine st td_ok rfl rfl rfl rfl (r := .v _) rfl trivial ?_
            refine AOps_nil ?_
            refine qn ?_
            refine AWP_ret ?_
            -- ret 5
            refine ⟨_, _, _, _, (resAV_many rfl (rvs_cons (rv1_own (r := .agg [.v _, .v _, .v _]) rfl rfl XH.put_same rfl) (rvs_cons rfl rfl))), (by ((repeat' with_reducible apply And.intro) <;> (first | with_reducible exact trivial | exact Nat.le_of_ble_eq_true rfl))), GS.forget _ _, ?_⟩
            first | show AV.v _ = _ | show AV.tup _ = _ | show AV.sl _ _ _ = _ | show AV.agg _ = _ | skip
            exact ret_name (s := s) (i := i) (e := j) h0 (hj3.symm.trans (scan_stop h1)) (by rw [if_neg (by rw [h2]; simp)]; exact if_neg (fun h => absurd (h4.symm.trans h) (by simp))) (by rw [if_neg]; simp only [decide_eq_false_iff_not] at h6; omega)
  ·
    refine AWP_seq ?_
    refine AWP_region ?_
    -- op 16.0 move t67
    refine st td_ok rfl rfl rfl rfl (r := .v _) rfl trivial ?_
    -- op 16.1 call t68
    refine st_pcall rfl rfl rfl rfl rfl rfl rfl ⟨_, rfl, rfl, rfl⟩ (by first | exact small_c _ | exact great_c _ | exact digit_c _ | exact part_c _ | exact Keyword_c _) ?_
    -- op 16.2 assign t66
    refine st td_ok rfl rfl rfl rfl (r := .v _) rfl trivial ?_
    refine AOps_nil ?_
    refine qn ?_
    refine AWP_cond rfl rfl (fun h7 => ?_) (fun h7 => ?_)
    ·
      refine AWP_seq ?_
      have hd := between_iff.mp h7
      refine AWP_region ?_
      -- op 17.0 move t69
      refine st td_ok rfl rfl rfl rfl (r := .v _) rfl trivial ?_
      -- op 17.1 binOp t70
      refine st_eq td_ok rfl rfl rfl rfl (r := .v _) rfl trivial (u8c (by omega)) ?_
      -- op 17.2 convert t71
      refine st_eq td_ok rfl rfl rfl rfl (r := .v _) rfl trivial ((show AV.v (.int .i64 (IntKind.i64.wrap _)) = AV.v (.int .i64 (bt s i - 48)) from w64 (by omega))) ?_
      -- op 17.3 assign t9
      refine st td_ok rfl rfl rfl rfl (r := .v _) rfl trivial ?_
      refine AOps_nil ?_
      refine qn ?_
      refine AWP_seq ?_
      refine AWP_block ?_
      -- loop: live [0, 1, 4, 6, 7, 8, 9]
      have hne : r8 ≠ r4 := (XH.put_none hr8).1
      refine AWP_for (fun (x : Nat × Int) => [(0, .v (.string s)), (1, .v (.int .i64 i)), (4, .v (.pointer (some ⟨r4, 0, none⟩))), (6, .v (.int .u8 (bt s i))), (7, .v (.int .i64 x.1)), (8, .v (.pointer (some ⟨r8, 0, none⟩))), (9, .v (.int .i64 x.2))]) (fun x X => i < x.1 ∧ x.1 ≤ s.size ∧ X = (XH.none.put r4 ⟨31, [.v (.int .i64 0), .v (.string ⟨#[]⟩), .v (.int .i64 0)]⟩).put r8 ⟨31, [.v (.int .i64 0), .v (.string ⟨#[]⟩), .v (.int .i64 i)]⟩ ∧ 0 ≤ x.2 ∧ x.2 ≤ 1000001 ∧ numN s (s.size - x.1) x.1 x.2 = numN s (s.size - (i + 1)) (i + 1) (bt s i - 48)) (fun x => s.size - x.1) (i + 1, bt s i - 48) ⟨by (repeat' (first | exact rfl | exact trivial | apply And.intro)), ⟨by simp only []; omega, by simp only []; omega, XH.put_put, by simp only []; omega, by simp only []; omega, rfl⟩⟩ ?_
      rintro x X ⟨hj1, hj2, rfl, hj3, hj4, hj5⟩
      refine AWP_seq ?_
      refine AWP_seq ?_
      refine AWP_region ?_
      -- op 18.0 move t72
      refine st td_ok rfl rfl rfl rfl (r := .v _) rfl trivial ?_
      -- op 18.1 move t73
      refine st td_ok rfl rfl rfl rfl (r := .v _) rfl trivial ?_
      -- op 18.2 call t74
      refine st td_ok rfl rfl rfl rfl (r := .v _) rfl trivial ?_
      -- op 18.3 binOp t75
      refine st td_ok rfl rfl rfl rfl (r := .v _) rfl trivial ?_
      -- op 18.4 move t76
      refine st td_ok rfl rfl rfl rfl (r := .v _) rfl trivial ?_
      -- op 18.5 move t77 g['4', 'true']
      (refine sgk0 td_ok rfl rfl rfl rfl rfl rfl (r := .v _) rfl ?_ ?_; · exact fun hg => ⟨by (repeat' (first | exact trivial | exact hg | exact (Bool.and_eq_true_iff.mp hg).1 | apply And.intro)), by exact trivial⟩)
      -- op 18.6 move t78 g['4', 'true']
      (refine sgk0 td_ok rfl rfl rfl rfl rfl rfl (r := .v _) rfl ?_ ?_; · exact fun hg => ⟨by (repeat' (first | exact trivial | exact hg | exact (Bool.and_eq_true_iff.mp hg).1 | apply And.intro)), by exact trivial⟩)
      -- op 18.7 index t79 g['4', 'true']
      (refine sgk0 td_ok rfl rfl rfl rfl rfl rfl (r := .v _) rfl ?_ ?_; · exact fun hg => ⟨by (repeat' (first | exact trivial | exact hg | exact (Bool.and_eq_true_iff.mp hg).1 | apply And.intro)), by ((repeat' with_reducible apply And.intro) <;> (first | omega | (simp only [cond_true, cond_false, nd, Option.getD_none, Option.getD_some, Int.toNat_natCast, strs_len, nums_len, List.length_append, tds2, tds3, tds4, tds5, tds9, tds12, tds21, tds23, tds24, tds27, tds30, tds31, tds32, tds34, tds51, tds55, decide_eq_true_eq, Bool.and_eq_true, Bool.not_eq_true', decide_eq_false_iff_not] at *; omega)))⟩)
      -- op 18.8 call t80 g['4', 'true']
      refine stg_call rfl rfl rfl rfl rfl rfl rfl rfl (fun hg => ⟨by (repeat' (first | exact trivial | exact hg | exact (Bool.and_eq_true_iff.mp hg).1 | apply And.intro)), rfl, ⟨_, rfl, rfl, rfl⟩, (by first | exact small_c _ | exact great_c _ | exact digit_c _ | exact part_c _ | exact Keyword_c _)⟩) ?_
      -- op 18.9 pick t81
      (refine st td_ok rfl rfl rfl rfl (r := .v _) rfl ?_ ?_; · exact (fun h => h))
      refine AOps_nil ?_
      refine qn ?_
      refine AWP_cond rfl rfl (fun h8 => ?_) (fun h8 => ?_)
      ·
        refine AWP_skip ?_
        refine qn ?_
        refine AWP_seq ?_
        refine AWP_block ?_
        have hb8 := bif_t h8
        have hx8 : (x.1 : Int) < s.size := of_decide_eq_true hb8.1
        have hd2 := between_iff.mp hb8.2
        refine AWP_region ?_
        -- op 20.0 move t84
        refine st td_ok rfl rfl rfl rfl (r := .v _) rfl trivial ?_
        -- op 20.1 binOp t85
        refine st_eq td_ok rfl rfl rfl rfl (r := .v _) rfl trivial (w64 (by omega)) ?_
        -- op 20.2 move t86
        refine st td_ok rfl rfl rfl rfl (r := .v _) rfl trivial ?_
        -- op 20.3 move t87
        refine st td_ok rfl rfl rfl rfl (r := .v _) rfl trivial ?_
        -- op 20.4 index t88
        (refine st td_ok rfl rfl rfl rfl (r := .v _) rfl ?_ ?_; · ((repeat' with_reducible apply And.intro) <;> (first | with_reducible assumption | omega)))
        -- op 20.5 binOp t89
        refine st_eq td_ok rfl rfl rfl rfl (r := .v _) rfl trivial (u8c (by omega)) ?_
        -- op 20.6 convert t90
        refine st_eq td_ok rfl rfl rfl rfl (r := .v _) rfl trivial ((show AV.v (.int .i64 (IntKind.i64.wrap _)) = AV.v (.int .i64 (bt s x.1 - 48)) from w64 (by omega))) ?_
        -- op 20.7 binOp t91
        refine st_eq td_ok rfl rfl rfl rfl (r := .v _) rfl trivial (w64 (by omega)) ?_
        -- op 20.8 call t92
        refine st td_ok rfl rfl rfl rfl (r := .v _) rfl trivial ?_
        -- op 20.9 assign t9
        refine st td_ok rfl rfl rfl rfl (r := .v _) rfl trivial ?_
        refine AOps_nil ?_
        refine qbn ?_
        refine qn ?_
        refine AWP_region ?_
        -- op 19.0 move t82
        refine st td_ok rfl rfl rfl rfl (r := .v _) rfl trivial ?_
        -- op 19.1 binOp t83
        refine st_eq td_ok rfl rfl rfl rfl (r := .v _) rfl trivial (w64 (by omega)) ?_
        -- op 19.2 assign t7
        refine st td_ok rfl rfl rfl rfl (r := .v _) rfl trivial ?_
        refine AOps_nil ?_
        -- back 1 (loop 18)
        refine qn ?_
        refine ⟨(x.1 + 1, if (1000001 : Int) < x.2 * 10 + (bt s x.1 - 48) then 1000001 else x.2 * 10 + (bt s x.1 - 48)), by simp only []; omega, by (repeat' (first | exact rfl | exact trivial | apply And.intro)), by simp only []; omega, by simp only []; omega, rfl, by simp only []; split <;> omega, by simp only []; split <;> omega, ?_⟩
        rw [← hj5, num_go hx8 hb8.2, min_if]
      ·
        refine AWP_exit ?_
        refine qx ?_
        refine qx ?_
        refine qbh ?_
        refine qn ?_
        refine AWP_seq ?_
        refine AWP_par rfl td_ok [(0, .D), (1, .D), (2, .D), (3, .D), (4, .D), (5, .W), (6, .D), (7, .W)] (fun _ => True) rfl rfl rfl rfl trivial ?_
        -- op 21.0 move t93
        refine gs td_ok rfl rfl rfl (r := .v _) (fun _ _ => rfl) trivial (rfl) ?_
        -- op 21.1 move t94
        refine gs td_ok rfl rfl rfl (r := .v _) (fun _ _ => rfl) trivial (rfl) ?_
        -- op 21.2 move t95
        refine gs td_ok rfl rfl rfl (r := .v _) (fun _ _ => rfl) trivial (rfl) ?_
        -- op 21.3 slice t96
        (refine gs td_ok rfl rfl rfl (r := .v _) (fun _ _ => rfl) ?_ (rfl) ?_; · ((repeat' with_reducible apply And.intro) <;> (first | omega | (simp only [cond_true, cond_false, nd, Option.getD_none, Option.getD_some, Int.toNat_natCast, strs_len, nums_len, List.length_append, tds2, tds3, tds4, tds5, tds9, tds12, tds21, tds23, tds24, tds27, tds30, tds31, tds32, tds34, tds51, tds55, decide_eq_true_eq, Bool.and_eq_true, Bool.not_eq_true', decide_eq_false_iff_not] at *; omega))))
        -- op 21.4 fieldAddr t97
        refine gs td_ok rfl rfl rfl (r := .v _) (fun _ _ => rfl) trivial (rfl) ?_
        -- op 21.5 store tNone
        refine gs_store td_ok rfl rfl rfl rfl rfl XH.put_same rfl (by ((repeat' with_reducible apply And.intro) <;> exact rfl)) (Nat.le_of_ble_eq_true rfl) (cs' := [.v _, .v _, .v _]) (T' := 31) rfl rfl trivial ?_
        -- op 21.6 fieldAddr t98
        refine gs td_ok rfl rfl rfl (r := .v _) (fun _ _ => rfl) trivial (rfl) ?_
        -- op 21.7 store tNone
        refine gs_store td_ok rfl rfl rfl rfl rfl XH.put_same rfl (by ((repeat' with_reducible apply And.intro) <;> exact rfl)) (Nat.le_of_ble_eq_true rfl) (cs' := [.v _, .v _, .v _]) (T' := 31) rfl rfl trivial ?_
        refine gs_nil ?_
        refine qn ?_
        refine AWP_seq ?_
        refine AWP_seq ?_
        refine AWP_region ?_
        -- op 22.0 move t99
        refine st td_ok rfl rfl rfl rfl (r := .v _) rfl trivial ?_
        -- op 22.1 binOp t100
        refine st td_ok rfl rfl rfl rfl (r := .v _) rfl trivial ?_
        -- op 22.2 move t101
        refine st td_ok rfl rfl rfl rfl (r := .v _) rfl trivial ?_
        -- op 22.3 move t102 g['2', 'true']
        (refine sgk0 td_ok rfl rfl rfl rfl rfl rfl (r := .v _) rfl ?_ ?_; · exact fun hg => ⟨by (repeat' (first | exact trivial | exact hg | exact (Bool.and_eq_true_iff.mp hg).1 | apply And.intro)), by exact trivial⟩)
        -- op 22.4 move t103 g['2', 'true']
        (refine sgk0 td_ok rfl rfl rfl rfl rfl rfl (r := .v _) rfl ?_ ?_; · exact fun hg => ⟨by (repeat' (first | exact trivial | exact hg | exact (Bool.and_eq_true_iff.mp hg).1 | apply And.intro)), by exact trivial⟩)
        -- op 22.5 binOp t104 g['2', 'true']
        (refine sgke td_ok rfl rfl rfl rfl rfl rfl (r := .v _) rfl (w64 (by omega)) ?_ ?_; · exact fun hg => ⟨by (repeat' (first | exact trivial | exact hg | exact (Bool.and_eq_true_iff.mp hg).1 | apply And.intro)), trivial⟩)
        -- op 22.6 binOp t105 g['2', 'true']
        (refine sgk0 td_ok rfl rfl rfl rfl rfl rfl (r := .v _) rfl ?_ ?_; · exact fun hg => ⟨by (repeat' (first | exact trivial | exact hg | exact (Bool.and_eq_true_iff.mp hg).1 | apply And.intro)), by exact trivial⟩)
        -- op 22.7 pick t106
        (refine st td_ok rfl rfl rfl rfl (r := .v _) rfl ?_ ?_; · exact (fun h => h))
        refine AOps_nil ?_
        refine qn ?_
        refine AWP_cond rfl rfl (fun h9 => ?_) (fun h9 => ?_)
        ·
          refine AWP_seq ?_
          refine AWP_region ?_
          -- op 23.0 load t107
          refine st_own (r := .agg [.v _, .v _, .v _]) td_ok rfl rfl rfl rfl rfl rfl rfl XH.put_same (Nat.le_of_ble_eq_true rfl) rfl  ?_
          -- op 23.1 store tNone
          refine st_store td_ok rfl rfl rfl rfl rfl rfl (XH.put_ne (by (first | assumption | exact Ne.symm (by assumption) | (intro h; simp [XH.put, h] at *; done))) (XH.put_ne (by (first | assumption | exact Ne.symm (by assumption) | (intro h; simp [XH.put, h] at *; done))) (XH.put_ne (by (first | assumption | exact Ne.symm (by assumption) | (intro h; simp [XH.put, h] at *; done))) XH.put_same))) rfl (by ((repeat' with_reducible apply And.intro) <;> exact rfl)) (Nat.le_of_ble_eq_true rfl) (cs' := [.v _, .v _, .v _]) (T' := 31) rfl rfl ?_
          -- op 23.2 assign t5
          refine st td_ok rfl rfl rfl rfl (r := .v _) rfl trivial ?_
          refine AOps_nil ?_
          refine qn ?_
          refine AWP_ret ?_
          refine qr ?_
          refine qbr ?_
          refine qr ?_
          -- ret 6
          refine ⟨_, _, _, _, (resAV_many rfl (rvs_cons (rv1_own (r := .agg [.v _, .v _, .v _]) rfl rfl XH.put_same rfl) (rvs_cons rfl rfl))), (by ((repeat' with_reducible apply And.intro) <;> (first | with_reducible exact trivial | exact Nat.le_of_ble_eq_true rfl))), GS.forget _ _, ?_⟩
          first | show AV.v _ = _ | show AV.tup _ = _ | show AV.sl _ _ _ = _ | show AV.agg _ = _ | skip
          exact ret_num (s := s) (i := i) (e := x.1) (v := x.2) h0 h7 (hj5.symm.trans (num_stop h8)) (by rw [if_pos]; have h := bif_t h9; simp only [decide_eq_true_eq] at h; exact ⟨by simpa using h.1, by omega⟩)
        ·
          refine AWP_skip ?_
          refine qn ?_
          refine AWP_seq ?_
          refine AWP_region ?_
          -- op 24.0 move t108
          refine st td_ok rfl rfl rfl rfl (r := .v _) rfl trivial ?_
          -- op 24.1 binOp t109
          refine st td_ok rfl rfl rfl rfl (r := .v _) rfl trivial ?_
          refine AOps_nil ?_
          refine qn ?_
          refine AWP_cond rfl rfl (fun h10 => ?_) (fun h10 => ?_)
          ·
            refine AWP_seq ?_
            refine AWP_region ?_
            -- op 25.0 load t110
            refine st_own (r := .agg [.v _, .v _, .v _]) td_ok rfl rfl rfl rfl rfl rfl rfl XH.put_same (Nat.le_of_ble_eq_true rfl) rfl  ?_
            -- op 25.1 store tNone
            refine st_store td_ok rfl rfl rfl rfl rfl rfl (XH.put_ne (by (first | assumption | exact Ne.symm (by assumption) | (intro h; simp [XH.put, h] at *; done))) (XH.put_ne (by (first | assumption | exact Ne.symm (by assumption) | (intro h; simp [XH.put, h] at *; done))) (XH.put_ne (by (first | assumption | exact Ne.symm (by assumption) | (intro h; simp [XH.put, h] at *; done))) XH.put_same))) rfl (by ((repeat' with_reducible apply And.intro) <;> exact rfl)) (Nat.le_of_ble_eq_true rfl) (cs' := [.v _, .v _, .v _]) (T' := 31) rfl rfl ?_
            -- op 25.2 assign t5
            refine st td_ok rfl rfl rfl rfl (r := .v _) rfl trivial ?_
            refine AOps_nil ?_
            refine qn ?_
            refine AWP_ret ?_
            refine qbr ?_
            refine qr ?_
            -- ret 7
            refine ⟨_, _, _, _, (resAV_many rfl (rvs_cons (rv1_own (r := .agg [.v _, .v _, .v _]) rfl rfl XH.put_same rfl) (rvs_cons rfl rfl))), (by ((repeat' with_reducible apply And.intro) <;> (first | with_reducible exact trivial | exact Nat.le_of_ble_eq_true rfl))), GS.forget _ _, ?_⟩
            first | show AV.v _ = _ | show AV.tup _ = _ | show AV.sl _ _ _ = _ | show AV.agg _ = _ | skip
            exact ret_num (s := s) (i := i) (e := x.1) (v := x.2) h0 h7 (hj5.symm.trans (num_stop h8)) (by rw [if_neg (no_lead h9)]; rw [if_pos]; simp only [decide_eq_true_eq] at h10; omega)
          ·
            refine AWP_skip ?_
            refine qbn ?_
            refine qn ?_
            refine AWP_seq ?_
            refine AWP_region ?_
            -- op 26.0 load t111
            refine st_own (r := .agg [.v _, .v _, .v _]) td_ok rfl rfl rfl rfl rfl rfl rfl XH.put_same (Nat.le_of_ble_eq_true rfl) rfl  ?_
            -- op 26.1 store tNone
            refine st_store td_ok rfl rfl rfl rfl rfl rfl (XH.put_ne (by (first | assumption | exact Ne.symm (by assumption) | (intro h; simp [XH.put, h] at *; done))) (XH.put_ne (by (first | assumption | exact Ne.symm (by assumption) | (intro h; simp [XH.put, h] at *; done))) (XH.put_ne (by (first | assumption | exact Ne.symm (by assumption) | (intro h; simp [XH.put, h] at *; done))) XH.put_same))) rfl (by ((repeat' with_reducible apply And.intro) <;> exact rfl)) (Nat.le_of_ble_eq_true rfl) (cs' := [.v _, .v _, .v _]) (T' := 31) rfl rfl ?_
            -- op 26.2 assign t5
            refine st td_ok rfl rfl rfl rfl (r := .v _) rfl trivial ?_
            refine AOps_nil ?_
            refine qn ?_
            refine AWP_ret ?_
            -- ret 8
            refine ⟨_, _, _, _, (resAV_many rfl (rvs_cons (rv1_own (r := .agg [.v _, .v _, .v _]) rfl rfl XH.put_same rfl) (rvs_cons rfl rfl))), (by ((repeat' with_reducible apply And.intro) <;> (first | with_reducible exact trivial | exact Nat.le_of_ble_eq_true rfl))), GS.forget _ _, ?_⟩
            first | show AV.v _ = _ | show AV.tup _ = _ | show AV.sl _ _ _ = _ | show AV.agg _ = _ | skip
            exact ret_num (s := s) (i := i) (e := x.1) (v := x.2) h0 h7 (hj5.symm.trans (num_stop h8)) (by rw [if_neg (no_lead h9)]; rw [if_neg]; simp only [decide_eq_false_iff_not] at h10; omega)
    ·
      refine AWP_seq ?_
      refine AWP_region ?_
      -- op 3.0 move t17
      refine st td_ok rfl rfl rfl rfl (r := .v _) rfl trivial ?_
      -- op 3.1 move t18
      refine st td_ok rfl rfl rfl rfl (r := .v _) rfl trivial ?_
      -- op 3.2 slice t19
      (refine st td_ok rfl rfl rfl rfl (r := .v _) rfl ?_ ?_; · ((repeat' with_reducible apply And.intro) <;> (first | with_reducible exact trivial | omega | (simp only [cond_true, cond_false, nd, Option.getD_none, Option.getD_some, Int.toNat_natCast, strs_len, nums_len, List.length_append, tds2, tds3, tds4, tds5, tds9, tds12, tds21, tds23, tds24, tds27, tds30, tds31, tds32, tds34, tds51, tds55, decide_eq_true_eq, Bool.and_eq_true, Bool.not_eq_true', decide_eq_false_iff_not] at *; omega))))
      -- op 3.3 call t20
      refine st_pcall rfl rfl rfl rfl rfl rfl rfl ⟨_, rfl, rfl, rfl⟩ (sign_c _ (by simp only [nd, Option.getD_some, Int.toNat_natCast, ByteArray.size_extract]; omega)) ?_
      -- op 3.4 fieldAddr t21
      refine st td_ok rfl rfl rfl rfl (r := .v _) rfl trivial ?_
      -- op 3.5 store tNone
      refine st_store td_ok rfl rfl rfl rfl rfl rfl XH.put_same rfl (by ((repeat' with_reducible apply And.intro) <;> exact rfl)) (Nat.le_of_ble_eq_true rfl) (cs' := [.v _, .v _, .v _]) (T' := 31) rfl rfl ?_
      -- op 3.6 fieldAddr t22
      refine st td_ok rfl rfl rfl rfl (r := .v _) rfl trivial ?_
      -- op 3.7 store tNone
      refine st_store td_ok rfl rfl rfl rfl rfl rfl XH.put_same rfl (by ((repeat' with_reducible apply And.intro) <;> exact rfl)) (Nat.le_of_ble_eq_true rfl) (cs' := [.v _, .v _, .v _]) (T' := 31) rfl rfl ?_
      refine AOps_nil ?_
      refine qn ?_
      refine AWP_seq ?_
      refine AWP_region ?_
      -- op 4.0 fieldAddr t23
      refine st td_ok rfl rfl rfl rfl (r := .v _) rfl trivial ?_
      -- op 4.1 load t24
      refine st_own (r := .v _) td_ok rfl rfl rfl rfl rfl rfl rfl XH.put_same (Nat.le_of_ble_eq_true rfl) rfl  ?_
      -- op 4.2 binOp t25
      refine st td_ok rfl rfl rfl rfl (r := .v _) rfl trivial ?_
      refine AOps_nil ?_
      refine qn ?_
      refine AWP_cond rfl rfl (fun h11 => ?_) (fun h11 => ?_)
      ·
        refine AWP_seq ?_
        refine AWP_region ?_
        -- op 5.0 load t26
        refine st_own (r := .agg [.v _, .v _, .v _]) td_ok rfl rfl rfl rfl rfl rfl rfl XH.put_same (Nat.le_of_ble_eq_true rfl) rfl  ?_
        -- op 5.1 store tNone
        refine st_store td_ok rfl rfl rfl rfl rfl rfl (XH.put_ne (by (first | assumption | exact Ne.symm (by assumption) | (intro h; simp [XH.put, h] at *; done))) (XH.put_ne (by (first | assumption | exact Ne.symm (by assumption) | (intro h; simp [XH.put, h] at *; done))) (XH.put_ne (by (first | assumption | exact Ne.symm (by assumption) | (intro h; simp [XH.put, h] at *; done))) (XH.put_ne (by (first | assumption | exact Ne.symm (by assumption) | (intro h; simp [XH.put, h] at *; done))) XH.put_same)))) rfl (by ((repeat' with_reducible apply And.intro) <;> exact rfl)) (Nat.le_of_ble_eq_true rfl) (cs' := [.v _, .v _, .v _]) (T' := 31) rfl rfl ?_
        -- op 5.2 assign t5
        refine st td_ok rfl rfl rfl rfl (r := .v _) rfl trivial ?_
        refine AOps_nil ?_
        refine qn ?_
        refine AWP_ret ?_
        refine qbr ?_
        refine qr ?_
        -- ret 9
        refine ⟨_, _, _, _, (resAV_many rfl (rvs_cons (rv1_own (r := .agg [.v _, .v _, .v _]) rfl rfl XH.put_same rfl) (rvs_cons rfl rfl))), (by ((repeat' with_reducible apply And.intro) <;> (first | with_reducible exact trivial | exact Nat.le_of_ble_eq_true rfl))), GS.forget _ _, ?_⟩
        first | show AV.v _ = _ | show AV.tup _ = _ | show AV.sl _ _ _ = _ | show AV.agg _ = _ | skip
        exact ret_sign (s := s) (i := i) h0 h7 hlt (if_pos (sign_none (s := s.extract i s.size) (by simp only [ByteArray.size_extract]; omega) h11))
      ·
        refine AWP_skip ?_
        refine qbn ?_
        refine qn ?_
        refine AWP_seq ?_
        refine AWP_region ?_
        -- op 26.0 load t111
        refine st_own (r := .agg [.v _, .v _, .v _]) td_ok rfl rfl rfl rfl rfl rfl rfl XH.put_same (Nat.le_of_ble_eq_true rfl) rfl  ?_
        -- op 26.1 store tNone
        refine st_store td_ok rfl rfl rfl rfl rfl rfl (XH.put_ne (by (first | assumption | exact Ne.symm (by assumption) | (intro h; simp [XH.put, h] at *; done))) (XH.put_ne (by (first | assumption | exact Ne.symm (by assumption) | (intro h; simp [XH.put, h] at *; done))) (XH.put_ne (by (first | assumption | exact Ne.symm (by assumption) | (intro h; simp [XH.put, h] at *; done))) (XH.put_ne (by (first | assumption | exact Ne.symm (by assumption) | (intro h; simp [XH.put, h] at *; done))) XH.put_same)))) rfl (by ((repeat' with_reducible apply And.intro) <;> exact rfl)) (Nat.le_of_ble_eq_true rfl) (cs' := [.v _, .v _, .v _]) (T' := 31) rfl rfl ?_
        -- op 26.2 assign t5
        refine st td_ok rfl rfl rfl rfl (r := .v _) rfl trivial ?_
        refine AOps_nil ?_
        refine qn ?_
        refine AWP_ret ?_
        -- ret 10
        refine ⟨_, _, _, _, (resAV_many rfl (rvs_cons (rv1_own (r := .agg [.v _, .v _, .v _]) rfl rfl XH.put_same rfl) (rvs_cons rfl rfl))), (by ((repeat' with_reducible apply And.intro) <;> (first | with_reducible exact trivial | exact Nat.le_of_ble_eq_true rfl))), GS.forget _ _, ?_⟩
        first | show AV.v _ = _ | show AV.tup _ = _ | show AV.sl _ _ _ = _ | show AV.agg _ = _ | skip
        exact ret_sign (s := s) (i := i) h0 h7 hlt (if_neg (sign_some (s := s.extract i s.size) h11))
end Go.Proofs.Ytoiolofgcgkgiaa.V
