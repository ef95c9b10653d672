import Derived.Test.YtoiolofgcgkgiaaT4
namespace Go.Proofs.Ytoiolofgcgkgiaa.V
open Go
set_option linter.unusedSimpArgs false
set_option linter.unusedVariables false

theorem bt_get {s : ByteArray} {j : Nat} (h : j < s.size) : bt s j = (s[j].toNat : Int) := by
  unfold bt
  simp only [Int.toNat_natCast]
  congr 2
  rw [List.getD_eq_getElem?_getD, List.getElem?_eq_getElem (by simpa using h), Option.getD_some]
  rfl
theorem bt_extract {s : ByteArray} {i e j : Nat} (h : i + j < e) (he : e ≤ s.size) : bt (s.extract i e) j = bt s (i + j : Nat) := by
  rw [bt_get (by simp only [ByteArray.size_extract]; omega), bt_get (by omega)]
  rw [ByteArray.getElem_extract]
theorem numN_fst (s : ByteArray) : ∀ (k j : Nat) (n : Int), (numN s k j n).1 = scanE (between 48 57) s k j
  | 0, j, n => rfl
  | k + 1, j, n => by
    simp only [numN, scanE]
    split
    · exact numN_fst s k (j + 1) _
    · rfl
theorem numN_big (s : ByteArray) : ∀ (k j : Nat) (n : Int), 1000001 ≤ n → 1000001 ≤ (numN s k j n).2
  | 0, j, n, h => h
  | k + 1, j, n, h => by
    simp only [numN]
    split
    · rename_i hb
      have := between_iff.mp hb
      exact numN_big s k (j + 1) _ (by omega)
    · exact h
theorem num_val {s : ByteArray} {i e : Nat} (he : e ≤ s.size) : ∀ (k K j : Nat) (v : Int), i + j + k = e → 0 ≤ v → v ≤ 1000000 → scanE (between 48 57) s K (i + j) = e → ((valF (s.extract i e) k j v).isSome = true ↔ (numN s K (i + j) v).2 ≤ 1000000)
  | 0, K, j, v, h, h0, h1, hs => by
    have : (numN s K (i + j) v).2 = v := by
      cases K with
      | zero => rfl
      | succ K =>
        simp only [numN, scanE] at hs ⊢
        split at hs
        · have := scanE_ge (between 48 57) s K (i + j + 1); omega
        · rename_i hb; rw [if_neg hb]
    rw [this]; simp [valF, h1]
  | k + 1, K, j, v, h, h0, h1, hs => by
    cases K with
    | zero => simp only [scanE] at hs; omega
    | succ K =>
      simp only [numN, scanE, valF] at hs ⊢
      split at hs
      · rename_i hb
        have hd := between_iff.mp hb
        rw [if_pos hb, bt_extract (by omega) he]
        by_cases hw : v * 10 + (bt s (i + j : Nat) - 48) > 1000000
        · rw [if_pos hw]
          have := numN_big s K (i + j + 1) (min (v * 10 + (bt s (i + j : Nat) - 48)) 1000001) (by omega)
          simp only [Option.isSome_none, Bool.false_eq_true, false_iff]
          omega
        · rw [if_neg hw, show min (v * 10 + (bt s (i + j : Nat) - 48)) 1000001 = v * 10 + (bt s (i + j : Nat) - 48) by omega]
          exact num_val he k K (j + 1) _ (by omega) (by omega) (by omega) hs
      · omega
theorem nextP_name {s : ByteArray} {i n : Nat} {k : Int} (h0 : (bif between 97 122 (bt s i) then true else between 65 90 (bt s i)) = true) (he : scanE isPart s (s.size - (i + 1)) (i + 1) = i + n) (hk : k = if between 65 90 (bt s i) = true then (2 : Int) else if isKw (s.extract i (i + n)) = true then 4 else 1) : nextP s i = (k, s.extract i (i + n), if n > 24 then 9 else 0) := by
  have h : (between 97 122 (bt s i) || between 65 90 (bt s i)) = true := by rw [← bif_or]; exact h0
  unfold nextP
  simp only []
  rw [if_pos h, he, hk, show i + n - i = n by omega]
theorem nextP_num {s : ByteArray} {i n : Nat} (hn : i + n ≤ s.size) (hn1 : 1 ≤ n) (h0 : (bif between 97 122 (bt s i) then true else between 65 90 (bt s i)) = false) (h7 : between 48 57 (bt s i) = true) (he : scanE (between 48 57) s (s.size - (i + 1)) (i + 1) = i + n) : nextP s i = (3, s.extract i (i + n), if bt s i = 48 ∧ n > 1 then 2 else if (valF (s.extract i (i + n)) n 0 0).isSome = true then 0 else 9) := by
  have h : ¬ (between 97 122 (bt s i) || between 65 90 (bt s i)) = true := by rw [← bif_or, h0]; simp
  have hd := between_iff.mp h7
  obtain ⟨m, rfl⟩ : ∃ m, n = m + 1 := ⟨n - 1, by omega⟩
  have hv := num_val (s := s) (i := i) (e := i + (m + 1)) hn m (s.size - (i + 1)) 1 (bt s i - 48) (by omega) (by omega) (by omega) he
  have hv2 : valF (s.extract i (i + (m + 1))) (m + 1) 0 0 = valF (s.extract i (i + (m + 1))) m 1 (bt s i - 48) := by
    have hb : bt (s.extract i (i + (m + 1))) (0 : Nat) = bt s i := bt_extract (j := 0) (by omega) hn
    rw [valF_go]
    · rw [hb]; congr 1; omega
    · rw [hb]; omega
  unfold nextP
  simp only []
  rw [if_neg h, if_pos h7, numN_fst, he, hv2, show i + (m + 1) - i = m + 1 by omega]
  congr 2
  split
  · rfl
  · by_cases hw : (numN s (s.size - (i + 1)) (i + 1) (bt s i - 48)).2 ≤ 1000000
    · rw [if_neg (by omega), if_pos (hv.mpr hw)]
    · rw [if_pos (by omega), if_neg (fun x => hw (hv.mp x))]
theorem nextP_sign {s : ByteArray} {i : Nat} (h0 : (bif between 97 122 (bt s i) then true else between 65 90 (bt s i)) = false) (h7 : between 48 57 (bt s i) = false) (hlt : i < s.size) : nextP s i = (5, if signN (s.extract i s.size) = 0 then ⟨#[]⟩ else s.extract i (i + signN (s.extract i s.size)), if signN (s.extract i s.size) = 0 then 2 else 0) := by
  have h : ¬ (between 97 122 (bt s i) || between 65 90 (bt s i)) = true := by rw [← bif_or, h0]; simp
  have hle := signN_le (s.extract i s.size) (by simp only [ByteArray.size_extract]; omega)
  simp only [ByteArray.size_extract] at hle
  have he : (s.extract i s.size).extract 0 (signN (s.extract i s.size)) = s.extract i (i + signN (s.extract i s.size)) := by
    rw [ByteArray.extract_extract]
    have : min (i + signN (s.extract i s.size)) s.size = i + signN (s.extract i s.size) := by omega
    rw [this]; rfl
  unfold nextP
  simp only []
  rw [if_neg h, if_neg (show ¬ between 48 57 (bt s i) = true by rw [h7]; simp), he]
theorem part_bif {D : Bool} {c : Int} : (bif D then (bif (bif (bif between 97 122 c then true else between 65 90 c) then true else between 48 57 c) then true else c == 95) else false) = (bif D then isPart c else false) := by
  have : (c == 95) = decide (c = 95) := rfl
  rw [this]; unfold isPart
  cases D <;> cases between 97 122 c <;> cases between 65 90 c <;> cases between 48 57 c <;> rfl
theorem digs_part {s : ByteArray} {i n : Nat} (hn : i + n ≤ s.size) (h7 : between 48 57 (bt s i) = true) (he : ∀ K, K + 1 = n → ∀ j, j < K → between 48 57 (bt s (i + 1 + j : Nat)) = true) : digs (s.extract i (i + n)) := by
  intro j hj
  simp only [ByteArray.size_extract] at hj
  rw [bt_extract (by omega) hn]
  cases j with
  | zero => exact ⟨(between_iff.mp h7).1, (between_iff.mp h7).2⟩
  | succ j =>
    have := he (n - 1) (by omega) j (by omega)
    rw [show i + 1 + j = i + (j + 1) by omega] at this
    exact ⟨(between_iff.mp this).1, (between_iff.mp this).2⟩
theorem scan_all {p : Int → Bool} {s : ByteArray} : ∀ (K j e : Nat), scanE p s K j = e → ∀ m, m < e - j → p (bt s (j + m : Nat)) = true
  | 0, j, e, h, m, hm => by simp only [scanE] at h; omega
  | K + 1, j, e, h, m, hm => by
    simp only [scanE] at h
    split at h
    · rename_i hb
      cases m with
      | zero => exact hb
      | succ m => have := scan_all K (j + 1) e h m (by omega); rw [show j + 1 + m = j + (m + 1) by omega] at this; exact this
    · omega

theorem rtok {s : ByteArray} {i n f : Nat} {acc : List Tok} {k : Int} (hlt : i < s.size) (h : (bif bif bif bt s i == 9 then true else bt s i == 10 then true else bt s i == 13 then true else bt s i == 32) = false) (h3 : (bt s i == 35) = false) (hn : i + n ≤ s.size) (hnx : nextP s i = (k, s.extract i (i + n), 0)) : lex s (f + 1) i acc = lex s f (i + n) (acc ++ [⟨k, s.extract i (i + n), i⟩]) := by
  rw [lex_tok hlt h h3]
  unfold nextTok
  rw [hnx, if_pos rfl]
  simp only [ByteArray.size_extract]
  rw [show i + (min (i + n) s.size - i) = i + n by omega]
theorem rerr {s : ByteArray} {i f : Nat} {acc : List Tok} {k e : Int} {t : ByteArray} (hlt : i < s.size) (h : (bif bif bif bt s i == 9 then true else bt s i == 10 then true else bt s i == 13 then true else bt s i == 32) = false) (h3 : (bt s i == 35) = false) (he : e ≠ 0) (hnx : nextP s i = (k, t, e)) (hl : lex s (f + 1) i acc = splitP s) : splitA s (AV.tup [.sl true 0 [], .v (.int .i64 i), .v (.int .i64 e)]) := by
  rw [lex_tok hlt h h3, hnx, if_neg he] at hl
  unfold splitA
  rw [← hl]
theorem nlead {c : Int} {n : Nat} (h : (bif decide ((n : Int) > 1) then c == 48 else false) = false) : ¬ (c = 48 ∧ n > 1) := by
  rintro ⟨h1, h2⟩
  rw [decide_eq_true (show (n : Int) > 1 by omega), h1] at h
  exact absurd h (by decide)
theorem ylead {c : Int} {n : Nat} (h : (bif decide ((n : Int) > 1) then c == 48 else false) = true) : c = 48 ∧ n > 1 := by
  obtain ⟨h1, h2⟩ := bif_t h
  simp only [decide_eq_true_eq] at h1
  exact ⟨by simpa using h2, by omega⟩
set_option maxHeartbeats 4000000 in
theorem rsplit_c (s : ByteArray) (hb : s.size < 2 ^ 47) : ACalls Try.prog 11 [.v (.string s)] XH.none (fun r _ => splitA s r) := by
  refine calls_body td_ok Try.func11 rfl rfl rfl ?_
  refine AWP_seq ?_
  refine AWP_region ?_
  -- op 0.0 assign t2
  refine st td_ok rfl rfl rfl rfl (r := .sl _ _ _) rfl trivial ?_
  -- op 0.1 assign t3
  refine st td_ok rfl rfl rfl rfl (r := .v _) rfl trivial ?_
  -- op 0.2 assign t4
  refine st td_ok rfl rfl rfl rfl (r := .v _) rfl trivial ?_
  refine AOps_nil ?_
  refine qn ?_
  refine AWP_seq ?_
  refine AWP_seq ?_
  refine AWP_region ?_
  -- op 1.0 move t12
  refine st td_ok rfl rfl rfl rfl (r := .v _) rfl trivial ?_
  -- op 1.1 call t13
  refine st td_ok rfl rfl rfl rfl (r := .v _) rfl trivial ?_
  -- op 1.2 binOp t14
  refine st td_ok rfl rfl rfl rfl (r := .v _) rfl trivial ?_
  refine AOps_nil ?_
  refine qn ?_
  refine AWP_cond rfl rfl (fun h0 => ?_) (fun h0 => ?_)
  ·
    refine AWP_seq ?_
    refine AWP_region ?_
    -- op 2.0 assign t2
    refine st td_ok rfl rfl rfl rfl (r := .sl _ _ _) rfl trivial ?_
    -- op 2.1 assign t3
    refine st td_ok rfl rfl rfl rfl (r := .v _) rfl trivial ?_
    -- op 2.2 assign t4
    refine st td_ok rfl rfl rfl rfl (r := .v _) rfl trivial ?_
    refine AOps_nil ?_
    refine qn ?_
    refine AWP_ret ?_
    refine qr ?_
    -- ret 0
    refine ⟨_, _, _, _, rfl, trivial, GS.forget _ _, ?_⟩
    first | show AV.v _ = _ | show AV.tup _ = _ | show AV.sl _ _ _ = _ | show AV.agg _ = _ | skip
    show splitA s (AV.tup [_, _, _])
    have : splitP s = .err 0 9 := by unfold splitP; rw [if_pos (by simp only [decide_eq_true_eq] at h0; omega)]
    unfold splitA; rw [this]; rfl
  ·
    have hs : s.size ≤ 16384 := by simp only [decide_eq_false_iff_not] at h0; omega
    refine AWP_skip ?_
    refine qn ?_
    refine AWP_seq ?_
    refine AWP_region ?_
    -- op 3.0 assign t5
    refine st td_ok rfl rfl rfl rfl (r := .sl _ _ _) rfl trivial ?_
    refine AOps_nil ?_
    refine qn ?_
    refine AWP_seq ?_
    refine AWP_seq ?_
    refine AWP_region ?_
    -- op 4.0 assign t6
    refine st td_ok rfl rfl rfl rfl (r := .v _) rfl trivial ?_
    refine AOps_nil ?_
    refine qn ?_
    refine AWP_block ?_
    -- loop: live [0, 5, 6]
    refine AWP_for (fun (x : Nat × List Tok × AV) => [(0, .v (.string s)), (5, x.2.2), (6, .v (.int .i64 x.1))]) (fun x X => x.1 ≤ s.size ∧ Own X 32 3 x.2.2 x.2.1.length (toks x.2.1) ∧ x.2.1.length ≤ x.1 ∧ ∃ f, s.size - x.1 < f ∧ lex s f x.1 x.2.1 = splitP s) (fun x => s.size - x.1) (0, [], .sl true 0 []) ⟨by (repeat' (first | exact rfl | exact trivial | apply And.intro)), ⟨by omega, Own.nil _ _ _, Nat.le_refl _, s.size + 1, by omega, by unfold splitP; rw [if_neg (by omega)]⟩⟩ ?_
    rintro ⟨i, acc, a⟩ X ⟨hi, hown, hal, f, hf, hlex⟩
    try dsimp only at *
    refine AWP_seq ?_
    refine AWP_seq ?_
    refine AWP_region ?_
    -- op 5.0 move t15
    refine st td_ok rfl rfl rfl rfl (r := .v _) rfl trivial ?_
    -- op 5.1 move t16
    refine st td_ok rfl rfl rfl rfl (r := .v _) rfl trivial ?_
    -- op 5.2 call t17
    refine st td_ok rfl rfl rfl rfl (r := .v _) rfl trivial ?_
    -- op 5.3 binOp t18
    refine st td_ok rfl rfl rfl rfl (r := .v _) rfl trivial ?_
    refine AOps_nil ?_
    refine qn ?_
    refine AWP_cond rfl rfl (fun h1 => ?_) (fun h1 => ?_)
    ·
      refine AWP_skip ?_
      refine qn ?_
      refine AWP_block ?_
      refine AWP_seq ?_
      refine AWP_region ?_
      -- op 6.0 move t19
      refine st td_ok rfl rfl rfl rfl (r := .v _) rfl trivial ?_
      -- op 6.1 move t20
      refine st td_ok rfl rfl rfl rfl (r := .v _) rfl trivial ?_
      -- op 6.2 index t21
      (refine st td_ok rfl rfl rfl rfl (r := .v _) rfl ?_ ?_; · ((repeat' with_reducible apply And.intro) <;> (first | omega | (simp only [cond_true, cond_false, nd, Option.getD_none, Option.getD_some, Int.toNat_natCast, strs_len, nums_len, List.length_append, tds2, tds3, tds4, tds5, tds9, tds12, tds21, tds23, tds24, tds27, tds30, tds31, tds32, tds34, tds51, tds55, decide_eq_true_eq, Bool.and_eq_true, Bool.not_eq_true', decide_eq_false_iff_not] at *; omega))))
      -- op 6.3 assign t7
      refine st td_ok rfl rfl rfl rfl (r := .v _) rfl trivial ?_
      refine AOps_nil ?_
      refine qn ?_
      refine AWP_seq ?_
      refine AWP_seq ?_
      refine AWP_region ?_
      -- op 7.0 move t22
      refine st td_ok rfl rfl rfl rfl (r := .v _) rfl trivial ?_
      -- op 7.1 binOp t23
      refine st td_ok rfl rfl rfl rfl (r := .v _) rfl trivial ?_
      -- op 7.2 move t24
      refine st td_ok rfl rfl rfl rfl (r := .v _) rfl trivial ?_
      -- op 7.3 move t25 g['2', 'false']
      (refine sgk0 td_ok rfl rfl rfl rfl rfl rfl (r := .v _) rfl ?_ ?_; · exact fun hg => ⟨by (repeat' (first | exact trivial | exact hg | exact (Bool.and_eq_true_iff.mp hg).1 | apply And.intro)), by exact trivial⟩)
      -- op 7.4 binOp t26 g['2', 'false']
      (refine sgk0 td_ok rfl rfl rfl rfl rfl rfl (r := .v _) rfl ?_ ?_; · exact fun hg => ⟨by (repeat' (first | exact trivial | exact hg | exact (Bool.and_eq_true_iff.mp hg).1 | apply And.intro)), by exact trivial⟩)
      -- op 7.5 pick t27
      (refine st td_ok rfl rfl rfl rfl (r := .v _) rfl ?_ ?_; · first | (simp_all; done) | ((repeat' with_reducible apply And.intro) <;> with_reducible exact trivial))
      -- op 7.6 move t28
      refine st td_ok rfl rfl rfl rfl (r := .v _) rfl trivial ?_
      -- op 7.7 move t29 g['6', 'false']
      (refine sgk0 td_ok rfl rfl rfl rfl rfl rfl (r := .v _) rfl ?_ ?_; · exact fun hg => ⟨by (repeat' (first | exact trivial | exact hg | exact (Bool.and_eq_true_iff.mp hg).1 | apply And.intro)), by exact trivial⟩)
      -- op 7.8 binOp t30 g['6', 'false']
      (refine sgk0 td_ok rfl rfl rfl rfl rfl rfl (r := .v _) rfl ?_ ?_; · exact fun hg => ⟨by (repeat' (first | exact trivial | exact hg | exact (Bool.and_eq_true_iff.mp hg).1 | apply And.intro)), by exact trivial⟩)
      -- op 7.9 pick t31
      (refine st td_ok rfl rfl rfl rfl (r := .v _) rfl ?_ ?_; · first | (simp_all; done) | ((repeat' with_reducible apply And.intro) <;> with_reducible exact trivial))
      -- op 7.10 move t32
      refine st td_ok rfl rfl rfl rfl (r := .v _) rfl trivial ?_
      -- op 7.11 move t33 g['10', 'false']
      (refine sgk0 td_ok rfl rfl rfl rfl rfl rfl (r := .v _) rfl ?_ ?_; · exact fun hg => ⟨by (repeat' (first | exact trivial | exact hg | exact (Bool.and_eq_true_iff.mp hg).1 | apply And.intro)), by exact trivial⟩)
      -- op 7.12 binOp t34 g['10', 'false']
      (refine sgk0 td_ok rfl rfl rfl rfl rfl rfl (r := .v _) rfl ?_ ?_; · exact fun hg => ⟨by (repeat' (first | exact trivial | exact hg | exact (Bool.and_eq_true_iff.mp hg).1 | apply And.intro)), by exact trivial⟩)
      -- op 7.13 pick t35
      (refine st td_ok rfl rfl rfl rfl (r := .v _) rfl ?_ ?_; · first | (simp_all; done) | ((repeat' with_reducible apply And.intro) <;> with_reducible exact trivial))
      refine AOps_nil ?_
      refine qn ?_
      refine AWP_cond rfl rfl (fun h2 => ?_) (fun h2 => ?_)
      ·
        refine AWP_seq ?_
        refine AWP_region ?_
        -- op 8.0 move t36
        refine st td_ok rfl rfl rfl rfl (r := .v _) rfl trivial ?_
        -- op 8.1 binOp t37
        refine st_eq td_ok rfl rfl rfl rfl (r := .v _) rfl trivial (w64 (by omega)) ?_
        -- op 8.2 assign t6
        refine st td_ok rfl rfl rfl rfl (r := .v _) rfl trivial ?_
        refine AOps_nil ?_
        refine qn ?_
        refine AWP_exit ?_
        refine qx ?_
        refine qbh ?_
        -- back 0 (loop 5)
        refine qn ?_
        obtain ⟨f, rfl⟩ : ∃ g, f = g + 1 := ⟨f - 1, by omega⟩
        have hlt : i < s.size := by simp only [decide_eq_true_eq] at h1; omega
        exact ⟨(i + 1, acc, a), by dsimp only; omega, by (repeat' (first | exact rfl | exact trivial | apply And.intro)), by dsimp only; omega, hown, by dsimp only; omega, f, by dsimp only; omega, by rw [← hlex, lex_blank hlt h2]⟩
      ·
        refine AWP_skip ?_
        refine qn ?_
        refine AWP_seq ?_
        refine AWP_seq ?_
        refine AWP_region ?_
        -- op 9.0 move t38
        refine st td_ok rfl rfl rfl rfl (r := .v _) rfl trivial ?_
        -- op 9.1 binOp t39
        refine st td_ok rfl rfl rfl rfl (r := .v _) rfl trivial ?_
        refine AOps_nil ?_
        refine qn ?_
        refine AWP_cond rfl rfl (fun h3 => ?_) (fun h3 => ?_)
        ·
          refine AWP_seq ?_
          refine AWP_block ?_
          -- loop: live [0, 5, 6]
          refine AWP_for (fun (j : Nat) => [(0, .v (.string s)), (5, a), (6, .v (.int .i64 j))]) (fun j Y => Y = X ∧ i ≤ j ∧ j ≤ s.size ∧ lineE s j = lineE s i) (fun j => s.size - j) i ⟨by (repeat' (first | exact rfl | exact trivial | apply And.intro)), ⟨rfl, Nat.le_refl _, hi, rfl⟩⟩ ?_
          rintro j Y ⟨rfl, hj1, hj2, hj3⟩
          refine AWP_seq ?_
          refine AWP_seq ?_
          refine AWP_region ?_
          -- op 10.0 move t40
          refine st td_ok rfl rfl rfl rfl (r := .v _) rfl trivial ?_
          -- op 10.1 move t41
          refine st td_ok rfl rfl rfl rfl (r := .v _) rfl trivial ?_
          -- op 10.2 call t42
          refine st td_ok rfl rfl rfl rfl (r := .v _) rfl trivial ?_
          -- op 10.3 binOp t43
          refine st td_ok rfl rfl rfl rfl (r := .v _) rfl trivial ?_
          -- op 10.4 move t44
          refine st td_ok rfl rfl rfl rfl (r := .v _) rfl trivial ?_
          -- op 10.5 move t45 g['4', 'true']
          (refine sgk0 td_ok rfl rfl rfl rfl rfl rfl (r := .v _) rfl ?_ ?_; · exact fun hg => ⟨by (repeat' (first | exact trivial | exact hg | exact (Bool.and_eq_true_iff.mp hg).1 | apply And.intro)), by exact trivial⟩)
          -- op 10.6 move t46 g['4', 'true']
          (refine sgk0 td_ok rfl rfl rfl rfl rfl rfl (r := .v _) rfl ?_ ?_; · exact fun hg => ⟨by (repeat' (first | exact trivial | exact hg | exact (Bool.and_eq_true_iff.mp hg).1 | apply And.intro)), by exact trivial⟩)
          -- op 10.7 index t47 g['4', 'true']
          (refine sgk0 td_ok rfl rfl rfl rfl rfl rfl (r := .v _) rfl ?_ ?_; · exact fun hg => ⟨by (repeat' (first | exact trivial | exact hg | exact (Bool.and_eq_true_iff.mp hg).1 | apply And.intro)), by ((repeat' with_reducible apply And.intro) <;> (first | omega | (simp only [cond_true, cond_false, nd, Option.getD_none, Option.getD_some, Int.toNat_natCast, strs_len, nums_len, List.length_append, tds2, tds3, tds4, tds5, tds9, tds12, tds21, tds23, tds24, tds27, tds30, tds31, tds32, tds34, tds51, tds55, decide_eq_true_eq, Bool.and_eq_true, Bool.not_eq_true', decide_eq_false_iff_not] at *; omega)))⟩)
          -- op 10.8 binOp t48 g['4', 'true']
          (refine sgk0 td_ok rfl rfl rfl rfl rfl rfl (r := .v _) rfl ?_ ?_; · exact fun hg => ⟨by (repeat' (first | exact trivial | exact hg | exact (Bool.and_eq_true_iff.mp hg).1 | apply And.intro)), by exact trivial⟩)
          -- op 10.9 pick t49
          (refine st td_ok rfl rfl rfl rfl (r := .v _) rfl ?_ ?_; · exact (fun h => h))
          refine AOps_nil ?_
          refine qn ?_
          refine AWP_cond rfl rfl (fun h4 => ?_) (fun h4 => ?_)
          ·
            refine AWP_skip ?_
            refine qn ?_
            refine AWP_block ?_
            refine AWP_region ?_
            -- op 11.0 move t50
            refine st td_ok rfl rfl rfl rfl (r := .v _) rfl trivial ?_
            -- op 11.1 binOp t51
            refine st_eq td_ok rfl rfl rfl rfl (r := .v _) rfl trivial (w64 (by omega)) ?_
            -- op 11.2 assign t6
            refine st td_ok rfl rfl rfl rfl (r := .v _) rfl trivial ?_
            refine AOps_nil ?_
            refine qbn ?_
            -- back 1 (loop 10)
            refine qn ?_
            obtain ⟨h4a, h4b⟩ := bif_t h4
            have hlt : j < s.size := by simp only [decide_eq_true_eq] at h4a; omega
            exact ⟨j + 1, by omega, by (repeat' (first | exact rfl | exact trivial | apply And.intro)), rfl, by omega, by omega, by rw [← hj3]; exact (line_go hlt (by simpa [bne] using h4b)).symm⟩
          ·
            refine AWP_exit ?_
            refine qx ?_
            refine qx ?_
            refine qbh ?_
            refine qn ?_
            refine AWP_exit ?_
            refine qx ?_
            refine qbh ?_
            -- back 2 (loop 5)
            refine qn ?_
            obtain ⟨f, rfl⟩ : ∃ g, f = g + 1 := ⟨f - 1, by omega⟩
            have hlt : i < s.size := by simp only [decide_eq_true_eq] at h1; omega
            have hst : s.size ≤ j ∨ (bt s j == 10) = true := by
              by_cases hj : j < s.size
              · rw [decide_eq_true (show (j : Int) < s.size by omega)] at h4
                exact .inr (by simpa [bne] using h4)
              · exact .inl (by omega)
            have hl : lineE s i = j := by rw [← hj3]; exact line_stop hst
            have hji : i < j := by
              rcases Nat.lt_or_ge i j with h | h
              · exact h
              · exfalso
                have : j = i := by omega
                subst this
                rcases hst with h | h
                · omega
                · rw [beq_iff_eq] at h3 h; omega
            exact ⟨(j, acc, a), by dsimp only; omega, by (repeat' (first | exact rfl | exact trivial | apply And.intro)), by dsimp only; omega, hown, by dsimp only; omega, f, by dsimp only; omega, by rw [← hlex, lex_line hlt h2 h3, hl]⟩
        ·
          refine AWP_skip ?_
          refine qn ?_
          refine AWP_seq ?_
          have hlt : i < s.size := by simp only [decide_eq_true_eq] at h1; omega
          refine AWP_region ?_
          -- op 12.0 assign t8
          refine st td_ok rfl rfl rfl rfl (r := .v _) rfl trivial ?_
          refine AOps_nil ?_
          refine qn ?_
          refine AWP_seq ?_
          refine AWP_block ?_
          refine AWP_seq ?_
          refine AWP_region ?_
          -- op 17.0 move t71
          refine st td_ok rfl rfl rfl rfl (r := .v _) rfl trivial ?_
          -- op 17.1 call t72
          refine st_pcall rfl rfl rfl rfl rfl rfl rfl ⟨_, rfl, rfl, rfl⟩ (by first | exact lower_c _ | exact upper_c _ | exact rdigit_c _ | exact rKeyword_c _) ?_
          -- op 17.2 move t73
          refine st td_ok rfl rfl rfl rfl (r := .v _) rfl trivial ?_
          -- op 17.3 move t74 g['2', 'false']
          (refine sgk0 td_ok rfl rfl rfl rfl rfl rfl (r := .v _) rfl ?_ ?_; · exact fun hg => ⟨by (repeat' (first | exact trivial | exact hg | exact (Bool.and_eq_true_iff.mp hg).1 | apply And.intro)), by exact trivial⟩)
          -- op 17.4 call t75 g['2', 'false']
          refine stg_call rfl rfl rfl rfl rfl rfl rfl rfl (fun hg => ⟨by (repeat' (first | exact trivial | exact hg | exact (Bool.and_eq_true_iff.mp hg).1 | apply And.intro)), rfl, ⟨_, rfl, rfl, rfl⟩, (by first | exact lower_c _ | exact upper_c _ | exact rdigit_c _ | exact rKeyword_c _)⟩) ?_
          -- op 17.5 pick t76
          (refine st td_ok rfl rfl rfl rfl (r := .v _) rfl ?_ ?_; · first | (simp_all; done) | ((repeat' with_reducible apply And.intro) <;> with_reducible exact trivial))
          -- op 17.6 assign t70
          refine st td_ok rfl rfl rfl rfl (r := .v _) rfl trivial ?_
          refine AOps_nil ?_
          refine qn ?_
          refine AWP_cond rfl rfl (fun h5 => ?_) (fun h5 => ?_)
          ·
            refine AWP_seq ?_
            refine AWP_block ?_
            -- loop: live [0, 5, 6, 7, 8]
            refine AWP_for (fun (n : Nat) => [(0, .v (.string s)), (5, a), (6, .v (.int .i64 i)), (7, .v (.int .u8 (bt s i))), (8, .v (.int .i64 n))]) (fun n Y => Y = X ∧ 1 ≤ n ∧ i + n ≤ s.size ∧ scanE isPart s (s.size - (i + n)) (i + n) = scanE isPart s (s.size - (i + 1)) (i + 1)) (fun n => s.size - n) 1 ⟨by (repeat' (first | exact rfl | exact trivial | apply And.intro)), ⟨rfl, Nat.le_refl _, by omega, rfl⟩⟩ ?_
            rintro n Y ⟨rfl, hn1, hn2, hn3⟩
            refine AWP_seq ?_
            refine AWP_seq ?_
            refine AWP_region ?_
            -- op 18.0 move t77
            refine st td_ok rfl rfl rfl rfl (r := .v _) rfl trivial ?_
            -- op 18.1 move t78
            refine st td_ok rfl rfl rfl rfl (r := .v _) rfl trivial ?_
            -- op 18.2 binOp t79
            refine st_eq td_ok rfl rfl rfl rfl (r := .v _) rfl trivial (w64 (by omega)) ?_
            -- op 18.3 move t80
            refine st td_ok rfl rfl rfl rfl (r := .v _) rfl trivial ?_
            -- op 18.4 call t81
            refine st td_ok rfl rfl rfl rfl (r := .v _) rfl trivial ?_
            -- op 18.5 binOp t82
            refine st td_ok rfl rfl rfl rfl (r := .v _) rfl trivial ?_
            -- op 18.6 move t83
            refine st td_ok rfl rfl rfl rfl (r := .v _) rfl trivial ?_
            -- op 18.7 move t84 g['6', 'true']
            (refine sgk0 td_ok rfl rfl rfl rfl rfl rfl (r := .v _) rfl ?_ ?_; · exact fun hg => ⟨by (repeat' (first | exact trivial | exact hg | exact (Bool.and_eq_true_iff.mp hg).1 | apply And.intro)), by exact trivial⟩)
            -- op 18.8 move t85 g['6', 'true']
            (refine sgk0 td_ok rfl rfl rfl rfl rfl rfl (r := .v _) rfl ?_ ?_; · exact fun hg => ⟨by (repeat' (first | exact trivial | exact hg | exact (Bool.and_eq_true_iff.mp hg).1 | apply And.intro)), by exact trivial⟩)
            -- op 18.9 move t86 g['6', 'true']
            (refine sgk0 td_ok rfl rfl rfl rfl rfl rfl (r := .v _) rfl ?_ ?_; · exact fun hg => ⟨by (repeat' (first | exact trivial | exact hg | exact (Bool.and_eq_true_iff.mp hg).1 | apply And.intro)), by exact trivial⟩)
            -- op 18.10 binOp t87 g['6', 'true']
            (refine sgke td_ok rfl rfl rfl rfl rfl rfl (r := .v _) rfl (w64 (by omega)) ?_ ?_; · exact fun hg => ⟨by (repeat' (first | exact trivial | exact hg | exact (Bool.and_eq_true_iff.mp hg).1 | apply And.intro)), trivial⟩)
            -- op 18.11 index t88 g['6', 'true']
            (refine sgk0 td_ok rfl rfl rfl rfl rfl rfl (r := .v _) rfl ?_ ?_; · exact fun hg => ⟨by (repeat' (first | exact trivial | exact hg | exact (Bool.and_eq_true_iff.mp hg).1 | apply And.intro)), by ((repeat' with_reducible apply And.intro) <;> (first | omega | (simp only [cond_true, cond_false, nd, Option.getD_none, Option.getD_some, Int.toNat_natCast, strs_len, nums_len, List.length_append, tds2, tds3, tds4, tds5, tds9, tds12, tds21, tds23, tds24, tds27, tds30, tds31, tds32, tds34, tds51, tds55, decide_eq_true_eq, Bool.and_eq_true, Bool.not_eq_true', decide_eq_false_iff_not] at *; omega)))⟩)
            -- op 18.12 call t89 g['6', 'true']
            refine stg_call rfl rfl rfl rfl rfl rfl rfl rfl (fun hg => ⟨by (repeat' (first | exact trivial | exact hg | exact (Bool.and_eq_true_iff.mp hg).1 | apply And.intro)), rfl, ⟨_, rfl, rfl, rfl⟩, (by first | exact lower_c _ | exact upper_c _ | exact rdigit_c _ | exact rKeyword_c _)⟩) ?_
            -- op 18.13 move t90 g['6', 'true']
            (refine sgk0 td_ok rfl rfl rfl rfl rfl rfl (r := .v _) rfl ?_ ?_; · exact fun hg => ⟨by (repeat' (first | exact trivial | exact hg | exact (Bool.and_eq_true_iff.mp hg).1 | apply And.intro)), by exact trivial⟩)
            -- op 18.14 move t91 g['13', 'false']
            (refine sgk0 td_ok rfl rfl rfl rfl rfl rfl (r := .v _) rfl ?_ ?_; · exact fun hg => ⟨by (repeat' (first | exact trivial | exact hg | exact (Bool.and_eq_true_iff.mp hg).1 | apply And.intro)), by exact trivial⟩)
            -- op 18.15 move t92 g['13', 'false']
            (refine sgk0 td_ok rfl rfl rfl rfl rfl rfl (r := .v _) rfl ?_ ?_; · exact fun hg => ⟨by (repeat' (first | exact trivial | exact hg | exact (Bool.and_eq_true_iff.mp hg).1 | apply And.intro)), by exact trivial⟩)
            -- op 18.16 move t93 g['13', 'false']
            (refine sgk0 td_ok rfl rfl rfl rfl rfl rfl (r := .v _) rfl ?_ ?_; · exact fun hg => ⟨by (repeat' (first | exact trivial | exact hg | exact (Bool.and_eq_true_iff.mp hg).1 | apply And.intro)), by exact trivial⟩)
            -- op 18.17 binOp t94 g['13', 'false']
            (refine sgke td_ok rfl rfl rfl rfl rfl rfl (r := .v _) rfl (w64 (by omega)) ?_ ?_; · exact fun hg => ⟨by (repeat' (first | exact trivial | exact hg | exact (Bool.and_eq_true_iff.mp hg).1 | apply And.intro)), trivial⟩)
            -- op 18.18 index t95 g['13', 'false']
            (refine sgk0 td_ok rfl rfl rfl rfl rfl rfl (r := .v _) rfl ?_ ?_; · exact fun hg => ⟨by (repeat' (first | exact trivial | exact hg | exact (Bool.and_eq_true_iff.mp hg).1 | apply And.intro)), by ((repeat' with_reducible apply And.intro) <;> (first | omega | (simp only [cond_true, cond_false, nd, Option.getD_none, Option.getD_some, Int.toNat_natCast, strs_len, nums_len, List.length_append, tds2, tds3, tds4, tds5, tds9, tds12, tds21, tds23, tds24, tds27, tds30, tds31, tds32, tds34, tds51, tds55, decide_eq_true_eq, Bool.and_eq_true, Bool.not_eq_true', decide_eq_false_iff_not] at *; omega)))⟩)
            -- op 18.19 call t96 g['13', 'false']
            refine stg_call rfl rfl rfl rfl rfl rfl rfl rfl (fun hg => ⟨by (repeat' (first | exact trivial | exact hg | exact (Bool.and_eq_true_iff.mp hg).1 | apply And.intro)), rfl, ⟨_, rfl, rfl, rfl⟩, (by first | exact lower_c _ | exact upper_c _ | exact rdigit_c _ | exact rKeyword_c _)⟩) ?_
            -- op 18.20 pick t97 g['6', 'true']
            (refine sgk0 td_ok rfl rfl rfl rfl rfl rfl (r := .v _) rfl ?_ ?_; · exact fun hg => ⟨by (repeat' (first | exact trivial | exact hg | exact (Bool.and_eq_true_iff.mp hg).1 | apply And.intro)), by first | (simp_all; done) | ((repeat' with_reducible apply And.intro) <;> with_reducible exact trivial)⟩)
            -- op 18.21 move t98 g['6', 'true']
            (refine sgk0 td_ok rfl rfl rfl rfl rfl rfl (r := .v _) rfl ?_ ?_; · exact fun hg => ⟨by (repeat' (first | exact trivial | exact hg | exact (Bool.and_eq_true_iff.mp hg).1 | apply And.intro)), by exact trivial⟩)
            -- op 18.22 move t99 g['21', 'false']
            (refine sgk0 td_ok rfl rfl rfl rfl rfl rfl (r := .v _) rfl ?_ ?_; · exact fun hg => ⟨by (repeat' (first | exact trivial | exact hg | exact (Bool.and_eq_true_iff.mp hg).1 | apply And.intro)), by exact trivial⟩)
            -- op 18.23 move t100 g['21', 'false']
            (refine sgk0 td_ok rfl rfl rfl rfl rfl rfl (r := .v _) rfl ?_ ?_; · exact fun hg => ⟨by (repeat' (first | exact trivial | exact hg | exact (Bool.and_eq_true_iff.mp hg).1 | apply And.intro)), by exact trivial⟩)
            -- op 18.24 move t101 g['21', 'false']
            (refine sgk0 td_ok rfl rfl rfl rfl rfl rfl (r := .v _) rfl ?_ ?_; · exact fun hg => ⟨by (repeat' (first | exact trivial | exact hg | exact (Bool.and_eq_true_iff.mp hg).1 | apply And.intro)), by exact trivial⟩)
            -- op 18.25 binOp t102 g['21', 'false']
            (refine sgke td_ok rfl rfl rfl rfl rfl rfl (r := .v _) rfl (w64 (by omega)) ?_ ?_; · exact fun hg => ⟨by (repeat' (first | exact trivial | exact hg | exact (Bool.and_eq_true_iff.mp hg).1 | apply And.intro)), trivial⟩)
            -- op 18.26 index t103 g['21', 'false']
            (refine sgk0 td_ok rfl rfl rfl rfl rfl rfl (r := .v _) rfl ?_ ?_; · exact fun hg => ⟨by (repeat' (first | exact trivial | exact hg | exact (Bool.and_eq_true_iff.mp hg).1 | apply And.intro)), by ((repeat' with_reducible apply And.intro) <;> (first | omega | (simp only [cond_true, cond_false, nd, Option.getD_none, Option.getD_some, Int.toNat_natCast, strs_len, nums_len, List.length_append, tds2, tds3, tds4, tds5, tds9, tds12, tds21, tds23, tds24, tds27, tds30, tds31, tds32, tds34, tds51, tds55, decide_eq_true_eq, Bool.and_eq_true, Bool.not_eq_true', decide_eq_false_iff_not] at *; omega)))⟩)
            -- op 18.27 call t104 g['21', 'false']
            refine stg_call rfl rfl rfl rfl rfl rfl rfl rfl (fun hg => ⟨by (repeat' (first | exact trivial | exact hg | exact (Bool.and_eq_true_iff.mp hg).1 | apply And.intro)), rfl, ⟨_, rfl, rfl, rfl⟩, (by first | exact lower_c _ | exact upper_c _ | exact rdigit_c _ | exact rKeyword_c _)⟩) ?_
            -- op 18.28 pick t105 g['6', 'true']
            (refine sgk0 td_ok rfl rfl rfl rfl rfl rfl (r := .v _) rfl ?_ ?_; · exact fun hg => ⟨by (repeat' (first | exact trivial | exact hg | exact (Bool.and_eq_true_iff.mp hg).1 | apply And.intro)), by first | (simp_all; done) | ((repeat' with_reducible apply And.intro) <;> with_reducible exact trivial)⟩)
            -- op 18.29 move t106 g['6', 'true']
            (refine sgk0 td_ok rfl rfl rfl rfl rfl rfl (r := .v _) rfl ?_ ?_; · exact fun hg => ⟨by (repeat' (first | exact trivial | exact hg | exact (Bool.and_eq_true_iff.mp hg).1 | apply And.intro)), by exact trivial⟩)
            -- op 18.30 move t107 g['29', 'false']
            (refine sgk0 td_ok rfl rfl rfl rfl rfl rfl (r := .v _) rfl ?_ ?_; · exact fun hg => ⟨by (repeat' (first | exact trivial | exact hg | exact (Bool.and_eq_true_iff.mp hg).1 | apply And.intro)), by exact trivial⟩)
            -- op 18.31 move t108 g['29', 'false']
            (refine sgk0 td_ok rfl rfl rfl rfl rfl rfl (r := .v _) rfl ?_ ?_; · exact fun hg => ⟨by (repeat' (first | exact trivial | exact hg | exact (Bool.and_eq_true_iff.mp hg).1 | apply And.intro)), by exact trivial⟩)
            -- op 18.32 move t109 g['29', 'false']
            (refine sgk0 td_ok rfl rfl rfl rfl rfl rfl (r := .v _) rfl ?_ ?_; · exact fun hg => ⟨by (repeat' (first | exact trivial | exact hg | exact (Bool.and_eq_true_iff.mp hg).1 | apply And.intro)), by exact trivial⟩)
            -- op 18.33 binOp t110 g['29', 'false']
            (refine sgke td_ok rfl rfl rfl rfl rfl rfl (r := .v _) rfl (w64 (by omega)) ?_ ?_; · exact fun hg => ⟨by (repeat' (first | exact trivial | exact hg | exact (Bool.and_eq_true_iff.mp hg).1 | apply And.intro)), trivial⟩)
            -- op 18.34 index t111 g['29', 'false']
            (refine sgk0 td_ok rfl rfl rfl rfl rfl rfl (r := .v _) rfl ?_ ?_; · exact fun hg => ⟨by (repeat' (first | exact trivial | exact hg | exact (Bool.and_eq_true_iff.mp hg).1 | apply And.intro)), by ((repeat' with_reducible apply And.intro) <;> (first | omega | (simp only [cond_true, cond_false, nd, Option.getD_none, Option.getD_some, Int.toNat_natCast, strs_len, nums_len, List.length_append, tds2, tds3, tds4, tds5, tds9, tds12, tds21, tds23, tds24, tds27, tds30, tds31, tds32, tds34, tds51, tds55, decide_eq_true_eq, Bool.and_eq_true, Bool.not_eq_true', decide_eq_false_iff_not] at *; omega)))⟩)
            -- op 18.35 binOp t112 g['29', 'false']
            (refine sgk0 td_ok rfl rfl rfl rfl rfl rfl (r := .v _) rfl ?_ ?_; · exact fun hg => ⟨by (repeat' (first | exact trivial | exact hg | exact (Bool.and_eq_true_iff.mp hg).1 | apply And.intro)), by exact trivial⟩)
            -- op 18.36 pick t113 g['6', 'true']
            (refine sgk0 td_ok rfl rfl rfl rfl rfl rfl (r := .v _) rfl ?_ ?_; · exact fun hg => ⟨by (repeat' (first | exact trivial | exact hg | exact (Bool.and_eq_true_iff.mp hg).1 | apply And.intro)), by first | (simp_all; done) | ((repeat' with_reducible apply And.intro) <;> with_reducible exact trivial)⟩)
            -- op 18.37 pick t114
            (refine st td_ok rfl rfl rfl rfl (r := .v _) rfl ?_ ?_; · exact (fun h => h))
            refine AOps_nil ?_
            refine qn ?_
            refine AWP_cond rfl rfl (fun h6 => ?_) (fun h6 => ?_)
            ·
              refine AWP_skip ?_
              refine qn ?_
              refine AWP_block ?_
              refine AWP_region ?_
              -- op 19.0 move t115
              refine st td_ok rfl rfl rfl rfl (r := .v _) rfl trivial ?_
              -- op 19.1 binOp t116
              refine st_eq td_ok rfl rfl rfl rfl (r := .v _) rfl trivial (w64 (by omega)) ?_
              -- op 19.2 assign t8
              refine st td_ok rfl rfl rfl rfl (r := .v _) rfl trivial ?_
              refine AOps_nil ?_
              refine qbn ?_
              -- back 3 (loop 18)
              refine qn ?_
              rw [part_bif] at h6
              obtain ⟨h6a, h6b⟩ := bif_t h6
              have h6c : ((i + n : Nat) : Int) < s.size := by simp only [decide_eq_true_eq] at h6a; omega
              exact ⟨n + 1, by omega, by (repeat' (first | exact rfl | exact trivial | apply And.intro)), rfl, by omega, by omega, by rw [← hn3, scan_go h6c h6b]; rfl⟩
            ·
              refine AWP_exit ?_
              refine qx ?_
              refine qx ?_
              refine qbh ?_
              refine qn ?_
              refine AWP_seq ?_
              refine AWP_seq ?_
              refine AWP_region ?_
              -- op 20.0 move t117
              refine st td_ok rfl rfl rfl rfl (r := .v _) rfl trivial ?_
              -- op 20.1 binOp t118
              refine st td_ok rfl rfl rfl rfl (r := .v _) rfl trivial ?_
              refine AOps_nil ?_
              refine qn ?_
              refine AWP_cond rfl rfl (fun h7 => ?_) (fun h7 => ?_)
              ·
                refine AWP_seq ?_
                refine AWP_region ?_
                -- op 21.0 move t119
                refine st td_ok rfl rfl rfl rfl (r := .v _) rfl trivial ?_
                -- op 21.1 assign t2
                refine st td_ok rfl rfl rfl rfl (r := .sl _ _ _) rfl trivial ?_
                -- op 21.2 assign t3
                refine st td_ok rfl rfl rfl rfl (r := .v _) rfl trivial ?_
                -- op 21.3 assign t4
                refine st td_ok rfl rfl rfl rfl (r := .v _) rfl trivial ?_
                refine AOps_nil ?_
                refine qn ?_
                refine AWP_ret ?_
                refine qr ?_
                refine qbr ?_
                refine qr ?_
                refine qbr ?_
                refine qr ?_
                refine qbr ?_
                refine qr ?_
                -- ret 1
                refine ⟨_, _, _, _, rfl, trivial, GS.forget _ _, ?_⟩
                first | show AV.v _ = _ | show AV.tup _ = _ | show AV.sl _ _ _ = _ | show AV.agg _ = _ | skip
                show splitA s (AV.tup [_, _, _])
                obtain ⟨f, rfl⟩ : ∃ g, f = g + 1 := ⟨f - 1, by omega⟩
                have hlt : i < s.size := by simp only [decide_eq_true_eq] at h1; omega
                rw [part_bif] at h6
                have hnx := nextP_name (k := _) h5 (hn3.symm.trans (scan_stop h6)) rfl
                rw [if_pos (show n > 24 by simp only [decide_eq_true_eq] at h7; omega)] at hnx
                exact rerr hlt h2 h3 (by decide) hnx hlex
              ·
                refine AWP_skip ?_
                refine qn ?_
                refine AWP_seq ?_
                refine AWP_region ?_
                -- op 22.0 assign t9
                refine st td_ok rfl rfl rfl rfl (r := .v _) rfl trivial ?_
                refine AOps_nil ?_
                refine qn ?_
                -- joins: live [0, 5, 6, 8, 9]
                refine AWP_cut (fun (k : Int) => [(0, .v (.string s)), (5, a), (6, .v (.int .i64 i)), (8, .v (.int .i64 n)), (9, .v (.int .i64 k))]) (fun k Z => Z = Y ∧ k = if between 65 90 (bt s i) = true then 2 else if isKw (s.extract i (i + n)) = true then 4 else 1) ?_ ?_
                ·
                  refine AWP_seq ?_
                  refine AWP_region ?_
                  -- op 23.0 move t120
                  refine st td_ok rfl rfl rfl rfl (r := .v _) rfl trivial ?_
                  -- op 23.1 call t121
                  refine st_pcall rfl rfl rfl rfl rfl rfl rfl ⟨_, rfl, rfl, rfl⟩ (by first | exact lower_c _ | exact upper_c _ | exact rdigit_c _ | exact rKeyword_c _) ?_
                  refine AOps_nil ?_
                  refine qn ?_
                  refine AWP_cond rfl rfl (fun h8 => ?_) (fun h8 => ?_)
                  ·
                    refine AWP_region ?_
                    -- op 24.0 assign t9
                    refine st td_ok rfl rfl rfl rfl (r := .v _) rfl trivial ?_
                    refine AOps_nil ?_
                    -- join 0 (cut 23)
                    refine qn ?_
                    exact ⟨2, by (repeat' (first | exact rfl | exact trivial | apply And.intro)), rfl, by rw [if_pos h8]⟩
                  ·
                    refine AWP_seq ?_
                    refine AWP_region ?_
                    -- op 25.0 move t122
                    refine st td_ok rfl rfl rfl rfl (r := .v _) rfl trivial ?_
                    -- op 25.1 move t123
                    refine st td_ok rfl rfl rfl rfl (r := .v _) rfl trivial ?_
                    -- op 25.2 move t124
                    refine st td_ok rfl rfl rfl rfl (r := .v _) rfl trivial ?_
                    -- op 25.3 move t125
                    refine st td_ok rfl rfl rfl rfl (r := .v _) rfl trivial ?_
                    -- op 25.4 binOp t126
                    refine st_eq td_ok rfl rfl rfl rfl (r := .v _) rfl trivial (w64 (by omega)) ?_
                    -- op 25.5 slice t127
                    (refine st td_ok rfl rfl rfl rfl (r := .v _) rfl ?_ ?_; · ((repeat' with_reducible apply And.intro) <;> (first | omega | (simp only [cond_true, cond_false, nd, Option.getD_none, Option.getD_some, Int.toNat_natCast, strs_len, nums_len, List.length_append, tds2, tds3, tds4, tds5, tds9, tds12, tds21, tds23, tds24, tds27, tds30, tds31, tds32, tds34, tds51, tds55, decide_eq_true_eq, Bool.and_eq_true, Bool.not_eq_true', decide_eq_false_iff_not] at *; omega))))
                    -- op 25.6 call t128
                    refine st_pcall rfl rfl rfl rfl rfl rfl rfl ⟨_, rfl, rfl, rfl⟩ (rKeyword_c (s.extract i (i + n))) ?_
                    refine AOps_nil ?_
                    refine qn ?_
                    refine AWP_cond rfl rfl (fun h9 => ?_) (fun h9 => ?_)
                    ·
                      refine AWP_region ?_
                      -- op 26.0 assign t9
                      refine st td_ok rfl rfl rfl rfl (r := .v _) rfl trivial ?_
                      refine AOps_nil ?_
                      -- join 1 (cut 23)
                      refine qn ?_
                      exact ⟨4, by (repeat' (first | exact rfl | exact trivial | apply And.intro)), rfl, by rw [if_neg (by rw [h8]; simp), if_pos (show isKw (s.extract i (i + n)) = true from h9)]⟩
                    ·
                      refine AWP_skip ?_
                      -- join 2 (cut 23)
                      refine qn ?_
                      exact ⟨1, by (repeat' (first | exact rfl | exact trivial | apply And.intro)), rfl, by rw [if_neg (by rw [h8]; simp), if_neg (by rw [show isKw (s.extract i (i + n)) = false from h9]; simp)]⟩
                ·
                  rintro k Z ⟨rfl, hk⟩
                  refine AWP_region ?_
                  -- op 27.0 move t129
                  refine st td_ok rfl rfl rfl rfl (r := _) rfl trivial ?_
                  -- op 27.1 move t130
                  refine st td_ok rfl rfl rfl rfl (r := .v _) rfl trivial ?_
                  -- op 27.2 move t131
                  refine st td_ok rfl rfl rfl rfl (r := .v _) rfl trivial ?_
                  -- op 27.3 move t132
                  refine st td_ok rfl rfl rfl rfl (r := .v _) rfl trivial ?_
                  -- op 27.4 move t133
                  refine st td_ok rfl rfl rfl rfl (r := .v _) rfl trivial ?_
                  -- op 27.5 move t134
                  refine st td_ok rfl rfl rfl rfl (r := .v _) rfl trivial ?_
                  -- op 27.6 binOp t135
                  refine st_eq td_ok rfl rfl rfl rfl (r := .v _) rfl trivial (w64 (by omega)) ?_
                  -- op 27.7 slice t136
                  (refine st td_ok rfl rfl rfl rfl (r := .v _) rfl ?_ ?_; · ((repeat' with_reducible apply And.intro) <;> (first | omega | (simp only [cond_true, cond_false, nd, Option.getD_none, Option.getD_some, Int.toNat_natCast, strs_len, nums_len, List.length_append, tds2, tds3, tds4, tds5, tds9, tds12, tds21, tds23, tds24, tds27, tds30, tds31, tds32, tds34, tds51, tds55, decide_eq_true_eq, Bool.and_eq_true, Bool.not_eq_true', decide_eq_false_iff_not] at *; omega))))
                  -- op 27.8 move t137
                  refine st td_ok rfl rfl rfl rfl (r := .v _) rfl trivial ?_
                  -- op 27.9 build t138
                  (refine st td_ok rfl rfl rfl rfl (r := .agg [.v _, .v _, .v _]) rfl ?_ ?_; · ((repeat' with_reducible apply And.intro) <;> (first | with_reducible exact trivial | exact rfl | exact Nat.le_of_ble_eq_true rfl)))
                  -- op 27.10 buildSlice t139
                  refine st_lit td_ok rfl rfl rfl rfl rfl rfl rfl rfl rfl (by decide) (cs := [.v _, .v _, .v _]) rfl (by ((repeat' with_reducible apply And.intro) <;> (first | with_reducible exact trivial | exact rfl))) ?_
                  -- op 27.11 call t140
                  refine st_append td_ok rfl rfl rfl rfl rfl rfl rfl rfl rfl rfl (.inl ⟨_, rfl⟩) (by decide) hown rfl rfl rfl (by show (acc.length + 1) * 32 ≤ _; omega) fun a140 X140 ho140 hr140 ha140 => ?_
                  -- op 27.12 assign t5
                  refine st td_ok rfl rfl rfl rfl (r := _) rfl trivial ?_
                  refine AOps_nil ?_
                  refine qbn ?_
                  refine qn ?_
                  refine AWP_region ?_
                  -- op 37.0 move t191
                  refine st td_ok rfl rfl rfl rfl (r := .v _) rfl trivial ?_
                  -- op 37.1 move t192
                  refine st td_ok rfl rfl rfl rfl (r := .v _) rfl trivial ?_
                  -- op 37.2 binOp t193
                  refine st_eq td_ok rfl rfl rfl rfl (r := .v _) rfl trivial (w64 (by omega)) ?_
                  -- op 37.3 assign t6
                  refine st td_ok rfl rfl rfl rfl (r := .v _) rfl trivial ?_
                  refine AOps_nil ?_
                  refine qbn ?_
                  -- back 4 (loop 5)
                  refine qn ?_
                  obtain ⟨f, rfl⟩ : ∃ g, f = g + 1 := ⟨f - 1, by omega⟩
                  have hlt : i < s.size := by simp only [decide_eq_true_eq] at h1; omega
                  rw [part_bif] at h6
                  have hnx := nextP_name h5 (hn3.symm.trans (scan_stop h6)) hk
                  rw [if_neg (show ¬ n > 24 by simp only [decide_eq_false_iff_not] at h7; omega)] at hnx
                  refine ⟨(i + n, acc ++ [⟨k, s.extract i (i + n), i⟩], a140), by dsimp only; omega, by (repeat' (first | exact rfl | exact trivial | apply And.intro)), by dsimp only; omega, ?_, by dsimp only; rw [List.length_append]; simp only [List.length_cons, List.length_nil]; omega, f, by dsimp only; omega, by rw [← hlex, rtok hlt h2 h3 hn2 hnx]⟩
                  dsimp only
                  rw [← toks_app, List.length_append]
                  exact ho140
          ·
            refine AWP_seq ?_
            refine AWP_region ?_
            -- op 28.0 move t142
            refine st td_ok rfl rfl rfl rfl (r := .v _) rfl trivial ?_
            -- op 28.1 call t143
            refine st_pcall rfl rfl rfl rfl rfl rfl rfl ⟨_, rfl, rfl, rfl⟩ (by first | exact lower_c _ | exact upper_c _ | exact rdigit_c _ | exact rKeyword_c _) ?_
            -- op 28.2 assign t141
            refine st td_ok rfl rfl rfl rfl (r := .v _) rfl trivial ?_
            refine AOps_nil ?_
            refine qn ?_
            refine AWP_cond rfl rfl (fun h10 => ?_) (fun h10 => ?_)
            ·
              refine AWP_seq ?_
              refine AWP_block ?_
              -- loop: live [0, 5, 6, 7, 8]
              refine AWP_for (fun (n : Nat) => [(0, .v (.string s)), (5, a), (6, .v (.int .i64 i)), (7, .v (.int .u8 (bt s i))), (8, .v (.int .i64 n))]) (fun n Y => Y = X ∧ 1 ≤ n ∧ i + n ≤ s.size ∧ scanE (between 48 57) s (s.size - (i + n)) (i + n) = scanE (between 48 57) s (s.size - (i + 1)) (i + 1)) (fun n => s.size - n) 1 ⟨by (repeat' (first | exact rfl | exact trivial | apply And.intro)), ⟨rfl, Nat.le_refl _, by omega, rfl⟩⟩ ?_
              rintro n Y ⟨rfl, hn1, hn2, hn3⟩
              refine AWP_seq ?_
              refine AWP_seq ?_
              refine AWP_region ?_
              -- op 29.0 move t144
              refine st td_ok rfl rfl rfl rfl (r := .v _) rfl trivial ?_
              -- op 29.1 move t145
              refine st td_ok rfl rfl rfl rfl (r := .v _) rfl trivial ?_
              -- op 29.2 binOp t146
              refine st_eq td_ok rfl rfl rfl rfl (r := .v _) rfl trivial (w64 (by omega)) ?_
              -- op 29.3 move t147
              refine st td_ok rfl rfl rfl rfl (r := .v _) rfl trivial ?_
              -- op 29.4 call t148
              refine st td_ok rfl rfl rfl rfl (r := .v _) rfl trivial ?_
              -- op 29.5 binOp t149
              refine st td_ok rfl rfl rfl rfl (r := .v _) rfl trivial ?_
              -- op 29.6 move t150
              refine st td_ok rfl rfl rfl rfl (r := .v _) rfl trivial ?_
              -- op 29.7 move t151 g['6', 'true']
              (refine sgk0 td_ok rfl rfl rfl rfl rfl rfl (r := .v _) rfl ?_ ?_; · exact fun hg => ⟨by (repeat' (first | exact trivial | exact hg | exact (Bool.and_eq_true_iff.mp hg).1 | apply And.intro)), by exact trivial⟩)
              -- op 29.8 move t152 g['6', 'true']
              (refine sgk0 td_ok rfl rfl rfl rfl rfl rfl (r := .v _) rfl ?_ ?_; · exact fun hg => ⟨by (repeat' (first | exact trivial | exact hg | exact (Bool.and_eq_true_iff.mp hg).1 | apply And.intro)), by exact trivial⟩)
              -- op 29.9 move t153 g['6', 'true']
              (refine sgk0 td_ok rfl rfl rfl rfl rfl rfl (r := .v _) rfl ?_ ?_; · exact fun hg => ⟨by (repeat' (first | exact trivial | exact hg | exact (Bool.and_eq_true_iff.mp hg).1 | apply And.intro)), by exact trivial⟩)
              -- op 29.10 binOp t154 g['6', 'true']
              (refine sgke td_ok rfl rfl rfl rfl rfl rfl (r := .v _) rfl (w64 (by omega)) ?_ ?_; · exact fun hg => ⟨by (repeat' (first | exact trivial | exact hg | exact (Bool.and_eq_true_iff.mp hg).1 | apply And.intro)), trivial⟩)
              -- op 29.11 index t155 g['6', 'true']
              (refine sgk0 td_ok rfl rfl rfl rfl rfl rfl (r := .v _) rfl ?_ ?_; · exact fun hg => ⟨by (repeat' (first | exact trivial | exact hg | exact (Bool.and_eq_true_iff.mp hg).1 | apply And.intro)), by ((repeat' with_reducible apply And.intro) <;> (first | omega | (simp only [cond_true, cond_false, nd, Option.getD_none, Option.getD_some, Int.toNat_natCast, strs_len, nums_len, List.length_append, tds2, tds3, tds4, tds5, tds9, tds12, tds21, tds23, tds24, tds27, tds30, tds31, tds32, tds34, tds51, tds55, decide_eq_true_eq, Bool.and_eq_true, Bool.not_eq_true', decide_eq_false_iff_not] at *; omega)))⟩)
              -- op 29.12 call t156 g['6', 'true']
              refine stg_call rfl rfl rfl rfl rfl rfl rfl rfl (fun hg => ⟨by (repeat' (first | exact trivial | exact hg | exact (Bool.and_eq_true_iff.mp hg).1 | apply And.intro)), rfl, ⟨_, rfl, rfl, rfl⟩, (by first | exact lower_c _ | exact upper_c _ | exact rdigit_c _ | exact rKeyword_c _)⟩) ?_
              -- op 29.13 pick t157
              (refine st td_ok rfl rfl rfl rfl (r := .v _) rfl ?_ ?_; · exact (fun h => h))
              refine AOps_nil ?_
              refine qn ?_
              refine AWP_cond rfl rfl (fun h11 => ?_) (fun h11 => ?_)
              ·
                refine AWP_skip ?_
                refine qn ?_
                refine AWP_block ?_
                refine AWP_region ?_
                -- op 30.0 move t158
                refine st td_ok rfl rfl rfl rfl (r := .v _) rfl trivial ?_
                -- op 30.1 binOp t159
                refine st_eq td_ok rfl rfl rfl rfl (r := .v _) rfl trivial (w64 (by omega)) ?_
                -- op 30.2 assign t8
                refine st td_ok rfl rfl rfl rfl (r := .v _) rfl trivial ?_
                refine AOps_nil ?_
                refine qbn ?_
                -- back 5 (loop 29)
                refine qn ?_
                obtain ⟨h6a, h6b⟩ := bif_t h11
                have h6c : ((i + n : Nat) : Int) < s.size := by simp only [decide_eq_true_eq] at h6a; omega
                exact ⟨n + 1, by omega, by (repeat' (first | exact rfl | exact trivial | apply And.intro)), rfl, by omega, by omega, by rw [← hn3, scan_go h6c h6b]; rfl⟩
              ·
                refine AWP_exit ?_
                refine qx ?_
                refine qx ?_
                refine qbh ?_
                refine qn ?_
                refine AWP_seq ?_
                refine AWP_seq ?_
                refine AWP_region ?_
                -- op 31.0 move t160
                refine st td_ok rfl rfl rfl rfl (r := .v _) rfl trivial ?_
                -- op 31.1 binOp t161
                refine st td_ok rfl rfl rfl rfl (r := .v _) rfl trivial ?_
                -- op 31.2 move t162
                refine st td_ok rfl rfl rfl rfl (r := .v _) rfl trivial ?_
                -- op 31.3 move t163 g['2', 'true']
                (refine sgk0 td_ok rfl rfl rfl rfl rfl rfl (r := .v _) rfl ?_ ?_; · exact fun hg => ⟨by (repeat' (first | exact trivial | exact hg | exact (Bool.and_eq_true_iff.mp hg).1 | apply And.intro)), by exact trivial⟩)
                -- op 31.4 binOp t164 g['2', 'true']
                (refine sgk0 td_ok rfl rfl rfl rfl rfl rfl (r := .v _) rfl ?_ ?_; · exact fun hg => ⟨by (repeat' (first | exact trivial | exact hg | exact (Bool.and_eq_true_iff.mp hg).1 | apply And.intro)), by exact trivial⟩)
                -- op 31.5 pick t165
                (refine st td_ok rfl rfl rfl rfl (r := .v _) rfl ?_ ?_; · exact (fun h => h))
                refine AOps_nil ?_
                refine qn ?_
                refine AWP_cond rfl rfl (fun h12 => ?_) (fun h12 => ?_)
                ·
                  refine AWP_seq ?_
                  refine AWP_region ?_
                  -- op 32.0 move t166
                  refine st td_ok rfl rfl rfl rfl (r := .v _) rfl trivial ?_
                  -- op 32.1 assign t2
                  refine st td_ok rfl rfl rfl rfl (r := .sl _ _ _) rfl trivial ?_
                  -- op 32.2 assign t3
                  refine st td_ok rfl rfl rfl rfl (r := .v _) rfl trivial ?_
                  -- op 32.3 assign t4
                  refine st td_ok rfl rfl rfl rfl (r := .v _) rfl trivial ?_
                  refine AOps_nil ?_
                  refine qn ?_
                  refine AWP_ret ?_
                  refine qr ?_
                  refine qbr ?_
                  refine qr ?_
                  refine qbr ?_
                  refine qr ?_
                  refine qbr ?_
                  refine qr ?_
                  -- ret 2
                  refine ⟨_, _, _, _, rfl, trivial, GS.forget _ _, ?_⟩
                  first | show AV.v _ = _ | show AV.tup _ = _ | show AV.sl _ _ _ = _ | show AV.agg _ = _ | skip
                  show splitA s (AV.tup [_, _, _])
                  obtain ⟨f, rfl⟩ : ∃ g, f = g + 1 := ⟨f - 1, by omega⟩
                  have hlt : i < s.size := by simp only [decide_eq_true_eq] at h1; omega
                  have hse : scanE (between 48 57) s (s.size - (i + 1)) (i + 1) = i + n := hn3.symm.trans (scan_stop h11)
                  have hnx := nextP_num hn2 hn1 h5 h10 hse
                  rw [if_pos (ylead h12)] at hnx
                  exact rerr hlt h2 h3 (by decide) hnx hlex
                ·
                  refine AWP_skip ?_
                  refine qn ?_
                  refine AWP_seq ?_
                  refine AWP_seq ?_
                  have hlt : i < s.size := by simp only [decide_eq_true_eq] at h1; omega
                  have hse : scanE (between 48 57) s (s.size - (i + 1)) (i + 1) = i + n := hn3.symm.trans (scan_stop h11)
                  have hdg : digs (s.extract i (i + n)) := digs_part hn2 h10 (fun K hK j hj => scan_all _ _ _ hse j (by omega))
                  have hsz : (s.extract i (i + n)).size = n := by simp only [ByteArray.size_extract]; omega
                  refine AWP_region ?_
                  -- op 33.0 move t168
                  refine st td_ok rfl rfl rfl rfl (r := .v _) rfl trivial ?_
                  -- op 33.1 move t169
                  refine st td_ok rfl rfl rfl rfl (r := .v _) rfl trivial ?_
                  -- op 33.2 move t170
                  refine st td_ok rfl rfl rfl rfl (r := .v _) rfl trivial ?_
                  -- op 33.3 move t171
                  refine st td_ok rfl rfl rfl rfl (r := .v _) rfl trivial ?_
                  -- op 33.4 binOp t172
                  refine st_eq td_ok rfl rfl rfl rfl (r := .v _) rfl trivial (w64 (by omega)) ?_
                  -- op 33.5 slice t173
                  (refine st td_ok rfl rfl rfl rfl (r := .v _) rfl ?_ ?_; · ((repeat' with_reducible apply And.intro) <;> (first | omega | (simp only [cond_true, cond_false, nd, Option.getD_none, Option.getD_some, Int.toNat_natCast, strs_len, nums_len, List.length_append, tds2, tds3, tds4, tds5, tds9, tds12, tds21, tds23, tds24, tds27, tds30, tds31, tds32, tds34, tds51, tds55, decide_eq_true_eq, Bool.and_eq_true, Bool.not_eq_true', decide_eq_false_iff_not] at *; omega))))
                  -- op 33.6 call t174
                  refine st_pcall rfl rfl rfl rfl rfl rfl rfl ⟨_, rfl, rfl, rfl⟩ (Value_c (s.extract i (i + n)) hdg (by omega)) ?_
                  -- op 33.7 move t167
                  refine st td_ok rfl rfl rfl rfl (r := .tup _) rfl trivial ?_
                  -- op 33.8 extract t175
                  refine st td_ok rfl rfl rfl rfl (r := .v _) rfl trivial ?_
                  -- op 33.9 extract t176
                  refine st td_ok rfl rfl rfl rfl (r := .v _) rfl trivial ?_
                  -- op 33.10 assign t10
                  refine st td_ok rfl rfl rfl rfl (r := .v _) rfl trivial ?_
                  -- op 33.11 assign t11
                  refine st td_ok rfl rfl rfl rfl (r := .v _) rfl trivial ?_
                  refine AOps_nil ?_
                  refine qn ?_
                  refine AWP_seq ?_
                  refine AWP_region ?_
                  -- op 34.0 move t177
                  refine st td_ok rfl rfl rfl rfl (r := .v _) rfl trivial ?_
                  -- op 34.1 unOp t178
                  refine st td_ok rfl rfl rfl rfl (r := .v _) rfl trivial ?_
                  refine AOps_nil ?_
                  refine qn ?_
                  refine AWP_cond rfl rfl (fun h13 => ?_) (fun h13 => ?_)
                  ·
                    refine AWP_seq ?_
                    refine AWP_region ?_
                    -- op 35.0 move t179
                    refine st td_ok rfl rfl rfl rfl (r := .v _) rfl trivial ?_
                    -- op 35.1 assign t2
                    refine st td_ok rfl rfl rfl rfl (r := .sl _ _ _) rfl trivial ?_
                    -- op 35.2 assign t3
                    refine st td_ok rfl rfl rfl rfl (r := .v _) rfl trivial ?_
                    -- op 35.3 assign t4
                    refine st td_ok rfl rfl rfl rfl (r := .v _) rfl trivial ?_
                    refine AOps_nil ?_
                    refine qn ?_
                    refine AWP_ret ?_
                    refine qr ?_
                    refine qbr ?_
                    refine qr ?_
                    refine qbr ?_
                    refine qr ?_
                    refine qbr ?_
                    refine qr ?_
                    -- ret 3
                    refine ⟨_, _, _, _, rfl, trivial, GS.forget _ _, ?_⟩
                    first | show AV.v _ = _ | show AV.tup _ = _ | show AV.sl _ _ _ = _ | show AV.agg _ = _ | skip
                    show splitA s (AV.tup [_, _, _])
                    obtain ⟨f, rfl⟩ : ∃ g, f = g + 1 := ⟨f - 1, by omega⟩
                    have hlt : i < s.size := by simp only [decide_eq_true_eq] at h1; omega
                    have hnx := nextP_num hn2 hn1 h5 h10 hse
                    rw [if_neg (nlead h12), if_neg (by simpa [hsz] using h13)] at hnx
                    exact rerr hlt h2 h3 (by decide) hnx hlex
                  ·
                    refine AWP_skip ?_
                    refine qn ?_
                    refine AWP_region ?_
                    -- op 36.0 move t180
                    refine st td_ok rfl rfl rfl rfl (r := _) rfl trivial ?_
                    -- op 36.1 move t181
                    refine st td_ok rfl rfl rfl rfl (r := .v _) rfl trivial ?_
                    -- op 36.2 move t182
                    refine st td_ok rfl rfl rfl rfl (r := .v _) rfl trivial ?_
                    -- op 36.3 move t183
                    refine st td_ok rfl rfl rfl rfl (r := .v _) rfl trivial ?_
                    -- op 36.4 move t184
                    refine st td_ok rfl rfl rfl rfl (r := .v _) rfl trivial ?_
                    -- op 36.5 binOp t185
                    refine st_eq td_ok rfl rfl rfl rfl (r := .v _) rfl trivial (w64 (by omega)) ?_
                    -- op 36.6 slice t186
                    (refine st td_ok rfl rfl rfl rfl (r := .v _) rfl ?_ ?_; · ((repeat' with_reducible apply And.intro) <;> (first | omega | (simp only [cond_true, cond_false, nd, Option.getD_none, Option.getD_some, Int.toNat_natCast, strs_len, nums_len, List.length_append, tds2, tds3, tds4, tds5, tds9, tds12, tds21, tds23, tds24, tds27, tds30, tds31, tds32, tds34, tds51, tds55, decide_eq_true_eq, Bool.and_eq_true, Bool.not_eq_true', decide_eq_false_iff_not] at *; omega))))
                    -- op 36.7 move t187
                    refine st td_ok rfl rfl rfl rfl (r := .v _) rfl trivial ?_
                    -- op 36.8 build t188
                    (refine st td_ok rfl rfl rfl rfl (r := .agg [.v _, .v _, .v _]) rfl ?_ ?_; · ((repeat' with_reducible apply And.intro) <;> (first | with_reducible exact trivial | exact rfl | exact Nat.le_of_ble_eq_true rfl)))
                    -- op 36.9 buildSlice t189
                    refine st_lit td_ok rfl rfl rfl rfl rfl rfl rfl rfl rfl (by decide) (cs := [.v _, .v _, .v _]) rfl (by ((repeat' with_reducible apply And.intro) <;> (first | with_reducible exact trivial | exact rfl))) ?_
                    -- op 36.10 call t190
                    refine st_append td_ok rfl rfl rfl rfl rfl rfl rfl rfl rfl rfl (.inl ⟨_, rfl⟩) (by decide) hown rfl rfl rfl (by show (acc.length + 1) * 32 ≤ _; omega) fun a190 X190 ho190 hr190 ha190 => ?_
                    -- op 36.11 assign t5
                    refine st td_ok rfl rfl rfl rfl (r := _) rfl trivial ?_
                    refine AOps_nil ?_
                    refine qbn ?_
                    refine qn ?_
                    refine AWP_region ?_
                    -- op 37.0 move t191
                    refine st td_ok rfl rfl rfl rfl (r := .v _) rfl trivial ?_
                    -- op 37.1 move t192
                    refine st td_ok rfl rfl rfl rfl (r := .v _) rfl trivial ?_
                    -- op 37.2 binOp t193
                    refine st_eq td_ok rfl rfl rfl rfl (r := .v _) rfl trivial (w64 (by omega)) ?_
                    -- op 37.3 assign t6
                    refine st td_ok rfl rfl rfl rfl (r := .v _) rfl trivial ?_
                    refine AOps_nil ?_
                    refine qbn ?_
                    -- back 6 (loop 5)
                    refine qn ?_
                    obtain ⟨f, rfl⟩ : ∃ g, f = g + 1 := ⟨f - 1, by omega⟩
                    have hlt : i < s.size := by simp only [decide_eq_true_eq] at h1; omega
                    have hnx := nextP_num hn2 hn1 h5 h10 hse
                    rw [if_neg (nlead h12), if_pos (by simpa [hsz] using h13)] at hnx
                    refine ⟨(i + n, acc ++ [⟨3, s.extract i (i + n), i⟩], a190), by dsimp only; omega, by (repeat' (first | exact rfl | exact trivial | apply And.intro)), by dsimp only; omega, ?_, by dsimp only; rw [List.length_append]; simp only [List.length_cons, List.length_nil]; omega, f, by dsimp only; omega, by rw [← hlex, rtok hlt h2 h3 hn2 hnx]⟩
                    dsimp only
                    rw [← toks_app, List.length_append]
                    exact ho190
            ·
              refine AWP_seq ?_
              have hlt : i < s.size := by simp only [decide_eq_true_eq] at h1; omega
              have hsl : i + signN (s.extract i s.size) ≤ s.size := by have hq := signN_le (s.extract i s.size) (by simp only [ByteArray.size_extract]; omega); simp only [ByteArray.size_extract] at hq; omega
              refine AWP_region ?_
              -- op 13.0 move t52
              refine st td_ok rfl rfl rfl rfl (r := .v _) rfl trivial ?_
              -- op 13.1 move t53
              refine st td_ok rfl rfl rfl rfl (r := .v _) rfl trivial ?_
              -- op 13.2 slice t54
              (refine st td_ok rfl rfl rfl rfl (r := .v _) rfl ?_ ?_; · ((repeat' with_reducible apply And.intro) <;> (first | with_reducible exact trivial | omega | (simp only [cond_true, cond_false, nd, Option.getD_none, Option.getD_some, Int.toNat_natCast, strs_len, nums_len, List.length_append, tds2, tds3, tds4, tds5, tds9, tds12, tds21, tds23, tds24, tds27, tds30, tds31, tds32, tds34, tds51, tds55, decide_eq_true_eq, Bool.and_eq_true, Bool.not_eq_true', decide_eq_false_iff_not] at *; omega))))
              -- op 13.3 call t55
              refine st_pcall rfl rfl rfl rfl rfl rfl rfl ⟨_, rfl, rfl, rfl⟩ (rsign_c (s.extract i s.size) (by simp only [ByteArray.size_extract]; omega)) ?_
              -- op 13.4 assign t8
              refine st td_ok rfl rfl rfl rfl (r := .v _) rfl trivial ?_
              refine AOps_nil ?_
              refine qn ?_
              refine AWP_seq ?_
              refine AWP_seq ?_
              refine AWP_region ?_
              -- op 14.0 move t56
              refine st td_ok rfl rfl rfl rfl (r := .v _) rfl trivial ?_
              -- op 14.1 binOp t57
              refine st td_ok rfl rfl rfl rfl (r := .v _) rfl trivial ?_
              refine AOps_nil ?_
              refine qn ?_
              refine AWP_cond rfl rfl (fun h14 => ?_) (fun h14 => ?_)
              ·
                refine AWP_seq ?_
                refine AWP_region ?_
                -- op 15.0 move t58
                refine st td_ok rfl rfl rfl rfl (r := .v _) rfl trivial ?_
                -- op 15.1 assign t2
                refine st td_ok rfl rfl rfl rfl (r := .sl _ _ _) rfl trivial ?_
                -- op 15.2 assign t3
                refine st td_ok rfl rfl rfl rfl (r := .v _) rfl trivial ?_
                -- op 15.3 assign t4
                refine st td_ok rfl rfl rfl rfl (r := .v _) rfl trivial ?_
                refine AOps_nil ?_
                refine qn ?_
                refine AWP_ret ?_
                refine qr ?_
                refine qbr ?_
                refine qr ?_
                refine qbr ?_
                refine qr ?_
                refine qbr ?_
                refine qr ?_
                -- ret 4
                refine ⟨_, _, _, _, rfl, trivial, GS.forget _ _, ?_⟩
                first | show AV.v _ = _ | show AV.tup _ = _ | show AV.sl _ _ _ = _ | show AV.agg _ = _ | skip
                show splitA s (AV.tup [_, _, _])
                obtain ⟨f, rfl⟩ : ∃ g, f = g + 1 := ⟨f - 1, by omega⟩
                have hlt : i < s.size := by simp only [decide_eq_true_eq] at h1; omega
                have hz : signN (s.extract i s.size) = 0 := by have h14' : (((signN (s.extract i s.size) : Nat) : Int) == 0) = true := h14; rw [beq_iff_eq] at h14'; omega
                have hnx := nextP_sign h5 h10 hlt
                rw [if_pos hz, if_pos hz] at hnx
                exact rerr hlt h2 h3 (by decide) hnx hlex
              ·
                refine AWP_skip ?_
                refine qn ?_
                refine AWP_region ?_
                -- op 16.0 move t59
                refine st td_ok rfl rfl rfl rfl (r := _) rfl trivial ?_
                -- op 16.1 move t60
                refine st td_ok rfl rfl rfl rfl (r := .v _) rfl trivial ?_
                -- op 16.2 move t61
                refine st td_ok rfl rfl rfl rfl (r := .v _) rfl trivial ?_
                -- op 16.3 move t62
                refine st td_ok rfl rfl rfl rfl (r := .v _) rfl trivial ?_
                -- op 16.4 move t63
                refine st td_ok rfl rfl rfl rfl (r := .v _) rfl trivial ?_
                -- op 16.5 binOp t64
                refine st_eq td_ok rfl rfl rfl rfl (r := .v _) rfl trivial (w64 (by omega)) ?_
                -- op 16.6 slice t65
                (refine st td_ok rfl rfl rfl rfl (r := .v _) rfl ?_ ?_; · ((repeat' with_reducible apply And.intro) <;> (first | omega | (simp only [cond_true, cond_false, nd, Option.getD_none, Option.getD_some, Int.toNat_natCast, strs_len, nums_len, List.length_append, tds2, tds3, tds4, tds5, tds9, tds12, tds21, tds23, tds24, tds27, tds30, tds31, tds32, tds34, tds51, tds55, decide_eq_true_eq, Bool.and_eq_true, Bool.not_eq_true', decide_eq_false_iff_not] at *; omega))))
                -- op 16.7 move t66
                refine st td_ok rfl rfl rfl rfl (r := .v _) rfl trivial ?_
                -- op 16.8 build t67
                (refine st td_ok rfl rfl rfl rfl (r := .agg [.v _, .v _, .v _]) rfl ?_ ?_; · ((repeat' with_reducible apply And.intro) <;> (first | with_reducible exact trivial | exact rfl | exact Nat.le_of_ble_eq_true rfl)))
                -- op 16.9 buildSlice t68
                refine st_lit td_ok rfl rfl rfl rfl rfl rfl rfl rfl rfl (by decide) (cs := [.v _, .v _, .v _]) rfl (by ((repeat' with_reducible apply And.intro) <;> (first | with_reducible exact trivial | exact rfl))) ?_
                -- op 16.10 call t69
                refine st_append td_ok rfl rfl rfl rfl rfl rfl rfl rfl rfl rfl (.inl ⟨_, rfl⟩) (by decide) hown rfl rfl rfl (by show (acc.length + 1) * 32 ≤ _; omega) fun a69 X69 ho69 hr69 ha69 => ?_
                -- op 16.11 assign t5
                refine st td_ok rfl rfl rfl rfl (r := _) rfl trivial ?_
                refine AOps_nil ?_
                refine qbn ?_
                refine qn ?_
                refine AWP_region ?_
                -- op 37.0 move t191
                refine st td_ok rfl rfl rfl rfl (r := .v _) rfl trivial ?_
                -- op 37.1 move t192
                refine st td_ok rfl rfl rfl rfl (r := .v _) rfl trivial ?_
                -- op 37.2 binOp t193
                refine st_eq td_ok rfl rfl rfl rfl (r := .v _) rfl trivial (w64 (by omega)) ?_
                -- op 37.3 assign t6
                refine st td_ok rfl rfl rfl rfl (r := .v _) rfl trivial ?_
                refine AOps_nil ?_
                refine qbn ?_
                -- back 7 (loop 5)
                refine qn ?_
                obtain ⟨f, rfl⟩ : ∃ g, f = g + 1 := ⟨f - 1, by omega⟩
                have hlt : i < s.size := by simp only [decide_eq_true_eq] at h1; omega
                have hz : signN (s.extract i s.size) ≠ 0 := by intro hz; rw [show ((signN (s.extract i s.size) : Nat) : Int) == 0 by rw [hz]; rfl] at h14; exact absurd h14 (by simp)
                have hnx := nextP_sign h5 h10 hlt
                rw [if_neg hz, if_neg hz] at hnx
                refine ⟨(i + signN (s.extract i s.size), acc ++ [⟨5, s.extract i (i + signN (s.extract i s.size)), i⟩], a69), by dsimp only; omega, by (repeat' (first | exact rfl | exact trivial | apply And.intro)), by dsimp only; omega, ?_, by dsimp only; rw [List.length_append]; simp only [List.length_cons, List.length_nil]; omega, f, by dsimp only; omega, by rw [← hlex, rtok hlt h2 h3 hsl hnx]⟩
                dsimp only
                rw [← toks_app, List.length_append]
                exact ho69
    ·
      refine AWP_exit ?_
      refine qx ?_
      refine qx ?_
      refine qbh ?_
      refine qn ?_
      refine AWP_seq ?_
      refine AWP_region ?_
      -- op 38.0 move t194
      refine st td_ok rfl rfl rfl rfl (r := _) rfl trivial ?_
      -- op 38.1 move t195
      refine st td_ok rfl rfl rfl rfl (r := .v _) rfl trivial ?_
      -- op 38.2 call t196
      refine st td_ok rfl rfl rfl rfl (r := .v _) rfl trivial ?_
      -- op 38.3 build t197
      (refine st td_ok rfl rfl rfl rfl (r := .agg [.v _, .v _, .v _]) rfl ?_ ?_; · ((repeat' with_reducible apply And.intro) <;> (first | with_reducible exact trivial | exact rfl | exact Nat.le_of_ble_eq_true rfl)))
      -- op 38.4 buildSlice t198
      refine st_lit td_ok rfl rfl rfl rfl rfl rfl rfl rfl rfl (by decide) (cs := [.v _, .v _, .v _]) rfl (by ((repeat' with_reducible apply And.intro) <;> (first | with_reducible exact trivial | exact rfl))) ?_
      -- op 38.5 call t199
      refine st_append td_ok rfl rfl rfl rfl rfl rfl rfl rfl rfl rfl (.inl ⟨_, rfl⟩) (by decide) hown rfl rfl rfl (by show (acc.length + 1) * 32 ≤ _; omega) fun a199 X199 ho199 hr199 ha199 => ?_
      -- op 38.6 assign t2
      refine st td_ok rfl rfl rfl rfl (r := _) rfl trivial ?_
      -- op 38.7 assign t3
      refine st td_ok rfl rfl rfl rfl (r := .v _) rfl trivial ?_
      -- op 38.8 assign t4
      refine st td_ok rfl rfl rfl rfl (r := .v _) rfl trivial ?_
      refine AOps_nil ?_
      refine qn ?_
      refine AWP_ret ?_
      -- ret 5
      obtain ⟨tt, hgs⟩ := GS.own ho199 [] [.v (.int .i64 0), .v (.int .i64 0)]
      refine ⟨_, _, _, _, rfl, trivial, (GS.tup hgs), ?_⟩
      first | show AV.v _ = _ | show AV.tup _ = _ | show AV.sl _ _ _ = _ | show AV.agg _ = _ | skip
      refine split_end (tt := tt) ?_
      rw [← hlex, lex_end (by simp only [decide_eq_false_iff_not] at h1; omega)]
end Go.Proofs.Ytoiolofgcgkgiaa.V
