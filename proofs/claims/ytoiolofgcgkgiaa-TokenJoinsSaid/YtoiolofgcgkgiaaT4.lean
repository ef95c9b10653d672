import Derived.Test.YtoiolofgcgkgiaaT3
namespace Go.Proofs.Ytoiolofgcgkgiaa.V
open Go
set_option linter.unusedSimpArgs false
set_option linter.unusedVariables false

structure Tok where
  kind : Int
  text : ByteArray
  pos : Nat
def Tok.cells (t : Tok) : List AV := [.v (.int .i64 t.kind), .v (.string t.text), .v (.int .i64 (t.pos : Int))]
def toks (l : List Tok) : List AV := l.flatMap Tok.cells
theorem toks_app (l : List Tok) (t : Tok) : toks l ++ t.cells = toks (l ++ [t]) := by simp [toks]
def blank (c : Int) : Bool := c == 9 || c == 10 || c == 13 || c == 32
def lineE (s : ByteArray) (i : Nat) : Nat := scanE (fun c => c != 10) s (s.size - i) i
inductive LR where
  | ok (l : List Tok)
  | err (i : Nat) (e : Int)
def lex (s : ByteArray) : Nat → Nat → List Tok → LR
  | 0, _, acc => .ok (acc ++ [⟨6, ⟨#[]⟩, s.size⟩])
  | k + 1, i, acc =>
    if s.size ≤ i then .ok (acc ++ [⟨6, ⟨#[]⟩, s.size⟩])
    else if blank (bt s i) then lex s k (i + 1) acc
    else if bt s i = 35 then lex s k (lineE s i) acc
    else
      let r := nextP s i
      if r.2.2 = 0 then lex s k (i + r.2.1.size) (acc ++ [⟨r.1, r.2.1, i⟩]) else .err i r.2.2
def splitP (s : ByteArray) : LR := if s.size > 16384 then .err 0 9 else lex s (s.size + 1) 0 []

theorem Own.nat {X : XH} {e : TypeId} {sz n r : Nat} {a : AV} {cs : List AV} (h : Own X e sz a n cs) (hX : X r = none) : ¬ a.at? r := by
  intro hr
  obtain ⟨_, h⟩ := h
  rcases h with ⟨rfl, _⟩ | ⟨q, c, pad, rfl, hq, _⟩
  · exact hr
  · simp only [AV.at?] at hr; subst hr; rw [hX] at hq; exact absurd hq (by simp)
theorem Own.put {X : XH} {e : TypeId} {sz n r : Nat} {a : AV} {cs : List AV} {o : XB} (h : Own X e sz a n cs) (hn : ¬ a.at? r) : Own (X.put r o) e sz a n cs := by
  obtain ⟨h1, h⟩ := h
  refine ⟨h1, ?_⟩
  rcases h with h | ⟨q, c, pad, rfl, hq, h2⟩
  · exact .inl h
  · refine .inr ⟨q, c, pad, rfl, XH.put_ne (fun e => ?_) hq, h2⟩
    subst e; exact hn rfl
def nextTok (s : ByteArray) (i : Nat) : Tok := ⟨(nextP s i).1, (nextP s i).2.1, i⟩
def splitA (s : ByteArray) (r : AV) : Prop := match splitP s with
  | .ok l => ∃ tt, r = .tup [.sl tt l.length (toks l), .v (.int .i64 0), .v (.int .i64 0)]
  | .err i e => r = .tup [.sl true 0 [], .v (.int .i64 i), .v (.int .i64 e)]
theorem or4 {a b c d : Bool} : (bif bif bif a then true else b then true else c then true else d) = (a || b || c || d) := by cases a <;> cases b <;> cases c <;> rfl
theorem lex_blank {s : ByteArray} {f i : Nat} {acc : List Tok} (hlt : i < s.size) (h : (bif bif bif bt s i == 9 then true else bt s i == 10 then true else bt s i == 13 then true else bt s i == 32) = true) : lex s (f + 1) i acc = lex s f (i + 1) acc := by
  rw [or4] at h
  have h' : blank (bt s i) = true := h
  simp only [lex]; rw [if_neg (by omega), if_pos h']
theorem lex_line {s : ByteArray} {f i : Nat} {acc : List Tok} (hlt : i < s.size) (h : (bif bif bif bt s i == 9 then true else bt s i == 10 then true else bt s i == 13 then true else bt s i == 32) = false) (h3 : (bt s i == 35) = true) : lex s (f + 1) i acc = lex s f (lineE s i) acc := by
  rw [or4] at h
  have h' : ¬ blank (bt s i) = true := by rw [show blank (bt s i) = false from h]; simp
  simp only [lex]; rw [if_neg (by omega), if_neg h', if_pos (by simpa using h3)]
theorem lex_tok {s : ByteArray} {f i : Nat} {acc : List Tok} (hlt : i < s.size) (h : (bif bif bif bt s i == 9 then true else bt s i == 10 then true else bt s i == 13 then true else bt s i == 32) = false) (h3 : (bt s i == 35) = false) : lex s (f + 1) i acc = if (nextP s i).2.2 = 0 then lex s f (i + (nextP s i).2.1.size) (acc ++ [nextTok s i]) else .err i (nextP s i).2.2 := by
  rw [or4] at h
  have h' : ¬ blank (bt s i) = true := by rw [show blank (bt s i) = false from h]; simp
  simp only [lex]; rw [if_neg (by omega), if_neg h', if_neg (by simpa using h3)]; rfl
theorem lex_end {s : ByteArray} {f i : Nat} {acc : List Tok} (h : s.size ≤ i) : lex s f i acc = .ok (acc ++ [⟨6, ⟨#[]⟩, s.size⟩]) := by
  cases f with
  | zero => rfl
  | succ f => simp only [lex]; rw [if_pos h]
theorem line_stop {s : ByteArray} {j : Nat} (h : s.size ≤ j ∨ (bt s j == 10) = true) : lineE s j = j := by
  unfold lineE
  refine scan_stop ?_
  rcases h with h | h
  · rw [decide_eq_false (show ¬ (j : Int) < s.size by omega)]; rfl
  · have : (bt s j != 10) = false := by simp only [bne, h]; rfl
    rw [this]; cases decide ((j : Int) < s.size) <;> rfl
theorem line_go {s : ByteArray} {j : Nat} (hlt : j < s.size) (h : (bt s j == 10) = false) : lineE s j = lineE s (j + 1) := by
  unfold lineE
  exact scan_go (by omega) (by simp only [bne, h]; rfl)
theorem scanE_ge (p : Int → Bool) (s : ByteArray) : ∀ (k j : Nat), j ≤ scanE p s k j ∧ scanE p s k j ≤ j + k
  | 0, j => by simp [scanE]
  | k + 1, j => by
    simp only [scanE]
    have := scanE_ge p s k (j + 1)
    split <;> omega
theorem numN_ge (s : ByteArray) : ∀ (k j : Nat) (n : Int), j ≤ (numN s k j n).1 ∧ (numN s k j n).1 ≤ j + k
  | 0, j, n => by simp [numN]
  | k + 1, j, n => by
    simp only [numN]
    have := numN_ge s k (j + 1) (min (n * 10 + (bt s j - 48)) 1000001)
    split
    · omega
    · simp only []; omega
theorem next_size {s : ByteArray} {i : Nat} (hlt : i < s.size) (he : (nextP s i).2.2 = 0) : 1 ≤ (nextP s i).2.1.size ∧ i + (nextP s i).2.1.size ≤ s.size := by
  unfold nextP at he ⊢
  simp only [] at he ⊢
  split
  · have := scanE_ge isPart s (s.size - (i + 1)) (i + 1)
    simp only [ByteArray.size_extract]; omega
  · rename_i h1
    rw [if_neg h1] at he
    split
    · have := numN_ge s (s.size - (i + 1)) (i + 1) (bt s i - 48)
      simp only [ByteArray.size_extract]; omega
    · rename_i h2
      rw [if_neg h2] at he
      simp only [] at he ⊢
      split at he
      · exact absurd he (by decide)
      · rename_i h3
        have h4 := signN_le (s.extract i s.size) (by simp only [ByteArray.size_extract]; omega)
        rw [if_neg h3]
        simp only [ByteArray.size_extract] at h4 ⊢
        omega
theorem split_end {s : ByteArray} {acc : List Tok} {tt : Bool} (hl : splitP s = .ok (acc ++ [⟨6, ⟨#[]⟩, s.size⟩])) : splitA s (.tup [.sl tt (acc.length + 1) (toks acc ++ [.v (.int .i64 6), .v (.string ⟨#[]⟩), .v (.int .i64 s.size)]), .v (.int .i64 0), .v (.int .i64 0)]) := by
  unfold splitA
  rw [hl]
  refine ⟨tt, ?_⟩
  rw [← toks_app, List.length_append]; rfl
theorem split_c (s : ByteArray) (hb : s.size < 2 ^ 47) : ACalls Try.prog 10 [.v (.string s)] XH.none (fun r _ => splitA s r) := by
  refine calls_body td_ok Try.func10 rfl rfl rfl ?_
  refine AWP_seq ?_
  refine AWP_region ?_
  -- op 0.0 assign t2
  refine st td_ok rfl rfl rfl rfl (r := .sl _ _ _) rfl trivial ?_
  -- op 0.1 assign t3
  refine st td_ok rfl rfl rfl rfl (r := .v _) rfl trivial ?_
  -- op 0.2 assign t4
  refine st td_ok rfl rfl rfl rfl (r := .v _) rfl trivial ?_
  refine AOps_nil ?_
  refine qn ?_
  refine AWP_scope ?_
  refine AWP_seq ?_
  refine AWP_seq ?_
  refine AWP_region ?_
  -- op 1.0 move t10
  refine st td_ok rfl rfl rfl rfl (r := .v _) rfl trivial ?_
  -- op 1.1 call t11
  refine st td_ok rfl rfl rfl rfl (r := .v _) rfl trivial ?_
  -- op 1.2 binOp t12
  refine st td_ok rfl rfl rfl rfl (r := .v _) rfl trivial ?_
  refine AOps_nil ?_
  refine qn ?_
  refine AWP_cond rfl rfl (fun h0 => ?_) (fun h0 => ?_)
  ·
    refine AWP_seq ?_
    refine AWP_region ?_
    -- op 2.0 assign t2
    refine st td_ok rfl rfl rfl rfl (r := .sl _ _ _) rfl trivial ?_
    -- op 2.1 assign t3
    refine st td_ok rfl rfl rfl rfl (r := .v _) rfl trivial ?_
    -- op 2.2 assign t4
    refine st td_ok rfl rfl rfl rfl (r := .v _) rfl trivial ?_
    refine AOps_nil ?_
    refine qn ?_
    refine AWP_ret ?_
    refine qr ?_
    refine qsr ?_
    -- ret 0
    refine ⟨_, _, _, _, rfl, trivial, GS.forget _ _, ?_⟩
    first | show AV.v _ = _ | show AV.tup _ = _ | show AV.sl _ _ _ = _ | show AV.agg _ = _ | skip
    show splitA s (AV.tup [_, _, _])
    have : splitP s = .err 0 9 := by unfold splitP; rw [if_pos (by simp only [decide_eq_true_eq] at h0; omega)]
    unfold splitA; rw [this]; rfl
  ·
    have hs : s.size ≤ 16384 := by simp only [decide_eq_false_iff_not] at h0; omega
    refine AWP_skip ?_
    refine qn ?_
    refine AWP_seq ?_
    refine AWP_region ?_
    -- op 3.0 assign t5
    refine st td_ok rfl rfl rfl rfl (r := .sl _ _ _) rfl trivial ?_
    refine AOps_nil ?_
    refine qn ?_
    refine AWP_seq ?_
    refine AWP_region ?_
    -- op 4.0 assign t6
    refine st td_ok rfl rfl rfl rfl (r := .v _) rfl trivial ?_
    refine AOps_nil ?_
    refine qn ?_
    refine AWP_seq ?_
    refine AWP_label ?_
    refine qn ?_
    refine AWP_seq ?_
    refine AWP_block ?_
    -- loop: live [0, 5, 6]
    refine AWP_for (fun (x : Nat × List Tok × AV) => [(0, .v (.string s)), (5, x.2.2), (6, .v (.int .i64 x.1))]) (fun x X => x.1 ≤ s.size ∧ Own X 31 3 x.2.2 x.2.1.length (toks x.2.1) ∧ x.2.1.length ≤ x.1 ∧ ∃ f, s.size - x.1 < f ∧ lex s f x.1 x.2.1 = splitP s) (fun x => s.size - x.1) (0, [], .sl true 0 []) ⟨by (repeat' (first | exact rfl | exact trivial | apply And.intro)), ⟨by omega, Own.nil _ _ _, Nat.le_refl _, s.size + 1, by omega, by unfold splitP; rw [if_neg (by omega)]⟩⟩ ?_
    rintro ⟨i, acc, a⟩ X ⟨hi, hown, hal, f, hf, hlex⟩
    try dsimp only at *
    refine AWP_seq ?_
    refine AWP_seq ?_
    refine AWP_region ?_
    -- op 5.0 move t13
    refine st td_ok rfl rfl rfl rfl (r := .v _) rfl trivial ?_
    -- op 5.1 move t14
    refine st td_ok rfl rfl rfl rfl (r := .v _) rfl trivial ?_
    -- op 5.2 call t15
    refine st td_ok rfl rfl rfl rfl (r := .v _) rfl trivial ?_
    -- op 5.3 binOp t16
    refine st td_ok rfl rfl rfl rfl (r := .v _) rfl trivial ?_
    refine AOps_nil ?_
    refine qn ?_
    refine AWP_cond rfl rfl (fun h1 => ?_) (fun h1 => ?_)
    ·
      refine AWP_skip ?_
      refine qn ?_
      refine AWP_block ?_
      refine AWP_seq ?_
      refine AWP_seq ?_
      refine AWP_region ?_
      -- op 6.0 move t17
      refine st td_ok rfl rfl rfl rfl (r := .v _) rfl trivial ?_
      -- op 6.1 move t18
      refine st td_ok rfl rfl rfl rfl (r := .v _) rfl trivial ?_
      -- op 6.2 index t19
      (refine st td_ok rfl rfl rfl rfl (r := .v _) rfl ?_ ?_; · ((repeat' with_reducible apply And.intro) <;> (first | omega | (simp only [cond_true, cond_false, nd, Option.getD_none, Option.getD_some, Int.toNat_natCast, strs_len, nums_len, List.length_append, tds2, tds3, tds4, tds5, tds9, tds12, tds21, tds23, tds24, tds27, tds30, tds31, tds32, tds34, tds51, tds55, decide_eq_true_eq, Bool.and_eq_true, Bool.not_eq_true', decide_eq_false_iff_not] at *; omega))))
      -- op 6.3 assign t7
      refine st td_ok rfl rfl rfl rfl (r := .v _) rfl trivial ?_
      refine AOps_nil ?_
      refine qn ?_
      refine AWP_block ?_
      refine AWP_seq ?_
      refine AWP_region ?_
      -- op 7.0 move t21
      refine st td_ok rfl rfl rfl rfl (r := .v _) rfl trivial ?_
      -- op 7.1 binOp t22
      refine st td_ok rfl rfl rfl rfl (r := .v _) rfl trivial ?_
      -- op 7.2 move t23
      refine st td_ok rfl rfl rfl rfl (r := .v _) rfl trivial ?_
      -- op 7.3 move t24 g['2', 'false']
      (refine sgk0 td_ok rfl rfl rfl rfl rfl rfl (r := .v _) rfl ?_ ?_; · exact fun hg => ⟨by (repeat' (first | exact trivial | exact hg | exact (Bool.and_eq_true_iff.mp hg).1 | apply And.intro)), by exact trivial⟩)
      -- op 7.4 binOp t25 g['2', 'false']
      (refine sgk0 td_ok rfl rfl rfl rfl rfl rfl (r := .v _) rfl ?_ ?_; · exact fun hg => ⟨by (repeat' (first | exact trivial | exact hg | exact (Bool.and_eq_true_iff.mp hg).1 | apply And.intro)), by exact trivial⟩)
      -- op 7.5 pick t26
      (refine st td_ok rfl rfl rfl rfl (r := .v _) rfl ?_ ?_; · first | (simp_all; done) | ((repeat' with_reducible apply And.intro) <;> with_reducible exact trivial))
      -- op 7.6 move t27
      refine st td_ok rfl rfl rfl rfl (r := .v _) rfl trivial ?_
      -- op 7.7 move t28 g['6', 'false']
      (refine sgk0 td_ok rfl rfl rfl rfl rfl rfl (r := .v _) rfl ?_ ?_; · exact fun hg => ⟨by (repeat' (first | exact trivial | exact hg | exact (Bool.and_eq_true_iff.mp hg).1 | apply And.intro)), by exact trivial⟩)
      -- op 7.8 binOp t29 g['6', 'false']
      (refine sgk0 td_ok rfl rfl rfl rfl rfl rfl (r := .v _) rfl ?_ ?_; · exact fun hg => ⟨by (repeat' (first | exact trivial | exact hg | exact (Bool.and_eq_true_iff.mp hg).1 | apply And.intro)), by exact trivial⟩)
      -- op 7.9 pick t30
      (refine st td_ok rfl rfl rfl rfl (r := .v _) rfl ?_ ?_; · first | (simp_all; done) | ((repeat' with_reducible apply And.intro) <;> with_reducible exact trivial))
      -- op 7.10 move t31
      refine st td_ok rfl rfl rfl rfl (r := .v _) rfl trivial ?_
      -- op 7.11 move t32 g['10', 'false']
      (refine sgk0 td_ok rfl rfl rfl rfl rfl rfl (r := .v _) rfl ?_ ?_; · exact fun hg => ⟨by (repeat' (first | exact trivial | exact hg | exact (Bool.and_eq_true_iff.mp hg).1 | apply And.intro)), by exact trivial⟩)
      -- op 7.12 binOp t33 g['10', 'false']
      (refine sgk0 td_ok rfl rfl rfl rfl rfl rfl (r := .v _) rfl ?_ ?_; · exact fun hg => ⟨by (repeat' (first | exact trivial | exact hg | exact (Bool.and_eq_true_iff.mp hg).1 | apply And.intro)), by exact trivial⟩)
      -- op 7.13 pick t34
      (refine st td_ok rfl rfl rfl rfl (r := .v _) rfl ?_ ?_; · first | (simp_all; done) | ((repeat' with_reducible apply And.intro) <;> with_reducible exact trivial))
      -- op 7.14 assign t20
      refine st td_ok rfl rfl rfl rfl (r := .v _) rfl trivial ?_
      refine AOps_nil ?_
      refine qn ?_
      refine AWP_cond rfl rfl (fun h2 => ?_) (fun h2 => ?_)
      ·
        refine AWP_seq ?_
        refine AWP_region ?_
        -- op 8.0 move t35
        refine st td_ok rfl rfl rfl rfl (r := .v _) rfl trivial ?_
        -- op 8.1 binOp t36
        refine st_eq td_ok rfl rfl rfl rfl (r := .v _) rfl trivial (w64 (by omega)) ?_
        -- op 8.2 assign t6
        refine st td_ok rfl rfl rfl rfl (r := .v _) rfl trivial ?_
        refine AOps_nil ?_
        refine qn ?_
        refine AWP_exit ?_
        refine qbm rfl ?_
        refine qx ?_
        refine qbh ?_
        -- back 0 (loop 5)
        refine qn ?_
        obtain ⟨f, rfl⟩ : ∃ g, f = g + 1 := ⟨f - 1, by omega⟩
        have hlt : i < s.size := by simp only [decide_eq_true_eq] at h1; omega
        exact ⟨(i + 1, acc, a), by dsimp only; omega, by (repeat' (first | exact rfl | exact trivial | apply And.intro)), by dsimp only; omega, hown, by dsimp only; omega, f, by dsimp only; omega, by rw [← hlex, lex_blank hlt h2]⟩
      ·
        refine AWP_seq ?_
        refine AWP_region ?_
        -- op 9.0 move t38
        refine st td_ok rfl rfl rfl rfl (r := .v _) rfl trivial ?_
        -- op 9.1 binOp t39
        refine st td_ok rfl rfl rfl rfl (r := .v _) rfl trivial ?_
        -- op 9.2 assign t37
        refine st td_ok rfl rfl rfl rfl (r := .v _) rfl trivial ?_
        refine AOps_nil ?_
        refine qn ?_
        refine AWP_cond rfl rfl (fun h3 => ?_) (fun h3 => ?_)
        ·
          refine AWP_seq ?_
          refine AWP_block ?_
          -- loop: live [0, 5, 6]
          refine AWP_for (fun (j : Nat) => [(0, .v (.string s)), (5, a), (6, .v (.int .i64 j))]) (fun j Y => Y = X ∧ i ≤ j ∧ j ≤ s.size ∧ lineE s j = lineE s i) (fun j => s.size - j) i ⟨by (repeat' (first | exact rfl | exact trivial | apply And.intro)), ⟨rfl, Nat.le_refl _, hi, rfl⟩⟩ ?_
          rintro j Y ⟨rfl, hj1, hj2, hj3⟩
          refine AWP_seq ?_
          refine AWP_seq ?_
          refine AWP_region ?_
          -- op 10.0 move t40
          refine st td_ok rfl rfl rfl rfl (r := .v _) rfl trivial ?_
          -- op 10.1 move t41
          refine st td_ok rfl rfl rfl rfl (r := .v _) rfl trivial ?_
          -- op 10.2 call t42
          refine st td_ok rfl rfl rfl rfl (r := .v _) rfl trivial ?_
          -- op 10.3 binOp t43
          refine st td_ok rfl rfl rfl rfl (r := .v _) rfl trivial ?_
          refine AOps_nil ?_
          refine qn ?_
          refine AWP_cond rfl rfl (fun h4 => ?_) (fun h4 => ?_)
          ·
            refine AWP_skip ?_
            refine qn ?_
            refine AWP_seq ?_
            refine AWP_block ?_
            refine AWP_seq ?_
            refine AWP_region ?_
            -- op 12.0 move t46
            refine st td_ok rfl rfl rfl rfl (r := .v _) rfl trivial ?_
            -- op 12.1 move t47
            refine st td_ok rfl rfl rfl rfl (r := .v _) rfl trivial ?_
            -- op 12.2 index t48
            (refine st td_ok rfl rfl rfl rfl (r := .v _) rfl ?_ ?_; · ((repeat' with_reducible apply And.intro) <;> (first | omega | (simp only [cond_true, cond_false, nd, Option.getD_none, Option.getD_some, Int.toNat_natCast, strs_len, nums_len, List.length_append, tds2, tds3, tds4, tds5, tds9, tds12, tds21, tds23, tds24, tds27, tds30, tds31, tds32, tds34, tds51, tds55, decide_eq_true_eq, Bool.and_eq_true, Bool.not_eq_true', decide_eq_false_iff_not] at *; omega))))
            -- op 12.3 binOp t49
            refine st td_ok rfl rfl rfl rfl (r := .v _) rfl trivial ?_
            refine AOps_nil ?_
            refine qn ?_
            refine AWP_cond rfl rfl (fun h5 => ?_) (fun h5 => ?_)
            ·
              refine AWP_exit ?_
              refine qbm rfl ?_
              refine qx ?_
              refine qx ?_
              refine qbm rfl ?_
              refine qx ?_
              refine qbm rfl ?_
              refine qx ?_
              refine qbh ?_
              -- back 1 (loop 5)
              refine qn ?_
              obtain ⟨f, rfl⟩ : ∃ g, f = g + 1 := ⟨f - 1, by omega⟩
              have hlt : i < s.size := by simp only [decide_eq_true_eq] at h1; omega
              have hji : j ≠ i := by rintro rfl; rw [beq_iff_eq] at h3 h5; omega
              have hl : lineE s i = j := by rw [← hj3]; exact line_stop (Or.inr h5)
              exact ⟨(j, acc, a), by dsimp only; omega, by (repeat' (first | exact rfl | exact trivial | apply And.intro)), by dsimp only; omega, hown, by dsimp only; omega, f, by dsimp only; omega, by rw [← hlex, lex_line hlt h2 h3, hl]⟩
            ·
              refine AWP_skip ?_
              refine qbn ?_
              refine qn ?_
              refine AWP_region ?_
              -- op 11.0 move t44
              refine st td_ok rfl rfl rfl rfl (r := .v _) rfl trivial ?_
              -- op 11.1 binOp t45
              refine st_eq td_ok rfl rfl rfl rfl (r := .v _) rfl trivial (w64 (by omega)) ?_
              -- op 11.2 assign t6
              refine st td_ok rfl rfl rfl rfl (r := .v _) rfl trivial ?_
              refine AOps_nil ?_
              -- back 2 (loop 10)
              refine qn ?_
              have hlt : j < s.size := by simp only [decide_eq_true_eq] at h4; omega
              exact ⟨j + 1, by omega, by (repeat' (first | exact rfl | exact trivial | apply And.intro)), rfl, by omega, by omega, by rw [← hj3]; exact (line_go hlt h5).symm⟩
          ·
            refine AWP_exit ?_
            refine qx ?_
            refine qx ?_
            refine qbh ?_
            refine qn ?_
            refine AWP_exit ?_
            refine qbm rfl ?_
            refine qx ?_
            refine qbm rfl ?_
            refine qx ?_
            refine qbh ?_
            refine qn ?_
            refine AWP_seq ?_
            refine AWP_region ?_
            -- op 18.0 move t69
            refine st td_ok rfl rfl rfl rfl (r := _) rfl trivial ?_
            -- op 18.1 move t70
            refine st td_ok rfl rfl rfl rfl (r := .v _) rfl trivial ?_
            -- op 18.2 call t71
            refine st td_ok rfl rfl rfl rfl (r := .v _) rfl trivial ?_
            -- op 18.3 build t72
            (refine st td_ok rfl rfl rfl rfl (r := .agg [.v _, .v _, .v _]) rfl ?_ ?_; · ((repeat' with_reducible apply And.intro) <;> (first | with_reducible exact trivial | exact rfl | exact Nat.le_of_ble_eq_true rfl)))
            -- op 18.4 buildSlice t73
            refine st_lit td_ok rfl rfl rfl rfl rfl rfl rfl rfl rfl (by decide) (cs := [.v _, .v _, .v _]) rfl (by ((repeat' with_reducible apply And.intro) <;> (first | with_reducible exact trivial | exact rfl))) ?_
            -- op 18.5 call t74
            refine st_append td_ok rfl rfl rfl rfl rfl rfl rfl rfl rfl rfl (.inl ⟨_, rfl⟩) (by decide) hown rfl rfl rfl (by show (acc.length + 1) * 32 ≤ _; omega) fun a74 X74 ho74 hr74 ha74 => ?_
            -- op 18.6 assign t2
            refine st td_ok rfl rfl rfl rfl (r := _) rfl trivial ?_
            -- op 18.7 assign t3
            refine st td_ok rfl rfl rfl rfl (r := .v _) rfl trivial ?_
            -- op 18.8 assign t4
            refine st td_ok rfl rfl rfl rfl (r := .v _) rfl trivial ?_
            refine AOps_nil ?_
            refine qn ?_
            refine AWP_ret ?_
            refine qsr ?_
            -- ret 1
            obtain ⟨tt, hgs⟩ := GS.own ho74 [] [.v (.int .i64 0), .v (.int .i64 0)]
            refine ⟨_, _, _, _, rfl, trivial, (GS.tup hgs), ?_⟩
            first | show AV.v _ = _ | show AV.tup _ = _ | show AV.sl _ _ _ = _ | show AV.agg _ = _ | skip
            obtain ⟨f, rfl⟩ : ∃ g, f = g + 1 := ⟨f - 1, by omega⟩
            have hlt : i < s.size := by simp only [decide_eq_true_eq] at h1; omega
            have hj : j = s.size := by simp only [decide_eq_false_iff_not] at h4; omega
            refine split_end (tt := tt) ?_
            rw [← hlex, lex_line hlt h2 h3, ← hj3, line_stop (Or.inl (by omega)), lex_end (by omega)]
        ·
          refine AWP_skip ?_
          refine qbn ?_
          refine qn ?_
          refine AWP_seq ?_
          refine AWP_region ?_
          -- op 13.0 move t51
          refine st td_ok rfl rfl rfl rfl (r := .v _) rfl trivial ?_
          -- op 13.1 move t52
          refine st td_ok rfl rfl rfl rfl (r := .v _) rfl trivial ?_
          -- op 13.2 call t53
          refine st_pcall rfl rfl rfl rfl rfl rfl rfl ⟨_, rfl, rfl, rfl⟩ (next_c s i (by simp only [decide_eq_true_eq] at h1; omega) (by omega)) ?_
          -- op 13.3 move t50
          refine st td_ok rfl rfl rfl rfl (r := .tup _) rfl trivial ?_
          -- op 13.4 extract t54
          refine st td_ok rfl rfl rfl rfl (r := .agg _) rfl trivial ?_
          -- op 13.5 extract t55
          refine st td_ok rfl rfl rfl rfl (r := .v _) rfl trivial ?_
          -- op 13.6 alloc t8
          refine st_alloc td_ok rfl rfl rfl rfl rfl rfl (zs := [.v _, .v _, .v _]) rfl fun r8 hr8 => ?_
          -- op 13.7 store tNone
          refine st_store td_ok rfl rfl rfl rfl rfl rfl XH.put_same rfl (by ((repeat' with_reducible apply And.intro) <;> exact rfl)) (Nat.le_of_ble_eq_true rfl) (cs' := [.v _, .v _, .v _]) (T' := 31) rfl rfl ?_
          -- op 13.8 assign t9
          refine st td_ok rfl rfl rfl rfl (r := .v _) rfl trivial ?_
          refine AOps_nil ?_
          refine qn ?_
          refine AWP_seq ?_
          refine AWP_seq ?_
          refine AWP_region ?_
          -- op 14.0 move t56
          refine st td_ok rfl rfl rfl rfl (r := .v _) rfl trivial ?_
          -- op 14.1 binOp t57
          refine st td_ok rfl rfl rfl rfl (r := .v _) rfl trivial ?_
          refine AOps_nil ?_
          refine qn ?_
          refine AWP_cond rfl rfl (fun h6 => ?_) (fun h6 => ?_)
          ·
            refine AWP_seq ?_
            refine AWP_region ?_
            -- op 15.0 move t58
            refine st td_ok rfl rfl rfl rfl (r := .v _) rfl trivial ?_
            -- op 15.1 move t59
            refine st td_ok rfl rfl rfl rfl (r := .v _) rfl trivial ?_
            -- op 15.2 assign t2
            refine st td_ok rfl rfl rfl rfl (r := .sl _ _ _) rfl trivial ?_
            -- op 15.3 assign t3
            refine st td_ok rfl rfl rfl rfl (r := .v _) rfl trivial ?_
            -- op 15.4 assign t4
            refine st td_ok rfl rfl rfl rfl (r := .v _) rfl trivial ?_
            refine AOps_nil ?_
            refine qn ?_
            refine AWP_ret ?_
            refine qr ?_
            refine qbr ?_
            refine qr ?_
            refine qbr ?_
            refine qr ?_
            refine qsr ?_
            -- ret 2
            refine ⟨_, _, _, _, rfl, trivial, GS.forget _ _, ?_⟩
            first | show AV.v _ = _ | show AV.tup _ = _ | show AV.sl _ _ _ = _ | show AV.agg _ = _ | skip
            show splitA s (AV.tup [_, _, _])
            obtain ⟨f, rfl⟩ : ∃ g, f = g + 1 := ⟨f - 1, by omega⟩
            have hlt : i < s.size := by simp only [decide_eq_true_eq] at h1; omega
            have : splitP s = .err i (nextP s i).2.2 := by
              rw [← hlex, lex_tok hlt h2 h3, if_neg (by simpa [bne] using h6)]
            unfold splitA; rw [this]; rfl
          ·
            refine AWP_skip ?_
            refine qn ?_
            refine AWP_seq ?_
            have hn8 := Own.nat hown hr8
            have hown2 := Own.put (o := ⟨31, (nextTok s i).cells⟩) (Own.put (o := ⟨31, [.v (.int .i64 0), .v (.string ⟨#[]⟩), .v (.int .i64 0)]⟩) hown hn8) hn8
            refine AWP_region ?_
            -- op 16.0 move t60
            refine st td_ok rfl rfl rfl rfl (r := _) rfl trivial ?_
            -- op 16.1 load t61
            refine st_own (r := .agg [.v _, .v _, .v _]) td_ok rfl rfl rfl rfl rfl rfl rfl XH.put_same (Nat.le_of_ble_eq_true rfl) rfl  ?_
            -- op 16.2 buildSlice t62
            refine st_lit td_ok rfl rfl rfl rfl rfl rfl rfl rfl rfl (by decide) (cs := [.v _, .v _, .v _]) rfl (by ((repeat' with_reducible apply And.intro) <;> (first | with_reducible exact trivial | exact rfl))) ?_
            -- op 16.3 call t63
            refine st_append td_ok rfl rfl rfl rfl rfl rfl rfl rfl rfl rfl (.inl ⟨_, rfl⟩) (by decide) hown2 rfl rfl rfl (by show (acc.length + 1) * 32 ≤ _; omega) fun a63 X63 ho63 hr63 ha63 => ?_
            -- op 16.4 assign t5
            refine st td_ok rfl rfl rfl rfl (r := _) rfl trivial ?_
            refine AOps_nil ?_
            refine qn ?_
            have he0 : (nextP s i).2.2 = 0 := by simpa [bne] using h6
            have hsz := next_size (by simp only [decide_eq_true_eq] at h1; omega) he0
            refine AWP_region ?_
            -- op 17.0 move t64
            refine st td_ok rfl rfl rfl rfl (r := .v _) rfl trivial ?_
            -- op 17.1 fieldAddr t65
            refine st td_ok rfl rfl rfl rfl (r := .v _) rfl trivial ?_
            -- op 17.2 load t66
            refine st_own (r := .v _) td_ok rfl rfl rfl rfl rfl rfl rfl (hr63 r8 _ XH.put_same hn8) (Nat.le_of_ble_eq_true rfl) rfl  ?_
            -- op 17.3 call t67
            refine st td_ok rfl rfl rfl rfl (r := .v _) rfl trivial ?_
            -- op 17.4 binOp t68
            refine st_eq td_ok rfl rfl rfl rfl (r := .v _) rfl trivial (w64 (by omega)) ?_
            -- op 17.5 assign t6
            refine st td_ok rfl rfl rfl rfl (r := .v _) rfl trivial ?_
            refine AOps_nil ?_
            refine qbn ?_
            -- back 3 (loop 5)
            refine qn ?_
            obtain ⟨f, rfl⟩ : ∃ g, f = g + 1 := ⟨f - 1, by omega⟩
            have hlt : i < s.size := by simp only [decide_eq_true_eq] at h1; omega
            refine ⟨(i + (nextP s i).2.1.size, acc ++ [nextTok s i], a63), by dsimp only; omega, by (repeat' (first | exact rfl | exact trivial | apply And.intro)), by dsimp only; omega, ?_, by dsimp only; rw [List.length_append]; simp only [List.length_cons, List.length_nil]; omega, f, by dsimp only; omega, by rw [← hlex, lex_tok hlt h2 h3, if_pos he0]⟩
            dsimp only
            rw [← toks_app, List.length_append]
            exact ho63
    ·
      refine AWP_exit ?_
      refine qx ?_
      refine qx ?_
      refine qbh ?_
      refine qn ?_
      refine AWP_seq ?_
      refine AWP_region ?_
      -- op 18.0 move t69
      refine st td_ok rfl rfl rfl rfl (r := _) rfl trivial ?_
      -- op 18.1 move t70
      refine st td_ok rfl rfl rfl rfl (r := .v _) rfl trivial ?_
      -- op 18.2 call t71
      refine st td_ok rfl rfl rfl rfl (r := .v _) rfl trivial ?_
      -- op 18.3 build t72
      (refine st td_ok rfl rfl rfl rfl (r := .agg [.v _, .v _, .v _]) rfl ?_ ?_; · ((repeat' with_reducible apply And.intro) <;> (first | with_reducible exact trivial | exact rfl | exact Nat.le_of_ble_eq_true rfl)))
      -- op 18.4 buildSlice t73
      refine st_lit td_ok rfl rfl rfl rfl rfl rfl rfl rfl rfl (by decide) (cs := [.v _, .v _, .v _]) rfl (by ((repeat' with_reducible apply And.intro) <;> (first | with_reducible exact trivial | exact rfl))) ?_
      -- op 18.5 call t74
      refine st_append td_ok rfl rfl rfl rfl rfl rfl rfl rfl rfl rfl (.inl ⟨_, rfl⟩) (by decide) hown rfl rfl rfl (by show (acc.length + 1) * 32 ≤ _; omega) fun a74 X74 ho74 hr74 ha74 => ?_
      -- op 18.6 assign t2
      refine st td_ok rfl rfl rfl rfl (r := _) rfl trivial ?_
      -- op 18.7 assign t3
      refine st td_ok rfl rfl rfl rfl (r := .v _) rfl trivial ?_
      -- op 18.8 assign t4
      refine st td_ok rfl rfl rfl rfl (r := .v _) rfl trivial ?_
      refine AOps_nil ?_
      refine qn ?_
      refine AWP_ret ?_
      refine qsr ?_
      -- ret 3
      obtain ⟨tt, hgs⟩ := GS.own ho74 [] [.v (.int .i64 0), .v (.int .i64 0)]
      refine ⟨_, _, _, _, rfl, trivial, (GS.tup hgs), ?_⟩
      first | show AV.v _ = _ | show AV.tup _ = _ | show AV.sl _ _ _ = _ | show AV.agg _ = _ | skip
      refine split_end (tt := tt) ?_
      rw [← hlex, lex_end (by simp only [decide_eq_false_iff_not] at h1; omega)]
end Go.Proofs.Ytoiolofgcgkgiaa.V
