import Derived.Test.YtoiolofgcgkgiaaT10
namespace Go.Proofs.Ytoiolofgcgkgiaa.V
open Go
set_option linter.unusedSimpArgs false
set_option linter.unusedVariables false

/-- The bytes as a list. -/
def bl (s : ByteArray) : List UInt8 := s.data.toList
theorem bl_len (s : ByteArray) : (bl s).length = s.size := rfl
theorem bl_ext {a b : ByteArray} (h : bl a = bl b) : a = b := by
  obtain ⟨⟨a⟩⟩ := a; obtain ⟨⟨b⟩⟩ := b
  have : a = b := h
  rw [this]
theorem bl_app (a b : ByteArray) : bl (a ++ b) = bl a ++ bl b := by unfold bl; rw [ByteArray.data_append, Array.toList_append]
theorem bl_extract (s : ByteArray) (i j : Nat) : bl (s.extract i j) = ((bl s).drop i).take (j - i) := by
  unfold bl; rw [ByteArray.data_extract, Array.toList_extract]
theorem bt_bl (s : ByteArray) (i : Nat) : bt s i = (((bl s).drop i).headD 0).toNat := by
  unfold bt bl
  rw [Int.toNat_natCast, List.getD_eq_getElem?_getD, List.headD_eq_head?_getD, List.head?_drop]
theorem drop_cut {s : ByteArray} {p : Nat} {a r : List UInt8} (hp : p ≤ s.size) (h : (bl s).drop p = a ++ r) : p + a.length ≤ s.size ∧ bl (s.extract p (p + a.length)) = a ∧ (bl s).drop (p + a.length) = r := by
  have hl := congrArg List.length h
  rw [List.length_drop, List.length_append, bl_len] at hl
  refine ⟨by omega, ?_, ?_⟩
  · rw [bl_extract, h, show p + a.length - p = a.length by omega, List.take_left]
  · rw [← List.drop_drop, h, List.drop_left]
/-- With enough fuel the fuel does not matter. -/
theorem lex_fuel (s : ByteArray) : ∀ (n p f f' : Nat) (acc : List Tok), s.size - p < n → s.size - p < f → s.size - p < f' → lex s f p acc = lex s f' p acc
  | 0, p, f, f', acc, hn, hf, hf' => by omega
  | n + 1, p, f, f', acc, hn, hf, hf' => by
    obtain ⟨f, rfl⟩ : ∃ g, f = g + 1 := ⟨f - 1, by omega⟩
    obtain ⟨f', rfl⟩ : ∃ g, f' = g + 1 := ⟨f' - 1, by omega⟩
    simp only [lex]
    by_cases hs : s.size ≤ p
    · rw [if_pos hs, if_pos hs]
    · rw [if_neg hs, if_neg hs]
      by_cases hb : blank (bt s p) = true
      · rw [if_pos hb, if_pos hb]
        exact lex_fuel s n (p + 1) f f' acc (by omega) (by omega) (by omega)
      · rw [if_neg hb, if_neg hb]
        by_cases hc : bt s p = 35
        · rw [if_pos hc, if_pos hc]
          have hr := lineE_range (s := s) (i := p) (by omega)
          have hlp : p < lineE s p := by
            have h1 : lineE s p = lineE s (p + 1) := line_go (by omega) (by rw [hc]; decide)
            have := lineE_range (s := s) (i := p + 1) (by omega)
            omega
          exact lex_fuel s n _ f f' acc (by omega) (by omega) (by omega)
        · rw [if_neg hc, if_neg hc]
          by_cases he : (nextP s p).2.2 = 0
          · rw [if_pos he, if_pos he]
            have := next_size (by omega) he
            exact lex_fuel s n _ f f' _ (by omega) (by omega) (by omega)
          · rw [if_neg he, if_neg he]
def lexs (s : ByteArray) (p : Nat) (acc : List Tok) : LR := lex s (s.size - p + 1) p acc
theorem lexs_blank {s : ByteArray} {p : Nat} {acc : List Tok} (h : p < s.size) (hb : blank (bt s p) = true) : lexs s p acc = lexs s (p + 1) acc := by
  show lex s (s.size - p + 1) p acc = _
  simp only [lex]
  rw [if_neg (by omega), if_pos hb]
  exact lex_fuel s (s.size + 1) (p + 1) (s.size - p) (s.size - (p + 1) + 1) acc (by omega) (by omega) (by omega)
theorem lexs_line {s : ByteArray} {p : Nat} {acc : List Tok} (h : p < s.size) (hc : bt s p = 35) : lexs s p acc = lexs s (lineE s p) acc := by
  have h1 : lineE s p = lineE s (p + 1) := line_go h (by rw [hc]; decide)
  have hr := lineE_range (s := s) (i := p + 1) (by omega)
  show lex s (s.size - p + 1) p acc = _
  simp only [lex]
  rw [if_neg (by omega), if_neg (by rw [hc]; decide), if_pos hc]
  exact lex_fuel s (s.size + 1) (lineE s p) (s.size - p) (s.size - lineE s p + 1) acc (by omega) (by omega) (by omega)
theorem lexs_tok {s : ByteArray} {p : Nat} {acc : List Tok} {k : Int} {t : ByteArray} (h : p < s.size) (hb : blank (bt s p) = false) (hc : bt s p ≠ 35) (hn : nextP s p = (k, t, 0)) : lexs s p acc = lexs s (p + t.size) (acc ++ [⟨k, t, p⟩]) := by
  have h1 := next_size h (by rw [hn])
  rw [hn] at h1
  simp only [] at h1
  show lex s (s.size - p + 1) p acc = _
  simp only [lex]
  rw [if_neg (by omega), if_neg (by rw [hb]; simp), if_neg hc, hn]
  simp only [if_true]
  exact lex_fuel s (s.size + 1) (p + t.size) (s.size - p) (s.size - (p + t.size) + 1) _ (by omega) (by omega) (by omega)
theorem lexs_end {s : ByteArray} {p : Nat} {acc : List Tok} (h : s.size ≤ p) : lexs s p acc = .ok (acc ++ [⟨6, ⟨#[]⟩, s.size⟩]) := lex_end h
/-- A token as the lexer makes it. -/
def okTok (t : Tok) : Prop := ∃ (s : ByteArray) (i : Nat), i < s.size ∧ nextP s i = (t.kind, t.text, 0) ∧ blank (bt s i) = false ∧ bt s i ≠ 35
theorem lex_toks (s : ByteArray) : ∀ (f i : Nat) (acc l : List Tok), (∀ t, t ∈ acc → okTok t) → lex s f i acc = .ok l → ∃ m, l = m ++ [⟨6, ⟨#[]⟩, s.size⟩] ∧ ∀ t, t ∈ m → okTok t
  | 0, i, acc, l, hg, h => by simp only [lex, LR.ok.injEq] at h; exact ⟨acc, h.symm, hg⟩
  | f + 1, i, acc, l, hg, h => by
    simp only [lex] at h
    split at h
    · simp only [LR.ok.injEq] at h; exact ⟨acc, h.symm, hg⟩
    · rename_i hlt
      split at h
      · exact lex_toks s f _ acc l hg h
      · rename_i hb
        split at h
        · exact lex_toks s f _ acc l hg h
        · rename_i hc
          split at h
          · rename_i he
            refine lex_toks s f _ _ l ?_ h
            intro t ht
            rw [List.mem_append] at ht
            rcases ht with ht | ht
            · exact hg t ht
            · rw [List.mem_singleton] at ht
              subst ht
              exact ⟨s, i, by omega, by rw [← he], by simpa using hb, hc⟩
          · exact absurd h (by simp)
theorem split_toks {s : ByteArray} {l : List Tok} (h : splitP s = .ok l) : ∃ m, l = m ++ [⟨6, ⟨#[]⟩, s.size⟩] ∧ ∀ t, t ∈ m → okTok t := by
  unfold splitP at h
  split at h
  · exact absurd h (by simp)
  · exact lex_toks s _ 0 [] l (by simp) h
/-- What may stand between tokens: it is passed over, and its first byte ends a token. -/
def sepOk (sep : List UInt8) : Prop := ∃ c r, sep = c :: r ∧ stopB (c.toNat : Int) ∧ ∀ (x : ByteArray) (p : Nat) (q : List UInt8) (acc : List Tok), p ≤ x.size → (bl x).drop p = sep ++ q → lexs x p acc = lexs x (p + sep.length) acc
def joinL (sep : List UInt8) : List Tok → List UInt8
  | [] => []
  | t :: l => bl t.text ++ (sep ++ joinL sep l)
def shape (l : List Tok) : List (Int × ByteArray) := l.map fun t => (t.kind, t.text)
theorem join_lex {sep : List UInt8} (hs : sepOk sep) (x : ByteArray) : ∀ (l : List Tok) (p : Nat) (acc : List Tok), (∀ t, t ∈ l → okTok t) → p ≤ x.size → (bl x).drop p = joinL sep l ++ sep → ∃ l', lexs x p acc = .ok (acc ++ l' ++ [⟨6, ⟨#[]⟩, x.size⟩]) ∧ shape l' = shape l
  | [], p, acc, hg, hp, h => by
    obtain ⟨c, r, h1, h2, h3⟩ := hs
    simp only [joinL, List.nil_append] at h
    refine ⟨[], ?_, rfl⟩
    have h4 := drop_cut (r := []) hp (by rw [h, List.append_nil])
    rw [h3 x p [] acc hp (by rw [h, List.append_nil])]
    have h5 := congrArg List.length h4.2.2
    rw [List.length_drop, bl_len, List.length_nil] at h5
    rw [lexs_end (by omega), List.append_nil]
  | t :: l, p, acc, hg, hp, h => by
    obtain ⟨c, r, h1, h2, h3⟩ := hs
    simp only [joinL, List.append_assoc] at h
    obtain ⟨s, i, hi, hn, hb, hc⟩ := hg t (by simp)
    have hz := next_size hi (by rw [hn])
    rw [hn] at hz
    simp only [] at hz
    obtain ⟨g1, g2, g3⟩ := drop_cut hp h
    rw [bl_len] at g1 g2 g3
    have ht : x.extract p (p + t.text.size) = t.text := bl_ext g2
    have hb0 : bt x p = bt s i := by
      have e1 := bt_extract (s := x) (i := p) (e := p + t.text.size) (j := 0) (by omega) g1
      have e2 := bt_extract (s := s) (i := i) (e := i + t.text.size) (j := 0) (by omega) hz.2
      have h7 := next_text hi (by rw [hn])
      rw [hn] at h7
      simp only [] at h7
      rw [ht] at e1
      rw [h7] at e2
      have e3 : bt x (p + 0 : Nat) = bt s (i + 0 : Nat) := e1.symm.trans e2
      exact e3
    have hx : bt x (p + t.text.size : Nat) = c.toNat := by rw [bt_bl, g3, h1]; rfl
    have hnx := next_local (s := s) (s' := x) (i := i) (i' := p) hn hi rfl g1 ht (.inr (.inr (by rw [hx]; exact h2)))
    rw [lexs_tok (by omega) (by rw [hb0]; exact hb) (by rw [hb0]; exact hc) hnx]
    rw [h3 x _ _ _ g1 g3]
    obtain ⟨k1, k2, k3⟩ := drop_cut g1 g3
    obtain ⟨l', e1, e2⟩ := join_lex ⟨c, r, h1, h2, h3⟩ x l (p + t.text.size + sep.length) (acc ++ [⟨t.kind, t.text, p⟩]) (fun u hu => hg u (List.mem_cons_of_mem _ hu)) k1 k3
    refine ⟨⟨t.kind, t.text, p⟩ :: l', ?_, ?_⟩
    · rw [e1]; simp
    · simp only [shape, List.map_cons] at e2 ⊢
      rw [e2]
theorem joinL_app (sep : List UInt8) : ∀ (l m : List Tok), joinL sep (l ++ m) = joinL sep l ++ joinL sep m
  | [], m => rfl
  | t :: l, m => by simp only [List.cons_append, joinL, joinL_app sep l m, List.append_assoc]
theorem split_join {sep : List UInt8} (hs : sepOk sep) {l m : List Tok} {e : Nat} (hl : l = m ++ [⟨6, ⟨#[]⟩, e⟩]) (hm : ∀ t, t ∈ m → okTok t) {x : ByteArray} (hx : bl x = joinL sep l) (hsz : x.size ≤ 16384) : ∃ l', splitP x = .ok l' ∧ shape l' = shape l := by
  have h : (bl x).drop 0 = joinL sep m ++ sep := by
    rw [List.drop_zero, hx, hl, joinL_app]
    simp only [joinL, List.append_nil]
    rfl
  obtain ⟨l', e1, e2⟩ := join_lex hs x m 0 [] hm (Nat.zero_le _) h
  refine ⟨l' ++ [⟨6, ⟨#[]⟩, x.size⟩], ?_, ?_⟩
  · unfold splitP
    rw [if_neg (by omega)]
    unfold lexs at e1
    rw [Nat.sub_zero] at e1
    rw [e1]; rfl
  · rw [hl]
    simp only [shape, List.map_append] at e2 ⊢
    rw [e2]; rfl
theorem sep_blank {c : UInt8} (hc : blank (c.toNat : Int) = true) : ∀ (x : ByteArray) (p : Nat) (q : List UInt8) (acc : List Tok), p ≤ x.size → (bl x).drop p = c :: q → lexs x p acc = lexs x (p + 1) acc := by
  intro x p q acc hp h
  have hl := congrArg List.length h
  rw [List.length_drop, bl_len, List.length_cons] at hl
  exact lexs_blank (by omega) (by rw [bt_bl, h]; exact hc)
theorem drop_one {x : ByteArray} {p : Nat} {c : UInt8} {q : List UInt8} (hp : p ≤ x.size) (h : (bl x).drop p = c :: q) : p + 1 ≤ x.size ∧ (bl x).drop (p + 1) = q := by
  have := drop_cut (a := [c]) (r := q) hp h
  exact ⟨this.1, this.2.2⟩
theorem sep_space : sepOk [32] := by
  refine ⟨32, [], rfl, by unfold stopB; decide, fun x p q acc hp h => ?_⟩
  exact sep_blank (c := 32) (by decide) x p q acc hp h
theorem sep_three : sepOk [9, 13, 10] := by
  refine ⟨9, [13, 10], rfl, by unfold stopB; decide, fun x p q acc hp h => ?_⟩
  obtain ⟨h1, h2⟩ := drop_one hp h
  obtain ⟨h3, h4⟩ := drop_one h1 h2
  rw [sep_blank (c := 9) (by decide) x p _ acc hp h, sep_blank (c := 13) (by decide) x _ _ acc h1 h2, sep_blank (c := 10) (by decide) x _ _ acc h3 h4]
  rfl
theorem sep_comment {cm : ByteArray} (hc : ∀ j : Nat, j < cm.size → bt cm j ≠ 10) : sepOk (35 :: (bl cm ++ [10])) := by
  refine ⟨35, bl cm ++ [10], rfl, by unfold stopB; decide, fun x p q acc hp h => ?_⟩
  have h0 : (bl x).drop p = (35 :: bl cm) ++ (10 :: q) := by rw [h]; simp
  obtain ⟨g1, g2, g3⟩ := drop_cut hp h0
  have hlen : (35 :: bl cm).length = cm.size + 1 := by rw [List.length_cons, bl_len]
  rw [hlen] at g1 g2 g3
  obtain ⟨k1, k2⟩ := drop_one g1 g3
  have hx : bt x p = 35 := by rw [bt_bl, h]; rfl
  have hbt : ∀ m, m < cm.size → bt x (p + 1 + m : Nat) = bt cm m := by
    intro m hm
    rw [bt_bl, bt_bl, show p + 1 + m = p + (m + 1) by omega, ← List.drop_drop, h0, List.cons_append, List.drop_succ_cons]
    rw [List.headD_eq_head?_getD, List.headD_eq_head?_getD, List.head?_drop, List.head?_drop, List.getElem?_append_left (by rw [bl_len]; exact hm)]
  have hle : lineE x p = p + (cm.size + 1) := by
    rw [line_go (by omega) (by rw [hx]; decide)]
    unfold lineE
    rw [scan_to cm.size _ (p + 1) (by omega) (by omega) (fun m hm => ?_) ?_]
    · omega
    · refine .inr ?_
      rw [show p + 1 + cm.size = p + (cm.size + 1) by omega, bt_bl, g3]; rfl
    · rw [hbt m hm]
      have := hc m hm
      simpa [bne] using this
  rw [lexs_line (by omega) hx, hle, sep_blank (c := 10) (by decide) x _ _ acc g1 g3]
  congr 1
  simp only [List.length_cons, List.length_append, List.length_nil, bl_len]; omega
end Go.Proofs.Ytoiolofgcgkgiaa.V
