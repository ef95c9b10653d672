import Derived.Test.YtoiolofgcgkgiaaT8
namespace Go.Proofs.Ytoiolofgcgkgiaa.V
open Go
set_option linter.unusedSimpArgs false
set_option linter.unusedVariables false

def endN (l : List Tok) (j : Nat) : Nat := if j = 0 then 0 else (l.getD (j - 1) tok0).pos + (l.getD (j - 1) tok0).text.size
def good (s : ByteArray) (l : List Tok) : Prop := ∀ j, j < l.length → endN l j ≤ (l.getD j tok0).pos ∧ (l.getD j tok0).pos + (l.getD j tok0).text.size ≤ s.size ∧ s.extract (l.getD j tok0).pos ((l.getD j tok0).pos + (l.getD j tok0).text.size) = (l.getD j tok0).text
theorem getD_left {l : List Tok} {t : Tok} {j : Nat} (h : j < l.length) : (l ++ [t]).getD j tok0 = l.getD j tok0 := by
  simp only [List.getD_eq_getElem?_getD]
  rw [List.getElem?_append_left h]
theorem getD_last {l : List Tok} {t : Tok} : (l ++ [t]).getD l.length tok0 = t := by
  simp only [List.getD_eq_getElem?_getD]
  rw [List.getElem?_append_right (Nat.le_refl _)]; simp
theorem endN_left {l : List Tok} {t : Tok} {j : Nat} (h : j ≤ l.length) : endN (l ++ [t]) j = endN l j := by
  unfold endN
  by_cases h0 : j = 0
  · rw [if_pos h0, if_pos h0]
  · rw [if_neg h0, if_neg h0, getD_left (by omega)]
theorem good_app {s : ByteArray} {l : List Tok} {t : Tok} (h : good s l) (h1 : endN l l.length ≤ t.pos) (h2 : t.pos + t.text.size ≤ s.size) (h3 : s.extract t.pos (t.pos + t.text.size) = t.text) : good s (l ++ [t]) := by
  intro j hj
  simp only [List.length_append, List.length_cons, List.length_nil] at hj
  rw [endN_left (by omega)]
  by_cases e : j < l.length
  · rw [getD_left e]; exact h j e
  · have : j = l.length := by omega
    subst this
    rw [getD_last]
    exact ⟨h1, h2, h3⟩
theorem endN_app {l : List Tok} {t : Tok} : endN (l ++ [t]) (l ++ [t]).length = t.pos + t.text.size := by
  unfold endN
  rw [List.length_append, List.length_singleton, if_neg (by omega), Nat.add_sub_cancel, getD_last]
theorem lineE_range {s : ByteArray} {i : Nat} (h : i ≤ s.size) : i ≤ lineE s i ∧ lineE s i ≤ s.size := by
  have := scanE_ge (fun c => c != 10) s (s.size - i) i
  unfold lineE; omega
theorem lex_good (s : ByteArray) : ∀ (f i : Nat) (acc l : List Tok), good s acc → endN acc acc.length ≤ i → i ≤ s.size → lex s f i acc = .ok l → ∃ m, l = m ++ [⟨6, ⟨#[]⟩, s.size⟩] ∧ good s m ∧ endN m m.length ≤ s.size
  | 0, i, acc, l, hg, he, hi, h => by
    simp only [lex, LR.ok.injEq] at h
    exact ⟨acc, h.symm, hg, by omega⟩
  | f + 1, i, acc, l, hg, he, hi, h => by
    simp only [lex] at h
    split at h
    · simp only [LR.ok.injEq] at h
      exact ⟨acc, h.symm, hg, by omega⟩
    · rename_i hlt
      split at h
      · exact lex_good s f (i + 1) acc l hg (by omega) (by omega) h
      · split at h
        · have := lineE_range hi
          exact lex_good s f _ acc l hg (by omega) (by omega) h
        · split at h
          · rename_i he0
            have h1 := next_size (by omega) he0
            have h2 := next_text (by omega) he0
            exact lex_good s f _ _ l (good_app (t := ⟨(nextP s i).1, (nextP s i).2.1, i⟩) hg (by dsimp only; omega) (by dsimp only; omega) h2) (by rw [endN_app]; exact Nat.le_refl _) (by omega) h
          · exact absurd h (by simp)
theorem ext_end (s : ByteArray) : s.extract s.size s.size = ⟨#[]⟩ := by
  have h : (s.extract s.size s.size).size = 0 := by simp
  generalize s.extract s.size s.size = e at h
  obtain ⟨⟨l⟩⟩ := e
  cases l with
  | nil => rfl
  | cons a r => exact absurd h (by simp [ByteArray.size])
theorem split_good {s : ByteArray} {l : List Tok} (h : splitP s = .ok l) : good s l ∧ ∃ m, l = m ++ [⟨6, ⟨#[]⟩, s.size⟩] := by
  unfold splitP at h
  split at h
  · exact absurd h (by simp)
  · obtain ⟨m, rfl, h1, h2⟩ := lex_good s _ 0 [] l (fun j hj => absurd hj (by simp)) (by simp [endN]) (by omega) h
    exact ⟨good_app h1 h2 (Nat.le_refl _) (ext_end s), m, rfl⟩
theorem lex_prefix (s : ByteArray) (i : Nat) (e : Int) : ∀ (f p : Nat) (acc : List Tok), lex s f p acc = .err i e → p ≤ i ∧ i < s.size ∧ e ≠ 0 ∧ ∀ f' acc', ∃ l, lex (s.extract 0 i) f' p acc' = .ok l
  | 0, p, acc, h => by simp only [lex] at h; exact absurd h (by simp)
  | f + 1, p, acc, h => by
    simp only [lex] at h
    split at h
    · exact absurd h (by simp)
    · rename_i hlt
      have hsz : ∀ {i}, i < s.size → (s.extract 0 i).size = i := fun {i} hi => by simp only [ByteArray.size_extract]; omega
      have hbt : ∀ {i q : Nat}, i < s.size → q < i → bt (s.extract 0 i) q = bt s q := fun {i q} hi hq => by
        have := bt_extract (s := s) (i := 0) (e := i) (j := q) (by omega) (by omega)
        rw [this]; simp
      split at h
      · rename_i hb
        obtain ⟨h1, h2, h3, h4⟩ := lex_prefix s i e f (p + 1) acc h
        refine ⟨by omega, h2, h3, fun f' acc' => ?_⟩
        cases f' with
        | zero => exact ⟨_, rfl⟩
        | succ f' =>
          simp only [lex]
          rw [if_neg (by rw [hsz h2]; omega), hbt h2 (by omega), if_pos hb]
          exact h4 f' acc'
      · rename_i hb
        split at h
        · rename_i hc
          obtain ⟨h1, h2, h3, h4⟩ := lex_prefix s i e f _ acc h
          have hr := lineE_range (s := s) (i := p) (by omega)
          obtain ⟨q1, q2, q3, q4⟩ := scan_end (p := fun c => c != 10) (s := s) (s.size - p) p (by omega)
          have hlp : p < lineE s p := by
            rcases Nat.lt_or_ge p (lineE s p) with h5 | h5
            · exact h5
            · exfalso
              have he : scanE (fun c => c != 10) s (s.size - p) p = p := by unfold lineE at hr h5; omega
              rw [he] at q2
              rcases q2 with q2 | q2
              · omega
              · rw [hc] at q2; exact absurd q2 (by decide)
          have hln : lineE (s.extract 0 i) p = lineE s p := by
            obtain ⟨d, hd⟩ : ∃ d, lineE s p = p + d := ⟨lineE s p - p, by omega⟩
            rw [hd]
            unfold lineE at hd ⊢
            rw [hd] at q1 q2
            refine scan_to d _ p (by rw [hsz h2]; omega) (by rw [hsz h2]; unfold lineE at h1; omega) (fun m hm => ?_) ?_
            · rw [hbt h2 (by unfold lineE at h1; omega)]; exact q1 m (by omega)
            · rw [hsz h2]
              rcases Nat.lt_or_ge (p + d) i with h6 | h6
              · rw [hbt h2 h6]
                rcases q2 with q2 | q2
                · omega
                · exact .inr q2
              · exact .inl (by unfold lineE at h1; omega)
          refine ⟨by omega, h2, h3, fun f' acc' => ?_⟩
          cases f' with
          | zero => exact ⟨_, rfl⟩
          | succ f' =>
            simp only [lex]
            rw [if_neg (by rw [hsz h2]; omega), hbt h2 (by omega), if_neg hb, if_pos hc, hln]
            exact h4 f' acc'
        · rename_i hc
          split at h
          · rename_i he0
            obtain ⟨h1, h2, h3, h4⟩ := lex_prefix s i e f _ _ h
            have n1 := next_size (by omega) he0
            have n2 := next_text (by omega) he0
            have hnx : nextP (s.extract 0 i) p = ((nextP s p).1, (nextP s p).2.1, 0) := by
              refine next_local (s := s) (i := p) (n := (nextP s p).2.1.size) (by rw [← he0]) (by omega) rfl (by rw [hsz h2]; omega) ?_ ?_
              · rw [ByteArray.extract_extract, ← n2]
                congr 1
                · omega
                · rw [n2]; omega
              · rw [hsz h2]
                rcases Nat.lt_or_ge (p + (nextP s p).2.1.size) i with h6 | h6
                · exact .inr (.inl ⟨by omega, hbt h2 h6⟩)
                · exact .inl (by omega)
            refine ⟨by omega, h2, h3, fun f' acc' => ?_⟩
            cases f' with
            | zero => exact ⟨_, rfl⟩
            | succ f' =>
              simp only [lex]
              rw [if_neg (by rw [hsz h2]; omega), hbt h2 (by omega), if_neg hb, if_neg hc, hnx]
              simp only [if_true]
              exact h4 f' _
          · rename_i he0
            simp only [LR.err.injEq] at h
            obtain ⟨rfl, rfl⟩ := h
            refine ⟨Nat.le_refl _, by omega, he0, fun f' acc' => ?_⟩
            rw [lex_end (by rw [hsz (by omega)]; omega)]
            exact ⟨_, rfl⟩
theorem split_prefix {s : ByteArray} {i : Nat} {e : Int} (h : splitP s = .err i e) (hs : s.size ≤ 16384) : i < s.size ∧ e ≠ 0 ∧ ∃ l, splitP (s.extract 0 i) = .ok l := by
  unfold splitP at h
  rw [if_neg (by omega)] at h
  obtain ⟨h1, h2, h3, h4⟩ := lex_prefix s i e _ _ _ h
  obtain ⟨l, hl⟩ := h4 ((s.extract 0 i).size + 1) []
  refine ⟨h2, h3, l, ?_⟩
  unfold splitP
  rw [if_neg (by simp only [ByteArray.size_extract]; omega)]
  exact hl
end Go.Proofs.Ytoiolofgcgkgiaa.V
