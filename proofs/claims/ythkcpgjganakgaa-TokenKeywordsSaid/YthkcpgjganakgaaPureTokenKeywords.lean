/- For every string, Keyword answers as the reference does, and 'let' is a keyword and 'lets' is not. No conditions. -/
import Derived.Test.YthkcpgjganakgaaPTokenKeywordsx1
namespace Go.Proofs.Ythkcpgjganakgaa.Pure
open Go.RowKit Go.Proofs.Ythkcpgjganakgaa.PTokenKeywords Go.Proofs.YthkcpgjganakgaaW.PrintWords Go.Proofs.YthkcpgjganakgaaW.PrintLast

theorem kw_step {a : List UInt8} {L : List UInt8} {S : ByteArray} {X : Option Bool} {b : Bool} (hS : S.toList = L) (hX : X = some b) :
    (if a = L then some true else X) = some (decide (S.toList = a) || b) := by
  subst hS
  by_cases h : a = S.toList
  · rw [if_pos h]; simp [h]
  · rw [if_neg h, hX]; have : ¬ S.toList = a := fun e => h e.symm; simp [this]

theorem kw_loop (a : ByteArray) : ∀ (suf pre : List ByteArray) (k : Nat), suf.length < k → pre.length + suf.length < 1000 →
    amortcostref3_Keyword.l0 k a (pre ++ suf) (pre.length : Int) = some (suf.any fun s => decide (s.toList = a.toList)) := by
  intro suf
  induction suf with
  | nil =>
    intro pre k hk _
    obtain ⟨k, rfl⟩ : ∃ m, k = m + 1 := ⟨k - 1, by simp at hk; omega⟩
    simp only [amortcostref3_Keyword.l0]
    rw [if_neg (by simp)]; rfl
  | cons s suf ih =>
    intro pre k hk hl
    simp only [List.length_cons] at hk hl
    obtain ⟨k, rfl⟩ : ∃ m, k = m + 1 := ⟨k - 1, by omega⟩
    have hw : wrap64 ((pre.length : Int) + 1) = ((pre ++ [s]).length : Int) := by
      rw [List.length_append]; simp only [List.length_cons, List.length_nil]; unfold wrap64; omega
    have hr : rdOf ByteArray.empty (pre ++ s :: suf) (pre.length : Int) = s := by
      unfold rdOf; simp
    simp only [amortcostref3_Keyword.l0]
    rw [if_pos (by simp; omega), if_pos (by omega), hr, hw]
    have := ih (pre ++ [s]) k (by omega) (by simp; omega)
    rw [List.append_assoc] at this
    simp only [List.cons_append, List.nil_append] at this
    rw [this]
    by_cases h : s.toList = a.toList
    · rw [if_pos h]; simp [h]
    · rw [if_neg h]; simp [h]

theorem kw_same (a : ByteArray) : ∃ b, token_Keyword.f a = some b ∧ amortcostref3_Keyword.f 40 a = some b := by
  refine ⟨_, ?_, kw_loop a _ [] 40 (by decide) (by decide)⟩
  unfold token_Keyword.f
  simp only [List.any_cons, List.any_nil]
  repeat (refine kw_step ?h ?_; case h => first | rfl | decide +kernel)
  rfl

theorem TokenKeywords : amortcostlaw03_TokenKeywords.Pure := by
  intro a _
  obtain ⟨b, h1, h2⟩ := kw_same a
  refine ⟨40, ?_⟩
  unfold amortcostlaw03_TokenKeywords.f
  rw [h1, h2]
  simp only [Option.bind_some, beq_self_eq_true, if_true]
  decide +kernel

end Go.Proofs.Ythkcpgjganakgaa.Pure
