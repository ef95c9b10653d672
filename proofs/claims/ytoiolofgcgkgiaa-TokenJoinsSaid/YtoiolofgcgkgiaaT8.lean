import Derived.Test.YtoiolofgcgkgiaaT7
namespace Go.Proofs.Ytoiolofgcgkgiaa.V
open Go
set_option linter.unusedSimpArgs false
set_option linter.unusedVariables false

/-- Where a scan ends: all before have the property, what stands there has not. -/
theorem scan_end {p : Int → Bool} {s : ByteArray} : ∀ (K j : Nat), j + K = s.size → (∀ m, j + m < scanE p s K j → p (bt s (j + m : Nat)) = true) ∧ (scanE p s K j = s.size ∨ p (bt s (scanE p s K j : Nat)) = false) ∧ scanE p s K j ≤ s.size ∧ j ≤ scanE p s K j
  | 0, j, h => by simp only [scanE]; exact ⟨fun m hm => by omega, .inl (by omega), by omega, by omega⟩
  | K + 1, j, h => by
    obtain ⟨h1, h2, h3, h4⟩ := scan_end (p := p) (s := s) K (j + 1) (by omega)
    simp only [scanE]
    by_cases hb : p (bt s j) = true
    · rw [if_pos hb]
      refine ⟨fun m hm => ?_, h2, h3, by omega⟩
      cases m with
      | zero => exact hb
      | succ m => have := h1 m (by omega); rw [show j + 1 + m = j + (m + 1) by omega] at this; exact this
    · rw [if_neg hb]
      exact ⟨fun m hm => by omega, .inr (by simpa using hb), by omega, by omega⟩
theorem scan_to {p : Int → Bool} {s : ByteArray} : ∀ (d K j : Nat), j + K = s.size → j + d ≤ s.size → (∀ m, m < d → p (bt s (j + m : Nat)) = true) → (j + d = s.size ∨ p (bt s (j + d : Nat)) = false) → scanE p s K j = j + d
  | 0, K, j, h, hd, ha, he => by
    cases K with
    | zero => rfl
    | succ K =>
      simp only [scanE]
      rcases he with he | he
      · omega
      · rw [if_neg (by rw [show ((j + 0 : Nat) : Int) = j from rfl] at he; rw [he]; simp)]; rfl
  | d + 1, K, j, h, hd, ha, he => by
    cases K with
    | zero => omega
    | succ K =>
      simp only [scanE]
      rw [if_pos (show p (bt s (j : Nat)) = true from ha 0 (by omega))]
      rw [scan_to d K (j + 1) (by omega) (by omega) (fun m hm => by have := ha (m + 1) (by omega); rw [show j + (m + 1) = j + 1 + m by omega] at this; exact this) (by rw [show j + 1 + d = j + (d + 1) by omega]; exact he)]
      omega
def twoB (a b : Int) : Bool := (a == 45 && b == 62) || (a == 60 && b == 61) || (a == 61 && b == 61)
theorem toList_two {s : ByteArray} (h : 2 ≤ s.size) : (s.extract 0 2).toList = [s[0], s[1]] := by
  rw [ByteArray.toList_eq, ByteArray.data_extract]
  rw [Array.toList_extract]
  obtain ⟨⟨l⟩⟩ := s
  match l, h with
  | a :: b :: r, _ => rfl
theorem isTwo_bt {s : ByteArray} (h : 2 ≤ s.size) : isTwo (s.extract 0 2).toList = twoB (bt s 0) (bt s 1) := by
  rw [toList_two h]
  have e0 : bt s 0 = (s[0].toNat : Int) := bt_get (j := 0) (by omega)
  have e1 : bt s 1 = (s[1].toNat : Int) := bt_get (j := 1) (by omega)
  rw [e0, e1]
  generalize s[0] = a
  generalize s[1] = b
  unfold isTwo twoB
  have h1 : (⟨#[45, 62]⟩ : ByteArray).toList = [45, 62] := by rw [ByteArray.toList_eq]
  have h2 : (⟨#[60, 61]⟩ : ByteArray).toList = [60, 61] := by rw [ByteArray.toList_eq]
  have h3 : (⟨#[61, 61]⟩ : ByteArray).toList = [61, 61] := by rw [ByteArray.toList_eq]
  rw [h1, h2, h3]
  have q : ∀ (x : UInt8) (n : Nat), n < 256 → ((x == (UInt8.ofNat n)) = ((x.toNat : Int) == (n : Int))) := by
    intro x n hn
    rw [Bool.eq_iff_iff, beq_iff_eq, beq_iff_eq]
    constructor
    · rintro rfl; simp; omega
    · intro h
      have : x.toNat = n := by omega
      rw [← this]; simp
  have qa := q a; have qb := q b
  have l2 : ∀ (x y : UInt8), ([a, b] == [x, y]) = (a == x && b == y) := by intro x y; simp [BEq.beq, List.beq]
  rw [l2, l2, l2]
  rw [show (45 : UInt8) = UInt8.ofNat 45 from rfl, show (62 : UInt8) = UInt8.ofNat 62 from rfl, show (60 : UInt8) = UInt8.ofNat 60 from rfl, show (61 : UInt8) = UInt8.ofNat 61 from rfl]
  rw [qa 45 (by decide), qa 60 (by decide), qa 61 (by decide), qb 62 (by decide), qb 61 (by decide)]
  simp only [bif_or, Bool.or_assoc]
  rfl
/-- The sign at a place, by its bytes. -/
def signAt (s : ByteArray) (i : Nat) : Nat := if i + 1 < s.size ∧ twoB (bt s i) (bt s (i + 1 : Nat)) = true then 2 else if isOne (bt s i) then 1 else 0
theorem signN_at {s : ByteArray} {i : Nat} (h : i < s.size) : signN (s.extract i s.size) = signAt s i := by
  have h0 : bt (s.extract i s.size) 0 = bt s i := bt_extract (j := 0) (by omega) (Nat.le_refl _)
  unfold signN signAt
  rw [h0]
  by_cases h1 : i + 1 < s.size
  · have e1 : bt (s.extract i s.size) 1 = bt s (i + 1 : Nat) := bt_extract (j := 1) (by omega) (Nat.le_refl _)
    rw [isTwo_bt (by simp only [ByteArray.size_extract]; omega), h0, e1]
    rw [decide_eq_true (show (((s.extract i s.size).size : Nat) : Int) > 1 by simp only [ByteArray.size_extract]; omega)]
    simp only [Bool.true_and, h1, true_and]
  · rw [decide_eq_false (show ¬ (((s.extract i s.size).size : Nat) : Int) > 1 by simp only [ByteArray.size_extract]; omega)]
    simp only [Bool.false_and, h1, false_and, if_false, Bool.false_eq_true]
theorem next_text {s : ByteArray} {i : Nat} (hlt : i < s.size) (he : (nextP s i).2.2 = 0) : s.extract i (i + (nextP s i).2.1.size) = (nextP s i).2.1 := by
  by_cases h0 : (bif between 97 122 (bt s i) then true else between 65 90 (bt s i)) = true
  · obtain ⟨_, _, h3, h4⟩ := scan_end (p := isPart) (s := s) (s.size - (i + 1)) (i + 1) (by omega)
    obtain ⟨n, hn⟩ : ∃ n, scanE isPart s (s.size - (i + 1)) (i + 1) = i + n := ⟨scanE isPart s (s.size - (i + 1)) (i + 1) - i, by omega⟩
    rw [nextP_name h0 hn rfl]
    simp only [ByteArray.size_extract]
    congr 1; omega
  · have h0' : (bif between 97 122 (bt s i) then true else between 65 90 (bt s i)) = false := by simpa using h0
    by_cases h7 : between 48 57 (bt s i) = true
    · obtain ⟨_, _, h3, h4⟩ := scan_end (p := between 48 57) (s := s) (s.size - (i + 1)) (i + 1) (by omega)
      obtain ⟨n, hn⟩ : ∃ n, scanE (between 48 57) s (s.size - (i + 1)) (i + 1) = i + n := ⟨scanE (between 48 57) s (s.size - (i + 1)) (i + 1) - i, by omega⟩
      rw [nextP_num (by omega) (by omega) h0' h7 hn]
      simp only [ByteArray.size_extract]
      congr 1; omega
    · have h7' : between 48 57 (bt s i) = false := by simpa using h7
      have hle := signN_le (s.extract i s.size) (by simp only [ByteArray.size_extract]; omega)
      simp only [ByteArray.size_extract] at hle
      rw [nextP_sign h0' h7' hlt] at he ⊢
      simp only [] at he ⊢
      have hz : signN (s.extract i s.size) ≠ 0 := by intro hz; rw [if_pos hz] at he; exact absurd he (by decide)
      rw [if_neg hz]
      simp only [ByteArray.size_extract]
      congr 1; omega
def stopB (c : Int) : Prop := isPart c = false ∧ c ≠ 62 ∧ c ≠ 61
/-- A token is known by its bytes and by what comes behind it. -/
theorem next_local {s s' : ByteArray} {i i' n : Nat} {k : Int} {t : ByteArray} (h : nextP s i = (k, t, 0)) (hi : i < s.size) (hn : t.size = n) (hi' : i' + n ≤ s'.size) (ht : s'.extract i' (i' + n) = t)
    (hx : i' + n = s'.size ∨ (i + n < s.size ∧ bt s' (i' + n : Nat) = bt s (i + n : Nat)) ∨ stopB (bt s' (i' + n : Nat))) : nextP s' i' = (k, t, 0) := by
  have h1 := next_size hi (by rw [h])
  have h2 := next_text hi (by rw [h])
  rw [h] at h1 h2
  simp only [hn] at h1 h2
  have hb : ∀ m, m < n → bt s' (i' + m : Nat) = bt s (i + m : Nat) := by
    intro m hm
    rw [← bt_extract (s := s') (i := i') (e := i' + n) (by omega) hi', ← bt_extract (s := s) (i := i) (e := i + n) (by omega) h1.2, ht, h2]
  have hb0 : bt s' i' = bt s i := hb 0 (by omega)
  by_cases h0 : (bif between 97 122 (bt s i) then true else between 65 90 (bt s i)) = true
  · obtain ⟨q1, q2, q3, q4⟩ := scan_end (p := isPart) (s := s) (s.size - (i + 1)) (i + 1) (by omega)
    obtain ⟨d, hd⟩ : ∃ d, scanE isPart s (s.size - (i + 1)) (i + 1) = i + d := ⟨scanE isPart s (s.size - (i + 1)) (i + 1) - i, by omega⟩
    have e := nextP_name h0 hd rfl
    rw [h] at e
    simp only [Prod.mk.injEq] at e
    obtain ⟨e1, e2, e3⟩ := e
    have hdn : d = n := by rw [← hn, e2]; simp only [ByteArray.size_extract]; omega
    subst hdn
    rw [hd] at q1 q2
    have hs' : scanE isPart s' (s'.size - (i' + 1)) (i' + 1) = i' + d := by
      rw [scan_to (d - 1) _ _ (by omega) (by omega) (fun m hm => ?_) ?_]
      · omega
      · rw [show i' + 1 + (d - 1) = i' + d by omega]
        rcases hx with hx | ⟨hx1, hx2⟩ | hx
        · exact .inl hx
        · rw [hx2]; rcases q2 with q2 | q2
          · omega
          · exact .inr q2
        · exact .inr hx.1
      · rw [show i' + 1 + m = i' + (m + 1) by omega, hb (m + 1) (by omega)]
        have := q1 m (by omega)
        rw [show i + 1 + m = i + (m + 1) by omega] at this; exact this
    rw [nextP_name (by rw [hb0]; exact h0) hs' rfl, ht, hb0, ← e3, e1, ← e2]
  · have h0' : (bif between 97 122 (bt s i) then true else between 65 90 (bt s i)) = false := by simpa using h0
    by_cases h7 : between 48 57 (bt s i) = true
    · obtain ⟨q1, q2, q3, q4⟩ := scan_end (p := between 48 57) (s := s) (s.size - (i + 1)) (i + 1) (by omega)
      obtain ⟨d, hd⟩ : ∃ d, scanE (between 48 57) s (s.size - (i + 1)) (i + 1) = i + d := ⟨scanE (between 48 57) s (s.size - (i + 1)) (i + 1) - i, by omega⟩
      have e := nextP_num (by omega) (by omega) h0' h7 hd
      rw [h] at e
      simp only [Prod.mk.injEq] at e
      obtain ⟨e1, e2, e3⟩ := e
      have hdn : d = n := by rw [← hn, e2]; simp only [ByteArray.size_extract]; omega
      subst hdn
      rw [hd] at q1 q2
      have hs' : scanE (between 48 57) s' (s'.size - (i' + 1)) (i' + 1) = i' + d := by
        rw [scan_to (d - 1) _ _ (by omega) (by omega) (fun m hm => ?_) ?_]
        · omega
        · rw [show i' + 1 + (d - 1) = i' + d by omega]
          rcases hx with hx | ⟨hx1, hx2⟩ | hx
          · exact .inl hx
          · rw [hx2]; rcases q2 with q2 | q2
            · omega
            · exact .inr q2
          · refine .inr ?_
            have := hx.1
            unfold isPart at this
            cases hc : between 48 57 (bt s' (i' + d : Nat)) with
            | false => rfl
            | true => rw [hc] at this; simp at this
        · rw [show i' + 1 + m = i' + (m + 1) by omega, hb (m + 1) (by omega)]
          have := q1 m (by omega)
          rw [show i + 1 + m = i + (m + 1) by omega] at this; exact this
      rw [nextP_num hi' (by omega) (by rw [hb0]; exact h0') (by rw [hb0]; exact h7) hs', ht, hb0, e2, ← e3, e1]
    · have h7' : between 48 57 (bt s i) = false := by simpa using h7
      have e := nextP_sign h0' h7' hi
      rw [h] at e
      simp only [Prod.mk.injEq] at e
      obtain ⟨e1, e2, e3⟩ := e
      have hz : signN (s.extract i s.size) ≠ 0 := by intro hz; rw [if_pos hz] at e3; exact absurd e3 (by decide)
      have hle := signN_le (s.extract i s.size) (by simp only [ByteArray.size_extract]; omega)
      simp only [ByteArray.size_extract] at hle
      rw [if_neg hz] at e2
      have hnn : signN (s.extract i s.size) = n := by rw [← hn, e2]; simp only [ByteArray.size_extract]; omega
      have hs' : signN (s'.extract i' s'.size) = n := by
        rw [signN_at (by omega), ← hnn, signN_at hi]
        rw [signN_at hi] at hnn
        unfold signAt at hnn ⊢
        rw [hb0]
        by_cases ht2 : i + 1 < s.size ∧ twoB (bt s i) (bt s (i + 1 : Nat)) = true
        · rw [if_pos ht2] at hnn ⊢
          have := hb 1 (by omega)
          rw [if_pos ⟨by omega, by rw [this]; exact ht2.2⟩]
        · rw [if_neg ht2] at hnn ⊢
          have hn1 : n = 1 := by split at hnn <;> omega
          subst hn1
          rw [if_neg]
          rintro ⟨hx1, hx2⟩
          rcases hx with hx | ⟨hx3, hx4⟩ | hx
          · omega
          · rw [hx4] at hx2; exact ht2 ⟨hx3, hx2⟩
          · unfold twoB at hx2
            have h61 : (bt s' (i' + 1 : Nat) == 61) = false := by simpa using hx.2.2
            have h62 : (bt s' (i' + 1 : Nat) == 62) = false := by simpa using hx.2.1
            rw [h61, h62] at hx2
            simp at hx2
      rw [nextP_sign (by rw [hb0]; exact h0') (by rw [hb0]; exact h7') (by omega), hs', if_neg (by omega), if_neg (by omega), ht, e1]
end Go.Proofs.Ytoiolofgcgkgiaa.V
