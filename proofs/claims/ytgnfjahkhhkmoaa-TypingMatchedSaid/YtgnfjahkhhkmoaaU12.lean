import Derived.Test.YtgnfjahkhhkmoaaU11
import Derived.Test.YtgnfjahkhhkmoaaU9
namespace Go.Proofs.Ytgnfjahkhhkmoaa.V
open Go
set_option linter.unusedSimpArgs false
set_option linter.unusedVariables false

mutual
theorem tyEq_eq : ∀ (t u : Ty), tyEq t u = true → t = u
  | .mk k n l, .mk k' n' l', h => by
    simp only [tyEq] at h
    obtain ⟨h1, h2⟩ := bif_t h
    obtain ⟨h3, h4⟩ := bif_t h1
    rw [beq_iff_eq] at h3 h4
    rw [h3, h4, tysEq_eq l l' h2]
theorem tysEq_eq : ∀ (l m : List Ty), tysEq l m = true → l = m
  | [], [], _ => rfl
  | [], _ :: _, h => absurd h (by simp [tysEq])
  | _ :: _, [], h => absurd h (by simp [tysEq])
  | a :: l, b :: m, h => by
    simp only [tysEq] at h
    obtain ⟨h1, h2⟩ := bif_t h
    rw [tyEq_eq a b h1, tysEq_eq l m h2]
end
def okM (s : MS) : Prop := s.found.length = s.types.length
def Ext (s s' : MS) : Prop := ∀ i, s.found.getD i false = true → s'.found.getD i false = true ∧ s'.types.getD i ty0 = s.types.getD i ty0
theorem Ext.refl (s : MS) : Ext s s := fun _ h => ⟨h, rfl⟩
theorem Ext.trans {a b c : MS} (h : Ext a b) (h' : Ext b c) : Ext a c := fun i hi => ⟨(h' i (h i hi).1).1, (h' i (h i hi).1).2.trans (h i hi).2⟩
theorem found_lt {s : MS} {i : Nat} (h : s.found.getD i false = true) : i < s.found.length := by
  rcases Nat.lt_or_ge i s.found.length with h1 | h1
  · exact h1
  · rw [List.getD_eq_getElem?_getD, List.getElem?_eq_none h1] at h; exact absurd h (by simp)
theorem getD_app {α : Type} {l m : List α} {d : α} {i : Nat} (h : i < l.length) : (l ++ m).getD i d = l.getD i d := by
  rw [List.getD_eq_getElem?_getD, List.getD_eq_getElem?_getD, List.getElem?_append_left h]
theorem grow_ext {s : MS} (h : okM s) (n : Nat) : Ext s (grow s n) ∧ okM (grow s n) ∧ n < (grow s n).types.length := by
  refine ⟨fun i hi => ?_, ?_, ?_⟩
  · have := found_lt hi
    unfold grow
    rw [getD_app this, getD_app (by unfold okM at h; omega)]
    exact ⟨hi, rfl⟩
  · unfold okM grow at *
    simp only [List.length_append, List.length_replicate]; omega
  · unfold grow
    simp only [List.length_append, List.length_replicate]; omega
theorem getD_set {α : Type} {l : List α} {x d : α} {i j : Nat} (h : i < l.length) : (l.set i x).getD j d = if i = j then x else l.getD j d := by
  rw [List.getD_eq_getElem?_getD, List.getD_eq_getElem?_getD]
  by_cases e : i = j
  · subst e; rw [if_pos rfl, List.getElem?_set_self h]; rfl
  · rw [if_neg e, List.getElem?_set_ne e]
theorem grow_found {s : MS} (h : okM s) {n i : Nat} (hi : (grow s n).found.getD i false = true) : s.found.getD i false = true := by
  unfold grow at hi
  simp only [] at hi
  rcases Nat.lt_or_ge i s.found.length with h1 | h1
  · rwa [getD_app h1] at hi
  · rw [List.getD_eq_getElem?_getD, List.getElem?_append_right h1, List.getElem?_replicate] at hi
    split at hi <;> exact absurd hi (by simp)
mutual
theorem match_sound : ∀ (t u : Ty) (s s' : MS), okM s → matchF s t u = (s', true) → Ext s s' ∧ okM s' ∧ ∀ s'', Ext s' s'' → okM s'' → substT t s''.types = u
  | .mk k n l, .mk k' n' l', s, s', hs, h => by
    simp only [matchF] at h
    by_cases hk : k = 4
    · rw [if_neg (by simpa using hk)] at h
      split at h
      · exact absurd h (by simp)
      · rename_i hr
        have hr' : (bif decide (n < 0) then true else decide (n > 100)) = false := by simpa using hr
        obtain ⟨hn0, hn1⟩ := or_no hr'
        simp only [decide_eq_false_iff_not] at hn0 hn1
        obtain ⟨g1, g2, g3⟩ := grow_ext hs n.toNat
        have key : ∀ s1 : MS, okM s1 → s1.found.getD n.toNat false = true → s1.types.getD n.toNat ty0 = Ty.mk k' n' l' → ∀ s'', Ext s1 s'' → okM s'' → substT (Ty.mk k n l) s''.types = Ty.mk k' n' l' := by
          intro s1 h1 h2 h3 s'' h4 h5
          obtain ⟨e1, e2⟩ := h4 _ h2
          have hlt := found_lt e1
          simp only [substT]
          rw [if_pos]
          · rw [e2, h3]
          · unfold subK
            unfold okM at h5
            rw [hk, decide_eq_true (show n ≥ 0 by omega), decide_eq_true (show n < s''.types.length by omega)]
            rfl
        split at h
        · rename_i hf
          simp only [Prod.mk.injEq] at h
          obtain ⟨rfl, h⟩ := h
          exact ⟨g1, g2, key _ g2 hf (tyEq_eq _ _ h)⟩
        · rename_i hf
          simp only [Prod.mk.injEq, and_true] at h
          subst h
          have hgl : n.toNat < (grow s n.toNat).found.length := by unfold okM at g2; omega
          have e1 : ∀ i, (setM (grow s n.toNat) n.toNat (Ty.mk k' n' l')).found.getD i false = if n.toNat = i then true else (grow s n.toNat).found.getD i false := fun i => getD_set hgl
          have e2 : ∀ i, (setM (grow s n.toNat) n.toNat (Ty.mk k' n' l')).types.getD i ty0 = if n.toNat = i then Ty.mk k' n' l' else (grow s n.toNat).types.getD i ty0 := fun i => getD_set g3
          have ho : okM (setM (grow s n.toNat) n.toNat (Ty.mk k' n' l')) := by unfold okM setM at *; simp only [List.length_set]; exact g2
          refine ⟨g1.trans fun i hi => ?_, ho, key _ ho (by rw [e1, if_pos rfl]) (by rw [e2, if_pos rfl])⟩
          have hne : ¬ n.toNat = i := by rintro rfl; exact hf hi
          rw [e1, e2, if_neg hne, if_neg hne]
          exact ⟨hi, rfl⟩
    · rw [if_pos hk] at h
      split at h
      · rename_i hb
        obtain ⟨hb1, hb2⟩ := bif_t hb
        rw [beq_iff_eq] at hb1 hb2
        split at h
        · rename_i hl
          obtain ⟨h1, h2, h3⟩ := matchL_sound l l' s s' hs hl h
          refine ⟨h1, h2, fun s'' h4 h5 => ?_⟩
          simp only [substT]
          rw [if_neg, h3 s'' h4 h5, hb1, hb2]
          unfold subK
          rw [show (k == 4) = false by simpa using hk]
          simp
        · exact absurd h (by simp)
      · exact absurd h (by simp)
theorem matchL_sound : ∀ (l m : List Ty) (s s' : MS), okM s → l.length = m.length → matchL s l m = (s', true) → Ext s s' ∧ okM s' ∧ ∀ s'', Ext s' s'' → okM s'' → substs l s''.types = m
  | [], [], s, s', hs, _, h => by
    simp only [matchL, Prod.mk.injEq, and_true] at h
    subst h
    exact ⟨Ext.refl s, hs, fun _ _ _ => rfl⟩
  | [], _ :: _, _, _, _, h, _ => absurd h (by simp)
  | _ :: _, [], _, _, _, h, _ => absurd h (by simp)
  | a :: l, b :: m, s, s', hs, hl, h => by
    simp only [matchL] at h
    split at h
    · rename_i h1
      obtain ⟨g1, g2, g3⟩ := match_sound a b s _ hs (Prod.ext rfl h1)
      obtain ⟨k1, k2, k3⟩ := matchL_sound l m _ s' g2 (by simpa using hl) h
      refine ⟨g1.trans k1, k2, fun s'' h4 h5 => ?_⟩
      simp only [substs]
      rw [g3 s'' (k1.trans h4) h5, k3 s'' h4 h5]
    · exact absurd h (by simp)
end
mutual
def varsF : Ty → Int → Bool
  | .mk k n l, c => bif k == 4 then (bif (bif decide (n ≥ 0) then decide (n < c) else false) then ((l.length : Int) == 0) else false) else varsL l c
def varsL : List Ty → Int → Bool
  | [], _ => true
  | t :: l, c => bif varsF t c then varsL l c else false
end
def Cons (sg : List Ty) (s : MS) : Prop := ∀ i, s.found.getD i false = true → s.types.getD i ty0 = sg.getD i ty0
mutual
theorem match_full (sg : List Ty) (hg : sg.length ≤ 100) : ∀ (t : Ty) (s : MS), varsF t sg.length = true → okM s → Cons sg s → (matchF s t (substT t sg)).2 = true ∧ okM (matchF s t (substT t sg)).1 ∧ Cons sg (matchF s t (substT t sg)).1
  | .mk k n l, s, hv, hs, hc => by
    simp only [varsF] at hv
    by_cases hk : k = 4
    · subst hk
      obtain ⟨hv1, hv2⟩ := bif_t (show (bif (bif decide (n ≥ 0) then decide (n < sg.length) else false) then ((l.length : Int) == 0) else false) = true from hv)
      obtain ⟨hv3, hv4⟩ := bif_t hv1
      simp only [decide_eq_true_eq] at hv3 hv4
      have hsub : substT (Ty.mk 4 n l) sg = sg.getD n.toNat ty0 := by
        simp only [substT]
        rw [if_pos]
        unfold subK
        rw [decide_eq_true hv3, decide_eq_true hv4]
        rfl
      rw [hsub]
      generalize hu : sg.getD n.toNat ty0 = u
      obtain ⟨k', n', l'⟩ := u
      simp only [matchF]
      rw [if_neg (by simp), if_neg (by rw [decide_eq_false (show ¬ n < 0 by omega), decide_eq_false (show ¬ n > 100 by omega)]; simp)]
      obtain ⟨g1, g2, g3⟩ := grow_ext hs n.toNat
      have hcg : Cons sg (grow s n.toNat) := fun i hi => by
        have h1 := grow_found hs hi
        rw [(g1 i h1).2]; exact hc i h1
      split
      · rename_i hf
        have := hcg _ hf
        rw [this, hu]
        exact ⟨tyEq_refl _, g2, hcg⟩
      · rename_i hf
        have hgl : n.toNat < (grow s n.toNat).found.length := by unfold okM at g2; omega
        refine ⟨rfl, by unfold okM setM at *; simp only [List.length_set]; exact g2, fun i hi => ?_⟩
        have e1 : (setM (grow s n.toNat) n.toNat (Ty.mk k' n' l')).found.getD i false = if n.toNat = i then true else (grow s n.toNat).found.getD i false := getD_set hgl
        have e2 : (setM (grow s n.toNat) n.toNat (Ty.mk k' n' l')).types.getD i ty0 = if n.toNat = i then Ty.mk k' n' l' else (grow s n.toNat).types.getD i ty0 := getD_set g3
        rw [e1] at hi
        rw [e2]
        by_cases e : n.toNat = i
        · rw [if_pos e, ← e, hu]
        · rw [if_neg e] at hi ⊢; exact hcg i hi
    · have hk' : (k == 4) = false := by simpa using hk
      rw [hk'] at hv
      have hsub : substT (Ty.mk k n l) sg = Ty.mk k n (substs l sg) := by
        simp only [substT]
        rw [if_neg]
        unfold subK
        rw [hk']; simp
      rw [hsub]
      simp only [matchF]
      rw [if_pos hk, if_pos (by simp), if_pos (by rw [substs_len])]
      exact matchL_full sg hg l s hv hs hc
theorem matchL_full (sg : List Ty) (hg : sg.length ≤ 100) : ∀ (l : List Ty) (s : MS), varsL l sg.length = true → okM s → Cons sg s → (matchL s l (substs l sg)).2 = true ∧ okM (matchL s l (substs l sg)).1 ∧ Cons sg (matchL s l (substs l sg)).1
  | [], s, _, hs, hc => ⟨rfl, hs, hc⟩
  | t :: l, s, hv, hs, hc => by
    simp only [varsL] at hv
    obtain ⟨h1, h2⟩ := bif_t hv
    obtain ⟨g1, g2, g3⟩ := match_full sg hg t s h1 hs hc
    simp only [substs, matchL]
    rw [if_pos g1]
    exact matchL_full sg hg l _ h2 g2 g3
end
end Go.Proofs.Ytgnfjahkhhkmoaa.V
