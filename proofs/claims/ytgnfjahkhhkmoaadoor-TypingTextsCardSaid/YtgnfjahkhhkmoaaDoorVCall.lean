/- Guarded calls that do more than answer, and slices of one's own that are written in place. Over any program; no condition. -/
import Derived.Test.YtgnfjahkhhkmoaaDoorVOpen
namespace Go.Proofs.YtgnfjahkhhkmoaaDoor.V
open Go
set_option linter.unusedVariables false
set_option linter.unusedSimpArgs false

theorem AOps_le {P : Program} {n : Nat} {ops : Array Oper} {l : List Nat} {Q : Post} {τ τ' : Nat → AV} {X : XH} (h : ∀ t, Le (τ t) (τ' t)) (hA : AOps P n ops l Q τ' X) : AOps P n ops l Q τ X :=
  fun p a w s => hA p a w ⟨s.size, fun t ht => h t _ _ _ (s.tmps t ht), s.defers, s.xs, s.pb⟩
theorem Le.opt_t {a : AV} : Le a (.opt true a) := by
  intro p w y h
  simp only [Rel]
  exact ⟨fun _ => h, fun h => absurd h (by simp)⟩
theorem Le.opt_f {a : AV} : Le (.v undef) (.opt false a) := by
  intro p w y h
  simp only [Rel] at h ⊢
  exact ⟨fun h => absurd h (by simp), fun _ => h⟩
theorem Le.updd {τ : Nat → AV} {d : Nat} {a b : AV} (h : Le a b) (t : Nat) : Le (updd τ (some d) a t) (V.updd τ (some d) b t) := by
  simp only [V.updd]
  split
  · exact h
  · exact Le.refl _
/-- A guarded call that answers true or false and may change what is held. -/
theorem stg_acall {P : Program} {n : Nat} {ops : Array Oper} {i : Nat} {rest : List Nat} {o : Oper} {Q : Post} {τ : Nat → AV} {X : XH} {cl : Call} {g : Operand} {f : FuncId} {fi cp : List AV} {j d : Nat} {want G : Bool} {K : Bool → XH → Prop}
    (hi : ops[i]? = some o) (hdst : o.dst = some d) (hgd : o.guard = some (j, want)) (hok : okOp n o = true) (hgo : gOk n ops j = true) (hG : gval τ ops j want = some G) (ho : o.op = .call cl) (hcv : cl.callee = .value g)
    (hp : G = true → needs τ o.op.operands.toList ∧ ev (strip τ) g = .clo (.func f) fi cp ∧ FOk P f ∧ ACalls P f (fi ++ cl.args.toList.map (ev (strip τ)) ++ cp) X fun av X' => ∃ b, av = .v (.bool b) ∧ K b X')
    (h : ∀ b X', (G = true → K b X') → (G = false → X' = X) → AOps P n ops rest Q (updd τ (some d) (.opt G (.v (.bool b)))) X') : AOps P n ops (i :: rest) Q τ X := by
  refine AOps_guard hi hgd hok (gOk_spec hgo) hG (fun hg => ?_) (fun hg => ?_)
  · obtain ⟨h1, h2, h3, h4⟩ := hp hg
    refine ⟨h1, AOp_call ho hcv h2 h3 (h4.mono ?_)⟩
    rintro av X' ⟨b, rfl, hk⟩
    rw [hdst]
    refine AOps_le (Le.updd ?_) (h b X' (fun _ => hk) (fun h => by rw [hg] at h; exact absurd h (by simp)))
    rw [hg]; exact Le.opt_t
  · rw [hdst]
    refine AOps_le (Le.updd ?_) (h false X (fun h => by rw [hg] at h; exact absurd h (by simp)) (fun _ => rfl))
    rw [hg]; exact Le.opt_f
/-- A slice of one's own with an element, as a value. -/
theorem Own.some {X : XH} {e : TypeId} {sz n : Nat} {a : AV} {cs : List AV} (h : Own X e sz a n cs) (hn : 0 < n) : ∃ q c pad, a = .v (.slice (some ⟨q, 0, none⟩) n c) ∧ X q = some ⟨e, cs ++ pad⟩ ∧ n ≤ c ∧ pad.length = (c - n) * sz ∧ cs.length = n * sz := by
  obtain ⟨h1, h2⟩ := h
  rcases h2 with ⟨_, rfl⟩ | ⟨q, c, pad, h3, h4, h5, h6⟩
  · omega
  · exact ⟨q, c, pad, h3, h4, h5, h6, h1⟩
theorem splice_left {α : Type} {l pad m : List α} {k : Nat} (h : k + m.length ≤ l.length) : splice (l ++ pad) k m = splice l k m ++ pad := by
  unfold splice
  rw [List.take_append_of_le_length (by omega), List.drop_append_of_le_length (by omega)]
  simp only [List.append_assoc]
theorem splice_len {α : Type} {l m : List α} {k : Nat} (h : k + m.length ≤ l.length) : (splice l k m).length = l.length := by
  unfold splice
  simp only [List.length_append, List.length_take, List.length_drop]
  omega
/-- Written in place. -/
theorem Own.write {X : XH} {e : TypeId} {sz n c q : Nat} {cs pad m : List AV} (h1 : cs.length = n * sz) (h2 : n ≤ c) (h3 : pad.length = (c - n) * sz) {k : Nat} (hk : k + m.length ≤ cs.length) : Own (X.put q ⟨e, splice (cs ++ pad) k m⟩) e sz (.v (.slice (Option.some ⟨q, 0, none⟩) n c)) n (splice cs k m) := by
  refine ⟨by rw [splice_len hk, h1], .inr ⟨q, c, pad, rfl, ?_, h2, h3⟩⟩
  rw [XH.put_same, splice_left hk]
theorem flat_splice {α : Type} (f : α → List AV) {sz : Nat} (hf : ∀ x, (f x).length = sz) (xs : List α) (j : Nat) (x : α) (h : j < xs.length) : splice (xs.flatMap f) (j * sz) (f x) = (xs.set j x).flatMap f := by
  unfold splice
  rw [flat_take f sz hf, hf, ← Nat.succ_mul, flat_drop f sz hf, List.set_eq_take_append_cons_drop, if_pos h]
  simp
theorem AOp.le {P : Program} {o : Oper} {τ : Nat → AV} {X : XH} {r r' : AV} (h : AOp P o τ X fun av X' => av = r ∧ X' = X) (hl : Le r r') : AOp P o τ X fun av X' => av = r' ∧ X' = X :=
  fun p a w s => Oper.wp_mono (fun _ _ ⟨p', av, X', v, e, h1, h2, h3, h4, q1, q2⟩ => ⟨p', r', X', v, e, hl _ _ _ (q1 ▸ h1), h2, h3, h4, rfl, q2⟩) (h p a w s)
/-- An operation that only computes; the answer told weaker. -/
theorem gsl {P : Program} {td : Tab} (ht : td.ok P) {ops : Array Oper} {i : Nat} {o : Oper} {τ : Nat → AV} {X : XH} {B : List (List Nat)} {R : RL} {l : Pi} {c : Prop} {r r' : AV} {d : Nat} {k : (Nat → AV) → XH → Prop} (hi : ops[i]? = Option.some o) (hg : o.guard = none) (hd : o.dst = Option.some d) (hp : ∀ X', lookR R i X' → pval td τ X' o.op = Option.some (c, r)) (hR : lookR R i X) (hc : c) (hr : Le r r') (h : GSteps P td ops B R l (updd τ (Option.some d) r') X k) : GSteps P td ops B R ((i, .D) :: l) τ X k := by
  refine ⟨o, r', hi, hR, fun X' hX' => ?_, by rw [hd]; exact h⟩
  unfold EStep; rw [hg]
  exact AOp.le (AOp_pval ht (hp X' hX') hc ⟨rfl, rfl⟩) hr
theorem Own.held {X : XH} {e : TypeId} {sz n q : Nat} {a : AV} {cs : List AV} (h : Own X e sz a n cs) (hq : a.at? q) : X q ≠ none := by
  intro hn; exact Own.nat h hn hq
theorem own_cell {α : Type} (f : α → List AV) (d : α) {sz : Nat} (hf : ∀ x, (f x).length = sz) (xs : List α) (pad : List AV) (j o : Nat) (ho : o < sz) {z : List Value} (h : j < xs.length) : cellAt (xs.flatMap f ++ pad) (j * sz + o) z = (f (xs.getD j d)).getD o .any := by
  rw [← flat_cell_lt f d hf xs j o ho (z := z) h]
  unfold cellAt
  simp only [List.getD_eq_getElem?_getD]
  rw [List.getElem?_append_left]
  rw [flat_len f sz hf]
  have : (j + 1) * sz ≤ xs.length * sz := Nat.mul_le_mul_right _ h
  rw [Nat.succ_mul] at this
  omega
theorem own_cells {α : Type} (f : α → List AV) (d : α) {sz : Nat} (hf : ∀ x, (f x).length = sz) (xs : List α) (pad : List AV) (j : Nat) {z : List Value} (h : j < xs.length) : cellsAt (xs.flatMap f ++ pad) (j * sz) sz z = f (xs.getD j d) := by
  rw [← flat_at_lt f d hf xs j (z := z) h]
  unfold cellsAt
  have h1 : (j + 1) * sz ≤ xs.length * sz := Nat.mul_le_mul_right _ h
  rw [Nat.succ_mul] at h1
  rw [List.length_append, flat_len f sz hf, if_pos (by omega), if_pos (by omega), List.drop_append_of_le_length (by rw [flat_len f sz hf]; omega), List.take_append_of_le_length]
  rw [List.length_drop, flat_len f sz hf]; omega
theorem pval_len {td : Tab} {τ : Nat → AV} {X : XH} {t e e2 : TypeId} {sz n : Nat} {x : Operand} {cs : List AV} (hd : (td t).d = .slice e2) (hown : Own X e sz (ev τ x) n cs) : ∃ c : Prop, c ∧ pval td τ X (.call { callee := .builtin .len, args := #[x], argTypes := #[t] }) = Option.some (c, .v (.int .i64 n)) := by
  obtain ⟨h1, h2⟩ := hown
  rcases h2 with ⟨h3, rfl⟩ | ⟨q, c, pad, h3, _⟩
  · exact ⟨True, trivial, by simp [pval, pBuiltin, pLen, h3, hd]⟩
  · exact ⟨True, trivial, by simp [pval, pBuiltin, pLen, h3, hd]⟩
/-- The length of a slice of one's own. -/
theorem es_len {P : Program} {td : Tab} (ht : td.ok P) {n : Nat} {ops : Array Oper} {i : Nat} {rest : List Nat} {o : Oper} {τ : Nat → AV} {X : XH} {d : Nat} {t e e2 : TypeId} {sz : Nat} {x : Operand} {cs : List AV} {k : (Nat → AV) → Prop} (hi : ops[i]? = Option.some o) (hg : o.guard = none) (hd : o.dst = Option.some d) (ho : o.op = .call { callee := .builtin .len, args := #[x], argTypes := #[t] }) (htd : (td t).d = .slice e2) (hown : Own X e sz (ev τ x) n cs)
    (h : ESteps P ops X rest (updd τ (Option.some d) (.v (.int .i64 n))) k) : ESteps P ops X (i :: rest) τ k := by
  obtain ⟨c, hc, hp⟩ := pval_len (td := td) (t := t) htd hown
  exact es ht hi hg hd (by rw [ho]; exact hp) hc rfl h
theorem st_len {P : Program} {td : Tab} (ht : td.ok P) {N : Nat} {ops : Array Oper} {i : Nat} {rest : List Nat} {o : Oper} {Q : Post} {τ : Nat → AV} {X : XH} {d n : Nat} {t e e2 : TypeId} {sz : Nat} {x : Operand} {cs : List AV} (hi : ops[i]? = Option.some o) (hg : o.guard = none) (hok : okOp N o = true) (hd : o.dst = Option.some d) (ho : o.op = .call { callee := .builtin .len, args := #[x], argTypes := #[t] }) (htd : (td t).d = .slice e2) (hown : Own X e sz (ev τ x) n cs)
    (h : AOps P N ops rest Q (updd τ (Option.some d) (.v (.int .i64 n))) X) : AOps P N ops (i :: rest) Q τ X := by
  obtain ⟨c, hc, hp⟩ := pval_len (td := td) (t := t) htd hown
  exact st ht hi hg hok hd (by rw [ho]; exact hp) hc h
/-- What a caller tells of its arguments and memory may be told otherwise ahead of a call. -/
theorem ACalls.gs {P : Program} {f : FuncId} {avs avs' : List AV} {X X' : XH} {Q : AV → XH → Prop} (h : GS avs X avs' X') (hc : ACalls P f avs' X' Q) : ACalls P f avs X Q := by
  intro p w vs hr hx hb
  obtain ⟨p', a1, a2, a3, a4, a5, a6⟩ := h p w vs hr hx hb
  refine (hc p' w vs a4 a5 a2).mono ?_
  rintro e w' ⟨v, p2, av, X2, rfl, b1, b2, b3, f, q⟩
  refine ⟨v, p2, av, X2, rfl, b1, b2, b3, Fr.trans ⟨a1, fun _ _ _ => rfl, fun b hb => .inl (a6 b hb), Nat.le_refl _, fun b hb => ?_, Outs.refl _⟩ f, q⟩
  rcases a3 b hb with h | h
  · exact .inl h
  · exact .inr (.inl h)
end Go.Proofs.YtgnfjahkhhkmoaaDoor.V
