/- A region whose order the machine draws, in general: operations that only yield data (D), wherever they fall; operations that change what is held (W), one behind the other; new variables (A), which may come early. -/
import Derived.Test.YtgnfjahkhhkmoaaDoorVDraw
namespace Go.Proofs.YtgnfjahkhhkmoaaDoor.V
open Go
set_option linter.unusedVariables false
set_option linter.unusedSimpArgs false

inductive K where | D | W | A
  deriving DecidableEq
abbrev Pi := List (Nat × K)

def pairOk (ops : Array Oper) (B : List (List Nat)) (x y : Nat × K) : Bool :=
  (x.1 != y.1) && (if x.2 == .D || y.2 == .A then true else (bef B y.1).contains x.1) &&
  (dstOf ops x.1 == none || dstOf ops x.1 != dstOf ops y.1) &&
  ((readsOf ops x.1).all fun t => dstOf ops y.1 != some t || (bef B y.1).contains x.1) &&
  ((readsOf ops y.1).all fun t => dstOf ops x.1 != some t || (bef B y.1).contains x.1)
def pairsOk (ops : Array Oper) (B : List (List Nat)) : Pi → Bool
  | [] => true
  | x :: l => l.all (pairOk ops B x) && pairsOk ops B l
def edgesOk (ops : Array Oper) (B : List (List Nat)) : Bool :=
  ((List.range ops.size).all fun j => (bef B j).all fun x => (edgesOf ops j).any fun e => e == x || (bef B e).contains x) &&
  ((List.range ops.size).all fun j => (edgesOf ops j).all fun e => decide (e < j))
def piOk (ops : Array Oper) (B : List (List Nat)) (π : Pi) : Bool :=
  pairsOk ops B π && edgesOk ops B && ((List.range ops.size).all fun i => (π.map (·.1)).contains i) && decide (π.length = ops.size)

structure PairOk (ops : Array Oper) (B : List (List Nat)) (x y : Nat × K) : Prop where
  ne : x.1 ≠ y.1
  ord : x.2 ≠ .D → y.2 ≠ .A → x.1 ∈ bef B y.1
  dst : ∀ t, dstOf ops x.1 = some t → dstOf ops y.1 ≠ some t
  war : ∀ t ∈ readsOf ops x.1, dstOf ops y.1 = some t → x.1 ∈ bef B y.1
  raw : ∀ t ∈ readsOf ops y.1, dstOf ops x.1 = some t → x.1 ∈ bef B y.1
theorem pairOk_spec {ops : Array Oper} {B : List (List Nat)} {x y : Nat × K} (h : pairOk ops B x y = true) : PairOk ops B x y := by
  unfold pairOk at h
  simp only [Bool.and_eq_true] at h
  obtain ⟨⟨⟨⟨h0, h1⟩, h2⟩, h3⟩, h4⟩ := h
  refine ⟨by simpa using h0, fun hx hy => ?_, fun t ht hy => ?_, fun t ht hy => ?_, fun t ht hx => ?_⟩
  · rw [if_neg (by simp [hx, hy])] at h1
    simpa using h1
  · rw [ht, hy] at h2; simp at h2
  · have := List.all_eq_true.mp h3 t ht
    rw [hy] at this; simpa using this
  · have := List.all_eq_true.mp h4 t ht
    rw [hx] at this; simpa using this
structure EdgesOk (ops : Array Oper) (B : List (List Nat)) : Prop where
  clo : ∀ j, j < ops.size → ∀ x ∈ bef B j, ∃ e ∈ edgesOf ops j, e = x ∨ x ∈ bef B e
  edge : ∀ j, j < ops.size → ∀ e ∈ edgesOf ops j, e < j
theorem edgesOk_spec {ops : Array Oper} {B : List (List Nat)} (h : edgesOk ops B = true) : EdgesOk ops B := by
  unfold edgesOk at h
  simp only [Bool.and_eq_true, List.all_eq_true, List.mem_range, List.any_eq_true, Bool.or_eq_true, beq_iff_eq, decide_eq_true_eq, List.contains_iff_mem] at h
  exact ⟨h.1, h.2⟩



theorem ready_spec2 {ops : Array Oper} {B : List (List Nat)} (hk : EdgesOk ops B) {l : Array Bool} (hl : l.size = ops.size) {i : Nat} (h : i ∈ Region.ready .any ops l) (hcl : ∀ j, asSet l j = true → ∀ x ∈ bef B j, asSet l x = true) :
    i < ops.size ∧ asSet l i = false ∧ ∀ x ∈ bef B i, asSet l x = true := by
  unfold Region.ready at h
  simp only [List.mem_filter, List.mem_range, Bool.and_eq_true, Bool.not_eq_true'] at h
  obtain ⟨h1, h2, h3⟩ := h
  refine ⟨h1, ?_, fun x hx => ?_⟩
  · unfold asSet
    have : l.getD i true = l.getD i false := by simp [Array.getD_eq_getD_getElem?, hl, h1]
    rw [← this]; exact h2
  · obtain ⟨e, he, h4⟩ := hk.clo i h1 x hx
    have hS : asSet l e = true := by
      have ho : ops[i]? = some ops[i] := Array.getElem?_eq_getElem h1
      rw [ho] at h3
      simp only [Option.map_some, Option.getD_some] at h3
      unfold edgesOf at he
      rw [ho] at he
      simp only [List.mem_map, List.mem_filter] at he
      obtain ⟨ed, ⟨hm, hb⟩, rfl⟩ := he
      have := Array.all_eq_true_iff_forall_mem.mp h3 ed (by simpa using hm)
      simp only [hb, Bool.not_true, Bool.false_or] at this
      exact this
    rcases h4 with rfl | h4
    · exact hS
    · exact hcl e hS x h4
theorem ready_of2 {ops : Array Oper} {B : List (List Nat)} (hk : EdgesOk ops B) {l : Array Bool} (hl : l.size = ops.size) {j : Nat} (hj : j < ops.size) (h0 : asSet l j = false) (hS : ∀ i, i < j → asSet l i = true) : j ∈ Region.ready .any ops l := by
  unfold Region.ready
  simp only [List.mem_filter, List.mem_range, Bool.and_eq_true, Bool.not_eq_true']
  refine ⟨hj, ?_, ?_⟩
  · unfold asSet at h0
    simp only [Array.getD_eq_getD_getElem?] at h0 ⊢
    rw [Array.getElem?_eq_getElem (by omega)] at h0 ⊢
    exact h0
  · have ho : ops[j]? = some ops[j] := Array.getElem?_eq_getElem hj
    rw [ho]
    simp only [Option.map_some, Option.getD_some]
    refine Array.all_eq_true_iff_forall_mem.mpr fun ed hed => ?_
    cases hb : Region.binds .any ed with
    | false => simp
    | true =>
      have he : ed.on ∈ edgesOf ops j := by
        unfold edgesOf
        rw [ho]
        exact List.mem_map.mpr ⟨ed, List.mem_filter.mpr ⟨by simpa using hed, hb⟩, rfl⟩
      have := hS _ (hk.edge j hj _ he)
      unfold asSet at this
      simp [this]

/-- What single operations rely on while they wait. -/
abbrev RL := List (Nat × (XH → Prop))
def lookR : RL → Nat → XH → Prop
  | [], _, _ => True
  | (j, r) :: l, i, X => bif Nat.beq i j then r X else lookR l i X
def keepR : RL → List Nat → XH → XH → Prop
  | [], _, _, _ => True
  | (j, r) :: l, b, X, X' => (bif b.contains j then True else (r X → r X')) ∧ keepR l b X X'
theorem keepR_spec {b : List Nat} {X X' : XH} {j : Nat} (hj : b.contains j = false) : ∀ {l : RL}, keepR l b X X' → lookR l j X → lookR l j X'
  | [], _, _ => trivial
  | (j0, r) :: l, hk, hl => by
    obtain ⟨h1, h2⟩ := hk
    unfold lookR at hl ⊢
    cases e : Nat.beq j j0 with
    | true =>
      have : j = j0 := Nat.eq_of_beq_eq_true e
      subst this
      rw [e] at hl
      rw [hj] at h1
      exact h1 hl
    | false =>
      rw [e] at hl
      exact keepR_spec hj h2 hl
/-- The steps in an order of our own. -/
def GSteps (P : Program) (td : Tab) (ops : Array Oper) (B : List (List Nat)) (R : RL) : Pi → (Nat → AV) → XH → ((Nat → AV) → XH → Prop) → Prop
  | [], τ, X, k => k τ X
  | (i, .D) :: l, τ, X, k => ∃ o r, ops[i]? = some o ∧ lookR R i X ∧ (∀ X', lookR R i X' → EStep P ops o τ X' r) ∧ GSteps P td ops B R l (updd τ o.dst r) X k
  | (i, .W) :: l, τ, X, k => ∃ o, ops[i]? = some o ∧ o.guard = none ∧ AOp P o τ X fun av X' => keepR R (bef B i) X X' ∧ GSteps P td ops B R l (updd τ o.dst av) X' k
  | (i, .A) :: l, τ, X, k => ∃ o t, ops[i]? = some o ∧ o.guard = none ∧ o.op = .alloc t ∧ (td t).d.known = true ∧
      ∀ r, X r = none → keepR R [] X (X.put r ⟨t, zeros (td t)⟩) ∧ GSteps P td ops B R l (updd τ o.dst (.v (.pointer (some ⟨r, 0, none⟩)))) (X.put r ⟨t, zeros (td t)⟩) k

theorem pairs_split {ops : Array Oper} {B : List (List Nat)} : ∀ {π : Pi}, pairsOk ops B π = true → ∀ {pre post : Pi} {x y : Nat × K}, π = pre ++ x :: post → y ∈ post → PairOk ops B x y := by
  intro π
  induction π with
  | nil => intro _ pre post x y h; simp at h
  | cons z l ih =>
    intro h pre post x y he hy
    simp only [pairsOk, Bool.and_eq_true] at h
    cases pre with
    | nil =>
      simp only [List.nil_append, List.cons.injEq] at he
      obtain ⟨rfl, rfl⟩ := he
      exact pairOk_spec (List.all_eq_true.mp h.1 y hy)
    | cons q pre =>
      simp only [List.cons_append, List.cons.injEq] at he
      exact ih h.2 he.2 hy

abbrev Ents := List (Nat × AV)
/-- What a temporary is told to hold when those of E that are in S have run. -/
def curE (ops : Array Oper) (τ : Nat → AV) (S : Nat → Bool) (E : Ents) (t : Nat) : AV :=
  match E.find? fun e => S e.1 && (dstOf ops e.1 == some t) with
  | some e => e.2
  | none => τ t
abbrev envE (ops : Array Oper) (τ : Nat → AV) (E : Ents) : Nat → AV := curE ops τ (fun _ => true) E
theorem curE_of {ops : Array Oper} {τ : Nat → AV} {S : Nat → Bool} {E : Ents} {e : Nat × AV} {t : Nat} (hi : e ∈ E) (hS : S e.1 = true) (hd : dstOf ops e.1 = some t) (hu : ∀ e' ∈ E, dstOf ops e'.1 = some t → e' = e) : curE ops τ S E t = e.2 := by
  unfold curE
  cases h : E.find? fun e => S e.1 && (dstOf ops e.1 == some t) with
  | none =>
    have := List.find?_eq_none.mp h e hi
    simp [hS, hd] at this
  | some j =>
    have h1 := List.find?_some h
    have h2 := List.mem_of_find?_eq_some h
    simp only [Bool.and_eq_true, beq_iff_eq] at h1
    rw [hu j h2 h1.2]
theorem curE_none {ops : Array Oper} {τ : Nat → AV} {S : Nat → Bool} {E : Ents} {t : Nat} (h : ∀ e ∈ E, S e.1 = true → dstOf ops e.1 ≠ some t) : curE ops τ S E t = τ t := by
  unfold curE
  cases h' : E.find? fun e => S e.1 && (dstOf ops e.1 == some t) with
  | none => rfl
  | some j =>
    have h1 := List.find?_some h'
    have h2 := List.mem_of_find?_eq_some h'
    simp only [Bool.and_eq_true, beq_iff_eq] at h1
    exact absurd h1.2 (h j h2 h1.1)
theorem curE_ext {ops : Array Oper} {τ : Nat → AV} {S S' : Nat → Bool} {E E' : Ents} {t : Nat} (hu : ∀ e ∈ E', ∀ e' ∈ E', dstOf ops e.1 = some t → dstOf ops e'.1 = some t → e = e')
    (h : ∀ e, dstOf ops e.1 = some t → ((e ∈ E ∧ S e.1 = true) ↔ (e ∈ E' ∧ S' e.1 = true))) : curE ops τ S E t = curE ops τ S' E' t := by
  by_cases hx : ∃ e, e ∈ E ∧ S e.1 = true ∧ dstOf ops e.1 = some t
  · obtain ⟨e, h1, h2, h3⟩ := hx
    obtain ⟨h4, h5⟩ := (h e h3).mp ⟨h1, h2⟩
    rw [curE_of h4 h5 h3 (fun e' he' hd' => hu e' he' e h4 hd' h3)]
    unfold curE
    cases h' : E.find? fun e => S e.1 && (dstOf ops e.1 == some t) with
    | none => have := List.find?_eq_none.mp h' e h1; simp [h2, h3] at this
    | some j =>
      have g1 := List.find?_some h'
      have g2 := List.mem_of_find?_eq_some h'
      simp only [Bool.and_eq_true, beq_iff_eq] at g1
      have g3 := (h j g1.2).mp ⟨g2, g1.1⟩
      rw [hu j g3.1 e h4 g1.2 h3]
  · rw [curE_none (fun e h1 h2 h3 => hx ⟨e, h1, h2, h3⟩), curE_none (fun e h1 h2 h3 => hx ⟨e, ((h e h3).mpr ⟨h1, h2⟩).1, ((h e h3).mpr ⟨h1, h2⟩).2, h3⟩)]
theorem envE_snoc {ops : Array Oper} {τ : Nat → AV} {E : Ents} {i : Nat} {r : AV} (h : ∀ e ∈ E, ∀ t, dstOf ops e.1 = some t → dstOf ops i ≠ some t) : envE ops τ (E ++ [(i, r)]) = updd (envE ops τ E) (dstOf ops i) r := by
  funext t
  cases hd : dstOf ops i with
  | none =>
    simp only [updd, envE, curE, List.find?_append, List.find?_cons, List.find?_nil, hd]
    simp
  | some d =>
    simp only [updd, envE, curE, List.find?_append, List.find?_cons, List.find?_nil, hd]
    by_cases e : t = d
    · subst e
      have : E.find? (fun e => true && (dstOf ops e.1 == some t)) = none := List.find?_eq_none.mpr (fun e he h2 => by
        simp only [Bool.true_and, beq_iff_eq] at h2
        exact h e he t h2 hd)
      rw [this]; simp
    · have : (some d == some t) = false := by simp; exact fun h => e h.symm
      rw [if_neg e]; simp [this]

abbrev Dn := List ((Nat × K) × AV)
abbrev Dn.ents (d : Dn) : Ents := d.map fun x => (x.1.1, x.2)
abbrev pents (l : List (Nat × Nat)) : Ents := l.map fun e => (e.1, AV.v (.pointer (some ⟨e.2, 0, none⟩)))

structure St (P : Program) (n : Nat) (td : Tab) (ops : Array Oper) (B : List (List Nat)) (π : Pi) (R : RL) (k : (Nat → AV) → XH → Prop) (τ : Nat → AV) (p0 : PB) (X0 : XH) (w0 : World)
    (l : Array Bool) (a : Act) (w : World) (done : Dn) (rest : Pi) (pend : List (Nat × Nat)) (X : XH) (p : PB) : Prop where
  eq : π = done.map (·.1) ++ rest
  exe : ∀ x ∈ done, x.1.2 ≠ .D → asSet l x.1.1 = true
  unex : ∀ x ∈ rest, x.2 ≠ .A → asSet l x.1 = false
  pnd : ∀ x ∈ rest, asSet l x.1 = true → ∃ r, (x.1, r) ∈ pend
  pin : ∀ e ∈ pend, (e.1, K.A) ∈ rest ∧ asSet l e.1 = true
  puq : ∀ e ∈ pend, ∀ e' ∈ pend, e.1 = e'.1 → e = e'
  pub : ∀ e ∈ pend, ∀ e' ∈ pend, e.2 = e'.2 → e = e'
  pblk : ∀ e ∈ pend, ∃ o t, ops[e.1]? = some o ∧ o.op = .alloc t ∧ w.heap[e.2]? = some (.cells (td t).zero.toArray t (0, 0)) ∧ ¬ p e.2 ∧ X e.2 = none ∧ w0.heap.size ≤ e.2
  spec : GSteps P td ops B R rest (envE ops τ done.ents) X k
  todo : ∀ pre x post, done = pre ++ x :: post → asSet l x.1.1 = false → ∃ o, ops[x.1.1]? = some o ∧ (∀ X', lookR R x.1.1 X' → EStep P ops o (envE ops τ (Dn.ents pre)) X' x.2) ∧ lookR R x.1.1 X
  fr : Fr p0 X0 w0 p X w
  xs : XSim p X w
  pb : PBk p w
  sz : a.tmps.size = n
  df : a.defers = []
  tmps : ∀ t, t < n → Rel p w (curE ops τ (asSet l) (done.ents ++ pents pend) t) (a.tmps.getD t undef)
  lsz : l.size = ops.size
  clo : ∀ j, asSet l j = true → ∀ x ∈ bef B j, asSet l x = true

theorem pairs_idx {ops : Array Oper} {B : List (List Nat)} {π : Pi} (h : pairsOk ops B π = true) : ∀ x ∈ π, ∀ y ∈ π, x ≠ y → (PairOk ops B x y ∨ PairOk ops B y x) := by
  induction π with
  | nil => intro x hx; simp at hx
  | cons z l ih =>
    simp only [pairsOk, Bool.and_eq_true] at h
    intro x hx y hy hne
    rcases List.mem_cons.mp hx with rfl | hx2
    · rcases List.mem_cons.mp hy with rfl | hy2
      · exact absurd rfl hne
      · exact .inl (pairOk_spec (List.all_eq_true.mp h.1 y hy2))
    · rcases List.mem_cons.mp hy with rfl | hy2
      · exact .inr (pairOk_spec (List.all_eq_true.mp h.1 x hx2))
      · exact ih h.2 x hx2 y hy2 hne
theorem pairs_dst {ops : Array Oper} {B : List (List Nat)} {π : Pi} (h : pairsOk ops B π = true) {x y : Nat × K} (hx : x ∈ π) (hy : y ∈ π) {t : Nat} (h1 : dstOf ops x.1 = some t) (h2 : dstOf ops y.1 = some t) : x = y := by
  by_cases e : x = y
  · exact e
  · rcases pairs_idx h x hx y hy e with h | h
    · exact absurd h2 (h.dst t h1)
    · exact absurd h1 (h.dst t h2)
theorem pairs_ne {ops : Array Oper} {B : List (List Nat)} {π : Pi} (h : pairsOk ops B π = true) {x y : Nat × K} (hx : x ∈ π) (hy : y ∈ π) (h1 : x.1 = y.1) : x = y := by
  by_cases e : x = y
  · exact e
  · rcases pairs_idx h x hx y hy e with h | h
    · exact absurd h1 h.ne
    · exact absurd h1.symm h.ne

/-- Two positions of π are apart. -/
theorem pairs_app {ops : Array Oper} {B : List (List Nat)} {l l' : Pi} (h : pairsOk ops B (l ++ l') = true) : ∀ x ∈ l, ∀ y ∈ l', PairOk ops B x y := by
  intro x hx y hy
  obtain ⟨a, b, rfl⟩ := List.append_of_mem hx
  exact pairs_split (π := (a ++ x :: b) ++ l') h (pre := a) (post := b ++ l') (by simp) (List.mem_append_right _ hy)

section st
variable {P : Program} {n : Nat} {td : Tab} {ops : Array Oper} {B : List (List Nat)} {π : Pi} {R : RL} {k : (Nat → AV) → XH → Prop} {τ : Nat → AV} {p0 : PB} {X0 : XH} {w0 : World}
  {l : Array Bool} {a : Act} {w : World} {done : Dn} {rest : Pi} {pend : List (Nat × Nat)} {X : XH} {p : PB}

theorem Dn.uq (hp : pairsOk ops B (done.map (·.1)) = true) : ∀ x ∈ done, ∀ y ∈ done, ∀ t, dstOf ops x.1.1 = some t → dstOf ops y.1.1 = some t → x = y := by
  induction done with
  | nil => intro x hx; simp at hx
  | cons z d ih =>
    simp only [List.map_cons, pairsOk, Bool.and_eq_true] at hp
    intro x hx y hy t h1 h2
    rcases List.mem_cons.mp hx with rfl | hx2
    · rcases List.mem_cons.mp hy with rfl | hy2
      · rfl
      · exact absurd h2 ((pairOk_spec (List.all_eq_true.mp hp.1 y.1 (List.mem_map_of_mem hy2))).dst t h1)
    · rcases List.mem_cons.mp hy with rfl | hy2
      · exact absurd h1 ((pairOk_spec (List.all_eq_true.mp hp.1 x.1 (List.mem_map_of_mem hx2))).dst t h2)
      · exact ih hp.2 x hx2 y hy2 t h1 h2
theorem pairs_left {l l' : Pi} (h : pairsOk ops B (l ++ l') = true) : pairsOk ops B l = true := by
  induction l with
  | nil => rfl
  | cons x l ih =>
    simp only [List.cons_append, pairsOk, Bool.and_eq_true, List.all_append] at h ⊢
    exact ⟨h.1.1, ih h.2⟩

theorem ents_uq (hp : pairsOk ops B π = true) (eq : π = done.map (·.1) ++ rest) (pin : ∀ e ∈ pend, (e.1, K.A) ∈ rest) (puq : ∀ e ∈ pend, ∀ e' ∈ pend, e.1 = e'.1 → e = e') {t : Nat} :
    ∀ e ∈ done.ents ++ pents pend, ∀ e' ∈ done.ents ++ pents pend, dstOf ops e.1 = some t → dstOf ops e'.1 = some t → e = e' := by
  subst eq
  have ha := pairs_app hp
  have key1 : ∀ e ∈ done.ents, ∀ e' ∈ done.ents, dstOf ops e.1 = some t → dstOf ops e'.1 = some t → e = e' := by
    intro e he e' he' h1 h2
    obtain ⟨x, hx, rfl⟩ := List.mem_map.mp he
    obtain ⟨y, hy, rfl⟩ := List.mem_map.mp he'
    rw [Dn.uq (pairs_left hp) x hx y hy t h1 h2]
  have key2 : ∀ e ∈ done.ents, ∀ e' ∈ pents pend, dstOf ops e.1 = some t → dstOf ops e'.1 = some t → False := by
    intro e he e' he' h1 h2
    obtain ⟨x, hx, rfl⟩ := List.mem_map.mp he
    obtain ⟨y, hy, rfl⟩ := List.mem_map.mp he'
    exact (ha x.1 (List.mem_map_of_mem hx) (y.1, K.A) (pin y hy)).dst t h1 h2
  have key3 : ∀ e ∈ pents pend, ∀ e' ∈ pents pend, dstOf ops e.1 = some t → dstOf ops e'.1 = some t → e = e' := by
    intro e he e' he' h1 h2
    obtain ⟨x, hx, rfl⟩ := List.mem_map.mp he
    obtain ⟨y, hy, rfl⟩ := List.mem_map.mp he'
    have := pairs_dst hp (x := (x.1, K.A)) (y := (y.1, K.A)) (List.mem_append_right _ (pin x hx)) (List.mem_append_right _ (pin y hy)) h1 h2
    rw [puq x hx y hy (by simpa using this)]
  intro e he e' he' h1 h2
  rcases List.mem_append.mp he with he | he <;> rcases List.mem_append.mp he' with he' | he'
  · exact key1 e he e' he' h1 h2
  · exact (key2 e he e' he' h1 h2).elim
  · exact (key2 e' he' e he h2 h1).elim
  · exact key3 e he e' he' h1 h2

theorem St.uq (hp : pairsOk ops B π = true) (s : St P n td ops B π R k τ p0 X0 w0 l a w done rest pend X p) {t : Nat} :
    ∀ e ∈ done.ents ++ pents pend, ∀ e' ∈ done.ents ++ pents pend, dstOf ops e.1 = some t → dstOf ops e'.1 = some t → e = e' :=
  ents_uq hp s.eq (fun e he => (s.pin e he).1) s.puq

/-- What has run is accounted for. -/
theorem St.norm (hp : pairsOk ops B π = true) : ∀ (rest : Pi) (done : Dn) (pend : List (Nat × Nat)) (X : XH), St P n td ops B π R k τ p0 X0 w0 l a w done rest pend X p →
    ∃ done' rest' pend' X', St P n td ops B π R k τ p0 X0 w0 l a w done' rest' pend' X' p ∧ (∀ x r, rest' = x :: r → x.2 ≠ .D ∧ asSet l x.1 = false) := by
  intro rest
  induction rest with
  | nil => intro done pend X s; exact ⟨done, [], pend, X, s, fun x r h => by simp at h⟩
  | cons x rest ih =>
    intro done pend X s
    obtain ⟨i, K⟩ := x
    have hp' := hp
    rw [s.eq] at hp'
    have ha := pairs_app hp'
    have hsnoc : ∀ r, envE ops τ (Dn.ents (done ++ [((i, K), r)])) = updd (envE ops τ done.ents) (dstOf ops i) r := by
      intro r
      have : Dn.ents (done ++ [((i, K), r)]) = done.ents ++ [(i, r)] := by simp [Dn.ents]
      rw [this]
      refine envE_snoc fun e he t h1 => ?_
      obtain ⟨y, hy, rfl⟩ := List.mem_map.mp he
      exact (ha y.1 (List.mem_map_of_mem hy) (i, K) (by simp)).dst t h1
    have hni : ∀ y ∈ rest, y.1 ≠ i := by
      intro y hy e
      exact (pairs_split (π := done.map (·.1) ++ (i, K) :: rest) hp' (pre := done.map (·.1)) (post := rest) rfl hy).ne e.symm
    cases K with
    | W => exact ⟨done, _, pend, X, s, fun x r h => by simp only [List.cons.injEq] at h; obtain ⟨rfl, rfl⟩ := h; exact ⟨by simp, s.unex _ (by simp) (by simp)⟩⟩
    | D =>
      obtain ⟨o, r, ho, hRi, hE, hG⟩ := s.spec
      have hun := s.unex (i, .D) (by simp) (by simp)
      have hod : dstOf ops i = o.dst := by simp [dstOf, ho]
      refine ih (done ++ [((i, .D), r)]) pend X { s with
        eq := by rw [s.eq]; simp
        exe := fun x hx hD => ?_
        unex := fun x hx => s.unex x (by simp [hx])
        pnd := fun x hx => s.pnd x (by simp [hx])
        pin := fun e he => ⟨?_, (s.pin e he).2⟩
        spec := by rw [hsnoc, hod]; exact hG
        todo := fun pre x post he hx => ?_
        tmps := fun t ht => ?_ }
      · rcases List.mem_append.mp hx with hx | hx
        · exact s.exe x hx hD
        · simp only [List.mem_singleton] at hx; subst hx; exact absurd rfl hD
      · have := (s.pin e he).1
        simpa using this
      · rcases List.append_eq_append_iff.mp he with ⟨m, h1, h2⟩ | ⟨m, h1, h2⟩
        · cases m with
          | nil =>
            simp only [List.nil_append, List.cons.injEq] at h2
            obtain ⟨rfl, rfl⟩ := h2
            simp only [List.append_nil] at h1
            subst h1
            exact ⟨o, ho, hE, hRi⟩
          | cons y m =>
            simp at h2
        · cases m with
          | nil =>
            simp only [List.append_nil] at h1
            subst h1
            simp only [List.nil_append, List.cons.injEq] at h2
            obtain ⟨rfl, rfl⟩ := h2
            exact ⟨o, ho, hE, hRi⟩
          | cons y m =>
            simp only [List.cons_append, List.cons.injEq] at h2
            obtain ⟨rfl, h2⟩ := h2
            exact s.todo pre x m h1 hx
      · have : curE ops τ (asSet l) (Dn.ents (done ++ [((i, .D), r)]) ++ pents pend) t = curE ops τ (asSet l) (done.ents ++ pents pend) t := by
          refine curE_ext (s.uq hp) fun e hd => ?_
          simp only [Dn.ents, List.map_append, List.map_cons, List.map_nil, List.mem_append, List.mem_singleton]
          constructor
          · rintro ⟨(h | h) | h, h2⟩
            · exact ⟨.inl h, h2⟩
            · subst h; rw [hun] at h2; exact absurd h2 (by simp)
            · exact ⟨.inr h, h2⟩
          · rintro ⟨h | h, h2⟩
            · exact ⟨.inl (.inl h), h2⟩
            · exact ⟨.inr h, h2⟩
        rw [this]; exact s.tmps t ht
    | A =>
      cases hx : asSet l i with
      | false => exact ⟨done, _, pend, X, s, fun x r h => by simp only [List.cons.injEq] at h; obtain ⟨rfl, rfl⟩ := h; exact ⟨by simp, hx⟩⟩
      | true =>
        obtain ⟨q, hq⟩ := s.pnd (i, .A) (by simp) hx
        obtain ⟨o, t, ho, hg, hot, hkn, hG⟩ := s.spec
        obtain ⟨o', t', ho', hot', hheap, hnp, hXn, hge⟩ := s.pblk _ hq
        simp only [] at ho' hheap hnp hXn hge
        rw [ho] at ho'; simp only [Option.some.injEq] at ho'; subst ho'
        rw [hot] at hot'; simp only [Op.alloc.injEq] at hot'; subst hot'
        obtain ⟨hR, hG⟩ := hG q hXn
        have hod : dstOf ops i = o.dst := by simp [dstOf, ho]
        have hpe : ∀ e, e ∈ pend.filter (fun e => e.1 != i) ↔ e ∈ pend ∧ e.1 ≠ i := fun e => by simp
        refine ih (done ++ [((i, .A), .v (.pointer (some ⟨q, 0, none⟩)))]) (pend.filter fun e => e.1 != i) (X.put q ⟨t, zeros (td t)⟩) { s with
          eq := by rw [s.eq]; simp
          exe := fun x hx' hD => ?_
          unex := fun x hx => s.unex x (by simp [hx])
          pnd := fun x hx' hS => ?_
          pin := fun e he => ⟨?_, (s.pin e ((hpe e).mp he).1).2⟩
          puq := fun e he e' he' => s.puq e ((hpe e).mp he).1 e' ((hpe e').mp he').1
          pub := fun e he e' he' => s.pub e ((hpe e).mp he).1 e' ((hpe e').mp he').1
          pblk := fun e he => ?_
          spec := by rw [hsnoc, hod]; exact hG
          todo := fun pre x post he hx' => ?_
          fr := ?_
          xs := ?_
          tmps := fun u hu => ?_ }
        · rcases List.mem_append.mp hx' with hx' | hx'
          · exact s.exe x hx' hD
          · simp only [List.mem_singleton] at hx'; subst hx'; exact hx
        · obtain ⟨r, hr⟩ := s.pnd x (by simp [hx']) hS
          exact ⟨r, (hpe _).mpr ⟨hr, hni x hx'⟩⟩
        · have := (s.pin e ((hpe e).mp he).1).1
          rcases List.mem_cons.mp this with h | h
          · simp only [Prod.mk.injEq] at h; exact absurd h.1 ((hpe e).mp he).2
          · exact h
        · obtain ⟨he1, he2⟩ := (hpe e).mp he
          obtain ⟨o', t', h1, h2, h3, h4, h5, h6⟩ := s.pblk e he1
          refine ⟨o', t', h1, h2, h3, h4, ?_, h6⟩
          simp only [XH.put]
          rw [if_neg]
          · exact h5
          · intro hh; exact he2 (by rw [s.pub e he1 (i, q) hq hh])
        · rcases List.append_eq_append_iff.mp he with ⟨m, h1, h2⟩ | ⟨m, h1, h2⟩
          · cases m with
            | nil =>
              simp only [List.nil_append, List.cons.injEq] at h2
              obtain ⟨rfl, rfl⟩ := h2
              simp only [] at hx'
              rw [hx] at hx'; exact absurd hx' (by simp)
            | cons y m =>
              simp at h2
          · cases m with
            | nil =>
              simp only [List.nil_append, List.cons.injEq] at h2
              obtain ⟨rfl, rfl⟩ := h2
              simp only [] at hx'
              rw [hx] at hx'; exact absurd hx' (by simp)
            | cons y m =>
              simp only [List.cons_append, List.cons.injEq] at h2
              obtain ⟨rfl, h2⟩ := h2
              obtain ⟨o2, g1, g2, g3⟩ := s.todo pre x m h1 hx'
              exact ⟨o2, g1, g2, keepR_spec rfl hR g3⟩
        · refine ⟨s.fr.pub, s.fr.same, fun b hb => ?_, s.fr.size, s.fr.newp, s.fr.outs⟩
          simp only [XH.put] at hb
          split at hb
          · rename_i e; subst e; exact .inr hge
          · exact s.fr.own b hb
        · intro r o' hr
          simp only [XH.put] at hr
          split at hr
          · rename_i e; subst e
            simp only [Option.some.injEq] at hr; subst hr
            exact ⟨hnp, _, hheap, zeros_rel p w (td t)⟩
          · exact s.xs r o' hr
        · have : curE ops τ (asSet l) (Dn.ents (done ++ [((i, .A), .v (.pointer (some ⟨q, 0, none⟩)))]) ++ pents (pend.filter fun e => e.1 != i)) u = curE ops τ (asSet l) (done.ents ++ pents pend) u := by
            refine curE_ext (s.uq hp) fun e hd => ?_
            simp only [Dn.ents, pents, List.map_append, List.map_cons, List.map_nil, List.mem_append, List.mem_singleton]
            constructor
            · rintro ⟨(h | h) | h, h2⟩
              · exact ⟨.inl h, h2⟩
              · subst h; exact ⟨.inr (List.mem_map.mpr ⟨(i, q), hq, rfl⟩), h2⟩
              · obtain ⟨y, hy, rfl⟩ := List.mem_map.mp h
                exact ⟨.inr (List.mem_map.mpr ⟨y, ((hpe y).mp hy).1, rfl⟩), h2⟩
            · rintro ⟨h | h, h2⟩
              · exact ⟨.inl (.inl h), h2⟩
              · obtain ⟨y, hy, rfl⟩ := List.mem_map.mp h
                by_cases hyi : y.1 = i
                · have := s.puq y hy (i, q) hq hyi
                  subst this
                  exact ⟨.inl (.inr rfl), h2⟩
                · exact ⟨.inr (List.mem_map.mpr ⟨y, (hpe y).mpr ⟨hy, hyi⟩, rfl⟩), h2⟩
          rw [this]; exact s.tmps u hu

theorem tmps_step {S S' : Nat → Bool} {E E' : Ents} {p' : PB} {X' : XH} {w' : World} (htm : ∀ t, t < n → Rel p w (curE ops τ S E t) (a.tmps.getD t undef)) (f : Fr p X w p' X' w') (xs : XSim p X w) (pb : PBk p w) (sz : a.tmps.size = n) {d : Option Nat} {v : Value} {r : AV} (hr : Rel p' w' r v)
    (h1 : ∀ t, d = some t → curE ops τ S' E' t = r) (h2 : ∀ t, d ≠ some t → curE ops τ S' E' t = curE ops τ S E t) : ∀ t, t < n → Rel p' w' (curE ops τ S' E' t) ((a.put d v).tmps.getD t undef) := by
  intro t ht
  by_cases hd : d = some t
  · rw [h1 t hd, hd]
    have : ((a.put (some t) v).tmps).getD t undef = v := by simp [Act.put, Array.getD_eq_getD_getElem?, sz, ht]
    rw [this]; exact hr
  · rw [h2 t hd]
    have : ((a.put d v).tmps).getD t undef = a.tmps.getD t undef := by
      cases d with
      | none => rfl
      | some d =>
        have hne : ¬ d = t := by intro e; subst e; exact hd rfl
        simp [Act.put, Array.getD_eq_getD_getElem?, Array.getElem?_setIfInBounds, hne]
    rw [this]
    exact Rel.mono f.pub (f.keeps xs pb) _ _ (htm t ht)

theorem reads_eq {pre : Dn} {x0 : Nat × K} {post : Pi} {E : Ents} {S : Nat → Bool} (hp : pairsOk ops B (pre.map (·.1) ++ x0 :: post) = true) (uq : ∀ t, ∀ e ∈ E, ∀ e' ∈ E, dstOf ops e.1 = some t → dstOf ops e'.1 = some t → e = e') (hsub : ∀ e ∈ pre.ents, e ∈ E)
    (hE : ∀ e ∈ E, e ∈ pre.ents ∨ ∃ y ∈ x0 :: post, y.1 = e.1) (h0 : S x0.1 = false) (hcl : ∀ j, S j = true → ∀ x ∈ bef B j, S x = true) (hb : ∀ x ∈ bef B x0.1, S x = true) {t : Nat} (ht : t ∈ readsOf ops x0.1) : curE ops τ S E t = envE ops τ pre.ents t := by
  by_cases hx : ∃ e ∈ pre.ents, dstOf ops e.1 = some t
  · obtain ⟨e, he, hd⟩ := hx
    have hS : S e.1 = true := by
      obtain ⟨y, hy, rfl⟩ := List.mem_map.mp he
      exact hb _ ((pairs_app hp y.1 (List.mem_map_of_mem hy) x0 (by simp)).raw t ht hd)
    rw [curE_of (hsub e he) hS hd (fun e' he' hd' => uq t e' he' e (hsub e he) hd' hd), envE, curE_of he rfl hd (fun e' he' hd' => uq t e' (hsub e' he') e (hsub e he) hd' hd)]
  · rw [envE, curE_none (E := pre.ents) (fun e he _ hd => hx ⟨e, he, hd⟩)]
    refine curE_none fun e he hS hd => ?_
    rcases hE e he with h | ⟨y, hy, hye⟩
    · exact hx ⟨e, h, hd⟩
    · rcases List.mem_cons.mp hy with rfl | hy
      · rw [← hye, h0] at hS; exact absurd hS (by simp)
      · have := (pairs_split hp rfl hy).war t ht (by rw [hye]; exact hd)
        have := hcl y.1 (by rw [hye]; exact hS) _ this
        rw [h0] at this; exact absurd this (by simp)

theorem pblk_step {p' : PB} {X' : XH} {w' : World} (s : St P n td ops B π R k τ p0 X0 w0 l a w done rest pend X p) (f : Fr p X w p' X' w') : ∀ e ∈ pend, ∃ o t, ops[e.1]? = some o ∧ o.op = .alloc t ∧ w'.heap[e.2]? = some (.cells (td t).zero.toArray t (0, 0)) ∧ ¬ p' e.2 ∧ X' e.2 = none ∧ w0.heap.size ≤ e.2 := by
  intro e he
  obtain ⟨o, t, h1, h2, h3, h4, h5, h6⟩ := s.pblk e he
  have hlt : e.2 < w.heap.size := by
    rcases Nat.lt_or_ge e.2 w.heap.size with h | h
    · exact h
    · simp [Array.getElem?_eq_none h] at h3
  refine ⟨o, t, h1, h2, by rw [f.same _ hlt h5]; exact h3, fun hp' => ?_, ?_, h6⟩
  · rcases f.newp _ hp' with h | h | h
    · exact h4 h
    · exact h h5
    · omega
  · cases hx : X' e.2 with
    | none => rfl
    | some o' =>
      rcases f.own e.2 (by simp [hx]) with h | h
      · exact absurd h5 h
      · omega

/-- What an operation is told of its operands. -/
theorem opnds {o : Oper} {i : Nat} {ρ : Nat → AV} (ho : ops[i]? = some o) (hok : okOp n o = true) (hr : ∀ t ∈ readsOf ops i, t < n → Rel p w (ρ t) (a.tmps.getD t undef)) : ∀ x ∈ o.op.operands, Rel p w (ev ρ x) (a.eval x) := by
  intro x hx
  have hokx := okOp_opnd hok x hx
  cases x with
  | tmp t =>
    have ht : t < n := by simpa [okx] using hokx
    exact hr t (by unfold readsOf; rw [ho]; exact List.mem_append_left _ (List.mem_filterMap.mpr ⟨.tmp t, by simpa using hx, rfl⟩)) ht
  | const v => exact ofV_rel _ _ _
  | «global» g => simp [V.ev, Rel, Act.eval]
  | func f => simp only [V.ev, Rel, Act.eval]; exact ⟨[], [], rfl, RelL.nil, RelL.nil⟩

theorem alloc_wp (ht : td.ok P) {o : Oper} {t : TypeId} (ho : o.op = .alloc t) (hn : (td t).d.known = true) (hX : XSim p X w) (hp : PBk p w) {K : Act → World → Prop} {Q : Exit → Act → World → Prop}
    (hk : ∀ w' : World, w'.heap[w.heap.size]? = some (.cells (td t).zero.toArray t (0, 0)) → XSim p X w' → PBk p w' → Fr p X w p X w' → K (a.put o.dst (.pointer (some ⟨w.heap.size, 0, none⟩))) w') : o.wp P a w K Q := by
  have hz := Tab.run_zero ht (w := w) (TD.ne_of_known hn)
  have hzc := ht.2 t hn
  have hrun : (execOp a.eval o).run P w = .ok (.value (.pointer (some ⟨w.heap.size, 0, none⟩))) { w with heap := w.heap.push (.cells (td t).zero.toArray t) } := by
    unfold execOp
    simp only [ho, Instr.alloc]
    simp [hz, newVar, newRow, hzc]
  simp only [Oper.wp, hrun, Oper.upon]
  obtain ⟨h1, h2, h3, h4, h5, h6⟩ := new_block (w' := { w with heap := w.heap.push (.cells (td t).zero.toArray t) }) hX hp rfl
  exact hk _ h2 h6 h5 ⟨fun _ h => h, fun b hb _ => h1 b hb, fun b hb => .inl hb, h4, fun b hb => .inl hb, ⟨rfl, rfl, rfl⟩⟩

theorem fresh_of {X : XH} (hX : XSim p X w) : X w.heap.size = none := hX.fresh

theorem par (hP : td.ok P) (hk : EdgesOk ops B) (hp : pairsOk ops B π = true) (hall : ∀ i, i < ops.size → ∃ K, (i, K) ∈ π) (hin : ∀ x ∈ π, x.1 < ops.size) {Q : Post} (hQ : ∀ τ' X', k τ' X' → Q .normal τ' X')
    (hal : ∀ i, (i, K.A) ∈ π → ∃ o t, ops[i]? = some o ∧ o.guard = none ∧ o.op = .alloc t ∧ (td t).d.known = true) (hok : ∀ (i : Nat) (o : Oper), ops[i]? = some o → okOp n o = true) (hgok : ∀ (i : Nat) (o : Oper) (j : Nat) (want : Bool) (d : Nat), ops[i]? = some o → o.guard = some (j, want) → dstOf ops j = some d → d < n) :
    ∀ (u : Nat) (U : List Nat) (l : Array Bool) (a : Act) (w : World) (done : Dn) (rest : Pi) (pend : List (Nat × Nat)) (X : XH) (p : PB), U.length = u → U.Nodup → (∀ i, i ∈ U ↔ i < ops.size ∧ asSet l i = false) →
      St P n td ops B π R k τ p0 X0 w0 l a w done rest pend X p → wpAny P .any ops (lift n Q p0 X0 w0) u l a w := by
  intro u
  induction u with
  | zero =>
    intro U l a w done rest pend X p hU hnd hmem s
    have hUn : U = [] := List.length_eq_zero_iff.mp hU
    subst hUn
    have hS : ∀ i, i < ops.size → asSet l i = true := fun i hi => by
      cases e : asSet l i with
      | true => rfl
      | false => exact absurd ((hmem i).mpr ⟨hi, e⟩) (by simp)
    obtain ⟨done, rest, pend, X, s, hh⟩ := s.norm hp
    have hrest : rest = [] := by
      cases hr : rest with
      | nil => rfl
      | cons x r =>
        have h1 := (hh x r hr).2
        rw [hS x.1 (hin x (by rw [s.eq, hr]; simp))] at h1
        exact absurd h1 (by simp)
    subst hrest
    have hpend : pend = [] := by
      cases hr : pend with
      | nil => rfl
      | cons x r =>
        have := (s.pin x (by rw [hr]; simp)).1
        simp at this
    subst hpend
    refine ⟨?_, p, envE ops τ done.ents, X, ⟨s.sz, fun t ht => ?_, s.df, s.xs, s.pb⟩, s.fr, hQ _ _ s.spec⟩
    · cases e : Region.ready .any ops l with
      | nil => rfl
      | cons i r =>
        have hi : i ∈ Region.ready .any ops l := by rw [e]; simp
        have h1 := ready_spec2 hk s.lsz hi s.clo
        rw [hS i h1.1] at h1; exact absurd h1.2.1 (by simp)
    · have := s.tmps t ht
      have he : curE ops τ (asSet l) (done.ents ++ pents []) t = envE ops τ done.ents t := by
        refine curE_ext (fun e he e' he' h1 h2 => s.uq hp (t := t) e (List.mem_append_left _ he) e' (List.mem_append_left _ he') h1 h2) fun e hd => ?_
        simp only [pents, List.map_nil, List.append_nil]
        constructor
        · rintro ⟨h, _⟩; exact ⟨h, trivial⟩
        · rintro ⟨h, _⟩
          refine ⟨h, hS _ ?_⟩
          obtain ⟨y, hy, rfl⟩ := List.mem_map.mp h
          exact hin y.1 (by rw [s.eq]; exact List.mem_append_left _ (List.mem_map_of_mem hy))
      rw [he] at this; exact this
  | succ u ih =>
    intro U l a w done rest pend X p hU hnd hmem s
    refine ⟨fun hnil => ?_, fun i hi => ?_⟩
    · exfalso
      obtain ⟨i0, hi0⟩ : ∃ i0, i0 ∈ U := by
        cases U with
        | nil => simp at hU
        | cons x l => exact ⟨x, by simp⟩
      obtain ⟨q, hq, hmin⟩ := least (J := fun i => i ∈ U) ⟨i0, hi0⟩
      obtain ⟨hqm, hqS⟩ := (hmem q).mp hq
      have := ready_of2 hk s.lsz hqm hqS (fun i hi => by
        cases e : asSet l i with
        | true => rfl
        | false => exact absurd (hmin i ((hmem i).mpr ⟨by omega, e⟩)) (by omega))
      rw [hnil] at this
      exact absurd this (by simp)
    · obtain ⟨his, hiS, hib⟩ := ready_spec2 hk s.lsz hi s.clo
      obtain ⟨done, rest, pend, X, s, hh⟩ := s.norm hp
      have hiU : i ∈ U := (hmem i).mpr ⟨his, hiS⟩
      have hnext : ∀ (a' : Act) (w' : World) (done' : Dn) (rest' : Pi) (pend' : List (Nat × Nat)) (X' : XH) (p' : PB), St P n td ops B π R k τ p0 X0 w0 (l.setIfInBounds i true) a' w' done' rest' pend' X' p' → wpAny P .any ops (lift n Q p0 X0 w0) u (l.setIfInBounds i true) a' w' := by
        intro a' w' done' rest' pend' X' p' s'
        refine ih (U.erase i) _ a' w' done' rest' pend' X' p' ?_ (hnd.erase i) (fun q => ?_) s'
        · rw [List.length_erase_of_mem hiU]; omega
        · rw [hnd.mem_erase_iff, hmem q, asSet_set s.lsz his]
          constructor
          · rintro ⟨h5, h6, h7⟩; rw [if_neg h5]; exact ⟨h6, h7⟩
          · rintro ⟨h6, h7⟩
            split at h7
            · exact absurd h7 (by simp)
            · rename_i h5; exact ⟨h5, h6, h7⟩
      have hset : ∀ q, asSet (l.setIfInBounds i true) q = if q = i then true else asSet l q := asSet_set s.lsz his
      have hsetm : ∀ q, asSet l q = true → asSet (l.setIfInBounds i true) q = true := fun q h => by rw [hset]; split <;> simp [h]
      have hsetn : ∀ q, q ≠ i → asSet (l.setIfInBounds i true) q = asSet l q := fun q h => by rw [hset, if_neg h]
      have hseti : asSet (l.setIfInBounds i true) i = true := by rw [hset, if_pos rfl]
      have hcl' := closed_set s.lsz his s.clo hib
      have hp' := hp
      rw [s.eq] at hp'
      have ha := pairs_app hp'
      obtain ⟨o, ho⟩ : ∃ o, ops[i]? = some o := ⟨_, Array.getElem?_eq_getElem his⟩
      have hoko := hok i o ho
      have hod : dstOf ops i = o.dst := by simp [dstOf, ho]
      have hgd : ∀ (ρ : Nat → AV), (∀ t ∈ readsOf ops i, t < n → Rel p w (ρ t) (a.tmps.getD t undef)) → ∀ j want d, o.guard = some (j, want) → (ops[j]?).bind (·.dst) = some d → d < n ∧ Rel p w (ρ d) (a.tmps.getD d undef) := by
        intro ρ hρ j want d hg hd
        have hdn := hgok i o j want d ho hg hd
        refine ⟨hdn, hρ d ?_ hdn⟩
        unfold readsOf; rw [ho]; simp only [hg]
        refine List.mem_append_right _ ?_
        unfold dstOf; rw [hd]; simp
      have hEin : ∀ e ∈ done.ents ++ pents pend, ∃ y ∈ π, y.1 = e.1 := by
        intro e he
        rcases List.mem_append.mp he with h | h
        · obtain ⟨y, hy, rfl⟩ := List.mem_map.mp h
          exact ⟨y.1, by rw [s.eq]; exact List.mem_append_left _ (List.mem_map_of_mem hy), rfl⟩
        · obtain ⟨y, hy, rfl⟩ := List.mem_map.mp h
          exact ⟨(y.1, K.A), by rw [s.eq]; exact List.mem_append_right _ (s.pin y hy).1, rfl⟩
      obtain ⟨Kd, hKd⟩ := hall i his
      have hcase : (∃ pre x post, done = pre ++ x :: post ∧ x.1 = (i, Kd)) ∨ (i, Kd) ∈ rest := by
        rw [s.eq] at hKd
        rcases List.mem_append.mp hKd with h | h
        · obtain ⟨x, hx, hxe⟩ := List.mem_map.mp h
          obtain ⟨pre, post, rfl⟩ := List.append_of_mem hx
          exact .inl ⟨pre, x, post, rfl, hxe⟩
        · exact .inr h
      unfold wpOp
      rw [ho]
      rcases hcase with ⟨pre, x, post, hdn, hxe⟩ | hrest
      · -- data, told already
        obtain ⟨⟨i', K'⟩, r⟩ := x
        simp only [Prod.mk.injEq] at hxe
        obtain ⟨rfl, rfl⟩ := hxe
        obtain ⟨o', ho', hE, hRx⟩ := s.todo pre _ post hdn hiS
        simp only [] at ho' hE hRx
        rw [ho] at ho'; simp only [Option.some.injEq] at ho'; subst ho'
        have hread : ∀ t ∈ readsOf ops i', t < n → Rel p w (envE ops τ (Dn.ents pre) t) (a.tmps.getD t undef) := by
          intro t ht htn
          have he := reads_eq (pre := pre) (x0 := (i', K')) (post := post.map (·.1) ++ rest) (E := done.ents ++ pents pend) (S := asSet l) (by rw [hdn] at hp'; simpa using hp') (fun t => s.uq hp) (fun e he => by
              rw [hdn]; refine List.mem_append_left _ ?_; simp only [Dn.ents, List.map_append]; exact List.mem_append_left _ he) (fun e he => by
              rcases List.mem_append.mp he with h | h
              · rw [hdn] at h
                simp only [Dn.ents, List.map_append, List.map_cons] at h
                rcases List.mem_append.mp h with h | h
                · exact .inl h
                · rcases List.mem_cons.mp h with rfl | h
                  · exact .inr ⟨(i', K'), List.mem_cons_self, rfl⟩
                  · obtain ⟨y, hy, rfl⟩ := List.mem_map.mp h
                    exact .inr ⟨y.1, List.mem_cons_of_mem _ (List.mem_append_left _ (List.mem_map_of_mem hy)), rfl⟩
              · obtain ⟨y, hy, rfl⟩ := List.mem_map.mp h
                exact .inr ⟨(y.1, K.A), List.mem_cons_of_mem _ (List.mem_append_right _ (s.pin y hy).1), rfl⟩) hiS s.clo hib (τ := τ) ht
          rw [← he]; exact s.tmps t htn
        have hmem1 : (i', r) ∈ done.ents ++ pents pend := by rw [hdn]; simp [Dn.ents]
        refine (hE X hRx).run s.sz (opnds ho hoko hread) s.xs s.pb (hgd _ hread) (fun p' v w' h1 h2 h3 h4 => hnext _ w' done rest pend X p' { s with
          exe := fun x hx hD => hsetm _ (s.exe x hx hD)
          unex := fun x hx hA => ?_
          pnd := fun x hx hS => s.pnd x hx ?_
          pin := fun e he => ⟨(s.pin e he).1, hsetm _ (s.pin e he).2⟩
          pblk := pblk_step s h4
          todo := fun pre x post he hx => s.todo pre x post he ?_
          fr := s.fr.trans h4
          xs := h2
          pb := h3
          sz := by cases o.dst <;> simp [Act.put, s.sz]
          df := by cases o.dst <;> exact s.df
          tmps := tmps_step s.tmps h4 s.xs s.pb s.sz h1 (fun t hd => curE_of hmem1 hseti (by rw [hod]; exact hd) (fun e' he' hd' => s.uq hp e' he' _ hmem1 hd' (by rw [hod]; exact hd))) (fun t hd => curE_ext (s.uq hp) fun e hde => by
            have hne : e.1 ≠ i' := fun h => hd (by rw [← hod, ← h]; exact hde)
            rw [hsetn _ hne])
          lsz := by simp [s.lsz]
          clo := hcl' })
        · have hne : x.1 ≠ i' := fun h => (ha (i', K') (by rw [hdn]; simp) x hx).ne h.symm
          rw [hsetn _ hne]; exact s.unex x hx hA
        · have hne : x.1 ≠ i' := fun h => (ha (i', K') (by rw [hdn]; simp) x hx).ne h.symm
          rw [hsetn _ hne] at hS; exact hS
        · cases hxl : asSet l x.1.1 with
          | false => rfl
          | true => rw [hsetm _ hxl] at hx; exact absurd hx (by simp)
      · -- something at the front, or a variable
        obtain ⟨ra, rb, hrr⟩ := List.append_of_mem hrest
        have hfirst : ∀ x r, rest = x :: r → Kd ≠ .A → ra = [] := by
          intro x r hr hKA
          cases ra with
          | nil => rfl
          | cons y ra =>
            exfalso
            rw [hrr] at hr
            simp only [List.cons_append, List.cons.injEq] at hr
            obtain ⟨rfl, hr⟩ := hr
            obtain ⟨hy1, hy2⟩ := hh y _ (by rw [hrr]; rfl)
            have hpo := pairs_split (π := done.map (·.1) ++ rest) hp' (pre := done.map (·.1)) (x := y) (post := ra ++ (i, Kd) :: rb) (y := (i, Kd)) (by rw [hrr]; rfl) (by simp)
            have := hib _ (hpo.ord hy1 hKA)
            rw [hy2] at this; exact absurd this (by simp)
        have hneD : ∀ x ∈ done, x.1.1 ≠ i := fun x hx => (ha x.1 (List.mem_map_of_mem hx) (i, Kd) hrest).ne
        by_cases hKA : Kd = .A
        · -- a new variable
          subst hKA
          obtain ⟨o', t, ho', hg, hot, hkn⟩ := hal i hKd
          rw [ho] at ho'; simp only [Option.some.injEq] at ho'; subst ho'
          simp only []
          rw [if_pos (by simp [Region.wanted, hg])]
          refine .inl (alloc_wp hP hot hkn s.xs s.pb fun w' g1 g2 g3 g4 => ?_)
          have hnew : ∀ e ∈ pend, e.2 ≠ w.heap.size := by
            intro e he hh
            obtain ⟨_, t', _, _, h3, _⟩ := s.pblk e he
            rw [hh] at h3; simp at h3
          have hnidx : ∀ e ∈ pend, e.1 ≠ i := fun e he hh => by
            have := (s.pin e he).2
            rw [hh, hiS] at this; exact absurd this (by simp)
          have hpin : ∀ e ∈ pend ++ [(i, w.heap.size)], (e.1, K.A) ∈ rest := fun e he => by
            rcases List.mem_append.mp he with h | h
            · exact (s.pin e h).1
            · simp only [List.mem_singleton] at h; subst h; exact hrest
          have hpuq : ∀ e ∈ pend ++ [(i, w.heap.size)], ∀ e' ∈ pend ++ [(i, w.heap.size)], e.1 = e'.1 → e = e' := fun e he e' he' hh => by
            rcases List.mem_append.mp he with h | h <;> rcases List.mem_append.mp he' with h' | h'
            · exact s.puq e h e' h' hh
            · simp only [List.mem_singleton] at h'; subst h'; exact absurd hh (hnidx e h)
            · simp only [List.mem_singleton] at h; subst h; exact absurd hh.symm (hnidx e' h')
            · simp only [List.mem_singleton] at h h'; rw [h, h']
          have huq := fun {t : Nat} => ents_uq (t := t) hp s.eq hpin hpuq
          have hsn : pents (pend ++ [(i, w.heap.size)]) = pents pend ++ [(i, .v (.pointer (some ⟨w.heap.size, 0, none⟩)))] := by simp [pents]
          have hmem1 : (i, AV.v (.pointer (some ⟨w.heap.size, 0, none⟩))) ∈ done.ents ++ pents (pend ++ [(i, w.heap.size)]) := by rw [hsn]; simp
          refine hnext _ w' done rest (pend ++ [(i, w.heap.size)]) X p { s with
            exe := fun x hx hD => hsetm _ (s.exe x hx hD)
            unex := fun x hx hA => ?_
            pnd := fun x hx hS => ?_
            pin := fun e he => ⟨hpin e he, ?_⟩
            puq := hpuq
            pub := fun e he e' he' hh => ?_
            pblk := fun e he => ?_
            todo := fun pre x post he hx => s.todo pre x post he (by rw [hsetn _ (hneD x (by rw [he]; simp))] at hx; exact hx)
            fr := s.fr.trans g4
            xs := g2
            pb := g3
            sz := by cases o.dst <;> simp [Act.put, s.sz]
            df := by cases o.dst <;> exact s.df
            tmps := tmps_step s.tmps g4 s.xs s.pb s.sz (Rel.vv _) (fun t hd => curE_of hmem1 hseti (by rw [hod]; exact hd) (fun e' he' hd' => huq e' he' _ hmem1 hd' (by rw [hod]; exact hd))) (fun t hd => (curE_ext huq fun e hde => by
              have hne : e.1 ≠ i := fun h => hd (by rw [← hod, ← h]; exact hde)
              rw [hsetn _ hne, hsn]
              simp only [List.mem_append, List.mem_singleton]
              constructor
              · rintro ⟨h | h, h2⟩
                · exact ⟨.inl h, h2⟩
                · exact ⟨.inr (.inl h), h2⟩
              · rintro ⟨h | h | h, h2⟩
                · exact ⟨.inl h, h2⟩
                · exact ⟨.inr h, h2⟩
                · subst h; exact absurd rfl hne).symm)
            lsz := by simp [s.lsz]
            clo := hcl' }
          · have hne : x.1 ≠ i := fun h => by
              have := pairs_ne hp (x := x) (y := (i, K.A)) (by rw [s.eq]; exact List.mem_append_right _ hx) hKd h
              rw [this] at hA; exact hA rfl
            rw [hsetn _ hne]; exact s.unex x hx hA
          · by_cases h : x.1 = i
            · exact ⟨w.heap.size, by rw [h]; simp⟩
            · rw [hsetn _ h] at hS
              obtain ⟨r, hr⟩ := s.pnd x hx hS
              exact ⟨r, List.mem_append_left _ hr⟩
          · rcases List.mem_append.mp he with h | h
            · exact hsetm _ (s.pin e h).2
            · simp only [List.mem_singleton] at h; subst h; exact hseti
          · rcases List.mem_append.mp he with h | h <;> rcases List.mem_append.mp he' with h' | h'
            · exact s.pub e h e' h' hh
            · simp only [List.mem_singleton] at h'; subst h'; exact absurd hh (hnew e h)
            · simp only [List.mem_singleton] at h; subst h; exact absurd hh.symm (hnew e' h')
            · simp only [List.mem_singleton] at h h'; rw [h, h']
          · rcases List.mem_append.mp he with h | h
            · exact pblk_step s g4 e h
            · simp only [List.mem_singleton] at h; subst h
              exact ⟨o, t, ho, hot, g1, fun h => absurd (s.pb _ h) (by omega), s.xs.fresh, s.fr.size⟩
        · have hra : ra = [] := by
            cases hr : rest with
            | nil => rw [hr] at hrr; simp at hrr
            | cons x r => exact hfirst x r hr hKA
          subst hra
          simp only [List.nil_append] at hrr
          have hKW : Kd = .W := by
            have := (hh _ _ hrr).1
            cases Kd with
            | D => exact absurd rfl this
            | W => rfl
            | A => exact absurd rfl hKA
          subst hKW
          subst hrr
          obtain ⟨o', ho', hg, hA⟩ := s.spec
          rw [ho] at ho'; simp only [Option.some.injEq] at ho'; subst ho'
          have hread : ∀ t ∈ readsOf ops i, t < n → Rel p w (envE ops τ done.ents t) (a.tmps.getD t undef) := by
            intro t ht htn
            have he := reads_eq (pre := done) (x0 := (i, K.W)) (post := rb) (E := done.ents ++ pents pend) (S := asSet l) hp' (fun t => s.uq hp) (fun e he => List.mem_append_left _ he) (fun e he => by
                rcases List.mem_append.mp he with h | h
                · exact .inl h
                · obtain ⟨y, hy, rfl⟩ := List.mem_map.mp h
                  exact .inr ⟨(y.1, K.A), (s.pin y hy).1, rfl⟩) hiS s.clo hib (τ := τ) ht
            rw [← he]; exact s.tmps t htn
          simp only []
          rw [if_pos (by simp [Region.wanted, hg])]
          refine .inl (Oper.wp_mono2 ?_ (fun _ _ _ h => h.elim) (hA p a w ⟨opnds ho hoko hread, s.xs, s.pb⟩))
          rintro a' w' ⟨p', av, X', v, rfl, h1, h2, h3, h4, hR, hG⟩
          have hni : ∀ y ∈ rb, y.1 ≠ i := fun y hy e => (pairs_split (π := done.map (·.1) ++ (i, K.W) :: rb) hp' (pre := done.map (·.1)) (post := rb) rfl hy).ne e.symm
          have hpin : ∀ e ∈ pend, (e.1, K.A) ∈ rb := fun e he => by
            have := (s.pin e he).1
            simpa using this
          have hsn : Dn.ents (done ++ [((i, K.W), av)]) = done.ents ++ [(i, av)] := by simp [Dn.ents]
          have hpeq : π = (done ++ [((i, K.W), av)]).map (·.1) ++ rb := by rw [s.eq]; simp
          have huq := fun {t : Nat} => ents_uq (t := t) hp hpeq hpin s.puq
          have hmem1 : (i, av) ∈ Dn.ents (done ++ [((i, K.W), av)]) ++ pents pend := by rw [hsn]; simp
          refine hnext _ w' (done ++ [((i, K.W), av)]) rb pend X' p' { s with
            eq := hpeq
            exe := fun x hx hD => ?_
            unex := fun x hx hA => by rw [hsetn _ (hni x hx)]; exact s.unex x (by simp [hx]) hA
            pnd := fun x hx hS => s.pnd x (by simp [hx]) (by rw [hsetn _ (hni x hx)] at hS; exact hS)
            pin := fun e he => ⟨hpin e he, hsetm _ (s.pin e he).2⟩
            pblk := pblk_step s h4
            spec := ?_
            todo := fun pre x post he hx => ?_
            fr := s.fr.trans h4
            xs := h2
            pb := h3
            sz := by cases o.dst <;> simp [Act.put, s.sz]
            df := by cases o.dst <;> exact s.df
            tmps := tmps_step s.tmps h4 s.xs s.pb s.sz h1 (fun t hd => curE_of hmem1 hseti (by rw [hod]; exact hd) (fun e' he' hd' => huq e' he' _ hmem1 hd' (by rw [hod]; exact hd))) (fun t hd => (curE_ext huq fun e hde => by
              have hne : e.1 ≠ i := fun h => hd (by rw [← hod, ← h]; exact hde)
              rw [hsetn _ hne, hsn]
              simp only [List.mem_append, List.mem_singleton]
              constructor
              · rintro ⟨h | h, h2⟩
                · exact ⟨.inl (.inl h), h2⟩
                · exact ⟨.inr h, h2⟩
              · rintro ⟨(h | h) | h, h2⟩
                · exact ⟨.inl h, h2⟩
                · subst h; exact absurd rfl hne
                · exact ⟨.inr h, h2⟩).symm)
            lsz := by simp [s.lsz]
            clo := hcl' }
          · rcases List.mem_append.mp hx with hx | hx
            · exact hsetm _ (s.exe x hx hD)
            · simp only [List.mem_singleton] at hx; subst hx; exact hseti
          · rw [hsn, envE_snoc (fun e he t h1 => ?_), hod]
            · exact hG
            · obtain ⟨y, hy, rfl⟩ := List.mem_map.mp he
              exact (ha y.1 (List.mem_map_of_mem hy) (i, K.W) (by simp)).dst t h1
          · rcases List.append_eq_append_iff.mp he with ⟨m, e1, e2⟩ | ⟨m, e1, e2⟩
            · cases m with
              | nil =>
                simp only [List.nil_append, List.cons.injEq] at e2
                obtain ⟨rfl, rfl⟩ := e2
                simp only [] at hx
                rw [hseti] at hx; exact absurd hx (by simp)
              | cons y m => simp at e2
            · cases m with
              | nil =>
                simp only [List.nil_append, List.cons.injEq] at e2
                obtain ⟨rfl, rfl⟩ := e2
                simp only [] at hx
                rw [hseti] at hx; exact absurd hx (by simp)
              | cons y m =>
                simp only [List.cons_append, List.cons.injEq] at e2
                obtain ⟨rfl, e2⟩ := e2
                have hxl : asSet l x.1.1 = false := by
                  cases hxl : asSet l x.1.1 with
                  | false => rfl
                  | true => rw [hsetm _ hxl] at hx; exact absurd hx (by simp)
                obtain ⟨o2, g1, g2, g3⟩ := s.todo pre x m e1 hxl
                refine ⟨o2, g1, g2, keepR_spec ?_ hR g3⟩
                cases hc : (bef B i).contains x.1.1 with
                | false => rfl
                | true =>
                  have := hib _ (List.contains_iff_mem.mp hc)
                  rw [hxl] at this; exact absurd this (by simp)
end st

def allocOk (td : Tab) (ops : Array Oper) (π : Pi) : Bool := π.all fun x => match x.2 with
  | .A => (match ops[x.1]? with
    | some o => (match o.guard with
      | none => (match o.op with
        | .alloc t => (td t).d.known
        | _ => false)
      | some _ => false)
    | none => false)
  | _ => true
/-- A region that draws its order, told in an order of our own. -/
theorem AWP_par {P : Program} (hP : P.follows .mixedOrders = true) {td : Tab} (ht : td.ok P) {n id : Nat} {ops : Array Oper} {Q : Post} {τ : Nat → AV} {X : XH} (π : Pi) (R : RL) (hpi : piOk ops (clo ops) π = true) (hal : allocOk td ops π = true) (hok : ops.toList.all (okOp n) = true)
    (hgok : (ops.toList.all fun o => match o.guard with | some (j, _) => (match dstOf ops j with | some d => decide (d < n) | none => true) | none => true) = true)
    (h : GSteps P td ops (clo ops) R π τ X fun τ' X' => Q .normal τ' X') : AWP P n (.region id ops true) Q τ X := by
  intro p a w s
  unfold piOk at hpi
  simp only [Bool.and_eq_true, decide_eq_true_eq, List.all_eq_true, List.mem_range, List.contains_iff_mem, List.mem_map] at hpi
  obtain ⟨⟨⟨h1, h2⟩, h3⟩, h4⟩ := hpi
  have hmem : ∀ (i : Nat) (o : Oper), ops[i]? = some o → o ∈ ops := fun i o ho => Array.mem_of_getElem? ho
  have hz : ∀ i, asSet (Array.replicate ops.size false) i = false := by
    intro i; unfold asSet
    simp only [Array.getD_eq_getD_getElem?, Array.getElem?_replicate]
    split <;> rfl
  refine wp_region_any hP ?_
  have hin : ∀ x ∈ π, x.1 < ops.size := by
    have hnd : (π.map (·.1)).Nodup := by
      clear h3 h4 hal h
      induction π with
      | nil => simp
      | cons x l ih =>
        simp only [pairsOk, Bool.and_eq_true] at h1
        refine List.nodup_cons.mpr ⟨fun hx => ?_, ih h1.2⟩
        obtain ⟨y, hy, hxy⟩ := List.mem_map.mp hx
        exact (pairOk_spec (List.all_eq_true.mp h1.1 y hy)).ne hxy.symm
    have hsub : List.range ops.size ⊆ π.map (·.1) := fun i hi => by
      obtain ⟨x, hx, e⟩ := h3 i (List.mem_range.mp hi)
      exact List.mem_map.mpr ⟨x, hx, e⟩
    intro x hx
    by_cases hlt : x.1 < ops.size
    · exact hlt
    · exfalso
      have hlen := List.nodup_range (n := ops.size)
      have hnd2 : (x.1 :: List.range ops.size).Nodup := List.nodup_cons.mpr ⟨by simp; omega, hlen⟩
      have hsub2 : (x.1 :: List.range ops.size) ⊆ π.map (·.1) := fun i hi => by
        rcases List.mem_cons.mp hi with rfl | hi
        · exact List.mem_map_of_mem hx
        · exact hsub hi
      have := hnd2.length_le_of_subset hsub2
      simp at this; omega
  have key := par (P := P) (n := n) (td := td) (ops := ops) (π := π) (R := R) (τ := τ) (p0 := p) (X0 := X) (w0 := w) (k := fun τ' X' => Q .normal τ' X') ht (edgesOk_spec h2) h1 (fun i hi => by
      obtain ⟨x, hx, e⟩ := h3 i hi
      exact ⟨x.2, by rw [← e]; exact hx⟩) hin (Q := Q) (fun _ _ h => h) (fun i hi => by
      have := List.all_eq_true.mp hal (i, K.A) hi
      simp only [] at this
      split at this
      · rename_i o ho
        split at this
        · rename_i hg
          split at this
          · rename_i t hot
            exact ⟨o, t, ho, hg, hot, this⟩
          · exact absurd this (by simp)
        · exact absurd this (by simp)
      · exact absurd this (by simp)) (fun i o ho => List.all_eq_true.mp hok o (by simpa using hmem i o ho)) (fun i o j want d ho hg hd => by
      have := List.all_eq_true.mp hgok o (by simpa using hmem i o ho)
      simp only [hg, hd, decide_eq_true_eq] at this
      exact this) ops.size (List.range ops.size) (Array.replicate ops.size false) a { w with drawn := w.drawn + 1 } [] π [] X p (by simp) List.nodup_range (fun i => by rw [List.mem_range, hz i]; simp)
      { eq := rfl
        exe := fun x hx => by simp at hx
        unex := fun x _ _ => hz _
        pnd := fun x _ hS => by rw [hz] at hS; exact absurd hS (by simp)
        pin := fun e he => by simp at he
        puq := fun e he => by simp at he
        pub := fun e he => by simp at he
        pblk := fun e he => by simp at he
        spec := h
        todo := fun pre x post he => by simp at he
        fr := ⟨fun _ h => h, fun _ _ _ => rfl, fun _ h => .inl h, Nat.le_refl _, fun _ h => .inl h, ⟨rfl, rfl, rfl⟩⟩
        xs := fun r o hr => by
          obtain ⟨h1, ys, h2, h3⟩ := s.xs r o hr
          exact ⟨h1, ys, h2, RelL.mono (w := w) (w' := { w with drawn := w.drawn + 1 }) (fun _ h => h) (fun _ _ => rfl) _ _ h3⟩
        pb := s.pb.go (fun _ h => h) (fun _ _ => rfl) s.pb.lt
        sz := s.size
        df := s.defers
        tmps := fun t ht => Rel.mono (w := w) (w' := { w with drawn := w.drawn + 1 }) (fun _ h => h) (fun _ _ => rfl) _ _ (s.tmps t ht)
        lsz := by simp
        clo := fun j hj => by rw [hz] at hj; exact absurd hj (by simp) }
  exact key

end Go.Proofs.YtgnfjahkhhkmoaaDoor.V
