/- A logic of the machine's code over plain data: what a temporary holds is told as data (a slice that nobody writes any more is its list of cells), what may still be written lies in a small map of blocks. Over any program; no condition. -/
import Derived.Calls
import Derived.Orders
namespace Go.Proofs.YtgnfjahkhhkmoaaDoor.V
open Go
set_option linter.unusedVariables false
set_option linter.unusedSimpArgs false

/-- What a temporary holds: anything; a value as it stands; a struct's cells; a tuple; a slice of n elements that nobody writes any more, with its cells (tight: its capacity is its length); the address of the k-th of such cells; a function value; something that is known under a condition. -/
inductive AV where
  | any
  | v (x : Value)
  | agg (cs : List AV)
  | tup (vs : List AV)
  | sl (tight : Bool) (n : Nat) (cs : List AV)
  | pp (cs : List AV) (k : Nat)
  | clo (f : Fn) (first cap : List AV)
  | opt (b : Bool) (a : AV)

abbrev PB := Nat → Prop

def Cells (w : World) (b off : Nat) (ys : List Value) : Prop := ∀ (j : Nat) (y : Value), ys[j]? = some y → w.cell? ⟨b, off + j, none⟩ = some y

mutual
def Rel (p : PB) (w : World) : AV → Value → Prop
  | .any, _ => True
  | .v x, y => y = x
  | .agg cs, y => ∃ ys : List Value, y = .agg ys.toArray ∧ RelL p w cs ys
  | .tup cs, y => ∃ ys : List Value, y = .tuple ys.toArray ∧ RelL p w cs ys
  | .sl t n cs, y => ∃ A c, y = .slice A n c ∧ n ≤ c ∧ (t = true → c = n) ∧ (cs = [] ∨ ∃ b off ys, A = some ⟨b, off, none⟩ ∧ p b ∧ Cells w b off ys ∧ RelL p w cs ys)
  | .pp cs k, y => ∃ b off ys, y = .pointer (some ⟨b, off + k, none⟩) ∧ p b ∧ Cells w b off ys ∧ RelL p w cs ys
  | .clo f a c, y => ∃ xs ys : List Value, y = .func f xs.toArray ys.toArray ∧ RelL p w a xs ∧ RelL p w c ys
  | .opt b a, y => (b = true → Rel p w a y) ∧ (b = false → y = undef)
def RelL (p : PB) (w : World) : List AV → List Value → Prop
  | [], ys => ys = []
  | a :: as, ys => ∃ y r, ys = y :: r ∧ Rel p w a y ∧ RelL p w as r
end

theorem Cells.mono {w w' : World} {b off : Nat} {ys : List Value} (h : w'.heap[b]? = w.heap[b]?) (hc : Cells w b off ys) : Cells w' b off ys := by
  intro j y hj
  have := hc j y hj
  simp only [World.cell?] at this ⊢
  rw [h]; exact this

mutual
theorem Rel.mono {p p' : PB} {w w' : World} (hp : ∀ b, p b → p' b) (hw : ∀ b, p b → w'.heap[b]? = w.heap[b]?) : ∀ (av : AV) (y : Value), Rel p w av y → Rel p' w' av y
  | .any, _, _ => trivial
  | .v _, _, h => h
  | .agg cs, _, h => by
    simp only [Rel] at h ⊢
    obtain ⟨ys, e, h⟩ := h; exact ⟨ys, e, RelL.mono hp hw cs ys h⟩
  | .tup cs, _, h => by
    simp only [Rel] at h ⊢
    obtain ⟨ys, e, h⟩ := h; exact ⟨ys, e, RelL.mono hp hw cs ys h⟩
  | .sl t n cs, _, h => by
    simp only [Rel] at h ⊢
    obtain ⟨A, c, e, h1, h2, h3⟩ := h
    refine ⟨A, c, e, h1, h2, ?_⟩
    rcases h3 with h3 | ⟨b, off, ys, e, hb, hc, h⟩
    · exact .inl h3
    · exact .inr ⟨b, off, ys, e, hp b hb, hc.mono (hw b hb), RelL.mono hp hw cs ys h⟩
  | .pp cs k, _, h => by
    simp only [Rel] at h ⊢
    obtain ⟨b, off, ys, e, hb, hc, h⟩ := h
    exact ⟨b, off, ys, e, hp b hb, hc.mono (hw b hb), RelL.mono hp hw cs ys h⟩
  | .clo f a c, _, h => by
    simp only [Rel] at h ⊢
    obtain ⟨xs, ys, e, h1, h2⟩ := h; exact ⟨xs, ys, e, RelL.mono hp hw a xs h1, RelL.mono hp hw c ys h2⟩
  | .opt b a, y, h => by
    simp only [Rel] at h ⊢
    exact ⟨fun e => Rel.mono hp hw a y (h.1 e), h.2⟩
theorem RelL.mono {p p' : PB} {w w' : World} (hp : ∀ b, p b → p' b) (hw : ∀ b, p b → w'.heap[b]? = w.heap[b]?) : ∀ (as : List AV) (ys : List Value), RelL p w as ys → RelL p' w' as ys
  | [], _, h => h
  | a :: as, _, h => by
    simp only [RelL] at h ⊢
    obtain ⟨y, r, e, h1, h2⟩ := h
    exact ⟨y, r, e, Rel.mono hp hw a y h1, RelL.mono hp hw as r h2⟩
end

theorem RelL.length {p : PB} {w : World} : ∀ {as : List AV} {ys : List Value}, RelL p w as ys → ys.length = as.length
  | [], _, h => by simp only [RelL] at h; simp [h]
  | a :: as, _, h => by
    simp only [RelL] at h
    obtain ⟨y, r, rfl, _, h2⟩ := h
    simp [RelL.length h2]

theorem Rel.vv {p : PB} {w : World} (x : Value) : Rel p w (.v x) x := by simp [Rel]
theorem RelL.nil {p : PB} {w : World} : RelL p w [] [] := by simp [RelL]
theorem RelL.cons {p : PB} {w : World} {a : AV} {as : List AV} {y : Value} {ys : List Value} (h : Rel p w a y) (hs : RelL p w as ys) : RelL p w (a :: as) (y :: ys) := by
  simp only [RelL]; exact ⟨y, ys, rfl, h, hs⟩
theorem RelL.append {p : PB} {w : World} : ∀ {as bs : List AV} {xs ys : List Value}, RelL p w as xs → RelL p w bs ys → RelL p w (as ++ bs) (xs ++ ys)
  | [], _, _, _, h, h2 => by simp only [RelL] at h; subst h; exact h2
  | a :: as, _, _, _, h, h2 => by
    simp only [RelL] at h
    obtain ⟨y, r, rfl, h1, h3⟩ := h
    exact RelL.cons h1 (RelL.append h3 h2)
theorem RelL.drop {p : PB} {w : World} : ∀ {as : List AV} {ys : List Value} (k : Nat), RelL p w as ys → RelL p w (as.drop k) (ys.drop k)
  | [], _, k, h => by simp only [RelL] at h; subst h; simp [RelL]
  | a :: as, _, 0, h => h
  | a :: as, _, k + 1, h => by
    simp only [RelL] at h
    obtain ⟨y, r, rfl, h1, h3⟩ := h
    exact RelL.drop k h3
theorem RelL.take {p : PB} {w : World} : ∀ {as : List AV} {ys : List Value} (k : Nat), RelL p w as ys → RelL p w (as.take k) (ys.take k)
  | [], _, k, h => by simp only [RelL] at h; subst h; simp [RelL]
  | a :: as, _, 0, h => by simp [RelL]
  | a :: as, _, k + 1, h => by
    simp only [RelL] at h
    obtain ⟨y, r, rfl, h1, h3⟩ := h
    exact RelL.cons h1 (RelL.take k h3)
theorem RelL.get {p : PB} {w : World} : ∀ {as : List AV} {ys : List Value} (k : Nat) {a : AV}, RelL p w as ys → as[k]? = some a → ∃ y, ys[k]? = some y ∧ Rel p w a y
  | [], _, k, _, h, hk => by simp at hk
  | a :: as, _, 0, _, h, hk => by
    simp only [RelL] at h
    obtain ⟨y, r, rfl, h1, h3⟩ := h
    simp at hk; subst hk; exact ⟨y, rfl, h1⟩
  | a :: as, _, k + 1, _, h, hk => by
    simp only [RelL] at h
    obtain ⟨y, r, rfl, h1, h3⟩ := h
    exact RelL.get (as := as) k h3 (by simpa using hk)
theorem RelL.set {p : PB} {w : World} {a : AV} {y : Value} (ha : Rel p w a y) : ∀ {as : List AV} {ys : List Value} (k : Nat), RelL p w as ys → RelL p w (as.set k a) (ys.set k y)
  | [], _, k, h => by simp only [RelL] at h; subst h; simp [RelL]
  | b :: as, _, 0, h => by
    simp only [RelL] at h
    obtain ⟨y', r, rfl, h1, h3⟩ := h
    exact RelL.cons ha h3
  | b :: as, _, k + 1, h => by
    simp only [RelL] at h
    obtain ⟨y', r, rfl, h1, h3⟩ := h
    exact RelL.cons h1 (RelL.set ha k h3)

/-- A block that may still be written: its elements' type, its cells. -/
structure XB where
  T : TypeId
  cs : List AV
abbrev XH := Nat → Option XB
def XH.none : XH := fun _ => .none
def XH.put (X : XH) (r : Nat) (o : XB) : XH := fun b => if b = r then some o else X b
def XH.del (X : XH) (r : Nat) : XH := fun b => if b = r then .none else X b

def XSim (p : PB) (X : XH) (w : World) : Prop :=
  ∀ r o, X r = some o → ¬ p r ∧ ∃ ys : List Value, w.heap[r]? = some (.cells ys.toArray o.T (0, 0)) ∧ RelL p w o.cs ys

/-- The world outside stays as it is. -/
def Outs (w w' : World) : Prop := w'.os = w.os ∧ w'.tape = w.tape ∧ w'.output = w.output
theorem Outs.refl (w : World) : Outs w w := ⟨rfl, rfl, rfl⟩
theorem Outs.trans {w w' w'' : World} (h : Outs w w') (h' : Outs w' w'') : Outs w w'' := ⟨h'.1.trans h.1, h'.2.1.trans h.2.1, h'.2.2.trans h.2.2⟩
/-- What a piece of code may have done: nothing to blocks that it was not handed as its own. -/
structure Fr (p : PB) (X : XH) (w : World) (p' : PB) (X' : XH) (w' : World) : Prop where
  pub : ∀ b, p b → p' b
  same : ∀ b, b < w.heap.size → X b = none → w'.heap[b]? = w.heap[b]?
  own : ∀ b, X' b ≠ none → X b ≠ none ∨ w.heap.size ≤ b
  size : w.heap.size ≤ w'.heap.size
  newp : ∀ b, p' b → p b ∨ X b ≠ none ∨ w.heap.size ≤ b
  outs : Outs w w'

theorem Fr.refl {p : PB} {X : XH} {w : World} : Fr p X w p X w :=
  ⟨fun _ h => h, fun _ _ _ => rfl, fun _ h => .inl h, Nat.le_refl _, fun _ h => .inl h, Outs.refl w⟩
theorem Fr.trans {p p' p'' : PB} {X X' X'' : XH} {w w' w'' : World} (h : Fr p X w p' X' w') (h' : Fr p' X' w' p'' X'' w'') : Fr p X w p'' X'' w'' := by
  refine ⟨fun b hb => h'.pub b (h.pub b hb), fun b hb hx => ?_, fun b hx => ?_, Nat.le_trans h.size h'.size, fun b hb => ?_, h.outs.trans h'.outs⟩
  · have hx' : X' b = none := by
      cases e : X' b with
      | none => rfl
      | some o => rcases h.own b (by simp [e]) with h1 | h1
                  · exact absurd hx h1
                  · omega
    rw [h'.same b (Nat.lt_of_lt_of_le hb h.size) hx', h.same b hb hx]
  · rcases h'.own b hx with h1 | h1
    · exact h.own b h1
    · exact .inr (Nat.le_trans h.size h1)
  · rcases h'.newp b hb with h1 | h1 | h1
    · exact h.newp b h1
    · rcases h.own b h1 with h2 | h2
      · exact .inr (.inl h2)
      · exact .inr (.inr h2)
    · exact .inr (.inr (Nat.le_trans h.size h1))

/-- Blocks that this seat's world holds from the start (tables), and what is told of them. -/
def globs : List (Nat × (Option Obj → Prop)) := [(0, fun o => ∃ t q, o = some (Obj.cells ((((List.range 20).map fun i => ((10 ^ i : Nat) : Int)).map fun z => Value.int .u64 z).toArray) t q))]
/-- What is published is there, the tables among it. -/
structure PBk (p : PB) (w : World) : Prop where
  lt : ∀ b, p b → b < w.heap.size
  gl : ∀ e, e ∈ globs → p e.1 ∧ e.2 w.heap[e.1]?
instance {p : PB} {w : World} : CoeFun (PBk p w) (fun _ => ∀ b, p b → b < w.heap.size) := ⟨PBk.lt⟩
theorem PBk.go {p p' : PB} {w w' : World} (h : PBk p w) (hp : ∀ b, p b → p' b) (hw : ∀ b, p b → w'.heap[b]? = w.heap[b]?) (hl : ∀ b, p' b → b < w'.heap.size) : PBk p' w' :=
  ⟨hl, fun e he => ⟨hp _ (h.gl e he).1, by rw [hw _ (h.gl e he).1]; exact (h.gl e he).2⟩⟩

/-- The machine's state, told as data. -/
structure Sim (n : Nat) (p : PB) (τ : Nat → AV) (X : XH) (a : Act) (w : World) : Prop where
  size : a.tmps.size = n
  tmps : ∀ t, t < n → Rel p w (τ t) (a.tmps.getD t undef)
  defers : a.defers = []
  xs : XSim p X w
  pb : PBk p w

/-- What is published stays as it is. -/
theorem Fr.keeps {p p' : PB} {X X' : XH} {w w' : World} (h : Fr p X w p' X' w') (hx : XSim p X w) (hb : PBk p w) : ∀ b, p b → w'.heap[b]? = w.heap[b]? := by
  intro b hp
  refine h.same b (hb b hp) ?_
  cases e : X b with
  | none => rfl
  | some o => exact absurd hp (hx b o e).1

def updd (τ : Nat → AV) (d : Option Nat) (x : AV) : Nat → AV :=
  match d with
  | none => τ
  | some d => fun t => if t = d then x else τ t

def ofV : Value → AV
  | .agg cs => .agg (cs.toList.map .v)
  | .slice none 0 0 => .sl true 0 []
  | x => .v x

theorem RelL.vs {p : PB} {w : World} : ∀ (ys : List Value), RelL p w (ys.map .v) ys
  | [] => RelL.nil
  | _ :: ys => RelL.cons (by simp [Rel]) (RelL.vs ys)

theorem ofV_rel (p : PB) (w : World) (x : Value) : Rel p w (ofV x) x := by
  unfold ofV
  split
  · rename_i cs; simp only [Rel]; exact ⟨cs.toList, by simp, RelL.vs _⟩
  · simp only [Rel]; exact ⟨none, 0, rfl, Nat.le_refl _, fun _ => rfl, by simp⟩
  · simp [Rel]

def ev (τ : Nat → AV) : Operand → AV
  | .tmp t => τ t
  | .const x => ofV x
  | .global g => .v (.pointer (some ⟨g, 0, none⟩))
  | .func f => .clo (.func f) [] []

def okx (n : Nat) : Operand → Bool
  | .tmp t => t < n
  | _ => true

theorem Sim.ev {n : Nat} {p : PB} {τ : Nat → AV} {X : XH} {a : Act} {w : World} (h : Sim n p τ X a w) {x : Operand} (hx : okx n x = true) : Rel p w (ev τ x) (a.eval x) := by
  cases x with
  | tmp t => exact h.tmps t (by simpa [okx] using hx)
  | const v => exact ofV_rel _ _ _
  | «global» g => simp [V.ev, Rel, Act.eval]
  | func f => simp only [V.ev, Rel, Act.eval]; exact ⟨[], [], rfl, RelL.nil, RelL.nil⟩

/-- The next state: a temporary takes a value, the world goes on. -/
theorem Sim.put {n : Nat} {p p' : PB} {τ : Nat → AV} {X X' : XH} {a : Act} {w w' : World} (h : Sim n p τ X a w) (hf : Fr p X w p' X' w') (hx : XSim p' X' w') (hb : PBk p' w')
    {d : Option Nat} (hd : ∀ t, d = some t → t < n) {v : Value} {av : AV} (hv : Rel p' w' av v) : Sim n p' (updd τ d av) X' (a.put d v) w' := by
  have hm := fun t ht => Rel.mono hf.pub (hf.keeps h.xs h.pb) (τ t) _ (h.tmps t ht)
  cases d with
  | none => exact ⟨h.size, hm, h.defers, hx, hb⟩
  | some d =>
    have hdn := hd d rfl
    refine ⟨by simp [Act.put, h.size], fun t ht => ?_, h.defers, hx, hb⟩
    simp only [updd, Act.put]
    by_cases e : t = d
    · subst e; simp only [if_true]
      have : (a.tmps.setIfInBounds t v).getD t undef = v := by
        simp [Array.getD_eq_getD_getElem?, h.size, ht]
      rw [this]; exact hv
    · simp only [e, if_false]
      have : (a.tmps.setIfInBounds d v).getD t undef = a.tmps.getD t undef := by
        simp only [Array.getD_eq_getD_getElem?]
        rw [Array.getElem?_setIfInBounds]
        have : ¬ d = t := fun h => e h.symm
        simp [this]
      rw [this]; exact hm t ht

abbrev Post := Exit → (Nat → AV) → XH → Prop
def lift (n : Nat) (Q : Post) (p : PB) (X : XH) (w : World) : Exit → Act → World → Prop :=
  fun e a' w' => ∃ p' τ' X', Sim n p' τ' X' a' w' ∧ Fr p X w p' X' w' ∧ Q e τ' X'

/-- From a state that is told by τ and X the code ends as Q says. -/
def AWP (P : Program) (n : Nat) (c : Code) (Q : Post) (τ : Nat → AV) (X : XH) : Prop :=
  ∀ p a w, Sim n p τ X a w → c.wp P (lift n Q p X w) a w

theorem AWP.mono {P : Program} {n : Nat} {c : Code} {Q Q' : Post} {τ : Nat → AV} {X : XH} (h : AWP P n c Q τ X) (hq : ∀ e τ X, Q e τ X → Q' e τ X) : AWP P n c Q' τ X :=
  fun p a w s => wp_mono (h p a w s) fun _ _ _ ⟨p', τ', X', s', f, q⟩ => ⟨p', τ', X', s', f, hq _ _ _ q⟩

section rules
variable {P : Program} {n : Nat} {Q : Post} {τ : Nat → AV} {X : XH}
theorem AWP_skip (h : Q .normal τ X) : AWP P n .skip Q τ X := fun p _ _ s => wp_skip ⟨p, τ, X, s, Fr.refl, h⟩
theorem AWP_label {l : Nat} (h : Q .normal τ X) : AWP P n (.label l) Q τ X := fun p _ _ s => wp_label ⟨p, τ, X, s, Fr.refl, h⟩
theorem AWP_exit {id : Nat} (h : Q (.exit id) τ X) : AWP P n (.exit id) Q τ X := fun p _ _ s => wp_exit ⟨p, τ, X, s, Fr.refl, h⟩
theorem AWP_ret (h : Q .ret τ X) : AWP P n .ret Q τ X := fun p _ _ s => wp_ret ⟨p, τ, X, s, Fr.refl, h⟩
def thenP (k : (Nat → AV) → XH → Prop) (Q : Post) : Post
  | .normal, τ, X => k τ X
  | e, τ, X => Q e τ X
theorem AWP_seq {x y : Code} (h : AWP P n x (thenP (AWP P n y Q) Q) τ X) : AWP P n (.seq x y) Q τ X := by
  intro p a w s
  refine wp_seq (wp_mono (h p a w s) ?_)
  rintro e a' w' ⟨p', τ', X', s', f, q⟩
  cases e with
  | normal => exact wp_mono (q p' a' w' s') fun _ _ _ ⟨p₂, τ₂, X₂, s₂, f₂, q₂⟩ => ⟨p₂, τ₂, X₂, s₂, f.trans f₂, q₂⟩
  | _ => exact ⟨p', τ', X', s', f, q⟩
theorem AWP_cond {c : Operand} {x y : Code} {b : Bool} (hc : ev τ c = .v (.bool b)) (ho : okx n c = true) (ht : b = true → AWP P n x Q τ X) (hf : b = false → AWP P n y Q τ X) : AWP P n (.cond c x y) Q τ X := by
  intro p a w s
  have := s.ev ho
  rw [hc] at this
  simp only [Rel] at this
  exact wp_cond_split this (fun h => ht h p a w s) (fun h => hf h p a w s)
def blockP (id : Nat) (Q : Post) : Post
  | .exit j, τ, X => if j = id then Q .normal τ X else Q (.exit j) τ X
  | e, τ, X => Q e τ X
theorem AWP_block {id : Nat} {c : Code} (h : AWP P n c (blockP id Q) τ X) : AWP P n (.block id c) Q τ X := by
  intro p a w s
  refine wp_block (wp_mono (h p a w s) ?_)
  rintro e a' w' ⟨p', τ', X', s', f, q⟩
  cases e with
  | exit j =>
    simp only [Exit.inBlock]
    simp only [blockP] at q
    split
    · rename_i h; simp only [h, if_true] at q; exact ⟨p', τ', X', s', f, q⟩
    · rename_i h; simp only [h, if_false] at q; exact ⟨p', τ', X', s', f, q⟩
  | _ => exact ⟨p', τ', X', s', f, q⟩
theorem least {J : Nat → Prop} (h : ∃ m, J m) : ∃ m, J m ∧ ∀ m', J m' → m ≤ m' := by
  obtain ⟨m, hm⟩ := h
  induction m using Nat.strongRecOn with
  | _ m ih =>
    by_cases h : ∃ m', m' < m ∧ J m'
    · obtain ⟨m', hlt, hm'⟩ := h; exact ih m' hlt hm'
    · exact ⟨m, hm, fun m' hm' => Nat.le_of_not_lt fun hlt => h ⟨m', hlt, hm'⟩⟩
/-- A loop: what holds at each round's head, with a number that goes down. -/
theorem AWP_loop {c : Code} (I : Nat → (Nat → AV) → XH → Prop) (m : Nat) (h₀ : I m τ X)
    (round : ∀ m τ X, I m τ X → AWP P n c (thenP (fun τ' X' => ∃ m', m' < m ∧ I m' τ' X') Q) τ X) : AWP P n (.loop c) Q τ X := by
  intro p a w s
  classical
  let J : Nat → Act → World → Prop := fun m a' w' => ∃ p' τ' X', Sim n p' τ' X' a' w' ∧ Fr p X w p' X' w' ∧ I m τ' X'
  let μ : Act → World → Nat := fun a w => if h : ∃ m, J m a w then Classical.choose (least h) else 0
  refine wp_loop (fun a w => ∃ m, J m a w) μ ⟨m, p, τ, X, s, Fr.refl, h₀⟩ ?_
  rintro a₁ w₁ hJ
  have hμ : J (μ a₁ w₁) a₁ w₁ := by
    have : μ a₁ w₁ = Classical.choose (least hJ) := by simp only [μ]; rw [dif_pos hJ]
    rw [this]; exact (Classical.choose_spec (least hJ)).1
  obtain ⟨p₁, τ₁, X₁, s₁, f₁, hI⟩ := hμ
  refine wp_mono (round _ τ₁ X₁ hI p₁ a₁ w₁ s₁) ?_
  rintro e a₂ w₂ ⟨p₂, τ₂, X₂, s₂, f₂, q⟩
  cases e with
  | normal =>
    obtain ⟨m', hlt, hI'⟩ := q
    have hJ' : J m' a₂ w₂ := ⟨p₂, τ₂, X₂, s₂, f₁.trans f₂, hI'⟩
    refine ⟨⟨m', hJ'⟩, Nat.lt_of_le_of_lt ?_ hlt⟩
    simp only [μ]; rw [dif_pos ⟨m', hJ'⟩]
    exact (Classical.choose_spec (least ⟨m', hJ'⟩)).2 m' hJ'
  | _ => exact ⟨p₂, τ₂, X₂, s₂, f₁.trans f₂, q⟩
end rules

/-- A call, told as data. -/
def ACalls (P : Program) (f : FuncId) (avs : List AV) (X : XH) (Q : AV → XH → Prop) : Prop :=
  ∀ (p : PB) (w : World) (vs : List Value), RelL p w avs vs → XSim p X w → PBk p w →
    Calls P f vs.toArray w fun e w' => ∃ v p' av X', e = .returned v ∧ Rel p' w' av v ∧ XSim p' X' w' ∧ PBk p' w' ∧ Fr p X w p' X' w' ∧ Q av X'

theorem ACalls.mono {P : Program} {f : FuncId} {avs : List AV} {X : XH} {Q Q' : AV → XH → Prop} (h : ACalls P f avs X Q) (hq : ∀ av X', Q av X' → Q' av X') : ACalls P f avs X Q' :=
  fun p w vs r x b => (h p w vs r x b).mono fun _ _ ⟨v, p', av, X', e, h1, h2, h3, h4, q⟩ => ⟨v, p', av, X', e, h1, h2, h3, h4, hq _ _ q⟩

/-- A call that touches nothing of the caller's: its answer is data. -/
def PCalls (P : Program) (f : FuncId) (avs : List AV) (r : AV) : Prop := ACalls P f avs XH.none fun av _ => av = r

/-- Blocks that the callee need not know stay as they are. -/
theorem ACalls.frame {P : Program} {f : FuncId} {avs : List AV} {X X1 : XH} {Q : AV → XH → Prop} (h : ACalls P f avs X1 Q) (hs : ∀ r o, X1 r = some o → X r = some o) :
    ACalls P f avs X fun av X' => ∃ X1', Q av X1' ∧ X' = (fun r => if X1 r = none ∧ X r ≠ none then X r else X1' r) ∧ (∀ r, X1 r = none → X r ≠ none → X1' r = none) := by
  intro p w vs hr hx hb
  refine (h p w vs hr (fun r o e => hx r o (hs r o e)) hb).mono ?_
  rintro e w' ⟨v, p', av, X', rfl, h1, h2, h3, f, q⟩
  have hsz : ∀ r, X r ≠ none → r < w.heap.size := by
    intro r hr
    cases e : X r with
    | none => exact absurd e hr
    | some o =>
      obtain ⟨_, ys, hy, _⟩ := hx r o e
      rcases Nat.lt_or_ge r w.heap.size with h | h
      · exact h
      · simp [Array.getElem?_eq_none h] at hy
  have hno : ∀ r, X1 r = none → X r ≠ none → X' r = none := by
    intro r h1r hr
    cases e : X' r with
    | none => rfl
    | some o => rcases f.own r (by simp [e]) with h4 | h4
                · exact absurd h1r h4
                · have := hsz r hr; omega
  refine ⟨v, p', av, _, rfl, h1, ?_, h3, ?_, X', q, rfl, hno⟩
  · intro r o hro
    by_cases hc : X1 r = none ∧ X r ≠ none
    · simp only [] at hro
      rw [if_pos hc] at hro
      obtain ⟨hp, ys, hy, hl⟩ := hx r o hro
      have hlt := hsz r hc.2
      refine ⟨fun hpr => ?_, ys, by rw [f.same r hlt hc.1]; exact hy, RelL.mono f.pub (fun b hb' => f.same b (hb b hb') ?_) _ _ hl⟩
      · rcases f.newp r hpr with h5 | h5 | h5
        · exact hp h5
        · exact h5 hc.1
        · omega
      · cases e : X1 b with
        | none => rfl
        | some o' => exact absurd hb' (hx b o' (hs b o' e)).1
    · simp only [] at hro
      rw [if_neg hc] at hro
      exact h2 r o hro
  · refine ⟨f.pub, fun b hb' hxb => f.same b hb' ?_, fun b hxb => ?_, f.size, fun b hpb => ?_, f.outs⟩
    · cases e : X1 b with
      | none => rfl
      | some o' => rw [hs b o' e] at hxb; exact absurd hxb (by simp)
    · by_cases hc : X1 b = none ∧ X b ≠ none
      · exact .inl hc.2
      · simp only [hc, if_false] at hxb
        rcases f.own b hxb with h5 | h5
        · refine .inl fun h6 => ?_
          cases e : X1 b with
          | none => exact h5 e
          | some o' => rw [hs b o' e] at h6; exact absurd h6 (by simp)
        · exact .inr h5
    · rcases f.newp b hpb with h5 | h5 | h5
      · exact .inl h5
      · refine .inr (.inl fun h6 => ?_)
        cases e : X1 b with
        | none => exact h5 e
        | some o' => rw [hs b o' e] at h6; exact absurd h6 (by simp)
      · exact .inr (.inr h5)

theorem PCalls.any {P : Program} {f : FuncId} {avs : List AV} {r : AV} (h : PCalls P f avs r) (X : XH) : ACalls P f avs X fun av X' => av = r ∧ X' = X := by
  intro p w vs hr hx hb
  refine (ACalls.frame (X := X) h (by intro r o e; simp [XH.none] at e) p w vs hr hx hb).mono ?_
  rintro e w' ⟨v, p', av, X', rfl, h1, h2, h3, f, X1', rfl, hX, hno⟩
  -- what the callee made of its own is let go
  refine ⟨v, p', av, X, rfl, h1, ?_, h3, ?_, rfl, rfl⟩
  · intro r o e
    refine h2 r o ?_
    rw [hX]; simp [XH.none, e]
  · refine ⟨f.pub, f.same, fun b hb' => .inl hb', f.size, f.newp, f.outs⟩

end Go.Proofs.YtgnfjahkhhkmoaaDoor.V
