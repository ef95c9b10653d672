/- Regions: in the text's order, and in whatever order the machine draws. -/
import Derived.Test.YtgnfjahkhhkmoaaDoorVApp
namespace Go.Proofs.YtgnfjahkhhkmoaaDoor.V
open Go
set_option linter.unusedVariables false
set_option linter.unusedSimpArgs false

theorem Oper.wp_mono2 {P : Program} {o : Oper} {a : Act} {w : World} {K K' : Act → World → Prop} {Q Q' : Exit → Act → World → Prop} (h : ∀ a w, K a w → K' a w) (hq : ∀ e a w, Q e a w → Q' e a w)
    (hh : o.wp P a w K Q) : o.wp P a w K' Q' := by
  unfold Oper.wp at *
  generalize (execOp a.eval o).run P w = r at *
  cases r with
  | ok n w' =>
    cases n <;> simp only [Oper.upon] at hh ⊢ <;>
      first
        | exact h _ _ hh
        | exact Calls.mono hh (fun e w'' he => by cases e <;> first | exact h _ _ he | exact hq _ _ _ he | exact (let ⟨a, w, q⟩ := he; ⟨a, w, hq _ _ _ q⟩))
        | exact Rows.mono hh (fun _ _ he => h _ _ he)
  | halt x w' => cases x <;> simp only [Oper.upon] at hh ⊢ <;> first | exact hh | exact hq _ _ _ hh
theorem wpOps_mono {P : Program} {ops : Array Oper} {Q Q' : Exit → Act → World → Prop} (hq : ∀ e a w, Q e a w → Q' e a w) : ∀ (l : List Nat) (a : Act) (w : World), wpOps P ops Q l a w → wpOps P ops Q' l a w
  | [], a, w, h => hq _ _ _ h
  | i :: rest, a, w, h => by
    unfold wpOps at h ⊢
    split at h
    · exact wpOps_mono hq rest a w h
    · split at h
      · rename_i hw
        rw [if_pos hw]
        rcases h with h | ⟨h1, a0, w0, h2⟩
        · exact .inl (Oper.wp_mono2 (fun a w => wpOps_mono hq rest a w) hq h)
        · exact .inr ⟨h1, a0, w0, hq _ _ _ h2⟩
      · rename_i hw
        rw [if_neg hw]
        exact wpOps_mono hq rest _ w h

def okOp (n : Nat) (o : Oper) : Bool := o.op.operands.toList.all (okx n) && (match o.dst with | some d => d < n | none => true)
theorem okOp_dst {n : Nat} {o : Oper} (h : okOp n o = true) : ∀ t, o.dst = some t → t < n := by
  intro t ht
  unfold okOp at h
  rw [ht] at h
  simp only [Bool.and_eq_true, decide_eq_true_eq] at h
  exact h.2
theorem okOp_opnd {n : Nat} {o : Oper} (h : okOp n o = true) : ∀ x ∈ o.op.operands, okx n x = true := by
  unfold okOp at h
  simp only [Bool.and_eq_true] at h
  intro x hx
  exact List.all_eq_true.mp h.1 x (by simpa using hx)
theorem Sim.osim {n : Nat} {p : PB} {τ : Nat → AV} {X : XH} {a : Act} {w : World} (s : Sim n p τ X a w) {o : Oper} (h : okOp n o = true) : OSim p τ X a w o :=
  ⟨fun x hx => s.ev (okOp_opnd h x hx), s.xs, s.pb⟩

def AOps (P : Program) (n : Nat) (ops : Array Oper) (l : List Nat) (Q : Post) (τ : Nat → AV) (X : XH) : Prop :=
  ∀ p a w, Sim n p τ X a w → wpOps P ops (lift n Q p X w) l a w

theorem lift_trans {n : Nat} {Q : Post} {p p' : PB} {X X' : XH} {w w' : World} (f : Fr p X w p' X' w') : ∀ e a w'', lift n Q p' X' w' e a w'' → lift n Q p X w e a w'' :=
  fun _ _ _ ⟨p2, τ2, X2, s2, f2, q⟩ => ⟨p2, τ2, X2, s2, f.trans f2, q⟩

theorem AOps_nil {P : Program} {n : Nat} {ops : Array Oper} {Q : Post} {τ : Nat → AV} {X : XH} (h : Q .normal τ X) : AOps P n ops [] Q τ X :=
  fun p a w s => ⟨p, τ, X, s, Fr.refl, h⟩

theorem AOps_cons {P : Program} {n : Nat} {ops : Array Oper} {i : Nat} {rest : List Nat} {o : Oper} {Q : Post} {τ : Nat → AV} {X : XH} (hi : ops[i]? = some o) (hg : o.guard = none) (hok : okOp n o = true)
    (h : AOp P o τ X fun av X' => AOps P n ops rest Q (updd τ o.dst av) X') : AOps P n ops (i :: rest) Q τ X := by
  intro p a w s
  unfold wpOps
  rw [hi]
  simp only []
  rw [if_pos (by simp [Region.wanted, hg])]
  refine .inl (Oper.wp_mono2 ?_ (fun _ _ _ h => h.elim) (h p a w (s.osim hok)))
  rintro a' w' ⟨p', av, X', v, rfl, h1, h2, h3, h4, hk⟩
  exact wpOps_mono (lift_trans h4) _ _ _ (hk p' _ w' (s.put h4 h2 h3 (okOp_dst hok) h1))

/-- An operation that touches nothing of what is held: its answer is data. -/
def EOp (P : Program) (o : Oper) (τ : Nat → AV) (X : XH) (r : AV) : Prop := AOp P o τ X fun av X' => av = r ∧ X' = X

def strip (τ : Nat → AV) : Nat → AV := fun t => match τ t with | .opt _ a => a | a => a
def need (τ : Nat → AV) : Operand → Prop
  | .tmp t => match τ t with | .opt g _ => g = true | _ => True
  | _ => True
def needs (τ : Nat → AV) : List Operand → Prop
  | [] => True
  | x :: l => need τ x ∧ needs τ l
theorem needs_mem {τ : Nat → AV} : ∀ {l : List Operand}, needs τ l → ∀ x ∈ l, need τ x
  | [], _, _, h => by simp at h
  | y :: l, hn, x, h => by
    rcases List.mem_cons.mp h with rfl | h
    · exact hn.1
    · exact needs_mem hn.2 x h
theorem strip_rel {p : PB} {w : World} {τ : Nat → AV} {a : Act} {x : Operand} (h : Rel p w (ev τ x) (a.eval x)) (hn : need τ x) : Rel p w (ev (strip τ) x) (a.eval x) := by
  cases x with
  | tmp t =>
    simp only [ev, strip, need] at *
    split at hn
    · rename_i g b e
      rw [e] at h; simp only [Rel] at h; exact h.1 hn
    · exact h
  | _ => exact h

/-- The same for some temporaries only. -/
def stripS (S : Nat → Bool) (τ : Nat → AV) : Nat → AV := fun t => match S t with | true => strip τ t | false => τ t
def needS (S : Nat → Bool) (τ : Nat → AV) : Operand → Prop
  | .tmp t => match S t with | true => need τ (.tmp t) | false => True
  | _ => True
def needsS (S : Nat → Bool) (τ : Nat → AV) : List Operand → Prop
  | [] => True
  | x :: l => needS S τ x ∧ needsS S τ l
theorem needsS_mem {S : Nat → Bool} {τ : Nat → AV} : ∀ {l : List Operand}, needsS S τ l → ∀ x ∈ l, needS S τ x
  | [], _, _, h => by simp at h
  | y :: l, hn, x, h => by
    rcases List.mem_cons.mp h with rfl | h
    · exact hn.1
    · exact needsS_mem hn.2 x h
theorem stripS_rel {S : Nat → Bool} {p : PB} {w : World} {τ : Nat → AV} {a : Act} {x : Operand} (h : Rel p w (ev τ x) (a.eval x)) (hn : needS S τ x) : Rel p w (ev (stripS S τ) x) (a.eval x) := by
  cases x with
  | tmp t =>
    simp only [needS] at hn
    simp only [ev, stripS] at *
    split at hn
    · exact strip_rel (x := .tmp t) h hn
    · exact h
  | _ => exact h
theorem needs_all {τ : Nat → AV} : ∀ {l : List Operand}, needs τ l → needsS (fun _ => true) τ l
  | [], _ => trivial
  | x :: l, h => ⟨by cases x <;> first | exact h.1 | trivial, needs_all h.2⟩

/-- Under which condition a guarded operation runs. -/
def gval (τ : Nat → AV) (ops : Array Oper) (j : Nat) (want : Bool) : Option Bool :=
  match (ops[j]?).bind (·.dst) with
  | some d =>
    match τ d with
    | .v (.bool b) => some (bif want then b else !b)
    | .opt g (.v (.bool b)) => some (g && (bif want then b else !b))
    | _ => none
  | none => none
theorem gval_wanted {τ : Nat → AV} {ops : Array Oper} {o : Oper} {j : Nat} {want G : Bool} (hg : o.guard = some (j, want)) (h : gval τ ops j want = some G) {p : PB} {w : World} {a : Act} {n : Nat} (hsz : a.tmps.size = n)
    (hd : ∀ d, (ops[j]?).bind (·.dst) = some d → d < n ∧ Rel p w (τ d) (a.tmps.getD d undef)) : Region.wanted o (yielded ops a.tmps) = G := by
  unfold gval at h
  split at h
  case h_2 => exact absurd h (by simp)
  rename_i d hd'
  obtain ⟨hlt, hr⟩ := hd d hd'
  have hlt2 : d < a.tmps.size := by rw [hsz]; exact hlt
  have hget : a.tmps[d]? = some (a.tmps.getD d undef) := by
    rw [Array.getD_eq_getD_getElem?, Array.getElem?_eq_getElem hlt2]; rfl
  simp only [Region.wanted, hg, yielded, hd', Option.bind_some, hget]
  split at h
  · rename_i b e
    simp only [Option.some.injEq] at h; subst h
    rw [e] at hr; simp only [Rel] at hr
    rw [hr]; cases b <;> cases want <;> rfl
  · rename_i g b e
    simp only [Option.some.injEq] at h; subst h
    rw [e] at hr; simp only [Rel] at hr
    cases g
    · have := hr.2 rfl
      rw [this]; cases want <;> rfl
    · have := hr.1 rfl
      rw [this]; cases b <;> cases want <;> rfl
  · exact absurd h (by simp)

theorem Rel.opt_true {p : PB} {w : World} {a : AV} {y : Value} (h : Rel p w a y) : Rel p w (.opt true a) y := by simpa [Rel] using h
theorem Rel.opt_false {p : PB} {w : World} {a : AV} : Rel p w (.opt false a) undef := by simp [Rel]

/-- One step of a region that only yields data. -/
def EStep (P : Program) (ops : Array Oper) (o : Oper) (τ : Nat → AV) (X : XH) (r : AV) : Prop :=
  match o.guard with
  | none => EOp P o τ X r
  | some (j, want) => ∃ G r0, gval τ ops j want = some G ∧ r = .opt G r0 ∧ (G = true → ∃ S, needsS S τ o.op.operands.toList ∧ EOp P o (stripS S τ) X r0)

/-- What a step does to a state that is told well enough. -/
theorem EStep.run {P : Program} {ops : Array Oper} {o : Oper} {τ : Nat → AV} {X : XH} {r : AV} (h : EStep P ops o τ X r) {n : Nat} {p : PB} {a : Act} {w : World} (hsz : a.tmps.size = n)
    (hs : ∀ x ∈ o.op.operands, Rel p w (ev τ x) (a.eval x)) (hX : XSim p X w) (hp : PBk p w) (hgd : ∀ j want d, o.guard = some (j, want) → (ops[j]?).bind (·.dst) = some d → d < n ∧ Rel p w (τ d) (a.tmps.getD d undef))
    {K : Act → World → Prop} {Q : Exit → Act → World → Prop} (hk : ∀ p' v w', Rel p' w' r v → XSim p' X w' → PBk p' w' → Fr p X w p' X w' → K (a.put o.dst v) w') :
    if Region.wanted o (yielded ops a.tmps) then o.wp P a w K Q ∨ (o.asks P a w ∧ LetsOut Q) else K (a.put o.dst undef) w := by
  unfold EStep at h
  split at h
  · rename_i hg
    rw [if_pos (by simp [Region.wanted, hg])]
    refine .inl (Oper.wp_mono2 ?_ (fun _ _ _ h => h.elim) (h p a w ⟨hs, hX, hp⟩))
    rintro a' w' ⟨p', av, X', v, rfl, h1, h2, h3, h4, rfl, rfl⟩
    exact hk p' v w' h1 h2 h3 h4
  · rename_i j want hg
    obtain ⟨G, r0, hG, rfl, hE⟩ := h
    rw [gval_wanted hg hG hsz (fun d hd => hgd j want d hg hd)]
    cases G with
    | true =>
      rw [if_pos rfl]
      obtain ⟨S, hn, hE⟩ := hE rfl
      refine .inl (Oper.wp_mono2 ?_ (fun _ _ _ h => h.elim) (hE p a w ⟨fun x hx => stripS_rel (hs x hx) (needsS_mem hn x (by simpa using hx)), hX, hp⟩))
      rintro a' w' ⟨p', av, X', v, rfl, h1, h2, h3, h4, rfl, rfl⟩
      exact hk p' v w' (Rel.opt_true h1) h2 h3 h4
    | false =>
      rw [if_neg (by simp)]
      exact hk p undef w Rel.opt_false hX hp Fr.refl

theorem AOps_estep {P : Program} {n : Nat} {ops : Array Oper} {i : Nat} {rest : List Nat} {o : Oper} {Q : Post} {τ : Nat → AV} {X : XH} {r : AV} (hi : ops[i]? = some o) (hok : okOp n o = true) (hgok : ∀ j want d, o.guard = some (j, want) → (ops[j]?).bind (·.dst) = some d → d < n)
    (he : EStep P ops o τ X r) (h : AOps P n ops rest Q (updd τ o.dst r) X) : AOps P n ops (i :: rest) Q τ X := by
  intro p a w s
  unfold wpOps
  rw [hi]
  exact he.run s.size (s.osim hok).1 s.xs s.pb (fun j want d hg hd => ⟨hgok j want d hg hd, s.tmps d (hgok j want d hg hd)⟩) fun p' v w' h1 h2 h3 h4 =>
    wpOps_mono (lift_trans h4) _ _ _ (h p' _ w' (s.put h4 h2 h3 (okOp_dst hok) h1))

/-- A guarded operation that does more: both ways. -/
theorem AOps_guard {P : Program} {n : Nat} {ops : Array Oper} {i j : Nat} {want G : Bool} {rest : List Nat} {o : Oper} {Q : Post} {τ : Nat → AV} {X : XH} (hi : ops[i]? = some o) (hg : o.guard = some (j, want)) (hok : okOp n o = true) (hgok : ∀ d, (ops[j]?).bind (·.dst) = some d → d < n)
    (hG : gval τ ops j want = some G) (hy : G = true → needs τ o.op.operands.toList ∧ AOp P o (strip τ) X fun av X' => AOps P n ops rest Q (updd τ o.dst av) X') (hn : G = false → AOps P n ops rest Q (updd τ o.dst (.v undef)) X) : AOps P n ops (i :: rest) Q τ X := by
  intro p a w s
  unfold wpOps
  rw [hi]
  simp only []
  rw [gval_wanted hg hG s.size (fun d hd => ⟨hgok d hd, s.tmps d (hgok d hd)⟩)]
  have so := s.osim hok
  cases G with
  | true =>
    rw [if_pos rfl]
    obtain ⟨hn, hE⟩ := hy rfl
    refine .inl (Oper.wp_mono2 ?_ (fun _ _ _ h => h.elim) (hE p a w ⟨fun x hx => strip_rel (so.1 x hx) (needs_mem hn x (by simpa using hx)), so.2⟩))
    rintro a' w' ⟨p', av, X', v, rfl, h1, h2, h3, h4, hk⟩
    exact wpOps_mono (lift_trans h4) _ _ _ (hk p' _ w' (s.put h4 h2 h3 (okOp_dst hok) h1))
  | false =>
    rw [if_neg (by simp)]
    exact hn rfl p _ w (s.put Fr.refl s.xs s.pb (okOp_dst hok) (Rel.vv _))

theorem AWP_region {P : Program} {n id : Nat} {ops : Array Oper} {Q : Post} {τ : Nat → AV} {X : XH} (h : AOps P n ops (List.range ops.size) Q τ X) : AWP P n (.region id ops false) Q τ X :=
  fun p a w s => wp_region (h p a w s)

end Go.Proofs.YtgnfjahkhhkmoaaDoor.V
