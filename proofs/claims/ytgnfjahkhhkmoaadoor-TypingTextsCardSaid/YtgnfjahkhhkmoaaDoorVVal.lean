/- The operations that only compute, under one name, with their soundness. -/
import Derived.Test.YtgnfjahkhhkmoaaDoorVBuild
namespace Go.Proofs.YtgnfjahkhhkmoaaDoor.V
open Go
set_option linter.unusedVariables false
set_option linter.unusedSimpArgs false

def pPick (t : Bool) (x y : AV) : Option (Prop × AV) :=
  match x, y with
  | .v (.bool a), .v (.bool b) => some (True, .v (.bool (bif t then a else b)))
  | .opt g (.v (.bool a)), .v (.bool b) => some (t = true → g = true, .v (.bool (bif t then a else b)))
  | .v (.bool a), .opt g (.v (.bool b)) => some (t = false → g = true, .v (.bool (bif t then a else b)))
  | .v (.int k a), .v (.int k' b) => if k = k' then some (True, .v (.int k (bif t then a else b))) else none
  | _, _ => none

theorem pPick_sound {p : PB} {w : World} {t : Bool} {x y r : AV} {c : Prop} (h : pPick t x y = some (c, r)) (hc : c) {u v : Value} (hx : Rel p w x u) (hy : Rel p w y v) : Rel p w r (if t then u else v) := by
  unfold pPick at h
  split at h
  · simp only [Option.some.injEq, Prod.mk.injEq] at h
    obtain ⟨rfl, rfl⟩ := h
    simp only [Rel] at hx hy ⊢
    subst hx hy; cases t <;> rfl
  · simp only [Option.some.injEq, Prod.mk.injEq] at h
    obtain ⟨rfl, rfl⟩ := h
    simp only [Rel] at hx hy ⊢
    subst hy; cases t
    · rfl
    · simpa using hx.1 (hc rfl)
  · simp only [Option.some.injEq, Prod.mk.injEq] at h
    obtain ⟨rfl, rfl⟩ := h
    simp only [Rel] at hx hy ⊢
    subst hx; cases t
    · simpa using hy.1 (hc rfl)
    · rfl
  · split at h
    · rename_i e; subst e
      simp only [Option.some.injEq, Prod.mk.injEq] at h
      obtain ⟨rfl, rfl⟩ := h
      simp only [Rel] at hx hy ⊢
      subst hx hy; cases t <;> rfl
    · exact absurd h (by simp)
  · exact absurd h (by simp)

def pBuiltin (td : Tab) (b : Builtin) (ts : List TypeId) (xs : List AV) : Option (Prop × AV) :=
  match b, ts, xs with
  | .len, [t], [x] => pLen td t x
  | .min, _, [.v (.int k a), .v (.int k' b)] => if k = k' then some (True, .v (.int k (if b < a then b else a))) else none
  | .max, _, [.v (.int k a), .v (.int k' b)] => if k = k' then some (True, .v (.int k (if b > a then b else a))) else none
  | _, _, _ => none

/-- What an operation that only computes owes and yields. -/
def pval (td : Tab) (τ : Nat → AV) (X : XH) : Op → Option (Prop × AV)
  | .move x => some (True, ev τ x)
  | .assign x => some (True, ev τ x)
  | .pick c a b => match ev τ c with | .v (.bool t) => pPick t (ev τ a) (ev τ b) | _ => none
  | .nilCheck x =>
    match ev τ x with
    | .v (.pointer (some a)) => some (True, .v (.pointer (some a)))
    | .pp cs k => some (True, .pp cs k)
    | .clo (.func f) a c => some (True, .clo (.func f) a c)
    | _ => none
  | .binOp op t x y _ => bin (td t).d op (ev τ x) (ev τ y)
  | .unOp .not _ x => match ev τ x with | .v (.bool b) => some (True, .v (.bool (!b))) | _ => none
  | .unOp .neg _ x => match ev τ x with | .v (.int k m) => some (True, .v (.int k (k.wrap (0 - m)))) | _ => none
  | .convert s d x => pConv td s d (ev τ x)
  | .makeFunc fn first captured => some (True, .clo fn (first.toList.map (ev τ)) (captured.toList.map (ev τ)))
  | .fieldAddr s x f => pFieldAddr td s (ev τ x) f
  | .field s x f => pField td s (ev τ x) f
  | .indexAddr t x i => pIndexAddr td t (ev τ x) (ev τ i)
  | .index t x i => pIndex td t (ev τ x) (ev τ i)
  | .load t x => pLoad (td t) X (ev τ x)
  | .slice t x lo hi mx => pSlice td t (ev τ x) (lo.map (ev τ)) (hi.map (ev τ)) (mx.map (ev τ))
  | .extract x i => match ev τ x with | .tup vs => (vs[i]?).map fun a => (True, a) | _ => none
  | .build t ps => pBuild td t (ps.toList.map fun x => (x.1, ev τ x.2))
  | .call c => match c.callee with | .builtin b => pBuiltin td b c.argTypes.toList (c.args.toList.map (ev τ)) | _ => none
  | _ => none

theorem RelL.evs {p : PB} {w : World} {τ : Nat → AV} {a : Act} : ∀ (l : List Operand), (∀ x ∈ l, Rel p w (ev τ x) (a.eval x)) → RelL p w (l.map (ev τ)) (l.map a.eval)
  | [], _ => RelL.nil
  | x :: l, h => RelL.cons (h x (by simp)) (RelL.evs l fun y hy => h y (by simp [hy]))
theorem RelP.evs {p : PB} {w : World} {τ : Nat → AV} {a : Act} : ∀ (l : List (Nat × Operand)), (∀ x ∈ l, Rel p w (ev τ x.2) (a.eval x.2)) → RelP p w (l.map fun x => (x.1, ev τ x.2)) (l.map fun x => (x.1, a.eval x.2))
  | [], _ => by simp [RelP]
  | x :: l, h => by
    simp only [List.map_cons, RelP]
    exact ⟨_, _, rfl, h x (by simp), RelP.evs l fun y hy => h y (by simp [hy])⟩
theorem bndOk_map {p : PB} {w : World} {τ : Nat → AV} {a : Act} (o : Option Operand) (h : ∀ x, o = some x → Rel p w (ev τ x) (a.eval x)) : bndOk p w (o.map (ev τ)) (o.map a.eval) := by
  cases o with
  | none => trivial
  | some x => exact h x rfl

theorem run_builtin {P : Program} {a : Act} {w : World} {o : Oper} {c : Call} {b : Builtin} (ho : o.op = .call c) (hb : c.callee = .builtin b) :
    ∃ cs, (execOp a.eval o).run P w = (builtin b c.argTypes o.type cs (c.args.map a.eval)).run P w := by
  unfold execOp
  rw [ho]
  simp only [resolve, hb]
  exact ⟨_, rfl⟩

theorem arr_map {α β : Type} (f : α → β) (xs : Array α) : xs.map f = (xs.toList.map f).toArray := by
  rw [← Array.toList_map]

theorem pval_sound {P : Program} {td : Tab} (ht : td.ok P) {τ : Nat → AV} {X : XH} {o : Oper} {c : Prop} {r : AV} (h : pval td τ X o.op = some (c, r)) (hc : c) {p : PB} {a : Act} {w : World} (s : OSim p τ X a w o) :
    ∃ v, (execOp a.eval o).run P w = .ok (.value v) w ∧ Rel p w r v := by
  obtain ⟨hs, hX, hb⟩ := s
  unfold execOp
  unfold pval at h
  split at h
  · rename_i x e
    simp only [Option.some.injEq, Prod.mk.injEq] at h
    obtain ⟨rfl, rfl⟩ := h
    exact ⟨_, by simp [e], hs x (by simp [e, Op.operands])⟩
  · rename_i x e
    simp only [Option.some.injEq, Prod.mk.injEq] at h
    obtain ⟨rfl, rfl⟩ := h
    exact ⟨_, by simp [e], hs x (by simp [e, Op.operands])⟩
  · rename_i cc x y e
    have h1 := hs cc (by simp [e, Op.operands])
    split at h
    · rename_i t hct
      rw [hct] at h1
      simp only [Rel] at h1
      refine ⟨if t then a.eval x else a.eval y, by simp [e, h1, asBool], ?_⟩
      exact pPick_sound h hc (hs x (by simp [e, Op.operands])) (hs y (by simp [e, Op.operands]))
    · exact absurd h (by simp)
  · rename_i x e
    have h1 := hs x (by simp [e, Op.operands])
    split at h
    · rename_i b hx
      simp only [Option.some.injEq, Prod.mk.injEq] at h
      obtain ⟨rfl, rfl⟩ := h
      rw [hx] at h1
      have h2 := h1
      simp only [Rel] at h2
      exact ⟨_, by simp [e, h2], Rel.vv _⟩
    · rename_i cs k hx
      simp only [Option.some.injEq, Prod.mk.injEq] at h
      obtain ⟨rfl, rfl⟩ := h
      rw [hx] at h1
      have h2 := h1
      simp only [Rel] at h2
      obtain ⟨b, off, ys, h3, h4⟩ := h2
      exact ⟨a.eval x, by simp [e, h3], h1⟩
    · rename_i f fi cp hx
      simp only [Option.some.injEq, Prod.mk.injEq] at h
      obtain ⟨rfl, rfl⟩ := h
      rw [hx] at h1
      have h2 := h1
      simp only [Rel] at h2
      obtain ⟨xs, ys, h3, h4⟩ := h2
      exact ⟨a.eval x, by simp [e, h3], h1⟩
    · exact absurd h (by simp)
  · rename_i op t x y t2 e
    obtain ⟨z, h1, h2⟩ := bin_sound (P := P) (t := t) (ht.1 t) h hc (hs x (by simp [e, Op.operands])) (hs y (by simp [e, Op.operands])) x y
    refine ⟨z, ?_, h2⟩
    simp only [e]
    rw [Sem.run_bind, h1]; rfl
  · rename_i t x e
    have h1 := hs x (by simp [e, Op.operands])
    split at h
    · rename_i b hx
      simp only [Option.some.injEq, Prod.mk.injEq] at h
      obtain ⟨rfl, rfl⟩ := h
      rw [hx] at h1
      simp only [Rel] at h1
      exact ⟨_, by simp [e, h1, Op.unary], Rel.vv _⟩
    · exact absurd h (by simp)
  · rename_i t x e
    have h1 := hs x (by simp [e, Op.operands])
    split at h
    · rename_i k m hx
      simp only [Option.some.injEq, Prod.mk.injEq] at h
      obtain ⟨rfl, rfl⟩ := h
      rw [hx] at h1
      simp only [Rel] at h1
      refine ⟨.int k (k.wrap (0 - m)), ?_, Rel.vv _⟩
      simp only [e, h1, Op.unary, Op.intArith]
      rfl
    · exact absurd h (by simp)
  · rename_i sT dT x e
    obtain ⟨z, h1, h2⟩ := pConv_sound ht h (hs x (by simp [e, Op.operands]))
    exact ⟨z, by simp [e, h1], h2⟩
  · rename_i fn first cap e
    simp only [Option.some.injEq, Prod.mk.injEq] at h
    obtain ⟨rfl, rfl⟩ := h
    refine ⟨.func fn (first.map a.eval) (cap.map a.eval), by simp [e, Instr.makeFunc], ?_⟩
    simp only [Rel]
    refine ⟨first.toList.map a.eval, cap.toList.map a.eval, by rw [arr_map, arr_map], ?_, ?_⟩
    · exact RelL.evs _ fun x hx => hs x (by simp [e, Op.operands]; exact .inl (by simpa using hx))
    · exact RelL.evs _ fun x hx => hs x (by simp [e, Op.operands]; exact .inr (by simpa using hx))
  · rename_i sT x f e
    obtain ⟨z, h1, h2⟩ := pFieldAddr_sound ht h (hs x (by simp [e, Op.operands]))
    exact ⟨z, by simp [e, h1], h2⟩
  · rename_i sT x f e
    obtain ⟨z, h1, h2⟩ := pField_sound ht h hc (hs x (by simp [e, Op.operands]))
    exact ⟨z, by simp [e, h1], h2⟩
  · rename_i t x i e
    obtain ⟨z, h1, h2⟩ := pIndexAddr_sound ht h hc (hs x (by simp [e, Op.operands])) (hs i (by simp [e, Op.operands]))
    exact ⟨z, by simp [e, h1], h2⟩
  · rename_i t x i e
    obtain ⟨z, h1, h2⟩ := pIndex_sound ht h hc (hs x (by simp [e, Op.operands])) (hs i (by simp [e, Op.operands]))
    exact ⟨z, by simp [e, h1], h2⟩
  · rename_i t x e
    obtain ⟨z, h1, h2⟩ := pLoad_sound ht h hc (hs x (by simp [e, Op.operands])) hX
    exact ⟨z, by simp [e, h1], h2⟩
  · rename_i t x lo hi mx e
    obtain ⟨z, h1, h2⟩ := pSlice_sound ht h hc (hs x (by simp [e, Op.operands]))
      (bndOk_map lo fun y hy => hs y (by subst hy; simp [e, Op.operands])) (bndOk_map hi fun y hy => hs y (by subst hy; simp [e, Op.operands])) (bndOk_map mx fun y hy => hs y (by subst hy; simp [e, Op.operands]))
    exact ⟨z, by simp [e, h1], h2⟩
  · rename_i x i e
    have h1 := hs x (by simp [e, Op.operands])
    split at h
    · rename_i vs hx
      simp only [Option.map_eq_some_iff, Prod.mk.injEq] at h
      obtain ⟨av, hg, rfl, rfl⟩ := h
      rw [hx] at h1
      simp only [Rel] at h1
      obtain ⟨ys, h2, h3⟩ := h1
      obtain ⟨y, h4, h5⟩ := RelL.get i h3 hg
      exact ⟨y, by simp [e, h2, Instr.extract, h4], h5⟩
    · exact absurd h (by simp)
  · rename_i t ps e
    obtain ⟨z, h1, h2⟩ := pBuild_sound ht h hc (p := p) (w := w) (RelP.evs (a := a) ps.toList fun x hx => hs x.2 (by
      simp only [e, Op.operands]
      rw [List.mem_toArray]
      exact List.mem_map.mpr ⟨x, hx, rfl⟩))
    refine ⟨z, ?_, h2⟩
    have : (ps.map fun x => (x.1, a.eval x.2)) = (ps.toList.map fun x => (x.1, a.eval x.2)).toArray := arr_map _ _
    simp only [e]
    rw [this]
    simp [h1]
  · rename_i cl e
    split at h
    case h_2 => exact absurd h (by simp)
    rename_i b hcb
    obtain ⟨consts, hrun⟩ := run_builtin (P := P) (a := a) (w := w) e hcb
    unfold execOp at hrun
    rw [hrun]
    have hargs : RelL p w (cl.args.toList.map (ev τ)) (cl.args.toList.map a.eval) := RelL.evs _ fun x hx => hs x (by
      simp only [e, Op.operands, Call.operands, hcb]
      simpa using hx)
    have hmap : cl.args.map a.eval = (cl.args.toList.map a.eval).toArray := arr_map _ _
    rw [hmap]
    generalize cl.args.toList.map a.eval = vs at hargs
    generalize cl.args.toList.map (ev τ) = avs at hargs h
    generalize hat : cl.argTypes.toList = ats at h
    have hat' : cl.argTypes = ats.toArray := by rw [← hat]
    rw [hat']
    unfold pBuiltin at h
    split at h
    · rename_i t x
      simp only [RelL] at hargs
      obtain ⟨y, _, rfl, h1, rfl⟩ := hargs
      obtain ⟨z, h2, h3⟩ := pLen_sound (ty := o.type) ht h h1
      exact ⟨z, by simp [builtin, h2], h3⟩
    · rename_i k x k' y
      split at h
      · rename_i ek; subst ek
        simp only [Option.some.injEq, Prod.mk.injEq] at h
        obtain ⟨rfl, rfl⟩ := h
        simp only [RelL, Rel] at hargs
        obtain ⟨_, _, rfl, rfl, _, _, rfl, rfl, rfl⟩ := hargs
        exact ⟨_, by simp [builtin, Builtin.min_, Builtin.min2], Rel.vv _⟩
      · exact absurd h (by simp)
    · rename_i k x k' y
      split at h
      · rename_i ek; subst ek
        simp only [Option.some.injEq, Prod.mk.injEq] at h
        obtain ⟨rfl, rfl⟩ := h
        simp only [RelL, Rel] at hargs
        obtain ⟨_, _, rfl, rfl, _, _, rfl, rfl, rfl⟩ := hargs
        exact ⟨_, by simp [builtin, Builtin.max_, Builtin.max2], Rel.vv _⟩
      · exact absurd h (by simp)
    · exact absurd h (by simp)
  · exact absurd h (by simp)

theorem AOp_pval {P : Program} {td : Tab} (ht : td.ok P) {τ : Nat → AV} {X : XH} {o : Oper} {c : Prop} {r : AV} {k : AV → XH → Prop} (h : pval td τ X o.op = some (c, r)) (hc : c) (hk : k r X) : AOp P o τ X k :=
  AOp.pure (fun _ _ _ s => pval_sound ht h hc s) hk

end Go.Proofs.YtgnfjahkhhkmoaaDoor.V
