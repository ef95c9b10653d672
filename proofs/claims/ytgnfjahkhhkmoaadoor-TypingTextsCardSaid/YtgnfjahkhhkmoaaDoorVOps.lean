/- What one operation of the machine does, told as data: a table of types, the operations that only compute, and their soundness. Over any program whose types are as the table says. -/
import Derived.Test.YtgnfjahkhhkmoaaDoorVCore
import Derived.IntWalk
import Derived.Laws.Sem
namespace Go.Proofs.YtgnfjahkhhkmoaaDoor.V
open Go
set_option linter.unusedVariables false
set_option linter.unusedSimpArgs false

/-- A type as far as the logic looks: its kind, its cells, its bytes, its zero value's cells. -/
inductive TD where
  | none | int (k : IntKind) | bool | str | slice (e : TypeId) | struct (fs : List (Nat × TypeId)) | ptr (e : TypeId) | func
structure TI where
  d : TD
  size : Nat
  bytes : Nat
  zero : List Value
def TI.isS (i : TI) : Bool := match i.d with | .struct _ => true | _ => false
def TI.zv (i : TI) : Value := match i.d with | .struct _ => .agg i.zero.toArray | _ => i.zero.headD undef
def TI.info (P : Program) (t : TypeId) (i : TI) : Prop := ∃ f, P.info? t = some f ∧ f.size = i.size ∧ f.bytes = i.bytes ∧ f.zero = some i.zv ∧ i.zero.length = i.size ∧ i.size ≠ 0
def TI.ok (P : Program) (t : TypeId) (i : TI) : Prop :=
  match i.d with
  | .none => True
  | .int k => P.underlying t = some (.int k) ∧ i.info P t
  | .bool => P.underlying t = some .bool ∧ i.info P t
  | .str => P.underlying t = some .string ∧ i.info P t
  | .slice e => P.underlying t = some (.slice e) ∧ i.info P t
  | .struct fs => (∃ l, P.underlying t = some (.struct l) ∧ l.toList.map (fun f => (f.offset, f.type)) = fs) ∧ i.info P t
  | .ptr e => P.underlying t = some (.pointer e) ∧ i.info P t
  | .func => (∃ a b v, P.underlying t = some (.func a b v)) ∧ i.info P t
abbrev Tab := TypeId → TI
def TD.known : TD → Bool | .none => false | _ => true
theorem TD.ne_of_known {d : TD} (h : d.known = true) : d ≠ .none := by rintro rfl; simp [TD.known] at h
def Tab.ok (P : Program) (td : Tab) : Prop := (∀ t, (td t).ok P t) ∧ ∀ t, (td t).d.known = true → (td t).zv.cells = (td t).zero.toArray

section types
variable {P : Program} {td : Tab} (h : td.ok P) {t : TypeId} {w : World}
include h
theorem Tab.info (hn : (td t).d ≠ .none) : (td t).info P t := by
  have := h.1 t
  unfold TI.ok at this
  split at this <;> first | (rename_i e; exact absurd e hn) | exact this.2
theorem Tab.run_sizeOf (hn : (td t).d ≠ .none) : (sizeOf t).run P w = .ok (td t).size w := by
  obtain ⟨f, h1, h2, _⟩ := Tab.info h hn
  simp [sizeOf, typeInfo, h1, h2]
theorem Tab.run_zero (hn : (td t).d ≠ .none) : (zeroValue t).run P w = .ok (td t).zv w := by
  obtain ⟨f, h1, h2, h3, h4, _⟩ := Tab.info h hn
  simp [zeroValue, typeInfo, h1, h4]
theorem Tab.run_isAgg (hn : (td t).d ≠ .none) : (isAgg t).run P w = .ok (td t).isS w := by
  have := h.1 t
  unfold TI.ok at this
  unfold TI.isS
  split at this
  case h_1 e => exact absurd e hn
  case h_6 fs e => rw [e]; obtain ⟨⟨l, h1, h2⟩, _⟩ := this; simp [isAgg, underlying, h1]
  case h_8 e => rw [e]; obtain ⟨⟨a, b, v, h1⟩, _⟩ := this; simp [isAgg, underlying, h1]
  all_goals (rename_i e; rw [e]; simp [isAgg, underlying, this.1])
theorem Tab.und_slice {e : TypeId} (hd : (td t).d = .slice e) : (underlying t).run P w = .ok (.slice e) w := by
  have := h.1 t; simp only [TI.ok, hd] at this; simp [underlying, this.1]
theorem Tab.und_int {k : IntKind} (hd : (td t).d = .int k) : (underlying t).run P w = .ok (.int k) w := by
  have := h.1 t; simp only [TI.ok, hd] at this; simp [underlying, this.1]
theorem Tab.und_str (hd : (td t).d = .str) : (underlying t).run P w = .ok .string w := by
  have := h.1 t; simp only [TI.ok, hd] at this; simp [underlying, this.1]
theorem Tab.und_bool (hd : (td t).d = .bool) : (underlying t).run P w = .ok .bool w := by
  have := h.1 t; simp only [TI.ok, hd] at this; simp [underlying, this.1]
theorem Tab.und_struct {fs : List (Nat × TypeId)} (hd : (td t).d = .struct fs) : ∃ l, (underlying t).run P w = .ok (.struct l) w ∧ l.toList.map (fun f => (f.offset, f.type)) = fs := by
  have := h.1 t; simp only [TI.ok, hd] at this; obtain ⟨⟨l, h1, h2⟩, _⟩ := this; exact ⟨l, by simp [underlying, h1], h2⟩
end types

/-- What an operation finds: its operands told, the memory told. -/
def OSim (p : PB) (τ : Nat → AV) (X : XH) (a : Act) (w : World) (o : Oper) : Prop :=
  (∀ x, x ∈ o.op.operands → Rel p w (ev τ x) (a.eval x)) ∧ XSim p X w ∧ PBk p w

def AOp (P : Program) (o : Oper) (τ : Nat → AV) (X : XH) (k : AV → XH → Prop) : Prop :=
  ∀ p a w, OSim p τ X a w o → o.wp P a w (fun a' w' => ∃ p' av X' v, a' = a.put o.dst v ∧ Rel p' w' av v ∧ XSim p' X' w' ∧ PBk p' w' ∧ Fr p X w p' X' w' ∧ k av X') (fun _ _ _ => False)

theorem AOp.mono {P : Program} {o : Oper} {τ : Nat → AV} {X : XH} {k k' : AV → XH → Prop} (h : AOp P o τ X k) (hk : ∀ av X, k av X → k' av X) : AOp P o τ X k' :=
  fun p a w s => Oper.wp_mono (fun _ _ ⟨p', av, X', v, e, h1, h2, h3, h4, q⟩ => ⟨p', av, X', v, e, h1, h2, h3, h4, hk _ _ q⟩) (h p a w s)

/-- An operation that only computes. -/
theorem AOp.pure {P : Program} {o : Oper} {τ : Nat → AV} {X : XH} {k : AV → XH → Prop} {r : AV}
    (h : ∀ p a w, OSim p τ X a w o → ∃ v, (execOp a.eval o).run P w = .ok (.value v) w ∧ Rel p w r v) (hk : k r X) : AOp P o τ X k := by
  intro p a w s
  obtain ⟨v, hr, hv⟩ := h p a w s
  simp only [Oper.wp, hr, Oper.upon]
  exact ⟨p, r, X, v, rfl, hv, s.2.1, s.2.2, Fr.refl, hk⟩

def cellsAt (cs : List AV) (k sz : Nat) (z : List Value) : List AV := if k + sz ≤ cs.length then (cs.drop k).take sz else z.map .v
def cellAt (cs : List AV) (k : Nat) (z : List Value) : AV := cs.getD k (.v (z.headD undef))

/-- A value of a type out of a row of cells. -/
def TI.at (i : TI) (cs : List AV) (k : Nat) : AV := if i.isS then .agg (cellsAt cs k i.size i.zero) else cellAt cs k i.zero

def bt (s : ByteArray) (m : Int) : Int := ((s.data.toList.getD m.toNat 0).toNat : Int)

/-- Two operands told, a binary operation: what is owed and what comes. -/
def bin (d : TD) (op : BinOp) (x y : AV) : Option (Prop × AV) :=
  match x, y with
  | .v (.int k a), .v (.int k' b) =>
    if k = k' then
      match op with
      | .add => some (True, .v (.int k (k.wrap (a + b))))
      | .sub => some (True, .v (.int k (k.wrap (a - b))))
      | .mul => some (True, .v (.int k (k.wrap (a * b))))
      | .quo => some (b ≠ 0, .v (.int k (k.wrap (a.tdiv b))))
      | .rem => some (b ≠ 0, .v (.int k (a.tmod b)))
      | .eql => some (True, .v (.bool (a == b)))
      | .neq => some (True, .v (.bool (a != b)))
      | .lss => some (True, .v (.bool (decide (a < b))))
      | .leq => some (True, .v (.bool (decide (a ≤ b))))
      | .gtr => some (True, .v (.bool (decide (a > b))))
      | .geq => some (True, .v (.bool (decide (a ≥ b))))
      | _ => none
    else none
  | .v (.string a), .v (.string b) =>
    match op with
    | .add => some (a.size + b.size ≤ 9223372036854775807, .v (.string (a ++ b)))
    | .eql => some (True, .v (.bool (a.toList == b.toList)))
    | .neq => some (True, .v (.bool (!(a.toList == b.toList))))
    | _ => none
  | .v (.bool a), .v (.bool b) =>
    match d, op with
    | .bool, .eql => some (True, .v (.bool (a == b)))
    | .bool, .neq => some (True, .v (.bool (!(a == b))))
    | _, _ => none
  | _, _ => none

theorem bin_sound {P : Program} {i : TI} {op : BinOp} {x y : AV} {t : TypeId} (hi : i.ok P t) {c : Prop} {r : AV} (h : bin i.d op x y = some (c, r)) (hc : c) {p : PB} {w : World} {u v : Value} (hx : Rel p w x u) (hy : Rel p w y v) (xo yo : Operand) :
    ∃ z, (do eqGuard op t xo yo u v; binOp op t u v : Sem Value).run P w = .ok z w ∧ Rel p w r z := by
  unfold bin at h
  split at h
  · rename_i k a k' b
    simp only [Rel] at hx hy
    subst hx hy
    split at h
    · rename_i e; subst e
      split at h
      case h_12 => exact absurd h (by simp)
      all_goals
        simp only [Option.some.injEq, Prod.mk.injEq] at h
        obtain ⟨rfl, rfl⟩ := h
        refine ⟨_, ?_, Rel.vv _⟩
        simp [eqGuard, binOp, Op.intArith, Op.intDiv, Op.intCmp, hc]
    · exact absurd h (by simp)
  · rename_i a b
    simp only [Rel] at hx hy
    subst hx hy
    split at h
    case h_4 => exact absurd h (by simp)
    all_goals
      simp only [Option.some.injEq, Prod.mk.injEq] at h
      obtain ⟨rfl, rfl⟩ := h
      refine ⟨_, ?_, Rel.vv _⟩
    · have h2 : (a.size : Int) + (b.size : Int) ≤ 9223372036854775807 := by omega
      simp [eqGuard, binOp, Op.stringOp, IntKind.max, IntKind.signed, IntKind.bits, h2]
    · simp [eqGuard, binOp, Op.stringOp]
    · simp [eqGuard, binOp, Op.stringOp]
  · rename_i a b
    simp only [Rel] at hx hy
    subst hx hy
    split at h
    case h_3 => exact absurd h (by simp)
    all_goals
      rename_i hd
      have hu : P.underlying t = some .bool := by
        unfold TI.ok at hi
        rw [hd] at hi
        exact hi.1
      simp only [Option.some.injEq, Prod.mk.injEq] at h
      obtain ⟨rfl, rfl⟩ := h
      refine ⟨_, ?_, Rel.vv _⟩
      simp [eqGuard, binOp, run_equal_bool w t a b hu]
  · exact absurd h (by simp)

theorem Addr.add_mk (b o k : Nat) : (⟨b, o, none⟩ : Addr).add k = ⟨b, o + k, none⟩ := by
  unfold Addr.add; split
  · rename_i h; subst h; rfl
  · rfl

theorem run_load_cells {P : Program} {w : World} {b off : Nat} {ys : List Value} (hc : Cells w b off ys) : ∀ (m i : Nat) (acc : Array Value), i + m ≤ ys.length →
    (loadCellsFrom ⟨b, off, none⟩ i m acc).run P w = .ok (acc ++ ((ys.drop i).take m).toArray) w := by
  intro m
  induction m with
  | zero => intro i acc _; simp [loadCellsFrom]
  | succ m ih =>
    intro i acc hi
    have hlt : i < ys.length := by omega
    have hy : ys[i]? = some ys[i] := List.getElem?_eq_getElem hlt
    have hcell := hc i _ hy
    simp only [loadCellsFrom, Sem.run_bind, run_load, Addr.add_mk, hcell, Result.andThen_ok]
    rw [ih (i + 1) _ (by omega)]
    have : (ys.drop i).take (m + 1) = ys[i] :: (ys.drop (i + 1)).take m := by
      rw [List.drop_eq_getElem_cons hlt, List.take_succ_cons]
    rw [this]
    simp

theorem run_loadVar {P : Program} {td : Tab} (ht : td.ok P) {t : TypeId} (hn : (td t).d ≠ .none) {p : PB} {w : World} {b off k : Nat} {ys : List Value} {cs : List AV} (hc : Cells w b off ys) (hl : RelL p w cs ys)
    (hk : k + (td t).size ≤ cs.length) : ∃ v, (loadVar t ⟨b, off + k, none⟩).run P w = .ok v w ∧ Rel p w ((td t).at cs k) v := by
  have hlen := hl.length
  have hc' : Cells w b (off + k) (ys.drop k) := by
    intro j y hj
    have := hc (k + j) y (by simpa [List.getElem?_drop] using hj)
    rw [Nat.add_assoc]; exact this
  unfold loadVar
  simp only [Sem.run_bind, Tab.run_isAgg ht hn, Result.andThen_ok]
  unfold TI.at
  split
  · rename_i hS
    simp only [Sem.run_bind, Tab.run_sizeOf ht hn, Result.andThen_ok, loadCells]
    rw [run_load_cells hc' _ 0 _ (by simp; omega)]
    refine ⟨_, rfl, ?_⟩
    simp only [cellsAt, hk, if_true, Rel]
    exact ⟨(ys.drop k).take (td t).size, by simp, RelL.take _ (RelL.drop _ hl)⟩
  · rename_i hS
    obtain ⟨f, h1, h2, h3, h4, h5, h6⟩ := Tab.info ht hn
    have hlt : k < cs.length := by omega
    obtain ⟨y, hy, hr⟩ := RelL.get k hl (List.getElem?_eq_getElem hlt)
    have := hc k y hy
    refine ⟨y, by simp [this], ?_⟩
    unfold cellAt
    rw [List.getD_eq_getElem?_getD, List.getElem?_eq_getElem hlt]
    exact hr

/-- A load: what is owed, what comes. -/
def pLoad (i : TI) (X : XH) (a : AV) : Option (Prop × AV) :=
  if i.d.known then
    match a with
    | .pp cs k => some (k + i.size ≤ cs.length, i.at cs k)
    | .v (.pointer (some ⟨b, off, none⟩)) =>
      match X b with
      | some o => some (off + i.size ≤ o.cs.length, i.at o.cs off)
      | none => none
    | _ => none
  else none

theorem Cells.ofBlock {w : World} {r : Nat} {ys : List Value} {T : TypeId} {z : Nat × Nat} (h : w.heap[r]? = some (.cells ys.toArray T z)) : Cells w r 0 ys := by
  intro j y hj
  simp [World.cell?, h, hj]

theorem pLoad_sound {P : Program} {td : Tab} (ht : td.ok P) {t : TypeId} {X : XH} {x : AV} {c : Prop} {r : AV} (h : pLoad (td t) X x = some (c, r)) (hc : c) {p : PB} {w : World} {u : Value} (hx : Rel p w x u) (hX : XSim p X w) :
    ∃ z, (Instr.loadAt t u).run P w = .ok z w ∧ Rel p w r z := by
  unfold pLoad at h
  split at h
  case isFalse => exact absurd h (by simp)
  rename_i hk
  split at h
  · rename_i cs k
    simp only [Option.some.injEq, Prod.mk.injEq] at h
    obtain ⟨rfl, rfl⟩ := h
    simp only [Rel] at hx
    obtain ⟨b, off, ys, rfl, hb, hcs, hl⟩ := hx
    obtain ⟨v, h1, h2⟩ := run_loadVar ht (TD.ne_of_known hk) hcs hl hc
    exact ⟨v, by simpa [Instr.loadAt, Instr.sureAddr] using h1, h2⟩
  · rename_i b off
    split at h
    · rename_i o ho
      simp only [Option.some.injEq, Prod.mk.injEq] at h
      obtain ⟨rfl, rfl⟩ := h
      simp only [Rel] at hx
      subst hx
      obtain ⟨_, ys, hy, hl⟩ := hX b o ho
      obtain ⟨v, h1, h2⟩ := run_loadVar ht (TD.ne_of_known hk) (Cells.ofBlock hy) hl hc
      exact ⟨v, by simpa [Instr.loadAt, Instr.sureAddr] using h1, h2⟩
    · exact absurd h (by simp)
  · exact absurd h (by simp)

/-- A field's address. -/
def pFieldAddr (td : Tab) (s : TypeId) (x : AV) (f : Nat) : Option (Prop × AV) :=
  match (td s).d with
  | .struct fs =>
    match fs[f]? with
    | some (off, ft) =>
      if (td ft).d.known then
        match x with
        | .pp cs k => some (True, .pp cs (k + off))
        | .v (.pointer (some ⟨b, o, none⟩)) => some (True, .v (.pointer (some ⟨b, o + off, none⟩)))
        | _ => none
      else none
    | none => none
  | _ => none

theorem fields_get {l : Array Field} {fs : List (Nat × TypeId)} (h : l.toList.map (fun f => (f.offset, f.type)) = fs) {f off : Nat} {ft : TypeId} (hf : fs[f]? = some (off, ft)) : ∃ g, l[f]? = some g ∧ g.offset = off ∧ g.type = ft := by
  subst h
  simp only [List.getElem?_map, Array.getElem?_toList, Option.map_eq_some_iff, Prod.mk.injEq] at hf
  obtain ⟨g, h1, h2, h3⟩ := hf
  exact ⟨g, h1, h2, h3⟩

theorem run_fieldPlace {P : Program} {td : Tab} (ht : td.ok P) {w : World} {g : Field} (hn : (td g.type).d.known = true) (b o : Nat) : (fieldPlace ⟨b, o, none⟩ g).run P w = .ok ⟨b, o + g.offset, none⟩ w := by
  obtain ⟨f, h1, h2, h3, h4, h5, h6⟩ := Tab.info ht (TD.ne_of_known hn)
  simp [fieldPlace, Tab.run_sizeOf ht (TD.ne_of_known hn), h6, Addr.add_mk]

theorem pFieldAddr_sound {P : Program} {td : Tab} (ht : td.ok P) {s : TypeId} {f : Nat} {x : AV} {c : Prop} {r : AV} (h : pFieldAddr td s x f = some (c, r)) {p : PB} {w : World} {u : Value} (hx : Rel p w x u) :
    ∃ z, (Instr.fieldAt s u f).run P w = .ok z w ∧ Rel p w r z := by
  unfold pFieldAddr at h
  split at h
  case h_2 => exact absurd h (by simp)
  rename_i fs hd
  split at h
  case h_2 => exact absurd h (by simp)
  rename_i off ft hf
  split at h
  case isFalse => exact absurd h (by simp)
  rename_i hk
  obtain ⟨l, hu, hl⟩ := Tab.und_struct ht (w := w) hd
  obtain ⟨g, hg, rfl, rfl⟩ := fields_get hl hf
  split at h
  · rename_i cs k
    simp only [Option.some.injEq, Prod.mk.injEq] at h
    obtain ⟨rfl, rfl⟩ := h
    simp only [Rel] at hx
    obtain ⟨b, o, ys, rfl, hb, hcs, hl⟩ := hx
    refine ⟨.pointer (some ⟨b, o + k + g.offset, none⟩), by simp [Instr.fieldAt, hu, hg, Instr.sureAddr, run_fieldPlace ht hk], ?_⟩
    simp only [Rel]
    exact ⟨b, o, ys, by rw [Nat.add_assoc], hb, hcs, hl⟩
  · rename_i b o
    simp only [Option.some.injEq, Prod.mk.injEq] at h
    obtain ⟨rfl, rfl⟩ := h
    simp only [Rel] at hx
    subst hx
    exact ⟨.pointer (some ⟨b, o + g.offset, none⟩), by simp [Instr.fieldAt, hu, hg, Instr.sureAddr, run_fieldPlace ht hk], Rel.vv _⟩
  · exact absurd h (by simp)

/-- A field of a struct by value. -/
def pField (td : Tab) (s : TypeId) (x : AV) (f : Nat) : Option (Prop × AV) :=
  match (td s).d with
  | .struct fs =>
    match fs[f]? with
    | some (off, ft) =>
      if (td ft).d.known then
        match x with
        | .agg cs => some (off + (td ft).size ≤ cs.length, (td ft).at cs off)
        | _ => none
      else none
    | none => none
  | _ => none

theorem pField_sound {P : Program} {td : Tab} (ht : td.ok P) {s : TypeId} {f : Nat} {x : AV} {c : Prop} {r : AV} (h : pField td s x f = some (c, r)) (hc : c) {p : PB} {w : World} {u : Value} (hx : Rel p w x u) :
    ∃ z, (Instr.field s u f).run P w = .ok z w ∧ Rel p w r z := by
  unfold pField at h
  split at h
  case h_2 => exact absurd h (by simp)
  rename_i fs hd
  split at h
  case h_2 => exact absurd h (by simp)
  rename_i off ft hf
  split at h
  case isFalse => exact absurd h (by simp)
  rename_i hk
  obtain ⟨l, hu, hl⟩ := Tab.und_struct ht (w := w) hd
  obtain ⟨g, hg, rfl, rfl⟩ := fields_get hl hf
  have hn := TD.ne_of_known hk
  split at h
  case h_2 => exact absurd h (by simp)
  rename_i cs
  simp only [Option.some.injEq, Prod.mk.injEq] at h
  obtain ⟨rfl, rfl⟩ := h
  simp only [Rel] at hx
  obtain ⟨ys, rfl, hl⟩ := hx
  have hlen := hl.length
  obtain ⟨fi, h1, h2, h3, h4, h5, h6⟩ := Tab.info ht hn
  unfold TI.at
  by_cases hS : (td g.type).isS = true
  · refine ⟨.agg (ys.toArray.extract g.offset (g.offset + (td g.type).size)), by simp [Instr.field, hu, hg, asAgg, part, Tab.run_isAgg ht hn, Tab.run_sizeOf ht hn, hS], ?_⟩
    simp only [hS, if_true, cellsAt, hc, Rel]
    refine ⟨(ys.drop g.offset).take (td g.type).size, ?_, RelL.take _ (RelL.drop _ hl)⟩
    simp
  · have hS' : (td g.type).isS = false := by simpa using hS
    have hlt : g.offset < cs.length := by omega
    obtain ⟨y, hy, hr⟩ := RelL.get g.offset hl (List.getElem?_eq_getElem hlt)
    refine ⟨y, by simp [Instr.field, hu, hg, asAgg, part, Tab.run_isAgg ht hn, hS', hy], ?_⟩
    simp only [hS', cellAt, if_false, Bool.false_eq_true]
    rw [List.getD_eq_getElem?_getD, List.getElem?_eq_getElem hlt]
    exact hr

/-- An element's address. -/
def pIndexAddr (td : Tab) (t : TypeId) (x i : AV) : Option (Prop × AV) :=
  match (td t).d with
  | .slice e =>
    if (td e).d.known then
      match x, i with
      | .sl _ n cs, .v (.int _ m) => some (0 ≤ m ∧ m < (n : Int) ∧ n * (td e).size ≤ cs.length, .pp cs (m.toNat * (td e).size))
      | .v (.slice (some ⟨b, o, none⟩) n _), .v (.int _ m) => some (0 ≤ m ∧ m < (n : Int), .v (.pointer (some ⟨b, o + m.toNat * (td e).size, none⟩)))
      | _, _ => none
    else none
  | _ => none

theorem pIndexAddr_sound {P : Program} {td : Tab} (ht : td.ok P) {t : TypeId} {x i : AV} {c : Prop} {r : AV} (h : pIndexAddr td t x i = some (c, r)) (hc : c) {p : PB} {w : World} {u v : Value} (hx : Rel p w x u) (hi : Rel p w i v) :
    ∃ z, (Instr.indexAt t u v).run P w = .ok z w ∧ Rel p w r z := by
  unfold pIndexAddr at h
  split at h
  case h_2 => exact absurd h (by simp)
  rename_i e hd
  split at h
  case isFalse => exact absurd h (by simp)
  rename_i hk
  have hu := Tab.und_slice ht (w := w) hd
  have hz := Tab.run_sizeOf ht (w := w) (TD.ne_of_known hk)
  obtain ⟨fi, h1, h2, h3, h4, h5, h6⟩ := Tab.info ht (TD.ne_of_known hk)
  split at h
  · rename_i tt n cs k m
    simp only [Option.some.injEq, Prod.mk.injEq] at h
    obtain ⟨rfl, rfl⟩ := h
    obtain ⟨hm0, hmn, hnc⟩ := hc
    simp only [Rel] at hx hi
    subst hi
    obtain ⟨A, c, rfl, h7, h8, h9⟩ := hx
    have hcs : cs ≠ [] := by
      rintro rfl
      have hp : 0 < n * (td e).size := Nat.mul_pos (by omega) (Nat.pos_of_ne_zero h6)
      simp only [List.length_nil] at hnc
      omega
    rcases h9 with h9 | ⟨b, o, ys, rfl, hb, hcc, hl⟩
    · exact absurd h9 hcs
    · refine ⟨.pointer (some ⟨b, o + m.toNat * (td e).size, none⟩), by simp [Instr.indexAt, asIntOf, hu, hz, hm0, hmn, Addr.add_mk], ?_⟩
      simp only [Rel]
      exact ⟨b, o, ys, rfl, hb, hcc, hl⟩
  · rename_i b o n c k m
    simp only [Option.some.injEq, Prod.mk.injEq] at h
    obtain ⟨rfl, rfl⟩ := h
    obtain ⟨hm0, hmn⟩ := hc
    simp only [Rel] at hx hi
    subst hi hx
    exact ⟨.pointer (some ⟨b, o + m.toNat * (td e).size, none⟩), by simp [Instr.indexAt, asIntOf, hu, hz, hm0, hmn, Addr.add_mk], Rel.vv _⟩
  · exact absurd h (by simp)

/-- A byte of a string. -/
def pIndex (td : Tab) (t : TypeId) (x i : AV) : Option (Prop × AV) :=
  match (td t).d, x, i with
  | .str, .v (.string s), .v (.int _ m) => some (0 ≤ m ∧ m < (s.size : Int), .v (.int .u8 (bt s m)))
  | _, _, _ => none

theorem pIndex_sound {P : Program} {td : Tab} (ht : td.ok P) {t : TypeId} {x i : AV} {c : Prop} {r : AV} (h : pIndex td t x i = some (c, r)) (hc : c) {p : PB} {w : World} {u v : Value} (hx : Rel p w x u) (hi : Rel p w i v) :
    ∃ z, (Instr.index t u v).run P w = .ok z w ∧ Rel p w r z := by
  unfold pIndex at h
  split at h
  case h_2 => exact absurd h (by simp)
  rename_i s k m hd
  simp only [Option.some.injEq, Prod.mk.injEq] at h
  obtain ⟨rfl, rfl⟩ := h
  simp only [Rel] at hx hi
  subst hi hx
  have hlt : m.toNat < s.size := by omega
  have hg : s[m.toNat]? = some s[m.toNat] := getElem?_pos s m.toNat hlt
  refine ⟨.int .u8 (bt s m), ?_, Rel.vv _⟩
  have : bt s m = ((s[m.toNat]).toNat : Int) := by
    unfold bt
    rw [List.getD_eq_getElem?_getD]
    have : s.data.toList[m.toNat]? = some s[m.toNat] := by
      rw [Array.getElem?_toList]
      exact Array.getElem?_eq_getElem hlt
    rw [this]; rfl
  rw [this]
  simp [Instr.index, asIntOf, Tab.und_str ht hd, hc.1, hg]

end Go.Proofs.YtgnfjahkhhkmoaaDoor.V
