/- The operations that write or make memory, told as data; calls. -/
import Derived.Test.YtgnfjahkhhkmoaaDoorVVal
namespace Go.Proofs.YtgnfjahkhhkmoaaDoor.V
open Go
set_option linter.unusedVariables false
set_option linter.unusedSimpArgs false

theorem XSim.lt {p : PB} {X : XH} {w : World} (h : XSim p X w) {r : Nat} {o : XB} (hr : X r = some o) : r < w.heap.size := by
  obtain ⟨_, ys, hy, _⟩ := h r o hr
  rcases Nat.lt_or_ge r w.heap.size with h | h
  · exact h
  · simp [Array.getElem?_eq_none h] at hy
theorem XSim.fresh {p : PB} {X : XH} {w : World} (h : XSim p X w) : X w.heap.size = none := by
  cases e : X w.heap.size with
  | none => rfl
  | some o => exact absurd (h.lt e) (by omega)

theorem PBk.push {p : PB} {w w' : World} {o : Obj} (h : PBk p w) (hw : w'.heap = w.heap.push o) : PBk p w' :=
  h.go (fun _ h => h) (fun b hb => by rw [hw, Array.getElem?_push, if_neg (by have := h b hb; omega)]) (fun b hb => by rw [hw]; have := h b hb; simp; omega)
/-- A new block: from outside it is the only change. -/
theorem new_block {p : PB} {X : XH} {w w' : World} {o : Obj} (hX : XSim p X w) (hp : PBk p w) (hw : w'.heap = w.heap.push o) :
    (∀ b, b < w.heap.size → w'.heap[b]? = w.heap[b]?) ∧ w'.heap[w.heap.size]? = some o ∧ (∀ av y, Rel p w av y → Rel p w' av y) ∧ w.heap.size ≤ w'.heap.size ∧ PBk p w' ∧ XSim p X w' := by
  have h1 : ∀ b, b < w.heap.size → w'.heap[b]? = w.heap[b]? := by
    intro b hb; rw [hw, Array.getElem?_push, if_neg (by omega)]
  have hm : ∀ av y, Rel p w av y → Rel p w' av y := fun av y h => Rel.mono (fun _ h => h) (fun b hb => h1 b (hp b hb)) av y h
  refine ⟨h1, by rw [hw]; simp, hm, by rw [hw]; simp, hp.go (fun _ h => h) (fun b hb => h1 b (hp b hb)) (fun b hb => by rw [hw]; have := hp b hb; simp; omega), fun r o hr => ?_⟩
  obtain ⟨h2, ys, h3, h4⟩ := hX r o hr
  exact ⟨h2, ys, by rw [h1 r (hX.lt hr)]; exact h3, RelL.mono (fun _ h => h) (fun b hb => h1 b (hp b hb)) _ _ h4⟩

theorem XSim.put_new {p : PB} {X : XH} {w w' : World} {T : TypeId} {cs : List AV} {ys : List Value} (hX : XSim p X w) (hp : PBk p w) (hw : w'.heap = w.heap.push (.cells ys.toArray T (0, 0))) (ho : Outs w w') (hl : RelL p w cs ys) :
    XSim p (X.put w.heap.size ⟨T, cs⟩) w' ∧ Fr p X w p (X.put w.heap.size ⟨T, cs⟩) w' := by
  obtain ⟨h1, h2, h3, h4, h5, h6⟩ := new_block hX hp hw
  refine ⟨fun r o hr => ?_, fun _ h => h, fun b hb _ => h1 b hb, fun b hb => ?_, h4, fun b hb => .inl hb, ho⟩
  · simp only [XH.put] at hr
    split at hr
    · rename_i e; subst e
      simp only [Option.some.injEq] at hr; subst hr
      exact ⟨fun h => by have := hp _ h; omega, ys, h2, RelL.mono (fun _ h => h) (fun b hb => h1 b (hp b hb)) _ _ hl⟩
    · exact h6 r o hr
  · simp only [XH.put] at hb
    split at hb
    · rename_i e; subst e; exact .inr (Nat.le_refl _)
    · exact .inl hb

/-- The new block is published at once. -/
theorem pub_new {p : PB} {X : XH} {w w' : World} {T : TypeId} {cs : List AV} {ys : List Value} (hX : XSim p X w) (hp : PBk p w) (hw : w'.heap = w.heap.push (.cells ys.toArray T (0, 0))) (ho : Outs w w') (hl : RelL p w cs ys) :
    let p' : PB := fun b => p b ∨ b = w.heap.size
    XSim p' X w' ∧ Fr p X w p' X w' ∧ PBk p' w' ∧ RelL p' w' cs ys ∧ Cells w' w.heap.size 0 ys ∧ p' w.heap.size := by
  intro p'
  obtain ⟨h1, h2, h3, h4, h5, h6⟩ := new_block hX hp hw
  have hk : ∀ b, p b → w'.heap[b]? = w.heap[b]? := fun b hb => h1 b (hp b hb)
  refine ⟨fun r o hr => ?_, ⟨fun _ h => .inl h, fun b hb _ => h1 b hb, fun b hb => .inl hb, h4, fun b hb => ?_, ho⟩, hp.go (fun _ h => .inl h) hk (fun b hb => ?_), RelL.mono (fun _ h => .inl h) hk _ _ hl, Cells.ofBlock h2, .inr rfl⟩
  · obtain ⟨h7, zs, h8, h9⟩ := hX r o hr
    have hlt := hX.lt hr
    refine ⟨fun h => ?_, zs, by rw [h1 r hlt]; exact h8, RelL.mono (fun _ h => .inl h) hk _ _ h9⟩
    rcases h with h | h
    · exact h7 h
    · omega
  · rcases hb with hb | hb
    · exact .inl hb
    · subst hb; exact .inr (.inr (Nat.le_refl _))
  · rcases hb with hb | hb
    · exact h5 b hb
    · subst hb; rw [hw]; simp

/-- A block of one's own changes. -/
theorem XSim.put_set {p : PB} {X : XH} {w w' : World} {r : Nat} {o : XB} {cs : List AV} {ys : List Value} (hX : XSim p X w) (hp : PBk p w) (hr : X r = some o)
    (hw : w'.heap = w.heap.setIfInBounds r (.cells ys.toArray o.T (0, 0))) (ho : Outs w w') (hl : RelL p w cs ys) :
    XSim p (X.put r ⟨o.T, cs⟩) w' ∧ Fr p X w p (X.put r ⟨o.T, cs⟩) w' ∧ PBk p w' ∧ (∀ av y, Rel p w av y → Rel p w' av y) := by
  have hlt := hX.lt hr
  have hsz : w'.heap.size = w.heap.size := by rw [hw]; simp
  have h1 : ∀ b, b ≠ r → w'.heap[b]? = w.heap[b]? := by
    intro b hb; rw [hw, Array.getElem?_setIfInBounds, if_neg (fun h => hb h.symm)]
  have hk : ∀ b, p b → w'.heap[b]? = w.heap[b]? := fun b hb => h1 b (fun e => by subst e; exact (hX _ _ hr).1 hb)
  refine ⟨fun q o' hq => ?_, ⟨fun _ h => h, fun b hb hx => h1 b (fun e => by subst e; rw [hr] at hx; exact absurd hx (by simp)), fun b hb => .inl ?_, by omega, fun b hb => .inl hb, ho⟩, hp.go (fun _ h => h) hk (fun b hb => by rw [hsz]; exact hp b hb), fun av y h => Rel.mono (fun _ h => h) hk av y h⟩
  · simp only [XH.put] at hq
    split at hq
    · rename_i e; subst e
      simp only [Option.some.injEq] at hq; subst hq
      refine ⟨(hX _ _ hr).1, ys, ?_, RelL.mono (fun _ h => h) hk _ _ hl⟩
      rw [hw]; simp [hlt]
    · rename_i e
      obtain ⟨h2, zs, h3, h4⟩ := hX q o' hq
      exact ⟨h2, zs, by rw [h1 q e]; exact h3, RelL.mono (fun _ h => h) hk _ _ h4⟩
  · simp only [XH.put] at hb
    split at hb
    · rename_i e; subst e; rw [hr]; simp
    · exact hb

theorem run_store_cells {P : Program} {b off : Nat} {T : TypeId} : ∀ (ys : List Value) (i : Nat) (xs : List Value) (w : World), w.heap[b]? = some (.cells xs.toArray T (0, 0)) → off + i + ys.length ≤ xs.length → (∀ z ∈ ys, z.oneCell' = true) →
    ∃ w', (storeCells ⟨b, off, none⟩ ys i).run P w = .ok () w' ∧ w'.heap = w.heap.setIfInBounds b (.cells (splice xs (off + i) ys).toArray T (0, 0)) ∧ Outs w w' := by
  intro ys
  induction ys with
  | nil =>
    intro i xs w hb _ _
    refine ⟨w, by simp [storeCells], ?_, Outs.refl w⟩
    have hlt : b < w.heap.size := by
      rcases Nat.lt_or_ge b w.heap.size with h | h
      · exact h
      · simp [Array.getElem?_eq_none h] at hb
    have : splice xs (off + i) [] = xs := by simp [splice]
    rw [this]
    apply Array.ext_getElem?
    intro j
    rw [Array.getElem?_setIfInBounds]
    split
    · rename_i e; subst e; rw [hb]
    · rfl
  | cons y ys ih =>
    intro i xs w hb hlen ho
    simp only [List.length_cons] at hlen
    have hlt : off + i < xs.length := by omega
    have hcell : w.cell? ⟨b, off + i, none⟩ = some xs[off + i] := by simp [World.cell?, hb, hlt]
    have hfr : w.frozen? ⟨b, off + i, none⟩ = false := by simp [World.frozen?, hb]
    have hbl : b < w.heap.size := by
      rcases Nat.lt_or_ge b w.heap.size with h | h
      · exact h
      · simp [Array.getElem?_eq_none h] at hb
    have hb2 : (w.setCell ⟨b, off + i, none⟩ y).heap[b]? = some (.cells (xs.set (off + i) y).toArray T (0, 0)) := by
      simp [World.setCell, Array.getElem?_modify, hb]
    obtain ⟨w', h1, h2, h3⟩ := ih (i + 1) (xs.set (off + i) y) (w.setCell ⟨b, off + i, none⟩ y) hb2 (by simp; omega) (fun z hz => ho z (by simp [hz]))
    refine ⟨w', ?_, ?_, ⟨h3.1, h3.2.1, h3.2.2⟩⟩
    · simp only [storeCells, Sem.run_bind, Addr.add_mk, run_store P w _ y .plain (ho y (by simp)), hcell, hfr, Result.andThen_ok, Bool.false_eq_true, if_false]
      exact h1
    · rw [h2]
      rw [show off + (i + 1) = off + i + 1 from by omega, splice_cons _ _ _ _ hlt]
      apply Array.ext_getElem?
      intro j
      rw [Array.getElem?_setIfInBounds, Array.getElem?_setIfInBounds]
      have hs : (w.setCell ⟨b, off + i, none⟩ y).heap.size = w.heap.size := by simp [World.setCell]
      rw [hs]
      split
      · rfl
      · rename_i e
        simp only [World.setCell, Array.getElem?_modify]
        rw [if_neg e]

/-- A store into memory of one's own. -/
theorem AOp_store {P : Program} {td : Tab} (ht : td.ok P) {τ : Nat → AV} {X : XH} {o : Oper} {t : TypeId} {ad x : Operand} {k : AV → XH → Prop} (ho : o.op = .store t ad x) {b off : Nat} (ha : ev τ ad = .v (.pointer (some ⟨b, off, none⟩))) {ob : XB} (hb : X b = some ob)
    {c : Prop} {cs : List AV} (hl : leaves (td t) (ev τ x) = some (c, cs)) (hc : c) (hlen : off + (td t).size ≤ ob.cs.length) (hk : k .any (X.put b ⟨ob.T, splice ob.cs off cs⟩)) : AOp P o τ X k := by
  intro p a w ⟨hs, hX, hp⟩
  have h1 := hs ad (by simp [ho, Op.operands])
  have h2 := hs x (by simp [ho, Op.operands])
  rw [ha] at h1
  simp only [Rel] at h1
  obtain ⟨ys, e1, hr, hsz, hone⟩ := leaves_sound ht hl hc h2
  obtain ⟨_, xs, hxs, hrx⟩ := hX b ob hb
  have hxl := hrx.length
  have hkn : (td t).d.known = true := by
    unfold leaves at hl
    split at hl
    · rename_i h; exact h
    · exact absurd hl (by simp)
  obtain ⟨w', h3, h4, h5⟩ := run_store_cells (P := P) (off := off) ys 0 xs w hxs (by omega) hone
  have hrun : (execOp a.eval o).run P w = .ok .skip w' := by
    unfold execOp
    simp only [ho, Instr.storeAt, h1, Instr.sureAddr, storeVar]
    simp only [Sem.run_bind, Sem.run_pure, Result.andThen_ok, Tab.run_sizeOf ht (TD.ne_of_known hkn), e1]
    rw [if_neg (by simp [hsz])]
    simp only [h3, Result.andThen_ok, Sem.run_pure]
  simp only [Oper.wp, hrun, Oper.upon]
  obtain ⟨g1, g2, g3, g4⟩ := XSim.put_set hX hp hb h4 h5 (by simpa using RelL.splice off hrx hr)
  exact ⟨p, .any, _, undef, rfl, trivial, g1, g3, g2, hk⟩

/-- A new variable in memory, zero at first. -/
theorem AOp_alloc {P : Program} {td : Tab} (ht : td.ok P) {τ : Nat → AV} {X : XH} {o : Oper} {t : TypeId} {k : AV → XH → Prop} (ho : o.op = .alloc t) (hn : (td t).d.known = true)
    (hk : ∀ r, X r = none → k (.v (.pointer (some ⟨r, 0, none⟩))) (X.put r ⟨t, zeros (td t)⟩)) : AOp P o τ X k := by
  intro p a w ⟨hs, hX, hp⟩
  have hz := Tab.run_zero ht (w := w) (TD.ne_of_known hn)
  obtain ⟨f, _, _, _, _, h5, h6⟩ := Tab.info ht (TD.ne_of_known hn)
  have hzc := ht.2 t hn
  have hrun : (execOp a.eval o).run P w = .ok (.value (.pointer (some ⟨w.heap.size, 0, none⟩))) { w with heap := w.heap.push (.cells (td t).zero.toArray t) } := by
    unfold execOp
    simp only [ho, Instr.alloc]
    simp [hz, newVar, newRow, hzc]
  simp only [Oper.wp, hrun, Oper.upon]
  obtain ⟨g1, g2⟩ := XSim.put_new (w' := { w with heap := w.heap.push (.cells (td t).zero.toArray t) }) hX hp rfl ⟨rfl, rfl, rfl⟩ (zeros_rel p w (td t))
  exact ⟨p, _, _, _, rfl, Rel.vv _, g1, hp.push rfl, g2, hk _ hX.fresh⟩

/-- A variable in memory with a value. -/
theorem AOp_box {P : Program} {td : Tab} (ht : td.ok P) {τ : Nat → AV} {X : XH} {o : Oper} {t : TypeId} {x : Operand} {k : AV → XH → Prop} (ho : o.op = .box t x) {c : Prop} {cs : List AV} (hl : leaves (td t) (ev τ x) = some (c, cs)) (hc : c)
    (hk : ∀ r, X r = none → k (.v (.pointer (some ⟨r, 0, none⟩))) (X.put r ⟨t, cs⟩)) : AOp P o τ X k := by
  intro p a w ⟨hs, hX, hp⟩
  obtain ⟨ys, e1, hr, hsz, hone⟩ := leaves_sound ht hl hc (hs x (by simp [ho, Op.operands]))
  have hrun : (execOp a.eval o).run P w = .ok (.value (.pointer (some ⟨w.heap.size, 0, none⟩))) { w with heap := w.heap.push (.cells ys.toArray t) } := by
    unfold execOp
    simp only [ho, Instr.box]
    simp [newVar, newRow, e1]
  simp only [Oper.wp, hrun, Oper.upon]
  obtain ⟨g1, g2⟩ := XSim.put_new (w' := { w with heap := w.heap.push (.cells ys.toArray t) }) hX hp rfl ⟨rfl, rfl, rfl⟩ hr
  exact ⟨p, _, _, _, rfl, Rel.vv _, g1, hp.push rfl, g2, hk _ hX.fresh⟩

/-- The cells of the elements of a slice's literal. -/
def lits (i : TI) : List AV → Option (Prop × List AV)
  | [] => some (True, [])
  | a :: as =>
    match leaves i a, lits i as with
    | some (c, cs), some (c', cs') => some (c ∧ c', cs ++ cs')
    | _, _ => none


theorem splice_app {α : Type} (A R m : List α) : splice (A ++ R) A.length m = A ++ m ++ R.drop m.length := by
  unfold splice
  simp

theorem lits_fill {P : Program} {td : Tab} (ht : td.ok P) {e : TypeId} {p : PB} {w : World} : ∀ (as : List AV) (ps : List (Nat × Value)) (j : Nat) (A R : List Value) (c : Prop) (cs : List AV),
    ps.map (·.1) = List.range' j as.length → RelL p w as (ps.map (·.2)) → A.length = j * (td e).size → R.length = as.length * (td e).size → lits (td e) as = some (c, cs) → c →
      ∃ ys : List Value, Instr.fill (fun i => some (i * (td e).size, (td e).size)) (A ++ R).toArray ps = some (A ++ ys).toArray ∧ RelL p w cs ys ∧ ys.length = as.length * (td e).size := by
  intro as
  induction as with
  | nil =>
    intro ps j A R c cs hi hr hA hR hl hc
    have hps : ps = [] := by
      cases ps with
      | nil => rfl
      | cons x l => simp at hi
    subst hps
    have hR' : R = [] := by cases R with
      | nil => rfl
      | cons x l => simp at hR
    subst hR'
    simp only [lits, Option.some.injEq, Prod.mk.injEq] at hl
    obtain ⟨rfl, rfl⟩ := hl
    exact ⟨[], rfl, RelL.nil, by simp⟩
  | cons a as ih =>
    intro ps j A R c cs hi hr hA hR hl hc
    cases ps with
    | nil => simp [List.range'_succ] at hi
    | cons x ps =>
      obtain ⟨i, y⟩ := x
      simp only [List.map_cons, List.length_cons, List.range'_succ, List.cons.injEq] at hi
      obtain ⟨rfl, hi⟩ := hi
      simp only [List.map_cons, RelL, List.cons.injEq] at hr
      obtain ⟨_, _, ⟨rfl, rfl⟩, hy, hr⟩ := hr
      simp only [lits] at hl
      split at hl
      case h_2 => exact absurd hl (by simp)
      rename_i c1 cs1 c2 cs2 hl1 hl2
      simp only [Option.some.injEq, Prod.mk.injEq] at hl
      obtain ⟨rfl, rfl⟩ := hl
      obtain ⟨ys1, e1, hr1, hsz1, _⟩ := leaves_sound ht hl1 hc.1 hy
      simp only [List.length_cons, Nat.succ_mul] at hR
      obtain ⟨ys2, e2, hr2, hsz2⟩ := ih ps (i + 1) (A ++ ys1) (R.drop (td e).size) _ _ hi hr (by simp [hA, hsz1, Nat.succ_mul]) (by simp; omega) hl2 hc.2
      refine ⟨ys1 ++ ys2, ?_, RelL.append hr1 hr2, by simp [hsz1, hsz2, Nat.succ_mul]; omega⟩
      simp only [Instr.fill, e1]
      rw [if_neg (by simp [hsz1]; omega)]
      rw [fill_step (A ++ R) ys1 (i * (td e).size) (by simp; omega), ← hA, splice_app, hsz1]
      rw [e2]
      simp

theorem zero_row_length (z : Array Value) (n : Nat) : ((Array.range n).map (fun x => z[x % z.size]!)).toList.length = n := by simp

/-- A slice's literal: nobody writes it any more. -/
theorem AOp_lit {P : Program} {td : Tab} (ht : td.ok P) {τ : Nat → AV} {X : XH} {o : Oper} {t e : TypeId} {len : Nat} {ps : Array (Nat × Operand)} {k : AV → XH → Prop} (ho : o.op = .buildSlice t len ps) (hd : (td t).d = .slice e) (hn : (td e).d.known = true)
    (hix : ps.toList.map (·.1) = List.range' 0 ps.toList.length) (hlen : ps.toList.length = len) (hb : len * (td e).size ≤ 16777216) {c : Prop} {cs : List AV} (hl : lits (td e) (ps.toList.map fun x => ev τ x.2) = some (c, cs)) (hc : c)
    (hk : k (.sl true len cs) X) : AOp P o τ X k := by
  intro p a w ⟨hs, hX, hp⟩
  have hu := Tab.und_slice ht (w := w) hd
  have hsz := Tab.run_sizeOf ht (w := w) (TD.ne_of_known hn)
  have hz := Tab.run_zero ht (w := w) (TD.ne_of_known hn)
  have hargs : RelL p w (ps.toList.map fun x => ev τ x.2) ((ps.toList.map fun x => (x.1, a.eval x.2)).map (·.2)) := by
    have := RelL.evs (p := p) (w := w) (τ := τ) (a := a) (ps.toList.map (·.2)) (fun x hx => hs x (by
      simp only [ho, Op.operands]
      rw [List.mem_toArray]
      exact hx))
    simpa [List.map_map, Function.comp_def] using this
  have key : ∀ R : List Value, R.length = len * (td e).size → ∃ ys : List Value, Instr.fill (fun i => some (i * (td e).size, (td e).size)) R.toArray (ps.toList.map fun x => (x.1, a.eval x.2)) = some ys.toArray ∧ RelL p w cs ys := by
    intro R hR
    obtain ⟨ys, h1, h2, _⟩ := lits_fill ht (e := e) (ps.toList.map fun x => ev τ x.2) (ps.toList.map fun x => (x.1, a.eval x.2)) 0 [] R c cs (by simpa [List.map_map, Function.comp_def] using hix) hargs (by simp) (by simpa [hlen] using hR) hl hc
    exact ⟨ys, by simpa using h1, h2⟩
  have hmap : (ps.map fun x => (x.1, a.eval x.2)) = (ps.toList.map fun x => (x.1, a.eval x.2)).toArray := arr_map _ _
  obtain ⟨ys, h1, hr⟩ : ∃ ys : List Value, (execOp a.eval o).run P w = .ok (.value (.slice (some ⟨w.heap.size, 0, none⟩) len len)) { w with heap := w.heap.push (.cells ys.toArray e) } ∧ RelL p w cs ys := by
    by_cases h0 : len * (td e).size = 0
    · obtain ⟨ys, h1, h2⟩ := key [] (by simp [h0])
      refine ⟨ys, ?_, h2⟩
      unfold execOp
      simp only [ho, Instr.buildSlice, hmap]
      have hr0 : Array.range 0 = #[] := rfl
      simp [hu, hsz, h0, h1, newRow, hr0]
    · obtain ⟨ys, h1, h2⟩ := key ((Array.range (len * (td e).size)).map (fun x => (td e).zv.cells[x % (td e).zv.cells.size]!)).toList (by simp)
      refine ⟨ys, ?_, h2⟩
      unfold execOp
      simp only [ho, Instr.buildSlice, hmap]
      have hb' : ¬ (len * (td e).size > 2 ^ 24) := by omega
      simp only [Array.toArray_toList] at h1
      simp [hu, hsz, h0, hz, h1, newRow, hb']
  obtain ⟨g1, g2, g3, g4, g5, g6⟩ := pub_new (w' := { w with heap := w.heap.push (.cells ys.toArray e) }) hX hp rfl ⟨rfl, rfl, rfl⟩ hr
  simp only [Oper.wp, h1, Oper.upon]
  refine ⟨_, _, X, _, rfl, ?_, g1, g3, g2, hk⟩
  simp only [Rel]
  exact ⟨_, _, rfl, Nat.le_refl _, fun _ => rfl, .inr ⟨w.heap.size, 0, ys, rfl, g6, g5, g4⟩⟩

/-- A slice that is made: of one's own, zero at first. -/
theorem AOp_make {P : Program} {td : Tab} (ht : td.ok P) {τ : Nat → AV} {X : XH} {o : Oper} {t e : TypeId} {ln cp : Operand} {k : AV → XH → Prop} (ho : o.op = .makeSlice t ln cp) (hd : (td t).d = .slice e) (hn : (td e).d.known = true)
    {kl kc : IntKind} {l c : Int} (hl : ev τ ln = .v (.int kl l)) (hc : ev τ cp = .v (.int kc c)) (h0 : 0 ≤ l) (h1 : l ≤ c) (h2 : ((td e).bytes : Int) * c ≤ 281474976710656) (h3 : c ≤ 9223372036854775807)
    (hk : ∀ r, X r = none → k (.v (.slice (some ⟨r, 0, none⟩) l.toNat c.toNat)) (X.put r ⟨e, (List.replicate c.toNat (zeros (td e))).flatten⟩)) : AOp P o τ X k := by
  intro p a w ⟨hs, hX, hp⟩
  have hu := Tab.und_slice ht (w := w) hd
  have hsz := Tab.run_sizeOf ht (w := w) (TD.ne_of_known hn)
  have hz := Tab.run_zero ht (w := w) (TD.ne_of_known hn)
  obtain ⟨f, g1, g2, g3, g4, g5, g6⟩ := Tab.info ht (TD.ne_of_known hn)
  have hzc := ht.2 e hn
  have e1 := hs ln (by simp [ho, Op.operands])
  have e2 := hs cp (by simp [ho, Op.operands])
  rw [hl] at e1; rw [hc] at e2
  simp only [Rel] at e1 e2
  have wl : IntKind.i64.wrap l = l := by rw [IntKind.wrap_i64]; omega
  have wc : IntKind.i64.wrap c = c := by rw [IntKind.wrap_i64]; omega
  have hrow : ∀ n : Nat, (Array.range (n * (td e).size)).map (fun x => (td e).zv.cells[x % (td e).zv.cells.size]!) = ((List.replicate n (td e).zero).flatten).toArray := by
    intro n
    rw [hzc]
    apply Array.ext_getElem?
    intro j
    simp only [Array.getElem?_map, Array.getElem?_range, List.getElem?_toArray]
    have hlen : ((List.replicate n (td e).zero).flatten).length = n * (td e).size := by simp [g5]
    by_cases hj : j < n * (td e).size
    · have hm : j % (td e).size < (td e).size := Nat.mod_lt _ (by omega)
      have : ∀ n j, j < n * (td e).size → ((List.replicate n (td e).zero).flatten)[j]? = (td e).zero[j % (td e).size]? := by
        intro n
        induction n with
        | zero => intro j hj; omega
        | succ n ih =>
          intro j hj
          rw [List.replicate_succ, List.flatten_cons]
          by_cases hjs : j < (td e).size
          · rw [List.getElem?_append_left (by omega), Nat.mod_eq_of_lt hjs]
          · rw [List.getElem?_append_right (by omega), g5, ih _ (by rw [Nat.succ_mul] at hj; omega)]
            rw [Nat.mod_eq_sub_mod (by omega : j ≥ (td e).size)]
      rw [this n j hj]
      simp [hj, g5, hm]
    · rw [List.getElem?_eq_none (by omega)]
      simp [hj]
  have hrun : (execOp a.eval o).run P w = .ok (.value (.slice (some ⟨w.heap.size, 0, none⟩) l.toNat c.toNat)) { w with heap := w.heap.push (.cells ((List.replicate c.toNat (td e).zero).flatten).toArray e) } := by
    unfold execOp
    simp only [ho, Instr.makeSlice, e1, e2]
    have hb : ¬ (c < 0 ∨ ((td e).bytes : Int) * c > 2 ^ 48) := by omega
    have hti : (typeInfo e).run P w = .ok f w := by simp [typeInfo, g1]
    by_cases hz0 : c.toNat * (td e).size = 0
    · have : c.toNat = 0 := by
        rcases Nat.mul_eq_zero.mp hz0 with h | h
        · exact h
        · exact absurd h g6
      have hr0 : Array.range 0 = #[] := rfl
      have hc0 : c = 0 := by omega
      have hl0 : l = 0 := by omega
      subst hc0 hl0
      have w0 : IntKind.i64.wrap 0 = 0 := wl
      simp [hu, asInt, asIntOf, hti, g3, w0, hsz, newRow, hr0]
    · simp [hu, asInt, asIntOf, hti, g3, wl, wc, hsz, hz0, hz, newRow, hrow]
      omega
  simp only [Oper.wp, hrun, Oper.upon]
  have hrel : RelL p w (List.replicate c.toNat (zeros (td e))).flatten (List.replicate c.toNat (td e).zero).flatten := by
    induction c.toNat with
    | zero => exact RelL.nil
    | succ n ih => rw [List.replicate_succ, List.replicate_succ, List.flatten_cons, List.flatten_cons]; exact RelL.append (zeros_rel p w _) ih
  obtain ⟨q1, q2⟩ := XSim.put_new (w' := { w with heap := w.heap.push (.cells ((List.replicate c.toNat (td e).zero).flatten).toArray e) }) hX hp rfl ⟨rfl, rfl, rfl⟩ hrel
  exact ⟨p, _, _, _, rfl, Rel.vv _, q1, hp.push rfl, q2, hk _ hX.fresh⟩

end Go.Proofs.YtgnfjahkhhkmoaaDoor.V
