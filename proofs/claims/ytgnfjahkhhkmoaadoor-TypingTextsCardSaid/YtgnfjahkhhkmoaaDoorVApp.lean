/- append, told as data. -/
import Derived.Test.YtgnfjahkhhkmoaaDoorVMem
namespace Go.Proofs.YtgnfjahkhhkmoaaDoor.V
open Go
set_option linter.unusedVariables false
set_option linter.unusedSimpArgs false

theorem growBy_le (m : Nat) (hm : 256 ≤ m) : ∀ (r c : Nat), c ≤ 2 * m → Builtin.growBy m r c ≤ 2 * m := by
  intro r
  induction r with
  | zero => intro c h; exact h
  | succ r ih =>
    intro c h
    unfold Builtin.growBy
    split
    · exact h
    · exact ih _ (by omega)
theorem nextslicecap_le (need old : Nat) (h : old < need) : Builtin.nextslicecap need old ≤ 2 * need := by
  unfold Builtin.nextslicecap
  split
  · omega
  · split
    · omega
    · exact growBy_le need (by omega) 4 old (by omega)

theorem run_append_grow {P : Program} {td : Tab} (ht : td.ok P) {w : World} {t t2 e ty : TypeId} (hd : (td t).d = .slice e) (hn : (td e).d.known = true) (ht2 : (∃ e2, (td t2).d = .slice e2) ∨ (td t2).d = .str)
    {base : Option Addr} {sLen sCap m : Nat} {x : Value} {old new : List Value} (hm : (Builtin.lenOf x).run P w = .ok m w) (hnew : ∀ w' : World, w'.heap = w.heap → (Builtin.firstCells (td e).size m x).run P w' = .ok new.toArray w')
    (hold : ∀ w' : World, w'.heap = w.heap → (Builtin.firstCells (td e).size sLen (.slice base sLen sCap)).run P w' = .ok old.toArray w') (hgt : sCap < sLen + m) (hb0 : (td e).bytes ≠ 0) (hb : (sLen + m) * (td e).bytes ≤ 140737488355328) :
    ∃ (c : Nat) (pad : List Value) (w' : World), (Builtin.append_ #[t, t2] ty #[.slice base sLen sCap, x]).run P w = .ok (.slice (some ⟨w.heap.size, 0, none⟩) (sLen + m) c) w' ∧ w'.heap = w.heap.push (.cells (old ++ new ++ pad).toArray e (0, 0)) ∧ sLen + m ≤ c ∧ pad.length = (c - (sLen + m)) * (td e).size ∧ Outs w w' := by
  have hu := Tab.und_slice ht (w := w) hd
  have hsz := Tab.run_sizeOf ht (w := w) (TD.ne_of_known hn)
  obtain ⟨f, g1, g2, g3, g4, g5, g6⟩ := Tab.info ht (TD.ne_of_known hn)
  have hzc := ht.2 e hn
  have hti : ∀ w' : World, (typeInfo e).run P w' = .ok f w' := fun w' => by simp [typeInfo, g1]
  have hz := fun w' : World => Tab.run_zero ht (w := w') (TD.ne_of_known hn)
  have h1 : ¬ (sLen + m ≤ sCap) := by omega
  have hnc := nextslicecap_le (sLen + m) sCap hgt
  have h3 : ¬ (Builtin.nextslicecap (sLen + m) sCap * f.bytes > 2 ^ 48) := by
    rw [g3]
    have : Builtin.nextslicecap (sLen + m) sCap * (td e).bytes ≤ 2 * (sLen + m) * (td e).bytes := Nat.mul_le_mul_right _ hnc
    rw [Nat.mul_assoc] at this
    omega
  let nc := (Question.appendCap (sLen + m) sCap e).cut (w.tape w.drawn (.appendCap (sLen + m) sCap e))
  let pad := Builtin.zeroCells (td e).zero.toArray (nc - (sLen + m))
  refine ⟨nc, pad.toList, { w with drawn := w.drawn + 1, heap := w.heap.push (.cells (old.toArray ++ new.toArray ++ pad) e) }, ?_, ?_, ?_, ?_, ⟨rfl, rfl, rfl⟩⟩
  · have harr : old.toArray ++ (new.toArray ++ pad) = (old ++ new).toArray ++ pad := by
      rw [← Array.append_assoc]; congr 1; simp
    unfold Builtin.append_
    have hnew' := hnew w.drew rfl
    have hold' := hold w.drew rfl
    have h3' : ¬ (2 ^ 48 < Builtin.nextslicecap (sLen + m) sCap * (td e).bytes) := by rw [← g3]; exact h3
    have h4 : ¬ (IntKind.i64.max < (sLen : Int) + (m : Int) ∧ (td e).bytes = 0) := fun h => hb0 h.2
    rcases ht2 with ⟨e2, h⟩ | h
    · have hu2 := Tab.und_slice ht (w := w) h
      simp [hu, hu2, hsz, hm, hti, g3, hb0, h1, hz, hzc, hnew', hold', newRow, Question.forced, h3', h4]
      refine ⟨rfl, ?_⟩
      show w.drew.alloc (Obj.cells (old.toArray ++ (new.toArray ++ pad)) e) = _
      rw [harr]
      rfl
    · have hu2 := Tab.und_str ht (w := w) h
      simp [hu, hu2, hsz, hm, hti, g3, hb0, h1, hz, hzc, hnew', hold', newRow, Question.forced, h3', h4]
      refine ⟨rfl, ?_⟩
      show w.drew.alloc (Obj.cells (old.toArray ++ (new.toArray ++ pad)) e) = _
      rw [harr]
      rfl
  · simp only []
    congr 2
    simp
  · simp [nc, Question.cut]
  · simp [pad, Builtin.zeroCells, g5]

theorem run_append_room {P : Program} {td : Tab} (ht : td.ok P) {w : World} {t t2 e ty : TypeId} (hd : (td t).d = .slice e) (hn : (td e).d.known = true) (ht2 : (∃ e2, (td t2).d = .slice e2) ∨ (td t2).d = .str)
    {r : Nat} {sLen sCap m : Nat} {x : Value} {xs new : List Value} (hm : (Builtin.lenOf x).run P w = .ok m w) (hnew : (Builtin.firstCells (td e).size m x).run P w = .ok new.toArray w)
    (hle : sLen + m ≤ sCap) (hb : w.heap[r]? = some (.cells xs.toArray e (0, 0))) (hlen : sLen * (td e).size + new.length ≤ xs.length) (hone : ∀ z ∈ new, z.oneCell' = true) :
    ∃ w', (Builtin.append_ #[t, t2] ty #[.slice (some ⟨r, 0, none⟩) sLen sCap, x]).run P w = .ok (.slice (some ⟨r, 0, none⟩) (sLen + m) sCap) w' ∧ w'.heap = w.heap.setIfInBounds r (.cells (splice xs (sLen * (td e).size) new).toArray e (0, 0)) ∧ Outs w w' := by
  have hu := Tab.und_slice ht (w := w) hd
  have hsz := Tab.run_sizeOf ht (w := w) (TD.ne_of_known hn)
  obtain ⟨w', h1, h2, h3⟩ := run_store_cells (P := P) (off := sLen * (td e).size) new 0 xs w hb (by omega) hone
  refine ⟨w', ?_, by simpa using h2, h3⟩
  unfold Builtin.append_
  rcases ht2 with ⟨e2, h⟩ | h
  · have hu2 := Tab.und_slice ht (w := w) h
    simp [hu, hu2, hsz, hm, hle, hnew, Addr.add_mk, h1]
  · have hu2 := Tab.und_str ht (w := w) h
    simp [hu, hu2, hsz, hm, hle, hnew, Addr.add_mk, h1]

/-- A slice that only its holder may extend: n elements whose cells are cs. -/
def Own (X : XH) (e : TypeId) (sz : Nat) (a : AV) (n : Nat) (cs : List AV) : Prop :=
  cs.length = n * sz ∧ ((a = .sl true 0 [] ∧ n = 0) ∨ ∃ r c pad, a = .v (.slice (some ⟨r, 0, none⟩) n c) ∧ X r = some ⟨e, cs ++ pad⟩ ∧ n ≤ c ∧ pad.length = (c - n) * sz)

theorem Own.nil (X : XH) (e : TypeId) (sz : Nat) : Own X e sz (.sl true 0 []) 0 [] := ⟨by simp, .inl ⟨rfl, rfl⟩⟩
def AV.at? : AV → Nat → Prop
  | .v (.slice (some ⟨r, _, _⟩) _ _), q => q = r
  | _, _ => False
/-- All of X but what a holds stands in X' too. -/
def Rest (a : AV) (X X' : XH) : Prop := ∀ r o, X r = some o → ¬ a.at? r → X' r = some o

/-- What is appended, as cells: a slice that nobody writes. -/
theorem first_sl {P : Program} {p : PB} {w : World} {tt : Bool} {m sz : Nat} {es : List AV} {y : Value} (hy : Rel p w (.sl tt m es) y) (hes : es.length = m * sz) :
    (Builtin.lenOf y).run P w = .ok m w ∧ ∃ ys : List Value, RelL p w es ys ∧ ∀ w' : World, w'.heap = w.heap → (Builtin.firstCells sz m y).run P w' = .ok ys.toArray w' := by
  simp only [Rel] at hy
  obtain ⟨A, c, rfl, h1, h2, h3⟩ := hy
  refine ⟨by simp [Builtin.lenOf], ?_⟩
  rcases h3 with h3 | ⟨b, off, ys, rfl, hb, hc, hl⟩
  · subst h3
    have hm : m * sz = 0 := by simpa using hes.symm
    refine ⟨[], RelL.nil, fun w' hw => ?_⟩
    cases A with
    | none => simp [Builtin.firstCells]
    | some a => simp [Builtin.firstCells, loadCells, loadCellsFrom, hm]
  · refine ⟨ys, hl, fun w' hw => ?_⟩
    have hc' : Cells w' b off ys := hc.mono (by rw [hw])
    have hlen := hl.length
    have := run_load_cells (P := P) hc' (m * sz) 0 #[] (by omega)
    simp only [Builtin.firstCells, loadCells, this]
    congr 1
    simp [List.take_of_length_le (show ys.length ≤ m * sz by omega)]

theorem relL_one {p : PB} {w : World} : ∀ {l : List AV} {ys : List Value}, RelL p w l ys → l.all AV.one = true → ∀ z ∈ ys, z.oneCell' = true := by
  intro l
  induction l with
  | nil => intro ys h _ z hz; simp only [RelL] at h; subst h; simp at hz
  | cons a l ih =>
    intro ys h ho z hz
    simp only [RelL] at h
    obtain ⟨y, r, rfl, h1, h2⟩ := h
    simp only [List.all_cons, Bool.and_eq_true] at ho
    rcases List.mem_cons.mp hz with rfl | hz
    · exact (AV.one_cells ho.1 h1).2
    · exact ih h2 ho.2 z hz
theorem relL_anys {p : PB} {w : World} : ∀ (ys : List Value), RelL p w (ys.map fun _ => AV.any) ys
  | [] => RelL.nil
  | _ :: ys => RelL.cons trivial (relL_anys ys)

theorem AOp_append {P : Program} {td : Tab} (ht : td.ok P) {τ : Nat → AV} {X : XH} {o : Oper} {cl : Call} {t t2 e : TypeId} {s x : Operand} {k : AV → XH → Prop} (ho : o.op = .call cl) (hcb : cl.callee = .builtin .append) (hargs : cl.args = #[s, x]) (hts : cl.argTypes = #[t, t2])
    (hd : (td t).d = .slice e) (hn : (td e).d.known = true) (ht2 : (∃ e2, (td t2).d = .slice e2) ∨ (td t2).d = .str) (hb0 : (td e).bytes ≠ 0) {n : Nat} {cs : List AV} (hown : Own X e (td e).size (ev τ s) n cs)
    {tt : Bool} {m : Nat} {es : List AV} (hx : ev τ x = .sl tt m es) (hes : es.length = m * (td e).size) (hone : es.all AV.one = true) (hb : (n + m) * (td e).bytes ≤ 140737488355328)
    (hk : ∀ a' X', Own X' e (td e).size a' (n + m) (cs ++ es) → Rest (ev τ s) X X' → (∀ r, a'.at? r → X r = none ∨ (ev τ s).at? r) → k a' X') : AOp P o τ X k := by
  intro p a w ⟨hs, hX, hp⟩
  have h1 := hs s (by simp [ho, Op.operands, Call.operands, hcb, hargs])
  have h2 := hs x (by simp [ho, Op.operands, Call.operands, hcb, hargs])
  rw [hx] at h2
  obtain ⟨consts, hrun⟩ := run_builtin (P := P) (a := a) (w := w) ho hcb
  have hmap : cl.args.map a.eval = #[a.eval s, a.eval x] := by rw [hargs]; simp
  rw [hmap, hts] at hrun
  have hlx := first_sl (P := P) h2 hes
  obtain ⟨hlen, ys, hry, hfirst⟩ := hlx
  have hyl := hry.length
  obtain ⟨hcs, hown⟩ := hown
  rcases hown with ⟨hnil, rfl⟩ | ⟨r, c, pad, hv, hXr, hnc, hpad⟩
  · -- nil, or a slice of no elements
    rw [hnil] at h1
    have h1' := h1
    simp only [Rel] at h1'
    obtain ⟨A, c, hav, _, hc0, _⟩ := h1'
    have hc0 : c = 0 := by simpa using hc0
    subst hc0
    have hcs0 : cs = [] := by simpa using hcs
    subst hcs0
    by_cases hm0 : m = 0
    · subst hm0
      have hes0 : es = [] := by simpa using hes
      subst hes0
      have hy0 : ys = [] := by simpa using hyl
      subst hy0
      have hr : (execOp a.eval o).run P w = .ok (.value (.slice A 0 0)) w := by
        rw [hrun, hav]
        have hu := Tab.und_slice ht (w := w) hd
        have hsz := Tab.run_sizeOf ht (w := w) (TD.ne_of_known hn)
        have hf := hfirst w rfl
        simp only [builtin, Builtin.append_]
        rcases ht2 with ⟨e2, h⟩ | h
        · have hu2 := Tab.und_slice ht (w := w) h
          cases A <;> simp [hu, hu2, hsz, hlen, hf, storeCells]
        · have hu2 := Tab.und_str ht (w := w) h
          cases A <;> simp [hu, hu2, hsz, hlen, hf, storeCells]
      simp only [Oper.wp, hr, Oper.upon]
      refine ⟨p, .sl true 0 [], X, _, rfl, by rw [hav] at h1; exact h1, hX, hp, Fr.refl, hk _ _ (Own.nil _ _ _) (fun r o h _ => h) (fun r h => h.elim)⟩
    · obtain ⟨c', pd, w', hr, hw, hge, hpl, hout⟩ := run_append_grow ht (w := w) (ty := o.type) hd hn ht2 (base := A) (sLen := 0) (sCap := 0) (old := []) hlen hfirst (by
          intro w' hw
          cases A with
          | none => simp [Builtin.firstCells]
          | some a => simp [Builtin.firstCells, loadCells, loadCellsFrom]) (by omega) hb0 hb
      have hr' : (execOp a.eval o).run P w = .ok (.value (.slice (some ⟨w.heap.size, 0, none⟩) (0 + m) c')) w' := by
        rw [hrun, hav]; simp [builtin, hr]
      simp only [Oper.wp, hr', Oper.upon]
      have hrel : RelL p w ([] ++ es ++ pd.map fun _ => AV.any) ([] ++ ys ++ pd) := RelL.append (RelL.append RelL.nil hry) (relL_anys _)
      obtain ⟨q1, q2⟩ := XSim.put_new hX hp hw hout hrel
      refine ⟨p, _, _, _, rfl, Rel.vv _, q1, hp.push hw, q2, hk _ _ ⟨by simp [hes], .inr ⟨w.heap.size, c', pd.map fun _ => AV.any, rfl, by simp [XH.put], hge, by simp [hpl]⟩⟩ (fun r o h _ => ?_) (fun r h => ?_)⟩
      · have := hX.lt h
        simp only [XH.put]; rw [if_neg (by omega)]; exact h
      · simp only [AV.at?] at h; subst h; exact .inl hX.fresh
  · rw [hv] at h1
    simp only [Rel] at h1
    obtain ⟨hpr, xs, hxs, hrx⟩ := hX r _ hXr
    have hxl := hrx.length
    simp only [List.length_append, hcs, hpad] at hxl
    by_cases hroom : n + m ≤ c
    · have hmul : n * (td e).size + m * (td e).size ≤ n * (td e).size + (c - n) * (td e).size := by
        rw [← Nat.add_mul, ← Nat.add_mul]; exact Nat.mul_le_mul_right _ (by omega)
      obtain ⟨w', hr, hw, hout⟩ := run_append_room ht (w := w) (ty := o.type) hd hn ht2 (sLen := n) (sCap := c) hlen (hfirst w rfl) hroom hxs (by omega) (relL_one hry hone)
      have hr' : (execOp a.eval o).run P w = .ok (.value (.slice (some ⟨r, 0, none⟩) (n + m) c)) w' := by
        rw [hrun, h1]; simp [builtin, hr]
      simp only [Oper.wp, hr', Oper.upon]
      have hrel : RelL p w (splice (cs ++ pad) (n * (td e).size) es) (splice xs (n * (td e).size) ys) := RelL.splice _ hrx hry
      obtain ⟨g1, g2, g3, g4⟩ := XSim.put_set hX hp hXr hw hout hrel
      refine ⟨p, _, _, _, rfl, Rel.vv _, g1, g3, g2, hk _ _ ⟨by simp [hcs, hes, Nat.add_mul], .inr ⟨r, c, pad.drop es.length, rfl, ?_, hroom, ?_⟩⟩ (fun q o h hne => ?_) (fun q h => ?_)⟩
      · simp only [XH.put, if_true]
        rw [← hcs, splice_app]
      · rw [List.length_drop, hpad, hes, ← Nat.sub_mul]; congr 1; omega
      · simp only [XH.put]
        rw [if_neg]
        · exact h
        · intro e; subst e; exact hne (by rw [hv]; rfl)
      · simp only [AV.at?] at h; subst h; exact .inr (by rw [hv]; rfl)
    · have hcells := Cells.ofBlock hxs
      have hrn : RelL p w cs (xs.take (n * (td e).size)) := by
        have := RelL.take (n * (td e).size) hrx
        rwa [← hcs, List.take_left' rfl, hcs] at this
      obtain ⟨c', pd, w', hr, hw, hge, hpl, hout⟩ := run_append_grow ht (w := w) (ty := o.type) hd hn ht2 (base := some ⟨r, 0, none⟩) (sLen := n) (sCap := c) (old := xs.take (n * (td e).size)) hlen hfirst (by
          intro w' hw
          have := run_load_cells (P := P) (hcells.mono (w' := w') (by rw [hw])) (n * (td e).size) 0 #[] (by omega)
          simp only [Builtin.firstCells, loadCells, this]
          simp) (by omega) hb0 hb
      have hr' : (execOp a.eval o).run P w = .ok (.value (.slice (some ⟨w.heap.size, 0, none⟩) (n + m) c')) w' := by
        rw [hrun, h1]; simp [builtin, hr]
      simp only [Oper.wp, hr', Oper.upon]
      have hrel : RelL p w (cs ++ es ++ pd.map fun _ => AV.any) (xs.take (n * (td e).size) ++ ys ++ pd) := RelL.append (RelL.append hrn hry) (relL_anys _)
      obtain ⟨q1, q2⟩ := XSim.put_new hX hp hw hout hrel
      refine ⟨p, _, _, _, rfl, Rel.vv _, q1, hp.push hw, q2, hk _ _ ⟨by simp [hes, hcs, Nat.add_mul], .inr ⟨w.heap.size, c', pd.map fun _ => AV.any, rfl, by simp [XH.put], hge, by simp [hpl]⟩⟩ (fun q o h _ => ?_) (fun q h => ?_)⟩
      · have := hX.lt h
        simp only [XH.put]; rw [if_neg (by omega)]; exact h
      · simp only [AV.at?] at h; subst h; exact .inl hX.fresh

/-- A call of a function of the program. -/
def FOk (P : Program) (f : FuncId) : Prop := ∃ fn, P.funcs[f]? = some fn ∧ fn.body.isNone = false ∧ (fn.name == "runtime.NumGoroutine") = false
theorem AOp_call {P : Program} {τ : Nat → AV} {X : XH} {o : Oper} {cl : Call} {g : Operand} {f : FuncId} {fi cp : List AV} {k : AV → XH → Prop} (ho : o.op = .call cl) (hcv : cl.callee = .value g) (hg : ev τ g = .clo (.func f) fi cp) (hf : FOk P f)
    (h : ACalls P f (fi ++ cl.args.toList.map (ev τ) ++ cp) X k) : AOp P o τ X k := by
  intro p a w ⟨hs, hX, hp⟩
  have h1 := hs g (by simp [ho, Op.operands, Call.operands, hcv])
  rw [hg] at h1
  simp only [Rel] at h1
  obtain ⟨xs, ys, e1, r1, r2⟩ := h1
  obtain ⟨fn, hfn, hb, hname⟩ := hf
  have hargs : RelL p w (cl.args.toList.map (ev τ)) (cl.args.toList.map a.eval) := RelL.evs _ fun x hx => hs x (by
    simp only [ho, Op.operands, Call.operands, hcv]
    simp only [Array.mem_append, List.mem_toArray, List.mem_singleton]
    exact .inr (by simpa using hx))
  have hrun : (execOp a.eval o).run P w = .ok (.enter f (xs ++ cl.args.toList.map a.eval ++ ys).toArray) w := by
    unfold execOp
    simp only [ho, resolve, hcv, Deferred.ofValue, e1]
    have hname' : ¬ (fn.name = "runtime.NumGoroutine") := by simpa using hname
    have hb' : ¬ (fn.body = none) := by intro h; rw [h] at hb; simp at hb
    simp [invoke, callFunc, hfn, hname', hb', arr_map a.eval]
  simp only [Oper.wp, hrun, Oper.upon]
  refine (h p w _ (RelL.append (RelL.append r1 hargs) r2) hX hp).mono ?_
  rintro e w' ⟨v, p', av, X', rfl, q1, q2, q3, q4, q5⟩
  exact ⟨p', av, X', v, rfl, q1, q2, q3, q4, q5⟩

end Go.Proofs.YtgnfjahkhhkmoaaDoor.V
