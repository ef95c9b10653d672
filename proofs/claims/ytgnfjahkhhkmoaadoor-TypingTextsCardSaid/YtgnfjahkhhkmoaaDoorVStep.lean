/- The rules as they are used: one operation a step; a function's body; what is given up for good. -/
import Derived.Test.YtgnfjahkhhkmoaaDoorVPar
import Derived.IntWalk
import Derived.Scope
namespace Go.Proofs.YtgnfjahkhhkmoaaDoor.V
open Go
set_option linter.unusedVariables false
set_option linter.unusedSimpArgs false

/-- Which operands must have run: of a choice, the one that chooses. -/
def condS : Op → Nat → Bool
  | .pick (.tmp k) _ _ => fun t => Nat.beq t k
  | _ => fun _ => true
theorem XH.put_same {X : XH} {r : Nat} {o : XB} : (X.put r o) r = some o := by simp [XH.put]
theorem XH.put_ne {X : XH} {r q : Nat} {o : XB} {y : Option XB} (h : q ≠ r) (hy : X q = y) : (X.put r o) q = y := by simp only [XH.put]; rw [if_neg h]; exact hy
theorem XH.put_none {X : XH} {r q : Nat} {o : XB} (h : (X.put r o) q = Option.none) : q ≠ r ∧ X q = Option.none := by
  simp only [XH.put] at h
  split at h
  · exact absurd h (by simp)
  · rename_i hne; exact ⟨hne, h⟩
theorem pval_own {td : Tab} {τ : Nat → AV} {X : XH} {t : TypeId} {a : Operand} {b off : Nat} {ob : XB} (hk : (td t).d.known = true) (ha : ev τ a = .v (.pointer (some ⟨b, off, none⟩))) (hb : X b = some ob) : pval td τ X (.load t a) = some (off + (td t).size ≤ ob.cs.length, (td t).at ob.cs off) := by
  unfold pval pLoad
  simp only [hk, if_true, ha, hb]
section steps
variable {P : Program} {td : Tab} (ht : td.ok P) {n : Nat} {ops : Array Oper} {i : Nat} {rest : List Nat} {o : Oper} {Q : Post} {τ : Nat → AV} {X : XH}
include ht
/-- An operation that only computes. -/
theorem st {c : Prop} {r : AV} {d : Nat} (hi : ops[i]? = some o) (hg : o.guard = none) (hok : okOp n o = true) (hd : o.dst = some d) (hp : pval td τ X o.op = some (c, r)) (hc : c) (h : AOps P n ops rest Q (updd τ (some d) r) X) : AOps P n ops (i :: rest) Q τ X :=
  AOps_cons hi hg hok (AOp_pval ht hp hc (by rw [hd]; exact h))
/-- The same; the answer in other words. -/
theorem st_eq {c : Prop} {r r' : AV} {d : Nat} (hi : ops[i]? = some o) (hg : o.guard = none) (hok : okOp n o = true) (hd : o.dst = some d) (hp : pval td τ X o.op = some (c, r)) (hc : c) (hr : r = r') (h : AOps P n ops rest Q (updd τ (some d) r') X) : AOps P n ops (i :: rest) Q τ X := by
  subst hr; exact st ht hi hg hok hd hp hc h
def gOk (n : Nat) (ops : Array Oper) (j : Nat) : Bool := match (ops[j]?).bind (·.dst) with | some d => decide (d < n) | none => true
omit ht in
theorem gOk_spec {j : Nat} (h : gOk n ops j = true) : ∀ d, (ops[j]?).bind (·.dst) = some d → d < n := by
  intro d hd; unfold gOk at h; rw [hd] at h; simpa using h
/-- A guarded operation that only computes. -/
theorem stg {c : Prop} {r r' : AV} {j d : Nat} {want G : Bool} (hi : ops[i]? = some o) (hg : o.guard = some (j, want)) (hok : okOp n o = true) (hd : o.dst = some d) (hgo : gOk n ops j = true) (hG : gval τ ops j want = some G) (hp : pval td (strip τ) X o.op = some (c, r)) (hc : G = true → needs τ o.op.operands.toList ∧ c ∧ r = r')
    (h : AOps P n ops rest Q (updd τ (some d) (.opt G r')) X) : AOps P n ops (i :: rest) Q τ X := by
  refine AOps_estep (r := .opt G r') hi hok (fun j' w' d hg' hd => ?_) ?_ (by rw [hd]; exact h)
  · rw [hg] at hg'
    simp only [Option.some.injEq, Prod.mk.injEq] at hg'
    obtain ⟨rfl, rfl⟩ := hg'
    exact gOk_spec hgo d hd
  · unfold EStep
    rw [hg]
    refine ⟨G, r', hG, rfl, fun hGt => ?_⟩
    obtain ⟨h1, h2, rfl⟩ := hc hGt
    exact ⟨fun _ => true, needs_all h1, AOp_pval ht (show pval td (stripS (fun _ => true) τ) X o.op = _ from hp) h2 ⟨rfl, rfl⟩⟩
/-- A guarded operation of which not all operands need have run. -/
theorem stgp (S : Nat → Bool) {c : Prop} {r r' : AV} {j d : Nat} {want G : Bool} (hi : ops[i]? = some o) (hg : o.guard = some (j, want)) (hok : okOp n o = true) (hd : o.dst = some d) (hgo : gOk n ops j = true) (hG : gval τ ops j want = some G) (hp : pval td (stripS S τ) X o.op = some (c, r)) (hc : G = true → needsS S τ o.op.operands.toList ∧ c ∧ r = r')
    (h : AOps P n ops rest Q (updd τ (some d) (.opt G r')) X) : AOps P n ops (i :: rest) Q τ X := by
  refine AOps_estep (r := .opt G r') hi hok (fun j' w' d hg' hd => ?_) ?_ (by rw [hd]; exact h)
  · rw [hg] at hg'
    simp only [Option.some.injEq, Prod.mk.injEq] at hg'
    obtain ⟨rfl, rfl⟩ := hg'
    exact gOk_spec hgo d hd
  · unfold EStep
    rw [hg]
    refine ⟨G, r', hG, rfl, fun hGt => ?_⟩
    obtain ⟨h1, h2, rfl⟩ := hc hGt
    exact ⟨S, h1, AOp_pval ht hp h2 ⟨rfl, rfl⟩⟩
omit ht in
/-- A guarded call. -/
theorem stg_call {cl : Call} {g : Operand} {f : FuncId} {fi cp : List AV} {r : AV} {j d : Nat} {want G : Bool} (hi : ops[i]? = some o) (hdst : o.dst = some d) (hgd : o.guard = some (j, want)) (hok : okOp n o = true) (hgo : gOk n ops j = true) (hG : gval τ ops j want = some G) (ho : o.op = .call cl) (hcv : cl.callee = .value g)
    (hp : G = true → needs τ o.op.operands.toList ∧ ev (strip τ) g = .clo (.func f) fi cp ∧ FOk P f ∧ PCalls P f (fi ++ cl.args.toList.map (ev (strip τ)) ++ cp) r) (h : AOps P n ops rest Q (updd τ (some d) (.opt G r)) X) : AOps P n ops (i :: rest) Q τ X := by
  refine AOps_estep (r := .opt G r) hi hok (fun j' w' d hg' hd => ?_) ?_ (by rw [hdst]; exact h)
  · rw [hgd] at hg'
    simp only [Option.some.injEq, Prod.mk.injEq] at hg'
    obtain ⟨rfl, rfl⟩ := hg'
    exact gOk_spec hgo d hd
  · unfold EStep; rw [hgd]
    refine ⟨G, r, hG, rfl, fun hGt => ?_⟩
    obtain ⟨h1, h2, h3, h4⟩ := hp hGt
    exact ⟨fun _ => true, needs_all h1, AOp_call (τ := stripS (fun _ => true) τ) ho hcv h2 h3 (h4.any X)⟩
theorem sgk {c : Prop} {r r' : AV} {j d : Nat} {want G : Bool} (hi : ops[i]? = some o) (hg : o.guard = some (j, want)) (hok : okOp n o = true) (hd : o.dst = some d) (hgo : gOk n ops j = true) (hG : gval τ ops j want = some G) (hp : pval td (stripS (condS o.op) τ) X o.op = some (c, r)) (hc : G = true → needsS (condS o.op) τ o.op.operands.toList ∧ c ∧ r = r')
    (h : AOps P n ops rest Q (updd τ (some d) (.opt G r')) X) : AOps P n ops (i :: rest) Q τ X := stgp ht (condS o.op) hi hg hok hd hgo hG hp hc h
theorem esk {c : Prop} {r r' : AV} {j d : Nat} {want G : Bool} {k : (Nat → AV) → Prop} (hi : ops[i]? = some o) (hg : o.guard = some (j, want)) (hd : o.dst = some d) (hG : gval τ ops j want = some G) (hp : pval td (stripS (condS o.op) τ) X o.op = some (c, r)) (hc : G = true → needsS (condS o.op) τ o.op.operands.toList ∧ c ∧ r = r')
    (h : ESteps P ops X rest (updd τ (some d) (.opt G r')) k) : ESteps P ops X (i :: rest) τ k := by
  refine ⟨o, .opt G r', hi, ?_, by rw [hd]; exact h⟩
  unfold EStep; rw [hg]
  refine ⟨G, r', hG, rfl, fun hGt => ?_⟩
  obtain ⟨h1, h2, rfl⟩ := hc hGt
  exact ⟨condS o.op, h1, AOp_pval ht hp h2 ⟨rfl, rfl⟩⟩
/-- A load from memory of one's own. -/
theorem st_own {d : Nat} {t : TypeId} {a : Operand} {b off : Nat} {ob : XB} {r : AV} (hi : ops[i]? = some o) (hg : o.guard = none) (hok : okOp n o = true) (hd : o.dst = some d) (ho : o.op = .load t a) (hk : (td t).d.known = true) (ha : ev τ a = .v (.pointer (some ⟨b, off, none⟩))) (hb : X b = some ob) (hc : off + (td t).size ≤ ob.cs.length) (hr : (td t).at ob.cs off = r)
    (h : AOps P n ops rest Q (updd τ (some d) r) X) : AOps P n ops (i :: rest) Q τ X :=
  AOps_cons hi hg hok (AOp_pval ht (by rw [ho]; exact pval_own hk ha hb) hc (by rw [hd, hr]; exact h))
theorem es_own {d : Nat} {t : TypeId} {a : Operand} {b off : Nat} {ob : XB} {r : AV} {k : (Nat → AV) → Prop} (hi : ops[i]? = some o) (hg : o.guard = none) (hd : o.dst = some d) (ho : o.op = .load t a) (hk : (td t).d.known = true) (ha : ev τ a = .v (.pointer (some ⟨b, off, none⟩))) (hb : X b = some ob) (hc : off + (td t).size ≤ ob.cs.length) (hr : (td t).at ob.cs off = r)
    (h : ESteps P ops X rest (updd τ (some d) r) k) : ESteps P ops X (i :: rest) τ k := by
  refine ⟨o, r, hi, ?_, by rw [hd]; exact h⟩
  unfold EStep; rw [hg]
  exact AOp_pval ht (by rw [ho]; exact pval_own hk ha hb) hc ⟨hr, rfl⟩
theorem gs_own {B : List (List Nat)} {R : RL} {l : Pi} {k : (Nat → AV) → XH → Prop} {d : Nat} {t : TypeId} {a : Operand} {b off : Nat} {ob : XB} {r : AV} (hi : ops[i]? = some o) (hg : o.guard = none) (hd : o.dst = some d) (ho : o.op = .load t a) (hk : (td t).d.known = true) (ha : ev τ a = .v (.pointer (some ⟨b, off, none⟩))) (hb : ∀ X', lookR R i X' → X' b = some ob) (hR : lookR R i X) (hc : off + (td t).size ≤ ob.cs.length) (hr : (td t).at ob.cs off = r)
    (h : GSteps P td ops B R l (updd τ (some d) r) X k) : GSteps P td ops B R ((i, .D) :: l) τ X k := by
  refine ⟨o, r, hi, hR, fun X' hX' => ?_, by rw [hd]; exact h⟩
  unfold EStep; rw [hg]
  exact AOp_pval ht (by rw [ho]; exact pval_own hk ha (hb X' hX')) hc ⟨hr, rfl⟩
/-- The same, in the chain of what touches memory. -/
theorem gs_ownW {B : List (List Nat)} {R : RL} {l : Pi} {k : (Nat → AV) → XH → Prop} {d : Nat} {t : TypeId} {a : Operand} {b off : Nat} {ob : XB} {r : AV} (hi : ops[i]? = some o) (hg : o.guard = none) (hd : o.dst = some d) (ho : o.op = .load t a) (hk : (td t).d.known = true) (ha : ev τ a = .v (.pointer (some ⟨b, off, none⟩))) (hb : X b = some ob) (hc : off + (td t).size ≤ ob.cs.length) (hr : (td t).at ob.cs off = r) (hR : keepR R (bef B i) X X)
    (h : GSteps P td ops B R l (updd τ (some d) r) X k) : GSteps P td ops B R ((i, .W) :: l) τ X k :=
  ⟨o, hi, hg, AOp_pval ht (by rw [ho]; exact pval_own hk ha hb) hc ⟨hR, by rw [hd, hr]; exact h⟩⟩
/-- In a region that draws: an operation that only computes. -/
theorem es {c : Prop} {r r' : AV} {d : Nat} {k : (Nat → AV) → Prop} (hi : ops[i]? = some o) (hg : o.guard = none) (hd : o.dst = some d) (hp : pval td τ X o.op = some (c, r)) (hc : c) (hr : r = r') (h : ESteps P ops X rest (updd τ (some d) r') k) : ESteps P ops X (i :: rest) τ k := by
  subst hr
  refine ⟨o, r, hi, ?_, by rw [hd]; exact h⟩
  unfold EStep; rw [hg]
  exact AOp_pval ht hp hc ⟨rfl, rfl⟩
theorem esg {c : Prop} {r r' : AV} {j d : Nat} {want G : Bool} {k : (Nat → AV) → Prop} (hi : ops[i]? = some o) (hg : o.guard = some (j, want)) (hd : o.dst = some d) (hG : gval τ ops j want = some G) (hp : pval td (strip τ) X o.op = some (c, r)) (hc : G = true → needs τ o.op.operands.toList ∧ c ∧ r = r')
    (h : ESteps P ops X rest (updd τ (some d) (.opt G r')) k) : ESteps P ops X (i :: rest) τ k := by
  refine ⟨o, .opt G r', hi, ?_, by rw [hd]; exact h⟩
  unfold EStep; rw [hg]
  refine ⟨G, r', hG, rfl, fun hGt => ?_⟩
  obtain ⟨h1, h2, rfl⟩ := hc hGt
  exact ⟨fun _ => true, needs_all h1, AOp_pval ht (show pval td (stripS (fun _ => true) τ) X o.op = _ from hp) h2 ⟨rfl, rfl⟩⟩
omit ht in
/-- In a region that draws: a call that touches nothing of ours. -/
theorem es_call {d : Nat} {cl : Call} {g : Operand} {f : FuncId} {fi cp : List AV} {r : AV} {k : (Nat → AV) → Prop} (hi : ops[i]? = some o) (hdst : o.dst = some d) (hgd : o.guard = none) (ho : o.op = .call cl) (hcv : cl.callee = .value g) (hg : ev τ g = .clo (.func f) fi cp) (hf : FOk P f)
    (hp : PCalls P f (fi ++ cl.args.toList.map (ev τ) ++ cp) r) (h : ESteps P ops X rest (updd τ (some d) r) k) : ESteps P ops X (i :: rest) τ k := by
  refine ⟨o, r, hi, ?_, by rw [hdst]; exact h⟩
  unfold EStep; rw [hgd]
  exact AOp_call ho hcv hg hf (hp.any X)
omit ht in
theorem esg_call {cl : Call} {g : Operand} {f : FuncId} {fi cp : List AV} {r : AV} {j d : Nat} {want G : Bool} {k : (Nat → AV) → Prop} (hi : ops[i]? = some o) (hdst : o.dst = some d) (hgd : o.guard = some (j, want)) (hG : gval τ ops j want = some G) (ho : o.op = .call cl) (hcv : cl.callee = .value g)
    (hp : G = true → needs τ o.op.operands.toList ∧ ev (strip τ) g = .clo (.func f) fi cp ∧ FOk P f ∧ PCalls P f (fi ++ cl.args.toList.map (ev (strip τ)) ++ cp) r) (h : ESteps P ops X rest (updd τ (some d) (.opt G r)) k) : ESteps P ops X (i :: rest) τ k := by
  refine ⟨o, .opt G r, hi, ?_, by rw [hdst]; exact h⟩
  unfold EStep; rw [hgd]
  refine ⟨G, r, hG, rfl, fun hGt => ?_⟩
  obtain ⟨h1, h2, h3, h4⟩ := hp hGt
  exact ⟨fun _ => true, needs_all h1, AOp_call (τ := stripS (fun _ => true) τ) ho hcv h2 h3 (h4.any X)⟩
/-- A slice's literal. -/
theorem st_lit {d : Nat} {t e : TypeId} {len : Nat} {ps : Array (Nat × Operand)} {c : Prop} {cs : List AV} (hi : ops[i]? = some o) (hdst : o.dst = some d) (hg : o.guard = none) (hok : okOp n o = true) (ho : o.op = .buildSlice t len ps) (hd : (td t).d = .slice e) (hn : (td e).d.known = true)
    (hix : ps.toList.map (·.1) = List.range' 0 ps.toList.length) (hlen : ps.toList.length = len) (hb : len * (td e).size ≤ 16777216) (hl : lits (td e) (ps.toList.map fun x => ev τ x.2) = some (c, cs)) (hc : c)
    (h : AOps P n ops rest Q (updd τ (some d) (.sl true len cs)) X) : AOps P n ops (i :: rest) Q τ X :=
  AOps_cons hi hg hok (AOp_lit ht ho hd hn hix hlen hb hl hc (by rw [hdst]; exact h))
theorem es_lit {d : Nat} {t e : TypeId} {len : Nat} {ps : Array (Nat × Operand)} {c : Prop} {cs : List AV} {k : (Nat → AV) → Prop} (hi : ops[i]? = some o) (hdst : o.dst = some d) (hg : o.guard = none) (ho : o.op = .buildSlice t len ps) (hd : (td t).d = .slice e) (hn : (td e).d.known = true)
    (hix : ps.toList.map (·.1) = List.range' 0 ps.toList.length) (hlen : ps.toList.length = len) (hb : len * (td e).size ≤ 16777216) (hl : lits (td e) (ps.toList.map fun x => ev τ x.2) = some (c, cs)) (hc : c)
    (h : ESteps P ops X rest (updd τ (some d) (.sl true len cs)) k) : ESteps P ops X (i :: rest) τ k := by
  refine ⟨o, _, hi, ?_, by rw [hdst]; exact h⟩
  unfold EStep; rw [hg]
  exact AOp_lit ht ho hd hn hix hlen hb hl hc ⟨rfl, rfl⟩
theorem st_store {t : TypeId} {ad x : Operand} (hi : ops[i]? = some o) (hdst : o.dst = none) (hg : o.guard = none) (hok : okOp n o = true) (ho : o.op = .store t ad x) {b off : Nat} (ha : ev τ ad = .v (.pointer (some ⟨b, off, none⟩))) {ob : XB} (hb : X b = some ob)
    {c : Prop} {cs : List AV} (hl : leaves (td t) (ev τ x) = some (c, cs)) (hc : c) (hlen : off + (td t).size ≤ ob.cs.length) {cs' : List AV} (hcs : splice ob.cs off cs = cs') {T' : TypeId} (hT : ob.T = T') (h : AOps P n ops rest Q τ (X.put b ⟨T', cs'⟩)) : AOps P n ops (i :: rest) Q τ X :=
  AOps_cons hi hg hok (AOp_store ht ho ha hb hl hc hlen (by rw [hdst, hcs, hT]; exact h))
theorem st_alloc {d : Nat} {t : TypeId} (hi : ops[i]? = some o) (hdst : o.dst = some d) (hg : o.guard = none) (hok : okOp n o = true) (ho : o.op = .alloc t) (hn : (td t).d.known = true) {zs : List AV} (hz : zeros (td t) = zs)
    (h : ∀ r, X r = none → AOps P n ops rest Q (updd τ (some d) (.v (.pointer (some ⟨r, 0, none⟩)))) (X.put r ⟨t, zs⟩)) : AOps P n ops (i :: rest) Q τ X :=
  AOps_cons hi hg hok (AOp_alloc ht ho hn (by rw [hdst, hz]; exact h))
theorem st_box {d : Nat} {t : TypeId} {x : Operand} (hi : ops[i]? = some o) (hdst : o.dst = some d) (hg : o.guard = none) (hok : okOp n o = true) (ho : o.op = .box t x) {c : Prop} {cs : List AV} (hl : leaves (td t) (ev τ x) = some (c, cs)) (hc : c)
    (h : ∀ r, X r = none → AOps P n ops rest Q (updd τ (some d) (.v (.pointer (some ⟨r, 0, none⟩)))) (X.put r ⟨t, cs⟩)) : AOps P n ops (i :: rest) Q τ X :=
  AOps_cons hi hg hok (AOp_box ht ho hl hc (by rw [hdst]; exact h))
theorem st_make {d : Nat} {t e : TypeId} {ln cp : Operand} (hi : ops[i]? = some o) (hdst : o.dst = some d) (hg : o.guard = none) (hok : okOp n o = true) (ho : o.op = .makeSlice t ln cp) (hd : (td t).d = .slice e) (hn : (td e).d.known = true)
    {kl kc : IntKind} {l c : Int} (hl : ev τ ln = .v (.int kl l)) (hc : ev τ cp = .v (.int kc c)) (h0 : 0 ≤ l) (h1 : l ≤ c) (h2 : ((td e).bytes : Int) * c ≤ 281474976710656) (h3 : c ≤ 9223372036854775807)
    (h : ∀ r, X r = none → AOps P n ops rest Q (updd τ (some d) (.v (.slice (some ⟨r, 0, none⟩) l.toNat c.toNat))) (X.put r ⟨e, (List.replicate c.toNat (zeros (td e))).flatten⟩)) : AOps P n ops (i :: rest) Q τ X :=
  AOps_cons hi hg hok (AOp_make ht ho hd hn hl hc h0 h1 h2 h3 (by rw [hdst]; exact h))
theorem st_append {d : Nat} {cl : Call} {t t2 e : TypeId} {s x : Operand} (hi : ops[i]? = some o) (hdst : o.dst = some d) (hg : o.guard = none) (hok : okOp n o = true) (ho : o.op = .call cl) (hcb : cl.callee = .builtin .append) (hargs : cl.args = #[s, x]) (hts : cl.argTypes = #[t, t2])
    (hd : (td t).d = .slice e) (hn : (td e).d.known = true) (ht2 : (∃ e2, (td t2).d = .slice e2) ∨ (td t2).d = .str) (hb0 : (td e).bytes ≠ 0) {q : Nat} {cs : List AV} (hown : Own X e (td e).size (ev τ s) q cs)
    {tt : Bool} {m : Nat} {es : List AV} (hx : ev τ x = .sl tt m es) (hes : es.length = m * (td e).size) (hone : es.all AV.one = true) (hb : (q + m) * (td e).bytes ≤ 140737488355328)
    (h : ∀ a' X', Own X' e (td e).size a' (q + m) (cs ++ es) → Rest (ev τ s) X X' → (∀ r, a'.at? r → X r = none ∨ (ev τ s).at? r) → AOps P n ops rest Q (updd τ (some d) a') X') : AOps P n ops (i :: rest) Q τ X :=
  AOps_cons hi hg hok (AOp_append ht ho hcb hargs hts hd hn ht2 hb0 hown hx hes hone hb (by rw [hdst]; exact h))
omit ht in
theorem st_call {d : Nat} {cl : Call} {g : Operand} {f : FuncId} {fi cp : List AV} (hi : ops[i]? = some o) (hdst : o.dst = some d) (hgd : o.guard = none) (hok : okOp n o = true) (ho : o.op = .call cl) (hcv : cl.callee = .value g) (hg : ev τ g = .clo (.func f) fi cp) (hf : FOk P f)
    (h : ACalls P f (fi ++ cl.args.toList.map (ev τ) ++ cp) X fun av X' => AOps P n ops rest Q (updd τ (some d) av) X') : AOps P n ops (i :: rest) Q τ X :=
  AOps_cons hi hgd hok (AOp_call ho hcv hg hf (by rw [hdst]; exact h))
omit ht in
theorem st_pcall {d : Nat} {cl : Call} {g : Operand} {f : FuncId} {fi cp : List AV} {r : AV} (hi : ops[i]? = some o) (hdst : o.dst = some d) (hgd : o.guard = none) (hok : okOp n o = true) (ho : o.op = .call cl) (hcv : cl.callee = .value g) (hg : ev τ g = .clo (.func f) fi cp) (hf : FOk P f)
    (hp : PCalls P f (fi ++ cl.args.toList.map (ev τ) ++ cp) r) (h : AOps P n ops rest Q (updd τ (some d) r) X) : AOps P n ops (i :: rest) Q τ X :=
  st_call hi hdst hgd hok ho hcv hg hf ((hp.any X).mono fun _ _ ⟨e1, e2⟩ => by subst e1 e2; exact h)
/-- In an order of our own: an operation that only computes. -/
theorem gs {B : List (List Nat)} {R : RL} {l : Pi} {c : Prop} {r r' : AV} {d : Nat} {k : (Nat → AV) → XH → Prop} (hi : ops[i]? = some o) (hg : o.guard = none) (hd : o.dst = some d) (hp : ∀ X', lookR R i X' → pval td τ X' o.op = some (c, r)) (hR : lookR R i X) (hc : c) (hr : r = r') (h : GSteps P td ops B R l (updd τ (some d) r') X k) : GSteps P td ops B R ((i, .D) :: l) τ X k := by
  subst hr
  refine ⟨o, r, hi, hR, fun X' hX' => ?_, by rw [hd]; exact h⟩
  unfold EStep; rw [hg]
  exact AOp_pval ht (hp X' hX') hc ⟨rfl, rfl⟩
theorem gsg {B : List (List Nat)} {R : RL} {l : Pi} {c : Prop} {r r' : AV} {j d : Nat} {want G : Bool} {k : (Nat → AV) → XH → Prop} (hi : ops[i]? = some o) (hg : o.guard = some (j, want)) (hd : o.dst = some d) (hG : gval τ ops j want = some G) (hp : ∀ X', lookR R i X' → pval td (strip τ) X' o.op = some (c, r)) (hR : lookR R i X) (hc : G = true → needs τ o.op.operands.toList ∧ c ∧ r = r')
    (h : GSteps P td ops B R l (updd τ (some d) (.opt G r')) X k) : GSteps P td ops B R ((i, .D) :: l) τ X k := by
  refine ⟨o, .opt G r', hi, hR, fun X' hX' => ?_, by rw [hd]; exact h⟩
  unfold EStep; rw [hg]
  refine ⟨G, r', hG, rfl, fun hGt => ?_⟩
  obtain ⟨h1, h2, rfl⟩ := hc hGt
  exact ⟨fun _ => true, needs_all h1, AOp_pval ht (show pval td (stripS (fun _ => true) τ) X' o.op = _ from hp X' hX') h2 ⟨rfl, rfl⟩⟩
omit ht in
theorem gs_pcall {B : List (List Nat)} {R : RL} {l : Pi} {d : Nat} {cl : Call} {g : Operand} {f : FuncId} {fi cp : List AV} {r : AV} {k : (Nat → AV) → XH → Prop} (hi : ops[i]? = some o) (hdst : o.dst = some d) (hgd : o.guard = none) (ho : o.op = .call cl) (hcv : cl.callee = .value g) (hg : ev τ g = .clo (.func f) fi cp) (hf : FOk P f)
    (hR : lookR R i X) (hp : PCalls P f (fi ++ cl.args.toList.map (ev τ) ++ cp) r) (h : GSteps P td ops B R l (updd τ (some d) r) X k) : GSteps P td ops B R ((i, .D) :: l) τ X k := by
  refine ⟨o, r, hi, hR, fun X' _ => ?_, by rw [hdst]; exact h⟩
  unfold EStep; rw [hgd]
  exact AOp_call ho hcv hg hf (hp.any X')
theorem gs_lit {B : List (List Nat)} {R : RL} {l : Pi} {d : Nat} {t e : TypeId} {len : Nat} {ps : Array (Nat × Operand)} {c : Prop} {cs : List AV} {k : (Nat → AV) → XH → Prop} (hi : ops[i]? = some o) (hdst : o.dst = some d) (hg : o.guard = none) (ho : o.op = .buildSlice t len ps) (hd : (td t).d = .slice e) (hn : (td e).d.known = true)
    (hix : ps.toList.map (·.1) = List.range' 0 ps.toList.length) (hlen : ps.toList.length = len) (hb : len * (td e).size ≤ 16777216) (hl : lits (td e) (ps.toList.map fun x => ev τ x.2) = some (c, cs)) (hc : c) (hR : lookR R i X)
    (h : GSteps P td ops B R l (updd τ (some d) (.sl true len cs)) X k) : GSteps P td ops B R ((i, .D) :: l) τ X k := by
  refine ⟨o, _, hi, hR, fun X' _ => ?_, by rw [hdst]; exact h⟩
  unfold EStep; rw [hg]
  exact AOp_lit ht ho hd hn hix hlen hb hl hc ⟨rfl, rfl⟩
theorem gs_store {B : List (List Nat)} {R : RL} {l : Pi} {k : (Nat → AV) → XH → Prop} {t : TypeId} {ad x : Operand} (hi : ops[i]? = some o) (hdst : o.dst = none) (hg : o.guard = none) (ho : o.op = .store t ad x) {b off : Nat} (ha : ev τ ad = .v (.pointer (some ⟨b, off, none⟩))) {ob : XB} (hb : X b = some ob)
    {c : Prop} {cs : List AV} (hl : leaves (td t) (ev τ x) = some (c, cs)) (hc : c) (hlen : off + (td t).size ≤ ob.cs.length) {cs' : List AV} (hcs : splice ob.cs off cs = cs') {T' : TypeId} (hT : ob.T = T') (hR : keepR R (bef B i) X (X.put b ⟨T', cs'⟩)) (h : GSteps P td ops B R l τ (X.put b ⟨T', cs'⟩) k) : GSteps P td ops B R ((i, .W) :: l) τ X k :=
  ⟨o, hi, hg, AOp_store ht ho ha hb hl hc hlen ⟨by rw [hcs, hT]; exact hR, by rw [hdst, hcs, hT]; exact h⟩⟩
omit ht in
theorem gs_alloc {B : List (List Nat)} {R : RL} {l : Pi} {k : (Nat → AV) → XH → Prop} {d : Nat} {t : TypeId} (hi : ops[i]? = some o) (hdst : o.dst = some d) (hg : o.guard = none) (ho : o.op = .alloc t) (hn : (td t).d.known = true) {zs : List AV} (hz : zeros (td t) = zs)
    (h : ∀ r, X r = none → keepR R [] X (X.put r ⟨t, zs⟩) ∧ GSteps P td ops B R l (updd τ (some d) (.v (.pointer (some ⟨r, 0, none⟩)))) (X.put r ⟨t, zs⟩) k) : GSteps P td ops B R ((i, .A) :: l) τ X k :=
  ⟨o, t, hi, hg, ho, hn, by rw [hdst, hz]; exact h⟩
theorem gs_append {B : List (List Nat)} {R : RL} {l : Pi} {k : (Nat → AV) → XH → Prop} {d : Nat} {cl : Call} {t t2 e : TypeId} {s x : Operand} (hi : ops[i]? = some o) (hdst : o.dst = some d) (hg : o.guard = none) (ho : o.op = .call cl) (hcb : cl.callee = .builtin .append) (hargs : cl.args = #[s, x]) (hts : cl.argTypes = #[t, t2])
    (hd : (td t).d = .slice e) (hn : (td e).d.known = true) (ht2 : (∃ e2, (td t2).d = .slice e2) ∨ (td t2).d = .str) (hb0 : (td e).bytes ≠ 0) {q : Nat} {cs : List AV} (hown : Own X e (td e).size (ev τ s) q cs)
    {tt : Bool} {m : Nat} {es : List AV} (hx : ev τ x = .sl tt m es) (hes : es.length = m * (td e).size) (hone : es.all AV.one = true) (hb : (q + m) * (td e).bytes ≤ 140737488355328)
    (h : ∀ a' X', Own X' e (td e).size a' (q + m) (cs ++ es) → Rest (ev τ s) X X' → (∀ r, a'.at? r → X r = none ∨ (ev τ s).at? r) → keepR R (bef B i) X X' ∧ GSteps P td ops B R l (updd τ (some d) a') X' k) : GSteps P td ops B R ((i, .W) :: l) τ X k :=
  ⟨o, hi, hg, AOp_append ht ho hcb hargs hts hd hn ht2 hb0 hown hx hes hone hb (by rw [hdst]; exact h)⟩
omit ht in
theorem gs_call {B : List (List Nat)} {R : RL} {l : Pi} {k : (Nat → AV) → XH → Prop} {d : Nat} {cl : Call} {g : Operand} {f : FuncId} {fi cp : List AV} (hi : ops[i]? = some o) (hdst : o.dst = some d) (hgd : o.guard = none) (ho : o.op = .call cl) (hcv : cl.callee = .value g) (hg : ev τ g = .clo (.func f) fi cp) (hf : FOk P f)
    (h : ACalls P f (fi ++ cl.args.toList.map (ev τ) ++ cp) X fun av X' => keepR R (bef B i) X X' ∧ GSteps P td ops B R l (updd τ (some d) av) X' k) : GSteps P td ops B R ((i, .W) :: l) τ X k :=
  ⟨o, hi, hgd, AOp_call ho hcv hg hf (by rw [hdst]; exact h)⟩
theorem sgk0 {c : Prop} {r : AV} {j d : Nat} {want G : Bool} (hi : ops[i]? = some o) (hg : o.guard = some (j, want)) (hok : okOp n o = true) (hd : o.dst = some d) (hgo : gOk n ops j = true) (hG : gval τ ops j want = some G) (hp : pval td (stripS (condS o.op) τ) X o.op = some (c, r)) (hc : G = true → needsS (condS o.op) τ o.op.operands.toList ∧ c)
    (h : AOps P n ops rest Q (updd τ (some d) (.opt G r)) X) : AOps P n ops (i :: rest) Q τ X := sgk ht hi hg hok hd hgo hG hp (fun hg => ⟨(hc hg).1, (hc hg).2, rfl⟩) h
theorem esk0 {c : Prop} {r : AV} {j d : Nat} {want G : Bool} {k : (Nat → AV) → Prop} (hi : ops[i]? = some o) (hg : o.guard = some (j, want)) (hd : o.dst = some d) (hG : gval τ ops j want = some G) (hp : pval td (stripS (condS o.op) τ) X o.op = some (c, r)) (hc : G = true → needsS (condS o.op) τ o.op.operands.toList ∧ c)
    (h : ESteps P ops X rest (updd τ (some d) (.opt G r)) k) : ESteps P ops X (i :: rest) τ k := esk ht hi hg hd hG hp (fun hg => ⟨(hc hg).1, (hc hg).2, rfl⟩) h
theorem gsg0 {B : List (List Nat)} {R : RL} {l : Pi} {c : Prop} {r : AV} {j d : Nat} {want G : Bool} {k : (Nat → AV) → XH → Prop} (hi : ops[i]? = some o) (hg : o.guard = some (j, want)) (hd : o.dst = some d) (hG : gval τ ops j want = some G) (hp : ∀ X', lookR R i X' → pval td (strip τ) X' o.op = some (c, r)) (hR : lookR R i X) (hc : G = true → needs τ o.op.operands.toList ∧ c)
    (h : GSteps P td ops B R l (updd τ (some d) (.opt G r)) X k) : GSteps P td ops B R ((i, .D) :: l) τ X k := gsg ht hi hg hd hG hp hR (fun hg => ⟨(hc hg).1, (hc hg).2, rfl⟩) h
theorem sgke {c : Prop} {r r' : AV} {j d : Nat} {want G : Bool} (hi : ops[i]? = some o) (hg : o.guard = some (j, want)) (hok : okOp n o = true) (hd : o.dst = some d) (hgo : gOk n ops j = true) (hG : gval τ ops j want = some G) (hp : pval td (stripS (condS o.op) τ) X o.op = some (c, r)) (hr : r = r') (hc : G = true → needsS (condS o.op) τ o.op.operands.toList ∧ c)
    (h : AOps P n ops rest Q (updd τ (some d) (.opt G r')) X) : AOps P n ops (i :: rest) Q τ X := sgk ht hi hg hok hd hgo hG hp (fun hg => ⟨(hc hg).1, (hc hg).2, hr⟩) h
theorem eske {c : Prop} {r r' : AV} {j d : Nat} {want G : Bool} {k : (Nat → AV) → Prop} (hi : ops[i]? = some o) (hg : o.guard = some (j, want)) (hd : o.dst = some d) (hG : gval τ ops j want = some G) (hp : pval td (stripS (condS o.op) τ) X o.op = some (c, r)) (hr : r = r') (hc : G = true → needsS (condS o.op) τ o.op.operands.toList ∧ c)
    (h : ESteps P ops X rest (updd τ (some d) (.opt G r')) k) : ESteps P ops X (i :: rest) τ k := esk ht hi hg hd hG hp (fun hg => ⟨(hc hg).1, (hc hg).2, hr⟩) h
theorem gsge {B : List (List Nat)} {R : RL} {l : Pi} {c : Prop} {r r' : AV} {j d : Nat} {want G : Bool} {k : (Nat → AV) → XH → Prop} (hi : ops[i]? = some o) (hg : o.guard = some (j, want)) (hd : o.dst = some d) (hG : gval τ ops j want = some G) (hp : ∀ X', lookR R i X' → pval td (strip τ) X' o.op = some (c, r)) (hR : lookR R i X) (hr : r = r') (hc : G = true → needs τ o.op.operands.toList ∧ c)
    (h : GSteps P td ops B R l (updd τ (some d) (.opt G r')) X k) : GSteps P td ops B R ((i, .D) :: l) τ X k := gsg ht hi hg hd hG hp hR (fun hg => ⟨(hc hg).1, (hc hg).2, hr⟩) h
/-- Guarded loads from memory of one's own. -/
theorem sgk_own {j d : Nat} {want G : Bool} {t : TypeId} {a : Operand} {b off : Nat} {ob : XB} {r : AV} (hi : ops[i]? = some o) (hg : o.guard = some (j, want)) (hok : okOp n o = true) (hd : o.dst = some d) (hgo : gOk n ops j = true) (hG : gval τ ops j want = some G) (ho : o.op = .load t a) (hk : (td t).d.known = true) (ha : ev (stripS (condS o.op) τ) a = .v (.pointer (some ⟨b, off, none⟩))) (hb : X b = some ob)
    (hc : G = true → needsS (condS o.op) τ o.op.operands.toList) (hlen : off + (td t).size ≤ ob.cs.length) (hr : (td t).at ob.cs off = r)
    (h : AOps P n ops rest Q (updd τ (some d) (.opt G r)) X) : AOps P n ops (i :: rest) Q τ X :=
  sgk ht hi hg hok hd hgo hG ((congrArg (pval td (stripS (condS o.op) τ) X) ho).trans (pval_own hk ha hb)) (fun hg => ⟨hc hg, hlen, hr⟩) h
theorem esk_own {j d : Nat} {want G : Bool} {t : TypeId} {a : Operand} {b off : Nat} {ob : XB} {r : AV} {k : (Nat → AV) → Prop} (hi : ops[i]? = some o) (hg : o.guard = some (j, want)) (hd : o.dst = some d) (hG : gval τ ops j want = some G) (ho : o.op = .load t a) (hk : (td t).d.known = true) (ha : ev (stripS (condS o.op) τ) a = .v (.pointer (some ⟨b, off, none⟩))) (hb : X b = some ob)
    (hc : G = true → needsS (condS o.op) τ o.op.operands.toList) (hlen : off + (td t).size ≤ ob.cs.length) (hr : (td t).at ob.cs off = r)
    (h : ESteps P ops X rest (updd τ (some d) (.opt G r)) k) : ESteps P ops X (i :: rest) τ k :=
  esk ht hi hg hd hG ((congrArg (pval td (stripS (condS o.op) τ) X) ho).trans (pval_own hk ha hb)) (fun hg => ⟨hc hg, hlen, hr⟩) h
theorem gsg_own {B : List (List Nat)} {R : RL} {l : Pi} {j d : Nat} {want G : Bool} {t : TypeId} {a : Operand} {b off : Nat} {ob : XB} {r : AV} {k : (Nat → AV) → XH → Prop} (hi : ops[i]? = some o) (hg : o.guard = some (j, want)) (hd : o.dst = some d) (hG : gval τ ops j want = some G) (ho : o.op = .load t a) (hk : (td t).d.known = true) (ha : ev (strip τ) a = .v (.pointer (some ⟨b, off, none⟩))) (hb : ∀ X', lookR R i X' → X' b = some ob) (hR : lookR R i X)
    (hc : G = true → needs τ o.op.operands.toList) (hlen : off + (td t).size ≤ ob.cs.length) (hr : (td t).at ob.cs off = r)
    (h : GSteps P td ops B R l (updd τ (some d) (.opt G r)) X k) : GSteps P td ops B R ((i, .D) :: l) τ X k :=
  gsg ht hi hg hd hG (fun X' hX' => (congrArg (pval td (strip τ) X') ho).trans (pval_own hk ha (hb X' hX'))) hR (fun hg => ⟨hc hg, hlen, hr⟩) h
end steps

theorem gs_nil {P : Program} {td : Tab} {ops : Array Oper} {B : List (List Nat)} {R : RL} {Q : Post} {τ : Nat → AV} {X : XH} (h : Q .normal τ X) : GSteps P td ops B R [] τ X fun τ' X' => Q .normal τ' X' := h
theorem AWP_drawn {P : Program} (hP : P.follows .mixedOrders = true) {n id : Nat} {ops : Array Oper} {Q : Post} {τ : Nat → AV} {X : XH} (hpar : parOk ops ops.size (clo ops) = true) (hok : ops.toList.all (okOp n) = true) (hgok : (ops.toList.all fun o => match o.guard with | some (j, _) => (match dstOf ops j with | some d => decide (d < n) | none => true) | none => true) = true)
    (h : ESteps P ops X (List.range ops.size) τ fun τ' => AOps P n ops (List.range' ops.size (ops.size - ops.size)) Q τ' X) : AWP P n (.region id ops true) Q τ X := AWP_draw hP ops.size hpar hok hgok h

def rvT : ResultVar → Bool | .tmp _ => true | _ => false
def rvA (τ : Nat → AV) : ResultVar → AV | .tmp t => τ t | _ => .any
def rv1 (td : Tab) (τ : Nat → AV) (X : XH) : ResultVar → Option (Prop × AV)
  | .tmp t => some (True, τ t)
  | .cell a t => pLoad (td t) X (τ a)
def rvs (td : Tab) (τ : Nat → AV) (X : XH) : List ResultVar → Option (Prop × List AV)
  | [] => some (True, [])
  | r :: l =>
    match rv1 td τ X r, rvs td τ X l with
    | some (c, a), some (c', as) => some (c ∧ c', a :: as)
    | _, _ => none
theorem rvs_tmp {td : Tab} {τ : Nat → AV} {X : XH} : ∀ {rs : List ResultVar}, rs.all rvT = true → ∃ c : Prop, c ∧ rvs td τ X rs = some (c, rs.map (rvA τ))
  | [], _ => ⟨True, trivial, rfl⟩
  | .tmp t :: l, h => by
    simp only [List.all_cons, Bool.and_eq_true] at h
    obtain ⟨c, hc, e⟩ := rvs_tmp (td := td) (τ := τ) (X := X) h.2
    exact ⟨True ∧ c, ⟨trivial, hc⟩, by simp only [rvs, rv1, e, List.map_cons, rvA]⟩
  | .cell a t :: l, h => by simp [rvT] at h
/-- The results of a function, out of its temporaries and its memory. -/
def resAV (td : Tab) (rs : List ResultVar) (τ : Nat → AV) (X : XH) : Option (Prop × AV) :=
  match rs with
  | [.tmp t] => some (True, τ t)
  | [.cell a t] => pLoad (td t) X (τ a)
  | rs => if rs.all rvT then some (True, .tup (rs.map (rvA τ))) else (match rvs td τ X rs with | some (c, l) => some (c, .tup l) | none => none)
def resOk (n : Nat) (rs : List ResultVar) : Bool := rs.all fun | .tmp t => decide (t < n) | .cell a _ => decide (a < n)

theorem rv1_own {td : Tab} {τ : Nat → AV} {X : XH} {t : TypeId} {a b off : Nat} {ob : XB} {r : AV} (hk : (td t).d.known = true) (ha : τ a = .v (.pointer (some ⟨b, off, none⟩))) (hb : X b = some ob) (hr : (td t).at ob.cs off = r) : rv1 td τ X (.cell a t) = some (off + (td t).size ≤ ob.cs.length, r) := by
  unfold rv1 pLoad
  simp only [hk, if_true, ha, hb, hr]
theorem rvs_cons {td : Tab} {τ : Nat → AV} {X : XH} {r : ResultVar} {l : List ResultVar} {c c' : Prop} {a : AV} {as : List AV} (h : rv1 td τ X r = some (c, a)) (h' : rvs td τ X l = some (c', as)) : rvs td τ X (r :: l) = some (c ∧ c', a :: as) := by
  simp only [rvs, h, h']
theorem resAV_many {td : Tab} {τ : Nat → AV} {X : XH} {r1 r2 : ResultVar} {rs : List ResultVar} {c : Prop} {l : List AV} (hn : (r1 :: r2 :: rs).all rvT = false) (h : rvs td τ X (r1 :: r2 :: rs) = some (c, l)) : resAV td (r1 :: r2 :: rs) τ X = some (c, .tup l) := by
  have e : resAV td (r1 :: r2 :: rs) τ X = if (r1 :: r2 :: rs).all rvT then some (True, .tup ((r1 :: r2 :: rs).map (rvA τ))) else (match rvs td τ X (r1 :: r2 :: rs) with | some (c, l) => some (c, .tup l) | none => none) := by cases r1 <;> rfl
  rw [e, hn, h]
  rfl
def resF (tmps : Array Value) : ResultVar → Sem Value
  | .tmp t => pure (tmps.getD t undef)
  | .cell a t => do loadVar t (← asAddr (tmps.getD a undef))
theorem rv1_sound {P : Program} {td : Tab} (ht : td.ok P) {n : Nat} {p : PB} {τ : Nat → AV} {X : XH} {a : Act} {w : World} (s : Sim n p τ X a w) {rv : ResultVar} (hok : resOk n [rv] = true) {c : Prop} {r : AV} (h : rv1 td τ X rv = some (c, r)) (hc : c) :
    ∃ v, (resF a.tmps rv).run P w = .ok v w ∧ Rel p w r v := by
  cases rv with
  | tmp t =>
    simp only [rv1, Option.some.injEq, Prod.mk.injEq] at h
    obtain ⟨rfl, rfl⟩ := h
    exact ⟨_, rfl, s.tmps t (by simpa [resOk] using hok)⟩
  | cell x t =>
    simp only [rv1] at h
    have hx := s.tmps x (by simpa [resOk] using hok)
    have hX := s.xs
    unfold resF
    simp only []
    generalize a.tmps.getD x undef = u at hx ⊢
    unfold pLoad at h
    split at h
    case isFalse => exact absurd h (by simp)
    rename_i hk
    split at h
    · rename_i cs k e
      simp only [Option.some.injEq, Prod.mk.injEq] at h
      obtain ⟨rfl, rfl⟩ := h
      rw [e] at hx
      simp only [Rel] at hx
      obtain ⟨b, off, ys, e2, hb, hcs, hl⟩ := hx
      obtain ⟨v, h1, h2⟩ := run_loadVar ht (TD.ne_of_known hk) hcs hl hc
      refine ⟨v, ?_, h2⟩
      subst e2
      simpa [asAddr] using h1
    · rename_i b off e
      split at h
      · rename_i o ho
        simp only [Option.some.injEq, Prod.mk.injEq] at h
        obtain ⟨rfl, rfl⟩ := h
        rw [e] at hx
        simp only [Rel] at hx
        obtain ⟨_, ys, hy, hl⟩ := hX b o ho
        obtain ⟨v, h1, h2⟩ := run_loadVar ht (TD.ne_of_known hk) (Cells.ofBlock hy) hl hc
        refine ⟨v, ?_, h2⟩
        subst hx
        simpa [asAddr] using h1
      · exact absurd h (by simp)
    · exact absurd h (by simp)
theorem rvs_sound {P : Program} {td : Tab} (ht : td.ok P) {n : Nat} {p : PB} {τ : Nat → AV} {X : XH} {a : Act} {w : World} (s : Sim n p τ X a w) : ∀ {rs : List ResultVar} (hok : resOk n rs = true) {c : Prop} {l : List AV} (h : rvs td τ X rs = some (c, l)) (hc : c),
    ∃ vs, (rs.mapM (resF a.tmps)).run P w = .ok vs w ∧ RelL p w l vs := by
  intro rs
  induction rs with
  | nil =>
    intro _ c l h _
    simp only [rvs, Option.some.injEq, Prod.mk.injEq] at h
    obtain ⟨rfl, rfl⟩ := h
    exact ⟨[], by simp, RelL.nil⟩
  | cons r rs ih =>
    intro hok c l h hc
    simp only [resOk, List.all_cons, Bool.and_eq_true] at hok
    simp only [rvs] at h
    split at h
    case h_2 => exact absurd h (by simp)
    rename_i c1 a1 c2 as h1 h2
    simp only [Option.some.injEq, Prod.mk.injEq] at h
    obtain ⟨rfl, rfl⟩ := h
    obtain ⟨v, g1, g2⟩ := rv1_sound ht s (by simp only [resOk, List.all_cons, List.all_nil, Bool.and_true]; exact hok.1) h1 hc.1
    obtain ⟨vs, g3, g4⟩ := ih hok.2 h2 hc.2
    exact ⟨v :: vs, by simp [List.mapM_cons, g1, g3], RelL.cons g2 g4⟩

theorem results_eq (fn : Func) (tmps : Array Value) : results fn tmps = (do
    let vs ← fn.results.mapM (resF tmps)
    pure (if h : vs.size = 1 then vs[0] else .tuple vs)) := by
  rfl
theorem res_run {P : Program} {td : Tab} (ht : td.ok P) {fn : Func} {n : Nat} {p : PB} {τ : Nat → AV} {X : XH} {a : Act} {w : World} (s : Sim n p τ X a w) (hok : resOk n fn.results.toList = true) {c : Prop} {r : AV} (hr : resAV td fn.results.toList τ X = some (c, r)) (hc : c) :
    ∃ v, (results fn a.tmps).run P w = .ok v w ∧ Rel p w r v := by
  rw [results_eq, ← Array.toArray_toList (xs := fn.results), List.mapM_toArray]
  simp only [Sem.run_bind, Sem.run_map]
  generalize fn.results.toList = rs at hr hok
  match rs, hr, hok with
  | [.tmp t], hr, hok =>
    simp only [resAV, Option.some.injEq, Prod.mk.injEq] at hr
    obtain ⟨v, g1, g2⟩ := rv1_sound ht s (rv := .tmp t) hok (c := c) (r := r) (by simp only [rv1, Option.some.injEq, Prod.mk.injEq]; exact hr) hc
    exact ⟨v, by simp [List.mapM_cons, g1], g2⟩
  | [.cell x t], hr, hok =>
    simp only [resAV] at hr
    obtain ⟨v, g1, g2⟩ := rv1_sound ht s (rv := .cell x t) hok (c := c) (r := r) hr hc
    exact ⟨v, by simp [List.mapM_cons, g1], g2⟩
  | [], hr, hok =>
    simp only [resAV, List.all_nil, if_true, Option.some.injEq, Prod.mk.injEq] at hr
    obtain ⟨_, rfl⟩ := hr
    exact ⟨.tuple #[], by simp, by simp only [Rel]; exact ⟨[], rfl, RelL.nil⟩⟩
  | r1 :: r2 :: rs, hr, hok =>
    have key : ∃ (c : Prop) (l : List AV), c ∧ rvs td τ X (r1 :: r2 :: rs) = some (c, l) ∧ r = .tup l := by
      simp only [resAV] at hr
      split at hr
      · rename_i hall
        simp only [Option.some.injEq, Prod.mk.injEq] at hr
        obtain ⟨c', h1, h2⟩ := rvs_tmp (td := td) (τ := τ) (X := X) hall
        exact ⟨c', _, h1, h2, hr.2.symm⟩
      · split at hr
        · rename_i c' l e
          simp only [Option.some.injEq, Prod.mk.injEq] at hr
          obtain ⟨rfl, rfl⟩ := hr
          exact ⟨_, l, hc, e, rfl⟩
        · exact absurd hr (by simp)
    obtain ⟨c', l, h1, h2, rfl⟩ := key
    obtain ⟨vs, g1, g2⟩ := rvs_sound ht s hok h2 h1
    have hlen : vs.length = rs.length + 2 := by
      have := g2.length
      have h3 : ∀ (rs : List ResultVar) (c : Prop) (l : List AV), rvs td τ X rs = some (c, l) → l.length = rs.length := by
        intro rs
        induction rs with
        | nil => intro c l h; simp only [rvs, Option.some.injEq, Prod.mk.injEq] at h; obtain ⟨_, rfl⟩ := h; rfl
        | cons q rs ih =>
          intro c l h
          simp only [rvs] at h
          split at h
          · rename_i e1 e2
            simp only [Option.some.injEq, Prod.mk.injEq] at h
            obtain ⟨_, rfl⟩ := h
            simp [ih _ _ e2]
          · exact absurd h (by simp)
      rw [this, h3 _ _ _ h2]; rfl
    refine ⟨.tuple vs.toArray, ?_, by simp only [Rel]; exact ⟨vs, rfl, g2⟩⟩
    rw [g1]
    simp [hlen]

/-- What is told of values and memory may be told otherwise. -/
def GS (as : List AV) (X : XH) (bs : List AV) (X' : XH) : Prop :=
  ∀ (p : PB) (w : World) (ys : List Value), RelL p w as ys → XSim p X w → PBk p w → ∃ p' : PB, (∀ b, p b → p' b) ∧ PBk p' w ∧ (∀ b, p' b → p b ∨ X b ≠ none) ∧ RelL p' w bs ys ∧ XSim p' X' w ∧ (∀ b, X' b ≠ none → X b ≠ none)
theorem GS.refl (as : List AV) (X : XH) : GS as X as X := fun p w ys h hX hp => ⟨p, fun _ h => h, hp, fun _ h => .inl h, h, hX, fun _ h => h⟩
theorem GS.trans {as bs cs : List AV} {X X' X'' : XH} (h : GS as X bs X') (h' : GS bs X' cs X'') : GS as X cs X'' := by
  intro p w ys hr hX hp
  obtain ⟨p1, a1, a2, a3, a4, a5, a6⟩ := h p w ys hr hX hp
  obtain ⟨p2, b1, b2, b3, b4, b5, b6⟩ := h' p1 w ys a4 a5 a2
  refine ⟨p2, fun b hb => b1 b (a1 b hb), b2, fun b hb => ?_, b4, b5, fun b hb => a6 b (b6 b hb)⟩
  rcases b3 b hb with h | h
  · exact a3 b h
  · exact .inr (a6 b h)
/-- Blocks may be forgotten. -/
theorem GS.forget (as : List AV) (X : XH) : GS as X as XH.none :=
  fun p w ys h hX hp => ⟨p, fun _ h => h, hp, fun _ h => .inl h, h, fun r o e => by simp [XH.none] at e, fun b h => absurd rfl h⟩

/-- A slice of one's own is given up: it is data from now on. -/
theorem GS.pub {X : XH} {r off n c : Nat} {o : XB} (hX : X r = some o) (hn : n ≤ c) {sz : Nat} (hl : off + n * sz ≤ o.cs.length) (as bs : List AV) :
    GS (as ++ .v (.slice (some ⟨r, off, none⟩) n c) :: bs) X (as ++ .sl false n ((o.cs.drop off).take (n * sz)) :: bs) (X.del r) := by
  intro p w ys h hXs hp
  obtain ⟨hpr, xs, hxs, hrx⟩ := hXs r o hX
  have hlt := hXs.lt hX
  let p' : PB := fun b => p b ∨ b = r
  have hm : ∀ av y, Rel p w av y → Rel p' w av y := fun av y h => Rel.mono (fun _ h => .inl h) (fun _ _ => rfl) av y h
  have hmL : ∀ as ys, RelL p w as ys → RelL p' w as ys := fun av y h => RelL.mono (fun _ h => .inl h) (fun _ _ => rfl) av y h
  refine ⟨p', fun _ h => .inl h, hp.go (fun _ h => .inl h) (fun _ _ => rfl) (fun b hb => ?_), fun b hb => ?_, ?_, fun q o' hq => ?_, fun b hb => ?_⟩
  · rcases hb with hb | hb
    · exact hp b hb
    · subst hb; exact hlt
  · rcases hb with hb | hb
    · exact .inl hb
    · subst hb; exact .inr (by rw [hX]; simp)
  · induction as generalizing ys with
    | nil =>
      simp only [List.nil_append, RelL] at h ⊢
      obtain ⟨y, rs, rfl, h1, h2⟩ := h
      refine ⟨y, rs, rfl, ?_, hmL _ _ h2⟩
      simp only [Rel] at h1 ⊢
      subst h1
      refine ⟨_, _, rfl, hn, fun h => by simp at h, .inr ⟨r, off, (xs.drop off).take (n * sz), rfl, .inr rfl, ?_, RelL.take _ (RelL.drop _ (hmL _ _ hrx))⟩⟩
      intro j y hj
      have hc := Cells.ofBlock hxs
      rw [List.getElem?_take] at hj
      split at hj
      · have := hc (off + j) y (by simpa [List.getElem?_drop] using hj)
        simpa using this
      · exact absurd hj (by simp)
    | cons a as ih =>
      simp only [List.cons_append, RelL] at h ⊢
      obtain ⟨y, rs, rfl, h1, h2⟩ := h
      exact ⟨y, rs, rfl, hm _ _ h1, ih rs h2⟩
  · simp only [XH.del] at hq
    split at hq
    · exact absurd hq (by simp)
    · rename_i hne
      obtain ⟨h1, zs, h2, h3⟩ := hXs q o' hq
      refine ⟨fun h => ?_, zs, h2, hmL _ _ h3⟩
      rcases h with h | h
      · exact h1 h
      · exact hne h
  · simp only [XH.del] at hb
    split at hb
    · exact absurd rfl hb
    · exact hb

/-- A slice of one's own is given up, wherever it stands. -/
theorem GS.own {X : XH} {e : TypeId} {sz n : Nat} {a : AV} {cs : List AV} (h : Own X e sz a n cs) (as bs : List AV) : ∃ tt, GS (as ++ a :: bs) X (as ++ .sl tt n cs :: bs) XH.none := by
  obtain ⟨h1, h⟩ := h
  rcases h with ⟨rfl, rfl⟩ | ⟨r, c, pad, rfl, hX, hn, hp⟩
  · have : cs = [] := by simpa using h1
    subst this
    exact ⟨true, GS.forget _ _⟩
  · have hg := GS.pub (sz := sz) (off := 0) hX hn (by simp [h1]) as bs
    have hc : ((cs ++ pad).drop 0).take (n * sz) = cs := by rw [← h1]; simp
    simp only [hc] at hg
    exact ⟨false, hg.trans (GS.forget _ _)⟩
theorem GS.tup {as bs : List AV} {X X' : XH} (h : GS as X bs X') : GS [.tup as] X [.tup bs] X' := by
  intro p w ys hr hX hp
  simp only [RelL] at hr
  obtain ⟨y, r, rfl, hy, rfl⟩ := hr
  simp only [Rel] at hy
  obtain ⟨zs, rfl, hz⟩ := hy
  obtain ⟨p', a1, a2, a3, a4, a5, a6⟩ := h p w zs hz hX hp
  exact ⟨p', a1, a2, a3, RelL.cons (by simp only [Rel]; exact ⟨zs, rfl, a4⟩) RelL.nil, a5, a6⟩

theorem GS.agg {as bs : List AV} {X X' : XH} (h : GS as X bs X') : GS [.agg as] X [.agg bs] X' := by
  intro p w ys hr hX hp
  simp only [RelL] at hr
  obtain ⟨y, r, rfl, hy, rfl⟩ := hr
  simp only [Rel] at hy
  obtain ⟨zs, rfl, hz⟩ := hy
  obtain ⟨p', a1, a2, a3, a4, a5, a6⟩ := h p w zs hz hX hp
  exact ⟨p', a1, a2, a3, RelL.cons (by simp only [Rel]; exact ⟨zs, rfl, a4⟩) RelL.nil, a5, a6⟩
/-- Blocks may be forgotten, some. -/
theorem GS.sub {as : List AV} {X X' : XH} (h : ∀ b o, X' b = some o → X b = some o) : GS as X as X' :=
  fun p w ys hr hX hp => ⟨p, fun _ h => h, hp, fun _ h => .inl h, hr, fun r o e => hX r o (h r o e), fun b hb => by
    cases e : X' b with
    | none => exact absurd e hb
    | some o => rw [h b o e]; simp⟩
/-- What is told of values may be told weaker. -/
theorem GS.weak {as bs : List AV} {X : XH} (h : ∀ p w ys, RelL p w as ys → RelL p w bs ys) : GS as X bs X :=
  fun p w ys hr hX hp => ⟨p, fun _ h => h, hp, fun _ h => .inl h, h p w ys hr, hX, fun _ h => h⟩
theorem Rel.loose {p : PB} {w : World} {t : Bool} {n : Nat} {cs : List AV} {y : Value} (h : Rel p w (.sl t n cs) y) : Rel p w (.sl false n cs) y := by
  simp only [Rel] at h ⊢
  obtain ⟨A, c, e, h1, h2, h3⟩ := h
  exact ⟨A, c, e, h1, fun h => absurd h (by simp), h3⟩
theorem RelL.loose {p : PB} {w : World} {t : Bool} {n : Nat} {cs bs : List AV} : ∀ {as : List AV} {ys : List Value}, RelL p w (as ++ .sl t n cs :: bs) ys → RelL p w (as ++ .sl false n cs :: bs) ys
  | [], ys, h => by
    simp only [List.nil_append, RelL] at h ⊢
    obtain ⟨y, r, e, h1, h2⟩ := h
    exact ⟨y, r, e, h1.loose, h2⟩
  | a :: as, ys, h => by
    simp only [List.cons_append, RelL] at h ⊢
    obtain ⟨y, r, e, h1, h2⟩ := h
    exact ⟨y, r, e, h1, RelL.loose h2⟩
/-- A slice of one's own is given up; what else is one's own stays. -/
theorem GS.give {X : XH} {e : TypeId} {sz n : Nat} {a : AV} {cs : List AV} (h : Own X e sz a n cs) (as bs : List AV) : ∃ X', GS (as ++ a :: bs) X (as ++ .sl false n cs :: bs) X' ∧ Rest a X X' := by
  obtain ⟨h1, h⟩ := h
  rcases h with ⟨rfl, rfl⟩ | ⟨r, c, pad, rfl, hX, hn, hp⟩
  · have : cs = [] := by simpa using h1
    subst this
    exact ⟨X, GS.weak fun p w ys h => RelL.loose h, fun r o h _ => h⟩
  · have hg := GS.pub (sz := sz) (off := 0) hX hn (by simp [h1]) as bs
    have hc : ((cs ++ pad).drop 0).take (n * sz) = cs := by rw [← h1]; simp
    simp only [hc] at hg
    refine ⟨_, hg, fun q o hq hne => ?_⟩
    simp only [XH.del]
    rw [if_neg]
    · exact hq
    · rintro rfl; exact hne rfl
theorem XH.put_put {X : XH} {r : Nat} {a b : XB} : (X.put r a).put r b = X.put r b := by
  funext q; simp only [XH.put]; split <;> rfl
theorem XH.put_swap {X : XH} {r q : Nat} {a b c : XB} (h : r ≠ q) : ((X.put r a).put q b).put r c = (X.put r c).put q b := by
  funext k; simp only [XH.put]
  by_cases e1 : k = r
  · subst e1; rw [if_pos rfl, if_neg h, if_pos rfl]
  · rw [if_neg e1, if_neg e1, if_neg e1]
theorem XH.put_sub {X : XH} {q : Nat} {d : XB} (h : X q = Option.none) : ∀ b o, X b = some o → (X.put q d) b = some o := by
  intro b o hb
  simp only [XH.put]
  rw [if_neg]
  · exact hb
  · rintro rfl; rw [h] at hb; exact absurd hb (by simp)
/-- What a callee is told of its arguments may be told stronger. -/
theorem ACalls.of {P : Program} {f : FuncId} {avs avs' : List AV} {X : XH} {Q : AV → XH → Prop} (h : ACalls P f avs X Q) (ha : ∀ p w ys, RelL p w avs' ys → RelL p w avs ys) : ACalls P f avs' X Q :=
  fun p w vs hr hx hb => h p w vs (ha p w vs hr) hx hb
theorem Own.nat {X : XH} {e : TypeId} {sz n r : Nat} {a : AV} {cs : List AV} (h : Own X e sz a n cs) (hX : X r = none) : ¬ a.at? r := by
  intro hr
  obtain ⟨_, h⟩ := h
  rcases h with ⟨rfl, _⟩ | ⟨q, c, pad, rfl, hq, _⟩
  · exact hr
  · simp only [AV.at?] at hr; subst hr; rw [hX] at hq; exact absurd hq (by simp)
theorem Own.put {X : XH} {e : TypeId} {sz n r : Nat} {a : AV} {cs : List AV} {o : XB} (h : Own X e sz a n cs) (hn : ¬ a.at? r) : Own (X.put r o) e sz a n cs := by
  obtain ⟨h1, h⟩ := h
  refine ⟨h1, ?_⟩
  rcases h with h | ⟨q, c, pad, rfl, hq, h2⟩
  · exact .inl h
  · refine .inr ⟨q, c, pad, rfl, XH.put_ne (fun e => ?_) hq, h2⟩
    subst e; exact hn rfl
theorem Own.kept {X X' : XH} {e : TypeId} {sz n : Nat} {a b : AV} {cs : List AV} (h : Own X e sz a n cs) (hr : Rest b X X') (hn : ∀ r, a.at? r → ¬ b.at? r) : Own X' e sz a n cs := by
  obtain ⟨h1, h⟩ := h
  refine ⟨h1, ?_⟩
  rcases h with h | ⟨q, c, pad, rfl, hq, h2⟩
  · exact .inl h
  · exact .inr ⟨q, c, pad, rfl, hr q _ hq (hn q rfl), h2⟩
theorem Own.one {X : XH} {e : TypeId} {sz n : Nat} {a : AV} {cs : List AV} (h : Own X e sz a n cs) : a.one = true := by
  obtain ⟨_, h⟩ := h
  rcases h with ⟨rfl, _⟩ | ⟨q, c, pad, rfl, _⟩ <;> rfl
/-- Two blocks, one held, one not. -/
theorem XH.ne {X : XH} {q r : Nat} {o : XB} (h : X q = some o) (hn : X r = Option.none) : q ≠ r := by
  rintro rfl; rw [h] at hn; exact absurd hn (by simp)
/-- A callee that knows one block of ours. -/
theorem ACalls.cell {P : Program} {f : FuncId} {avs : List AV} {r : Nat} {o : XB} {X : XH} {Q : AV → XB → Prop} (h : ACalls P f avs (XH.none.put r o) fun av X' => ∃ o', X' = XH.none.put r o' ∧ Q av o') (hX : X r = some o) : ACalls P f avs X fun av X' => ∃ o', X' = X.put r o' ∧ Q av o' := by
  refine (ACalls.frame (X := X) h ?_).mono ?_
  · intro q o2 hq
    simp only [XH.put] at hq
    split at hq
    · rename_i e; subst e; rw [hX]; exact hq
    · exact absurd hq (by simp [XH.none])
  · rintro av X' ⟨X1', ⟨o', rfl, hq⟩, rfl, _⟩
    refine ⟨o', ?_, hq⟩
    funext k
    simp only [XH.put]
    by_cases e : k = r
    · subst e; simp
    · simp only [e, if_false, XH.none, true_and]
      cases X k <;> simp

/-- At the end of a body. -/
def retP (td : Tab) (rs : List ResultVar) (Q : AV → XH → Prop) : Post
  | .ret, τ, X => ∃ c r av X', resAV td rs τ X = some (c, r) ∧ c ∧ GS [r] X [av] X' ∧ Q av X'
  | .normal, τ, X => ∃ c r av X', resAV td rs τ X = some (c, r) ∧ c ∧ GS [r] X [av] X' ∧ Q av X'
  | _, _, _ => False

def tau0 (avs : List AV) : Nat → AV := fun t => avs.getD t (.v undef)

theorem calls_body {P : Program} {td : Tab} (ht : td.ok P) {f : FuncId} {fn : Func} {c : Code} {avs : List AV} {X : XH} {Q : AV → XH → Prop} (hf : P.funcs[f]? = some fn) (hb : fn.body = some c) (hn0 : Nat.ble avs.length fn.ntmps = true) (hres : resOk fn.ntmps fn.results.toList = true)
    (h : AWP P fn.ntmps c (retP td fn.results.toList Q) (tau0 avs) X) : ACalls P f avs X Q := by
  have hn := Nat.le_of_ble_eq_true hn0
  intro p w vs hr hX hp
  have hlen := hr.length
  refine calls_of_wp hf hb (wp_mono (h p _ w ?_) ?_)
  · refine ⟨by simp; omega, fun t ht => ?_, rfl, hX, hp⟩
    simp only [tau0]
    by_cases h : t < avs.length
    · obtain ⟨y, h1, h2⟩ := RelL.get t hr (List.getElem?_eq_getElem h)
      rw [List.getD_eq_getElem?_getD, List.getElem?_eq_getElem h]
      have : (vs.toArray ++ Array.replicate (fn.ntmps - vs.toArray.size) undef).getD t undef = y := by
        have h2 : t < vs.toArray.size := by simp; omega
        rw [Array.getD_eq_getD_getElem?, Array.getElem?_append, if_pos h2]
        simp [h1]
      rw [this]; exact h2
    · rw [List.getD_eq_getElem?_getD, List.getElem?_eq_none (by omega)]
      have : (vs.toArray ++ Array.replicate (fn.ntmps - vs.toArray.size) undef).getD t undef = undef := by
        rw [Array.getD_eq_getD_getElem?, Array.getElem?_append]
        have h2 : ¬ t < vs.toArray.size := by simp; omega
        rw [if_neg h2, Array.getElem?_replicate]
        split <;> rfl
      rw [this]; exact Rel.vv _
  · rintro e a' w' ⟨p', τ', X', s', f', q⟩
    have key : (∃ c r av X'', resAV td fn.results.toList τ' X' = some (c, r) ∧ c ∧ GS [r] X' [av] X'' ∧ Q av X'') → a'.defers = [] ∧ ∃ v, (results fn a'.tmps).run P w' = .ok v w' ∧ ∃ v_1 p' av X', Ending.returned v = .returned v_1 ∧ Rel p' w' av v_1 ∧ XSim p' X' w' ∧ PBk p' w' ∧ Fr p X w p' X' w' ∧ Q av X' := by
      rintro ⟨c, r, av, X'', h1, h0, h2, h3⟩
      obtain ⟨v, h4, h5⟩ := res_run (P := P) ht s' hres h1 h0
      obtain ⟨p2, b1, b2, b3, b4, b5, b6⟩ := h2 p' w' [v] (RelL.cons h5 RelL.nil) s'.xs s'.pb
      simp only [RelL, List.cons.injEq] at b4
      obtain ⟨_, _, ⟨rfl, rfl⟩, h6, _⟩ := b4
      refine ⟨s'.defers, v, h4, v, p2, av, X'', rfl, h6, b5, b2, ?_, h3⟩
      refine f'.trans ⟨b1, fun _ _ _ => rfl, fun b hb => .inl (b6 b hb), Nat.le_refl _, fun b hb => ?_, Outs.refl _⟩
      rcases b3 b hb with h | h
      · exact .inl h
      · exact .inr (.inl h)
    cases e with
    | normal => exact key q
    | ret => exact key q
    | exit id => exact q.elim
    | goto l => exact q.elim
    | panic ch => exact q.elim
    | outgrown => exact q.elim

/-- What temporaries are told to hold may be told otherwise. -/
theorem AWP_tau {P : Program} {n : Nat} {c : Code} {Q : Post} {τ τ' : Nat → AV} {X : XH} (h : ∀ t, t < n → τ' t = τ t ∨ τ' t = .any) (hw : AWP P n c Q τ' X) : AWP P n c Q τ X := by
  intro p a w s
  refine hw p a w ⟨s.size, fun t ht => ?_, s.defers, s.xs, s.pb⟩
  rcases h t ht with e | e
  · rw [e]; exact s.tmps t ht
  · rw [e]; trivial

def scopeP (Q : Post) : Post
  | .goto _, _, _ => False
  | e, τ, X => Q e τ X
theorem AWP_scope {P : Program} {n : Nat} {c : Code} {Q : Post} {τ : Nat → AV} {X : XH} (h : AWP P n c (scopeP Q) τ X) : AWP P n (.scope c) Q τ X := by
  intro p a w s
  refine wp_scope_straight (wp_mono (h p a w s) ?_)
  rintro e a' w' ⟨p', τ', X', s', f, q⟩
  cases e with
  | goto l => exact q.elim
  | _ => exact ⟨p', τ', X', s', f, q⟩
theorem qsn {Q : Post} {τ : Nat → AV} {X : XH} (h : Q .normal τ X) : scopeP Q .normal τ X := h
theorem qsr {Q : Post} {τ : Nat → AV} {X : XH} (h : Q .ret τ X) : scopeP Q .ret τ X := h
theorem qsx {Q : Post} {τ : Nat → AV} {X : XH} {j : Nat} (h : Q (.exit j) τ X) : scopeP Q (.exit j) τ X := h
section posts
variable {k : (Nat → AV) → XH → Prop} {Q : Post} {τ : Nat → AV} {X : XH} {id j : Nat}
theorem qn (h : k τ X) : thenP k Q .normal τ X := h
theorem qx (h : Q (.exit j) τ X) : thenP k Q (.exit j) τ X := h
theorem qr (h : Q .ret τ X) : thenP k Q .ret τ X := h
theorem qbn (h : Q .normal τ X) : blockP id Q .normal τ X := h
theorem qbr (h : Q .ret τ X) : blockP id Q .ret τ X := h
theorem qbh (h : Q .normal τ X) : blockP id Q (.exit id) τ X := by simp only [blockP, if_true]; exact h
theorem qbm (hne : Nat.beq j id = false) (h : Q (.exit j) τ X) : blockP id Q (.exit j) τ X := by
  have : ¬ j = id := by intro e; subst e; simp at hne
  simp only [blockP, this, if_false]; exact h
end posts

/-- A list of temporaries with what they hold. -/
def agrees (τ : Nat → AV) : List (Nat × AV) → Prop
  | [] => True
  | (t, a) :: l => τ t = a ∧ agrees τ l
def envOf : List (Nat × AV) → Nat → AV
  | [] => fun _ => .any
  | (t, a) :: l => updd (envOf l) (some t) a
theorem agrees_env {τ : Nat → AV} : ∀ {l : List (Nat × AV)}, agrees τ l → ∀ t, envOf l t = τ t ∨ envOf l t = .any
  | [], _, _ => .inr rfl
  | (u, a) :: l, h, t => by
    simp only [envOf, updd]
    by_cases e : t = u
    · subst e; rw [if_pos rfl]; exact .inl h.1.symm
    · rw [if_neg e]; exact agrees_env h.2 t
theorem AWP_env {P : Program} {n : Nat} {c : Code} {Q : Post} {τ : Nat → AV} {X : XH} (l : List (Nat × AV)) (h : agrees τ l) (hw : AWP P n c Q (envOf l) X) : AWP P n c Q τ X :=
  AWP_tau (fun t _ => agrees_env h t) hw
/-- A loop: what is held at a round's head, and a number that goes down. -/
theorem AWP_for {P : Program} {n : Nat} {c : Code} {Q : Post} {τ : Nat → AV} {X : XH} {σ : Type} (E : σ → List (Nat × AV)) (I : σ → XH → Prop) (m : σ → Nat) (s : σ) (h0 : agrees τ (E s) ∧ I s X)
    (round : ∀ s X, I s X → AWP P n c (thenP (fun τ' X' => ∃ s', m s' < m s ∧ agrees τ' (E s') ∧ I s' X') Q) (envOf (E s)) X) : AWP P n (.loop c) Q τ X := by
  refine AWP_loop (fun k τ X => ∃ s, k = m s ∧ agrees τ (E s) ∧ I s X) (m s) ⟨s, rfl, h0⟩ ?_
  rintro _ τ1 X1 ⟨s1, rfl, ha, hI⟩
  refine AWP_env (E s1) ha ((round s1 X1 hI).mono fun e τ2 X2 q => ?_)
  cases e with
  | normal => obtain ⟨s', h1, h2, h3⟩ := q; exact ⟨m s', h1, s', rfl, h2, h3⟩
  | _ => exact q
/-- Ways meet again. -/
theorem AWP_cut {P : Program} {n : Nat} {x y : Code} {Q : Post} {τ : Nat → AV} {X : XH} {σ : Type} (E : σ → List (Nat × AV)) (I : σ → XH → Prop) (hx : AWP P n x (thenP (fun τ' X' => ∃ s, agrees τ' (E s) ∧ I s X') Q) τ X)
    (hy : ∀ s X, I s X → AWP P n y Q (envOf (E s)) X) : AWP P n (.seq x y) Q τ X := by
  refine AWP_seq (hx.mono fun e τ2 X2 q => ?_)
  cases e with
  | normal => obtain ⟨s, h1, h2⟩ := q; exact AWP_env (E s) h1 (hy s X2 h2)
  | _ => exact q

theorem w64 {n : Int} (h : -9223372036854775808 ≤ n ∧ n ≤ 9223372036854775807) : AV.v (.int .i64 (IntKind.i64.wrap n)) = AV.v (.int .i64 n) := by rw [IntWalk.i64_in n h]
/-- One of several. -/
theorem orT {x a b : Bool} (hx : x = true) (h : a = true) : x = (bif a then true else b) := by rw [h, hx]; rfl
theorem orL {a : Bool} : a = (bif a then true else false) := by cases a <;> rfl
theorem orF {x a b : Bool} (h : a = false) (h2 : x = b) : x = (bif a then true else b) := by rw [h]; exact h2
/-- Slices of numbers, as data. -/
def nums (k : IntKind) (xs : List Int) : List AV := xs.map fun x => .v (.int k x)
theorem nums_at (k : IntKind) (xs : List Int) (j : Nat) : cellAt (nums k xs) j [.int k 0] = .v (.int k (xs.getD j 0)) := by
  unfold cellAt nums
  simp only [List.headD_cons, List.getD_eq_getElem?_getD, List.getElem?_map]
  cases xs[j]? <;> rfl
theorem nums_len (k : IntKind) (xs : List Int) : (nums k xs).length = xs.length := by simp [nums]
theorem nums_one (k : IntKind) (xs : List Int) : (nums k xs).all AV.one = true := by
  unfold nums; rw [List.all_map]; simp [AV.one]
theorem nums_cut (k : IntKind) (xs : List Int) (a b : Nat) : ((nums k xs).drop a).take b = nums k ((xs.drop a).take b) := by simp [nums, List.map_take, List.map_drop]
theorem nums_app (k : IntKind) (xs ys : List Int) : nums k xs ++ nums k ys = nums k (xs ++ ys) := by simp [nums]
def strs (xs : List ByteArray) : List AV := xs.map fun x => .v (.string x)
theorem strs_at (xs : List ByteArray) (j : Nat) : cellAt (strs xs) j [.string ⟨#[]⟩] = .v (.string (xs.getD j ⟨#[]⟩)) := by
  unfold cellAt strs
  simp only [List.headD_cons, List.getD_eq_getElem?_getD, List.getElem?_map]
  cases xs[j]? <;> rfl
theorem strs_len (xs : List ByteArray) : (strs xs).length = xs.length := by simp [strs]
theorem strs_one (xs : List ByteArray) : (strs xs).all AV.one = true := by
  unfold strs; rw [List.all_map]; simp [AV.one]
theorem strs_cut (xs : List ByteArray) (a b : Nat) : ((strs xs).drop a).take b = strs ((xs.drop a).take b) := by simp [strs, List.map_take, List.map_drop]

/-- Slices of structs: each element's cells, one behind the other. -/
theorem flat_len {α : Type} (f : α → List AV) (sz : Nat) (hf : ∀ x, (f x).length = sz) : ∀ (xs : List α), (xs.flatMap f).length = xs.length * sz
  | [] => by simp
  | x :: xs => by rw [List.flatMap_cons, List.length_append, hf, flat_len f sz hf xs, List.length_cons, Nat.succ_mul]; omega
theorem flat_drop {α : Type} (f : α → List AV) (sz : Nat) (hf : ∀ x, (f x).length = sz) : ∀ (xs : List α) (j : Nat), (xs.flatMap f).drop (j * sz) = (xs.drop j).flatMap f
  | [], j => by simp
  | x :: xs, 0 => by simp
  | x :: xs, j + 1 => by
    rw [List.flatMap_cons, List.drop_succ_cons, ← flat_drop f sz hf xs j, Nat.succ_mul, Nat.add_comm, ← List.drop_drop, ← hf x, List.drop_left]
theorem flat_take {α : Type} (f : α → List AV) (sz : Nat) (hf : ∀ x, (f x).length = sz) : ∀ (xs : List α) (j : Nat), (xs.flatMap f).take (j * sz) = (xs.take j).flatMap f
  | [], j => by simp
  | x :: xs, 0 => by simp
  | x :: xs, j + 1 => by
    rw [List.flatMap_cons, List.take_succ_cons, List.flatMap_cons, ← flat_take f sz hf xs j, Nat.succ_mul, Nat.add_comm, ← hf x, List.take_length_add_append]
theorem flat_at {α : Type} (f : α → List AV) (d : α) {sz : Nat} (hf : ∀ x, (f x).length = sz) {z : List Value} (hz : f d = z.map .v) (xs : List α) (j : Nat) (h0 : sz ≠ 0) : cellsAt (xs.flatMap f) (j * sz) sz z = f (xs.getD j d) := by
  unfold cellsAt
  rw [flat_len f sz hf, flat_drop f sz hf]
  by_cases h : j < xs.length
  · have : j * sz + sz ≤ xs.length * sz := by rw [← Nat.succ_mul]; exact Nat.mul_le_mul_right _ h
    rw [if_pos this]
    have h1 := flat_take f sz hf (xs.drop j) 1
    rw [Nat.one_mul] at h1
    rw [h1, List.drop_eq_getElem_cons h, List.getD_eq_getElem?_getD, List.getElem?_eq_getElem h]
    simp only [List.take_succ_cons, List.take_zero, List.flatMap_cons, List.flatMap_nil, List.append_nil, Option.getD_some]
  · have : ¬ (j * sz + sz ≤ xs.length * sz) := by
      rw [← Nat.succ_mul]
      intro hle
      have := Nat.le_of_mul_le_mul_right hle (Nat.pos_of_ne_zero h0)
      omega
    rw [if_neg this, List.getD_eq_getElem?_getD, List.getElem?_eq_none (by omega)]
    exact hz.symm
theorem flat_cell {α : Type} (f : α → List AV) (d : α) {sz : Nat} (hf : ∀ x, (f x).length = sz) (xs : List α) (j o : Nat) (ho : o < sz) {z : List Value} (hz : (f d).getD o .any = .v (z.headD undef)) : cellAt (xs.flatMap f) (j * sz + o) z = (f (xs.getD j d)).getD o .any := by
  unfold cellAt
  simp only [List.getD_eq_getElem?_getD]
  rw [← List.getElem?_drop, flat_drop f sz hf]
  by_cases h : j < xs.length
  · rw [List.drop_eq_getElem_cons h, List.flatMap_cons, List.getElem?_append_left (by rw [hf]; exact ho), List.getElem?_eq_getElem h]
    have : o < (f xs[j]).length := by rw [hf]; exact ho
    simp [List.getElem?_eq_getElem this]
  · rw [List.drop_of_length_le (by omega), List.getElem?_eq_none (show xs.length ≤ j by omega)]
    simp only [List.flatMap_nil, List.getElem?_nil, Option.getD_none]
    rw [← hz, List.getD_eq_getElem?_getD]

theorem flat_at_lt {α : Type} (f : α → List AV) (d : α) {sz : Nat} (hf : ∀ x, (f x).length = sz) {z : List Value} (xs : List α) (j : Nat) (h : j < xs.length) : cellsAt (xs.flatMap f) (j * sz) sz z = f (xs.getD j d) := by
  unfold cellsAt
  rw [flat_len f sz hf, flat_drop f sz hf]
  have : j * sz + sz ≤ xs.length * sz := by rw [← Nat.succ_mul]; exact Nat.mul_le_mul_right _ h
  rw [if_pos this]
  have h1 := flat_take f sz hf (xs.drop j) 1
  rw [Nat.one_mul] at h1
  rw [h1, List.drop_eq_getElem_cons h, List.getD_eq_getElem?_getD, List.getElem?_eq_getElem h]
  simp only [List.take_succ_cons, List.take_zero, List.flatMap_cons, List.flatMap_nil, List.append_nil, Option.getD_some]
theorem flat_cell_lt {α : Type} (f : α → List AV) (d : α) {sz : Nat} (hf : ∀ x, (f x).length = sz) (xs : List α) (j o : Nat) (ho : o < sz) {z : List Value} (h : j < xs.length) : cellAt (xs.flatMap f) (j * sz + o) z = (f (xs.getD j d)).getD o .any := by
  unfold cellAt
  simp only [List.getD_eq_getElem?_getD]
  rw [← List.getElem?_drop, flat_drop f sz hf]
  rw [List.drop_eq_getElem_cons h, List.flatMap_cons, List.getElem?_append_left (by rw [hf]; exact ho), List.getElem?_eq_getElem h]
  have : o < (f xs[j]).length := by rw [hf]; exact ho
  simp [List.getElem?_eq_getElem this]

theorem TI.mk_info {P : Program} {t : TypeId} {i : TI} (h : (P.info? t).map (fun f => (f.zero, f.size, f.bytes)) = some (some i.zv, i.size, i.bytes)) (hl : i.zero.length = i.size) (h0 : i.size ≠ 0) : i.info P t := by
  simp only [Option.map_eq_some_iff, Prod.mk.injEq] at h
  obtain ⟨f, h1, h2, h3, h4⟩ := h
  exact ⟨f, h1, h3, h4, h2, hl, h0⟩
def structFields (d : Option TypeDesc) : Option (List (Nat × TypeId)) := match d with | some (.struct l) => some (l.toList.map fun f => (f.offset, f.type)) | _ => none
theorem TI.mk_struct {P : Program} {t : TypeId} {i : TI} {fs : List (Nat × TypeId)} (hd : i.d = .struct fs) (hu : structFields (P.underlying t) = some fs) (h : (P.info? t).map (fun f => (f.zero, f.size, f.bytes)) = some (some i.zv, i.size, i.bytes)) (hl : i.zero.length = i.size) (h0 : i.size ≠ 0) : i.ok P t := by
  unfold TI.ok
  rw [hd]
  refine ⟨?_, TI.mk_info h hl h0⟩
  unfold structFields at hu
  split at hu
  · rename_i l e; exact ⟨l, e, by simpa using hu⟩
  · exact absurd hu (by simp)

end Go.Proofs.YtgnfjahkhhkmoaaDoor.V
