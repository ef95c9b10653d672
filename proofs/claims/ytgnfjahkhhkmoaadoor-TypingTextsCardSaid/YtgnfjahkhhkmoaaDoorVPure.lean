/- More operations that only compute: cuts of strings and slices, lengths, conversions, structs that are built. -/
import Derived.Test.YtgnfjahkhhkmoaaDoorVOps
namespace Go.Proofs.YtgnfjahkhhkmoaaDoor.V
open Go
set_option linter.unusedVariables false
set_option linter.unusedSimpArgs false

/-- A bound that may be missing. -/
def bnd : Option AV → Option (Option Int)
  | none => some none
  | some (.v (.int _ m)) => some (some m)
  | _ => none
def bndOk (p : PB) (w : World) : Option AV → Option Value → Prop
  | none, none => True
  | some a, some v => Rel p w a v
  | _, _ => False

theorem bnd_none {p : PB} {w : World} {a : Option AV} {v : Option Value} (h : bndOk p w a v) (hb : bnd a = some none) : v = none := by
  unfold bnd at hb
  split at hb
  · cases v <;> simp_all [bndOk]
  · simp at hb
  · simp at hb
theorem bnd_some {p : PB} {w : World} {a : Option AV} {v : Option Value} (h : bndOk p w a v) {m : Int} (hb : bnd a = some (some m)) : ∃ k, v = some (.int k m) := by
  unfold bnd at hb
  split at hb
  · simp at hb
  · rename_i k m'
    simp only [Option.some.injEq] at hb; subst hb
    cases v with
    | none => simp [bndOk] at h
    | some v => simp only [bndOk, Rel] at h; subst h; exact ⟨k, rfl⟩
  · simp at hb

def nd (d : Nat) : Option Int → Nat
  | none => d
  | some m => m.toNat
/-- A cut: of a string, of a slice that nobody writes, of a slice of one's own. -/
def pSlice (td : Tab) (t : TypeId) (x : AV) (lo hi mx : Option AV) : Option (Prop × AV) :=
  match bnd lo, bnd hi, bnd mx with
  | some lo, some hi, some mx =>
    let l := (lo.getD 0).toNat
    let lok : Prop := match lo with | none => True | some m => 0 ≤ m
    match (td t).d, x with
    | .str, .v (.string s) =>
      match mx with
      | none =>
        let h := nd s.size hi
        let hok : Prop := match hi with | none => True | some m => 0 ≤ m ∧ m.toNat ≤ s.size
        some (lok ∧ hok ∧ l ≤ h, .v (.string (s.extract l h)))
      | some _ => none
    | .slice e, .sl tt n cs =>
      if (td e).d.known then
        let sz := (td e).size
        let h := match hi with | none => n | some m => m.toNat
        match hi, mx with
        | none, some _ => none
        | none, none => some (lok ∧ l ≤ n, .sl tt (n - l) ((cs.drop (l * sz)).take ((n - l) * sz)))
        | some hv, none => some (lok ∧ 0 ≤ hv ∧ h ≤ n ∧ l ≤ h, .sl false (h - l) ((cs.drop (l * sz)).take ((h - l) * sz)))
        | some hv, some mv => some (lok ∧ 0 ≤ hv ∧ 0 ≤ mv ∧ mv.toNat ≤ n ∧ h ≤ mv.toNat ∧ l ≤ h, .sl (decide (mv = hv)) (h - l) ((cs.drop (l * sz)).take ((h - l) * sz)))
      else none
    | .slice e, .v (.slice (some ⟨b, o, none⟩) n c) =>
      if (td e).d.known then
        let sz := (td e).size
        match hi, mx with
        | none, some _ => none
        | none, none => some (lok ∧ l ≤ n ∧ (l < c ∨ l = 0), .v (.slice (some ⟨b, o + l * sz, none⟩) (n - l) (c - l)))
        | some hv, none => some (lok ∧ 0 ≤ hv ∧ hv.toNat ≤ c ∧ l ≤ hv.toNat ∧ (l < c ∨ l = 0), .v (.slice (some ⟨b, o + l * sz, none⟩) (hv.toNat - l) (c - l)))
        | some hv, some mv => some (lok ∧ 0 ≤ hv ∧ 0 ≤ mv ∧ mv.toNat ≤ c ∧ hv.toNat ≤ mv.toNat ∧ l ≤ hv.toNat ∧ (l < mv.toNat ∨ l = 0), .v (.slice (some ⟨b, o + l * sz, none⟩) (hv.toNat - l) (mv.toNat - l)))
      else none
    | _, _ => none
  | _, _, _ => none

theorem run_sliceBound {P : Program} {w : World} {k : IntKind} {m : Int} {y : Nat} {code : BoundsCode} (h0 : 0 ≤ m) (h : m.toNat ≤ y) : (Instr.sliceBound (.int k m) y code).run P w = .ok m.toNat w := by
  have : m ≤ (y : Int) := by omega
  simp [Instr.sliceBound, asIntOf, h0, this]

theorem run_sliceBounds {P : Program} {w : World} {isS : Bool} {len cap : Nat} {low high max : Option Value} {lo hi mx : Option Int}
    (hl : low = none ∧ lo = none ∨ ∃ k m, low = some (.int k m) ∧ lo = some m) (hh : high = none ∧ hi = none ∨ ∃ k m, high = some (.int k m) ∧ hi = some m) (hm : max = none ∧ mx = none ∨ ∃ k m, max = some (.int k m) ∧ mx = some m)
    (hhm : hi = none → mx = none) (lok : ∀ m, lo = some m → 0 ≤ m) (hok : ∀ m, hi = some m → 0 ≤ m) (mok : ∀ m, mx = some m → 0 ≤ m ∧ m.toNat ≤ cap)
    (h1 : ∀ m, hi = some m → m.toNat ≤ nd cap mx) (h2 : (lo.getD 0).toNat ≤ nd len hi) :
    (Instr.sliceBounds isS len cap low high max).run P w = .ok ((lo.getD 0).toNat, nd len hi, nd cap mx) w := by
  unfold Instr.sliceBounds
  rcases hm with ⟨rfl, rfl⟩ | ⟨k, m, rfl, rfl⟩
  · rcases hh with ⟨rfl, rfl⟩ | ⟨k2, m2, rfl, rfl⟩
    · rcases hl with ⟨rfl, rfl⟩ | ⟨k3, m3, rfl, rfl⟩
      · simp [nd]
      · have e2 := run_sliceBound (P := P) (w := w) (k := k3) (code := .sliceB) (lok m3 rfl) (show m3.toNat ≤ len from h2)
        simp [nd, e2]
    · have e1 := run_sliceBound (P := P) (w := w) (k := k2) (code := if isS then .sliceAcap else .sliceAlen) (hok m2 rfl) (show m2.toNat ≤ cap from h1 m2 rfl)
      rcases hl with ⟨rfl, rfl⟩ | ⟨k3, m3, rfl, rfl⟩
      · simp [e1, nd]
      · have e2 := run_sliceBound (P := P) (w := w) (k := k3) (code := .sliceB) (lok m3 rfl) (show m3.toNat ≤ m2.toNat from h2)
        simp [e1, nd, e2]
  · rcases hh with ⟨rfl, rfl⟩ | ⟨k2, m2, rfl, rfl⟩
    · exact absurd (hhm rfl) (by simp)
    · have e0 := run_sliceBound (P := P) (w := w) (k := k) (code := if isS then .slice3Acap else .slice3Alen) (mok m rfl).1 (mok m rfl).2
      have e1 := run_sliceBound (P := P) (w := w) (k := k2) (code := .slice3B) (hok m2 rfl) (show m2.toNat ≤ m.toNat from h1 m2 rfl)
      rcases hl with ⟨rfl, rfl⟩ | ⟨k3, m3, rfl, rfl⟩
      · simp [e0, e1, nd]
      · have e2 := run_sliceBound (P := P) (w := w) (k := k3) (code := .slice3C) (lok m3 rfl) (show m3.toNat ≤ m2.toNat from h2)
        simp [e0, e1, nd, e2]

theorem bnd_cases {p : PB} {w : World} {a : Option AV} {v : Option Value} (h : bndOk p w a v) {m : Option Int} (hb : bnd a = some m) : v = none ∧ m = none ∨ ∃ k i, v = some (.int k i) ∧ m = some i := by
  cases m with
  | none => exact .inl ⟨bnd_none h hb, rfl⟩
  | some i => obtain ⟨k, hk⟩ := bnd_some h hb; exact .inr ⟨k, i, hk, rfl⟩

theorem Rel.sl_cut {p : PB} {w : World} {tt tt' : Bool} {n : Nat} {cs : List AV} {A : Option Addr} {c l h m sz : Nat} (hx : Rel p w (.sl tt n cs) (.slice A n c)) (h1 : l ≤ h) (h2 : h ≤ m) (h3 : tt' = true → m = h) :
    Rel p w (.sl tt' (h - l) ((cs.drop (l * sz)).take ((h - l) * sz))) (.slice (if m = l then A else A.map (·.add (l * sz))) (h - l) (m - l)) := by
  simp only [Rel] at hx ⊢
  obtain ⟨A', c', e, h5, h6, h7⟩ := hx
  simp only [Value.slice.injEq] at e
  obtain ⟨rfl, -, rfl⟩ := e
  refine ⟨_, _, rfl, by omega, fun e => by rw [h3 e], ?_⟩
  by_cases hz : h = l
  · subst hz; exact .inl (by simp)
  · rcases h7 with h7 | ⟨b, off, ys, rfl, hb, hc, hl⟩
    · subst h7; exact .inl (by simp)
    · refine .inr ⟨b, off + l * sz, (ys.drop (l * sz)).take ((h - l) * sz), ?_, hb, ?_, RelL.take _ (RelL.drop _ hl)⟩
      · rw [if_neg (by omega)]; simp [Addr.add_mk]
      · intro j y hj
        rw [Nat.add_assoc]
        refine hc _ _ ?_
        rw [List.getElem?_take] at hj
        split at hj
        · simpa [List.getElem?_drop] using hj
        · exact absurd hj (by simp)

theorem pSlice_sound {P : Program} {td : Tab} (ht : td.ok P) {t : TypeId} {x : AV} {lo hi mx : Option AV} {c : Prop} {r : AV} (h : pSlice td t x lo hi mx = some (c, r)) (hc : c) {p : PB} {w : World} {u : Value} {low high max : Option Value}
    (hx : Rel p w x u) (hlo : bndOk p w lo low) (hhi : bndOk p w hi high) (hmx : bndOk p w mx max) : ∃ z, (Instr.sliceAt t u low high max).run P w = .ok z w ∧ Rel p w r z := by
  unfold pSlice at h
  split at h
  case h_2 => exact absurd h (by simp)
  rename_i lov hiv mxv elo ehi emx
  have clo := bnd_cases hlo elo
  have chi := bnd_cases hhi ehi
  have cmx := bnd_cases hmx emx
  clear hlo hhi hmx elo ehi emx
  simp only [] at h
  split at h
  · rename_i s hd
    split at h
    case h_2 => exact absurd h (by simp)
    simp only [Option.some.injEq, Prod.mk.injEq] at h
    obtain ⟨rfl, rfl⟩ := h
    obtain ⟨h1, h2, h3⟩ := hc
    simp only [Rel] at hx
    subst hx
    have hr := run_sliceBounds (P := P) (w := w) (isS := false) (len := s.size) (cap := s.size) clo chi (.inl ⟨rfl, rfl⟩ : (none : Option Value) = none ∧ (none : Option Int) = none ∨ _) (fun _ => rfl)
      (fun m e => by subst e; simpa using h1) (fun m e => by subst e; simp at h2; exact h2.1) (fun m e => by simp at e) (fun m e => by subst e; exact h2.2) h3
    obtain ⟨rfl, -⟩ | ⟨k, m, -, e⟩ := cmx
    · refine ⟨_, ?_, Rel.vv _⟩
      simp [Instr.sliceAt, Instr.slice, Tab.und_str ht hd, hr]
    · simp at e
  · rename_i e tt n cs hd
    split at h
    case isFalse => exact absurd h (by simp)
    rename_i hk
    have hx' := hx
    simp only [Rel] at hx'
    obtain ⟨A, c', rfl, h7, h8, _⟩ := hx'
    have hu := Tab.und_slice ht (w := w) hd
    have hz := Tab.run_sizeOf ht (w := w) (TD.ne_of_known hk)
    split at h
    · exact absurd h (by simp)
    · simp only [Option.some.injEq, Prod.mk.injEq] at h
      obtain ⟨rfl, rfl⟩ := h
      obtain ⟨h1, h2⟩ := hc
      have hr := run_sliceBounds (P := P) (w := w) (isS := true) (len := n) (cap := c') clo chi cmx (fun _ => rfl) (fun m e => by subst e; simpa using h1) (fun m e => by simp at e) (fun m e => by simp at e) (fun m e => by simp at e) h2
      refine ⟨_, by simp [Instr.sliceAt, Instr.slice, hu, hr, hz]; rfl, ?_⟩
      exact Rel.sl_cut hx h2 h7 (fun e => h8 e)
    · rename_i hv
      simp only [Option.some.injEq, Prod.mk.injEq] at h
      obtain ⟨rfl, rfl⟩ := h
      obtain ⟨h1, h2, h3, h4⟩ := hc
      have hr := run_sliceBounds (P := P) (w := w) (isS := true) (len := n) (cap := c') clo chi cmx (fun e => by simp at e) (fun m e => by subst e; simpa using h1) (fun m e => by simp at e; omega) (fun m e => by simp at e) (fun m e => by cases e; show hv.toNat ≤ c'; omega) h4
      refine ⟨_, by simp [Instr.sliceAt, Instr.slice, hu, hr, hz]; rfl, ?_⟩
      exact Rel.sl_cut hx h4 (show hv.toNat ≤ c' by omega) (fun e => by simp at e)
    · rename_i hv mv
      simp only [Option.some.injEq, Prod.mk.injEq] at h
      obtain ⟨rfl, rfl⟩ := h
      obtain ⟨h1, h2, h3, h4, h5, h6⟩ := hc
      have hr := run_sliceBounds (P := P) (w := w) (isS := true) (len := n) (cap := c') clo chi cmx (fun e => by simp at e) (fun m e => by subst e; simpa using h1) (fun m e => by simp at e; omega) (fun m e => by simp at e; subst e; exact ⟨h3, by omega⟩) (fun m e => by cases e; show hv.toNat ≤ mv.toNat; omega) h6
      refine ⟨_, by simp [Instr.sliceAt, Instr.slice, hu, hr, hz]; rfl, ?_⟩
      exact Rel.sl_cut hx h6 h5 (fun e => by simp at e; rw [e]; rfl)
  · rename_i e b o n c' hd
    split at h
    case isFalse => exact absurd h (by simp)
    rename_i hk
    simp only [Rel] at hx
    subst hx
    have hu := Tab.und_slice ht (w := w) hd
    have hz := Tab.run_sizeOf ht (w := w) (TD.ne_of_known hk)
    split at h
    · exact absurd h (by simp)
    · simp only [Option.some.injEq, Prod.mk.injEq] at h
      obtain ⟨rfl, rfl⟩ := h
      obtain ⟨h1, h2, h3⟩ := hc
      have hr := run_sliceBounds (P := P) (w := w) (isS := true) (len := n) (cap := c') clo chi cmx (fun _ => rfl) (fun m e => by subst e; simpa using h1) (fun m e => by simp at e) (fun m e => by simp at e) (fun m e => by simp at e) h2
      refine ⟨_, by simp [Instr.sliceAt, Instr.slice, hu, hr, hz]; rfl, ?_⟩
      simp only [Rel, Value.slice.injEq, and_true]
      split
      · rename_i hh
        have : (lov.getD 0).toNat = 0 := by simp only [nd] at hh; omega
        simp [this, nd]
      · simp [Addr.add_mk, nd]
    · rename_i hv
      simp only [Option.some.injEq, Prod.mk.injEq] at h
      obtain ⟨rfl, rfl⟩ := h
      obtain ⟨h1, h2, h3, h4, h5⟩ := hc
      have hr := run_sliceBounds (P := P) (w := w) (isS := true) (len := n) (cap := c') clo chi cmx (fun e => by simp at e) (fun m e => by subst e; simpa using h1) (fun m e => by simp at e; omega) (fun m e => by simp at e) (fun m e => by cases e; show hv.toNat ≤ c'; omega) h4
      refine ⟨_, by simp [Instr.sliceAt, Instr.slice, hu, hr, hz]; rfl, ?_⟩
      simp only [Rel, Value.slice.injEq, and_true]
      split
      · rename_i hh
        have : (lov.getD 0).toNat = 0 := by simp only [nd] at hh; omega
        simp [this, nd]
      · simp [Addr.add_mk, nd]
    · rename_i hv mv
      simp only [Option.some.injEq, Prod.mk.injEq] at h
      obtain ⟨rfl, rfl⟩ := h
      obtain ⟨h1, h2, h3, h4, h5, h6, h7⟩ := hc
      have hr := run_sliceBounds (P := P) (w := w) (isS := true) (len := n) (cap := c') clo chi cmx (fun e => by simp at e) (fun m e => by subst e; simpa using h1) (fun m e => by simp at e; omega) (fun m e => by simp at e; subst e; exact ⟨h3, by omega⟩) (fun m e => by cases e; show hv.toNat ≤ mv.toNat; omega) h6
      refine ⟨_, by simp [Instr.sliceAt, Instr.slice, hu, hr, hz]; rfl, ?_⟩
      simp only [Rel, Value.slice.injEq, and_true]
      split
      · rename_i hh
        have : (lov.getD 0).toNat = 0 := by simp only [nd] at hh; omega
        simp [this, nd]
      · simp [Addr.add_mk, nd]
  · exact absurd h (by simp)

end Go.Proofs.YtgnfjahkhhkmoaaDoor.V
