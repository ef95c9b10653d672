/- A region whose order the machine draws: operations that only yield data, in whatever order; behind them, in the text's order, what waits for all of them. -/
import Derived.Test.YtgnfjahkhhkmoaaDoorVReg
namespace Go.Proofs.YtgnfjahkhhkmoaaDoor.V
open Go
set_option linter.unusedVariables false
set_option linter.unusedSimpArgs false

def dstOf (ops : Array Oper) (i : Nat) : Option Nat := (ops[i]?).bind (·.dst)
def readsOf (ops : Array Oper) (i : Nat) : List Nat :=
  match ops[i]? with
  | none => []
  | some o => (o.op.operands.toList.filterMap fun | .tmp t => some t | _ => none) ++ (match o.guard with | some (j, _) => (dstOf ops j).toList | none => [])
def edgesOf (ops : Array Oper) (i : Nat) : List Nat :=
  match ops[i]? with
  | none => []
  | some o => (o.after.toList.filter (Region.binds .any)).map (·.on)
/-- What comes before an operation, whatever the order: through its edges. -/
def clo (ops : Array Oper) : List (List Nat) :=
  (List.range ops.size).foldl (fun B i => B ++ [(List.range i).filter fun x => (edgesOf ops i).any fun e => Nat.beq e x || (B.getD e []).contains x]) []
def bef (B : List (List Nat)) (i : Nat) : List Nat := B.getD i []
def parOk (ops : Array Oper) (m : Nat) (B : List (List Nat)) : Bool :=
  ((List.range ops.size).all fun j => (bef B j).all fun x => (edgesOf ops j).any fun e => e == x || (bef B e).contains x) &&
  ((List.range m).all fun i => (List.range m).all fun j => i == j || dstOf ops i == none || dstOf ops i != dstOf ops j) &&
  ((List.range m).all fun i => (readsOf ops i).all fun t => (List.range m).all fun j => dstOf ops j != some t || (if j < i then (bef B i).contains j else i == j || (bef B j).contains i)) &&
  ((List.range ops.size).all fun j => j < m || (List.range j).all fun i => (bef B j).contains i) &&
  ((List.range ops.size).all fun j => (edgesOf ops j).all fun e => decide (e < j)) && decide (m ≤ ops.size)

structure ParOk (ops : Array Oper) (m : Nat) (B : List (List Nat)) : Prop where
  clo : ∀ j, j < ops.size → ∀ x ∈ bef B j, ∃ e ∈ edgesOf ops j, e = x ∨ x ∈ bef B e
  dst : ∀ i j t, i < m → j < m → dstOf ops i = some t → dstOf ops j = some t → i = j
  raw : ∀ i j t, i < m → j < m → t ∈ readsOf ops i → dstOf ops j = some t → j < i → j ∈ bef B i
  war : ∀ i j t, i < m → j < m → t ∈ readsOf ops i → dstOf ops j = some t → i < j → i ∈ bef B j
  suf : ∀ j, m ≤ j → j < ops.size → ∀ i, i < j → i ∈ bef B j
  edge : ∀ j, j < ops.size → ∀ e ∈ edgesOf ops j, e < j
  le : m ≤ ops.size

theorem parOk_spec {ops : Array Oper} {m : Nat} {B : List (List Nat)} (h : parOk ops m B = true) : ParOk ops m B := by
  unfold parOk at h
  simp only [Bool.and_eq_true, List.all_eq_true, List.mem_range, List.any_eq_true, Bool.or_eq_true, beq_iff_eq, decide_eq_true_eq, List.contains_iff_mem, bne_iff_ne, ne_eq] at h
  obtain ⟨⟨⟨⟨⟨h1, h2⟩, h3⟩, h4⟩, h6⟩, h5⟩ := h
  refine ⟨h1, fun i j t hi hj ei ej => ?_, fun i j t hi hj ht ej hlt => ?_, fun i j t hi hj ht ej hlt => ?_, fun j hj hjs i hi => ?_, h6, h5⟩
  · rcases h2 i hi j hj with (h | h) | h
    · exact h
    · rw [ei] at h; exact absurd h (by simp)
    · rw [ei, ej] at h; exact absurd rfl h
  · rcases h3 i hi t ht j hj with h | h
    · exact absurd ej h
    · rw [if_pos hlt] at h; simpa using h
  · rcases h3 i hi t ht j hj with h | h
    · exact absurd ej h
    · rw [if_neg (by omega)] at h
      simp only [Bool.or_eq_true, beq_iff_eq, List.contains_iff_mem] at h
      rcases h with h | h
      · omega
      · exact h
  · rcases h4 j hjs with h | h
    · omega
    · exact h i hi

/-- The steps of the first part, told in the text's order. -/
def ESteps (P : Program) (ops : Array Oper) (X : XH) : List Nat → (Nat → AV) → ((Nat → AV) → Prop) → Prop
  | [], τ, k => k τ
  | i :: l, τ, k => ∃ o r, ops[i]? = some o ∧ EStep P ops o τ X r ∧ ESteps P ops X l (updd τ o.dst r) k

def tauAt (ops : Array Oper) (τ : Nat → AV) (rs : Nat → AV) : Nat → Nat → AV
  | 0 => τ
  | i + 1 => updd (tauAt ops τ rs i) (dstOf ops i) (rs i)

theorem ESteps.out {P : Program} {ops : Array Oper} {X : XH} {τ : Nat → AV} {k : (Nat → AV) → Prop} : ∀ (m : Nat) , ESteps P ops X (List.range m) τ k →
    ∃ rs : Nat → AV, (∀ i, i < m → ∃ o, ops[i]? = some o ∧ EStep P ops o (tauAt ops τ rs i) X (rs i)) ∧ k (tauAt ops τ rs m) := by
  have : ∀ (m s : Nat) (rs0 : Nat → AV), ESteps P ops X (List.range' s m) (tauAt ops τ rs0 s) k →
      ∃ rs : Nat → AV, (∀ i, i < s → rs i = rs0 i) ∧ (∀ i, s ≤ i → i < s + m → ∃ o, ops[i]? = some o ∧ EStep P ops o (tauAt ops τ rs i) X (rs i)) ∧ k (tauAt ops τ rs (s + m)) := by
    intro m
    induction m with
    | zero => intro s rs0 h; exact ⟨rs0, fun _ _ => rfl, fun i h1 h2 => by omega, h⟩
    | succ m ih =>
      intro s rs0 h
      rw [List.range'_succ] at h
      simp only [ESteps] at h
      obtain ⟨o, r, ho, he, h⟩ := h
      let rs1 : Nat → AV := fun i => if i = s then r else rs0 i
      have hsame : ∀ (q : Nat) (ra rb : Nat → AV), (∀ i, i < q → ra i = rb i) → tauAt ops τ ra q = tauAt ops τ rb q := by
        intro q
        induction q with
        | zero => intro ra rb _; rfl
        | succ q ihq => intro ra rb hab; simp only [tauAt]; rw [ihq ra rb (fun i hi => hab i (by omega)), hab q (by omega)]
      have h1 : tauAt ops τ rs1 (s + 1) = updd (tauAt ops τ rs0 s) o.dst r := by
        simp only [tauAt]
        rw [hsame s rs1 rs0 (fun i hi => by simp only [rs1]; rw [if_neg (by omega)])]
        simp [rs1, dstOf, ho]
      rw [← h1] at h
      obtain ⟨rs, e1, e2, e3⟩ := ih (s + 1) rs1 h
      have hrs : ∀ i, i < s → rs i = rs0 i := fun i hi => by rw [e1 i (by omega)]; simp only [rs1]; rw [if_neg (by omega)]
      refine ⟨rs, hrs, fun i h2 h3 => ?_, by rw [show s + (m + 1) = s + 1 + m from by omega]; exact e3⟩
      by_cases hi : i = s
      · subst hi
        refine ⟨o, ho, ?_⟩
        rw [hsame i rs rs0 hrs, e1 i (by omega)]
        simp only [rs1, if_true]; exact he
      · exact e2 i (by omega) (by omega)
  intro m h
  obtain ⟨rs, _, h2, h3⟩ := this m 0 (fun _ => .any) (by rw [← List.range_eq_range']; exact h)
  exact ⟨rs, fun i hi => h2 i (by omega) (by omega), by simpa using h3⟩

/-- What a temporary is told to hold when the operations of S have run. -/
def cur (ops : Array Oper) (m : Nat) (τ rs : Nat → AV) (S : Nat → Bool) (t : Nat) : AV :=
  match (List.range m).find? fun i => S i && (dstOf ops i == some t) with
  | some i => rs i
  | none => τ t

theorem cur_of {ops : Array Oper} {m : Nat} {B : List (List Nat)} (hk : ParOk ops m B) {τ rs : Nat → AV} {S : Nat → Bool} {i t : Nat} (hi : i < m) (hS : S i = true) (hd : dstOf ops i = some t) : cur ops m τ rs S t = rs i := by
  unfold cur
  cases e : (List.range m).find? fun i => S i && (dstOf ops i == some t) with
  | none =>
    have := List.find?_eq_none.mp e i (List.mem_range.mpr hi)
    simp [hS, hd] at this
  | some j =>
    have h1 := List.find?_some e
    have h2 := List.mem_of_find?_eq_some e
    simp only [Bool.and_eq_true, beq_iff_eq] at h1
    have := hk.dst j i t (List.mem_range.mp h2) hi h1.2 hd
    subst this; rfl
theorem cur_none {ops : Array Oper} {m : Nat} {τ rs : Nat → AV} {S : Nat → Bool} {t : Nat} (h : ∀ i, i < m → S i = true → dstOf ops i ≠ some t) : cur ops m τ rs S t = τ t := by
  unfold cur
  cases e : (List.range m).find? fun i => S i && (dstOf ops i == some t) with
  | none => rfl
  | some j =>
    have h1 := List.find?_some e
    have h2 := List.mem_of_find?_eq_some e
    simp only [Bool.and_eq_true, beq_iff_eq] at h1
    exact absurd h1.2 (h j (List.mem_range.mp h2) h1.1)
theorem tauAt_of {ops : Array Oper} {m : Nat} {B : List (List Nat)} (hk : ParOk ops m B) {τ rs : Nat → AV} : ∀ (q i t : Nat), q ≤ m → i < q → dstOf ops i = some t → tauAt ops τ rs q t = rs i := by
  intro q
  induction q with
  | zero => intro i t _ h; omega
  | succ q ih =>
    intro i t hq hi hd
    simp only [tauAt]
    by_cases e : i = q
    · subst e; rw [hd]; simp [updd]
    · have := ih i t (by omega) (by omega) hd
      cases hdq : dstOf ops q with
      | none => exact this
      | some u =>
        have hne : ¬ t = u := by
          intro e2; subst e2
          exact e (hk.dst i q t (by omega) (by omega) hd hdq)
        simp only [updd]; rw [if_neg hne]; exact this
theorem tauAt_none {ops : Array Oper} {τ rs : Nat → AV} : ∀ (q t : Nat), (∀ i, i < q → dstOf ops i ≠ some t) → tauAt ops τ rs q t = τ t := by
  intro q
  induction q with
  | zero => intro t _; rfl
  | succ q ih =>
    intro t h
    simp only [tauAt]
    have := ih t (fun i hi => h i (by omega))
    cases hdq : dstOf ops q with
    | none => exact this
    | some u =>
      have hne : ¬ t = u := by intro e; subst e; exact h q (by omega) hdq
      simp only [updd]; rw [if_neg hne]; exact this

/-- At a step that may run, its operands are told as in the text's order. -/
theorem cur_reads {ops : Array Oper} {m : Nat} {B : List (List Nat)} (hk : ParOk ops m B) {τ rs : Nat → AV} {S : Nat → Bool} {i t : Nat} (hi : i < m) (ht : t ∈ readsOf ops i) (hSi : S i = false) (hSm : ∀ j, S j = true → j < m)
    (hcl : ∀ j, S j = true → ∀ x ∈ bef B j, S x = true) (hb : ∀ x ∈ bef B i, S x = true) : cur ops m τ rs S t = tauAt ops τ rs i t := by
  by_cases h : ∃ j, j < i ∧ dstOf ops j = some t
  · obtain ⟨j, hj, hd⟩ := h
    have hjS := hb j (hk.raw i j t hi (by omega) ht hd hj)
    rw [cur_of hk (by omega) hjS hd, tauAt_of hk i j t (by omega) hj hd]
  · rw [tauAt_none i t (fun j hj hd => h ⟨j, hj, hd⟩), cur_none]
    intro j hj hjS hd
    by_cases hlt : j < i
    · exact h ⟨j, hlt, hd⟩
    · by_cases he : j = i
      · subst he; rw [hSi] at hjS; exact absurd hjS (by simp)
      · have := hcl j hjS i (hk.war i j t hi hj ht hd (by omega))
        rw [hSi] at this; exact absurd this (by simp)

def asSet (l : Array Bool) (i : Nat) : Bool := l.getD i false

theorem ready_spec {ops : Array Oper} {B : List (List Nat)} {m : Nat} (hk : ParOk ops m B) {l : Array Bool} (hl : l.size = ops.size) {i : Nat} (h : i ∈ Region.ready .any ops l) (hcl : ∀ j, asSet l j = true → ∀ x ∈ bef B j, asSet l x = true) :
    i < ops.size ∧ asSet l i = false ∧ ∀ x ∈ bef B i, asSet l x = true := by
  unfold Region.ready at h
  simp only [List.mem_filter, List.mem_range, Bool.and_eq_true, Bool.not_eq_true'] at h
  obtain ⟨h1, h2, h3⟩ := h
  refine ⟨h1, ?_, fun x hx => ?_⟩
  · unfold asSet
    have : l.getD i true = l.getD i false := by simp [Array.getD_eq_getD_getElem?, hl, h1]
    rw [← this]; exact h2
  · obtain ⟨e, he, h4⟩ := hk.clo i h1 x hx
    have hS : asSet l e = true := by
      have ho : ops[i]? = some ops[i] := Array.getElem?_eq_getElem h1
      rw [ho] at h3
      simp only [Option.map_some, Option.getD_some] at h3
      unfold edgesOf at he
      rw [ho] at he
      simp only [List.mem_map, List.mem_filter] at he
      obtain ⟨ed, ⟨hm, hb⟩, rfl⟩ := he
      have := Array.all_eq_true_iff_forall_mem.mp h3 ed (by simpa using hm)
      simp only [hb, Bool.not_true, Bool.false_or] at this
      exact this
    rcases h4 with rfl | h4
    · exact hS
    · exact hcl e hS x h4

theorem asSet_set {l : Array Bool} {n : Nat} (hl : l.size = n) {i : Nat} (hi : i < n) (j : Nat) : asSet (l.setIfInBounds i true) j = if j = i then true else asSet l j := by
  unfold asSet
  simp only [Array.getD_eq_getD_getElem?, Array.getElem?_setIfInBounds]
  by_cases h : i = j
  · subst h; simp [hl, hi]
  · have h' : ¬ j = i := fun e => h e.symm
    simp [h, h']

theorem ready_self {ops : Array Oper} {l : Array Bool} {m : Nat} {B : List (List Nat)} (hk : ParOk ops m B) (hl : l.size = ops.size) {j : Nat} (hj : m ≤ j) (hl2 : ∀ i, asSet l i = true ↔ i < j) (hcl : ∀ j, asSet l j = true → ∀ x ∈ bef B j, asSet l x = true)
    {i : Nat} (h : i ∈ Region.ready .any ops l) : i = j := by
  obtain ⟨h1, h2, h3⟩ := ready_spec hk hl h hcl
  have h4 : ¬ i < j := fun h => by rw [(hl2 i).mpr h] at h2; exact absurd h2 (by simp)
  by_cases e : i = j
  · exact e
  · have := h3 j (hk.suf i (by omega) h1 j (by omega))
    exact absurd ((hl2 j).mp this) (by omega)

theorem ready_of {ops : Array Oper} {l : Array Bool} {m : Nat} {B : List (List Nat)} (hk : ParOk ops m B) (hl : l.size = ops.size) {j : Nat} (hj : j < ops.size) (h0 : asSet l j = false) (hS : ∀ i, i < j → asSet l i = true) : j ∈ Region.ready .any ops l := by
  unfold Region.ready
  simp only [List.mem_filter, List.mem_range, Bool.and_eq_true, Bool.not_eq_true']
  refine ⟨hj, ?_, ?_⟩
  · unfold asSet at h0
    simp only [Array.getD_eq_getD_getElem?] at h0 ⊢
    rw [Array.getElem?_eq_getElem (by omega)] at h0 ⊢
    exact h0
  · have ho : ops[j]? = some ops[j] := Array.getElem?_eq_getElem hj
    rw [ho]
    simp only [Option.map_some, Option.getD_some]
    refine Array.all_eq_true_iff_forall_mem.mpr fun ed hed => ?_
    cases hb : Region.binds .any ed with
    | false => simp
    | true =>
      have he : ed.on ∈ edgesOf ops j := by
        unfold edgesOf
        rw [ho]
        exact List.mem_map.mpr ⟨ed, List.mem_filter.mpr ⟨by simpa using hed, hb⟩, rfl⟩
      have := hS _ (hk.edge j hj _ he)
      unfold asSet at this
      simp [this]

theorem closed_set {l : Array Bool} {n : Nat} {B : List (List Nat)} (hl : l.size = n) {i : Nat} (hi : i < n) (hcl : ∀ j, asSet l j = true → ∀ x ∈ bef B j, asSet l x = true) (hb : ∀ x ∈ bef B i, asSet l x = true) :
    ∀ j, asSet (l.setIfInBounds i true) j = true → ∀ x ∈ bef B j, asSet (l.setIfInBounds i true) x = true := by
  intro j hj x hx
  rw [asSet_set hl hi] at hj ⊢
  split
  · rfl
  · split at hj
    · rename_i e; subst e; exact hb x hx
    · exact hcl j hj x hx

/-- The second part: one at a time. -/
theorem second {P : Program} {ops : Array Oper} {m : Nat} {B : List (List Nat)} (hk : ParOk ops m B) {Q : Exit → Act → World → Prop} : ∀ (fuel j : Nat) (l : Array Bool) (a : Act) (w : World), m ≤ j → j + fuel = ops.size → l.size = ops.size → (∀ i, asSet l i = true ↔ i < j) →
    (∀ j, asSet l j = true → ∀ x ∈ bef B j, asSet l x = true) → wpOps P ops Q (List.range' j fuel) a w → wpAny P .any ops Q fuel l a w := by
  intro fuel
  induction fuel with
  | zero =>
    intro j l a w hj hs hl hS hcl h
    refine ⟨?_, by simpa [wpOps] using h⟩
    cases e : Region.ready .any ops l with
    | nil => rfl
    | cons i r =>
      have hi : i ∈ Region.ready .any ops l := by rw [e]; simp
      have h1 := ready_spec hk hl hi hcl
      have h2 := ready_self hk hl hj hS hcl hi
      omega
  | succ fuel ih =>
    intro j l a w hj hs hl hS hcl h
    rw [List.range'_succ, wpOps_cons] at h
    refine ⟨fun hnil => ?_, fun i hi => ?_⟩
    · -- something is always ready
      exfalso
      have hjn : j < ops.size := by omega
      have h0 : asSet l j = false := by
        cases e : asSet l j with
        | false => rfl
        | true => exact absurd ((hS j).mp e) (by omega)
      have := ready_of hk hl hjn h0 (fun i hi => (hS i).mpr hi)
      rw [hnil] at this
      exact absurd this (by simp)
    · have e := ready_self hk hl hj hS hcl hi
      have h1 := ready_spec hk hl hi hcl
      subst e
      refine wpOp_mono (fun a w h => ih (i + 1) _ a w (by omega) (by omega) (by simp [hl]) (fun q => ?_) (closed_set hl h1.1 hcl h1.2.2) h) h
      rw [asSet_set hl h1.1]
      split
      · rename_i e; subst e; simp
      · rename_i e; rw [hS q]; omega

theorem cur_congr {ops : Array Oper} {m : Nat} {τ rs : Nat → AV} {S S' : Nat → Bool} {t : Nat} (h : ∀ i, i < m → dstOf ops i = some t → S i = S' i) : cur ops m τ rs S t = cur ops m τ rs S' t := by
  have hf : ∀ l : List Nat, (∀ i ∈ l, i < m) → l.find? (fun i => S i && (dstOf ops i == some t)) = l.find? (fun i => S' i && (dstOf ops i == some t)) := by
    intro l
    induction l with
    | nil => intro _; rfl
    | cons i l ih =>
      intro hl
      have e : (S i && (dstOf ops i == some t)) = (S' i && (dstOf ops i == some t)) := by
        by_cases hd : dstOf ops i = some t
        · rw [h i (hl i (by simp)) hd]
        · have : (dstOf ops i == some t) = false := by simpa using hd
          rw [this]; simp
      simp only [List.find?_cons, e]
      split
      · rfl
      · exact ih (fun i hi => hl i (by simp [hi]))
  unfold cur
  rw [hf _ (fun i hi => List.mem_range.mp hi)]

/-- The first part: whatever may run next. -/
theorem first {P : Program} {n : Nat} {ops : Array Oper} {m : Nat} {B : List (List Nat)} (hk : ParOk ops m B) {Q : Post} {τ rs : Nat → AV} {X : XH} {p0 : PB} {w0 : World} (hok : ∀ i o, i < m → ops[i]? = some o → okOp n o = true) (hgok : ∀ i o j want d, i < m → ops[i]? = some o → o.guard = some (j, want) → dstOf ops j = some d → d < n)
    (hst : ∀ i, i < m → ∃ o, ops[i]? = some o ∧ EStep P ops o (tauAt ops τ rs i) X (rs i)) (hnext : AOps P n ops (List.range' m (ops.size - m)) Q (tauAt ops τ rs m) X) :
    ∀ (U : List Nat) (l : Array Bool) (a : Act) (w : World), U.Nodup → (∀ i, i ∈ U ↔ i < m ∧ asSet l i = false) → l.size = ops.size → (∀ i, asSet l i = true → i < m) → (∀ j, asSet l j = true → ∀ x ∈ bef B j, asSet l x = true) →
      (∃ p, Fr p0 X w0 p X w ∧ XSim p X w ∧ PBk p w ∧ a.tmps.size = n ∧ a.defers = [] ∧ ∀ t, t < n → Rel p w (cur ops m τ rs (asSet l) t) (a.tmps.getD t undef)) →
      wpAny P .any ops (lift n Q p0 X w0) (U.length + (ops.size - m)) l a w := by
  have hle := hk.le
  intro U
  generalize hU : U.length = u
  induction u generalizing U with
  | zero =>
    intro l a w hnd hmem hl hSm hcl ⟨p, hf, hX, hp, hsz, hdf, htm⟩
    have hUn : U = [] := List.length_eq_zero_iff.mp hU
    subst hUn
    have hS : ∀ i, asSet l i = true ↔ i < m := by
      intro i
      refine ⟨hSm i, fun hi => ?_⟩
      cases e : asSet l i with
      | true => rfl
      | false => exact absurd ((hmem i).mpr ⟨hi, e⟩) (by simp)
    have hsim : Sim n p (tauAt ops τ rs m) X a w := by
      refine ⟨hsz, fun t ht => ?_, hdf, hX, hp⟩
      have := htm t ht
      by_cases h : ∃ j, j < m ∧ dstOf ops j = some t
      · obtain ⟨j, hj, hd⟩ := h
        rw [cur_of hk hj ((hS j).mpr hj) hd] at this
        rw [tauAt_of hk m j t (Nat.le_refl _) hj hd]; exact this
      · rw [cur_none (fun i hi _ hd => h ⟨i, hi, hd⟩)] at this
        rw [tauAt_none m t (fun i hi hd => h ⟨i, hi, hd⟩)]; exact this
    have h2 := wpOps_mono (lift_trans hf) _ _ _ (hnext p a w hsim)
    rw [Nat.zero_add]
    exact second hk (ops.size - m) m l a w (Nat.le_refl _) (by omega) hl hS hcl h2
  | succ u ih =>
    intro l a w hnd hmem hl hSm hcl ⟨p, hf, hX, hp, hsz, hdf, htm⟩
    rw [show u + 1 + (ops.size - m) = u + (ops.size - m) + 1 from by omega]
    refine ⟨fun hnil => ?_, fun i hi => ?_⟩
    · exfalso
      obtain ⟨i0, hi0⟩ : ∃ i0, i0 ∈ U := by
        cases U with
        | nil => simp at hU
        | cons x l => exact ⟨x, by simp⟩
      obtain ⟨q, hq, hmin⟩ := least (J := fun i => i ∈ U) ⟨i0, hi0⟩
      obtain ⟨hqm, hqS⟩ := (hmem q).mp hq
      have := ready_of hk hl (by omega) hqS (fun i hi => by
        cases e : asSet l i with
        | true => rfl
        | false => exact absurd (hmin i ((hmem i).mpr ⟨by omega, e⟩)) (by omega))
      rw [hnil] at this
      exact absurd this (by simp)
    · obtain ⟨his, hiS, hib⟩ := ready_spec hk hl hi hcl
      have him : i < m := by
        by_cases h : i < m
        · exact h
        · exfalso
          obtain ⟨i0, hi0⟩ : ∃ i0, i0 ∈ U := by
            cases U with
            | nil => simp at hU
            | cons x l => exact ⟨x, by simp⟩
          obtain ⟨h1, h2⟩ := (hmem i0).mp hi0
          have := hib i0 (hk.suf i (by omega) his i0 (by omega))
          rw [h2] at this; exact absurd this (by simp)
      obtain ⟨o, ho, hE⟩ := hst i him
      have hoko := hok i o him ho
      unfold wpOp
      rw [ho]
      have hread : ∀ t ∈ readsOf ops i, cur ops m τ rs (asSet l) t = tauAt ops τ rs i t := fun t ht => cur_reads hk him ht hiS hSm hcl hib
      refine hE.run hsz (fun x hx => ?_) hX hp (fun j want d hg hd => ?_) (fun p' v w' h1 h2 h3 h4 => ?_)
      · have hokx := okOp_opnd hoko x hx
        cases x with
        | tmp t =>
          have ht : t < n := by simpa [okx] using hokx
          have hr := htm t ht
          rw [hread t (by unfold readsOf; rw [ho]; exact List.mem_append_left _ (List.mem_filterMap.mpr ⟨.tmp t, by simpa using hx, rfl⟩))] at hr
          exact hr
        | const v => exact ofV_rel _ _ _
        | «global» g => simp [V.ev, Rel, Act.eval]
        | func f => simp only [V.ev, Rel, Act.eval]; exact ⟨[], [], rfl, RelL.nil, RelL.nil⟩
      · have hdn := hgok i o j want d him ho hg hd
        refine ⟨hdn, ?_⟩
        have hr := htm d hdn
        rw [hread d (by
          unfold readsOf; rw [ho]; simp only [hg]
          refine List.mem_append_right _ ?_
          unfold dstOf; rw [hd]; simp)] at hr
        exact hr
      · refine ih (U.erase i) ?_ (l.setIfInBounds i true) _ w' (hnd.erase i) (fun q => ?_) (by simp [hl]) (fun q hq => ?_) (closed_set hl his hcl hib) ⟨p', hf.trans h4, h2, h3, ?_, by cases o.dst <;> exact hdf, fun t ht => ?_⟩
        · rw [List.length_erase_of_mem ((hmem i).mpr ⟨him, hiS⟩)]; omega
        · rw [hnd.mem_erase_iff, hmem q, asSet_set hl his]
          constructor
          · rintro ⟨h5, h6, h7⟩; rw [if_neg h5]; exact ⟨h6, h7⟩
          · rintro ⟨h6, h7⟩
            split at h7
            · exact absurd h7 (by simp)
            · rename_i h5; exact ⟨h5, h6, h7⟩
        · rw [asSet_set hl his] at hq
          split at hq
          · rename_i e; subst e; exact him
          · exact hSm q hq
        · cases hd : o.dst <;> simp [Act.put, hsz]
        · have hm := Rel.mono h4.pub (h4.keeps hX hp) _ _ (htm t ht)
          by_cases hd : dstOf ops i = some t
          · rw [cur_of hk him (by rw [asSet_set hl his]; simp) hd]
            have hod : o.dst = some t := by unfold dstOf at hd; rw [ho] at hd; exact hd
            rw [hod]
            have : ((a.put (some t) v).tmps).getD t undef = v := by simp [Act.put, Array.getD_eq_getD_getElem?, hsz, ht]
            rw [this]; exact h1
          · have hc : cur ops m τ rs (asSet (l.setIfInBounds i true)) t = cur ops m τ rs (asSet l) t := by
              refine cur_congr fun q hq hdq => ?_
              rw [asSet_set hl his, if_neg]
              intro e; subst e; exact hd hdq
            rw [hc]
            have : ((a.put o.dst v).tmps).getD t undef = a.tmps.getD t undef := by
              cases hod : o.dst with
              | none => rfl
              | some d =>
                have hne : ¬ d = t := by
                  intro e; subst e; exact hd (by unfold dstOf; rw [ho]; exact hod)
                simp [Act.put, Array.getD_eq_getD_getElem?, Array.getElem?_setIfInBounds, hne]
            rw [this]; exact hm

theorem AWP_draw {P : Program} (hP : P.follows .mixedOrders = true) {n id : Nat} {ops : Array Oper} {Q : Post} {τ : Nat → AV} {X : XH} (m : Nat) (hpar : parOk ops m (clo ops) = true) (hok : ops.toList.all (okOp n) = true) (hgok : (ops.toList.all fun o => match o.guard with | some (j, _) => (match dstOf ops j with | some d => decide (d < n) | none => true) | none => true) = true)
    (h : ESteps P ops X (List.range m) τ fun τ' => AOps P n ops (List.range' m (ops.size - m)) Q τ' X) : AWP P n (.region id ops true) Q τ X := by
  intro p a w s
  have hk := parOk_spec hpar
  obtain ⟨rs, hst, hnext⟩ := ESteps.out m h
  have hmem : ∀ (i : Nat) (o : Oper), ops[i]? = some o → o ∈ ops := fun i o ho => Array.mem_of_getElem? ho
  have e : ops.size = (List.range m).length + (ops.size - m) := by have := hk.le; simp; omega
  refine wp_region_any hP ?_
  have hz : ∀ i, asSet (Array.replicate ops.size false) i = false := by
    intro i; unfold asSet
    simp only [Array.getD_eq_getD_getElem?, Array.getElem?_replicate]
    split <;> rfl
  have key := first (P := P) (n := n) hk (Q := Q) (τ := τ) (rs := rs) (X := X) (p0 := p) (w0 := w) (fun i o _ ho => List.all_eq_true.mp hok o (by simpa using hmem i o ho)) (fun i o j want d _ ho hg hd => by
      have := List.all_eq_true.mp hgok o (by simpa using hmem i o ho)
      simp only [hg, hd, decide_eq_true_eq] at this
      exact this) hst hnext (List.range m) (Array.replicate ops.size false) a { w with drawn := w.drawn + 1 } List.nodup_range (fun i => by rw [List.mem_range, hz i]; simp) (by simp) (fun i hi => by rw [hz i] at hi; exact absurd hi (by simp)) (fun i hi => by rw [hz i] at hi; exact absurd hi (by simp))
      ⟨p, ⟨fun _ h => h, fun _ _ _ => rfl, fun _ h => .inl h, Nat.le_refl _, fun _ h => .inl h, ⟨rfl, rfl, rfl⟩⟩, fun r o hr => by
        obtain ⟨h1, ys, h2, h3⟩ := s.xs r o hr
        exact ⟨h1, ys, h2, RelL.mono (w := w) (w' := { w with drawn := w.drawn + 1 }) (fun _ h => h) (fun _ _ => rfl) _ _ h3⟩, s.pb.go (fun _ h => h) (fun _ _ => rfl) s.pb.lt, s.size, s.defers, fun t ht => by
        rw [cur_none (fun i _ hi => by rw [hz i] at hi; exact absurd hi (by simp))]
        exact Rel.mono (w := w) (w' := { w with drawn := w.drawn + 1 }) (fun _ h => h) (fun _ _ => rfl) _ _ (s.tmps t ht)⟩
  rw [e.symm] at key
  exact key

end Go.Proofs.YtgnfjahkhhkmoaaDoor.V
