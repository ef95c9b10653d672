/- Arguments that the row reads, told as data: numbers, strings, structs, slices. Over any world; no condition. -/
import Derived.Test.YtgnfjahkhhkmoaaDoorVRow
import Derived.ChangeArms
import Derived.ChangeOld
import Derived.Carry
namespace Go.Proofs.YtgnfjahkhhkmoaaDoor.V
open Go
set_option linter.unusedVariables false
set_option linter.unusedSimpArgs false
section
variable {H : Type} {enc : TypeId × Value → H} {P : Program} {w : World} {spare : Nat → Bool} {held : Bool}

abbrev pw (w : World) : PB := fun b => b < w.heap.size
/-- How a type's cells read, up to a fuel: as f says of some a that is good. -/
def Opens (enc : TypeId × Value → H) (P : Program) (w : World) (spare : Nat → Bool) (held : Bool) (m : Nat) (t : TypeId) {α : Type} (f : α → List AV) (g : α → Prop) : Prop :=
  ∀ n, n < m → ∀ cs x, DataW.trod enc P w 0 spare held n t cs = some x → ∃ a, RelL (pw w) w (f a) cs ∧ g a
theorem Opens.mono {m m' : Nat} {t : TypeId} {α : Type} {f : α → List AV} {g : α → Prop} (h : Opens enc P w spare held m t f g) (hm : m' ≤ m) : Opens enc P w spare held m' t f g :=
  fun n hn => h n (by omega)

theorem op_int {k : IntKind} {t : TypeId} (hu : P.underlying t = some (.int k)) (m : Nat) : Opens enc P w spare held m t (fun n : Int => [.v (.int k n)]) (fun n => (Lit.int k n).wf = true) := by
  intro n _ cs x h
  obtain ⟨q, rfl, _, hq⟩ := DataW.trod_int hu h
  exact ⟨q, RelL.cons (Rel.vv _) RelL.nil, hq⟩
theorem op_bool {t : TypeId} (hu : P.underlying t = some .bool) (m : Nat) : Opens enc P w spare held m t (fun b : Bool => [.v (.bool b)]) (fun _ => True) := by
  intro n _ cs x h
  obtain ⟨q, rfl, _⟩ := DataW.trod_bool hu h
  exact ⟨q, RelL.cons (Rel.vv _) RelL.nil, trivial⟩
theorem op_str {t : TypeId} (hu : P.underlying t = some .string) (m : Nat) : Opens enc P w spare held m t (fun s : ByteArray => [.v (.string s)]) (fun s => s.size ≤ maxLen) := by
  intro n _ cs x h
  obtain ⟨q, rfl, _, hq⟩ := DataW.trod_string hu h
  exact ⟨q, RelL.cons (Rel.vv _) RelL.nil, hq⟩

theorem cells_get {a : Addr} {n : Nat} {cs : List Value} (h : w.cells? 0 a n = some cs) : cs.length = n ∧ ∀ j, j < n → w.cell? (a.add j) = cs[j]? := by
  unfold World.cells? at h
  rw [if_pos (Nat.zero_le _)] at h
  refine ⟨by simpa using mapM_some_length h, fun j hj => ?_⟩
  exact mapM_some_get h j j (by simp [hj])
theorem cell_spot {a : Addr} {v : Value} (h : w.cell? a = some v) : a = ⟨a.block, a.off, none⟩ ∧ a.block < w.heap.size := by
  refine ⟨?_, World.block_lt_of_cell? w _ h⟩
  obtain ⟨b, o, s⟩ := a
  unfold World.cell? at h
  split at h
  · cases s with
    | none => rfl
    | some _ => simp at h
  · exact absurd h (by simp)
theorem addr_add (b o : Nat) (s : Option Nat) (n : Nat) (h : n ≠ 0 ∨ s = none) : (⟨b, o, s⟩ : Addr).add n = ⟨b, o + n, none⟩ := by
  unfold Addr.add
  split
  · rename_i hn
    rcases h with h | h
    · exact absurd hn h
    · subst h; subst hn; rfl
  · rfl

theorem op_slice {S e : TypeId} {α : Type} {f : α → List AV} {sz : Nat} {g : α → Prop} (hu : P.underlying S = some (.slice e)) (hsz : P.cellsOf e = sz) (h0 : sz ≠ 0) (hf : ∀ a, (f a).length = sz) {m : Nat} (ih : Opens enc P w spare held m e f g) :
    Opens enc P w spare held (m + 1) S (fun l : List α => [.sl false l.length (l.flatMap f)]) (fun l => l.length ≤ maxLen ∧ ∀ a, a ∈ l → g a) := by
  intro n hn cs x h
  rcases DataW.trod_slice hu h with ⟨rfl, _⟩ | ⟨a, len, cap, elems, rest, q, rfl, rfl, _, _, hlc, hcap, hlen, hel, _, _⟩
  · refine ⟨[], RelL.cons ?_ RelL.nil, Nat.zero_le _, by simp⟩
    simp only [Rel]
    exact ⟨none, 0, rfl, Nat.le_refl _, fun h => absurd h (by simp), .inl rfl⟩
  · rw [hsz] at hel
    obtain ⟨ab, ao, as_⟩ := a
    have key : ∀ k, k ≤ len → ∃ l : List α, l.length = k ∧ (∀ a, a ∈ l → g a) ∧ ∃ ys : List Value, ys.length = k * sz ∧ (0 < k → as_ = none ∧ ab < w.heap.size) ∧ Cells w ab ao ys ∧ RelL (pw w) w (l.flatMap f) ys := by
      intro k
      induction k with
      | zero => intro _; exact ⟨[], rfl, by simp, [], by simp, fun h => absurd h (by simp), fun j y hj => absurd hj (by simp), RelL.nil⟩
      | succ k ihk =>
        intro hk
        obtain ⟨l, hl, hg, ys, hy, hb, hc, hr⟩ := ihk (by omega)
        clear ihk
        have he := hel k (by omega)
        rw [List.getElem?_eq_getElem (by omega)] at he
        simp only [Option.bind_eq_some_iff] at he
        obtain ⟨csi, h1, h2⟩ := he
        obtain ⟨g1, g2⟩ := cells_get h1
        obtain ⟨a, ha, hga⟩ := ih q (by omega) csi _ h2
        have hcell0 := g2 0 (by omega)
        rw [List.getElem?_eq_getElem (by omega)] at hcell0
        have hs := cell_spot hcell0
        have hnone : as_ = none ∧ ab < w.heap.size := by
          cases k with
          | zero =>
            rw [Nat.zero_mul] at hs
            have e1 : (⟨ab, ao, as_⟩ : Addr).add 0 = ⟨ab, ao, as_⟩ := by simp [Addr.add]
            rw [e1, e1] at hs
            have e2 := congrArg Addr.spot hs.1
            exact ⟨e2, hs.2⟩
          | succ k => exact hb (by omega)
        obtain ⟨rfl, hlt⟩ := hnone
        refine ⟨l ++ [a], by simp [hl], ?_, ys ++ csi, ?_, fun _ => ⟨rfl, hlt⟩, ?_, ?_⟩
        · intro b hb
          rw [List.mem_append, List.mem_singleton] at hb
          rcases hb with hb | rfl
          · exact hg b hb
          · exact hga
        · rw [List.length_append, hy, g1, Nat.succ_mul]
        · intro j y hj
          by_cases hj2 : j < ys.length
          · rw [List.getElem?_append_left hj2] at hj
            exact hc j y hj
          · rw [List.getElem?_append_right (by omega)] at hj
            have hlt2 : j - ys.length < csi.length := by
              rcases Nat.lt_or_ge (j - ys.length) csi.length with h3 | h3
              · exact h3
              · rw [List.getElem?_eq_none h3] at hj; exact absurd hj (by simp)
            have := g2 (j - ys.length) (by omega)
            rw [addr_add _ _ _ _ (.inr rfl), addr_add _ _ _ _ (.inr rfl), hj] at this
            rw [show ao + j = ao + k * sz + (j - ys.length) by omega]
            exact this
        · rw [List.flatMap_append]
          exact RelL.append hr (by simpa using ha)
    obtain ⟨l, hl, hg, ys, hy, hb, hc, hr⟩ := key len (Nat.le_refl _)
    refine ⟨l, RelL.cons ?_ RelL.nil, by omega, hg⟩
    simp only [Rel]
    refine ⟨some ⟨ab, ao, as_⟩, cap, by rw [hl], by omega, fun h => absurd h (by simp), ?_⟩
    cases len with
    | zero =>
      left
      have : l = [] := by cases l with | nil => rfl | cons _ _ => simp at hl
      rw [this]; rfl
    | succ k =>
      obtain ⟨rfl, hlt⟩ := hb (by omega)
      exact .inr ⟨ab, ao, ys, rfl, hlt, hc, hr⟩

/-- A struct's reading: its fields', piece by piece. -/
theorem op_struct {t : TypeId} {fs : Array Field} (hu : P.underlying t = some (.struct fs)) {n : Nat} {cs : List Value} {x : DataW H × List MemPlace} (h : DataW.trod enc P w 0 spare held n t cs = some x) :
    ∃ q, n = q + 1 ∧ cs.length = P.cellsOf t ∧ ∀ (i : Nat) (f : Field), fs[i]? = some f → ∃ y, DataW.trod enc P w 0 spare held q f.type ((cs.drop f.offset).take (P.cellsOf f.type)) = some y := by
  obtain ⟨xs, q, rfl, _, hl, hx, hf⟩ := DataW.trod_struct hu h
  refine ⟨q, rfl, hl, fun i f hi => ?_⟩
  have hlt : i < fs.size := by
    rcases Nat.lt_or_ge i fs.size with h1 | h1
    · exact h1
    · rw [Array.getElem?_eq_none h1] at hi; exact absurd hi (by simp)
  have := hf i f hi
  rw [List.getElem?_eq_getElem (by omega)] at this
  exact ⟨_, this⟩
theorem rel_cut {p : PB} {cs : List Value} {as bs : List AV} {o s : Nat} (h1 : RelL p w as ((cs.drop o).take s)) (h2 : RelL p w bs (cs.drop (o + s))) : RelL p w (as ++ bs) (cs.drop o) := by
  have := RelL.append h1 h2
  rw [← List.drop_drop, List.take_append_drop] at this
  exact this
theorem rel_done {p : PB} {cs : List Value} {o : Nat} (h : cs.length ≤ o) : RelL p w [] (cs.drop o) := by
  rw [List.drop_of_length_le h]; exact RelL.nil
/-- An argument of one cell. -/
theorem open_one {m : Nat} {t : TypeId} {v : Value} {α : Type} {f : α → AV} {g : α → Prop} (hop : ∀ m, Opens enc P w spare held m t (fun a => [f a]) g) (hv : v.cells.toList = [v]) {d : DataW H} {ps : List MemPlace} (h : DataW.Trod enc P w 0 spare held t v d ps) : ∃ a, Rel (pw w) w (f a) v ∧ g a := by
  obtain ⟨fuel, h⟩ := h
  rw [hv] at h
  obtain ⟨a, hr, hg⟩ := hop (fuel + 1) fuel (by omega) _ _ h
  simp only [RelL] at hr
  obtain ⟨y, r, e, hr, _⟩ := hr
  simp only [List.cons.injEq] at e
  rw [e.1]
  exact ⟨a, hr, hg⟩
/-- An argument that is a struct. -/
theorem open_agg {t : TypeId} {v : Value} {α : Type} {f : α → List AV} {g : α → Prop} (hop : ∀ m, Opens enc P w spare held m t f g) {cs : Array Value} (hv : v = .agg cs) {d : DataW H} {ps : List MemPlace} (h : DataW.Trod enc P w 0 spare held t v d ps) : ∃ a, Rel (pw w) w (.agg (f a)) v ∧ g a := by
  obtain ⟨fuel, h⟩ := h
  subst hv
  obtain ⟨a, hr, hg⟩ := hop (fuel + 1) fuel (by omega) _ _ h
  refine ⟨a, ?_, hg⟩
  simp only [Rel]
  exact ⟨cs.toList, by simp, hr⟩
end
theorem agg_of {P : Program} {w : World} {r : Reach} {base : Nat} {t : TypeId} {v : Value} {fs : Array Field} (hu : P.underlying t = some (.struct fs)) (h : Value.okWide P w r base t v) : ∃ cs, v = .agg cs := by
  unfold Value.okWide at h
  rw [hu] at h
  obtain ⟨cs, e, _⟩ := h
  exact ⟨cs, e⟩
theorem one_of {P : Program} {w : World} {r : Reach} {base : Nat} {t e : TypeId} {v : Value} (hu : P.underlying t = some (.slice e)) (h : Value.okWide P w r base t v) : v.cells.toList = [v] := by
  unfold Value.okWide at h
  rw [hu] at h
  unfold Cell.okWide at h
  rw [hu] at h
  unfold Cell.ok at h
  rw [hu] at h
  cases v <;> first | rfl | (simp at h)
theorem one_int {P : Program} {w : World} {r : Reach} {base : Nat} {t : TypeId} {k : IntKind} {v : Value} (hu : P.underlying t = some (.int k)) (h : Value.okWide P w r base t v) : v.cells.toList = [v] := by
  unfold Value.okWide at h
  rw [hu] at h
  unfold Cell.okWide at h
  rw [hu] at h
  unfold Cell.ok at h
  rw [hu] at h
  cases v <;> first | rfl | (simp at h)
theorem one_bool {P : Program} {w : World} {r : Reach} {base : Nat} {t : TypeId} {v : Value} (hu : P.underlying t = some (.bool)) (h : Value.okWide P w r base t v) : v.cells.toList = [v] := by
  unfold Value.okWide at h
  rw [hu] at h
  unfold Cell.okWide at h
  rw [hu] at h
  unfold Cell.ok at h
  rw [hu] at h
  cases v <;> first | rfl | (simp at h)
theorem one_str {P : Program} {w : World} {r : Reach} {base : Nat} {t : TypeId} {v : Value} (hu : P.underlying t = some (.string)) (h : Value.okWide P w r base t v) : v.cells.toList = [v] := by
  unfold Value.okWide at h
  rw [hu] at h
  unfold Cell.okWide at h
  rw [hu] at h
  unfold Cell.ok at h
  rw [hu] at h
  cases v <;> first | rfl | (simp at h)
theorem below_all {H : Type} {enc : TypeId × Value → H} {P : Program} (hl : laidOutB P = true) {W W' : World} (hb : Go.RowKit.Below W.heap.size W W') : ∀ {ts : List TypeId} {vs : List Value} {ds : List (DataW H)} {ps : List MemPlace}, (∀ t, t ∈ ts → P.readableRec t = true ∧ t < P.types.size) →
    DataW.TrodAll enc P W 0 (fun _ => true) true ts vs ds ps → (∀ x ∈ ps, x.block < W.heap.size) → DataW.TrodAll enc P W' 0 (fun b => decide (b < W.heap.size)) true ts vs ds ps
  | [], [], [], _, _, h, _ => h
  | t :: ts, v :: vs, d :: ds, ps, hr, h, hlt => by
    obtain ⟨p, q, h1, h2, rfl⟩ := h
    obtain ⟨r1, r2⟩ := hr t (by simp)
    exact ⟨p, q, Go.RowKit.Below.trod hl r1 r2 h1 hb (fun x hx => hlt x (List.mem_append_left _ hx)), below_all hl hb (fun t ht => hr t (List.mem_cons_of_mem _ ht)) h2 (fun x hx => hlt x (List.mem_append_right _ hx)), rfl⟩
  | [], [], _ :: _, _, _, h, _ => by simp [DataW.TrodAll] at h
  | [], _ :: _, _, _, _, h, _ => by simp [DataW.TrodAll] at h
  | _ :: _, [], _, _, _, h, _ => by simp [DataW.TrodAll] at h
  | _ :: _, _ :: _, [], _, _, h, _ => by simp [DataW.TrodAll] at h
/-- What is told by a tells b. -/
def Le (a b : AV) : Prop := ∀ p w y, Rel p w a y → Rel p w b y
def LeL (as bs : List AV) : Prop := ∀ p w ys, RelL p w as ys → RelL p w bs ys
theorem Le.refl (a : AV) : Le a a := fun _ _ _ h => h
theorem LeL.refl (a : List AV) : LeL a a := fun _ _ _ h => h
theorem LeL.cons {a b : AV} {as bs : List AV} (h : Le a b) (hs : LeL as bs) : LeL (a :: as) (b :: bs) := by
  intro p w ys hr
  simp only [RelL] at hr ⊢
  obtain ⟨y, r, e, h1, h2⟩ := hr
  exact ⟨y, r, e, h _ _ _ h1, hs _ _ _ h2⟩
theorem Le.agg {as bs : List AV} (h : LeL as bs) : Le (.agg as) (.agg bs) := by
  intro p w y hr
  simp only [Rel] at hr ⊢
  obtain ⟨ys, e, h1⟩ := hr
  exact ⟨ys, e, h _ _ _ h1⟩
theorem Le.tup {as bs : List AV} (h : LeL as bs) : Le (.tup as) (.tup bs) := by
  intro p w y hr
  simp only [Rel] at hr ⊢
  obtain ⟨ys, e, h1⟩ := hr
  exact ⟨ys, e, h _ _ _ h1⟩
theorem Le.sl {t : Bool} {n : Nat} {as bs : List AV} (h : LeL as bs) : Le (.sl t n as) (.sl false n bs) := by
  intro p w y hr
  simp only [Rel] at hr ⊢
  obtain ⟨A, c, e, h1, h2, h3⟩ := hr
  refine ⟨A, c, e, h1, fun h => absurd h (by simp), ?_⟩
  rcases h3 with rfl | ⟨b, off, ys, e1, hb, hc, hr⟩
  · have := h p w [] RelL.nil
    left
    cases bs with
    | nil => rfl
    | cons b bs => simp [RelL] at this
  · exact .inr ⟨b, off, ys, e1, hb, hc, h _ _ _ hr⟩
theorem Le.slt {t : Bool} {n : Nat} {as bs : List AV} (h : LeL as bs) : Le (.sl t n as) (.sl t n bs) := by
  intro p w y hr
  simp only [Rel] at hr ⊢
  obtain ⟨A, c, e, h1, h2, h3⟩ := hr
  refine ⟨A, c, e, h1, h2, ?_⟩
  rcases h3 with rfl | ⟨b, off, ys, e1, hb, hc, hr⟩
  · have := h p w [] RelL.nil
    left
    cases bs with
    | nil => rfl
    | cons b bs => simp [RelL] at this
  · exact .inr ⟨b, off, ys, e1, hb, hc, h _ _ _ hr⟩
theorem PCalls.of {P : Program} {f : FuncId} {avs avs' : List AV} {r : AV} (h : PCalls P f avs r) (ha : LeL avs' avs) : PCalls P f avs' r := ACalls.of h ha
theorem PCalls.to {P : Program} {f : FuncId} {avs : List AV} {r r' : AV} (h : PCalls P f avs r) (hr : Le r r') : PCalls P f avs r' := by
  intro p w vs hv hx hb
  refine (h p w vs hv hx hb).mono ?_
  rintro e w' ⟨v, p', av, X', rfl, h1, h2, h3, h4, rfl⟩
  exact ⟨v, p', r', X', rfl, hr _ _ _ h1, h2, h3, h4, rfl⟩
end Go.Proofs.YtgnfjahkhhkmoaaDoor.V
