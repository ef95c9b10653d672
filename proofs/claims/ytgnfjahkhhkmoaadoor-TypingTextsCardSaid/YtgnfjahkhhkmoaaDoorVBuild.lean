/- More operations that only compute: structs that are built, conversions, lengths; and all of them under one name. -/
import Derived.Test.YtgnfjahkhhkmoaaDoorVPure
import Derived.Laws.BytesString
namespace Go.Proofs.YtgnfjahkhhkmoaaDoor.V
open Go
set_option linter.unusedVariables false
set_option linter.unusedSimpArgs false

/-- One cell, for sure. -/
def AV.one : AV → Bool
  | .v (.agg _) => false
  | .v (.tuple _) => false
  | .v _ => true
  | .sl _ _ _ => true
  | .pp _ _ => true
  | .clo _ _ _ => true
  | _ => false
theorem AV.one_cells {p : PB} {w : World} {a : AV} {y : Value} (h : a.one = true) (hr : Rel p w a y) : y.cells = #[y] ∧ y.oneCell' = true := by
  cases a with
  | v x => simp only [Rel] at hr; subst hr; cases y <;> simp_all [AV.one, Value.cells, Value.oneCell']
  | sl t n cs => simp only [Rel] at hr; obtain ⟨A, c, rfl, _⟩ := hr; simp [Value.cells, Value.oneCell']
  | pp cs k => simp only [Rel] at hr; obtain ⟨b, o, ys, rfl, _⟩ := hr; simp [Value.cells, Value.oneCell']
  | clo f a c => simp only [Rel] at hr; obtain ⟨xs, ys, rfl, _⟩ := hr; simp [Value.cells, Value.oneCell']
  | any => simp [AV.one] at h
  | agg _ => simp [AV.one] at h
  | tup _ => simp [AV.one] at h
  | opt _ _ => simp [AV.one] at h

/-- The cells of a value of a type, as they are laid into memory. -/
def leaves (i : TI) (a : AV) : Option (Prop × List AV) :=
  if i.d.known then
    if i.isS then
      match a with
      | .agg cs => some (cs.length = i.size ∧ cs.all AV.one = true, cs)
      | _ => none
    else some (i.size = 1 ∧ a.one = true, [a])
  else none

theorem leaves_sound {P : Program} {td : Tab} (ht : td.ok P) {t : TypeId} {a : AV} {c : Prop} {cs : List AV} (h : leaves (td t) a = some (c, cs)) (hc : c) {p : PB} {w : World} {y : Value} (hr : Rel p w a y) :
    ∃ ys : List Value, y.cells = ys.toArray ∧ RelL p w cs ys ∧ ys.length = (td t).size ∧ (∀ z ∈ ys, z.oneCell' = true) := by
  unfold leaves at h
  split at h
  case isFalse => exact absurd h (by simp)
  split at h
  · split at h
    · rename_i l
      simp only [Option.some.injEq, Prod.mk.injEq] at h
      obtain ⟨rfl, rfl⟩ := h
      simp only [Rel] at hr
      obtain ⟨ys, rfl, hl⟩ := hr
      refine ⟨ys, rfl, hl, by rw [hl.length]; exact hc.1, ?_⟩
      have : ∀ (l : List AV) (ys : List Value), RelL p w l ys → l.all AV.one = true → ∀ z ∈ ys, z.oneCell' = true := by
        intro l
        induction l with
        | nil => intro ys h _ z hz; simp only [RelL] at h; subst h; simp at hz
        | cons a l ih =>
          intro ys h ho z hz
          simp only [RelL] at h
          obtain ⟨y, r, rfl, h1, h2⟩ := h
          simp only [List.all_cons, Bool.and_eq_true] at ho
          rcases List.mem_cons.mp hz with rfl | hz
          · exact (AV.one_cells ho.1 h1).2
          · exact ih r h2 ho.2 z hz
      exact this _ _ hl hc.2
    · exact absurd h (by simp)
  · simp only [Option.some.injEq, Prod.mk.injEq] at h
    obtain ⟨rfl, rfl⟩ := h
    obtain ⟨h1, h2⟩ := AV.one_cells hc.2 hr
    refine ⟨[y], by rw [h1], RelL.cons hr RelL.nil, by simp [hc.1], ?_⟩
    intro z hz; simp only [List.mem_singleton] at hz; subst hz; exact h2

def splice {α : Type} (l : List α) (k : Nat) (m : List α) : List α := l.take k ++ m ++ l.drop (k + m.length)

theorem RelL.splice {p : PB} {w : World} {as bs : List AV} {xs ys : List Value} (k : Nat) (h : RelL p w as xs) (h2 : RelL p w bs ys) : RelL p w (V.splice as k bs) (V.splice xs k ys) := by
  unfold V.splice
  rw [h2.length]
  exact RelL.append (RelL.append (RelL.take _ h) h2) (RelL.drop _ h)

theorem splice_cons {α : Type} (l : List α) (k : Nat) (x : α) (m : List α) (h : k < l.length) : splice (l.set k x) (k + 1) m = splice l k (x :: m) := by
  unfold splice
  have h1 : (l.set k x).take (k + 1) = l.take k ++ [x] := by
    rw [List.take_succ_eq_append_getElem (by simpa using h)]
    simp [List.take_set_of_le]
  have h2 : (l.set k x).drop (k + 1 + m.length) = l.drop (k + (m.length + 1)) := by
    rw [List.drop_set_of_lt (by omega)]
    congr 1; omega
  rw [h1, h2]; simp

theorem set_all (m : List Value) : ∀ (k : Nat) (l : List Value), k + m.length ≤ l.length → ((m.zipIdx 0).foldl (fun (cs : List Value) x => cs.set (k + x.2) x.1) l) = splice l k m := by
  have : ∀ (m : List Value) (j k : Nat) (l : List Value), k + j + m.length ≤ l.length → ((m.zipIdx j).foldl (fun (cs : List Value) x => cs.set (k + x.2) x.1) l) = splice l (k + j) m := by
    intro m
    induction m with
    | nil => intro j k l _; simp [splice]
    | cons x m ih =>
      intro j k l h
      simp only [List.length_cons] at h
      simp only [List.zipIdx_cons, List.foldl_cons]
      rw [ih (j + 1) k _ (by simp; omega), ← Nat.add_assoc, splice_cons _ _ _ _ (by omega)]
  intro k l h
  exact this m 0 k l (by omega)

theorem fill_step (cells ys : List Value) (off : Nat) (h : off + ys.length ≤ cells.length) :
    (ys.toArray.zipIdx.foldl (fun (cs : Array Value) x => cs.setIfInBounds (off + x.2) x.1) cells.toArray) = (splice cells off ys).toArray := by
  rw [← set_all ys off cells h]
  rw [← Array.foldl_toList, Array.toList_zipIdx]
  have : ∀ (z : List (Value × Nat)) (l : List Value), z.foldl (fun (cs : Array Value) x => cs.setIfInBounds (off + x.2) x.1) l.toArray = (z.foldl (fun (cs : List Value) x => cs.set (off + x.2) x.1) l).toArray := by
    intro z
    induction z with
    | nil => intro l; rfl
    | cons x z ih => intro l; simp only [List.foldl_cons]; rw [List.setIfInBounds_toArray]; exact ih _
  exact this (ys.zipIdx 0) cells

/-- Parts filled into cells. -/
def afill (place : Nat → Option (Nat × TI)) (cells : List AV) : List (Nat × AV) → Option (Prop × List AV)
  | [] => some (True, cells)
  | (i, a) :: rest =>
    match place i with
    | none => none
    | some (off, ti) =>
      match leaves ti a with
      | none => none
      | some (c, cs) =>
        match afill place (splice cells off cs) rest with
        | none => none
        | some (c', r) => some (c ∧ off + ti.size ≤ cells.length ∧ c', r)

def RelP (p : PB) (w : World) : List (Nat × AV) → List (Nat × Value) → Prop
  | [], ys => ys = []
  | (i, a) :: as, ys => ∃ y r, ys = (i, y) :: r ∧ Rel p w a y ∧ RelP p w as r

theorem afill_sound {P : Program} {td : Tab} (ht : td.ok P) {pl : Nat → Option (Nat × Nat)} {place : Nat → Option (Nat × TI)} (hpl : ∀ i off ti, place i = some (off, ti) → pl i = some (off, ti.size) ∧ ∃ t, ti = td t) {p : PB} {w : World} :
    ∀ (parts : List (Nat × AV)) (ps : List (Nat × Value)) (cells : List AV) (xs : List Value) (c : Prop) (r : List AV), RelP p w parts ps → RelL p w cells xs → afill place cells parts = some (c, r) → c →
      ∃ ys : List Value, Instr.fill pl xs.toArray ps = some ys.toArray ∧ RelL p w r ys := by
  intro parts
  induction parts with
  | nil =>
    intro ps cells xs c r hp hl h hc
    simp only [RelP] at hp; subst hp
    simp only [afill, Option.some.injEq, Prod.mk.injEq] at h
    obtain ⟨rfl, rfl⟩ := h
    exact ⟨xs, rfl, hl⟩
  | cons x parts ih =>
    intro ps cells xs c r hp hl h hc
    obtain ⟨i, a⟩ := x
    simp only [RelP] at hp
    obtain ⟨y, rs, rfl, hy, hp⟩ := hp
    simp only [afill] at h
    split at h
    · exact absurd h (by simp)
    rename_i off ti hpi
    split at h
    · exact absurd h (by simp)
    rename_i c1 cs hlv
    split at h
    · exact absurd h (by simp)
    rename_i c2 r2 hf
    simp only [Option.some.injEq, Prod.mk.injEq] at h
    obtain ⟨rfl, rfl⟩ := h
    obtain ⟨hc1, hsz, hc2⟩ := hc
    obtain ⟨hp1, t, rfl⟩ := hpl _ _ _ hpi
    obtain ⟨ys, e1, hl2, hlen, _⟩ := leaves_sound ht hlv hc1 hy
    have hxl := hl.length
    obtain ⟨zs, e2, hz⟩ := ih rs (splice cells off cs) (splice xs off ys) _ _ hp (RelL.splice off hl hl2) hf hc2
    refine ⟨zs, ?_, hz⟩
    simp only [Instr.fill, hp1, e1]
    rw [if_neg (by simp; omega)]
    rw [fill_step xs ys off (by omega)]
    exact e2

def zeros (i : TI) : List AV := i.zero.map ofV
theorem zeros_rel (p : PB) (w : World) (i : TI) : RelL p w (zeros i) i.zero := by
  unfold zeros
  induction i.zero with
  | nil => exact RelL.nil
  | cons x l ih => exact RelL.cons (ofV_rel _ _ _) ih

/-- A struct that is built. -/
def pBuild (td : Tab) (t : TypeId) (parts : List (Nat × AV)) : Option (Prop × AV) :=
  match (td t).d with
  | .struct fs =>
    if fs.all (fun f => (td f.2).d.known) then
      match afill (fun i => (fs[i]?).map fun f => (f.1, td f.2)) (zeros (td t)) parts with
      | some (c, cs) => some (c, .agg cs)
      | none => none
    else none
  | _ => none

theorem run_mapM_places {P : Program} {td : Tab} (ht : td.ok P) {w : World} : ∀ (l : List Field), (∀ f ∈ l, (td f.type).d.known = true) →
    (l.mapM (fun f => do pure (f.offset, ← sizeOf f.type)) : Sem (List (Nat × Nat))).run P w = .ok (l.map fun f => (f.offset, (td f.type).size)) w := by
  intro l
  induction l with
  | nil => intro _; simp
  | cons f l ih =>
    intro h
    simp only [List.mem_cons, forall_eq_or_imp] at h
    have e := Tab.run_sizeOf ht (w := w) (TD.ne_of_known h.1)
    have e2 := ih h.2
    simp only [bind_pure_comp] at e2
    simp [List.mapM_cons, e, e2]

theorem pBuild_sound {P : Program} {td : Tab} (ht : td.ok P) {t : TypeId} {parts : List (Nat × AV)} {c : Prop} {r : AV} (h : pBuild td t parts = some (c, r)) (hc : c) {p : PB} {w : World} {ps : List (Nat × Value)} (hp : RelP p w parts ps) :
    ∃ z, (Instr.build t ps.toArray).run P w = .ok z w ∧ Rel p w r z := by
  unfold pBuild at h
  split at h
  case h_2 => exact absurd h (by simp)
  rename_i fs hd
  split at h
  case isFalse => exact absurd h (by simp)
  rename_i hk
  split at h
  case h_2 => exact absurd h (by simp)
  rename_i c' cs hf
  simp only [Option.some.injEq, Prod.mk.injEq] at h
  obtain ⟨rfl, rfl⟩ := h
  obtain ⟨l, hu, hl⟩ := Tab.und_struct ht (w := w) hd
  have hn : (td t).d ≠ .none := by rw [hd]; simp
  have hz := Tab.run_zero ht (w := w) hn
  have hzv : ((td t).zv).cells = (td t).zero.toArray := by unfold TI.zv; rw [hd]; rfl
  have hkl : ∀ f ∈ l.toList, (td f.type).d.known = true := by
    intro f hf
    have := List.all_eq_true.mp hk (f.offset, f.type) (by rw [← hl]; exact List.mem_map.mpr ⟨f, hf, rfl⟩)
    exact this
  have hm := run_mapM_places ht (w := w) l.toList hkl
  have hm' : (l.mapM (fun f => do pure (f.offset, ← sizeOf f.type)) : Sem (Array (Nat × Nat))).run P w = .ok (l.toList.map fun f => (f.offset, (td f.type).size)).toArray w := by
    rw [← Array.toArray_toList (xs := l)]
    rw [List.mapM_toArray]
    simp only [bind_pure_comp] at hm
    simp [hm]
  obtain ⟨ys, e, hr⟩ := afill_sound ht (pl := fun i => (l.toList.map fun f => (f.offset, (td f.type).size)).toArray[i]?) (place := fun i => (fs[i]?).map fun f => (f.1, td f.2)) (by
    intro i off ti hi
    simp only [Option.map_eq_some_iff] at hi
    obtain ⟨⟨o, ft⟩, h1, h2⟩ := hi
    simp only [Prod.mk.injEq] at h2
    obtain ⟨rfl, rfl⟩ := h2
    obtain ⟨g, hg, rfl, rfl⟩ := fields_get hl h1
    exact ⟨by simp [hg], _, rfl⟩) parts ps _ _ _ _ hp (zeros_rel p w (td t)) hf hc
  refine ⟨.agg ys.toArray, ?_, by simp only [Rel]; exact ⟨ys, rfl, hr⟩⟩
  unfold Instr.build
  simp only [Sem.run_bind, hz, Result.andThen_ok, hu, hm', hzv]
  rw [e]
  simp

/-- Cells that are bytes. -/
def u8s : List AV → Option (List Int)
  | [] => some []
  | .v (.int .u8 m) :: r => (u8s r).map (m :: ·)
  | _ => none
theorem u8s_rel {p : PB} {w : World} : ∀ {cs : List AV} {ns : List Int} {ys : List Value}, u8s cs = some ns → RelL p w cs ys → ys = ns.map (Value.int .u8)
  | [], ns, ys, h, hr => by
    simp only [u8s, Option.some.injEq] at h; subst h
    simp only [RelL] at hr; subst hr; rfl
  | c :: cs, ns, ys, h, hr => by
    unfold u8s at h
    split at h
    · rename_i e; exact absurd e (by simp)
    · rename_i m r e
      simp only [List.cons.injEq] at e
      obtain ⟨rfl, rfl⟩ := e
      simp only [Option.map_eq_some_iff] at h
      obtain ⟨ns', h1, rfl⟩ := h
      simp only [RelL, Rel] at hr
      obtain ⟨y, r, rfl, rfl, h2⟩ := hr
      rw [u8s_rel h1 h2]; rfl
    · exact absurd h (by simp)
theorem push_bytes : ∀ (ns : List Int) (s : ByteArray), ns.foldl (fun r n => r.push (UInt8.ofNat n.toNat)) s = ⟨s.data ++ (ns.map fun n => UInt8.ofNat n.toNat).toArray⟩
  | [], s => by simp
  | n :: ns, s => by
    rw [List.foldl_cons, push_bytes ns]
    simp [ByteArray.push]
/-- A conversion between whole numbers; of a string to a string; of bytes to a string. -/
def pConv (td : Tab) (s d : TypeId) (x : AV) : Option (Prop × AV) :=
  match (td s).d, (td d).d, x with
  | .int _, .int k, .v (.int _ m) => some (True, .v (.int k (k.wrap m)))
  | .str, .str, .v (.string b) => some (True, .v (.string b))
  | .slice e, .str, .sl _ n cs => match (td e).d, u8s cs with
    | .int .u8, some ns => if ns.length = n then some (True, .v (.string ⟨(ns.map fun m => UInt8.ofNat m.toNat).toArray⟩)) else none
    | _, _ => none
  | _, _, _ => none

theorem pConv_sound {P : Program} {td : Tab} (ht : td.ok P) {s d : TypeId} {x : AV} {c : Prop} {r : AV} (h : pConv td s d x = some (c, r)) {p : PB} {w : World} {u : Value} (hx : Rel p w x u) :
    ∃ z, (convert s d u).run P w = .ok z w ∧ Rel p w r z := by
  unfold pConv at h
  split at h
  · rename_i hs hd
    simp only [Option.some.injEq, Prod.mk.injEq] at h
    obtain ⟨rfl, rfl⟩ := h
    simp only [Rel] at hx; subst hx
    refine ⟨_, ?_, Rel.vv _⟩
    simp [convert, Tab.und_int ht hs, Tab.und_int ht hd, Conv.intToInt]
  · rename_i hs hd
    simp only [Option.some.injEq, Prod.mk.injEq] at h
    obtain ⟨rfl, rfl⟩ := h
    simp only [Rel] at hx; subst hx
    refine ⟨_, ?_, Rel.vv _⟩
    simp [convert, Tab.und_str ht hs, Tab.und_str ht hd]
  · rename_i e ta n cs hs hd
    split at h
    case h_2 => exact absurd h (by simp)
    rename_i ns he hn
    split at h
    case isFalse => exact absurd h (by simp)
    rename_i hl
    simp only [Option.some.injEq, Prod.mk.injEq] at h
    obtain ⟨rfl, rfl⟩ := h
    simp only [Rel] at hx
    obtain ⟨A, c, rfl, _, _, h3⟩ := hx
    refine ⟨_, ?_, Rel.vv _⟩
    have hcv : (convert s d (.slice A n c)).run P w = (Conv.bytesToString (.slice A n c)).run P w := by
      simp [convert, Tab.und_slice ht hs, Tab.und_str ht hd, Tab.und_int ht he]
    rw [hcv]
    have hz : cs = [] → ns = [] := by
      rintro rfl
      simpa [u8s] using hn.symm
    cases A with
    | none =>
      rcases h3 with h3 | ⟨b, off, ys, e1, _⟩
      · rw [hz h3]; simp [Conv.bytesToString, ByteArray.empty, ByteArray.emptyWithCapacity]; rfl
      · exact absurd e1 (by simp)
    | some ad =>
      have hld : (loadCells ad n).run P w = .ok (ns.map (Value.int .u8)).toArray w := by
        rcases h3 with h3 | ⟨b, off, ys, e1, _, hcc, hrl⟩
        · have e0 := hz h3
          subst e0
          simp only [List.length_nil] at hl
          subst hl
          simp [loadCells, loadCellsFrom]
        · simp only [Option.some.injEq] at e1; subst e1
          have e2 := u8s_rel hn hrl
          subst e2
          have := run_load_cells (P := P) hcc n 0 #[] (by simp; omega)
          rw [List.drop_zero, List.take_of_length_le (by simp; omega)] at this
          simpa [loadCells] using this
      rw [run_bytesToString w ad n c ns hld, push_bytes]
      simp [ByteArray.empty, ByteArray.emptyWithCapacity]
      rfl
  · exact absurd h (by simp)

/-- A length. -/
def pLen (td : Tab) (t : TypeId) (x : AV) : Option (Prop × AV) :=
  match (td t).d, x with
  | .slice _, .sl _ n _ => some (True, .v (.int .i64 n))
  | .slice _, .v (.slice _ n _) => some (True, .v (.int .i64 n))
  | .str, .v (.string s) => some (True, .v (.int .i64 s.size))
  | _, _ => none

theorem pLen_sound {P : Program} {td : Tab} (ht : td.ok P) {t ty : TypeId} {x : AV} {c : Prop} {r : AV} (h : pLen td t x = some (c, r)) {p : PB} {w : World} {u : Value} (hx : Rel p w x u) :
    ∃ z, (Builtin.len_ #[t] ty #[u]).run P w = .ok z w ∧ Rel p w r z := by
  unfold pLen at h
  split at h
  · rename_i hd
    simp only [Option.some.injEq, Prod.mk.injEq] at h
    obtain ⟨rfl, rfl⟩ := h
    simp only [Rel] at hx
    obtain ⟨A, c, rfl, _⟩ := hx
    refine ⟨_, ?_, Rel.vv _⟩
    simp [Builtin.len_, Tab.und_slice ht hd, goInt]
  · rename_i hd
    simp only [Option.some.injEq, Prod.mk.injEq] at h
    obtain ⟨rfl, rfl⟩ := h
    simp only [Rel] at hx; subst hx
    refine ⟨_, ?_, Rel.vv _⟩
    simp [Builtin.len_, Tab.und_slice ht hd, goInt]
  · rename_i hd
    simp only [Option.some.injEq, Prod.mk.injEq] at h
    obtain ⟨rfl, rfl⟩ := h
    simp only [Rel] at hx; subst hx
    refine ⟨_, ?_, Rel.vv _⟩
    simp [Builtin.len_, Tab.und_str ht hd, goInt]
  · exact absurd h (by simp)

end Go.Proofs.YtgnfjahkhhkmoaaDoor.V
