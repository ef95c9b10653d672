/- Contracts of the library that stand in the kit, as pure calls. No condition. -/
import Derived.Test.YtgnfjahkhhkmoaaDoorVCall
import Derived.Test.YtgnfjahkhhkmoaaDoorShelf
import Derived.Below
import Derived.KernelRfl
namespace Go.Proofs.YtgnfjahkhhkmoaaDoor.V
open Go Go.RowKit
set_option linter.unusedVariables false
set_option linter.unusedSimpArgs false
theorem PCalls.below {P : Program} {f : FuncId} {avs : List AV} {v : Value} (h : ∀ p w vs, RelL p w avs vs → PBk p w → Calls P f vs.toArray w fun e w' => e = .returned v ∧ Below w.heap.size w w') : PCalls P f avs (.v v) := by
  intro p w vs hr hx hb
  refine (h p w vs hr hb).mono ?_
  rintro e w' ⟨rfl, hw⟩
  exact ⟨v, p, .v v, XH.none, rfl, Rel.vv _, fun r o e => by simp [XH.none] at e, hb.go (fun _ h => h) (fun b hb' => hw.block b (hb b hb')) (fun b hb' => Nat.lt_of_lt_of_le (hb b hb') hw.size), ⟨fun _ h => h, fun b hb' _ => hw.block b hb', fun b hb' => absurd rfl hb', hw.size, fun b hb' => .inl hb', ⟨hw.os, hw.tape, hw.output⟩⟩, rfl⟩
theorem relL_strs {p : PB} {w : World} : ∀ {xs : List ByteArray} {ys : List Value}, RelL p w (strs xs) ys → ys = xs.map .string
  | [], _, h => by simp only [strs, List.map_nil, RelL] at h; rw [h]; rfl
  | x :: xs, _, h => by
    simp only [strs, List.map_cons, RelL] at h
    obtain ⟨y, r, rfl, h1, h2⟩ := h
    simp only [Rel] at h1
    rw [h1, relL_strs (xs := xs) h2]; rfl
def joinS (xs : List ByteArray) (sep : ByteArray) : ByteArray := ⟨(Lib.join (xs.map (·.data.toList)) sep.data.toList).toArray⟩
theorem Join_c (xs : List ByteArray) (sep : ByteArray) (ta : Bool) (hN : xs.length ≤ 140737488355328) (hl : (Lib.join (xs.map (·.data.toList)) sep.data.toList).length ≤ 140737488355328) : PCalls Tryd.prog 24 [.sl ta xs.length (strs xs), .v (.string sep)] (.v (.string (joinS xs sep))) := by
  refine PCalls.below fun p w vs hr hb => ?_
  simp only [RelL] at hr
  obtain ⟨y, r, rfl, h1, z, r2, rfl, h2, rfl⟩ := hr
  simp only [Rel] at h1 h2
  obtain ⟨A, c, rfl, hc, _, h3⟩ := h1
  subst h2
  cases xs with
  | nil =>
    refine (Tryd.strings_Join_none A c sep w).mono ?_
    rintro e w' ⟨rfl, rfl⟩
    exact ⟨rfl, Below.refl _ _⟩
  | cons x xs =>
    rcases h3 with h3 | ⟨b, off, ys, rfl, hp, hcells, hl'⟩
    · simp [strs] at h3
    · have e := relL_strs hl'
      subst e
      refine (Tryd.strings_Join b off c (x :: xs) sep w (fun j s hj => ?_) (hb b hp) hN hc hl)
      exact hcells j (.string s) (by rw [List.getElem?_map, hj]; rfl)
def itoaS (n : Int) : ByteArray := ⟨(Lib.itoa n).toArray⟩
theorem Itoa_c (n : Int) (h0 : -9223372036854775808 ≤ n) (h1 : n ≤ 9223372036854775807) : PCalls Tryd.prog 19 [.v (.int .i64 n)] (.v (.string (itoaS n))) := by
  refine PCalls.below fun p w vs hr hb => ?_
  simp only [RelL, Rel] at hr
  obtain ⟨y, r, rfl, rfl, rfl⟩ := hr
  have ht : Lib.TabIs Tryd.prog w "internal/strconv.uint64pow10" .u64 Lib.pow10Tab := by
    obtain ⟨_, t, q, hq⟩ := hb.gl _ (List.Mem.head _)
    unfold Lib.TabIs World.var?
    rw [show Tryd.prog.globalNamed "internal/strconv.uint64pow10" = some 0 from by kernel_rfl]
    simp only [Option.bind_some]
    simp only [] at hq
    rw [hq]; rfl
  refine (Tryd.strconv_Itoa n h0 h1 w ht).mono ?_
  rintro e w' ⟨rfl, k, os, rfl⟩
  refine ⟨rfl, rfl, rfl, rfl, ?_, fun b hb' => ?_⟩
  · show w.heap.size ≤ (w.heap ++ os).size
    rw [Array.size_append]; omega
  · show (w.heap ++ os)[b]? = w.heap[b]?
    rw [Array.getElem?_append_left hb']
end Go.Proofs.YtgnfjahkhhkmoaaDoor.V
