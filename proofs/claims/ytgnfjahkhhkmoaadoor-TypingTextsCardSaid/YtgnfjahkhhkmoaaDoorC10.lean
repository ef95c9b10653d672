import Derived.Test.YtgnfjahkhhkmoaaDoorC9
import Derived.KernelRfl
namespace Go.Proofs.YtgnfjahkhhkmoaaDoor.V
open Go
set_option linter.unusedSimpArgs false
set_option linter.unusedVariables false
section
variable {H : Type} {enc : TypeId × Value → H} {w : World} {spare : Nat → Bool} {held : Bool}
theorem cellsX3 : Tryd.prog.cellsOf 3 = 1 := by kernel_rfl
theorem cellsX9 : Tryd.prog.cellsOf 9 = 1 := by kernel_rfl
theorem cellsX23 : Tryd.prog.cellsOf 23 = 1 := by kernel_rfl
theorem cellsX25 : Tryd.prog.cellsOf 25 = 3 := by kernel_rfl
theorem cellsX31 : Tryd.prog.cellsOf 34 = 2 := by kernel_rfl
theorem cellsX32 : Tryd.prog.cellsOf 30 = 1 := by kernel_rfl
theorem cellsX34 : Tryd.prog.cellsOf 32 = 3 := by kernel_rfl
theorem op_ty : ∀ m, Opens enc Tryd.prog w spare held m 25 Ty.enc (fun _ => True)
  | 0 => fun n hn => absurd hn (by omega)
  | m + 1 => by
    intro n hn cs x h
    obtain ⟨q, rfl, hl, hf⟩ := op_struct Tryd.underlying25 h
    obtain ⟨_, h0⟩ : ∃ y, DataW.trod enc Tryd.prog w 0 spare held q 3 ((cs.drop 0).take (Tryd.prog.cellsOf 3)) = some y := hf 0 _ rfl
    obtain ⟨_, h1⟩ : ∃ y, DataW.trod enc Tryd.prog w 0 spare held q 3 ((cs.drop 1).take (Tryd.prog.cellsOf 3)) = some y := hf 1 _ rfl
    obtain ⟨_, h2⟩ : ∃ y, DataW.trod enc Tryd.prog w 0 spare held q 23 ((cs.drop 2).take (Tryd.prog.cellsOf 23)) = some y := hf 2 _ rfl
    rw [cellsX3] at h0 h1
    rw [cellsX23] at h2
    rw [cellsX25] at hl
    obtain ⟨k, r0, _⟩ := op_int Tryd.underlying3 (q + 1) _ (by omega) _ _ h0
    obtain ⟨n, r1, _⟩ := op_int Tryd.underlying3 (q + 1) _ (by omega) _ _ h1
    obtain ⟨l, r2, _⟩ := op_slice Tryd.underlying23 cellsX25 (by decide) Ty.enc_len (op_ty m) _ (by omega) _ _ h2
    refine ⟨Ty.mk k n l, ?_, trivial⟩
    have := rel_cut r0 (rel_cut r1 (rel_cut r2 (rel_done (o := 0 + 1 + 1 + 1) (by omega))))
    simp only [Ty.enc, Ty.encs_flat]
    exact this
theorem op_con (m : Nat) : Opens enc Tryd.prog w spare held m 34 Con.enc (fun _ => True) := by
  intro n hn cs x h
  obtain ⟨q, rfl, hl, hf⟩ := op_struct Tryd.underlying34 h
  obtain ⟨_, h0⟩ : ∃ y, DataW.trod enc Tryd.prog w 0 spare held q 9 ((cs.drop 0).take (Tryd.prog.cellsOf 9)) = some y := hf 0 _ rfl
  obtain ⟨_, h1⟩ : ∃ y, DataW.trod enc Tryd.prog w 0 spare held q 23 ((cs.drop 1).take (Tryd.prog.cellsOf 23)) = some y := hf 1 _ rfl
  rw [cellsX9] at h0
  rw [cellsX23] at h1
  rw [cellsX31] at hl
  obtain ⟨nm, r0, _⟩ := op_str Tryd.underlying9 (q + 1) _ (by omega) _ _ h0
  obtain ⟨l, r1, _⟩ := op_slice Tryd.underlying23 cellsX25 (by decide) Ty.enc_len (op_ty q) _ (by omega) _ _ h1
  refine ⟨Con.mk nm l, ?_, trivial⟩
  have := rel_cut r0 (rel_cut r1 (rel_done (o := 0 + 1 + 1) (by omega)))
  simp only [Con.enc, Ty.encs_flat]
  exact this
theorem op_dat (m : Nat) : Opens enc Tryd.prog w spare held m 32 Dat.enc (fun _ => True) := by
  intro n hn cs x h
  obtain ⟨q, rfl, hl, hf⟩ := op_struct Tryd.underlying32 h
  obtain ⟨_, h0⟩ : ∃ y, DataW.trod enc Tryd.prog w 0 spare held q 9 ((cs.drop 0).take (Tryd.prog.cellsOf 9)) = some y := hf 0 _ rfl
  obtain ⟨_, h1⟩ : ∃ y, DataW.trod enc Tryd.prog w 0 spare held q 3 ((cs.drop 1).take (Tryd.prog.cellsOf 3)) = some y := hf 1 _ rfl
  obtain ⟨_, h2⟩ : ∃ y, DataW.trod enc Tryd.prog w 0 spare held q 30 ((cs.drop 2).take (Tryd.prog.cellsOf 30)) = some y := hf 2 _ rfl
  rw [cellsX9] at h0
  rw [cellsX3] at h1
  rw [cellsX32] at h2
  rw [cellsX34] at hl
  obtain ⟨nm, r0, _⟩ := op_str Tryd.underlying9 (q + 1) _ (by omega) _ _ h0
  obtain ⟨v, r1, _⟩ := op_int Tryd.underlying3 (q + 1) _ (by omega) _ _ h1
  obtain ⟨l, r2, _⟩ := op_slice Tryd.underlying30 cellsX31 (by decide) Con.enc_len (op_con q) _ (by omega) _ _ h2
  refine ⟨Dat.mk nm v l, ?_, trivial⟩
  have := rel_cut r0 (rel_cut r1 (rel_cut r2 (rel_done (o := 0 + 1 + 1 + 1) (by omega))))
  simp only [Dat.enc]
  exact this
theorem op_data (m : Nat) : Opens enc Tryd.prog w spare held m 22 (fun l : List Dat => [.sl false l.length (l.flatMap Dat.enc)]) (fun _ => True) := by
  intro n hn cs x h
  obtain ⟨l, r, _⟩ := op_slice Tryd.underlying22 cellsX34 (by decide) Dat.enc_len (op_dat m) n (by omega) cs x h
  exact ⟨l, r, trivial⟩
theorem op_tys (m : Nat) : Opens enc Tryd.prog w spare held m 23 (fun l : List Ty => [.sl false l.length (Ty.encs l)]) (fun _ => True) := by
  intro n hn cs x h
  obtain ⟨l, r, _⟩ := op_slice Tryd.underlying23 cellsX25 (by decide) Ty.enc_len (op_ty m) n (by omega) cs x h
  refine ⟨l, ?_, trivial⟩
  show RelL _ _ [.sl false l.length (Ty.encs l)] cs
  rw [Ty.encs_flat]; exact r
end
end Go.Proofs.YtgnfjahkhhkmoaaDoor.V
