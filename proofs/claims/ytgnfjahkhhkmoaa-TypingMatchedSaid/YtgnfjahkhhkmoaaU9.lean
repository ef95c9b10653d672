import Derived.Test.YtgnfjahkhhkmoaaU8
import Derived.KernelRfl
namespace Go.Proofs.Ytgnfjahkhhkmoaa.V
open Go
set_option linter.unusedSimpArgs false
set_option linter.unusedVariables false
section
variable {H : Type} {enc : TypeId × Value → H} {w : World} {spare : Nat → Bool} {held : Bool}
theorem cells3 : Try.prog.cellsOf 3 = 1 := by kernel_rfl
theorem cells9 : Try.prog.cellsOf 9 = 1 := by kernel_rfl
theorem cells23 : Try.prog.cellsOf 23 = 1 := by kernel_rfl
theorem cells25 : Try.prog.cellsOf 25 = 3 := by kernel_rfl
theorem cells31 : Try.prog.cellsOf 31 = 2 := by kernel_rfl
theorem cells32 : Try.prog.cellsOf 32 = 1 := by kernel_rfl
theorem cells34 : Try.prog.cellsOf 34 = 3 := by kernel_rfl
theorem op_ty : ∀ m, Opens enc Try.prog w spare held m 25 Ty.enc (fun _ => True)
  | 0 => fun n hn => absurd hn (by omega)
  | m + 1 => by
    intro n hn cs x h
    obtain ⟨q, rfl, hl, hf⟩ := op_struct Try.underlying25 h
    obtain ⟨_, h0⟩ : ∃ y, DataW.trod enc Try.prog w 0 spare held q 3 ((cs.drop 0).take (Try.prog.cellsOf 3)) = some y := hf 0 _ rfl
    obtain ⟨_, h1⟩ : ∃ y, DataW.trod enc Try.prog w 0 spare held q 3 ((cs.drop 1).take (Try.prog.cellsOf 3)) = some y := hf 1 _ rfl
    obtain ⟨_, h2⟩ : ∃ y, DataW.trod enc Try.prog w 0 spare held q 23 ((cs.drop 2).take (Try.prog.cellsOf 23)) = some y := hf 2 _ rfl
    rw [cells3] at h0 h1
    rw [cells23] at h2
    rw [cells25] at hl
    obtain ⟨k, r0, _⟩ := op_int Try.underlying3 (q + 1) _ (by omega) _ _ h0
    obtain ⟨n, r1, _⟩ := op_int Try.underlying3 (q + 1) _ (by omega) _ _ h1
    obtain ⟨l, r2, _⟩ := op_slice Try.underlying23 cells25 (by decide) Ty.enc_len (op_ty m) _ (by omega) _ _ h2
    refine ⟨Ty.mk k n l, ?_, trivial⟩
    have := rel_cut r0 (rel_cut r1 (rel_cut r2 (rel_done (o := 0 + 1 + 1 + 1) (by omega))))
    simp only [Ty.enc, Ty.encs_flat]
    exact this
theorem op_con (m : Nat) : Opens enc Try.prog w spare held m 31 Con.enc (fun _ => True) := by
  intro n hn cs x h
  obtain ⟨q, rfl, hl, hf⟩ := op_struct Try.underlying31 h
  obtain ⟨_, h0⟩ : ∃ y, DataW.trod enc Try.prog w 0 spare held q 9 ((cs.drop 0).take (Try.prog.cellsOf 9)) = some y := hf 0 _ rfl
  obtain ⟨_, h1⟩ : ∃ y, DataW.trod enc Try.prog w 0 spare held q 23 ((cs.drop 1).take (Try.prog.cellsOf 23)) = some y := hf 1 _ rfl
  rw [cells9] at h0
  rw [cells23] at h1
  rw [cells31] at hl
  obtain ⟨nm, r0, _⟩ := op_str Try.underlying9 (q + 1) _ (by omega) _ _ h0
  obtain ⟨l, r1, _⟩ := op_slice Try.underlying23 cells25 (by decide) Ty.enc_len (op_ty q) _ (by omega) _ _ h1
  refine ⟨Con.mk nm l, ?_, trivial⟩
  have := rel_cut r0 (rel_cut r1 (rel_done (o := 0 + 1 + 1) (by omega)))
  simp only [Con.enc, Ty.encs_flat]
  exact this
theorem op_dat (m : Nat) : Opens enc Try.prog w spare held m 34 Dat.enc (fun _ => True) := by
  intro n hn cs x h
  obtain ⟨q, rfl, hl, hf⟩ := op_struct Try.underlying34 h
  obtain ⟨_, h0⟩ : ∃ y, DataW.trod enc Try.prog w 0 spare held q 9 ((cs.drop 0).take (Try.prog.cellsOf 9)) = some y := hf 0 _ rfl
  obtain ⟨_, h1⟩ : ∃ y, DataW.trod enc Try.prog w 0 spare held q 3 ((cs.drop 1).take (Try.prog.cellsOf 3)) = some y := hf 1 _ rfl
  obtain ⟨_, h2⟩ : ∃ y, DataW.trod enc Try.prog w 0 spare held q 32 ((cs.drop 2).take (Try.prog.cellsOf 32)) = some y := hf 2 _ rfl
  rw [cells9] at h0
  rw [cells3] at h1
  rw [cells32] at h2
  rw [cells34] at hl
  obtain ⟨nm, r0, _⟩ := op_str Try.underlying9 (q + 1) _ (by omega) _ _ h0
  obtain ⟨v, r1, _⟩ := op_int Try.underlying3 (q + 1) _ (by omega) _ _ h1
  obtain ⟨l, r2, _⟩ := op_slice Try.underlying32 cells31 (by decide) Con.enc_len (op_con q) _ (by omega) _ _ h2
  refine ⟨Dat.mk nm v l, ?_, trivial⟩
  have := rel_cut r0 (rel_cut r1 (rel_cut r2 (rel_done (o := 0 + 1 + 1 + 1) (by omega))))
  simp only [Dat.enc]
  exact this
theorem op_data (m : Nat) : Opens enc Try.prog w spare held m 22 (fun l : List Dat => [.sl false l.length (l.flatMap Dat.enc)]) (fun _ => True) := by
  intro n hn cs x h
  obtain ⟨l, r, _⟩ := op_slice Try.underlying22 cells34 (by decide) Dat.enc_len (op_dat m) n (by omega) cs x h
  exact ⟨l, r, trivial⟩
theorem op_tys (m : Nat) : Opens enc Try.prog w spare held m 23 (fun l : List Ty => [.sl false l.length (Ty.encs l)]) (fun _ => True) := by
  intro n hn cs x h
  obtain ⟨l, r, _⟩ := op_slice Try.underlying23 cells25 (by decide) Ty.enc_len (op_ty m) n (by omega) cs x h
  refine ⟨l, ?_, trivial⟩
  show RelL _ _ [.sl false l.length (Ty.encs l)] cs
  rw [Ty.encs_flat]; exact r
end
end Go.Proofs.Ytgnfjahkhhkmoaa.V
