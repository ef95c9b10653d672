import Derived.Test.YtgnfjahkhhkmoaaDoorB1
namespace Go.Proofs.YtgnfjahkhhkmoaaDoor.V
open Go
set_option linter.unusedSimpArgs false
set_option linter.unusedVariables false

mutual
theorem typF_size : ∀ (t : Ty) (n : Int), 0 ≤ n → (typF t n).1 = true → (typF t n).2 = n - t.size
  | .mk _ _ l, n, h, hg => by
    simp only [typF] at hg ⊢
    split at hg
    · exact absurd hg (by simp)
    · rename_i h0
      rw [if_neg h0, typsF_size l (n - 1) (by omega) hg]
      simp only [Ty.size]; omega
theorem typsF_size : ∀ (l : List Ty) (n : Int), 0 ≤ n → (typsF l n).1 = true → (typsF l n).2 = n - Ty.sizes l
  | [], n, h, hg => by simp [typsF, Ty.sizes]
  | t :: l, n, h, hg => by
    simp only [typsF] at hg ⊢
    split at hg
    · rename_i h1
      rw [if_pos h1, typsF_size l _ ((typF_le t n h).2.2 h1) hg, typF_size t n h h1]
      simp only [Ty.sizes]; omega
    · exact absurd hg (by simp)
end
theorem typF_ok {t : Ty} {n : Int} (h : 0 ≤ n) (hg : (typF t n).1 = true) : (t.size : Int) ≤ n := by
  have h1 := typF_size t n h hg
  have h2 := (typF_le t n h).2.2 hg
  omega
theorem typsF_ok {l : List Ty} {n : Int} (h : 0 ≤ n) (hg : (typsF l n).1 = true) : (Ty.sizes l : Int) ≤ n := by
  have h1 := typsF_size l n h hg
  have h2 := (typsF_le l n h).2.2 hg
  omega
theorem Type_c (t : Ty) : PCalls Tryd.prog 5 [.agg t.enc] (.v (.bool (typF t 250).1)) := by
  rcases t with ⟨k, nu, l⟩
  refine calls_body td_ok Tryd.func5 rfl rfl rfl ?_
  refine AWP_seq ?_
  refine AWP_region ?_
  refine st_box td_ok rfl rfl rfl rfl rfl rfl (by ((repeat' with_reducible apply And.intro) <;> exact rfl)) fun r1 hr1 => ?_
  refine st td_ok rfl rfl rfl rfl (r := .v _) rfl trivial ?_
  refine AOps_nil ?_
  refine qn ?_
  refine AWP_seq ?_
  refine AWP_region ?_
  refine st_alloc td_ok rfl rfl rfl rfl rfl rfl (zs := [.v _]) rfl fun r3 hr3 => ?_
  refine st_store td_ok rfl rfl rfl rfl rfl rfl XH.put_same rfl (by ((repeat' with_reducible apply And.intro) <;> exact rfl)) (Nat.le_of_ble_eq_true rfl) (cs' := [.v _]) (T' := 3) rfl rfl ?_
  refine AOps_nil ?_
  refine qn ?_
  refine AWP_seq ?_
  refine AWP_region ?_
  refine st_own (r := .agg [.v _, .v _, _]) td_ok rfl rfl rfl rfl rfl rfl rfl (XH.put_ne (by (first | assumption | exact Ne.symm (by assumption) | (intro h; simp [XH.put, h] at *; done))) (XH.put_ne (by (first | assumption | exact Ne.symm (by assumption) | (intro h; simp [XH.put, h] at *; done))) XH.put_same)) (Nat.le_of_ble_eq_true rfl) rfl  ?_
  refine st_call rfl rfl rfl rfl rfl rfl rfl ⟨_, rfl, rfl, rfl⟩ (ACalls.mono (ACalls.cell (typ_c ((Ty.mk k nu l).size + 1) (Ty.mk k nu l) 250 r3 (by omega) (by decide) (by decide)) XH.put_same) ?_)
  rintro av X' ⟨o', rfl, rfl, rfl⟩
  refine st td_ok rfl rfl rfl rfl (r := .v _) rfl trivial ?_
  refine AOps_nil ?_
  refine qn ?_
  refine AWP_ret ?_
  refine ⟨_, _, _, _, rfl, trivial, GS.forget _ _, ?_⟩
  first | show AV.v _ = _ | show AV.tup _ = _ | show AV.sl _ _ _ = _ | show AV.agg _ = _ | skip
  first | exact ⟨rfl, rfl⟩ | rfl
end Go.Proofs.YtgnfjahkhhkmoaaDoor.V
