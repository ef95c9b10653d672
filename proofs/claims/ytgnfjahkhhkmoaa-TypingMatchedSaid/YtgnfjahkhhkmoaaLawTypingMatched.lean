/- 'TypingMatched' answers true at every input, and every argument reads behind the call as it read before. No further condition. -/
import Derived.Test.YtgnfjahkhhkmoaaRows
import Derived.Test.YtgnfjahkhhkmoaaU14
import Derived.WalkKit
import Derived.ProofKit
import Derived.OpenShut
import Derived.ShutString
import Derived.ChangeOld
import Derived.Below
import Derived.SizedLaws
namespace Go.Proofs.Ytgnfjahkhhkmoaa.typingMatched
open Go.ChangeShapes Go.WideShapes Go.ChangeAt Go.RowKit
open Go.ChangeMaps (open_string shut_string)
set_option linter.unusedVariables false
theorem own : ownKnob Try.prog.godebug = none := by kernel_rfl
theorem rows : ∀ t, t ∈ Try.f4.params.toList → Try.prog.readableRec t = true ∧ t < Try.prog.types.size := by
  intro t ht
  rw [Try.params4] at ht
  have h : t = 25 ∨ t = 25 ∨ t = 23 := by simpa using ht
  rcases h with rfl | rfl | rfl <;> exact ⟨by kernel_rfl, of_decide_eq_true (by kernel_rfl)⟩
set_option maxRecDepth 100000 in
theorem lifted (os : Os) (started : os.Started) (H : Type) (enc : TypeId × Value → H) :
    ReturnsInHanded {} Try.checked os 4 .any (Rows.typingMatchedSpec.pre6 enc Try.prog Try.f4 Rows.typingMatchedRow.domain false) (Rows.typingMatchedSpec.post enc Try.prog Try.f4 false true false false) := by
  refine returnsInHanded_of_change_sized (C := Try.checked) own started (by kernel_rfl) Try.func4
    (ChangeSpec.witness6 (enc := enc) (C := Try.checked) false ⟨#[], #[.agg #[.int .i64 0, .int .i64 0, .slice none 0 0], .agg #[.int .i64 0, .int .i64 0, .slice none 0 0], .slice none 0 0], []⟩ 8 (by kernel_rfl) (by kernel_rfl) (by kernel_rfl) (by kernel_rfl)) ?_
  intro W base args ds gs before hval0 hW hcnd hsz0 _
  have hval : ∀ (j : Nat) t v, Try.f4.params[j]? = some t → args[j]? = some v → Value.okWide Try.prog W .any base t v := hval0
  have hW' := hW
  obtain ⟨p, q, hA0, hV, rfl, hfz, hnd⟩ := hW
  have hlt := DataW.TrodAll.lt hA0
  have hA : DataW.TrodAll enc Try.prog W 0 (fun _ => true) true Try.f4.params.toList args.toList ds p := hA0
  rw [Try.params4] at hA hval
  obtain ⟨v0, vs0, d0, ds0, p0, q0, hargs0, rfl, rfl, t0, r0⟩ := trodAll_cons hA
  obtain ⟨v1, vs1, d1, ds1, p1, q1, hargs1, rfl, rfl, t1, r1⟩ := trodAll_cons r0
  obtain ⟨v2, vs2, d2, ds2, p2, q2, hargs2, rfl, rfl, t2, r2⟩ := trodAll_cons r1
  obtain ⟨rfl, rfl, rfl⟩ := trodAll_nil r2
  obtain rfl : args = #[v0, v1, v2] := by cases args; simp_all
  obtain ⟨rfl, rfl⟩ := trodVars_none hV
  obtain ⟨c0, hc0⟩ := V.agg_of Try.underlying25 (hval 0 25 v0 rfl rfl)
  obtain ⟨a0, e0, g0⟩ := V.open_agg (fun m => V.op_ty m) hc0 t0
  obtain ⟨c1, hc1⟩ := V.agg_of Try.underlying25 (hval 1 25 v1 rfl rfl)
  obtain ⟨a1, e1, g1⟩ := V.open_agg (fun m => V.op_ty m) hc1 t1
  obtain ⟨a2, e2, g2⟩ := V.open_one (m := 0) (fun m => V.op_tys m) (V.one_of Try.underlying23 (hval 2 23 v2 rfl rfl)) t2
  refine (V.row (V.matched_c a0 a1 a2) W (vs := [v0, v1, v2]) (V.RelL.cons e0 (V.RelL.cons e1 (V.RelL.cons e2 V.RelL.nil)))).mono fun e W' ⟨he, bel⟩ => ?_
  subst he
  exact ⟨_, rfl, _, _, _, [], _, [], hW', trodAll_mk1 (shut_bool Try.underlying4 _), V.below_all (by kernel_rfl) bel rows hA0 hlt, rfl, bel.frame _, fun h => by cases h⟩
theorem over : Rows.typingMatchedRow.holds Try.pinned (OpenSpec.ofChange Rows.typingMatchedSpec) :=
  OpenClaim.holds_of_wide 4 Try.f4 rfl rfl rfl rfl rfl rfl rfl ⟨rfl, rfl, rfl, rfl, rfl⟩ rfl rfl rfl rfl rfl (by kernel_rfl) Try.func4 (by kernel_rfl)
    (of_decide_eq_true (by kernel_rfl)) (by unfold Func.isWrapper; first | (rw [if_pos (by decide +kernel)]; kernel_rfl) | (rw [if_neg (by decide +kernel)]; exact ⟨rfl, rfl⟩))
    (fun os started H enc _ => lifted os started H enc)
theorem proved : Rows.TypingMatchedSaid := over
end Go.Proofs.Ytgnfjahkhhkmoaa.typingMatched
namespace Go.Proofs.Ytgnfjahkhhkmoaa
/-- The row, under a short name, for the claim. -/
theorem typingMatched_holds : Rows.TypingMatchedSaid := typingMatched.proved
#print axioms typingMatched_holds
end Go.Proofs.Ytgnfjahkhhkmoaa
