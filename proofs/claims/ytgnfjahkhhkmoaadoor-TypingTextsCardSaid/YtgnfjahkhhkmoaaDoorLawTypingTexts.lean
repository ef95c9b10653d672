/- 'TypingTexts' answers true at every input, and every argument reads behind the call as it read before. The package variables that it reads hold what the program's text lays in them (the card ties that). No further condition. -/
import Derived.Test.YtgnfjahkhhkmoaaDoorRows
import Derived.Test.YtgnfjahkhhkmoaaDoorC10
import Derived.WalkKit
import Derived.ProofKit
import Derived.OpenShut
import Derived.ShutString
import Derived.ChangeOld
import Derived.Below
import Derived.SizedLaws
import Derived.LaidMore
import Derived.Stop.Joined
import Derived.MakeChecks
import Derived.Lib.LaidTab
import Derived.Stop.LaidErr
import Derived.SevenTiedAt
import Derived.Test.YtgnfjahkhhkmoaaDoorTie
import Derived.Test.YtgnfjahkhhkmoaaDoorCards
namespace Go.Proofs.YtgnfjahkhhkmoaaDoor.typingTexts
open Go.ChangeShapes Go.WideShapes Go.ChangeAt Go.RowKit
open Go.ChangeMaps (open_string shut_string)
set_option linter.unusedVariables false
theorem own : ownKnob Tryd.prog.godebug = none := by kernel_rfl
theorem rows : ∀ t, t ∈ Tryd.f3.params.toList → Tryd.prog.readableRec t = true ∧ t < Tryd.prog.types.size := by
  intro t ht
  rw [Tryd.params3] at ht
  have h : t = 22 ∨ t = 25 ∨ t = 3 := by simpa using ht
  rcases h with rfl | rfl | rfl <;> exact ⟨by kernel_rfl, of_decide_eq_true (by kernel_rfl)⟩
abbrev listed : List (String × DataW Unit) := [("math/bits.deBruijn32tab", Rows.laid_math_bits_deBruijn32tab), ("math/bits.deBruijn64tab", Rows.laid_math_bits_deBruijn64tab), ("internal/strconv.uint64pow10", Rows.laid_internal_strconv_uint64pow10)]
theorem door_met (os : Os) (args : Array Value) : laidMetH Tryd.prog listed ((World.doorLaid Tryd.prog 24 os).forCall (fun _ _ => 0) ⟨#[], args, []⟩).memory :=
  laidMetH_of_parts3 (fuel := 8) (laidMet_of_run' 8 (by kernel_rfl) (by kernel_rfl)) (by kernel_rfl) (by kernel_rfl)
theorem glob {W : World} (h : laidMetH Tryd.prog listed W) : ∀ e, e ∈ V.globs → e.1 < W.heap.size ∧ e.2 W.heap[e.1]? := by
  rw [MakeChecks.laidMetH_plain _ _ _ (by kernel_rfl)] at h
  have ht : Lib.TabIs Tryd.prog W "internal/strconv.uint64pow10" .u64 Lib.pow10Tab := Lib.tabIs_of_head (g := 0) (t := 65) (e := 57) (n := 20) (by kernel_rfl) (by kernel_rfl) Tryd.underlying65 Tryd.underlying57 (by kernel_rfl) (by kernel_rfl) h.tail.tail
  unfold Lib.TabIs World.var? at ht
  rw [show Tryd.prog.globalNamed "internal/strconv.uint64pow10" = some 0 from by kernel_rfl] at ht
  simp only [Option.bind_some] at ht
  intro e he
  simp only [V.globs, List.mem_singleton] at he
  subst he
  simp only []
  cases hh : W.heap[0]? with
  | none => rw [hh] at ht; exact absurd ht (by simp)
  | some o =>
    have hlt : 0 < W.heap.size := by
      rcases Nat.lt_or_ge 0 W.heap.size with h | h
      · exact h
      · rw [Array.getElem?_eq_none h] at hh; exact absurd hh (by simp)
    refine ⟨hlt, ?_⟩
    rw [hh] at ht
    cases o with
    | cells cs t q =>
      simp only [Option.some.injEq] at ht
      exact ⟨t, q, by rw [ht]; rfl⟩
    | _ => exact absurd ht (by simp)
set_option maxRecDepth 100000 in
theorem lifted (os : Os) (started : os.Started) (H : Type) (enc : TypeId × Value → H) :
    ReturnsInHanded {} Tryd.checked os 3 .any (fun w args => (Rows.typingTextsSpec.pre enc Tryd.prog Tryd.f3 [] false w args ∧ laidMetH Tryd.prog listed w) ∧ sizedMet enc Tryd.prog Tryd.f3 (OpenSpec.ofChange Rows.typingTextsSpec) false w args) (Rows.typingTextsSpec.post enc Tryd.prog Tryd.f3 false true false false) := by
  refine returnsInHanded_of_change_and (C := Tryd.checked) (X := fun w _ => laidMetH Tryd.prog listed w) (fun _ _ _ hh h => h.of_heap hh) own started (by kernel_rfl) Tryd.func3
    (ChangeSpec.witness_shaped (enc := enc) (C := Tryd.checked) (os := os) (X := fun w _ => laidMetH Tryd.prog listed w) false (World.doorLaid Tryd.prog 24 os) #[.slice none 0 0, .agg #[.int .i64 0, .int .i64 0, .slice none 0 0], .int .i64 0] 8 rfl (World.shaped_of_RefB (by kernel_rfl) (by kernel_rfl)) (by kernel_rfl) (by kernel_rfl) (by kernel_rfl) (door_met os _)) ?_
  intro W base args ds gs before hval0 hW hcnd hsz0 hL _
  have hval : ∀ (j : Nat) t v, Tryd.f3.params[j]? = some t → args[j]? = some v → Value.okWide Tryd.prog W .any base t v := hval0
  have hW' := hW
  obtain ⟨p, q, hA0, hV, rfl, hfz, hnd⟩ := hW
  have hlt := DataW.TrodAll.lt hA0
  have hA : DataW.TrodAll enc Tryd.prog W 0 (fun _ => true) true Tryd.f3.params.toList args.toList ds p := hA0
  rw [Tryd.params3] at hA hval
  obtain ⟨v0, vs0, d0, ds0, p0, q0, hargs0, rfl, rfl, t0, r0⟩ := trodAll_cons hA
  obtain ⟨v1, vs1, d1, ds1, p1, q1, hargs1, rfl, rfl, t1, r1⟩ := trodAll_cons r0
  obtain ⟨v2, vs2, d2, ds2, p2, q2, hargs2, rfl, rfl, t2, r2⟩ := trodAll_cons r1
  obtain ⟨rfl, rfl, rfl⟩ := trodAll_nil r2
  obtain rfl : args = #[v0, v1, v2] := by cases args; simp_all
  obtain ⟨rfl, rfl⟩ := trodVars_none hV
  obtain ⟨a0, e0, g0⟩ := V.open_one (m := 0) (fun m => V.op_data m) (V.one_of Tryd.underlying22 (hval 0 22 v0 rfl rfl)) t0
  obtain ⟨c1, hc1⟩ := V.agg_of Tryd.underlying25 (hval 1 25 v1 rfl rfl)
  obtain ⟨a1, e1, g1⟩ := V.open_agg (fun m => V.op_ty m) hc1 t1
  obtain ⟨a2, e2, g2⟩ := V.open_one (m := 0) (fun m => V.op_int Tryd.underlying3 m) (V.one_int Tryd.underlying3 (hval 2 3 v2 rfl rfl)) t2
  refine (V.row (V.textsLaw_c a0 a1 a2) W (vs := [v0, v1, v2]) (V.RelL.cons e0 (V.RelL.cons e1 (V.RelL.cons e2 V.RelL.nil))) (glob hL)).mono fun e W' ⟨he, bel⟩ => ?_
  subst he
  exact ⟨_, rfl, _, _, _, [], _, [], hW', trodAll_mk1 (shut_bool Tryd.underlying4 _), V.below_all (by kernel_rfl) bel rows hA0 hlt, rfl, bel.frame _, fun h => by cases h⟩
theorem over : Rows.typingTextsRow.holds Tryd.pinned (OpenSpec.ofChange Rows.typingTextsSpec) :=
  OpenClaim.holds_of_wide 3 Tryd.f3 rfl rfl rfl rfl rfl rfl rfl ⟨rfl, rfl, rfl, rfl, rfl⟩ rfl rfl rfl rfl rfl (by kernel_rfl) Tryd.func3 (by kernel_rfl)
    (of_decide_eq_true (by kernel_rfl)) (by unfold Func.isWrapper; first | (rw [if_pos (by decide +kernel)]; kernel_rfl) | (rw [if_neg (by decide +kernel)]; exact ⟨rfl, rfl⟩))
    (fun os started H enc _ => lifted os started H enc)
theorem card_holds : Rows.TypingTextsCardSaid :=
  Claim7.holds_tied_plain_at .later [] [.data, .data, .data] true (true, "b75ea573b2fa8e27be2710b1a18bb4d8e830c883db44dd0053d969424351f80b") false
    over (fun _ h => by cases h) (by kernel_rfl) (fun _ h => by cases h) typingTexts_row_tie rfl ⟨rfl, rfl⟩ (by kernel_rfl) rfl
    (fun f fn hf hfn => by
      obtain rfl : f = 3 := Option.some.inj ((show Tryd.prog.funcNamed "amortcost/amortcostlaw06.TypingTexts" = some 3 by kernel_rfl).symm.trans hf) |>.symm
      obtain rfl : fn = Tryd.f3 := (Option.some.inj (Tryd.func3.symm.trans hfn)).symm
      exact ⟨by kernel_rfl, fun j t ht => by
        rw [Tryd.params3] at ht
        have hm : t ∈ ([22, 25, 3] : List Nat) := by simpa using Array.mem_of_getElem? ht
        have hall : (([22, 25, 3] : List Nat).all fun u => !Tryd.prog.wantsStandIn u) = true := by kernel_rfl
        exact (show Tryd.prog.wantsStandIn t = false by simpa using List.all_eq_true.1 hall t hm)⟩)
    (by kernel_rfl)
end Go.Proofs.YtgnfjahkhhkmoaaDoor.typingTexts
namespace Go.Proofs.YtgnfjahkhhkmoaaDoor
/-- The tied card, under a short name, for the claim. -/
theorem typingTexts_holds : Rows.TypingTextsCardSaid := typingTexts.card_holds
#print axioms typingTexts_holds
end Go.Proofs.YtgnfjahkhhkmoaaDoor
