/- From a contract to what the row's proof wants: the call returns true and below the heap's size all is as it was. -/
import Derived.Test.YtgnfjahkhhkmoaaDoorVStep
import Derived.Below
namespace Go.Proofs.YtgnfjahkhhkmoaaDoor.V
open Go Go.RowKit
theorem row {P : Program} {f : FuncId} {avs : List AV} {vs : List Value} (h : ACalls P f avs XH.none fun r _ => r = .v (.bool true)) (w : World) (hr : RelL (fun b => b < w.heap.size) w avs vs) (hg : ∀ e, e ∈ globs → e.1 < w.heap.size ∧ e.2 w.heap[e.1]? := by (intro e he; simp [globs] at he)) :
    Calls P f vs.toArray w fun e w' => e = .returned (.bool true) ∧ Below w.heap.size w w' := by
  refine (h (fun b => b < w.heap.size) w vs hr (fun r o e => by simp [XH.none] at e) ⟨fun _ hb => hb, hg⟩).mono ?_
  rintro e w' ⟨v, p', av, X', rfl, h1, h2, h3, f, rfl⟩
  simp only [Rel] at h1
  subst h1
  exact ⟨rfl, ⟨f.outs.1, f.outs.2.1, f.outs.2.2, f.size, fun k hk => f.same k hk rfl⟩⟩
end Go.Proofs.YtgnfjahkhhkmoaaDoor.V
