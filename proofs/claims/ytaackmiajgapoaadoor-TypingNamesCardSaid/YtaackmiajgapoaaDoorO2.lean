/- From a contract at the level of values to a law's run: nothing that was there has turned. -/
import Derived.Test.YtaackmiajgapoaaDoorO1
import Derived.Below
set_option linter.unusedVariables false
set_option linter.unusedSimpArgs false
namespace Go.Proofs.YtaackmiajgapoaaDoor.V
open Go Go.RowKit

theorem bridge {P : Program} {G : Nat → Option (List PV)} {f : FuncId} {args : List PV} {vs : Array Value} {W : World} {r : PV}
    (hG : ∀ g e, G g = some e → ∃ u : Nat → Value, ∀ k (h : k < e.length), memOf W g k = some (u k) ∧ RepV (memOf W) (e[k]) (u k))
    (h : VPure P G f args r) (hl : args.length = vs.size) (hr : ∀ i (h : i < args.length), RepS (memOf W) (fun _ => 0) 0 (args[i]) (vs.getD i undef)) :
    Calls P f vs W fun e w' => ∃ m' v, e = .returned v ∧ RepS m' (fun _ => 0) 0 r v ∧ Below W.heap.size W w' := by
  refine (h ⟨0, fun _ => none⟩ W ⟨memOf W, fun _ => 0, fun _ => .none, fun _ => 0, fun _ => none⟩ vs ⟨fun g o v e => e, hG, ?_, ?_, ?_⟩ (fun g => .inl rfl) hl hr).mono ?_
  · intro b cs e; cases e
  · intro g b e; cases e
  · intro g e; exact absurd rfl e
  · rintro e w' ⟨r', sh', gh', ⟨rfl, rfl⟩, ⟨v, hv, hrep⟩, hS, hO, hst⟩
    refine ⟨gh'.m, v, hv, hrep.mono (MemLe.refl _) (fun b hb => absurd hb (by show ¬ b < 0; omega)) (Nat.le_refl _), hst.os, hst.tape, hst.output, hst.size, fun k hk => (hst.blk k hk rfl).1⟩

theorem bridge_bool {P : Program} {G : Nat → Option (List PV)} {f : FuncId} {args : List PV} {vs : Array Value} {W : World} {b : Bool}
    (hG : ∀ g e, G g = some e → ∃ u : Nat → Value, ∀ k (h : k < e.length), memOf W g k = some (u k) ∧ RepV (memOf W) (e[k]) (u k))
    (h : VPure P G f args (.val (.bool b))) (hl : args.length = vs.size) (hr : ∀ i (h : i < args.length), RepS (memOf W) (fun _ => 0) 0 (args[i]) (vs.getD i undef)) :
    Calls P f vs W fun e w' => e = .returned (.bool b) ∧ Below W.heap.size W w' := by
  refine (bridge hG h hl hr).mono ?_
  rintro e w' ⟨m', v, rfl, hv, hb⟩
  refine ⟨?_, hb⟩
  cases hv with | pure hv => cases hv; rfl

/-- A struct that is handed over by its cells. -/
theorem RepCs.agg {m : Mem} {ps : List PV} {cs : Array Value} (h : RepCs m ps cs.toList) : RepS m (fun _ => 0) 0 (.agg ps) (.agg cs) := by
  have hl : ps.length = cs.size := by simpa using h.1
  refine .agg ps cs hl (fun i hi => ?_) (fun i hi => .pure ?_)
  · have := (h.2 i (by omega)).one
    rw [List.getD_eq_getElem?_getD] at this
    simpa [hi] using this
  · have := h.2 i hi
    rw [List.getD_eq_getElem?_getD] at this
    simpa [Array.getD_eq_getD_getElem?] using this
end Go.Proofs.YtaackmiajgapoaaDoor.V
