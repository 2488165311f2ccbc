/- A program with a statement more (f21). -/
import Derived.Test.YtaackmiajgapoaaDoorD43
set_option maxRecDepth 100000
set_option maxHeartbeats 16000000
set_option linter.unusedSimpArgs false
set_option linter.unusedVariables false
namespace Go.Proofs.YtaackmiajgapoaaDoor.V
open Go
variable {G : Nat → Option (List PV)}

def moreT : DT := .im 13 (.pu 14 (.pu 15 (.im 16 .nil .nil))) .nil
def moreTree : DT := .pu 0 (.pu 1 (.pu 2 (.pu 4 (.pu 5 (.pu 6 (.pu 7 (.pu 8 (.pu 9 (.pu 11 (.im 3 (.im 10 (.im 12 moreT .nil) (.im 12 (.im 10 moreT .nil) .nil)) (.im 12 (.im 3 (.im 10 moreT .nil) .nil) .nil)))))))))))

theorem more_c (p : Pg) (s : St) (h0 : 0 < p.funcs.length) (hf : p.funcs.length ≤ 70) (hb : (lastF p).body.length ≤ 1000) : VPure Tryd.prog G 21 [.agg (encP p), .agg (encS s)] (.agg (encP (moreP p s))) := by
  refine VPure.of ?_ fun sh => ?_
  · refine .agg _ ?_
    intro q hq
    simp only [encP, List.mem_cons, List.not_mem_nil, or_false] at hq
    rcases hq with rfl | rfl | rfl <;> exact .slice _
  refine VCalls_enter [] Tryd.func21 rfl (show 2 ≤ 34 by decide) ?_
  simp only [encP, encS_eq s]
  have hb1 : p.funcs.length * 128 ≤ 140737488355328 := by omega
  have hb3 : p.funcs.length * 96 ≤ 140737488355328 := by omega
  have hfive : ∀ f ∈ p.funcs, (encF f).length = 5 := fun _ _ => rfl
  have hb2 : p.funcs.length ≤ 9223372036854775807 := by omega
  have hi : p.funcs.length - 1 < p.funcs.length := by omega
  have hw : IntKind.i64.wrap ((p.funcs.length : Int) - 1) = ((p.funcs.length - 1 : Nat) : Int) := by rw [wrap64_id (by omega) (by omega)]; omega
  have hb4 : (elm p.funcs (p.funcs.length - 1)).body.length ≤ 1000 := hb
  have hs5 : ∀ f : Fn, ∀ a ∈ f.body, (encS a).length = 5 := fun _ a _ => by rw [encS_eq]; rfl
  have hs6 : ∀ a ∈ (elm p.funcs (p.funcs.length - 1)).body, (encS a).length = 5 := hs5 _
  have hb5 : (elm p.funcs (p.funcs.length - 1)).body.length * 96 ≤ 140737488355328 := by omega
  have hb6 : (elm p.funcs (p.funcs.length - 1)).body.length ≤ 9223372036854775807 := by omega
  have hb7 : ((elm p.funcs (p.funcs.length - 1)).body.length + 1) * 96 ≤ 140737488355328 := by omega
  have hb8 : (elm p.funcs (p.funcs.length - 1)).body.length ≤ 9223372036854775806 := by omega
  refine vCode_sound (tab_ok []) _ _ _ ?_
  simp only [Tryd.f21, go_sem, Nat.reduceEqDiff, Nat.reduceLT, Nat.reduceLeDiff, Nat.reduceAdd, Nat.reduceSub, Nat.reduceMul, Nat.reduceBEq, Nat.reduceBNe, Int.reduceEq, Int.reduceToNat, Int.reduceNeg, ↓reduceIte, reduceCtorEq, Nat.reduceDiv, Nat.reduceMod, Int.reduceLE, Int.reduceLT, Int.reduceSub, Int.reduceAdd, vAppend, cv, asSlice, appendPre, hw, Nat.zero_add]
  repeat (first | intro _ | refine And.intro (by (intros; first | omega | (simp only [Bool.or_eq_false_iff, Bool.or_eq_true, decide_eq_false_iff_not, beq_iff_eq, Bool.and_eq_true, decide_eq_true_eq, Bool.not_eq_true'] at *; omega) | simp_all)) ?_)
  refine drawT_intro (tab_ok []) mixed [1, 14, 15] [3, 10, 12, 13] [8] moreTree rfl ?_
  simp only [Tryd.f21, go_sem, Nat.reduceEqDiff, Nat.reduceLT, Nat.reduceLeDiff, Nat.reduceAdd, Nat.reduceSub, Nat.reduceMul, Nat.reduceBEq, Nat.reduceBNe, Int.reduceEq, Int.reduceToNat, Int.reduceNeg, ↓reduceIte, reduceCtorEq, Nat.reduceDiv, Nat.reduceMod, Int.reduceLE, Int.reduceLT, Int.reduceSub, Int.reduceAdd, moreTree, moreT, vDT, vDAtC, DT.isNil, vAppend, cv, asSlice, appendPre, hw, hi, Nat.zero_add, vDC, vDOpC, viewC, bareC, keepT, chSame_mem]
  repeat (first | intro _ | refine And.intro (by (intros; first | omega | (simp only [Bool.or_eq_false_iff, Bool.or_eq_true, decide_eq_false_iff_not, beq_iff_eq, Bool.and_eq_true, decide_eq_true_eq, Bool.not_eq_true'] at *; omega) | simp_all)) ?_)
  have hset : (p.funcs.map encF).set (p.funcs.length - 1) (encF { elm p.funcs (p.funcs.length - 1) with body := (elm p.funcs (p.funcs.length - 1)).body ++ [s] }) = (moreP p s).funcs.map encF := by
    show _ = (p.funcs.set _ _).map encF
    rw [List.map_set]
    rfl
  rw [← hset]
  simp only [encF, List.map_append, List.map_cons, List.map_nil, encS_eq s]
  rfl
end Go.Proofs.YtaackmiajgapoaaDoor.V
