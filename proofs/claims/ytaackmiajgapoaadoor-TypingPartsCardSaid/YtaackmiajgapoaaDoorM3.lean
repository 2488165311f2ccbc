/- The library's Grow, of nothing. -/
import Derived.Test.YtaackmiajgapoaaDoorSh
import Derived.WalkKit
import Derived.OwnWalk
import Derived.Laws.MakeOwn
namespace Go.Proofs.YtaackmiajgapoaaDoor
open Go Go.RowKit Go.Proofs

theorem run_append_make {P : Program} (w : World) (t u ty e : TypeId) (k : IntKind) (i : TypeInfo) (z : Value) (ht : P.underlying t = some (.slice e)) (hu : P.underlying u = some (.int k)) (hi : P.info? e = some i) (hz : i.zero = some z)
    (n : Nat) (h0 : 0 < n) (h63 : (n : Int) ≤ 9223372036854775807) (h48 : n * i.bytes ≤ 281474976710656) (hs : 0 < i.size) :
    (Builtin.append_ #[t, u] ty #[.slice none 0 0, .int .i64 n]).run P w =
      .ok (.slice (some ⟨w.heap.size, 0, none⟩) n (grownCap w n 0 e)) (w.drew.alloc (.cells (Builtin.zeroCells z.cells n ++ Builtin.zeroCells z.cells (grownCap w n 0 e - n)) e)) := by
  have hn : n ≠ 0 := by omega
  have hns : ¬ n * i.size = 0 := by
    intro h
    rcases Nat.mul_eq_zero.1 h with h | h <;> omega
  have h63' : ¬ (9223372036854775807 < (n : Int)) := by omega
  have h48' : ¬ (281474976710656 < Builtin.nextslicecap n 0 * i.bytes) := by rw [nextslicecap_zero h0]; omega
  have hw : IntKind.i64.wrap (n : Int) = n := by rw [IntKind.wrap_i64]; omega
  have hneg : ¬ ((n : Int) < 0) := by omega
  have h48i : ¬ (281474976710656 < (n : Int) * (i.bytes : Int)) := by
    have : ((n * i.bytes : Nat) : Int) ≤ 281474976710656 := by omega
    rw [Int.natCast_mul] at this
    omega
  simp [Builtin.append_, run_underlying ht, run_underlying hu, sizeOf, typeInfo, zeroValue, hi, hz, asInt, asIntOf, hw, hneg, h48i, hn, hns, h63', h48', Question.forced, run_firstCells_none, newRow, grownCap]

theorem grow_zero (w : World) : Calls Tryd.prog 155 #[.slice none 0 0, .int .i64 0] w fun e w' => e = .returned (.slice none 0 0) ∧ w' = w := by
  go_enter Tryd.func155, Tryd.ntmps155
  go_wp2
  go_ret
  exact ⟨rfl, rfl⟩
theorem wpList_append_make {P : Program} {w : World} {ops : Array Oper} {rest : List Oper} {o : Oper} {a : Act} {Q : Exit → Act → World → Prop} (hgd : o.guard = none) (s x : Operand) (t u : TypeId)
    (ho : o.op = .call { callee := .builtin .append, args := #[s, x], argTypes := #[t, u] }) (e : TypeId) (k : IntKind) (i : TypeInfo) (z : Value) (ht : P.underlying t = some (.slice e)) (hu : P.underlying u = some (.int k)) (hi : P.info? e = some i) (hz : i.zero = some z)
    (n : Nat) (hs : a.eval s = .slice none 0 0) (hx : a.eval x = .int .i64 n) (h0 : 0 < n) (h63 : (n : Int) ≤ 9223372036854775807) (h48 : n * i.bytes ≤ 281474976710656) (hsz : 0 < i.size)
    (h : wpList P ops Q rest (a.put o.dst (.slice (some ⟨w.heap.size, 0, none⟩) n (grownCap w n 0 e))) (w.drew.alloc (.cells (Builtin.zeroCells z.cells n ++ Builtin.zeroCells z.cells (grownCap w n 0 e - n)) e))) : wpList P ops Q (o :: rest) a w := by
  refine wpList_plain hgd fun K hK => ?_
  have hrun := run_append_make (P := P) w t u o.type e k i z ht hu hi hz n h0 h63 h48 hsz
  unfold Oper.wp execOp
  simp only [ho, resolve, invoke, builtin, Sem.run_bind, Sem.run_pure, Result.andThen_ok, List.map_toArray, List.map_cons, List.map_nil, hs, hx, hrun]
  exact hK _ _ h
set_option maxHeartbeats 2000000 in
theorem grow_some (n : Nat) (h0 : 0 < n) (hn : n * 16 ≤ 140737488355328) (w : World) : Calls Tryd.prog 155 #[.slice none 0 0, .int .i64 n] w fun e w' =>
    e = .returned (.slice (some ⟨w.heap.size, 0, none⟩) 0 (grownCap w n 0 9)) ∧ w' = (w.alloc (.cells (Builtin.zeroCells #[.string ByteArray.empty] n ++ Builtin.zeroCells #[.string ByteArray.empty] (grownCap w n 0 9 - n)) 9)).drew := by
  have X : Aside (Tryd.prog.info? 9 = some Tryd.t9 ∧ Tryd.t9.zero = some (.string ByteArray.empty) ∧ (n : Int) ≤ 9223372036854775807 ∧ n * Tryd.t9.bytes ≤ 281474976710656 ∧ 0 < Tryd.t9.size) := by
    have hb : Tryd.t9.bytes = 16 := by kernel_rfl
    have hs : Tryd.t9.size = 1 := by kernel_rfl
    exact ⟨by kernel_rfl, by kernel_rfl, by omega, by rw [hb]; omega, by rw [hs]; omega⟩
  go_enter Tryd.func155, Tryd.ntmps155
  go_wp2_with (first
    | (at_builtin; refine wpList_append_make rfl _ _ 22 3 rfl 9 .i64 Tryd.t9 (.string ByteArray.empty) Tryd.underlying22 Tryd.underlying3 X.out.1 X.out.2.1 n rfl rfl h0 X.out.2.2.1 X.out.2.2.2.1 X.out.2.2.2.2 ?_))
  go_ret
  exact ⟨rfl, rfl⟩
end Go.Proofs.YtaackmiajgapoaaDoor
