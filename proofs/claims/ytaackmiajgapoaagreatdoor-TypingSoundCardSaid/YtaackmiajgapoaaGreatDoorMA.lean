/- Texts M1 to M3, joined. -/
import Derived.Test.YtaackmiajgapoaaGreatDoorSh
import Derived.WalkKit
import Derived.Deep.LoopGhost
import Derived.Sort.OwnSorted
import Derived.Sort.Grow
import Derived.Lib.OwnBridge
import Derived.OwnWalk
import Derived.Laws.MakeOwn
/- Are names unlike (scope): the walk over the library's copies and sort. -/
namespace Go.Proofs.YtaackmiajgapoaaGreatDoor
open Go Go.RowKit Go.Shelf Go.Sort Go.Proofs

/-- A row of bytes' rows, sorted. -/
def sortB (ss : List (List UInt8)) : List (List UInt8) := ss.mergeSort fun x y => decide (x ≤ y)

theorem clone_again (g n cap : Nat) (ts : List (List UInt8)) (w : World) (hl : ts.length = n) (hn : n * 16 ≤ 140737488355328) (hH : Holds encStr w g 0 ts.toArray) :
    Calls Tryz.prog 90 #[.slice (some ⟨g, 0, none⟩) n cap] w fun e w' => ∃ v', e = .returned v' ∧ w'.ownsRow w.heap.size 9 1 v' n (ts.map encStr) ∧ v' ≠ .slice none 0 0 ∧ Below w.heap.size w w' := by
  have h := Tryz.slices_Clone_string g 0 n cap (ts.map fun l => ⟨l.toArray⟩) w (by simp [hl]) hn (fun j hj => by
    have hj' : j < ts.length := by simpa using hj
    have := (hH j (by simpa using hj')).1
    rw [this]
    simp [encStr, hj'])
  refine h.mono ?_
  rintro e w' ⟨v', h1, h2, h3, h4⟩
  refine ⟨v', h1, ?_, h3, h4⟩
  rw [List.take_of_length_le (by simp [hl]), List.map_map] at h2
  exact h2

set_option maxHeartbeats 2000000 in
set_option maxRecDepth 100000 in
theorem unlike_tail (n : Nat) (arg : Value) (ss : List (List UInt8)) (w : World) (hn : n * 16 ≤ 140737488355328)
    (hclone : Calls Tryz.prog 90 #[arg] w fun e w' => ∃ v', e = .returned v' ∧ w'.ownsRow w.heap.size 9 1 v' n (ss.map encStr) ∧ v' ≠ .slice none 0 0 ∧ Below w.heap.size w w') :
    Calls Tryz.prog 91 #[arg] w fun e w' => e = .returned (.bool (decide ((Lib.compact (sortB ss)).length = n))) ∧ Below w.heap.size w w' := by
  go_enter Tryz.func91, Tryz.ntmps91
  go_wp2_with (first
    | (go_at_call 90; refine hclone.mono ?_; rintro e w1 ⟨v1, rfl, hown, hnn, hbel⟩
       obtain ⟨g, cap, rfl, hbg, hgl, hncap, hcm, hlen, hH⟩ := Lib.holds_of_ownsRow hown hnn
       have hsort := Tryz.slices_Sort_string g 0 cap ss w1 hH hgl (by omega)
       rw [hlen] at hsort
       have X : Aside (w1.ownsRow w.heap.size 9 1 (.slice (some ⟨g, 0, none⟩) n cap) n (ss.map encStr) ∧ Below w.heap.size w w1 ∧ w.heap.size ≤ g ∧ g < w1.heap.size ∧ n ≤ cap ∧ cap ≤ maxLen ∧ ss.length = n ∧ Holds encStr w1 g 0 ss.toArray) := ⟨hown, hbel, hbg, hgl, hncap, hcm, hlen, hH⟩
       clear hown hbel hH hnn hclone)
    | (go_at_call 130; refine hsort.mono ?_; rintro e w2 ⟨rfl, nn, os, rfl⟩
       clear hsort
       have hl2 : (sortB ss).length = n := by unfold sortB; rw [List.length_mergeSort]; exact hlen
       have hH2 : Holds encStr (grow (putRow encStr (Sort.ahead w1 nn) g 0 (sortB ss).toArray) os) g 0 (sortB ss).toArray :=
         holds_grow encStr _ os g 0 _ (by simpa [putRow, mapBlock, Sort.ahead] using hgl) (holds_putRow encStr _ g 0 _ _ (holds_ahead encStr w1 nn g 0 _ X.out.2.2.2.2.2.2.2) (by simp [sortB]))
       have hB2 : Below w.heap.size w (grow (putRow encStr (Sort.ahead w1 nn) g 0 (sortB ss).toArray) os) :=
         X.out.2.1.grown (grownBy_sorted _) X.out.2.1.size (fun j hj => by cases hj; exact hbg)
       generalize hW2 : grow (putRow encStr (Sort.ahead w1 nn) g 0 (ss.mergeSort fun x y => decide (x ≤ y)).toArray) os = W2
       rw [show grow (putRow encStr (Sort.ahead w1 nn) g 0 (sortB ss).toArray) os = W2 from hW2] at hH2 hB2
       have hcl2 := clone_again g n cap (sortB ss) W2 hl2 hn hH2
       have Y : Aside (Below w.heap.size w W2) := hB2
       clear hW2 hH2 hB2 X hl2)
    | (go_at_call 90; refine hcl2.mono ?_; rintro e w3 ⟨v3, rfl, hown3, hnn3, hbel3⟩
       obtain ⟨g3, cap3, rfl, hbg3, hgl3, hncap3, hcm3, hlen3, hH3⟩ := Lib.holds_of_ownsRow hown3 hnn3
       have hcomp := Tryz.slices_Compact_string g3 0 cap3 (sortB ss) w3 hH3 (by omega) (by omega)
       rw [hlen3] at hcomp
       have Z : Aside (Below w.heap.size w w3 ∧ w.heap.size ≤ g3) := ⟨Y.out.trans (hbel3.mono Y.out.size), Nat.le_trans Y.out.size hbg3⟩
       clear hown3 hnn3 hbel3 hH3 hcl2 Y hbg3 hgl3)
    | (go_at_call 131; refine hcomp.mono ?_; rintro e w4 ⟨rfl, q, rfl⟩
       clear hcomp))
  go_ret
  refine ⟨?_, Lib.below_putRow Z.out.1 Z.out.2⟩
  show Ending.returned (Value.bool (((Lib.compact (sortB ss)).length : Int) == (n : Int))) = _
  congr 2
  rw [Bool.eq_iff_iff]
  simp only [beq_iff_eq, decide_eq_true_eq]
  omega

theorem unlike_nil (c : Nat) (w : World) : Calls Tryz.prog 91 #[.slice none 0 c] w fun e w' => e = .returned (.bool true) ∧ w' = w := by
  go_enter Tryz.func91, Tryz.ntmps91
  go_wp2_with (first
    | (go_at_call 90; refine (Tryz.slices_Clone_string_nil _ _ _).mono ?_; rintro e w' ⟨rfl, rfl⟩)
    | (go_at_call 130; refine (Tryz.slices_Sort_string_none none 0 _).mono ?_; rintro e w' ⟨rfl, rfl⟩)
    | (go_at_call 131; refine (Tryz.slices_Compact_string_empty none 0 _).mono ?_; rintro e w' ⟨rfl, rfl⟩))
  go_ret
  exact ⟨rfl, rfl⟩

/-- Are strings unlike, by the program's own way? -/
def unlikeS (l : List ByteArray) : Bool := decide ((Lib.compact (sortB (l.map (·.data.toList)))).length = l.length)
theorem unlike_any (b off c : Nat) (l : List ByteArray) (w : World) (hbig : l.length * 16 ≤ 140737488355328) (hc : ∀ j, j < l.length → w.cell? ⟨b, off + j, none⟩ = some (.string (l.getD j ByteArray.empty))) :
    Calls Tryz.prog 91 #[.slice (some ⟨b, off, none⟩) l.length c] w fun e w' => e = .returned (.bool (unlikeS l)) ∧ Below w.heap.size w w' :=
  unlike_tail l.length _ (l.map (·.data.toList)) w hbig ((Tryz.slices_Clone_string b off l.length c l w (Nat.le_refl _) hbig hc).mono fun e w' ⟨v', h1, h2, h3, h4⟩ => ⟨v', h1, by rw [Lib.map_encStr]; rw [List.take_length] at h2; exact h2, h3, h4⟩)
theorem unlike_zero (a : Addr) (c : Nat) (w : World) : Calls Tryz.prog 91 #[.slice (some a) 0 c] w fun e w' => e = .returned (.bool (unlikeS [])) ∧ Below w.heap.size w w' :=
  unlike_tail 0 _ [] w (by omega) (Tryz.slices_Clone_string_zero a c w)
end Go.Proofs.YtaackmiajgapoaaGreatDoor

/- Are names unlike: the plain law. -/
namespace Go.Proofs.YtaackmiajgapoaaGreatDoor
open Go Go.Lib

theorem le_asymm8 (x y : List UInt8) (h : x ≤ y) (k : y ≤ x) : x = y := List.le_antisymm h k
theorem sortB_pair (ss : List (List UInt8)) : (sortB ss).Pairwise fun x y => x ≤ y := by
  have := List.pairwise_mergeSort (le := fun x y : List UInt8 => decide (x ≤ y)) (fun a b c h k => by
    simp only [decide_eq_true_eq] at h k ⊢
    exact List.le_trans h k) (fun a b => by
    simp only [Bool.or_eq_true, decide_eq_true_eq]
    exact List.le_total a b) ss
  exact this.imp fun h => by simpa using h

theorem compact_len {α : Type} [Inhabited α] [DecidableEq α] (t : List α) : (Lib.compact t).length = t.length ↔ ∀ j, j + 1 < t.length → t[j + 1]! ≠ t[j]! := by
  unfold Lib.compact compactUpTo
  rw [List.length_map]
  have h0 : ((List.range t.length).filter (keeps t.toArray)).length = t.length ↔ ((List.range t.length).filter (keeps t.toArray)).length = (List.range t.length).length := by rw [List.length_range]
  rw [h0, List.length_filter_eq_length_iff]
  constructor
  · intro h j hj
    have := h (j + 1) (by simpa using hj)
    unfold keeps at this
    simpa using this
  · intro h a ha
    unfold keeps
    rw [decide_eq_true_eq]
    rcases a with _ | a
    · exact .inl rfl
    · refine .inr ?_
      have := h a (by simpa using ha)
      simpa using this

theorem sorted_nodup (t : List (List UInt8)) (hp : t.Pairwise fun x y => x ≤ y) : (∀ j, j + 1 < t.length → t[j + 1]! ≠ t[j]!) ↔ t.Nodup := by
  have hp' := List.pairwise_iff_getElem.1 hp
  constructor
  · intro h
    rw [List.Nodup, List.pairwise_iff_getElem]
    intro i j hi hj hij e
    have h1 := h i (by omega)
    have e1 : t[i + 1]! = t[i + 1]'(by omega) := getElem!_pos t (i + 1) (by omega)
    have e2 : t[i]! = t[i] := getElem!_pos t i hi
    rw [e1, e2] at h1
    refine h1 (le_asymm8 _ _ ?_ (hp' i (i + 1) hi (by omega) (by omega)))
    rcases Nat.lt_or_ge (i + 1) j with h2 | h2
    · rw [e]; exact hp' (i + 1) j (by omega) hj h2
    · have : i + 1 = j := by omega
      subst this
      rw [e]
      exact List.le_refl _
  · intro h j hj e
    rw [List.Nodup, List.pairwise_iff_getElem] at h
    have e1 : t[j + 1]! = t[j + 1]'(by omega) := getElem!_pos t (j + 1) (by omega)
    have e2 : t[j]! = t[j]'(by omega) := getElem!_pos t j (by omega)
    rw [e1, e2] at e
    exact h j (j + 1) (by omega) hj (by omega) e.symm

theorem unlikeS_eq (l : List ByteArray) : unlikeS l = decide l.Nodup := by
  unfold unlikeS
  have hl : (sortB (l.map (·.data.toList))).length = l.length := by unfold sortB; rw [List.length_mergeSort, List.length_map]
  rw [decide_eq_decide, ← hl, compact_len, sorted_nodup _ (sortB_pair _)]
  have hperm : (sortB (l.map (·.data.toList))).Perm (l.map (·.data.toList)) := List.mergeSort_perm _ _
  rw [hperm.nodup_iff]
  unfold List.Nodup
  rw [List.pairwise_map]
  refine ⟨fun h => h.imp fun h e => h (by rw [e]), fun h => h.imp fun {a b} h e => h ?_⟩
  cases a with | mk a => cases b with | mk b =>
  simp only at e
  rw [Array.toList_inj.1 e]
end Go.Proofs.YtaackmiajgapoaaGreatDoor

/- The library's Grow, of nothing. -/
namespace Go.Proofs.YtaackmiajgapoaaGreatDoor
open Go Go.RowKit Go.Proofs

theorem run_append_make {P : Program} (w : World) (t u ty e : TypeId) (k : IntKind) (i : TypeInfo) (z : Value) (ht : P.underlying t = some (.slice e)) (hu : P.underlying u = some (.int k)) (hi : P.info? e = some i) (hz : i.zero = some z)
    (n : Nat) (h0 : 0 < n) (h63 : (n : Int) ≤ 9223372036854775807) (h48 : n * i.bytes ≤ 281474976710656) (hs : 0 < i.size) :
    (Builtin.append_ #[t, u] ty #[.slice none 0 0, .int .i64 n]).run P w =
      .ok (.slice (some ⟨w.heap.size, 0, none⟩) n (grownCap w n 0 e)) (w.drew.alloc (.cells (Builtin.zeroCells z.cells n ++ Builtin.zeroCells z.cells (grownCap w n 0 e - n)) e)) := by
  have hn : n ≠ 0 := by omega
  have hns : ¬ n * i.size = 0 := by
    intro h
    rcases Nat.mul_eq_zero.1 h with h | h <;> omega
  have h63' : ¬ (9223372036854775807 < (n : Int)) := by omega
  have h48' : ¬ (281474976710656 < Builtin.nextslicecap n 0 * i.bytes) := by rw [nextslicecap_zero h0]; omega
  have hw : IntKind.i64.wrap (n : Int) = n := by rw [IntKind.wrap_i64]; omega
  have hneg : ¬ ((n : Int) < 0) := by omega
  have h48i : ¬ (281474976710656 < (n : Int) * (i.bytes : Int)) := by
    have : ((n * i.bytes : Nat) : Int) ≤ 281474976710656 := by omega
    rw [Int.natCast_mul] at this
    omega
  simp [Builtin.append_, run_underlying ht, run_underlying hu, sizeOf, typeInfo, zeroValue, hi, hz, asInt, asIntOf, hw, hneg, h48i, hn, hns, h63', h48', Question.forced, run_firstCells_none, newRow, grownCap]

theorem grow_zero (w : World) : Calls Tryz.prog 158 #[.slice none 0 0, .int .i64 0] w fun e w' => e = .returned (.slice none 0 0) ∧ w' = w := by
  go_enter Tryz.func158, Tryz.ntmps158
  go_wp2
  go_ret
  exact ⟨rfl, rfl⟩
theorem wpList_append_make {P : Program} {w : World} {ops : Array Oper} {rest : List Oper} {o : Oper} {a : Act} {Q : Exit → Act → World → Prop} (hgd : o.guard = none) (s x : Operand) (t u : TypeId)
    (ho : o.op = .call { callee := .builtin .append, args := #[s, x], argTypes := #[t, u] }) (e : TypeId) (k : IntKind) (i : TypeInfo) (z : Value) (ht : P.underlying t = some (.slice e)) (hu : P.underlying u = some (.int k)) (hi : P.info? e = some i) (hz : i.zero = some z)
    (n : Nat) (hs : a.eval s = .slice none 0 0) (hx : a.eval x = .int .i64 n) (h0 : 0 < n) (h63 : (n : Int) ≤ 9223372036854775807) (h48 : n * i.bytes ≤ 281474976710656) (hsz : 0 < i.size)
    (h : wpList P ops Q rest (a.put o.dst (.slice (some ⟨w.heap.size, 0, none⟩) n (grownCap w n 0 e))) (w.drew.alloc (.cells (Builtin.zeroCells z.cells n ++ Builtin.zeroCells z.cells (grownCap w n 0 e - n)) e))) : wpList P ops Q (o :: rest) a w := by
  refine wpList_plain hgd fun K hK => ?_
  have hrun := run_append_make (P := P) w t u o.type e k i z ht hu hi hz n h0 h63 h48 hsz
  unfold Oper.wp execOp
  simp only [ho, resolve, invoke, builtin, Sem.run_bind, Sem.run_pure, Result.andThen_ok, List.map_toArray, List.map_cons, List.map_nil, hs, hx, hrun]
  exact hK _ _ h
set_option maxHeartbeats 2000000 in
theorem grow_some (n : Nat) (h0 : 0 < n) (hn : n * 16 ≤ 140737488355328) (w : World) : Calls Tryz.prog 158 #[.slice none 0 0, .int .i64 n] w fun e w' =>
    e = .returned (.slice (some ⟨w.heap.size, 0, none⟩) 0 (grownCap w n 0 9)) ∧ w' = (w.alloc (.cells (Builtin.zeroCells #[.string ByteArray.empty] n ++ Builtin.zeroCells #[.string ByteArray.empty] (grownCap w n 0 9 - n)) 9)).drew := by
  have X : Aside (Tryz.prog.info? 9 = some Tryz.t9 ∧ Tryz.t9.zero = some (.string ByteArray.empty) ∧ (n : Int) ≤ 9223372036854775807 ∧ n * Tryz.t9.bytes ≤ 281474976710656 ∧ 0 < Tryz.t9.size) := by
    have hb : Tryz.t9.bytes = 16 := by kernel_rfl
    have hs : Tryz.t9.size = 1 := by kernel_rfl
    exact ⟨by kernel_rfl, by kernel_rfl, by omega, by rw [hb]; omega, by rw [hs]; omega⟩
  go_enter Tryz.func158, Tryz.ntmps158
  go_wp2_with (first
    | (at_builtin; refine wpList_append_make rfl _ _ 22 3 rfl 9 .i64 Tryz.t9 (.string ByteArray.empty) Tryz.underlying22 Tryz.underlying3 X.out.1 X.out.2.1 n rfl rfl h0 X.out.2.2.1 X.out.2.2.2.1 X.out.2.2.2.2 ?_))
  go_ret
  exact ⟨rfl, rfl⟩
end Go.Proofs.YtaackmiajgapoaaGreatDoor
