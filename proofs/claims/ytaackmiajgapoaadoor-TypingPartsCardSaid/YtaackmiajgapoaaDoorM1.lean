/- Are names unlike (scope): the walk over the library's copies and sort. -/
import Derived.Test.YtaackmiajgapoaaDoorSh
import Derived.WalkKit
import Derived.Deep.LoopGhost
import Derived.Sort.OwnSorted
import Derived.Sort.Grow
import Derived.Lib.OwnBridge
import Derived.OwnWalk
namespace Go.Proofs.YtaackmiajgapoaaDoor
open Go Go.RowKit Go.Shelf Go.Sort Go.Proofs

/-- A row of bytes' rows, sorted. -/
def sortB (ss : List (List UInt8)) : List (List UInt8) := ss.mergeSort fun x y => decide (x ≤ y)

theorem clone_again (g n cap : Nat) (ts : List (List UInt8)) (w : World) (hl : ts.length = n) (hn : n * 16 ≤ 140737488355328) (hH : Holds encStr w g 0 ts.toArray) :
    Calls Tryd.prog 109 #[.slice (some ⟨g, 0, none⟩) n cap] w fun e w' => ∃ v', e = .returned v' ∧ w'.ownsRow w.heap.size 9 1 v' n (ts.map encStr) ∧ v' ≠ .slice none 0 0 ∧ Below w.heap.size w w' := by
  have h := Tryd.slices_Clone_string g 0 n cap (ts.map fun l => ⟨l.toArray⟩) w (by simp [hl]) hn (fun j hj => by
    have hj' : j < ts.length := by simpa using hj
    have := (hH j (by simpa using hj')).1
    rw [this]
    simp [encStr, hj'])
  refine h.mono ?_
  rintro e w' ⟨v', h1, h2, h3, h4⟩
  refine ⟨v', h1, ?_, h3, h4⟩
  rw [List.take_of_length_le (by simp [hl]), List.map_map] at h2
  exact h2

set_option maxHeartbeats 2000000 in
set_option maxRecDepth 100000 in
theorem unlike_tail (n : Nat) (arg : Value) (ss : List (List UInt8)) (w : World) (hn : n * 16 ≤ 140737488355328)
    (hclone : Calls Tryd.prog 109 #[arg] w fun e w' => ∃ v', e = .returned v' ∧ w'.ownsRow w.heap.size 9 1 v' n (ss.map encStr) ∧ v' ≠ .slice none 0 0 ∧ Below w.heap.size w w') :
    Calls Tryd.prog 110 #[arg] w fun e w' => e = .returned (.bool (decide ((Lib.compact (sortB ss)).length = n))) ∧ Below w.heap.size w w' := by
  go_enter Tryd.func110, Tryd.ntmps110
  go_wp2_with (first
    | (go_at_call 109; refine hclone.mono ?_; rintro e w1 ⟨v1, rfl, hown, hnn, hbel⟩
       obtain ⟨g, cap, rfl, hbg, hgl, hncap, hcm, hlen, hH⟩ := Lib.holds_of_ownsRow hown hnn
       have hsort := Tryd.slices_Sort_string g 0 cap ss w1 hH hgl (by omega)
       rw [hlen] at hsort
       have X : Aside (w1.ownsRow w.heap.size 9 1 (.slice (some ⟨g, 0, none⟩) n cap) n (ss.map encStr) ∧ Below w.heap.size w w1 ∧ w.heap.size ≤ g ∧ g < w1.heap.size ∧ n ≤ cap ∧ cap ≤ maxLen ∧ ss.length = n ∧ Holds encStr w1 g 0 ss.toArray) := ⟨hown, hbel, hbg, hgl, hncap, hcm, hlen, hH⟩
       clear hown hbel hH hnn hclone)
    | (go_at_call 133; refine hsort.mono ?_; rintro e w2 ⟨rfl, nn, os, rfl⟩
       clear hsort
       have hl2 : (sortB ss).length = n := by unfold sortB; rw [List.length_mergeSort]; exact hlen
       have hH2 : Holds encStr (grow (putRow encStr (Sort.ahead w1 nn) g 0 (sortB ss).toArray) os) g 0 (sortB ss).toArray :=
         holds_grow encStr _ os g 0 _ (by simpa [putRow, mapBlock, Sort.ahead] using hgl) (holds_putRow encStr _ g 0 _ _ (holds_ahead encStr w1 nn g 0 _ X.out.2.2.2.2.2.2.2) (by simp [sortB]))
       have hB2 : Below w.heap.size w (grow (putRow encStr (Sort.ahead w1 nn) g 0 (sortB ss).toArray) os) :=
         X.out.2.1.grown (grownBy_sorted _) X.out.2.1.size (fun j hj => by cases hj; exact hbg)
       generalize hW2 : grow (putRow encStr (Sort.ahead w1 nn) g 0 (ss.mergeSort fun x y => decide (x ≤ y)).toArray) os = W2
       rw [show grow (putRow encStr (Sort.ahead w1 nn) g 0 (sortB ss).toArray) os = W2 from hW2] at hH2 hB2
       have hcl2 := clone_again g n cap (sortB ss) W2 hl2 hn hH2
       have Y : Aside (Below w.heap.size w W2) := hB2
       clear hW2 hH2 hB2 X hl2)
    | (go_at_call 109; refine hcl2.mono ?_; rintro e w3 ⟨v3, rfl, hown3, hnn3, hbel3⟩
       obtain ⟨g3, cap3, rfl, hbg3, hgl3, hncap3, hcm3, hlen3, hH3⟩ := Lib.holds_of_ownsRow hown3 hnn3
       have hcomp := Tryd.slices_Compact_string g3 0 cap3 (sortB ss) w3 hH3 (by omega) (by omega)
       rw [hlen3] at hcomp
       have Z : Aside (Below w.heap.size w w3 ∧ w.heap.size ≤ g3) := ⟨Y.out.trans (hbel3.mono Y.out.size), Nat.le_trans Y.out.size hbg3⟩
       clear hown3 hnn3 hbel3 hH3 hcl2 Y hbg3 hgl3)
    | (go_at_call 134; refine hcomp.mono ?_; rintro e w4 ⟨rfl, q, rfl⟩
       clear hcomp))
  go_ret
  refine ⟨?_, Lib.below_putRow Z.out.1 Z.out.2⟩
  show Ending.returned (Value.bool (((Lib.compact (sortB ss)).length : Int) == (n : Int))) = _
  congr 2
  rw [Bool.eq_iff_iff]
  simp only [beq_iff_eq, decide_eq_true_eq]
  omega

theorem unlike_nil (c : Nat) (w : World) : Calls Tryd.prog 110 #[.slice none 0 c] w fun e w' => e = .returned (.bool true) ∧ w' = w := by
  go_enter Tryd.func110, Tryd.ntmps110
  go_wp2_with (first
    | (go_at_call 109; refine (Tryd.slices_Clone_string_nil _ _ _).mono ?_; rintro e w' ⟨rfl, rfl⟩)
    | (go_at_call 133; refine (Tryd.slices_Sort_string_none none 0 _).mono ?_; rintro e w' ⟨rfl, rfl⟩)
    | (go_at_call 134; refine (Tryd.slices_Compact_string_empty none 0 _).mono ?_; rintro e w' ⟨rfl, rfl⟩))
  go_ret
  exact ⟨rfl, rfl⟩

/-- Are strings unlike, by the program's own way? -/
def unlikeS (l : List ByteArray) : Bool := decide ((Lib.compact (sortB (l.map (·.data.toList)))).length = l.length)
theorem unlike_any (b off c : Nat) (l : List ByteArray) (w : World) (hbig : l.length * 16 ≤ 140737488355328) (hc : ∀ j, j < l.length → w.cell? ⟨b, off + j, none⟩ = some (.string (l.getD j ByteArray.empty))) :
    Calls Tryd.prog 110 #[.slice (some ⟨b, off, none⟩) l.length c] w fun e w' => e = .returned (.bool (unlikeS l)) ∧ Below w.heap.size w w' :=
  unlike_tail l.length _ (l.map (·.data.toList)) w hbig ((Tryd.slices_Clone_string b off l.length c l w (Nat.le_refl _) hbig hc).mono fun e w' ⟨v', h1, h2, h3, h4⟩ => ⟨v', h1, by rw [Lib.map_encStr]; rw [List.take_length] at h2; exact h2, h3, h4⟩)
theorem unlike_zero (a : Addr) (c : Nat) (w : World) : Calls Tryd.prog 110 #[.slice (some a) 0 c] w fun e w' => e = .returned (.bool (unlikeS [])) ∧ Below w.heap.size w w' :=
  unlike_tail 0 _ [] w (by omega) (Tryd.slices_Clone_string_zero a c w)
end Go.Proofs.YtaackmiajgapoaaDoor
