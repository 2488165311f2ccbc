/- Are names unlike: the plain law. -/
import Derived.Test.YtaackmiajgapoaaDoorM1
namespace Go.Proofs.YtaackmiajgapoaaDoor
open Go Go.Lib

theorem le_asymm8 (x y : List UInt8) (h : x ≤ y) (k : y ≤ x) : x = y := List.le_antisymm h k
theorem sortB_pair (ss : List (List UInt8)) : (sortB ss).Pairwise fun x y => x ≤ y := by
  have := List.pairwise_mergeSort (le := fun x y : List UInt8 => decide (x ≤ y)) (fun a b c h k => by
    simp only [decide_eq_true_eq] at h k ⊢
    exact List.le_trans h k) (fun a b => by
    simp only [Bool.or_eq_true, decide_eq_true_eq]
    exact List.le_total a b) ss
  exact this.imp fun h => by simpa using h

theorem compact_len {α : Type} [Inhabited α] [DecidableEq α] (t : List α) : (Lib.compact t).length = t.length ↔ ∀ j, j + 1 < t.length → t[j + 1]! ≠ t[j]! := by
  unfold Lib.compact compactUpTo
  rw [List.length_map]
  have h0 : ((List.range t.length).filter (keeps t.toArray)).length = t.length ↔ ((List.range t.length).filter (keeps t.toArray)).length = (List.range t.length).length := by rw [List.length_range]
  rw [h0, List.length_filter_eq_length_iff]
  constructor
  · intro h j hj
    have := h (j + 1) (by simpa using hj)
    unfold keeps at this
    simpa using this
  · intro h a ha
    unfold keeps
    rw [decide_eq_true_eq]
    rcases a with _ | a
    · exact .inl rfl
    · refine .inr ?_
      have := h a (by simpa using ha)
      simpa using this

theorem sorted_nodup (t : List (List UInt8)) (hp : t.Pairwise fun x y => x ≤ y) : (∀ j, j + 1 < t.length → t[j + 1]! ≠ t[j]!) ↔ t.Nodup := by
  have hp' := List.pairwise_iff_getElem.1 hp
  constructor
  · intro h
    rw [List.Nodup, List.pairwise_iff_getElem]
    intro i j hi hj hij e
    have h1 := h i (by omega)
    have e1 : t[i + 1]! = t[i + 1]'(by omega) := getElem!_pos t (i + 1) (by omega)
    have e2 : t[i]! = t[i] := getElem!_pos t i hi
    rw [e1, e2] at h1
    refine h1 (le_asymm8 _ _ ?_ (hp' i (i + 1) hi (by omega) (by omega)))
    rcases Nat.lt_or_ge (i + 1) j with h2 | h2
    · rw [e]; exact hp' (i + 1) j (by omega) hj h2
    · have : i + 1 = j := by omega
      subst this
      rw [e]
      exact List.le_refl _
  · intro h j hj e
    rw [List.Nodup, List.pairwise_iff_getElem] at h
    have e1 : t[j + 1]! = t[j + 1]'(by omega) := getElem!_pos t (j + 1) (by omega)
    have e2 : t[j]! = t[j]'(by omega) := getElem!_pos t j (by omega)
    rw [e1, e2] at e
    exact h j (j + 1) (by omega) hj (by omega) e.symm

theorem unlikeS_eq (l : List ByteArray) : unlikeS l = decide l.Nodup := by
  unfold unlikeS
  have hl : (sortB (l.map (·.data.toList))).length = l.length := by unfold sortB; rw [List.length_mergeSort, List.length_map]
  rw [decide_eq_decide, ← hl, compact_len, sorted_nodup _ (sortB_pair _)]
  have hperm : (sortB (l.map (·.data.toList))).Perm (l.map (·.data.toList)) := List.mergeSort_perm _ _
  rw [hperm.nodup_iff]
  unfold List.Nodup
  rw [List.pairwise_map]
  refine ⟨fun h => h.imp fun h e => h (by rw [e]), fun h => h.imp fun {a b} h e => h ?_⟩
  cases a with | mk a => cases b with | mk b =>
  simp only at e
  rw [Array.toList_inj.1 e]
end Go.Proofs.YtaackmiajgapoaaDoor
