/- Few parts: what is counted bounds lists' lengths. -/
import Derived.Test.YtaackmiajgapoaaGreatDoorD35
set_option maxRecDepth 100000
set_option maxHeartbeats 16000000
set_option linter.unusedSimpArgs false
set_option linter.unusedVariables false
namespace Go.Proofs.YtaackmiajgapoaaGreatDoor.V
open Go

theorem wrap_small {n : Int} (h0 : -1000000 ≤ n) (h1 : n ≤ 1000000) : IntKind.i64.wrap n = n := wrap64_id (by omega) (by omega)
mutual
theorem leftE_le : ∀ (e : Ex) (left deep : Int), 0 ≤ left → left ≤ 100000 → -1 ≤ leftE e left deep ∧ leftE e left deep ≤ left - 1
  | .mk k o n s l, left, deep, h0, h1 => by
    rw [leftE]
    split
    · omega
    · rw [wrap_small (n := left - 1) (by omega) (by omega)]
      have := leftEs_le l (left - 1) (IntKind.i64.wrap (deep - 1)) (by omega) (by omega)
      omega
theorem leftEs_le : ∀ (l : List Ex) (left deep : Int), -1 ≤ left → left ≤ 100000 → -1 ≤ leftEs l left deep ∧ leftEs l left deep ≤ left
  | [], left, deep, h0, h1 => by rw [leftEs]; omega
  | e :: r, left, deep, h0, h1 => by
    rw [leftEs]
    split
    · omega
    · have h2 := leftE_le e left deep (by omega) h1
      have := leftEs_le r (leftE e left deep) deep (by omega) (by omega)
      omega
end
mutual
theorem leftS_le : ∀ (e : St) (left deep : Int), 0 ≤ left → left ≤ 100000 → -1 ≤ leftS e left deep ∧ leftS e left deep ≤ left - 1
  | .mk k s e t f, left, deep, h0, h1 => by
    rw [leftS]
    split
    · omega
    · rw [wrap_small (n := left - 1) (by omega) (by omega)]
      have h2 := leftEs_le e (left - 1) (IntKind.i64.wrap (deep - 1)) (by omega) (by omega)
      have h3 := leftSs_le t (leftEs e (left - 1) (IntKind.i64.wrap (deep - 1))) (IntKind.i64.wrap (deep - 1)) (by omega) (by omega)
      have h4 := leftSs_le f (leftSs t (leftEs e (left - 1) (IntKind.i64.wrap (deep - 1))) (IntKind.i64.wrap (deep - 1))) (IntKind.i64.wrap (deep - 1)) (by omega) (by omega)
      omega
theorem leftSs_le : ∀ (l : List St) (left deep : Int), -1 ≤ left → left ≤ 100000 → -1 ≤ leftSs l left deep ∧ leftSs l left deep ≤ left
  | [], left, deep, h0, h1 => by rw [leftSs]; omega
  | e :: r, left, deep, h0, h1 => by
    rw [leftSs]
    split
    · omega
    · have h2 := leftS_le e left deep (by omega) h1
      have := leftSs_le r (leftS e left deep) deep (by omega) (by omega)
      omega
end
theorem leftSs_len : ∀ (l : List St) (left deep : Int), -1 ≤ left → left ≤ 100000 → 0 ≤ leftSs l left deep → (l.length : Int) ≤ left
  | [], left, deep, h0, h1, h => by rw [leftSs] at h; simpa using h
  | e :: r, left, deep, h0, h1, h => by
    rw [leftSs] at h
    split at h
    · omega
    · have h2 := leftS_le e left deep (by omega) h1
      have := leftSs_len r (leftS e left deep) deep (by omega) (by omega) h
      rw [List.length_cons]
      omega
theorem leftSs_low (l : List St) (left deep : Int) (h : left < 0) : leftSs l left deep = left := leftSs_neg l left deep h

theorem leftF_at (f : Fn) (left : Int) (hp : f.params.length ≤ 200) (hl : f.locals.length ≤ 200) (h0 : -500000 ≤ left) (h1 : left ≤ 1000) :
    (left - 401 ≤ leftF f left ∨ -1 ≤ leftF f left) ∧ leftF f left ≤ left ∧ (left < 0 → leftF f left < 0) ∧ (0 ≤ leftF f left → (f.body.length : Int) ≤ 1000) := by
  unfold leftF
  rw [wrap_small (n := left - (f.params.length : Int)) (by omega) (by omega), wrap_small (n := left - (f.params.length : Int) - (f.locals.length : Int)) (by omega) (by omega)]
  by_cases hm : left - (f.params.length : Int) - (f.locals.length : Int) < 0
  · rw [leftSs_low _ _ _ hm]
    refine ⟨by omega, by omega, fun _ => hm, fun h => by omega⟩
  · have h2 := leftSs_le f.body (left - (f.params.length : Int) - (f.locals.length : Int)) 60 (by omega) (by omega)
    refine ⟨by omega, by omega, fun _ => by omega, fun h => ?_⟩
    have := leftSs_len f.body _ 60 (by omega) (by omega) h
    omega
theorem leftFs_low : ∀ (l : List Fn) (left : Int), (∀ f ∈ l, f.params.length ≤ 200 ∧ f.locals.length ≤ 200) → l.length ≤ 1000 ∧ -500000 + 401 * (l.length : Int) ≤ left → left < 0 → leftFs l left < 0
  | [], left, _, _, h => h
  | f :: r, left, hf, h0, h => by
    rw [leftFs]
    obtain ⟨hp, hl⟩ := hf f (by simp)
    rw [List.length_cons] at h0
    have h1 := leftF_at f left hp hl (by omega) (by omega)
    exact leftFs_low r _ (fun g hg => hf g (by simp [hg])) (by omega) (h1.2.2.1 h)
theorem leftFs_len : ∀ (l : List Fn) (left : Int), (∀ f ∈ l, f.params.length ≤ 200 ∧ f.locals.length ≤ 200) → l.length ≤ 1000 ∧ -500000 + 401 * (l.length : Int) ≤ left → left ≤ 1000 → 0 ≤ leftFs l left → ∀ f ∈ l, (f.body.length : Int) ≤ 1000
  | [], _, _, _, _, _, f, hf => by simp at hf
  | f :: r, left, hf, h0, h1, h, g, hg => by
    rw [leftFs] at h
    obtain ⟨hp, hl⟩ := hf f (by simp)
    rw [List.length_cons] at h0
    have h2 := leftF_at f left hp hl (by omega) h1
    have h3 : 0 ≤ leftF f left := by
      by_cases h4 : leftF f left < 0
      · have := leftFs_low r _ (fun g hg => hf g (by simp [hg])) (by omega) h4
        omega
      · omega
    rcases List.mem_cons.1 hg with rfl | hg
    · exact h2.2.2.2 h3
    · exact leftFs_len r _ (fun g hg => hf g (by simp [hg])) (by omega) (by omega) h g hg
theorem few_bodies {p : Pg} {n : Int} (hn : n ≤ 1000) (hn0 : 0 ≤ n) (h : fewP p n = true) : p.funcs.length ≤ 70 ∧ ∀ f ∈ p.funcs, f.body.length ≤ 1000 := by
  simp only [fewP, shortB, Bool.and_eq_true, decide_eq_true_eq] at h
  obtain ⟨⟨⟨⟨⟨⟨h1, h2⟩, h3⟩, h4⟩, h5⟩, h6⟩, h7⟩ := h
  refine ⟨h4, fun f hf => ?_⟩
  have e : left0 p n = n - (p.vars.length : Int) - (p.arrays.length : Int) - (p.funcs.length : Int) := by
    unfold left0
    rw [wrap_small (n := n - (p.vars.length : Int)) (by omega) (by omega), wrap_small (n := n - (p.vars.length : Int) - (p.arrays.length : Int)) (by omega) (by omega), wrap_small (n := n - (p.vars.length : Int) - (p.arrays.length : Int) - (p.funcs.length : Int)) (by omega) (by omega)]
  rw [e] at h7
  have := leftFs_len p.funcs _ (fun g hg => by
    have := List.all_eq_true.1 h6 g hg
    simp only [fnShort, shortB, Bool.and_eq_true, decide_eq_true_eq] at this
    omega) (by constructor <;> omega) (by omega) h7 f hf
  omega
end Go.Proofs.YtaackmiajgapoaaGreatDoor.V
