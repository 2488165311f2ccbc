/- How many parts there are of few: sizes. -/
import Derived.Test.YtaackmiajgapoaaGreatDoorE4
import Derived.Test.YtaackmiajgapoaaGreatDoorD43
set_option maxRecDepth 100000
set_option maxHeartbeats 16000000
set_option linter.unusedSimpArgs false
set_option linter.unusedVariables false
namespace Go.Proofs.YtaackmiajgapoaaGreatDoor.V
open Go
variable {G : Nat → Option (List PV)}

mutual
theorem leftE_sz : ∀ (e : Ex) (left deep : Int), 0 ≤ left → left ≤ 100000 → 0 ≤ leftE e left deep → leftE e left deep = left - szE e
  | .mk k o n s l, left, deep, h0, h1, h => by
    rw [leftE] at h ⊢
    split at h
    · omega
    · rename_i hn
      rw [if_neg hn]
      rw [wrap_small (n := left - 1) (by omega) (by omega)] at h ⊢
      rw [leftEs_sz l (left - 1) _ (by omega) (by omega) h, szE]
      omega
theorem leftEs_sz : ∀ (l : List Ex) (left deep : Int), -1 ≤ left → left ≤ 100000 → 0 ≤ leftEs l left deep → leftEs l left deep = left - szEs l
  | [], left, deep, h0, h1, h => by rw [leftEs, szEs]; omega
  | e :: r, left, deep, h0, h1, h => by
    rw [leftEs] at h ⊢
    split at h
    · omega
    · rename_i hn
      rw [if_neg hn]
      have h2 := leftE_le e left deep (by omega) h1
      have h3 : 0 ≤ leftE e left deep := by
        by_cases h4 : leftE e left deep < 0
        · rw [leftEs_neg _ _ _ h4] at h; omega
        · omega
      rw [leftEs_sz r (leftE e left deep) deep (by omega) (by omega) h, leftE_sz e left deep (by omega) h1 h3, szEs]
      omega
end
mutual
theorem leftS_sz : ∀ (e : St) (left deep : Int), 0 ≤ left → left ≤ 100000 → 0 ≤ leftS e left deep → leftS e left deep = left - szS e
  | .mk k s e t f, left, deep, h0, h1, h => by
    rw [leftS] at h ⊢
    split at h
    · omega
    · rename_i hn
      rw [if_neg hn]
      rw [wrap_small (n := left - 1) (by omega) (by omega)] at h ⊢
      have b1 := leftEs_le e (left - 1) (IntKind.i64.wrap (deep - 1)) (by omega) (by omega)
      have b2 := leftSs_le t (leftEs e (left - 1) (IntKind.i64.wrap (deep - 1))) (IntKind.i64.wrap (deep - 1)) (by omega) (by omega)
      have p2 : 0 ≤ leftSs t (leftEs e (left - 1) (IntKind.i64.wrap (deep - 1))) (IntKind.i64.wrap (deep - 1)) := by
        by_cases h4 : leftSs t (leftEs e (left - 1) (IntKind.i64.wrap (deep - 1))) (IntKind.i64.wrap (deep - 1)) < 0
        · rw [leftSs_neg _ _ _ h4] at h; omega
        · omega
      have p1 : 0 ≤ leftEs e (left - 1) (IntKind.i64.wrap (deep - 1)) := by
        by_cases h4 : leftEs e (left - 1) (IntKind.i64.wrap (deep - 1)) < 0
        · rw [leftSs_neg _ _ _ h4] at p2; omega
        · omega
      have e1 := leftEs_sz e (left - 1) (IntKind.i64.wrap (deep - 1)) (by omega) (by omega) p1
      have e2 := leftSs_sz t (leftEs e (left - 1) (IntKind.i64.wrap (deep - 1))) (IntKind.i64.wrap (deep - 1)) (by omega) (by omega) p2
      have e3 := leftSs_sz f (leftSs t (leftEs e (left - 1) (IntKind.i64.wrap (deep - 1))) (IntKind.i64.wrap (deep - 1))) (IntKind.i64.wrap (deep - 1)) (by omega) (by omega) h
      rw [e3, e2, e1, szS]
      omega
theorem leftSs_sz : ∀ (l : List St) (left deep : Int), -1 ≤ left → left ≤ 100000 → 0 ≤ leftSs l left deep → leftSs l left deep = left - szSs l
  | [], left, deep, h0, h1, h => by rw [leftSs, szSs]; omega
  | e :: r, left, deep, h0, h1, h => by
    rw [leftSs] at h ⊢
    split at h
    · omega
    · rename_i hn
      rw [if_neg hn]
      have h2 := leftS_le e left deep (by omega) h1
      have h3 : 0 ≤ leftS e left deep := by
        by_cases h4 : leftS e left deep < 0
        · rw [leftSs_neg _ _ _ h4] at h; omega
        · omega
      rw [leftSs_sz r (leftS e left deep) deep (by omega) (by omega) h, leftS_sz e left deep (by omega) h1 h3, szSs]
      omega
end
theorem leftF_sz (f : Fn) (left : Int) (hp : f.params.length ≤ 200) (hl : f.locals.length ≤ 200) (h0 : -500000 ≤ left) (h1 : left ≤ 1000) (h : 0 ≤ leftF f left) : (szSs f.body : Int) ≤ 1000 := by
  unfold leftF at h
  rw [wrap_small (n := left - (f.params.length : Int)) (by omega) (by omega), wrap_small (n := left - (f.params.length : Int) - (f.locals.length : Int)) (by omega) (by omega)] at h
  by_cases hm : left - (f.params.length : Int) - (f.locals.length : Int) < 0
  · rw [leftSs_low _ _ _ hm] at h
    omega
  · have := leftSs_sz f.body _ 60 (by omega) (by omega) h
    omega
theorem leftFs_szs : ∀ (l : List Fn) (left : Int), (∀ f ∈ l, f.params.length ≤ 200 ∧ f.locals.length ≤ 200) → l.length ≤ 1000 ∧ -500000 + 401 * (l.length : Int) ≤ left → left ≤ 1000 → 0 ≤ leftFs l left → ∀ f ∈ l, (szSs f.body : Int) ≤ 1000
  | [], _, _, _, _, _, f, hf => by simp at hf
  | f :: r, left, hf, h0, h1, h, g, hg => by
    rw [leftFs] at h
    obtain ⟨hp, hl⟩ := hf f (by simp)
    rw [List.length_cons] at h0
    have h2 := leftF_at f left hp hl (by omega) h1
    have h3 : 0 ≤ leftF f left := by
      by_cases h4 : leftF f left < 0
      · have := leftFs_low r _ (fun g hg => hf g (by simp [hg])) (by omega) h4
        omega
      · omega
    rcases List.mem_cons.1 hg with rfl | hg
    · exact leftF_sz g left hp hl (by omega) h1 h3
    · exact leftFs_szs r _ (fun g hg => hf g (by simp [hg])) (by omega) (by omega) h g hg
theorem few_sizes {p : Pg} {n : Int} (hn : n ≤ 1000) (hn0 : 0 ≤ n) (h : fewP p n = true) : ∀ f ∈ p.funcs, szSs f.body ≤ 1000 := by
  simp only [fewP, shortB, Bool.and_eq_true, decide_eq_true_eq] at h
  obtain ⟨⟨⟨⟨⟨⟨h1, h2⟩, h3⟩, h4⟩, h5⟩, h6⟩, h7⟩ := h
  intro f hf
  have e : left0 p n = n - (p.vars.length : Int) - (p.arrays.length : Int) - (p.funcs.length : Int) := by
    unfold left0
    rw [wrap_small (n := n - (p.vars.length : Int)) (by omega) (by omega), wrap_small (n := n - (p.vars.length : Int) - (p.arrays.length : Int)) (by omega) (by omega), wrap_small (n := n - (p.vars.length : Int) - (p.arrays.length : Int) - (p.funcs.length : Int)) (by omega) (by omega)]
  rw [e] at h7
  have := leftFs_szs p.funcs _ (fun g hg => by
    have := List.all_eq_true.1 h6 g hg
    simp only [fnShort, shortB, Bool.and_eq_true, decide_eq_true_eq] at this
    omega) (by constructor <;> omega) (by omega) h7 f hf
  omega

/-! ### Uses are of three kinds -/
def useK (u : Use) : Prop := u.kind = 2 ∨ u.kind = 3 ∨ u.kind = 4
mutual
theorem useK_E : ∀ e : Ex, ∀ u ∈ usesE e, useK u
  | .mk k o n s l, u, hu => by
    rw [usesE, List.mem_append] at hu
    rcases hu with hu | hu
    · unfold hereE at hu
      split at hu
      · simp only [List.mem_singleton] at hu; subst hu; exact .inl rfl
      · split at hu
        · simp only [List.mem_singleton] at hu; subst hu; exact .inr (.inl rfl)
        · split at hu
          · simp only [List.mem_singleton] at hu; subst hu; exact .inr (.inr rfl)
          · simp at hu
    · exact useK_Es l u hu
theorem useK_Es : ∀ l : List Ex, ∀ u ∈ usesEs l, useK u
  | [], u, hu => by simp [usesEs] at hu
  | e :: r, u, hu => by
    rw [usesEs, List.mem_append] at hu
    rcases hu with hu | hu
    · exact useK_E e u hu
    · exact useK_Es r u hu
end
mutual
theorem useK_S : ∀ e : St, ∀ u ∈ usesS e, useK u
  | .mk k s e t f, u, hu => by
    rw [usesS, List.mem_append, List.mem_append, List.mem_append] at hu
    rcases hu with ((hu | hu) | hu) | hu
    · unfold hereS at hu
      split at hu
      · simp only [List.mem_singleton] at hu; subst hu; exact .inl rfl
      · split at hu
        · simp only [List.mem_singleton] at hu; subst hu; exact .inr (.inl rfl)
        · split at hu
          · simp only [List.mem_singleton] at hu; subst hu; exact .inr (.inr rfl)
          · simp at hu
    · exact useK_Es e u hu
    · exact useK_Ss t u hu
    · exact useK_Ss f u hu
theorem useK_Ss : ∀ l : List St, ∀ u ∈ usesSs l, useK u
  | [], u, hu => by simp [usesSs] at hu
  | e :: r, u, hu => by
    rw [usesSs, List.mem_append] at hu
    rcases hu with hu | hu
    · exact useK_S e u hu
    · exact useK_Ss r u hu
end
instance : Inhabited Use := ⟨⟨ByteArray.empty, 2, 0⟩⟩
end Go.Proofs.YtaackmiajgapoaaGreatDoor.V
