/- The law of statements, in plain Lean. -/
import Derived.Test.YtaackmiajgapoaaDoorD41
set_option maxRecDepth 100000
set_option maxHeartbeats 16000000
set_option linter.unusedSimpArgs false
set_option linter.unusedVariables false
set_option linter.unusedSectionVars false
namespace Go.Proofs.YtaackmiajgapoaaDoor.V
open Go

/-- A program with a statement more, at its last function's end. -/
def moreP (p : Pg) (s : St) : Pg := { p with funcs := p.funcs.set (p.funcs.length - 1) { lastF p with body := (lastF p).body ++ [s] } }
def hdF (f : Fn) : ByteArray × Bool := (f.name, f.word)
theorem more_heads (p : Pg) (s : St) (h : 0 < p.funcs.length) : (moreP p s).funcs.map hdF = p.funcs.map hdF := by
  show (p.funcs.set _ _).map hdF = _
  rw [List.map_set]
  show (p.funcs.map hdF).set (p.funcs.length - 1) (hdF (lastF p)) = _
  apply List.ext_getElem
  · simp
  · intro i h1 h2
    rw [List.getElem_set]
    split
    · rename_i e
      subst e
      simp only [List.getElem_map, lastF]
      rw [elm_eq (by omega)]
    · rfl
theorem idx_heads {l l' : List Fn} (h : l'.map hdF = l.map hdF) (s : ByteArray) : fnIdx l' s = fnIdx l s := by
  have e : ∀ l : List Fn, (l.findIdx? fun f => decide (f.name = s)) = (l.map hdF).findIdx? fun x => decide (x.1 = s) := by
    intro l
    rw [List.findIdx?_map]
    rfl
  unfold fnIdx
  rw [e l', e l, h]
theorem word_heads {l l' : List Fn} (h : l'.map hdF = l.map hdF) (i : Nat) : (elm l' i).word = (elm l i).word := by
  have e : ∀ l : List Fn, (elm l i).word = ((l.map hdF).getD i (hdF default)).2 := by
    intro l
    unfold elm
    rw [List.getD_eq_getElem?_getD, List.getD_eq_getElem?_getD, List.getElem?_map]
    cases l[i]? <;> rfl
  rw [e l', e l, h]
section
variable {p q : Pg} (h : q.funcs.map hdF = p.funcs.map hdF)
include h
theorem fnWord_heads (s : ByteArray) : fnWord q.funcs s = fnWord p.funcs s := by
  unfold fnWord
  rw [idx_heads h, word_heads h]
mutual
theorem tyE_heads : ∀ e : Ex, tyE q e = tyE p e
  | .mk k o n s l => by simp only [tyE, tyAll_heads 1 l, tyAll_heads 2 l, fnWord_heads h]
theorem tyAll_heads (t : Int) : ∀ l : List Ex, tyAll q t l = tyAll p t l
  | [] => rfl
  | e :: r => by rw [tyAll, tyAll, tyE_heads e, tyAll_heads t r]
end
mutual
theorem knE_heads : ∀ e : Ex, knE q e = knE p e
  | .mk k o n s l => by simp only [knE, knEs_heads l, idx_heads h]
theorem knEs_heads : ∀ l : List Ex, knEs q l = knEs p l
  | [] => rfl
  | e :: r => by rw [knEs, knEs, knE_heads e, knEs_heads r]
end
mutual
theorem knS_heads : ∀ e : St, knS q e = knS p e
  | .mk k s e t f => by
    rw [knS, knS, knSs_heads t, knSs_heads f, idx_heads h, all_congr e fun a _ => knE_heads h a]
theorem knSs_heads : ∀ l : List St, knSs q l = knSs p l
  | [] => rfl
  | e :: r => by rw [knSs, knSs, knS_heads e, knSs_heads r]
end
theorem fitK_heads (w : Bool) (k : Int) (s : ByteArray) (n : Nat) : fitK q w k s n = fitK p w k s n := by
  unfold fitK
  rw [idx_heads h, word_heads h]
mutual
theorem fitS_heads (w : Bool) : ∀ e : St, fitS q w e = fitS p w e
  | .mk k s e t f => by
    rw [fitS, fitS, fitSs_heads w t, fitSs_heads w f, fitK_heads h, all_congr e fun a _ => by rw [tyE_heads h a]]
theorem fitSs_heads (w : Bool) : ∀ l : List St, fitSs q w l = fitSs p w l
  | [] => rfl
  | e :: r => by rw [fitSs, fitSs, fitS_heads w e, fitSs_heads w r]
end
end

theorem all_set {α : Type} (P : α → Bool) (l : List α) (i : Nat) (x : α) (hi : i < l.length) (hl : l.all P = true) : (l.set i x).all P = P x := by
  rw [Bool.eq_iff_iff, List.all_eq_true]
  constructor
  · intro h
    exact h x (List.mem_set hi x)
  · intro h y hy
    rcases List.mem_or_eq_of_mem_set hy with h1 | rfl
    · exact List.all_eq_true.1 hl y h1
    · exact h
theorem refC_more (p : Pg) (s : St) (h0 : 0 < p.funcs.length) (h : refC p = 0) : refC (moreP p s) = if knS p s = true then (if fitS p (lastF p).word s = true then 0 else 5) else 4 := by
  have hk : p.funcs.all (knF p) = true ∧ p.funcs.all (fitF p) = true := by
    unfold refC at h
    by_cases h1 : p.funcs.all (knF p) = true
    · rw [if_pos h1] at h
      by_cases h2 : p.funcs.all (fitF p) = true
      · exact ⟨h1, h2⟩
      · rw [if_neg h2] at h; exact absurd h (by decide)
    · rw [if_neg h1] at h; exact absurd h (by decide)
  have hh := more_heads p s h0
  have hi : p.funcs.length - 1 < p.funcs.length := by omega
  have hlast : lastF p ∈ p.funcs := by unfold lastF; rw [elm_eq hi]; exact List.getElem_mem hi
  have e1 : (moreP p s).funcs.all (knF (moreP p s)) = knS p s := by
    rw [all_congr (Q := knF p) _ fun f _ => by unfold knF; exact all_congr _ fun a _ => knS_heads hh a]
    show (p.funcs.set _ _).all (knF p) = _
    rw [all_set _ _ _ _ hi hk.1]
    show ((lastF p).body ++ [s]).all (knS p) = _
    rw [List.all_append, show (lastF p).body.all (knS p) = true from List.all_eq_true.1 hk.1 _ hlast]
    simp
  have e2 : (moreP p s).funcs.all (fitF (moreP p s)) = fitS p (lastF p).word s := by
    rw [all_congr (Q := fitF p) _ fun f _ => by unfold fitF; exact all_congr _ fun a _ => fitS_heads hh f.word a]
    show (p.funcs.set _ _).all (fitF p) = _
    rw [all_set _ _ _ _ hi hk.2]
    show ((lastF p).body ++ [s]).all (fitS p (lastF p).word) = _
    rw [List.all_append, show (lastF p).body.all (fitS p (lastF p).word) = true from List.all_eq_true.1 hk.2 _ hlast]
    simp
  unfold refC
  rw [e1, e2]

/-- A statement with an expression. -/
def stE (k : Int) (l : List Ex) : St := .mk k ByteArray.empty l [] []
def callS (s : ByteArray) : St := .mk 6 s [] [] []
theorem sound_facts {p : Pg} (h : soundP p = 0) : rightP p = true ∧ namedP p = true ∧ countedP p = true ∧ refC p = 0 := by
  unfold soundP at h
  by_cases h1 : rightP p = true
  · rw [if_pos h1] at h
    by_cases h2 : checkP p = 0
    · rw [if_pos h2] at h
      unfold checkP at h2
      by_cases h3 : namedP p = true
      · rw [if_pos h3] at h2
        by_cases h4 : countedP p = true
        · exact ⟨h1, h3, h4, h⟩
        · rw [if_neg h4] at h2; exact absurd h2 (by decide)
      · rw [if_neg h3] at h2; exact absurd h2 (by decide)
    · rw [if_neg h2] at h; exact absurd h h2
  · rw [if_neg h1] at h; exact absurd h (by decide)
theorem knS_stE (p : Pg) (k : Int) (e : Ex) (hk : k ≠ 6) : knS p (stE k [e]) = knE p e := by
  simp [stE, knS, knSs, hk]
theorem more3 (p : Pg) (e : Ex) (h0 : 0 < p.funcs.length) (h : refC p = 0) : refC (moreP p (stE 3 [e])) = if knE p e = true then (if tyE p e = 1 then 0 else 5) else 4 := by
  rw [refC_more p _ h0 h, knS_stE p 3 e (by decide)]
  simp [stE, fitS, fitSs, fitK, wantE]
theorem more5 (p : Pg) (e : Ex) (h0 : 0 < p.funcs.length) (h : refC p = 0) : refC (moreP p (stE 5 [e])) = if knE p e = true then (if tyE p e = 2 then 0 else 5) else 4 := by
  rw [refC_more p _ h0 h, knS_stE p 5 e (by decide)]
  simp [stE, fitS, fitSs, fitK, wantE]
theorem more7 (p : Pg) (e : Ex) (h0 : 0 < p.funcs.length) (h : refC p = 0) (hw : (lastF p).word = false) : refC (moreP p (stE 7 [e])) = if knE p e = true then 5 else 4 := by
  rw [refC_more p _ h0 h, knS_stE p 7 e (by decide)]
  simp [stE, fitS, fitSs, fitK, wantE, hw]
theorem more70 (p : Pg) (h0 : 0 < p.funcs.length) (h : refC p = 0) : refC (moreP p (stE 7 [])) = 0 := by
  rw [refC_more p _ h0 h]
  simp [stE, knS, knSs, fitS, fitSs, fitK]
theorem more6 (p : Pg) (i : Nat) (hi : i < p.funcs.length) (h : refC p = 0) (hn : namedP p = true) : decide (refC (moreP p (callS (elm p.funcs i).name)) = 0) = !(elm p.funcs i).word := by
  have hidx : fnIdx p.funcs (elm p.funcs i).name = (i : Int) := by
    refine fnIdx_at hi (fun j hj he => ?_) rfl
    simp only [namedP, okN, Bool.and_eq_true, decide_eq_true_eq] at hn
    have hnd := hn.2.1
    unfold allN at hnd
    have h2 := (List.nodup_append.1 hnd).2.1
    have h3 := List.pairwise_iff_getElem.1 h2 j i (by simp; omega) (by simp; omega) hj
    simp only [List.getElem_map] at h3
    rw [elm_eq (by omega), elm_eq hi] at he
    exact h3 he
  rw [refC_more p _ (by omega) h]
  have hlt : ¬ (i : Int) < 0 := by omega
  have hle : (0 : Int) ≤ i := by omega
  cases hw : (elm p.funcs i).word <;> simp [callS, knS, knSs, fitS, fitSs, fitK, hidx, hlt, hle, hw]
end Go.Proofs.YtaackmiajgapoaaDoor.V
