/- Arguments that are read as data, as values of the logic: strings, numbers, slices, structs. -/
import Derived.Test.YtaackmiajgapoaaDoorVB
import Derived.Deep.Slices
import Derived.RowKit
set_option linter.unusedVariables false
set_option linter.unusedSimpArgs false
namespace Go.Proofs.YtaackmiajgapoaaDoor.V
open Go Go.ChangeShapes Go.WideShapes

/-- All cells of a world, as what no one writes any more. -/
def memOf (w : World) : Mem := fun g o => w.cell? ⟨g, o, none⟩
/-- Cells that hold values. -/
def RepCs (m : Mem) (ps : List PV) (cs : List Value) : Prop := ps.length = cs.length ∧ ∀ k (h : k < ps.length), RepV m (ps[k]) (cs.getD k undef)

section
variable {H : Type} {enc : TypeId × Value → H} {P : Program} {w : World} {base : Nat} {spare : Nat → Bool} {held : Bool} {t : TypeId} {fuel : Nat} {cs : List Value} {x : DataW H × List MemPlace}

theorem RepCs.one {m : Mem} {p : PV} {v : Value} (h : RepV m p v) : RepCs m [p] [v] := ⟨rfl, fun k hk => by
  obtain rfl : k = 0 := by simpa using hk
  simpa using h⟩
theorem RepCs.get {m : Mem} {p : PV} {v : Value} (h : RepCs m [p] [v]) : RepV m p v := by simpa using h.2 0 (by simp)

theorem o_int {k : IntKind} (hu : P.underlying t = some (.int k)) (h : DataW.trod enc P w base spare held fuel t cs = some x) : ∃ n, (Lit.int k n).wf = true ∧ RepCs (memOf w) [.val (.int k n)] cs := by
  obtain ⟨n, rfl, _, hw⟩ := DataW.trod_int hu h
  exact ⟨n, hw, .one (.val _ trivial)⟩
theorem o_bool (hu : P.underlying t = some .bool) (h : DataW.trod enc P w base spare held fuel t cs = some x) : ∃ b, RepCs (memOf w) [.val (.bool b)] cs := by
  obtain ⟨n, rfl, _⟩ := DataW.trod_bool hu h
  exact ⟨n, .one (.val _ trivial)⟩
theorem o_str (hu : P.underlying t = some .string) (h : DataW.trod enc P w base spare held fuel t cs = some x) : ∃ s : ByteArray, s.size ≤ maxLen ∧ RepCs (memOf w) [.val (.string s)] cs := by
  obtain ⟨n, rfl, _, hs⟩ := DataW.trod_string hu h
  exact ⟨n, hs, .one (.val _ hs)⟩
theorem o_slice {α : Type} [Inhabited α] {f : α → List PV} {Q : α → Prop} {e : TypeId} {sz : Nat} (hu : P.underlying t = some (.slice e)) (hc : P.cellsOf e = sz) (hsz : 0 < sz)
    (hel : ∀ n cs x, fuel = n + 1 → DataW.trod enc P w base spare held n e cs = some x → ∃ a, Q a ∧ RepCs (memOf w) (f a) cs)
    (h : DataW.trod enc P w base spare held fuel t cs = some x) : ∃ l : List α, (∀ a ∈ l, Q a) ∧ RepCs (memOf w) [.slice (l.map f)] cs := by
  rcases DataW.trod_slice hu h with ⟨rfl, _⟩ | ⟨a, len, cap, elems, rest, n, hn, rfl, _, hb, hl, hm, hlen, hE, _⟩
  · exact ⟨[], by simp, .one (.nil0 none 0 (Nat.zero_le _))⟩
  · have hx : ∀ i, i < len → ∃ y : α × (Nat → Value), Q y.1 ∧ (f y.1).length = sz ∧ (∀ k, k < sz → w.cell? ((a.add (i * sz)).add k) = some (y.2 k)) ∧ ∀ k (hk : k < (f y.1).length), RepV (memOf w) ((f y.1)[k]) (y.2 k) := by
      intro i hi
      have h1 := hE i hi
      rw [hc, List.getElem?_eq_getElem (by omega), Option.bind_eq_some_iff] at h1
      obtain ⟨cs', h2, h3⟩ := h1
      obtain ⟨_, h4, h5⟩ := World.cells?_some h2
      obtain ⟨b, hQ, hl', hr⟩ := hel n cs' _ hn h3
      refine ⟨(b, fun k => cs'.getD k undef), hQ, (by show (f b).length = sz; omega), fun k hk => ?_, hr⟩
      show w.cell? _ = some (cs'.getD k undef)
      rw [h5 k hk, List.getD_eq_getElem?_getD, List.getElem?_eq_getElem (by omega)]
      rfl
    obtain ⟨Y, hY⟩ := Go.Deep.choose_lt hx
    refine ⟨(List.range len).map fun i => (Y i).1, ?_, .one ?_⟩
    · intro b hb
      obtain ⟨i, hi, rfl⟩ := List.mem_map.1 hb
      exact (hY i (List.mem_range.1 hi)).1
    · rcases Nat.eq_zero_or_pos len with h0 | h0
      · subst h0
        exact .nil0 _ _ hm
      · have hsp : a.spot = none := by
          have := (hY 0 h0).2.2.1 0 hsz
          rw [Nat.zero_mul] at this
          simp only [Addr.add, if_true] at this
          unfold World.cell? at this
          split at this
          · split at this
            · cases this
            · rename_i hs
              simpa using hs
          · cases this
        obtain ⟨g, o, s⟩ := a
        simp only at hsp
        subst hsp
        have := RepV.slice (m := memOf w) (((List.range len).map fun i => (Y i).1).map f) g o cap sz (fun i k => (Y i).2 k) (by simpa using hl) hm ?_ ?_ ?_
        · simpa using this
        · intro i hi
          simp only [List.getElem_map, List.getElem_range]
          exact (hY i (by simpa using hi)).2.1
        · intro i k hi hk
          have hi' : i < len := by simpa using hi
          have := (hY i hi').2.2.1 k hk
          have e : (Addr.mk g o none).add (i * sz) = ⟨g, o + i * sz, none⟩ := by
            unfold Addr.add
            split
            · rename_i h; rw [h]; rfl
            · rfl
          have e2 : (Addr.mk g (o + i * sz) none).add k = ⟨g, o + i * sz + k, none⟩ := by
            unfold Addr.add
            split
            · rename_i h; rw [h]; rfl
            · rfl
          rw [e, e2] at this
          show w.cell? _ = _
          rw [← Nat.add_assoc]
          exact this
        · intro i hi k hk
          simp only [List.getElem_map, List.getElem_range] at hk ⊢
          exact (hY i (by simpa using hi)).2.2.2 k hk

theorem o_field {fs : Array Field} (hu : P.underlying t = some (.struct fs)) (h : DataW.trod enc P w base spare held fuel t cs = some x) :
    ∃ n, fuel = n + 1 ∧ cs.length = P.cellsOf t ∧ ∀ (i : Nat) (f : Field), fs[i]? = some f → P.cellsOf f.type = 1 → f.offset < P.cellsOf t → ∃ y, DataW.trod enc P w base spare held n f.type [cs.getD f.offset undef] = some y := by
  obtain ⟨xs, n, hn, _, hl, hxs, hf⟩ := DataW.trod_struct hu h
  refine ⟨n, hn, hl, fun i f hi h1 ho => ?_⟩
  have h2 := hf i f hi
  have hlt : i < fs.size := by
    rcases Nat.lt_or_ge i fs.size with h | h
    · exact h
    · rw [Array.getElem?_eq_none h] at hi; cases hi
  rw [h1, List.getElem?_eq_getElem (by omega)] at h2
  have e : (cs.drop f.offset).take 1 = [cs.getD f.offset undef] := by
    rw [List.getD_eq_getElem?_getD, List.getElem?_eq_getElem (show f.offset < cs.length by omega), List.drop_eq_getElem_cons (by omega), List.take_succ_cons, List.take_zero]
    rfl
  rw [e] at h2
  exact ⟨_, h2⟩
end
end Go.Proofs.YtaackmiajgapoaaDoor.V
