/- The laws' arguments as values of the logic; what the listed variable holds. -/
import Derived.Test.YtaackmiajgapoaaDoorO2
import Derived.Test.YtaackmiajgapoaaDoorD22
import Derived.LaidLaws
import Derived.OpenShut
import Derived.LaidHandle
import Derived.FnData
import Derived.KernelRfl
set_option maxRecDepth 100000
set_option linter.unusedVariables false
set_option linter.unusedSimpArgs false
namespace Go.Proofs.YtaackmiajgapoaaDoor.V
open Go Go.ChangeShapes Go.WideShapes Go.RowKit

theorem RepCs.of {m : Mem} {ps : List PV} {cs : List Value} (hl : ps.length = cs.length) (h : ∀ k (h : k < ps.length), RepCs m [ps[k]] [cs.getD k undef]) : RepCs m ps cs :=
  ⟨hl, fun k hk => (h k hk).get⟩
theorem RepCs.five {m : Mem} {a b c d e : PV} {cs : List Value} (hl : cs.length = 5) (h0 : RepCs m [a] [cs.getD 0 undef]) (h1 : RepCs m [b] [cs.getD 1 undef]) (h2 : RepCs m [c] [cs.getD 2 undef]) (h3 : RepCs m [d] [cs.getD 3 undef]) (h4 : RepCs m [e] [cs.getD 4 undef]) : RepCs m [a, b, c, d, e] cs :=
  .of hl.symm fun k hk => match k, hk with
    | 0, _ => h0 | 1, _ => h1 | 2, _ => h2 | 3, _ => h3 | 4, _ => h4
theorem RepCs.three {m : Mem} {a b c : PV} {cs : List Value} (hl : cs.length = 3) (h0 : RepCs m [a] [cs.getD 0 undef]) (h1 : RepCs m [b] [cs.getD 1 undef]) (h2 : RepCs m [c] [cs.getD 2 undef]) : RepCs m [a, b, c] cs :=
  .of hl.symm fun k hk => match k, hk with
    | 0, _ => h0 | 1, _ => h1 | 2, _ => h2
theorem RepCs.two {m : Mem} {a b : PV} {cs : List Value} (hl : cs.length = 2) (h0 : RepCs m [a] [cs.getD 0 undef]) (h1 : RepCs m [b] [cs.getD 1 undef]) : RepCs m [a, b] cs :=
  .of hl.symm fun k hk => match k, hk with
    | 0, _ => h0 | 1, _ => h1

theorem c3 : Tryd.prog.cellsOf 3 = 1 := by kernel_rfl
theorem c4 : Tryd.prog.cellsOf 4 = 1 := by kernel_rfl
theorem c9 : Tryd.prog.cellsOf 9 = 1 := by kernel_rfl
theorem c27 : Tryd.prog.cellsOf 27 = 1 := by kernel_rfl
theorem c28 : Tryd.prog.cellsOf 28 = 1 := by kernel_rfl
theorem c43 : Tryd.prog.cellsOf 43 = 1 := by kernel_rfl
theorem c22 : Tryd.prog.cellsOf 22 = 1 := by kernel_rfl
theorem c23 : Tryd.prog.cellsOf 23 = 1 := by kernel_rfl
theorem c24 : Tryd.prog.cellsOf 24 = 1 := by kernel_rfl
theorem c30 : Tryd.prog.cellsOf 30 = 5 := by kernel_rfl
theorem c45 : Tryd.prog.cellsOf 45 = 5 := by kernel_rfl
theorem c47 : Tryd.prog.cellsOf 47 = 5 := by kernel_rfl
theorem c63 : Tryd.prog.cellsOf 63 = 2 := by kernel_rfl
theorem c26 : Tryd.prog.cellsOf 26 = 3 := by kernel_rfl

section
variable {H : Type} {enc : TypeId × Value → H} {w : World} {base : Nat} {spare : Nat → Bool} {held : Bool}

theorem o_strs {fuel : Nat} {cs : List Value} {x : DataW H × List MemPlace} (h : DataW.trod enc Tryd.prog w base spare held fuel 22 cs = some x) : ∃ l : List ByteArray, RepCs (memOf w) [.slice (encT l)] cs := by
  obtain ⟨l, _, hl⟩ := o_slice (f := fun s : ByteArray => [PV.val (.string s)]) (Q := fun _ => True) Tryd.underlying22 c9 (by decide) (fun n cs x _ h => by
    obtain ⟨s, _, hs⟩ := o_str Tryd.underlying9 h
    exact ⟨s, trivial, hs⟩) h
  exact ⟨l, hl⟩
theorem o_ar {fuel : Nat} {cs : List Value} {x : DataW H × List MemPlace} (h : DataW.trod enc Tryd.prog w base spare held fuel 63 cs = some x) : ∃ a : Ar, RepCs (memOf w) (encA a) cs := by
  obtain ⟨n, _, hl, hf⟩ := o_field Tryd.underlying63 h
  obtain ⟨y0, h0⟩ := hf 0 _ rfl c9 (by rw [c63]; decide)
  obtain ⟨y1, h1⟩ := hf 1 _ rfl c3 (by rw [c63]; decide)
  obtain ⟨s, _, hs⟩ := o_str Tryd.underlying9 h0
  obtain ⟨k, _, hk⟩ := o_int Tryd.underlying3 h1
  exact ⟨⟨s, k⟩, .two (by rw [hl, c63]) hs hk⟩
theorem o_ex : ∀ (fuel : Nat) (cs : List Value) (x : DataW H × List MemPlace), DataW.trod enc Tryd.prog w base spare held fuel 30 cs = some x → ∃ e : Ex, RepCs (memOf w) (encE e) cs := by
  intro fuel
  induction fuel using Nat.strongRecOn with
  | ind fuel ih =>
    intro cs x h
    obtain ⟨n, hn, hl, hf⟩ := o_field Tryd.underlying30 h
    obtain ⟨y0, h0⟩ := hf 0 _ rfl c3 (by rw [c30]; decide)
    obtain ⟨y1, h1⟩ := hf 1 _ rfl c3 (by rw [c30]; decide)
    obtain ⟨y2, h2⟩ := hf 2 _ rfl c27 (by rw [c30]; decide)
    obtain ⟨y3, h3⟩ := hf 3 _ rfl c9 (by rw [c30]; decide)
    obtain ⟨y4, h4⟩ := hf 4 _ rfl c28 (by rw [c30]; decide)
    obtain ⟨k, _, hk⟩ := o_int Tryd.underlying3 h0
    obtain ⟨o, _, ho⟩ := o_int Tryd.underlying3 h1
    obtain ⟨u, _, hu⟩ := o_int Tryd.underlying27 h2
    obtain ⟨s, _, hs⟩ := o_str Tryd.underlying9 h3
    obtain ⟨l, _, hl4⟩ := o_slice (f := encE) (Q := fun _ => True) Tryd.underlying28 c30 (by decide) (fun m cs x hm h => by
      obtain ⟨e, he⟩ := ih m (by omega) cs x h
      exact ⟨e, trivial, he⟩) h4
    refine ⟨.mk k o u s l, ?_⟩
    rw [encE_eq]
    exact .five (by rw [hl, c30]) hk ho hu hs hl4
theorem o_exs {fuel : Nat} {cs : List Value} {x : DataW H × List MemPlace} (h : DataW.trod enc Tryd.prog w base spare held fuel 28 cs = some x) : ∃ l : List Ex, RepCs (memOf w) [.slice (l.map encE)] cs := by
  obtain ⟨l, _, hl⟩ := o_slice (f := encE) (Q := fun _ => True) Tryd.underlying28 c30 (by decide) (fun m cs x hm h => by
    obtain ⟨e, he⟩ := o_ex m cs x h
    exact ⟨e, trivial, he⟩) h
  exact ⟨l, hl⟩
theorem o_st : ∀ (fuel : Nat) (cs : List Value) (x : DataW H × List MemPlace), DataW.trod enc Tryd.prog w base spare held fuel 45 cs = some x → ∃ e : St, RepCs (memOf w) (encS e) cs := by
  intro fuel
  induction fuel using Nat.strongRecOn with
  | ind fuel ih =>
    intro cs x h
    obtain ⟨n, hn, hl, hf⟩ := o_field Tryd.underlying45 h
    obtain ⟨y0, h0⟩ := hf 0 _ rfl c3 (by rw [c45]; decide)
    obtain ⟨y1, h1⟩ := hf 1 _ rfl c9 (by rw [c45]; decide)
    obtain ⟨y2, h2⟩ := hf 2 _ rfl c28 (by rw [c45]; decide)
    obtain ⟨y3, h3⟩ := hf 3 _ rfl c43 (by rw [c45]; decide)
    obtain ⟨y4, h4⟩ := hf 4 _ rfl c43 (by rw [c45]; decide)
    obtain ⟨k, _, hk⟩ := o_int Tryd.underlying3 h0
    obtain ⟨s, _, hs⟩ := o_str Tryd.underlying9 h1
    obtain ⟨e, he⟩ := o_exs h2
    obtain ⟨t, _, ht⟩ := o_slice (f := encS) (Q := fun _ => True) Tryd.underlying43 c45 (by decide) (fun m cs x hm h => by
      obtain ⟨e, he⟩ := ih m (by omega) cs x h
      exact ⟨e, trivial, he⟩) h3
    obtain ⟨f, _, hf⟩ := o_slice (f := encS) (Q := fun _ => True) Tryd.underlying43 c45 (by decide) (fun m cs x hm h => by
      obtain ⟨e, he⟩ := ih m (by omega) cs x h
      exact ⟨e, trivial, he⟩) h4
    refine ⟨.mk k s e t f, ?_⟩
    rw [encS_eq]
    exact .five (by rw [hl, c45]) hk hs he ht hf
theorem o_fn {fuel : Nat} {cs : List Value} {x : DataW H × List MemPlace} (h : DataW.trod enc Tryd.prog w base spare held fuel 47 cs = some x) : ∃ e : Fn, RepCs (memOf w) (encF e) cs := by
  obtain ⟨n, hn, hl, hf⟩ := o_field Tryd.underlying47 h
  obtain ⟨y0, h0⟩ := hf 0 _ rfl c9 (by rw [c47]; decide)
  obtain ⟨y1, h1⟩ := hf 1 _ rfl c22 (by rw [c47]; decide)
  obtain ⟨y2, h2⟩ := hf 2 _ rfl c22 (by rw [c47]; decide)
  obtain ⟨y3, h3⟩ := hf 3 _ rfl c4 (by rw [c47]; decide)
  obtain ⟨y4, h4⟩ := hf 4 _ rfl c43 (by rw [c47]; decide)
  obtain ⟨s, _, hs⟩ := o_str Tryd.underlying9 h0
  obtain ⟨p, hp⟩ := o_strs h1
  obtain ⟨l, hll⟩ := o_strs h2
  obtain ⟨b, hb⟩ := o_bool Tryd.underlying4 h3
  obtain ⟨t, _, ht⟩ := o_slice (f := encS) (Q := fun _ => True) Tryd.underlying43 c45 (by decide) (fun m cs x hm h => by
    obtain ⟨e, he⟩ := o_st m cs x h
    exact ⟨e, trivial, he⟩) h4
  exact ⟨⟨s, p, l, b, t⟩, .five (by rw [hl, c47]) hs hp hll hb ht⟩
theorem o_pg {fuel : Nat} {cs : List Value} {x : DataW H × List MemPlace} (h : DataW.trod enc Tryd.prog w base spare held fuel 26 cs = some x) : ∃ e : Pg, RepCs (memOf w) (encP e) cs := by
  obtain ⟨n, hn, hl, hf⟩ := o_field Tryd.underlying26 h
  obtain ⟨y0, h0⟩ := hf 0 _ rfl c22 (by rw [c26]; decide)
  obtain ⟨y1, h1⟩ := hf 1 _ rfl c23 (by rw [c26]; decide)
  obtain ⟨y2, h2⟩ := hf 2 _ rfl c24 (by rw [c26]; decide)
  obtain ⟨v, hv⟩ := o_strs h0
  obtain ⟨a, _, ha⟩ := o_slice (f := encA) (Q := fun _ => True) Tryd.underlying23 c63 (by decide) (fun m cs x hm h => by
    obtain ⟨e, he⟩ := o_ar h
    exact ⟨e, trivial, he⟩) h1
  obtain ⟨f, _, hf⟩ := o_slice (f := encF) (Q := fun _ => True) Tryd.underlying24 c47 (by decide) (fun m cs x hm h => by
    obtain ⟨e, he⟩ := o_fn h
    exact ⟨e, trivial, he⟩) h2
  exact ⟨⟨v, a, f⟩, .three (by rw [hl, c26]) hv ha hf⟩
end

/-- WHAT THE LISTED VARIABLE HOLDS. -/
def wordG : Nat → Option (List PV) := fun g => if g = 0 then some (wordList.map fun s => .val (.string s)) else none
theorem wordG_ok : GOk wordG := ⟨rfl⟩
theorem words_of_laid {P : Program} {n : String} {t e : TypeId} {ws : List ByteArray} {W : World} (hg : P.globalNamed n = some 0) (ht : (P.globals[0]?).map (·.type) = some t) (hu : P.underlying t = some (.array ws.length e)) (he : P.underlying e = some .string) (hc : P.cellsOf e = 1) (hct : P.cellsOf t = ws.length)
    (h : laidMet P [(n, .agg (ws.map fun s => .lit (.string s.data.toList)))] W) (hw : ∀ s ∈ ws, s.size ≤ maxLen) :
    ∃ u : Nat → Value, ∀ k (h : k < (ws.map fun s => PV.val (.string s)).length), memOf W 0 k = some (u k) ∧ RepV (memOf W) ((ws.map fun s => PV.val (.string s))[k]) (u k) := by
  obtain ⟨ps, hl, _, _⟩ := h
  obtain ⟨g, t', cs, fuel, p, q, h1, h2, h3, h4, _, _⟩ := hl
  obtain rfl := Option.some.inj (hg.symm.trans h1)
  obtain rfl := Option.some.inj (ht.symm.trans h2)
  obtain ⟨xs, m, _, hx, hlen, hxs, hel⟩ := DataW.trod_array hu h4
  simp only [Prod.mk.injEq, DataW.agg.injEq] at hx
  refine ⟨fun k => cs.toList.getD k undef, fun k hk => ?_⟩
  have hk' : k < ws.length := by simpa using hk
  have hkc : k < cs.toList.length := by rw [hlen, hct]; exact hk'
  have h5 := hel k hk'
  rw [hc, Nat.mul_one, List.drop_eq_getElem_cons hkc, List.take_succ_cons, List.take_zero, List.getElem?_eq_getElem (by omega)] at h5
  obtain ⟨s, e1, e2, _⟩ := DataW.trod_string he h5
  have h6 : (ws.map fun s => DataW.lit (H := Unit) (.string s.data.toList))[k]'(by simpa using hk') = (xs.map (·.1))[k]'(by simpa using (by omega : k < xs.length)) := by simp only [hx.1]
  simp only [List.getElem_map] at h6
  rw [e2] at h6
  simp only [DataW.lit.injEq, Lit.string.injEq] at h6
  have hs : ws[k] = s := by
    have : ws[k].data = s.data := by
      apply Array.ext'
      exact h6
    cases hw1 : ws[k] with | mk d1 => cases s with | mk d2 => rw [hw1] at this; simp only at this; rw [this]
  have hcs : cs.toList.getD k undef = .string s := by
    rw [List.getD_eq_getElem?_getD, List.getElem?_eq_getElem hkc]
    simpa using e1
  refine ⟨?_, ?_⟩
  · show W.cell? ⟨0, k, none⟩ = _
    rw [World.var?_cell hg h3 k]
    show cs[k]? = some (cs.toList.getD k undef)
    rw [hcs]
    have hkc' : k < cs.size := by simpa using hkc
    rw [Array.getElem?_eq_getElem hkc']
    have : cs[k] = .string s := by simpa using e1
    rw [this]
  · simp only [List.getElem_map]
    show RepV _ _ (cs.toList.getD k undef)
    rw [hcs, ← hs]
    exact .val _ (hw _ (List.getElem_mem hk'))
end Go.Proofs.YtaackmiajgapoaaDoor.V
