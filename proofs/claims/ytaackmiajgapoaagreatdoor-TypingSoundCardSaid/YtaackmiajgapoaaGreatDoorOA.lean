/- A program logic at the level of values: parts O1 to O3. -/
import Derived.Test.YtaackmiajgapoaaGreatDoorVB
import Derived.Deep.Slices
import Derived.RowKit
import Derived.Below
import Derived.Test.YtaackmiajgapoaaGreatDoorD22
import Derived.LaidLaws
import Derived.OpenShut
import Derived.LaidHandle
import Derived.FnData
import Derived.KernelRfl
/- Arguments that are read as data, as values of the logic: strings, numbers, slices, structs. -/
set_option linter.unusedVariables false
set_option linter.unusedSimpArgs false
namespace Go.Proofs.YtaackmiajgapoaaGreatDoor.V
open Go Go.ChangeShapes Go.WideShapes

/-- All cells of a world, as what no one writes any more. -/
def memOf (w : World) : Mem := fun g o => w.cell? ⟨g, o, none⟩
/-- Cells that hold values. -/
def RepCs (m : Mem) (ps : List PV) (cs : List Value) : Prop := ps.length = cs.length ∧ ∀ k (h : k < ps.length), RepV m (ps[k]) (cs.getD k undef)

section
variable {H : Type} {enc : TypeId × Value → H} {P : Program} {w : World} {base : Nat} {spare : Nat → Bool} {held : Bool} {t : TypeId} {fuel : Nat} {cs : List Value} {x : DataW H × List MemPlace}

theorem RepCs.one {m : Mem} {p : PV} {v : Value} (h : RepV m p v) : RepCs m [p] [v] := ⟨rfl, fun k hk => by
  obtain rfl : k = 0 := by simpa using hk
  simpa using h⟩
theorem RepCs.get {m : Mem} {p : PV} {v : Value} (h : RepCs m [p] [v]) : RepV m p v := by simpa using h.2 0 (by simp)

theorem o_int {k : IntKind} (hu : P.underlying t = some (.int k)) (h : DataW.trod enc P w base spare held fuel t cs = some x) : ∃ n, (Lit.int k n).wf = true ∧ RepCs (memOf w) [.val (.int k n)] cs := by
  obtain ⟨n, rfl, _, hw⟩ := DataW.trod_int hu h
  exact ⟨n, hw, .one (.val _ trivial)⟩
theorem o_bool (hu : P.underlying t = some .bool) (h : DataW.trod enc P w base spare held fuel t cs = some x) : ∃ b, RepCs (memOf w) [.val (.bool b)] cs := by
  obtain ⟨n, rfl, _⟩ := DataW.trod_bool hu h
  exact ⟨n, .one (.val _ trivial)⟩
theorem o_str (hu : P.underlying t = some .string) (h : DataW.trod enc P w base spare held fuel t cs = some x) : ∃ s : ByteArray, s.size ≤ maxLen ∧ RepCs (memOf w) [.val (.string s)] cs := by
  obtain ⟨n, rfl, _, hs⟩ := DataW.trod_string hu h
  exact ⟨n, hs, .one (.val _ hs)⟩
theorem o_slice {α : Type} [Inhabited α] {f : α → List PV} {Q : α → Prop} {e : TypeId} {sz : Nat} (hu : P.underlying t = some (.slice e)) (hc : P.cellsOf e = sz) (hsz : 0 < sz)
    (hel : ∀ n cs x, fuel = n + 1 → DataW.trod enc P w base spare held n e cs = some x → ∃ a, Q a ∧ RepCs (memOf w) (f a) cs)
    (h : DataW.trod enc P w base spare held fuel t cs = some x) : ∃ l : List α, (∀ a ∈ l, Q a) ∧ RepCs (memOf w) [.slice (l.map f)] cs := by
  rcases DataW.trod_slice hu h with ⟨rfl, _⟩ | ⟨a, len, cap, elems, rest, n, hn, rfl, _, hb, hl, hm, hlen, hE, _⟩
  · exact ⟨[], by simp, .one (.nil0 none 0 (Nat.zero_le _))⟩
  · have hx : ∀ i, i < len → ∃ y : α × (Nat → Value), Q y.1 ∧ (f y.1).length = sz ∧ (∀ k, k < sz → w.cell? ((a.add (i * sz)).add k) = some (y.2 k)) ∧ ∀ k (hk : k < (f y.1).length), RepV (memOf w) ((f y.1)[k]) (y.2 k) := by
      intro i hi
      have h1 := hE i hi
      rw [hc, List.getElem?_eq_getElem (by omega), Option.bind_eq_some_iff] at h1
      obtain ⟨cs', h2, h3⟩ := h1
      obtain ⟨_, h4, h5⟩ := World.cells?_some h2
      obtain ⟨b, hQ, hl', hr⟩ := hel n cs' _ hn h3
      refine ⟨(b, fun k => cs'.getD k undef), hQ, (by show (f b).length = sz; omega), fun k hk => ?_, hr⟩
      show w.cell? _ = some (cs'.getD k undef)
      rw [h5 k hk, List.getD_eq_getElem?_getD, List.getElem?_eq_getElem (by omega)]
      rfl
    obtain ⟨Y, hY⟩ := Go.Deep.choose_lt hx
    refine ⟨(List.range len).map fun i => (Y i).1, ?_, .one ?_⟩
    · intro b hb
      obtain ⟨i, hi, rfl⟩ := List.mem_map.1 hb
      exact (hY i (List.mem_range.1 hi)).1
    · rcases Nat.eq_zero_or_pos len with h0 | h0
      · subst h0
        exact .nil0 _ _ hm
      · have hsp : a.spot = none := by
          have := (hY 0 h0).2.2.1 0 hsz
          rw [Nat.zero_mul] at this
          simp only [Addr.add, if_true] at this
          unfold World.cell? at this
          split at this
          · split at this
            · cases this
            · rename_i hs
              simpa using hs
          · cases this
        obtain ⟨g, o, s⟩ := a
        simp only at hsp
        subst hsp
        have := RepV.slice (m := memOf w) (((List.range len).map fun i => (Y i).1).map f) g o cap sz (fun i k => (Y i).2 k) (by simpa using hl) hm ?_ ?_ ?_
        · simpa using this
        · intro i hi
          simp only [List.getElem_map, List.getElem_range]
          exact (hY i (by simpa using hi)).2.1
        · intro i k hi hk
          have hi' : i < len := by simpa using hi
          have := (hY i hi').2.2.1 k hk
          have e : (Addr.mk g o none).add (i * sz) = ⟨g, o + i * sz, none⟩ := by
            unfold Addr.add
            split
            · rename_i h; rw [h]; rfl
            · rfl
          have e2 : (Addr.mk g (o + i * sz) none).add k = ⟨g, o + i * sz + k, none⟩ := by
            unfold Addr.add
            split
            · rename_i h; rw [h]; rfl
            · rfl
          rw [e, e2] at this
          show w.cell? _ = _
          rw [← Nat.add_assoc]
          exact this
        · intro i hi k hk
          simp only [List.getElem_map, List.getElem_range] at hk ⊢
          exact (hY i (by simpa using hi)).2.2.2 k hk

theorem o_field {fs : Array Field} (hu : P.underlying t = some (.struct fs)) (h : DataW.trod enc P w base spare held fuel t cs = some x) :
    ∃ n, fuel = n + 1 ∧ cs.length = P.cellsOf t ∧ ∀ (i : Nat) (f : Field), fs[i]? = some f → P.cellsOf f.type = 1 → f.offset < P.cellsOf t → ∃ y, DataW.trod enc P w base spare held n f.type [cs.getD f.offset undef] = some y := by
  obtain ⟨xs, n, hn, _, hl, hxs, hf⟩ := DataW.trod_struct hu h
  refine ⟨n, hn, hl, fun i f hi h1 ho => ?_⟩
  have h2 := hf i f hi
  have hlt : i < fs.size := by
    rcases Nat.lt_or_ge i fs.size with h | h
    · exact h
    · rw [Array.getElem?_eq_none h] at hi; cases hi
  rw [h1, List.getElem?_eq_getElem (by omega)] at h2
  have e : (cs.drop f.offset).take 1 = [cs.getD f.offset undef] := by
    rw [List.getD_eq_getElem?_getD, List.getElem?_eq_getElem (show f.offset < cs.length by omega), List.drop_eq_getElem_cons (by omega), List.take_succ_cons, List.take_zero]
    rfl
  rw [e] at h2
  exact ⟨_, h2⟩
end
end Go.Proofs.YtaackmiajgapoaaGreatDoor.V

/- From a contract at the level of values to a law's run: nothing that was there has turned. -/
set_option linter.unusedVariables false
set_option linter.unusedSimpArgs false
namespace Go.Proofs.YtaackmiajgapoaaGreatDoor.V
open Go Go.RowKit

theorem bridge {P : Program} {G : Nat → Option (List PV)} {f : FuncId} {args : List PV} {vs : Array Value} {W : World} {r : PV}
    (hG : ∀ g e, G g = some e → ∃ u : Nat → Value, ∀ k (h : k < e.length), memOf W g k = some (u k) ∧ RepV (memOf W) (e[k]) (u k))
    (h : VPure P G f args r) (hl : args.length = vs.size) (hr : ∀ i (h : i < args.length), RepS (memOf W) (fun _ => 0) 0 (args[i]) (vs.getD i undef)) :
    Calls P f vs W fun e w' => ∃ m' v, e = .returned v ∧ RepS m' (fun _ => 0) 0 r v ∧ Below W.heap.size W w' := by
  refine (h ⟨0, fun _ => none⟩ W ⟨memOf W, fun _ => 0, fun _ => .none, fun _ => 0, fun _ => none⟩ vs ⟨fun g o v e => e, hG, ?_, ?_, ?_⟩ (fun g => .inl rfl) hl hr).mono ?_
  · intro b cs e; cases e
  · intro g b e; cases e
  · intro g e; exact absurd rfl e
  · rintro e w' ⟨r', sh', gh', ⟨rfl, rfl⟩, ⟨v, hv, hrep⟩, hS, hO, hst⟩
    refine ⟨gh'.m, v, hv, hrep.mono (MemLe.refl _) (fun b hb => absurd hb (by show ¬ b < 0; omega)) (Nat.le_refl _), hst.os, hst.tape, hst.output, hst.size, fun k hk => (hst.blk k hk rfl).1⟩

theorem bridge_bool {P : Program} {G : Nat → Option (List PV)} {f : FuncId} {args : List PV} {vs : Array Value} {W : World} {b : Bool}
    (hG : ∀ g e, G g = some e → ∃ u : Nat → Value, ∀ k (h : k < e.length), memOf W g k = some (u k) ∧ RepV (memOf W) (e[k]) (u k))
    (h : VPure P G f args (.val (.bool b))) (hl : args.length = vs.size) (hr : ∀ i (h : i < args.length), RepS (memOf W) (fun _ => 0) 0 (args[i]) (vs.getD i undef)) :
    Calls P f vs W fun e w' => e = .returned (.bool b) ∧ Below W.heap.size W w' := by
  refine (bridge hG h hl hr).mono ?_
  rintro e w' ⟨m', v, rfl, hv, hb⟩
  refine ⟨?_, hb⟩
  cases hv with | pure hv => cases hv; rfl

/-- A struct that is handed over by its cells. -/
theorem RepCs.agg {m : Mem} {ps : List PV} {cs : Array Value} (h : RepCs m ps cs.toList) : RepS m (fun _ => 0) 0 (.agg ps) (.agg cs) := by
  have hl : ps.length = cs.size := by simpa using h.1
  refine .agg ps cs hl (fun i hi => ?_) (fun i hi => .pure ?_)
  · have := (h.2 i (by omega)).one
    rw [List.getD_eq_getElem?_getD] at this
    simpa [hi] using this
  · have := h.2 i hi
    rw [List.getD_eq_getElem?_getD] at this
    simpa [Array.getD_eq_getD_getElem?] using this
end Go.Proofs.YtaackmiajgapoaaGreatDoor.V

/- The laws' arguments as values of the logic; what the listed variable holds. -/
set_option maxRecDepth 100000
set_option linter.unusedVariables false
set_option linter.unusedSimpArgs false
namespace Go.Proofs.YtaackmiajgapoaaGreatDoor.V
open Go Go.ChangeShapes Go.WideShapes Go.RowKit

theorem RepCs.of {m : Mem} {ps : List PV} {cs : List Value} (hl : ps.length = cs.length) (h : ∀ k (h : k < ps.length), RepCs m [ps[k]] [cs.getD k undef]) : RepCs m ps cs :=
  ⟨hl, fun k hk => (h k hk).get⟩
theorem RepCs.five {m : Mem} {a b c d e : PV} {cs : List Value} (hl : cs.length = 5) (h0 : RepCs m [a] [cs.getD 0 undef]) (h1 : RepCs m [b] [cs.getD 1 undef]) (h2 : RepCs m [c] [cs.getD 2 undef]) (h3 : RepCs m [d] [cs.getD 3 undef]) (h4 : RepCs m [e] [cs.getD 4 undef]) : RepCs m [a, b, c, d, e] cs :=
  .of hl.symm fun k hk => match k, hk with
    | 0, _ => h0 | 1, _ => h1 | 2, _ => h2 | 3, _ => h3 | 4, _ => h4
theorem RepCs.three {m : Mem} {a b c : PV} {cs : List Value} (hl : cs.length = 3) (h0 : RepCs m [a] [cs.getD 0 undef]) (h1 : RepCs m [b] [cs.getD 1 undef]) (h2 : RepCs m [c] [cs.getD 2 undef]) : RepCs m [a, b, c] cs :=
  .of hl.symm fun k hk => match k, hk with
    | 0, _ => h0 | 1, _ => h1 | 2, _ => h2
theorem RepCs.two {m : Mem} {a b : PV} {cs : List Value} (hl : cs.length = 2) (h0 : RepCs m [a] [cs.getD 0 undef]) (h1 : RepCs m [b] [cs.getD 1 undef]) : RepCs m [a, b] cs :=
  .of hl.symm fun k hk => match k, hk with
    | 0, _ => h0 | 1, _ => h1

theorem c3 : Tryz.prog.cellsOf 3 = 1 := by kernel_rfl
theorem c4 : Tryz.prog.cellsOf 4 = 1 := by kernel_rfl
theorem c9 : Tryz.prog.cellsOf 9 = 1 := by kernel_rfl
theorem c27 : Tryz.prog.cellsOf 51 = 1 := by kernel_rfl
theorem c28 : Tryz.prog.cellsOf 52 = 1 := by kernel_rfl
theorem c43 : Tryz.prog.cellsOf 55 = 1 := by kernel_rfl
theorem c22 : Tryz.prog.cellsOf 22 = 1 := by kernel_rfl
theorem c23 : Tryz.prog.cellsOf 23 = 1 := by kernel_rfl
theorem c24 : Tryz.prog.cellsOf 24 = 1 := by kernel_rfl
theorem c30 : Tryz.prog.cellsOf 54 = 5 := by kernel_rfl
theorem c45 : Tryz.prog.cellsOf 57 = 5 := by kernel_rfl
theorem c47 : Tryz.prog.cellsOf 59 = 5 := by kernel_rfl
theorem c63 : Tryz.prog.cellsOf 65 = 2 := by kernel_rfl
theorem c26 : Tryz.prog.cellsOf 26 = 3 := by kernel_rfl

section
variable {H : Type} {enc : TypeId × Value → H} {w : World} {base : Nat} {spare : Nat → Bool} {held : Bool}

theorem o_strs {fuel : Nat} {cs : List Value} {x : DataW H × List MemPlace} (h : DataW.trod enc Tryz.prog w base spare held fuel 22 cs = some x) : ∃ l : List ByteArray, RepCs (memOf w) [.slice (encT l)] cs := by
  obtain ⟨l, _, hl⟩ := o_slice (f := fun s : ByteArray => [PV.val (.string s)]) (Q := fun _ => True) Tryz.underlying22 c9 (by decide) (fun n cs x _ h => by
    obtain ⟨s, _, hs⟩ := o_str Tryz.underlying9 h
    exact ⟨s, trivial, hs⟩) h
  exact ⟨l, hl⟩
theorem o_ar {fuel : Nat} {cs : List Value} {x : DataW H × List MemPlace} (h : DataW.trod enc Tryz.prog w base spare held fuel 65 cs = some x) : ∃ a : Ar, RepCs (memOf w) (encA a) cs := by
  obtain ⟨n, _, hl, hf⟩ := o_field Tryz.underlying65 h
  obtain ⟨y0, h0⟩ := hf 0 _ rfl c9 (by rw [c63]; decide)
  obtain ⟨y1, h1⟩ := hf 1 _ rfl c3 (by rw [c63]; decide)
  obtain ⟨s, _, hs⟩ := o_str Tryz.underlying9 h0
  obtain ⟨k, _, hk⟩ := o_int Tryz.underlying3 h1
  exact ⟨⟨s, k⟩, .two (by rw [hl, c63]) hs hk⟩
theorem o_ex : ∀ (fuel : Nat) (cs : List Value) (x : DataW H × List MemPlace), DataW.trod enc Tryz.prog w base spare held fuel 54 cs = some x → ∃ e : Ex, RepCs (memOf w) (encE e) cs := by
  intro fuel
  induction fuel using Nat.strongRecOn with
  | ind fuel ih =>
    intro cs x h
    obtain ⟨n, hn, hl, hf⟩ := o_field Tryz.underlying54 h
    obtain ⟨y0, h0⟩ := hf 0 _ rfl c3 (by rw [c30]; decide)
    obtain ⟨y1, h1⟩ := hf 1 _ rfl c3 (by rw [c30]; decide)
    obtain ⟨y2, h2⟩ := hf 2 _ rfl c27 (by rw [c30]; decide)
    obtain ⟨y3, h3⟩ := hf 3 _ rfl c9 (by rw [c30]; decide)
    obtain ⟨y4, h4⟩ := hf 4 _ rfl c28 (by rw [c30]; decide)
    obtain ⟨k, _, hk⟩ := o_int Tryz.underlying3 h0
    obtain ⟨o, _, ho⟩ := o_int Tryz.underlying3 h1
    obtain ⟨u, _, hu⟩ := o_int Tryz.underlying51 h2
    obtain ⟨s, _, hs⟩ := o_str Tryz.underlying9 h3
    obtain ⟨l, _, hl4⟩ := o_slice (f := encE) (Q := fun _ => True) Tryz.underlying52 c30 (by decide) (fun m cs x hm h => by
      obtain ⟨e, he⟩ := ih m (by omega) cs x h
      exact ⟨e, trivial, he⟩) h4
    refine ⟨.mk k o u s l, ?_⟩
    rw [encE_eq]
    exact .five (by rw [hl, c30]) hk ho hu hs hl4
theorem o_exs {fuel : Nat} {cs : List Value} {x : DataW H × List MemPlace} (h : DataW.trod enc Tryz.prog w base spare held fuel 52 cs = some x) : ∃ l : List Ex, RepCs (memOf w) [.slice (l.map encE)] cs := by
  obtain ⟨l, _, hl⟩ := o_slice (f := encE) (Q := fun _ => True) Tryz.underlying52 c30 (by decide) (fun m cs x hm h => by
    obtain ⟨e, he⟩ := o_ex m cs x h
    exact ⟨e, trivial, he⟩) h
  exact ⟨l, hl⟩
theorem o_st : ∀ (fuel : Nat) (cs : List Value) (x : DataW H × List MemPlace), DataW.trod enc Tryz.prog w base spare held fuel 57 cs = some x → ∃ e : St, RepCs (memOf w) (encS e) cs := by
  intro fuel
  induction fuel using Nat.strongRecOn with
  | ind fuel ih =>
    intro cs x h
    obtain ⟨n, hn, hl, hf⟩ := o_field Tryz.underlying57 h
    obtain ⟨y0, h0⟩ := hf 0 _ rfl c3 (by rw [c45]; decide)
    obtain ⟨y1, h1⟩ := hf 1 _ rfl c9 (by rw [c45]; decide)
    obtain ⟨y2, h2⟩ := hf 2 _ rfl c28 (by rw [c45]; decide)
    obtain ⟨y3, h3⟩ := hf 3 _ rfl c43 (by rw [c45]; decide)
    obtain ⟨y4, h4⟩ := hf 4 _ rfl c43 (by rw [c45]; decide)
    obtain ⟨k, _, hk⟩ := o_int Tryz.underlying3 h0
    obtain ⟨s, _, hs⟩ := o_str Tryz.underlying9 h1
    obtain ⟨e, he⟩ := o_exs h2
    obtain ⟨t, _, ht⟩ := o_slice (f := encS) (Q := fun _ => True) Tryz.underlying55 c45 (by decide) (fun m cs x hm h => by
      obtain ⟨e, he⟩ := ih m (by omega) cs x h
      exact ⟨e, trivial, he⟩) h3
    obtain ⟨f, _, hf⟩ := o_slice (f := encS) (Q := fun _ => True) Tryz.underlying55 c45 (by decide) (fun m cs x hm h => by
      obtain ⟨e, he⟩ := ih m (by omega) cs x h
      exact ⟨e, trivial, he⟩) h4
    refine ⟨.mk k s e t f, ?_⟩
    rw [encS_eq]
    exact .five (by rw [hl, c45]) hk hs he ht hf
theorem o_fn {fuel : Nat} {cs : List Value} {x : DataW H × List MemPlace} (h : DataW.trod enc Tryz.prog w base spare held fuel 59 cs = some x) : ∃ e : Fn, RepCs (memOf w) (encF e) cs := by
  obtain ⟨n, hn, hl, hf⟩ := o_field Tryz.underlying59 h
  obtain ⟨y0, h0⟩ := hf 0 _ rfl c9 (by rw [c47]; decide)
  obtain ⟨y1, h1⟩ := hf 1 _ rfl c22 (by rw [c47]; decide)
  obtain ⟨y2, h2⟩ := hf 2 _ rfl c22 (by rw [c47]; decide)
  obtain ⟨y3, h3⟩ := hf 3 _ rfl c4 (by rw [c47]; decide)
  obtain ⟨y4, h4⟩ := hf 4 _ rfl c43 (by rw [c47]; decide)
  obtain ⟨s, _, hs⟩ := o_str Tryz.underlying9 h0
  obtain ⟨p, hp⟩ := o_strs h1
  obtain ⟨l, hll⟩ := o_strs h2
  obtain ⟨b, hb⟩ := o_bool Tryz.underlying4 h3
  obtain ⟨t, _, ht⟩ := o_slice (f := encS) (Q := fun _ => True) Tryz.underlying55 c45 (by decide) (fun m cs x hm h => by
    obtain ⟨e, he⟩ := o_st m cs x h
    exact ⟨e, trivial, he⟩) h4
  exact ⟨⟨s, p, l, b, t⟩, .five (by rw [hl, c47]) hs hp hll hb ht⟩
theorem o_pg {fuel : Nat} {cs : List Value} {x : DataW H × List MemPlace} (h : DataW.trod enc Tryz.prog w base spare held fuel 26 cs = some x) : ∃ e : Pg, RepCs (memOf w) (encP e) cs := by
  obtain ⟨n, hn, hl, hf⟩ := o_field Tryz.underlying26 h
  obtain ⟨y0, h0⟩ := hf 0 _ rfl c22 (by rw [c26]; decide)
  obtain ⟨y1, h1⟩ := hf 1 _ rfl c23 (by rw [c26]; decide)
  obtain ⟨y2, h2⟩ := hf 2 _ rfl c24 (by rw [c26]; decide)
  obtain ⟨v, hv⟩ := o_strs h0
  obtain ⟨a, _, ha⟩ := o_slice (f := encA) (Q := fun _ => True) Tryz.underlying23 c63 (by decide) (fun m cs x hm h => by
    obtain ⟨e, he⟩ := o_ar h
    exact ⟨e, trivial, he⟩) h1
  obtain ⟨f, _, hf⟩ := o_slice (f := encF) (Q := fun _ => True) Tryz.underlying24 c47 (by decide) (fun m cs x hm h => by
    obtain ⟨e, he⟩ := o_fn h
    exact ⟨e, trivial, he⟩) h2
  exact ⟨⟨v, a, f⟩, .three (by rw [hl, c26]) hv ha hf⟩
end

/-- WHAT THE LISTED VARIABLE HOLDS. -/
def wordG : Nat → Option (List PV) := fun g => if g = 0 then some (wordList.map fun s => .val (.string s)) else none
theorem wordG_ok : GOk wordG := ⟨rfl⟩
theorem words_of_laid {P : Program} {n : String} {t e : TypeId} {ws : List ByteArray} {W : World} (hg : P.globalNamed n = some 0) (ht : (P.globals[0]?).map (·.type) = some t) (hu : P.underlying t = some (.array ws.length e)) (he : P.underlying e = some .string) (hc : P.cellsOf e = 1) (hct : P.cellsOf t = ws.length)
    (h : laidMet P [(n, .agg (ws.map fun s => .lit (.string s.data.toList)))] W) (hw : ∀ s ∈ ws, s.size ≤ maxLen) :
    ∃ u : Nat → Value, ∀ k (h : k < (ws.map fun s => PV.val (.string s)).length), memOf W 0 k = some (u k) ∧ RepV (memOf W) ((ws.map fun s => PV.val (.string s))[k]) (u k) := by
  obtain ⟨ps, hl, _, _⟩ := h
  obtain ⟨g, t', cs, fuel, p, q, h1, h2, h3, h4, _, _⟩ := hl
  obtain rfl := Option.some.inj (hg.symm.trans h1)
  obtain rfl := Option.some.inj (ht.symm.trans h2)
  obtain ⟨xs, m, _, hx, hlen, hxs, hel⟩ := DataW.trod_array hu h4
  simp only [Prod.mk.injEq, DataW.agg.injEq] at hx
  refine ⟨fun k => cs.toList.getD k undef, fun k hk => ?_⟩
  have hk' : k < ws.length := by simpa using hk
  have hkc : k < cs.toList.length := by rw [hlen, hct]; exact hk'
  have h5 := hel k hk'
  rw [hc, Nat.mul_one, List.drop_eq_getElem_cons hkc, List.take_succ_cons, List.take_zero, List.getElem?_eq_getElem (by omega)] at h5
  obtain ⟨s, e1, e2, _⟩ := DataW.trod_string he h5
  have h6 : (ws.map fun s => DataW.lit (H := Unit) (.string s.data.toList))[k]'(by simpa using hk') = (xs.map (·.1))[k]'(by simpa using (by omega : k < xs.length)) := by simp only [hx.1]
  simp only [List.getElem_map] at h6
  rw [e2] at h6
  simp only [DataW.lit.injEq, Lit.string.injEq] at h6
  have hs : ws[k] = s := by
    have : ws[k].data = s.data := by
      apply Array.ext'
      exact h6
    cases hw1 : ws[k] with | mk d1 => cases s with | mk d2 => rw [hw1] at this; simp only at this; rw [this]
  have hcs : cs.toList.getD k undef = .string s := by
    rw [List.getD_eq_getElem?_getD, List.getElem?_eq_getElem hkc]
    simpa using e1
  refine ⟨?_, ?_⟩
  · show W.cell? ⟨0, k, none⟩ = _
    rw [World.var?_cell hg h3 k]
    show cs[k]? = some (cs.toList.getD k undef)
    rw [hcs]
    have hkc' : k < cs.size := by simpa using hkc
    rw [Array.getElem?_eq_getElem hkc']
    have : cs[k] = .string s := by simpa using e1
    rw [this]
  · simp only [List.getElem_map]
    show RepV _ _ (cs.toList.getD k undef)
    rw [hcs, ← hs]
    exact .val _ (hw _ (List.getElem_mem hk'))
end Go.Proofs.YtaackmiajgapoaaGreatDoor.V
