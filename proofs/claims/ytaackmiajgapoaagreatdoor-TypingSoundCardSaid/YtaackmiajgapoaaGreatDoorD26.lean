/- The library's copies, of names, as calls of the logic. -/
import Derived.Test.YtaackmiajgapoaaGreatDoorD25
import Derived.Test.YtaackmiajgapoaaGreatDoorVB
import Derived.Test.YtaackmiajgapoaaGreatDoorMA
set_option maxRecDepth 100000
set_option maxHeartbeats 16000000
set_option linter.unusedSimpArgs false
set_option linter.unusedVariables false
namespace Go.Proofs.YtaackmiajgapoaaGreatDoor.V
open Go Go.RowKit
variable {G : Nat → Option (List PV)}

section
variable {P : Program}
theorem ShSim.below {sh : Sh} {gh : Gh} {w w' : World} (h : ShSim P G sh gh w) (hb : Below w.heap.size w w') : ShSim P G sh gh w' := by
  refine ⟨fun g o v hm => ?_, h.glob, fun b cs e => ?_, h.nomem, fun g e => Nat.lt_of_lt_of_le (h.lt g e) hb.size⟩
  · rw [hb.cell (p := ⟨g, o, none⟩) (h.block_lt hm)]
    exact h.mem g o v hm
  · obtain ⟨h1, h2, cur, ty, h3, h4⟩ := h.box b cs e
    refine ⟨h1, h2, cur, ty, ?_, h4⟩
    rw [hb.block _ (h.lt _ (by rw [h2]; intro e; cases e))]
    exact h3
theorem step_below {nx : Nat} {gh : Gh} {w w' : World} (hb : Below w.heap.size w w') : Step w gh nx w' gh nx :=
  ⟨hb.os, hb.tape, hb.output, hb.size, fun g hg ho => ⟨hb.block g hg, ho, fun _ => rfl⟩, MemLe.refl _, fun _ _ => rfl, Nat.le_refl _⟩
/-- A function of the machine's that only answers. -/
theorem lift_below {f : FuncId} {args : List PV} {r : PV} (h : ∀ (w : World) (gh : Gh) (sh : Sh) (vs : Array Value), ShSim P G sh gh w → args.length = vs.size → (∀ i (h : i < args.length), RepS gh.m gh.phi sh.next (args[i]) (vs.getD i undef)) →
    Calls P f vs w fun e w' => (∃ v, e = .returned v ∧ RepV gh.m r v) ∧ Below w.heap.size w w') : VPure P G f args r := by
  intro sh w gh vs hS hO hl hr
  refine (h w gh sh vs hS hl hr).mono ?_
  rintro e w' ⟨⟨v, rfl, hv⟩, hb⟩
  exact ⟨.ret r, sh, gh, ⟨rfl, rfl⟩, ⟨v, rfl, .pure hv⟩, hS.below hb, hO, step_below hb⟩
/-- One that hands back a row of its own. -/
theorem lift_own {f : FuncId} {args : List PV} {es : List (List PV)} {e : TypeId} {sz : Nat} {sh : Sh} (hinfo : (P.info? e).map (·.size) = some sz) (hsz : 0 < sz) (hes : ∀ i (h : i < es.length), (es[i]).length = sz)
    (h : ∀ (w : World) (gh : Gh) (vs : Array Value), ShSim P G sh gh w → args.length = vs.size → (∀ i (h : i < args.length), RepS gh.m gh.phi sh.next (args[i]) (vs.getD i undef)) →
      Calls P f vs w fun en w' => ∃ v xs, en = .returned v ∧ w'.ownsRow w.heap.size e sz v es.length xs ∧ Below w.heap.size w w' ∧ ∀ i (h : i < es.length) j (hj : j < (es[i]).length), RepV gh.m ((es[i])[j]) (xs.getD (i * sz + j) undef)) : VOwn P G f args sh es e sz := by
  intro w gh vs hS hO hl hr
  refine (h w gh vs hS hl hr).mono ?_
  rintro en w' ⟨v, xs, rfl, ⟨hxl, hown⟩, hb, hrep⟩
  rcases hown with ⟨rfl, h0⟩ | ⟨g, cap, cur, rfl, hg, hheap, hn, hm, hs, ht⟩
  · refine ⟨sh, gh, ⟨none, by rw [h0]; rfl, rfl, ⟨fun _ => List.length_eq_zero_iff.1 h0, fun g cap e => by cases e⟩⟩, hS.below hb, hO, step_below hb⟩
  · have hlt : g < w'.heap.size := (Array.getElem?_eq_some_iff.1 hheap).1
    have hown : gh.own g = .none := by
      cases ho : gh.own g with
      | none => rfl
      | _ =>
        have := hS.lt g (by rw [ho]; intro e; cases e)
        omega
    refine ⟨sh, gh, ⟨some (g, cap), rfl, rfl, ⟨(fun e => by cases e), ?_⟩⟩, hS.below hb, hO, step_below hb⟩
    rintro g' cap' e'
    simp only [Option.some.injEq, Prod.mk.injEq] at e'
    obtain ⟨rfl, rfl⟩ := e'
    refine ⟨hg, hlt, hown, fun o => ?_, hsz, hn, hm, hinfo, hes, cur, hheap, hs, fun i hi j hj => ?_⟩
    · cases hmm : gh.m g o with
      | none => rfl
      | some v => have := hS.block_lt hmm; omega
    · have := hrep i hi j hj
      have hbd : i * sz + j < es.length * sz := by
        have h1 : (i + 1) * sz ≤ es.length * sz := Nat.mul_le_mul_right _ (by omega)
        rw [Nat.add_mul, Nat.one_mul] at h1
        rw [hes i hi] at hj
        omega
      rw [← ht, List.getD_eq_getElem?_getD, List.getElem?_take, if_pos hbd] at this
      simpa [Array.getD_eq_getD_getElem?] using this
end

/-- Names, in memory. -/
theorem strs_inv {m : Mem} {l : List ByteArray} {v : Value} (h : RepV m (.slice (encT l)) v) : (l = [] ∧ ∃ A cap, v = .slice A 0 cap) ∨
    ∃ g o cap, v = .slice (some ⟨g, o, none⟩) l.length cap ∧ ∀ j, j < l.length → m g (o + j) = some (.string (l.getD j ByteArray.empty)) := by
  generalize hp : PV.slice (encT l) = p at h
  cases h with
  | val => cases hp
  | nils => cases hp
  | nil0 A cap hc =>
    simp only [PV.slice.injEq] at hp
    refine .inl ⟨?_, A, cap, rfl⟩
    cases l with
    | nil => rfl
    | cons a r => simp [encT] at hp
  | slice es g o cap sz u hc hm hs hu hr =>
    simp only [PV.slice.injEq] at hp
    subst hp
    refine .inr ⟨g, o, cap, by rw [encT_length], fun j hj => ?_⟩
    have hj' : j < (encT l).length := by rw [encT_length]; exact hj
    have e1 : (encT l)[j] = [.val (.string (l.getD j ByteArray.empty))] := by
      have := encT_getD l j hj
      rw [List.getD_eq_getElem?_getD, List.getElem?_eq_getElem hj'] at this
      simp only [Option.getD_some] at this
      exact this
    have hsz : sz = 1 := by have := hs j hj'; rw [e1] at this; simpa using this.symm
    subst hsz
    have h1 := hu j 0 hj' (by omega)
    have h2 := hr j hj' 0 (by rw [e1]; simp)
    simp only [e1] at h2
    rw [Nat.mul_one, Nat.add_zero] at h1
    rw [h1]
    generalize u j 0 = x at h2
    cases h2
    rfl
theorem arg1 {vs : Array Value} (h : 1 = vs.size) : vs = #[vs.getD 0 undef] := by
  apply Array.ext
  · simp [← h]
  · intro i h1 h2
    have : i = 0 := by omega
    subst this
    simp [Array.getD_eq_getD_getElem?, h1]

theorem unlike_c (l : List ByteArray) (hl : l.length * 16 ≤ 140737488355328) : VPure Tryz.prog G 91 [.slice (encT l)] (.val (.bool (decide l.Nodup))) := by
  refine lift_below fun w gh sh vs hS hlen hr => ?_
  have h0 := (hr 0 (by simp)).tree (by rfl)
  rw [arg1 (vs := vs) (by simpa using hlen)]
  simp only [List.getElem_cons_zero] at h0
  generalize vs.getD 0 undef = v at h0
  rcases strs_inv h0 with ⟨rfl, A, cap, rfl⟩ | ⟨g, o, cap, rfl, hc⟩
  · cases A with
    | none =>
      refine (unlike_nil cap w).mono ?_
      rintro e w' ⟨rfl, rfl⟩
      exact ⟨⟨_, rfl, by rw [decide_eq_true List.nodup_nil]; exact .val _ trivial⟩, Below.refl _ _⟩
    | some a =>
      refine (unlike_zero a cap w).mono ?_
      rintro e w' ⟨rfl, hb⟩
      exact ⟨⟨_, rfl, by rw [unlikeS_eq]; exact .val _ trivial⟩, hb⟩
  · refine (unlike_any g o cap l w hl fun j hj => hS.mem _ _ _ (hc j hj)).mono ?_
    rintro e w' ⟨rfl, hb⟩
    exact ⟨⟨_, rfl, by rw [unlikeS_eq]; exact .val _ trivial⟩, hb⟩

theorem info9 : (Tryz.prog.info? 9).map (·.size) = some 1 := by kernel_rfl
theorem encT_one (l : List ByteArray) : ∀ i (h : i < (encT l).length), ((encT l)[i]).length = 1 := by
  intro i h
  simp [encT]
theorem clone_own (l : List ByteArray) (sh : Sh) (hl : l.length * 16 ≤ 140737488355328) (hsz : ∀ s ∈ l, s.size ≤ maxLen) : VOwn Tryz.prog G 90 [.slice (encT l)] sh (encT l) 9 1 := by
  refine lift_own info9 (by omega) (encT_one l) fun w gh vs hS hlen hr => ?_
  have h0 := (hr 0 (by simp)).tree (by rfl)
  rw [arg1 (vs := vs) (by simpa using hlen)]
  simp only [List.getElem_cons_zero] at h0
  generalize vs.getD 0 undef = v at h0
  rcases strs_inv h0 with ⟨rfl, A, cap, rfl⟩ | ⟨g, o, cap, rfl, hc⟩
  · cases A with
    | none =>
      refine (Tryz.slices_Clone_string_nil 0 cap w).mono ?_
      rintro e w' ⟨rfl, rfl⟩
      exact ⟨_, [], rfl, World.ownsRow_nil _ _ _ _, Below.refl _ _, fun i h => absurd h (by simp [encT])⟩
    | some a =>
      refine (Tryz.slices_Clone_string_zero a cap w).mono ?_
      rintro e w' ⟨v', rfl, h1, _, h2⟩
      exact ⟨v', [], rfl, h1, h2, fun i h => absurd h (by simp [encT])⟩
  · refine (Tryz.slices_Clone_string g o l.length cap l w (Nat.le_refl _) hl fun j hj => hS.mem _ _ _ (hc j hj)).mono ?_
    rintro e w' ⟨v', rfl, h1, _, h2⟩
    rw [List.take_length] at h1
    refine ⟨v', _, rfl, by rw [encT_length]; exact h1, h2, fun i hi j hj => ?_⟩
    have hi' : i < l.length := by rwa [encT_length] at hi
    have hj0 : j = 0 := by have := encT_one l i hi; omega
    subst hj0
    have e1 : (encT l)[i] = [.val (.string l[i])] := by simp [encT]
    simp only [e1, List.getElem_cons_zero, Nat.mul_one, Nat.add_zero]
    rw [List.getD_eq_getElem?_getD]
    simp only [List.getElem?_map, List.getElem?_eq_getElem hi', Option.map_some, Option.getD_some]
    exact .val _ (hsz _ (List.getElem_mem hi'))
theorem grow_own (n : Nat) (sh : Sh) (hn : n * 16 ≤ 140737488355328) : VOwn Tryz.prog G 158 [.nils, .val (.int .i64 n)] sh [] 9 1 := by
  refine lift_own info9 (by omega) (fun i h => absurd h (by simp)) fun w gh vs hS hlen hr => ?_
  have h0 := (hr 0 (by simp)).tree (by rfl)
  have h1 := (hr 1 (by simp)).tree (by rfl)
  have hvs : vs = #[vs.getD 0 undef, vs.getD 1 undef] := by
    apply Array.ext
    · simpa using hlen.symm
    · intro i h1 h2
      have : i = 0 ∨ i = 1 := by simp at h2; omega
      rcases this with rfl | rfl <;> simp [Array.getD_eq_getD_getElem?, h1]
  rw [hvs]
  simp only [List.getElem_cons_zero, List.getElem_cons_succ] at h0 h1
  generalize vs.getD 0 undef = v at h0
  generalize vs.getD 1 undef = u at h1
  cases h0
  cases h1
  rcases Nat.eq_zero_or_pos n with h0 | h0
  · subst h0
    refine (grow_zero w).mono ?_
    rintro e w' ⟨rfl, rfl⟩
    exact ⟨_, [], rfl, World.ownsRow_nil _ _ _ _, Below.refl _ _, fun i h => absurd h (by simp)⟩
  · refine (grow_some n h0 hn w).mono ?_
    rintro e w' ⟨rfl, rfl⟩
    have hge := grownCap_ge w n 0 9
    have hcm := grownCap_le_maxLen w n 0 9 (by unfold maxLen; omega)
    refine ⟨_, [], rfl, ⟨rfl, .inr ⟨w.heap.size, grownCap w n 0 9, Builtin.zeroCells #[.string ByteArray.empty] n ++ Builtin.zeroCells #[.string ByteArray.empty] (grownCap w n 0 9 - n), rfl, Nat.le_refl _, ?_, Nat.zero_le _, hcm, ?_, by simp⟩⟩, ((Below.refl _ w).alloc (Nat.le_refl _) _).drew, fun i h => absurd h (by simp)⟩
    · show (w.heap.push _)[w.heap.size]? = _
      rw [Array.getElem?_push, if_pos rfl]
    · simp only [Array.size_append, size_zeroCells]
      simp
      omega
end Go.Proofs.YtaackmiajgapoaaGreatDoor.V
