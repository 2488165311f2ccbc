/- A program logic at the level of values: parts V1 to V12. -/
import Derived.WalkKit
/- A program logic at the level of values, proved sound against the kit's 'Code.wp' and 'Calls': definitions. -/
set_option linter.unusedVariables false
set_option linter.unusedSimpArgs false
namespace Go.Proofs.YtaackmiajgapoaaGreatDoor.V
open Go

abbrev Mem := Nat → Nat → Option Value

/-- A value without addresses: slices are trees. -/
inductive PV where
  | top
  | val (v : Value)
  | agg (cs : List PV)
  | tup (cs : List PV)
  | nils
  | slice (es : List (List PV))
  | tsl (k len : Nat)
  | loc (d off : Nat)
  | box (b off : Nat)
  | row (e : List PV) (off : Nat)
  | trow (k n i off : Nat)
  | func (f : FuncId) (caps : List PV)
  | gd (b : Bool) (p : PV)
  deriving Inhabited

def okVal : Value → Prop
  | .agg _ | .tuple _ => False
  | .string s => s.size ≤ maxLen
  | _ => True

theorem okVal_one {v : Value} (h : okVal v) : v.oneCell' = true := by
  cases v <;> simp_all [okVal, Value.oneCell']

/-- Trees: what stands in memory that no one writes any more. -/
inductive RepV (m : Mem) : PV → Value → Prop
  | val (v : Value) (h : okVal v) : RepV m (.val v) v
  | nils : RepV m .nils (.slice none 0 0)
  | nil0 (A : Option Addr) (cap : Nat) (h : cap ≤ maxLen) : RepV m (.slice []) (.slice A 0 cap)
  | slice (es : List (List PV)) (g o cap sz : Nat) (u : Nat → Nat → Value) (hc : es.length ≤ cap) (hm : cap ≤ maxLen)
      (hs : ∀ i (h : i < es.length), (es[i]).length = sz)
      (hu : ∀ i k, i < es.length → k < sz → m g (o + (i * sz + k)) = some (u i k))
      (hr : ∀ i (h : i < es.length) k (hk : k < (es[i]).length), RepV m ((es[i])[k]) (u i k)) :
      RepV m (.slice es) (.slice (some ⟨g, o, none⟩) es.length cap)

def MemLe (m m' : Mem) : Prop := ∀ g o v, m g o = some v → m' g o = some v
theorem MemLe.refl (m : Mem) : MemLe m m := fun _ _ _ h => h
theorem MemLe.trans {a b c : Mem} (h : MemLe a b) (k : MemLe b c) : MemLe a c := fun g o v x => k g o v (h g o v x)

theorem RepV.mono {m m' : Mem} (h : MemLe m m') {p : PV} {v : Value} (r : RepV m p v) : RepV m' p v := by
  induction r with
  | val v h => exact .val v h
  | nils => exact .nils
  | nil0 A cap h => exact .nil0 A cap h
  | slice es g o cap sz u hc hm hs hu hr ih => exact .slice es g o cap sz u hc hm hs (fun i k hi hk => h _ _ _ (hu i k hi hk)) ih

theorem RepV.one {m : Mem} {p : PV} {v : Value} (r : RepV m p v) : v.oneCell' = true := by
  cases r with
  | val v h => exact okVal_one h
  | nils => rfl
  | nil0 => rfl
  | slice => rfl

/-- Shallow values: structs of cells, results, pointers to shared boxes and to stable rows, closures. -/
inductive RepS (m : Mem) (phi : Nat → Nat) (nx : Nat) : PV → Value → Prop
  | pure {p : PV} {v : Value} (h : RepV m p v) : RepS m phi nx p v
  | agg (cs : List PV) (vs : Array Value) (hl : cs.length = vs.size) (h1 : ∀ i (h : i < vs.size), (vs[i]).oneCell' = true)
      (h : ∀ i (h : i < cs.length), RepS m phi nx (cs[i]) (vs.getD i undef)) : RepS m phi nx (.agg cs) (.agg vs)
  | tup (cs : List PV) (vs : Array Value) (hl : cs.length = vs.size)
      (h : ∀ i (h : i < cs.length), RepS m phi nx (cs[i]) (vs.getD i undef)) : RepS m phi nx (.tup cs) (.tuple vs)
  | box (b off : Nat) (h : b < nx) : RepS m phi nx (.box b off) (.pointer (some ⟨phi b, off, none⟩))
  | row (e : List PV) (g o off : Nat) (u : Nat → Value) (hu : ∀ k, k < e.length → m g (o + k) = some (u k))
      (hr : ∀ k (h : k < e.length), RepV m (e[k]) (u k)) : RepS m phi nx (.row e off) (.pointer (some ⟨g, o + off, none⟩))
  | func (f : FuncId) (cs : List PV) (vs : Array Value) (hl : cs.length = vs.size)
      (h : ∀ i (h : i < cs.length), RepS m phi nx (cs[i]) (vs.getD i undef)) : RepS m phi nx (.func f cs) (.func (.func f) #[] vs)

theorem RepS.mono {m m' : Mem} {phi phi' : Nat → Nat} {nx nx' : Nat} (h : MemLe m m') (hp : ∀ b, b < nx → phi' b = phi b) (hn : nx ≤ nx') {p : PV} {v : Value}
    (r : RepS m phi nx p v) : RepS m' phi' nx' p v := by
  induction r with
  | pure r => exact .pure (r.mono h)
  | agg cs vs hl h1 _ ih => exact .agg cs vs hl h1 ih
  | tup cs vs hl _ ih => exact .tup cs vs hl ih
  | box b off hb => rw [← hp b hb]; exact .box b off (Nat.lt_of_lt_of_le hb hn)
  | row e g o off u hu hr => exact .row e g o off u (fun k hk => h _ _ _ (hu k hk)) (fun k hk => (hr k hk).mono h)
  | func f cs vs hl _ ih => exact .func f cs vs hl ih

inductive Owner where
  | none
  | loc (d : Nat)
  | box (b : Nat)
  | chain (k : Nat)

structure Gh where
  m : Mem
  phi : Nat → Nat
  own : Nat → Owner
  lam : Nat → Nat
  gam : Nat → Option (Nat × Nat)

/-- What is shared between calls: boxes. -/
structure Sh where
  next : Nat
  mem : Nat → Option (List PV)

/-- A row that grows, or is written: its elements, their type and size; frozen: it is read as a tree elsewhere. -/
structure Chain where
  es : List (List PV)
  e : TypeId
  sz : Nat
  frz : Bool

structure VS where
  n : Nat
  shr : List Nat
  tmps : Nat → PV
  locs : Nat → Option (List PV)
  chs : Nat → Option Chain
  sh : Sh

def upd {α : Type} (f : Nat → α) (d : Nat) (x : α) : Nat → α := fun i => if i = d then x else f i
theorem upd_same {α : Type} (f : Nat → α) (d : Nat) (x : α) : upd f d x d = x := if_pos rfl
theorem upd_ne {α : Type} (f : Nat → α) (d i : Nat) (x : α) (h : i ≠ d) : upd f d x i = f i := if_neg h
theorem upd_at {α : Type} (f : Nat → α) (d i : Nat) (x : α) : upd f d x i = if i = d then x else f i := rfl

def chVal (c : Option (Nat × Nat)) (len : Nat) : Value :=
  match c with
  | none => .slice none 0 0
  | some (g, cap) => .slice (some ⟨g, 0, none⟩) len cap

def RepT (gh : Gh) (locs : Nat → Option (List PV)) (chs : Nat → Option Chain) (nx : Nat) : PV → Value → Prop
  | .top, _ => True
  | .gd true p, v => RepT gh locs chs nx p v
  | .gd false _, v => v = undef
  | .loc d off, v => (locs d).isSome = true ∧ v = .pointer (some ⟨gh.lam d, off, none⟩)
  | .tsl k len, v => ∃ c, chs k = some c ∧ len ≤ c.es.length ∧ (len = c.es.length → v = chVal (gh.gam k) len)
  | .trow k n i off, v => ∃ c, chs k = some c ∧ n ≤ c.es.length ∧ (n = c.es.length → ∀ g cap, gh.gam k = some (g, cap) → v = .pointer (some ⟨g, i * c.sz + off, none⟩))
  | .val w, v => RepS gh.m gh.phi nx (.val w) v
  | .agg cs, v => RepS gh.m gh.phi nx (.agg cs) v
  | .tup cs, v => RepS gh.m gh.phi nx (.tup cs) v
  | .nils, v => RepS gh.m gh.phi nx .nils v
  | .slice es, v => RepS gh.m gh.phi nx (.slice es) v
  | .box b off, v => RepS gh.m gh.phi nx (.box b off) v
  | .row e off, v => RepS gh.m gh.phi nx (.row e off) v
  | .func f cs, v => RepS gh.m gh.phi nx (.func f cs) v

theorem RepS.not_top {m : Mem} {phi : Nat → Nat} {nx : Nat} {v : Value} (h : RepS m phi nx .top v) : False := by
  cases h with | pure h => cases h
theorem RepS.not_gd {m : Mem} {phi : Nat → Nat} {nx : Nat} {b : Bool} {p : PV} {v : Value} (h : RepS m phi nx (.gd b p) v) : False := by
  cases h with | pure h => cases h
theorem RepS.not_loc {m : Mem} {phi : Nat → Nat} {nx : Nat} {a b : Nat} {v : Value} (h : RepS m phi nx (.loc a b) v) : False := by
  cases h with | pure h => cases h
theorem RepS.not_tsl {m : Mem} {phi : Nat → Nat} {nx : Nat} {a b : Nat} {v : Value} (h : RepS m phi nx (.tsl a b) v) : False := by
  cases h with | pure h => cases h
theorem RepS.not_trow {m : Mem} {phi : Nat → Nat} {nx : Nat} {a b c d : Nat} {v : Value} (h : RepS m phi nx (.trow a b c d) v) : False := by
  cases h with | pure h => cases h

/-- What stands for itself wherever it is. -/
theorem RepT.of_s {gh : Gh} {locs : Nat → Option (List PV)} {chs : Nat → Option Chain} {nx : Nat} {p : PV} {v : Value} (h : RepS gh.m gh.phi nx p v) : RepT gh locs chs nx p v := by
  cases p with
  | top => trivial
  | gd b p => exact h.not_gd.elim
  | loc a b => exact h.not_loc.elim
  | tsl a b => exact h.not_tsl.elim
  | trow a b c d => exact h.not_trow.elim
  | _ => exact h

theorem RepT.mono {gh gh' : Gh} {locs locs' : Nat → Option (List PV)} {chs chs' : Nat → Option Chain} {nx nx' : Nat} (hm : MemLe gh.m gh'.m) (hp : ∀ b, b < nx → gh'.phi b = gh.phi b) (hn : nx ≤ nx')
    (hl : ∀ d, (locs d).isSome = true → (locs' d).isSome = true ∧ gh'.lam d = gh.lam d)
    (hc : ∀ k c, chs k = some c → ∃ c', chs' k = some c' ∧ c.es.length ≤ c'.es.length ∧ (c'.es.length = c.es.length → gh'.gam k = gh.gam k ∧ c'.sz = c.sz)) :
    ∀ {p : PV} {v : Value}, RepT gh locs chs nx p v → RepT gh' locs' chs' nx' p v
  | .top, _, _ => trivial
  | .gd true p, v, h => RepT.mono (p := p) hm hp hn hl hc h
  | .gd false _, _, h => h
  | .loc d off, v, h => by
    obtain ⟨h1, e⟩ := h
    obtain ⟨h2, h3⟩ := hl d h1
    exact ⟨h2, by rw [h3]; exact e⟩
  | .tsl k len, v, h => by
    obtain ⟨c, h1, h2, h3⟩ := h
    obtain ⟨c', a1, a2, a3⟩ := hc k c h1
    refine ⟨c', a1, Nat.le_trans h2 a2, fun e => ?_⟩
    have e2 : c'.es.length = c.es.length := by omega
    rw [(a3 e2).1]
    exact h3 (by omega)
  | .trow k n i off, v, h => by
    obtain ⟨c, h1, h2, h3⟩ := h
    obtain ⟨c', a1, a2, a3⟩ := hc k c h1
    refine ⟨c', a1, Nat.le_trans h2 a2, fun e => ?_⟩
    have e2 : c'.es.length = c.es.length := by omega
    rw [(a3 e2).1, (a3 e2).2]
    exact h3 (by omega)
  | .val w, v, h => RepS.mono hm hp hn h
  | .agg cs, v, h => RepS.mono hm hp hn h
  | .tup cs, v, h => RepS.mono hm hp hn h
  | .nils, v, h => RepS.mono hm hp hn h
  | .slice es, v, h => RepS.mono hm hp hn h
  | .box b off, v, h => RepS.mono hm hp hn h
  | .row e off, v, h => RepS.mono hm hp hn h
  | .func f cs, v, h => RepS.mono hm hp hn h

structure ShSim (P : Program) (G : Nat → Option (List PV)) (sh : Sh) (gh : Gh) (w : World) : Prop where
  mem : ∀ g o v, gh.m g o = some v → w.cell? ⟨g, o, none⟩ = some v
  glob : ∀ g e, G g = some e → ∃ u : Nat → Value, ∀ k (h : k < e.length), gh.m g k = some (u k) ∧ RepV gh.m (e[k]) (u k)
  box : ∀ b cs, sh.mem b = some cs → b < sh.next ∧ gh.own (gh.phi b) = .box b ∧ ∃ cur ty, w.heap[gh.phi b]? = some (.cells cur ty (0, 0)) ∧ cur.size = cs.length ∧
    (∀ k (h : k < cs.length), RepS gh.m gh.phi sh.next (cs[k]) (cur.getD k undef) ∧ (cur.getD k undef).oneCell' = true)
  nomem : ∀ g b, gh.own g = .box b → ∀ o, gh.m g o = none
  lt : ∀ g, gh.own g ≠ .none → g < w.heap.size

/-- What a stretch of a run has left as it was. -/
structure Step (w : World) (gh : Gh) (nx : Nat) (w' : World) (gh' : Gh) (nx' : Nat) : Prop where
  os : w'.os = w.os
  tape : w'.tape = w.tape
  output : w'.output = w.output
  size : w.heap.size ≤ w'.heap.size
  blk : ∀ g, g < w.heap.size → gh.own g = .none → w'.heap[g]? = w.heap[g]? ∧ gh'.own g = .none ∧ ∀ o, gh'.m g o = gh.m g o
  mle : MemLe gh.m gh'.m
  phi : ∀ b, b < nx → gh'.phi b = gh.phi b
  nx : nx ≤ nx'

theorem Step.refl (w : World) (gh : Gh) (nx : Nat) : Step w gh nx w gh nx := ⟨rfl, rfl, rfl, Nat.le_refl _, fun _ _ h => ⟨rfl, h, fun _ => rfl⟩, MemLe.refl _, fun _ _ => rfl, Nat.le_refl _⟩
theorem Step.trans {w w1 w2 : World} {gh gh1 gh2 : Gh} {nx nx1 nx2 : Nat} (h : Step w gh nx w1 gh1 nx1) (k : Step w1 gh1 nx1 w2 gh2 nx2) : Step w gh nx w2 gh2 nx2 where
  os := k.os.trans h.os
  tape := k.tape.trans h.tape
  output := k.output.trans h.output
  size := Nat.le_trans h.size k.size
  blk := fun g hg ho => by
    obtain ⟨a1, a2, a3⟩ := h.blk g hg ho
    obtain ⟨b1, b2, b3⟩ := k.blk g (Nat.lt_of_lt_of_le hg h.size) a2
    exact ⟨b1.trans a1, b2, fun o => (b3 o).trans (a3 o)⟩
  mle := h.mle.trans k.mle
  phi := fun b hb => (k.phi b (Nat.lt_of_lt_of_le hb h.nx)).trans (h.phi b hb)
  nx := Nat.le_trans h.nx k.nx

structure ChSim (P : Program) (gh : Gh) (w : World) (k : Nat) (c : Chain) : Prop where
  nil : gh.gam k = none → c.es = []
  cons : ∀ g cap, gh.gam k = some (g, cap) → gh.own g = .chain k ∧ 0 < c.sz ∧ c.es.length ≤ cap ∧ cap ≤ maxLen ∧ (P.info? c.e).map (·.size) = some c.sz ∧
    (∀ i (h : i < c.es.length), (c.es[i]).length = c.sz) ∧
    ∃ cur, w.heap[g]? = some (.cells cur c.e (0, 0)) ∧ cur.size = cap * c.sz ∧
      (∀ i (h : i < c.es.length) j (hj : j < (c.es[i]).length), RepV gh.m ((c.es[i])[j]) (cur.getD (i * c.sz + j) undef)) ∧
      (∀ o v, gh.m g o = some v → c.frz = true ∧ o < c.es.length * c.sz) ∧
      (c.frz = true → ∀ o, o < c.es.length * c.sz → gh.m g o = some (cur.getD o undef))

structure Sim (P : Program) (G : Nat → Option (List PV)) (w0 : World) (gh0 : Gh) (nx0 : Nat) (st : VS) (a : Act) (w : World) (gh : Gh) : Prop where
  sh : ShSim P G st.sh gh w
  n : a.tmps.size = st.n
  defers : a.defers = []
  tmps : ∀ i, RepT gh st.locs st.chs st.sh.next (st.tmps i) (a.tmps.getD i undef)
  locs : ∀ d cs, st.locs d = some cs → gh.own (gh.lam d) = .loc d ∧ ∃ cur ty, w.heap[gh.lam d]? = some (.cells cur ty (0, 0)) ∧ cur.size = cs.length ∧
    (∀ k (h : k < cs.length), RepT gh st.locs st.chs st.sh.next (cs[k]) (cur.getD k undef) ∧ (cur.getD k undef).oneCell' = true)
  lown : ∀ g d, gh.own g = .loc d → ∀ o, gh.m g o = none
  chs : ∀ k c, st.chs k = some c → ChSim P gh w k c
  step : Step w0 gh0 nx0 w gh st.sh.next

/-! ### Ends of code and calls -/
inductive VEnd where
  | ret (p : PV)
  | pan (t : TypeId) (p : PV)

inductive VExit where
  | normal
  | exit (id : Nat)
  | ret
  | pan (t : TypeId) (p : PV)

def RepE (gh : Gh) (nx : Nat) : VEnd → Ending → Prop
  | .ret p, e => ∃ v, e = .returned v ∧ RepS gh.m gh.phi nx p v
  | .pan t p, e => ∃ v, e = .panicked [{ v := .iface t v, recovered := false }] ∧ RepS gh.m gh.phi nx p v

def OnlyBox (gh : Gh) : Prop := ∀ g, gh.own g = .none ∨ ∃ b, gh.own g = .box b

/-- THE CONTRACT OF A CALL, at the level of values. -/
def VCalls (P : Program) (G : Nat → Option (List PV)) (f : FuncId) (args : List PV) (sh : Sh) (R : VEnd → Sh → Prop) : Prop :=
  ∀ (w : World) (gh : Gh) (vs : Array Value), ShSim P G sh gh w → OnlyBox gh → args.length = vs.size → (∀ i (h : i < args.length), RepS gh.m gh.phi sh.next (args[i]) (vs.getD i undef)) →
    Calls P f vs w fun e w' => ∃ r sh' gh', R r sh' ∧ RepE gh' sh'.next r e ∧ ShSim P G sh' gh' w' ∧ OnlyBox gh' ∧ Step w gh sh.next w' gh' sh'.next

theorem VCalls.mono {P : Program} {G : Nat → Option (List PV)} {f : FuncId} {args : List PV} {sh : Sh} {R R' : VEnd → Sh → Prop} (h : VCalls P G f args sh R) (hr : ∀ r s, R r s → R' r s) : VCalls P G f args sh R' :=
  fun w gh vs h1 h2 h3 h4 => (h w gh vs h1 h2 h3 h4).mono fun e w' ⟨r, sh', gh', a, b⟩ => ⟨r, sh', gh', hr _ _ a, b⟩

end Go.Proofs.YtaackmiajgapoaaGreatDoor.V

/- A program logic at the level of values: operations that only compute and read; soundness. -/
set_option linter.unusedVariables false
set_option linter.unusedSimpArgs false
namespace Go.Proofs.YtaackmiajgapoaaGreatDoor.V
open Go

def VS.put (st : VS) (d : Option Tmp) (p : PV) : VS :=
  match d with
  | some d => { st with tmps := upd st.tmps d p }
  | none => st

def okDst (st : VS) (d : Option Tmp) : Prop := match d with | some d => d < st.n | none => True

theorem getD_set (a : Array Value) (d i : Nat) (v u : Value) (h : d < a.size) : (a.setIfInBounds d v).getD i u = if i = d then v else a.getD i u := by
  simp only [Array.getD_eq_getD_getElem?]
  by_cases e : i = d
  · subst e; simp [h]
  · rw [Array.getElem?_setIfInBounds_ne (fun h => e h.symm)]; simp [e]

theorem Sim.put {P : Program} {G : Nat → Option (List PV)} {w0 : World} {gh0 : Gh} {nx0 : Nat} {st : VS} {a : Act} {w : World} {gh : Gh} (h : Sim P G w0 gh0 nx0 st a w gh)
    {d : Option Tmp} (hd : okDst st d) {p : PV} {v : Value} (hp : RepT gh st.locs st.chs st.sh.next p v) : Sim P G w0 gh0 nx0 (st.put d p) (a.put d v) w gh := by
  cases d with
  | none => exact h
  | some d =>
    refine ⟨h.sh, ?_, h.defers, ?_, h.locs, h.lown, h.chs, h.step⟩
    · simp [Act.put, VS.put, h.n]
    · intro i
      simp only [Act.put, VS.put]
      rw [getD_set _ _ _ _ _ (by rw [h.n]; exact hd)]
      simp only [upd]
      by_cases e : i = d
      · rw [if_pos e, if_pos e]; exact hp
      · rw [if_neg e, if_neg e]; exact h.tmps i

def ofConst : Value → PV
  | .slice none 0 0 => .nils
  | v => .val v

def VS.ev (G : Nat → Option (List PV)) (st : VS) : Operand → PV
  | .tmp t => st.tmps t
  | .const v => ofConst v
  | .global g => match G g with | some e => .row e 0 | none => .top
  | .func f => .func f []

def okOp : Operand → Prop
  | .const v => okVal v
  | _ => True

def onG : Option Bool → Prop
  | none => True
  | some b => b = true
def impG : Option Bool → Bool → Prop
  | none, b => b = true
  | some c, b => c = true → b = true

structure VR where
  pre : Prop
  fact : Prop
  v : PV

def VR.bad : VR := ⟨False, True, .top⟩
def VR.ok (p : PV) : VR := ⟨True, True, p⟩

/-- A value that was made under a guard, read under one that implies it. -/
def under (g : Option Bool) (p : PV) (k : PV → VR) : VR :=
  match p with
  | .gd b q => ⟨impG g b ∧ (k q).pre, (k q).fact, (k q).v⟩
  | p => k p

def look (G : Nat → Option (List PV)) (st : VS) (g : Option Bool) (x : Operand) (k : PV → VR) : VR :=
  ⟨okOp x ∧ (under g (st.ev G x) k).pre, (under g (st.ev G x) k).fact, (under g (st.ev G x) k).v⟩

section
variable {P : Program} {G : Nat → Option (List PV)} {w0 : World} {gh0 : Gh} {nx0 : Nat} {st : VS} {a : Act} {w : World} {gh : Gh}

theorem RepV.ofConst {m : Mem} {v : Value} (h : okVal v) : RepV m (ofConst v) v := by
  unfold V.ofConst
  split
  · exact .nils
  · exact .val _ h

theorem ev_sound (h : Sim P G w0 gh0 nx0 st a w gh) (x : Operand) (hx : okOp x) : RepT gh st.locs st.chs st.sh.next (st.ev G x) (a.eval x) := by
  cases x with
  | tmp t => exact h.tmps t
  | const v => exact RepT.of_s (.pure (RepV.ofConst hx))
  | global g =>
    simp only [VS.ev, Act.eval]
    split
    · rename_i e he
      obtain ⟨u, hu⟩ := h.sh.glob g e he
      have := RepS.row (m := gh.m) (phi := gh.phi) (nx := st.sh.next) e g 0 0 u (fun k hk => by simpa using (hu k hk).1) (fun k hk => (hu k hk).2)
      exact RepT.of_s this
    · trivial
  | func f => exact RepT.of_s (.func f [] #[] rfl (fun i h => absurd h (by simp)))

theorem under_elim {g : Option Bool} {p : PV} {k : PV → VR} {v : Value} (hr : RepT gh st.locs st.chs st.sh.next p v) (hp : (under g p k).pre) (hg : onG g) :
    ∃ q, RepT gh st.locs st.chs st.sh.next q v ∧ (k q).pre ∧ (under g p k).fact = (k q).fact ∧ (under g p k).v = (k q).v := by
  unfold under at *
  split at hp
  · rename_i b q
    have hb : b = true := by
      cases g with
      | none => exact hp.1
      | some c => exact hp.1 hg
    subst hb
    exact ⟨q, hr, hp.2, rfl, rfl⟩
  · exact ⟨p, hr, hp, rfl, rfl⟩

theorem look_elim (h : Sim P G w0 gh0 nx0 st a w gh) {g : Option Bool} {x : Operand} {k : PV → VR} (hp : (look G st g x k).pre) (hg : onG g) :
    ∃ q, RepT gh st.locs st.chs st.sh.next q (a.eval x) ∧ (k q).pre ∧ (look G st g x k).fact = (k q).fact ∧ (look G st g x k).v = (k q).v :=
  under_elim (ev_sound h x hp.1) hp.2 hg
end

/-! ### Operations on plain values -/
def binV (op : BinOp) (x y : Value) : VR :=
  match op, x, y with
  | .add, .int k a, .int k' b => ⟨k = k', True, .val (.int k (k.wrap (a + b)))⟩
  | .sub, .int k a, .int k' b => ⟨k = k', True, .val (.int k (k.wrap (a - b)))⟩
  | .mul, .int k a, .int k' b => ⟨k = k', True, .val (.int k (k.wrap (a * b)))⟩
  | .quo, .int k a, .int k' b => ⟨k = k' ∧ b ≠ 0, True, .val (.int k (k.wrap (a.tdiv b)))⟩
  | .rem, .int k a, .int k' b => ⟨k = k' ∧ b ≠ 0, True, .val (.int k (a.tmod b))⟩
  | .and, .int k a, .int k' b => ⟨k = k', True, .val (.int k (bits .and k a b))⟩
  | .or, .int k a, .int k' b => ⟨k = k', True, .val (.int k (bits .or k a b))⟩
  | .xor, .int k a, .int k' b => ⟨k = k', True, .val (.int k (bits .xor k a b))⟩
  | .shl, .int k a, .int _ b => ⟨0 ≤ b, True, .val (.int k (k.wrap (a * 2 ^ (min b.toNat k.bits))))⟩
  | .shr, .int k a, .int _ b => ⟨0 ≤ b, True, .val (.int k (a.fdiv (2 ^ (min b.toNat k.bits))))⟩
  | .eql, .int k a, .int k' b => ⟨k = k', True, .val (.bool (decide (a = b)))⟩
  | .neq, .int k a, .int k' b => ⟨k = k', True, .val (.bool (!decide (a = b)))⟩
  | .lss, .int k a, .int k' b => ⟨k = k', True, .val (.bool (decide (a < b)))⟩
  | .leq, .int k a, .int k' b => ⟨k = k', True, .val (.bool (decide (a ≤ b)))⟩
  | .gtr, .int k a, .int k' b => ⟨k = k', True, .val (.bool (decide (b < a)))⟩
  | .geq, .int k a, .int k' b => ⟨k = k', True, .val (.bool (decide (b ≤ a)))⟩
  | .add, .string a, .string b => ⟨(a ++ b).size ≤ maxLen, True, .val (.string (a ++ b))⟩
  | .eql, .string a, .string b => ⟨True, True, .val (.bool (decide (a = b)))⟩
  | .neq, .string a, .string b => ⟨True, True, .val (.bool (!decide (a = b)))⟩
  | .lss, .string a, .string b => ⟨True, True, .val (.bool (Op.bytesLess a.data.toList b.data.toList))⟩
  | _, _, _ => .bad

theorem bytes_eq (a b : ByteArray) : (a.toList == b.toList) = decide (a = b) := by
  rw [ByteArray.toList_eq, ByteArray.toList_eq]
  rw [Bool.eq_iff_iff]
  simp only [beq_iff_eq, decide_eq_true_eq]
  constructor
  · intro h
    cases a with | mk a => cases b with | mk b =>
    simp only [ByteArray.mk.injEq]
    exact Array.toList_inj.1 h
  · intro h; rw [h]

theorem beq_dec (a b : Int) : (a == b) = decide (a = b) := by
  rw [Bool.eq_iff_iff]; simp
theorem bne_dec (a b : Int) : (a != b) = !decide (a = b) := by
  rw [Bool.eq_iff_iff]; simp

theorem binV_sound {P : Program} (op : BinOp) (t : TypeId) (ox oy : Operand) (x y : Value) (w : World) {m : Mem} (h : (binV op x y).pre) :
    ∃ v, (do eqGuard op t ox oy x y; binOp op t x y : Sem Value).run P w = .ok v w ∧ RepV m (binV op x y).v v ∧ (binV op x y).fact := by
  unfold binV at *
  split at h
  case h_21 => exact absurd h (by simp [VR.bad])
  all_goals (simp only [Sem.run_bind])
  · subst h; exact ⟨_, by simp [go_sem], .val _ trivial, trivial⟩
  · subst h; exact ⟨_, by simp [go_sem], .val _ trivial, trivial⟩
  · subst h; exact ⟨_, by simp [go_sem], .val _ trivial, trivial⟩
  · obtain ⟨rfl, hb⟩ := h; exact ⟨_, by simp [go_sem, hb], .val _ trivial, trivial⟩
  · obtain ⟨rfl, hb⟩ := h; exact ⟨_, by simp [go_sem, hb], .val _ trivial, trivial⟩
  · subst h; exact ⟨_, by simp [go_sem], .val _ trivial, trivial⟩
  · subst h; exact ⟨_, by simp [go_sem], .val _ trivial, trivial⟩
  · subst h; exact ⟨_, by simp [go_sem], .val _ trivial, trivial⟩
  · rename_i k a _ b
    refine ⟨_, ?_, .val _ trivial, trivial⟩
    simp only [eqGuard_shl, binOp_shl, Op.shift, Sem.run_pure, Result.andThen_ok, if_neg (show ¬ b < 0 by omega)]
  · rename_i k a _ b
    refine ⟨_, ?_, .val _ trivial, trivial⟩
    simp only [eqGuard_shr, binOp_shr, Op.shift, Sem.run_pure, Result.andThen_ok, if_neg (show ¬ b < 0 by omega)]
  · subst h; exact ⟨_, by rw [eqGuard_at_int, binOp_eql, beq_dec]; rfl, .val _ trivial, trivial⟩
  · subst h; exact ⟨_, by rw [eqGuard_at_int, binOp_neq, bne_dec]; rfl, .val _ trivial, trivial⟩
  · subst h; exact ⟨_, by simp [go_sem], .val _ trivial, trivial⟩
  · subst h; exact ⟨_, by simp [go_sem], .val _ trivial, trivial⟩
  · subst h; exact ⟨_, by simp [go_sem], .val _ trivial, trivial⟩
  · subst h; exact ⟨_, by simp [go_sem], .val _ trivial, trivial⟩
  · rename_i a b
    refine ⟨_, ?_, .val _ h, trivial⟩
    have h' : ¬ ((a.size + b.size : Nat) : Int) > 9223372036854775807 := by
      have h2 : (a ++ b).size ≤ maxLen := h
      simp only [maxLen, ByteArray.size_append] at h2
      omega
    simp only [eqGuard_at_string, binOp_string_add, Op.stringOp, Sem.run_pure, Result.andThen_ok, IntKind.max_i64, if_neg h']
  · exact ⟨_, by rw [eqGuard_at_string, binOp_string_eql, bytes_eq]; rfl, .val _ trivial, trivial⟩
  · exact ⟨_, by rw [eqGuard_at_string, binOp_string_neq, bytes_eq]; rfl, .val _ trivial, trivial⟩
  · exact ⟨_, by rw [eqGuard_at_string, binOp_string_lss, ByteArray.toList_eq, ByteArray.toList_eq]; rfl, .val _ trivial, trivial⟩

end Go.Proofs.YtaackmiajgapoaaGreatDoor.V

/- A program logic at the level of values: pure operations, one by one. -/
set_option linter.unusedVariables false
set_option linter.unusedSimpArgs false
namespace Go.Proofs.YtaackmiajgapoaaGreatDoor.V
open Go

def tSize (P : Program) (t : TypeId) : Option Nat := (P.info? t).map (·.size)
def tAgg (P : Program) (t : TypeId) : Option Bool :=
  match P.underlying t with
  | some (.struct _) | some (.array _ _) => some true
  | some _ => some false
  | none => none

theorem run_sizeOf {P : Program} {t : TypeId} {n : Nat} (h : tSize P t = some n) (w : World) : (sizeOf t).run P w = .ok n w := by
  unfold tSize at h
  cases hi : P.info? t with
  | none => simp [hi] at h
  | some i => simp [sizeOf, typeInfo, hi]; simpa [hi] using h

theorem run_isAgg {P : Program} {t : TypeId} {b : Bool} (h : tAgg P t = some b) (w : World) : (isAgg t).run P w = .ok b w := by
  unfold tAgg at h
  cases hu : P.underlying t with
  | none => simp [hu] at h
  | some d =>
    simp only [isAgg, Sem.run_bind, run_underlying hu, Result.andThen_ok]
    cases d <;> simp_all

theorem addr_add (g o k : Nat) : (⟨g, o, none⟩ : Addr).add k = ⟨g, o + k, none⟩ := by unfold Addr.add; split <;> simp_all

theorem loadCellsFrom_run {P : Program} (w : World) (g o : Nat) : ∀ (n i : Nat) (acc : Array Value) (u : Nat → Value), (∀ k, k < n → w.cell? ⟨g, o + (i + k), none⟩ = some (u k)) →
    (loadCellsFrom ⟨g, o, none⟩ i n acc).run P w = .ok (acc ++ ((List.range n).map u).toArray) w
  | 0, i, acc, u, _ => by simp [loadCellsFrom]
  | n + 1, i, acc, u, h => by
    have h0 := h 0 (by omega)
    simp only [Nat.add_zero] at h0
    simp only [loadCellsFrom, Sem.run_bind, run_load, addr_add, h0, Result.andThen_ok]
    rw [loadCellsFrom_run w g o n (i + 1) (acc.push (u 0)) (fun k => u (k + 1)) (fun k hk => by
      have := h (k + 1) (by omega)
      rw [show i + 1 + k = i + (k + 1) by omega]; exact this)]
    congr 1
    rw [List.range_succ_eq_map]
    simp [Function.comp_def]

theorem loadVar_agg {P : Program} (w : World) (t : TypeId) (g o n : Nat) (u : Nat → Value) (ha : tAgg P t = some true) (hs : tSize P t = some n) (hc : ∀ k, k < n → w.cell? ⟨g, o + k, none⟩ = some (u k)) :
    (loadVar t ⟨g, o, none⟩).run P w = .ok (.agg ((List.range n).map u).toArray) w := by
  have h := loadCellsFrom_run (P := P) w g o n 0 #[] u (fun k hk => by rw [Nat.zero_add]; exact hc k hk)
  simp only [loadVar, Sem.run_bind, run_isAgg ha, Result.andThen_ok, if_true, run_sizeOf hs, loadCells, h, Sem.run_pure]
  simp

theorem loadVar_one {P : Program} (w : World) (t : TypeId) (g o : Nat) (v : Value) (ha : tAgg P t = some false) (hc : w.cell? ⟨g, o, none⟩ = some v) :
    (loadVar t ⟨g, o, none⟩).run P w = .ok v w := by
  simp only [loadVar, Sem.run_bind, run_isAgg ha, Result.andThen_ok, Bool.false_eq_true, if_false, run_load, hc]

/-- 'op' is run and gives a value; the world stands. -/
def Gives (P : Program) (a : Act) (w : World) (o : Oper) (v : Value) : Prop := (execOp a.eval o).run P w = .ok (.value v) w

/-! ### moves, picks, arithmetic -/
section
variable {P : Program} {G : Nat → Option (List PV)} {w0 : World} {gh0 : Gh} {nx0 : Nat} {st : VS} {a : Act} {w : World} {gh : Gh}

/-- What is asked of a pure operation's meaning. -/
def Sound (P : Program) (gh : Gh) (st : VS) (a : Act) (w : World) (o : Oper) (r : VR) : Prop :=
  ∃ v, Gives P a w o v ∧ RepT gh st.locs st.chs st.sh.next r.v v ∧ r.fact

def vMove (G : Nat → Option (List PV)) (st : VS) (g : Option Bool) (x : Operand) : VR := look G st g x VR.ok

theorem move_sound (h : Sim P G w0 gh0 nx0 st a w gh) {g : Option Bool} (hg : onG g) {o : Oper} {x : Operand} (ho : o.op = .move x ∨ o.op = .assign x) (hp : (vMove G st g x).pre) :
    Sound P gh st a w o (vMove G st g x) := by
  obtain ⟨q, hq, _, hf, hv⟩ := look_elim h hp hg
  refine ⟨a.eval x, ?_, ?_, ?_⟩
  · rcases ho with ho | ho <;> simp [Gives, execOp, ho]
  · unfold vMove; rw [hv]; exact hq
  · unfold vMove; rw [hf]; trivial

def andG (g : Option Bool) (b : Bool) : Option Bool := match g with | none => some b | some c => some (c && b)

def pickPV (b : Bool) (p q : PV) : PV :=
  match p, q with
  | .val (.bool x), .val (.bool y) => .val (.bool (cond b x y))
  | p, q => cond b p q

def vPick (G : Nat → Option (List PV)) (st : VS) (g : Option Bool) (c x y : Operand) : VR :=
  look G st g c fun pc => match pc with
    | .val (.bool b) => ⟨(b = true → (look G st (andG g b) x VR.ok).pre) ∧ (b = false → (look G st (andG g (!b)) y VR.ok).pre), True,
        pickPV b (look G st (andG g b) x VR.ok).v (look G st (andG g (!b)) y VR.ok).v⟩
    | _ => .bad

theorem RepT.val_inv {gh : Gh} {locs : Nat → Option (List PV)} {chs : Nat → Option Chain} {nx : Nat} {u v : Value} (h : RepT gh locs chs nx (.val u) v) : v = u ∧ okVal u := by
  cases h with
  | pure h => cases h with | val _ h => exact ⟨rfl, h⟩

theorem pickPV_true (p q : PV) {gh : Gh} {locs : Nat → Option (List PV)} {chs : Nat → Option Chain} {nx : Nat} {v : Value} (h : RepT gh locs chs nx p v) : RepT gh locs chs nx (pickPV true p q) v := by
  unfold pickPV; split
  · exact h
  · exact h
theorem pickPV_false (p q : PV) {gh : Gh} {locs : Nat → Option (List PV)} {chs : Nat → Option Chain} {nx : Nat} {v : Value} (h : RepT gh locs chs nx q v) : RepT gh locs chs nx (pickPV false p q) v := by
  unfold pickPV; split
  · exact h
  · exact h

theorem pick_sound (h : Sim P G w0 gh0 nx0 st a w gh) {g : Option Bool} (hg : onG g) {o : Oper} {c x y : Operand} (ho : o.op = .pick c x y) (hp : (vPick G st g c x y).pre) :
    Sound P gh st a w o (vPick G st g c x y) := by
  obtain ⟨q, hq, hq2, hf, hv⟩ := look_elim h hp hg
  unfold vPick
  unfold Sound
  rw [hf, hv]
  split at hq2
  · rename_i b
    obtain ⟨e, _⟩ := RepT.val_inv hq
    cases b with
    | true =>
      have h1 := hq2.1 rfl
      obtain ⟨q1, hq1, _, _, hv1⟩ := look_elim h h1 (show onG (andG g true) by cases g with | none => rfl | some c => simpa [andG, onG] using hg)
      refine ⟨a.eval x, ?_, ?_, trivial⟩
      · simp [Gives, execOp, ho, e, asBool]
      · exact pickPV_true _ _ (by rw [hv1]; exact hq1)
    | false =>
      have h1 := hq2.2 rfl
      obtain ⟨q1, hq1, _, _, hv1⟩ := look_elim h h1 (show onG (andG g (!false)) by cases g with | none => rfl | some c => simpa [andG, onG] using hg)
      refine ⟨a.eval y, ?_, ?_, trivial⟩
      · simp [Gives, execOp, ho, e, asBool]
      · exact pickPV_false _ _ (by rw [hv1]; exact hq1)
  · exact absurd hq2 (by simp [VR.bad])

theorem RepT.box_inv {gh : Gh} {locs : Nat → Option (List PV)} {chs : Nat → Option Chain} {nx b off : Nat} {v : Value} (h : RepT gh locs chs nx (.box b off) v) : v = .pointer (some ⟨gh.phi b, off, none⟩) ∧ b < nx := by
  have h' : RepS gh.m gh.phi nx (.box b off) v := h
  cases h' with
  | pure h => cases h
  | box _ _ hb => exact ⟨rfl, hb⟩
theorem RepT.row_inv {gh : Gh} {locs : Nat → Option (List PV)} {chs : Nat → Option Chain} {nx off : Nat} {e : List PV} {v : Value} (h : RepT gh locs chs nx (.row e off) v) :
    ∃ g o, ∃ u : Nat → Value, v = .pointer (some ⟨g, o + off, none⟩) ∧ (∀ k, k < e.length → gh.m g (o + k) = some (u k)) ∧ (∀ k (h : k < e.length), RepV gh.m (e[k]) (u k)) := by
  have h' : RepS gh.m gh.phi nx (.row e off) v := h
  cases h' with
  | pure h => cases h
  | row _ g o _ u hu hr => exact ⟨g, o, u, rfl, hu, hr⟩
theorem RepT.func_inv {gh : Gh} {locs : Nat → Option (List PV)} {chs : Nat → Option Chain} {nx : Nat} {f : FuncId} {cs : List PV} {v : Value} (h : RepT gh locs chs nx (.func f cs) v) :
    ∃ vs, v = .func (.func f) #[] vs ∧ cs.length = vs.size ∧ (∀ i (h : i < cs.length), RepS gh.m gh.phi nx (cs[i]) (vs.getD i undef)) := by
  have h' : RepS gh.m gh.phi nx (.func f cs) v := h
  cases h' with
  | pure h => cases h
  | func _ _ vs hl hh => exact ⟨vs, rfl, hl, hh⟩
theorem RepT.agg_inv {gh : Gh} {locs : Nat → Option (List PV)} {chs : Nat → Option Chain} {nx : Nat} {cs : List PV} {v : Value} (h : RepT gh locs chs nx (.agg cs) v) :
    ∃ vs, v = .agg vs ∧ cs.length = vs.size ∧ (∀ i (h : i < vs.size), (vs[i]).oneCell' = true) ∧ (∀ i (h : i < cs.length), RepS gh.m gh.phi nx (cs[i]) (vs.getD i undef)) := by
  have h' : RepS gh.m gh.phi nx (.agg cs) v := h
  cases h' with
  | pure h => cases h
  | agg _ vs hl h1 hh => exact ⟨vs, rfl, hl, h1, hh⟩
theorem RepT.tup_inv {gh : Gh} {locs : Nat → Option (List PV)} {chs : Nat → Option Chain} {nx : Nat} {cs : List PV} {v : Value} (h : RepT gh locs chs nx (.tup cs) v) :
    ∃ vs, v = .tuple vs ∧ cs.length = vs.size ∧ (∀ i (h : i < cs.length), RepS gh.m gh.phi nx (cs[i]) (vs.getD i undef)) := by
  have h' : RepS gh.m gh.phi nx (.tup cs) v := h
  cases h' with
  | pure h => cases h
  | tup _ vs hl hh => exact ⟨vs, rfl, hl, hh⟩
theorem RepT.nils_inv {gh : Gh} {locs : Nat → Option (List PV)} {chs : Nat → Option Chain} {nx : Nat} {v : Value} (h : RepT gh locs chs nx .nils v) : v = .slice none 0 0 := by
  have h' : RepS gh.m gh.phi nx .nils v := h
  cases h' with | pure h => cases h; rfl
/-- A slice that is a tree: its value, and its cells. -/
theorem RepV.slice_inv {m : Mem} {es : List (List PV)} {v : Value} (h : RepV m (.slice es) v) :
    ∃ A cap, v = .slice A es.length cap ∧ es.length ≤ cap ∧ cap ≤ maxLen ∧ (0 < es.length → ∃ g o sz, ∃ u : Nat → Nat → Value, A = some ⟨g, o, none⟩ ∧ (∀ i (h : i < es.length), (es[i]).length = sz) ∧
      (∀ i k, i < es.length → k < sz → m g (o + (i * sz + k)) = some (u i k)) ∧ (∀ i (h : i < es.length) k (hk : k < (es[i]).length), RepV m ((es[i])[k]) (u i k))) := by
  cases h with
  | nil0 A cap h => exact ⟨A, cap, rfl, Nat.zero_le _, h, fun h => absurd h (by simp)⟩
  | slice _ g o cap sz u hc hm hs hu hr => exact ⟨_, cap, rfl, hc, hm, fun _ => ⟨g, o, sz, u, rfl, hs, hu, hr⟩⟩
theorem RepT.slice_inv {gh : Gh} {locs : Nat → Option (List PV)} {chs : Nat → Option Chain} {nx : Nat} {es : List (List PV)} {v : Value} (h : RepT gh locs chs nx (.slice es) v) : RepV gh.m (.slice es) v := by
  have h' : RepS gh.m gh.phi nx (.slice es) v := h
  cases h' with | pure h => exact h

/-- Truth values are compared by their type. -/
def binT (P : Program) (t : TypeId) (op : BinOp) (u v : Value) : VR :=
  match op, u, v with
  | .eql, .bool a, .bool b => ⟨P.underlying t = some .bool, True, .val (.bool (a == b))⟩
  | .neq, .bool a, .bool b => ⟨P.underlying t = some .bool, True, .val (.bool (!(a == b)))⟩
  | op, u, v => binV op u v

theorem run_eqBool {P : Program} {t : TypeId} {a b : Bool} {w : World} (h : P.underlying t = some .bool) : (Op.equal t (.bool a) (.bool b)).run P w = .ok (a == b) w := by
  show (Op.equalIn (9999 + 1) t (.bool a) (.bool b)).run P w = _
  rw [Op.equalIn]
  simp only [Sem.run_bind, run_underlying h, Result.andThen_ok, Sem.run_pure]

theorem binT_sound {P : Program} (op : BinOp) (t : TypeId) (ox oy : Operand) (x y : Value) (w : World) {m : Mem} (h : (binT P t op x y).pre) :
    ∃ v, (do eqGuard op t ox oy x y; binOp op t x y : Sem Value).run P w = .ok v w ∧ RepV m (binT P t op x y).v v ∧ (binT P t op x y).fact := by
  unfold binT at *
  split at h
  · refine ⟨_, ?_, .val _ trivial, trivial⟩
    simp [Sem.run_bind, eqGuard_at_bool, binOp, run_eqBool h]
  · refine ⟨_, ?_, .val _ trivial, trivial⟩
    simp [Sem.run_bind, eqGuard_at_bool, binOp, run_eqBool h]
  · exact binV_sound op t ox oy x y w h

def vBin (P : Program) (G : Nat → Option (List PV)) (st : VS) (g : Option Bool) (t : TypeId) (op : BinOp) (x y : Operand) : VR :=
  look G st g x fun px => look G st g y fun py => match px, py with
    | .val u, .val v => binT P t op u v
    | _, _ => .bad

theorem bin_sound (h : Sim P G w0 gh0 nx0 st a w gh) {g : Option Bool} (hg : onG g) {o : Oper} {op : BinOp} {t t' : TypeId} {x y : Operand} (ho : o.op = .binOp op t x y t') (hp : (vBin P G st g t op x y).pre) :
    Sound P gh st a w o (vBin P G st g t op x y) := by
  obtain ⟨q, hq, hq2, hf, hv⟩ := look_elim h hp hg
  obtain ⟨q', hq', hq2', hf', hv'⟩ := look_elim h hq2 hg
  unfold vBin Sound
  rw [hf, hv, hf', hv']
  split at hq2'
  · rename_i u v
    obtain ⟨e1, _⟩ := RepT.val_inv hq
    obtain ⟨e2, _⟩ := RepT.val_inv hq'
    obtain ⟨r, hr, hrep, hfact⟩ := binT_sound (P := P) op t x y u v w (m := gh.m) hq2'
    refine ⟨r, ?_, RepT.of_s (.pure hrep), hfact⟩
    simp only [Gives, execOp, ho, e1, e2, Sem.run_bind] at hr ⊢
    simp [hr]
  · exact absurd hq2' (by simp [VR.bad])

def vUn (G : Nat → Option (List PV)) (st : VS) (g : Option Bool) (op : UnOp) (x : Operand) : VR :=
  look G st g x fun px => match op, px with
    | .not, .val (.bool b) => .ok (.val (.bool (!b)))
    | .neg, .val (.int k n) => .ok (.val (.int k (k.wrap (0 - n))))
    | _, _ => .bad

theorem un_sound (h : Sim P G w0 gh0 nx0 st a w gh) {g : Option Bool} (hg : onG g) {o : Oper} {op : UnOp} {t : TypeId} {x : Operand} (ho : o.op = .unOp op t x) (hp : (vUn G st g op x).pre) :
    Sound P gh st a w o (vUn G st g op x) := by
  obtain ⟨q, hq, hq2, hf, hv⟩ := look_elim h hp hg
  unfold vUn Sound
  rw [hf, hv]
  split at hq2
  · obtain ⟨e, _⟩ := RepT.val_inv hq
    exact ⟨_, by simp [Gives, execOp, ho, e, Op.unary], RepT.of_s (.pure (.val _ trivial)), trivial⟩
  · obtain ⟨e, _⟩ := RepT.val_inv hq
    exact ⟨_, by simp [Gives, execOp, ho, e, Op.unary, Op.intArith], RepT.of_s (.pure (.val _ trivial)), trivial⟩
  · exact absurd hq2 (by simp [VR.bad])

def vConv (P : Program) (G : Nat → Option (List PV)) (st : VS) (g : Option Bool) (src dst : TypeId) (x : Operand) : VR :=
  look G st g x fun px => match P.underlying src, P.underlying dst, px with
    | some _, some (.int k), .val (.int _ n) => .ok (.val (.int k (k.wrap n)))
    | some .string, some .string, .val (.string s) => ⟨True, True, .val (.string s)⟩
    | _, _, _ => .bad

theorem conv_sound (h : Sim P G w0 gh0 nx0 st a w gh) {g : Option Bool} (hg : onG g) {o : Oper} {src dst : TypeId} {x : Operand} (ho : o.op = .convert src dst x) (hp : (vConv P G st g src dst x).pre) :
    Sound P gh st a w o (vConv P G st g src dst x) := by
  obtain ⟨q, hq, hq2, hf, hv⟩ := look_elim h hp hg
  unfold vConv Sound
  rw [hf, hv]
  split at hq2
  · rename_i d k k' n hs hd
    obtain ⟨e, _⟩ := RepT.val_inv hq
    refine ⟨.int k (k.wrap n), ?_, RepT.of_s (.pure (.val _ trivial)), trivial⟩
    simp only [Gives, execOp, ho, e, convert, Sem.run_bind, run_underlying hs, run_underlying hd, Result.andThen_ok]
    cases d <;> simp [Conv.intToInt]
  · rename_i s hs hd
    obtain ⟨e, ok⟩ := RepT.val_inv hq
    refine ⟨.string s, ?_, RepT.of_s (.pure (.val _ ok)), trivial⟩
    simp only [Gives, execOp, ho, e, convert, Sem.run_bind, run_underlying hs, run_underlying hd, Result.andThen_ok]
    simp
  · exact absurd hq2 (by simp [VR.bad])

def vNil (G : Nat → Option (List PV)) (st : VS) (g : Option Bool) (x : Operand) : VR :=
  look G st g x fun px => match px with
    | .loc d off => .ok (.loc d off)
    | .box b off => .ok (.box b off)
    | .row e off => .ok (.row e off)
    | .func f cs => .ok (.func f cs)
    | _ => .bad

theorem nil_sound (h : Sim P G w0 gh0 nx0 st a w gh) {g : Option Bool} (hg : onG g) {o : Oper} {x : Operand} (ho : o.op = .nilCheck x) (hp : (vNil G st g x).pre) :
    Sound P gh st a w o (vNil G st g x) := by
  obtain ⟨q, hq, hq2, hf, hv⟩ := look_elim h hp hg
  unfold vNil Sound
  rw [hf, hv]
  split at hq2
  · refine ⟨_, ?_, hq, trivial⟩
    obtain ⟨_, e⟩ := hq
    simp [Gives, execOp, ho, e]
  · refine ⟨_, ?_, hq, trivial⟩
    obtain ⟨e, _⟩ := hq.box_inv
    simp [Gives, execOp, ho, e]
  · refine ⟨_, ?_, hq, trivial⟩
    obtain ⟨_, _, _, e, _⟩ := hq.row_inv
    simp [Gives, execOp, ho, e]
  · refine ⟨_, ?_, hq, trivial⟩
    obtain ⟨_, e, _⟩ := hq.func_inv
    simp [Gives, execOp, ho, e]
  · exact absurd hq2 (by simp [VR.bad])

/-! ### addresses -/
/-- A field's offset, where it has a cell. -/
def tField (P : Program) (s : TypeId) (f : Nat) : Option (Nat × TypeId) :=
  match P.underlying s with
  | some (.struct fields) => match fields[f]? with
    | some fd => some (fd.offset, fd.type)
    | none => none
  | _ => none

def moveBy (p : PV) (n : Nat) : PV :=
  match p with
  | .loc d off => .loc d (off + n)
  | .box b off => .box b (off + n)
  | .row e off => .row e (off + n)
  | .trow k m i off => .trow k m i (off + n)
  | _ => .top

def isPtr (chs : Nat → Option Chain) : PV → Prop
  | .loc _ _ | .box _ _ | .row _ _ => True
  | .trow k n i _ => match chs k with | some c => n = c.es.length ∧ i < c.es.length | none => False
  | _ => False

theorem moveBy_sound {gh : Gh} {locs : Nat → Option (List PV)} {chs : Nat → Option Chain} {nx : Nat} {p : PV} {v : Value} (hch : ∀ k c, chs k = some c → ChSim P gh w k c) (h : RepT gh locs chs nx p v) (hp : isPtr chs p) (n : Nat) :
    ∃ g o, v = .pointer (some ⟨g, o, none⟩) ∧ RepT gh locs chs nx (moveBy p n) (.pointer (some ⟨g, o + n, none⟩)) := by
  cases p with
  | trow k m i off =>
    obtain ⟨c, hc, hle, hv⟩ := h
    simp only [isPtr, hc] at hp
    obtain ⟨hm, hi⟩ := hp
    cases hgam : gh.gam k with
    | none => have := (hch k c hc).nil hgam; rw [this] at hi; exact absurd hi (by simp)
    | some gc =>
      obtain ⟨g1, cap⟩ := gc
      refine ⟨g1, i * c.sz + off, hv hm g1 cap hgam, c, hc, hle, fun _ g' cap' hgam' => ?_⟩
      rw [hgam] at hgam'
      simp only [Option.some.injEq, Prod.mk.injEq] at hgam'
      obtain ⟨rfl, rfl⟩ := hgam'
      rw [Nat.add_assoc]
  | loc d off => obtain ⟨h1, e⟩ := h; exact ⟨_, _, e, h1, rfl⟩
  | box b off => obtain ⟨e, hb⟩ := h.box_inv; exact ⟨_, _, e, RepT.of_s (.box b (off + n) hb)⟩
  | row e off =>
    obtain ⟨g, o, u, e1, hu, hr⟩ := h.row_inv
    exact ⟨_, _, e1, RepT.of_s (by rw [Nat.add_assoc]; exact .row e g o (off + n) u hu hr)⟩
  | _ => exact hp.elim

def vFieldAddr (P : Program) (G : Nat → Option (List PV)) (st : VS) (g : Option Bool) (s : TypeId) (x : Operand) (f : Nat) : VR :=
  look G st g x fun px => match tField P s f with
    | some (off, ft) => ⟨isPtr st.chs px ∧ tSize P ft ≠ some 0 ∧ (tSize P ft).isSome = true, True, moveBy px off⟩
    | none => .bad

theorem fieldAddr_sound (h : Sim P G w0 gh0 nx0 st a w gh) {g : Option Bool} (hg : onG g) {o : Oper} {s : TypeId} {x : Operand} {f : Nat} (ho : o.op = .fieldAddr s x f) (hp : (vFieldAddr P G st g s x f).pre) :
    Sound P gh st a w o (vFieldAddr P G st g s x f) := by
  obtain ⟨q, hq, hq2, hf, hv⟩ := look_elim h hp hg
  unfold vFieldAddr Sound
  rw [hf, hv]
  split at hq2
  · rename_i off ft hfld
    obtain ⟨hptr, hs0, hs1⟩ := hq2
    obtain ⟨b, o1, e, hr⟩ := moveBy_sound h.chs hq hptr off
    refine ⟨_, ?_, hr, trivial⟩
    unfold tField at hfld
    split at hfld
    · rename_i fields hu
      split at hfld
      · rename_i fd hfd
        simp only [Option.some.injEq, Prod.mk.injEq] at hfld
        obtain ⟨rfl, rfl⟩ := hfld
        obtain ⟨n, hn⟩ := Option.isSome_iff_exists.1 hs1
        have hne : n ≠ 0 := fun h0 => hs0 (by rw [hn, h0])
        simp [Gives, execOp, ho, e, Instr.fieldAt, run_underlying hu, hfd, Instr.sureAddr, fieldPlace, run_sizeOf hn, hne, addr_add]
      · cases hfld
    · cases hfld
  · exact absurd hq2 (by simp [VR.bad])

def tElem (P : Program) (t : TypeId) : Option TypeId :=
  match P.underlying t with
  | some (.slice e) => some e
  | _ => none

theorem tElem_und {P : Program} {t e : TypeId} (h : tElem P t = some e) : P.underlying t = some (.slice e) := by
  unfold tElem at h
  split at h
  · rename_i e' hu; simp only [Option.some.injEq] at h; rw [hu, h]
  · cases h

def vIndexAddr (P : Program) (G : Nat → Option (List PV)) (st : VS) (g : Option Bool) (t : TypeId) (x i : Operand) : VR :=
  look G st g x fun px => look G st g i fun pi => match (tElem P t).bind (tSize P), px, pi with
    | some s, .slice es, .val (.int _ j) => ⟨(0 ≤ j ∧ j < es.length) ∧ (es.getD j.toNat []).length = s, True, .row (es.getD j.toNat []) 0⟩
    | some s, .tsl k len, .val (.int _ j) => match st.chs k with
      | some c => ⟨len = c.es.length ∧ (0 ≤ j ∧ j < c.es.length) ∧ c.sz = s, True, .trow k len j.toNat 0⟩
      | none => .bad
    | _, _, _ => .bad

theorem indexAddr_sound (h : Sim P G w0 gh0 nx0 st a w gh) {g : Option Bool} (hg : onG g) {o : Oper} {t : TypeId} {x i : Operand} (ho : o.op = .indexAddr t x i) (hp : (vIndexAddr P G st g t x i).pre) :
    Sound P gh st a w o (vIndexAddr P G st g t x i) := by
  obtain ⟨q, hq, hq2, hf, hv⟩ := look_elim h hp hg
  obtain ⟨q', hq', hq2', hf', hv'⟩ := look_elim h hq2 hg
  unfold vIndexAddr Sound
  rw [hf, hv, hf', hv']
  split at hq2'
  · rename_i s es k j hts
    obtain ⟨e, he, hs⟩ := Option.bind_eq_some_iff.1 hts
    obtain ⟨⟨h0, h1⟩, hl⟩ := hq2'
    obtain ⟨ej, _⟩ := RepT.val_inv hq'
    obtain ⟨A, cap, ev, hc, hm, hcells⟩ := (hq.slice_inv).slice_inv
    have hlt : j.toNat < es.length := by omega
    obtain ⟨g1, o1, sz, u, rfl, hsz, hu, hr⟩ := hcells (by omega)
    have hg1 : es.getD j.toNat [] = es[j.toNat] := by simp [List.getD_eq_getElem?_getD, hlt]
    have hszs : sz = s := by rw [← hsz j.toNat hlt, ← hg1]; exact hl
    subst hszs
    refine ⟨.pointer (some ⟨g1, o1 + j.toNat * sz, none⟩), ?_, ?_, trivial⟩
    · simp [Gives, execOp, ho, ev, ej, Instr.indexAt, asIntOf, run_underlying (tElem_und he), h0, h1, run_sizeOf hs, addr_add]
    · have := RepS.row (m := gh.m) (phi := gh.phi) (nx := st.sh.next) (es[j.toNat]) g1 (o1 + j.toNat * sz) 0 (u j.toNat)
        (fun k hk => by rw [Nat.add_assoc]; exact hu _ _ hlt (by rw [← hsz _ hlt]; exact hk)) (fun k hk => hr _ hlt k hk)
      rw [hg1]
      exact RepT.of_s this
  · rename_i s k len kk j hts
    obtain ⟨e, he, hs⟩ := Option.bind_eq_some_iff.1 hts
    obtain ⟨ej, _⟩ := RepT.val_inv hq'
    split at hq2'
    · rename_i c hc
      obtain ⟨hlen, ⟨h0, h1⟩, hcs⟩ := hq2'
      obtain ⟨c2, hc2, _, ev0⟩ := hq
      have hcc : c2 = c := Option.some.inj (hc2.symm.trans hc)
      subst hcc
      have ev := ev0 hlen
      have hch := h.chs k c2 hc
      cases hgam : gh.gam k with
      | none =>
        have := hch.nil hgam
        simp [this] at h1
        omega
      | some gc =>
        obtain ⟨g1, cap⟩ := gc
        rw [hgam] at ev
        simp only [chVal] at ev
        refine ⟨.pointer (some ⟨g1, j.toNat * c2.sz, none⟩), ?_, ?_, trivial⟩
        · subst hcs
          simp [Gives, execOp, ho, ev, ej, Instr.indexAt, asIntOf, run_underlying (tElem_und he), h0, hlen, h1, run_sizeOf hs, addr_add]
        · refine ⟨c2, hc, by omega, fun _ g' cap' hgam' => ?_⟩
          rw [hgam] at hgam'
          simp only [Option.some.injEq, Prod.mk.injEq] at hgam'
          obtain ⟨rfl, rfl⟩ := hgam'
          simp
    · exact absurd hq2' (by simp [VR.bad])
  · exact absurd hq2' (by simp [VR.bad])
end
end Go.Proofs.YtaackmiajgapoaaGreatDoor.V

/- A program logic at the level of values: loads, lengths, slices, fields. -/
set_option linter.unusedVariables false
set_option linter.unusedSimpArgs false
namespace Go.Proofs.YtaackmiajgapoaaGreatDoor.V
open Go

def isPlain : PV → Bool
  | .top | .gd _ _ | .loc _ _ | .tsl _ _ | .trow _ _ _ _ => false
  | _ => true

theorem RepT.plain {gh : Gh} {locs : Nat → Option (List PV)} {chs : Nat → Option Chain} {nx : Nat} {p : PV} {v : Value} (h : RepT gh locs chs nx p v) (hp : isPlain p = true) : RepS gh.m gh.phi nx p v := by
  cases p <;> first | exact h | (simp [isPlain] at hp)

/-- The cells behind a pointer, and where in them it points. -/
def rowCells (st : VS) (p : PV) : Prop × List PV × Nat :=
  match p with
  | .row e off => (True, e, off)
  | .loc d off => match st.locs d with | some cs => (True, cs, off) | none => (False, [], 0)
  | .box b off => match st.sh.mem b with | some cs => (True, cs, off) | none => (False, [], 0)
  | .trow k n i off => match st.chs k with | some c => (n = c.es.length ∧ i < c.es.length, c.es.getD i [], off) | none => (False, [], 0)
  | _ => (False, [], 0)

section
variable {P : Program} {G : Nat → Option (List PV)} {w0 : World} {gh0 : Gh} {nx0 : Nat} {st : VS} {a : Act} {w : World} {gh : Gh}

theorem cell_of_heap {w : World} {g o : Nat} {cur : Array Value} {ty : TypeId} {fr : Nat × Nat} (h : w.heap[g]? = some (.cells cur ty fr)) : w.cell? ⟨g, o, none⟩ = cur[o]? := by
  simp [World.cell?, h]

theorem rowCells_sound (h : Sim P G w0 gh0 nx0 st a w gh) {p : PV} {v : Value} {pre : Prop} {cs : List PV} {off : Nat} (hr : RepT gh st.locs st.chs st.sh.next p v) (he : rowCells st p = (pre, cs, off)) (hp : pre) :
    ∃ g o, ∃ u : Nat → Value, v = .pointer (some ⟨g, o + off, none⟩) ∧ ∀ k (hk : k < cs.length), w.cell? ⟨g, o + k, none⟩ = some (u k) ∧
      RepT gh st.locs st.chs st.sh.next (cs[k]) (u k) ∧ (u k).oneCell' = true := by
  unfold rowCells at he
  split at he
  · rename_i e off'
    simp only [Prod.mk.injEq] at he
    obtain ⟨_, rfl, rfl⟩ := he
    obtain ⟨g, o, u, ev, hu, hc⟩ := hr.row_inv
    exact ⟨g, o, u, ev, fun k hk => ⟨h.sh.mem _ _ _ (hu k hk), RepT.of_s (.pure (hc k hk)), (hc k hk).one⟩⟩
  · rename_i d off'
    obtain ⟨_, ev⟩ := hr
    split at he
    · rename_i cs' hcs
      simp only [Prod.mk.injEq] at he
      obtain ⟨_, rfl, rfl⟩ := he
      obtain ⟨_, cur, ty, hh, hl, hc⟩ := h.locs d cs' hcs
      refine ⟨gh.lam d, 0, fun k => cur.getD k undef, by simpa using ev, fun k hk => ?_⟩
      obtain ⟨h1, h2⟩ := hc k hk
      refine ⟨?_, h1, h2⟩
      rw [Nat.zero_add, cell_of_heap hh]
      simp [show k < cur.size by omega]
    · simp only [Prod.mk.injEq] at he
      rw [← he.1] at hp
      exact hp.elim
  · rename_i b off'
    obtain ⟨ev, _⟩ := hr.box_inv
    split at he
    · rename_i cs' hcs
      simp only [Prod.mk.injEq] at he
      obtain ⟨_, rfl, rfl⟩ := he
      obtain ⟨_, _, cur, ty, hh, hl, hc⟩ := h.sh.box b cs' hcs
      refine ⟨gh.phi b, 0, fun k => cur.getD k undef, by simpa using ev, fun k hk => ?_⟩
      obtain ⟨h1, h2⟩ := hc k hk
      refine ⟨?_, RepT.of_s h1, h2⟩
      rw [Nat.zero_add, cell_of_heap hh]
      simp [show k < cur.size by omega]
    · simp only [Prod.mk.injEq] at he
      rw [← he.1] at hp
      exact hp.elim
  · rename_i k n i off'
    split at he
    · rename_i c hc
      simp only [Prod.mk.injEq] at he
      obtain ⟨e1, rfl, rfl⟩ := he
      rw [← e1] at hp
      obtain ⟨hn, hi⟩ := hp
      have hch := h.chs k c hc
      cases hgam : gh.gam k with
      | none =>
        have := hch.nil hgam
        simp [this] at hi
      | some gc =>
        obtain ⟨g1, cap⟩ := gc
        obtain ⟨_, hsz0, hcap, _, _, hsz, cur, hh, hcs, hcell, _⟩ := hch.cons g1 cap hgam
        obtain ⟨c2, hc2, _, ev0⟩ := hr
        have hcc : c2 = c := Option.some.inj (hc2.symm.trans hc)
        subst hcc
        have ev := ev0 hn g1 cap hgam
        have hget : c2.es.getD i [] = c2.es[i] := by simp [List.getD_eq_getElem?_getD, hi]
        rw [hget]
        refine ⟨g1, i * c2.sz, fun j => cur.getD (i * c2.sz + j) undef, ev, fun j hj => ?_⟩
        have hj2 : j < c2.sz := by rw [← hsz i hi]; exact hj
        have h1 := hcell i hi j hj
        refine ⟨?_, RepT.of_s (.pure h1), h1.one⟩
        rw [cell_of_heap hh]
        have hlt : i * c2.sz + j < cur.size := by
          rw [hcs]
          have : (i + 1) * c2.sz ≤ cap * c2.sz := Nat.mul_le_mul_right _ (by omega)
          rw [Nat.add_mul, Nat.one_mul] at this
          omega
        simp [hlt]
    · simp only [Prod.mk.injEq] at he
      rw [← he.1] at hp
      exact hp.elim
  · simp only [Prod.mk.injEq] at he
    rw [← he.1] at hp
    exact hp.elim

def vLoad (P : Program) (G : Nat → Option (List PV)) (st : VS) (g : Option Bool) (t : TypeId) (x : Operand) : VR :=
  look G st g x fun px => match tAgg P t, tSize P t with
    | some true, some n => ⟨(rowCells st px).1 ∧ (rowCells st px).2.2 + n ≤ (rowCells st px).2.1.length ∧ (((rowCells st px).2.1.drop (rowCells st px).2.2).take n).all isPlain = true, True,
        .agg (((rowCells st px).2.1.drop (rowCells st px).2.2).take n)⟩
    | some false, _ => ⟨(rowCells st px).1 ∧ (rowCells st px).2.2 < (rowCells st px).2.1.length, True, (rowCells st px).2.1.getD (rowCells st px).2.2 .top⟩
    | _, _ => .bad

theorem load_sound (h : Sim P G w0 gh0 nx0 st a w gh) {g : Option Bool} (hg : onG g) {o : Oper} {t : TypeId} {x : Operand} (ho : o.op = .load t x) (hp : (vLoad P G st g t x).pre) :
    Sound P gh st a w o (vLoad P G st g t x) := by
  obtain ⟨q, hq, hq2, hf, hv⟩ := look_elim h hp hg
  unfold vLoad Sound
  rw [hf, hv]
  split at hq2
  · rename_i n ha hs
    obtain ⟨h1, h2, h3⟩ := hq2
    obtain ⟨pre, cs, off, hrc⟩ : ∃ pre cs off, rowCells st q = (pre, cs, off) := ⟨_, _, _, rfl⟩
    simp only [hrc] at h1 h2 h3 ⊢
    obtain ⟨g1, o1, u, ev, hc⟩ := rowCells_sound h hq hrc h1
    refine ⟨.agg ((List.range n).map fun k => u (off + k)).toArray, ?_, ?_, trivial⟩
    · simp only [Gives, execOp, ho, ev, Instr.loadAt, Instr.sureAddr, Sem.run_bind, Sem.run_pure, Result.andThen_ok]
      rw [loadVar_agg w t g1 (o1 + off) n (fun k => u (off + k)) ha hs (fun k hk => by rw [Nat.add_assoc]; exact (hc (off + k) (by omega)).1)]
      simp
    · refine RepT.of_s (.agg _ _ (by simp; omega) ?_ ?_)
      · intro i hi
        simp at hi
        simp only [List.getElem_toArray, List.getElem_map, List.getElem_range]
        exact (hc (off + i) (by omega)).2.2
      · intro i hi
        have hi' : i < n := by simp at hi; omega
        have h4 := hc (off + i) (by omega)
        have he : ((cs.drop off).take n)[i] = cs[off + i] := by simp
        have h5 : isPlain (cs[off + i]) = true := by
          rw [← he]
          exact List.all_eq_true.1 h3 _ (List.getElem_mem hi)
        rw [he]
        have := h4.2.1.plain h5
        simpa [hi'] using this
  · rename_i ha
    obtain ⟨h1, h2⟩ := hq2
    obtain ⟨pre, cs, off, hrc⟩ : ∃ pre cs off, rowCells st q = (pre, cs, off) := ⟨_, _, _, rfl⟩
    simp only [hrc] at h1 h2 ⊢
    obtain ⟨g1, o1, u, ev, hc⟩ := rowCells_sound h hq hrc h1
    have h3 := hc _ h2
    refine ⟨u off, ?_, ?_, trivial⟩
    · simp only [Gives, execOp, ho, ev, Instr.loadAt, Instr.sureAddr, Sem.run_bind, Sem.run_pure, Result.andThen_ok]
      rw [loadVar_one w t g1 _ _ ha h3.1]
      simp
    · have he : cs.getD off PV.top = cs[off] := by simp [List.getD_eq_getElem?_getD, h2]
      rw [he]
      exact h3.2.1
  · exact absurd hq2 (by simp [VR.bad])

/-! ### length -/
def vLen (P : Program) (G : Nat → Option (List PV)) (st : VS) (g : Option Bool) (t : TypeId) (x : Operand) : VR :=
  look G st g x fun px => match P.underlying t, px with
    | some .string, .val (.string s) => ⟨True, s.size ≤ maxLen, .val (.int .i64 s.size)⟩
    | some (.slice _), .slice es => ⟨True, es.length ≤ maxLen, .val (.int .i64 es.length)⟩
    | some (.slice _), .nils => .ok (.val (.int .i64 0))
    | some (.slice _), .tsl k len => match st.chs k with
      | some c => ⟨len = c.es.length, len ≤ maxLen, .val (.int .i64 len)⟩
      | none => .bad
    | _, _ => .bad

theorem len_sound (h : Sim P G w0 gh0 nx0 st a w gh) {g : Option Bool} (hg : onG g) {o : Oper} {t : TypeId} {x : Operand} (ho : o.op = .call { callee := .builtin .len, args := #[x], argTypes := #[t] })
    (hp : (vLen P G st g t x).pre) : Sound P gh st a w o (vLen P G st g t x) := by
  obtain ⟨q, hq, hq2, hf, hv⟩ := look_elim h hp hg
  unfold vLen Sound
  rw [hf, hv]
  split at hq2
  · rename_i s hu
    obtain ⟨e, ok⟩ := RepT.val_inv hq
    exact ⟨.int .i64 s.size, by simp [Gives, execOp, ho, e, resolve, invoke, builtin, Builtin.len_, run_underlying hu, goInt], RepT.of_s (.pure (.val _ trivial)), ok⟩
  · rename_i e1 es hu
    obtain ⟨A, cap, ev, hc, hm, _⟩ := (hq.slice_inv).slice_inv
    exact ⟨.int .i64 es.length, by simp [Gives, execOp, ho, ev, resolve, invoke, builtin, Builtin.len_, run_underlying hu, goInt], RepT.of_s (.pure (.val _ trivial)), Nat.le_trans hc hm⟩
  · rename_i e1 hu
    have ev := hq.nils_inv
    exact ⟨.int .i64 0, by simp [Gives, execOp, ho, ev, resolve, invoke, builtin, Builtin.len_, run_underlying hu, goInt], RepT.of_s (.pure (.val _ trivial)), trivial⟩
  · rename_i e1 k len hu
    split at hq2
    · rename_i c hc
      obtain ⟨c2, hc2, _, ev0⟩ := hq
      have hcc : c2 = c := Option.some.inj (hc2.symm.trans hc)
      subst hcc
      have ev := ev0 hq2
      have hch := h.chs k c2 hc
      refine ⟨.int .i64 len, ?_, RepT.of_s (.pure (.val _ trivial)), ?_⟩
      · cases hgam : gh.gam k with
        | none =>
          have h0 := hch.nil hgam
          rw [hgam] at ev
          simp [chVal] at ev
          have : len = 0 := by rw [hq2, h0]; rfl
          subst this
          simp [Gives, execOp, ho, ev, resolve, invoke, builtin, Builtin.len_, run_underlying hu, goInt]
        | some gc =>
          obtain ⟨g1, cap⟩ := gc
          rw [hgam] at ev
          simp [chVal] at ev
          simp [Gives, execOp, ho, ev, resolve, invoke, builtin, Builtin.len_, run_underlying hu, goInt]
      · show len ≤ maxLen
        cases hgam : gh.gam k with
        | none => rw [hq2, hch.nil hgam]; exact Nat.zero_le _
        | some gc =>
          obtain ⟨g1, cap⟩ := gc
          obtain ⟨_, _, h1, h2, _⟩ := hch.cons g1 cap hgam
          omega
    · exact absurd hq2 (by simp [VR.bad])
  · exact absurd hq2 (by simp [VR.bad])

/-! ### extract, field, index -/
def vExtract (G : Nat → Option (List PV)) (st : VS) (g : Option Bool) (x : Operand) (i : Nat) : VR :=
  look G st g x fun px => match px with
    | .tup cs => ⟨i < cs.length, True, cs.getD i .top⟩
    | _ => .bad

theorem extract_sound (h : Sim P G w0 gh0 nx0 st a w gh) {g : Option Bool} (hg : onG g) {o : Oper} {x : Operand} {i : Nat} (ho : o.op = .extract x i) (hp : (vExtract G st g x i).pre) :
    Sound P gh st a w o (vExtract G st g x i) := by
  obtain ⟨q, hq, hq2, hf, hv⟩ := look_elim h hp hg
  unfold vExtract Sound
  rw [hf, hv]
  split at hq2
  · rename_i cs
    obtain ⟨vs, ev, hl, hc⟩ := hq.tup_inv
    have hi : i < cs.length := hq2
    refine ⟨vs.getD i undef, ?_, ?_, trivial⟩
    · simp [Gives, execOp, ho, ev, Instr.extract, show i < vs.size by omega]
    · have he : cs.getD i PV.top = cs[i] := by simp [List.getD_eq_getElem?_getD, hi]
      show RepT _ _ _ _ (cs.getD i PV.top) _
      rw [he]
      exact RepT.of_s (hc i hi)
  · exact absurd hq2 (by simp [VR.bad])

def vField (P : Program) (G : Nat → Option (List PV)) (st : VS) (g : Option Bool) (s : TypeId) (x : Operand) (f : Nat) : VR :=
  look G st g x fun px => match px, tField P s f with
    | .agg cs, some (off, ft) => match tAgg P ft, tSize P ft with
      | some true, some n => ⟨off + n ≤ cs.length, True, .agg ((cs.drop off).take n)⟩
      | some false, _ => ⟨off < cs.length, True, cs.getD off .top⟩
      | _, _ => .bad
    | _, _ => .bad

theorem field_sound (h : Sim P G w0 gh0 nx0 st a w gh) {g : Option Bool} (hg : onG g) {o : Oper} {s : TypeId} {x : Operand} {f : Nat} (ho : o.op = .field s x f) (hp : (vField P G st g s x f).pre) :
    Sound P gh st a w o (vField P G st g s x f) := by
  obtain ⟨q, hq, hq2, hf, hv⟩ := look_elim h hp hg
  unfold vField Sound
  rw [hf, hv]
  split at hq2
  · rename_i cs off ft hfld
    obtain ⟨vs, ev, hl, h1, hc⟩ := hq.agg_inv
    unfold tField at hfld
    split at hfld
    · rename_i fields hu
      split at hfld
      · rename_i fd hfd
        simp only [Option.some.injEq, Prod.mk.injEq] at hfld
        obtain ⟨rfl, rfl⟩ := hfld
        split at hq2
        · rename_i n ha hs
          have hle : fd.offset + n ≤ cs.length := hq2
          refine ⟨.agg (vs.extract fd.offset (fd.offset + n)), ?_, ?_, trivial⟩
          · simp [Gives, execOp, ho, ev, Instr.field, run_underlying hu, hfd, asAgg, part, run_isAgg ha, run_sizeOf hs]
          · refine RepT.of_s (.agg _ _ (by simp; omega) ?_ ?_)
            · intro i hi
              simp at hi
              simp only [Array.getElem_extract]
              exact h1 _ _
            · intro i hi
              have hi' : i < n := by simp at hi; omega
              have := hc (fd.offset + i) (by omega)
              have he : ((cs.drop fd.offset).take n)[i] = cs[fd.offset + i] := by simp
              rw [he]
              have hg2 : (vs.extract fd.offset (fd.offset + n)).getD i undef = vs.getD (fd.offset + i) undef := by
                simp only [Array.getD_eq_getD_getElem?]
                rw [Array.getElem?_extract]
                simp [show i < min (fd.offset + n) vs.size - fd.offset by omega]
              rw [hg2]
              exact this
        · rename_i ha
          have hlt : fd.offset < cs.length := hq2
          refine ⟨vs.getD fd.offset undef, ?_, ?_, trivial⟩
          · simp [Gives, execOp, ho, ev, Instr.field, run_underlying hu, hfd, asAgg, part, run_isAgg ha, show fd.offset < vs.size by omega]
          · have he : cs.getD fd.offset PV.top = cs[fd.offset] := by simp [List.getD_eq_getElem?_getD, hlt]
            show RepT _ _ _ _ (cs.getD fd.offset PV.top) _
            rw [he]
            exact RepT.of_s (hc _ hlt)
        · exact absurd hq2 (by simp [VR.bad])
      · cases hfld
    · cases hfld
  · exact absurd hq2 (by simp [VR.bad])

def byteAt (s : ByteArray) (i : Nat) : Nat := (s.data.getD i 0).toNat

/-- An array type of one-cell elements: its length. -/
def tArr1 (P : Program) (t : TypeId) : Option Nat :=
  match P.underlying t with
  | some (.array n e) => match tSize P e, tAgg P e with
    | some 1, some false => some n
    | _, _ => none
  | _ => none

def vIndex (P : Program) (G : Nat → Option (List PV)) (st : VS) (g : Option Bool) (t : TypeId) (x i : Operand) : VR :=
  look G st g x fun px => look G st g i fun pi => match px, pi with
    | .val (.string s), .val (.int _ j) => ⟨P.underlying t = some .string ∧ 0 ≤ j ∧ j < s.size, True, .val (.int .u8 (byteAt s j.toNat))⟩
    | .agg cs, .val (.int _ j) => match tArr1 P t with
      | some n => ⟨(0 ≤ j ∧ j < n) ∧ cs.length = n, True, cs.getD j.toNat .top⟩
      | none => .bad
    | _, _ => .bad

theorem index_sound (h : Sim P G w0 gh0 nx0 st a w gh) {g : Option Bool} (hg : onG g) {o : Oper} {t : TypeId} {x i : Operand} (ho : o.op = .index t x i) (hp : (vIndex P G st g t x i).pre) :
    Sound P gh st a w o (vIndex P G st g t x i) := by
  obtain ⟨q, hq, hq2, hf, hv⟩ := look_elim h hp hg
  obtain ⟨q', hq', hq2', hf', hv'⟩ := look_elim h hq2 hg
  unfold vIndex Sound
  rw [hf, hv, hf', hv']
  split at hq2'
  · rename_i s k j
    obtain ⟨hu, h0, h1⟩ := hq2'
    obtain ⟨e, _⟩ := RepT.val_inv hq
    obtain ⟨ej, _⟩ := RepT.val_inv hq'
    have hlt : j.toNat < s.size := by omega
    refine ⟨.int .u8 (byteAt s j.toNat), ?_, RepT.of_s (.pure (.val _ trivial)), trivial⟩
    have hb : s[j.toNat]? = some (s[j.toNat]'hlt) := by simp [hlt]
    have hb2 : (s[j.toNat]'hlt).toNat = byteAt s j.toNat := by
      have hlt2 : j.toNat < s.data.size := hlt
      unfold byteAt
      simp only [Array.getD, hlt2, dif_pos]
      rfl
    simp [Gives, execOp, ho, e, ej, Instr.index, asIntOf, run_underlying hu, h0, hb, hb2]
  · rename_i cs k j
    split at hq2'
    · rename_i n hn
      obtain ⟨⟨h0, h1⟩, hl⟩ := hq2'
      obtain ⟨vs, ev, hlen, h1c, hc⟩ := hq.agg_inv
      obtain ⟨ej, _⟩ := RepT.val_inv hq'
      unfold tArr1 at hn
      split at hn
      · rename_i n' e hu
        split at hn
        · rename_i hs ha
          simp only [Option.some.injEq] at hn
          subst hn
          have hlt : j.toNat < cs.length := by omega
          refine ⟨vs.getD j.toNat undef, ?_, ?_, trivial⟩
          · simp [Gives, execOp, ho, ev, ej, Instr.index, asIntOf, run_underlying hu, h0, h1, part, run_isAgg ha, run_sizeOf hs, show j.toNat < vs.size by omega]
          · have he : cs.getD j.toNat PV.top = cs[j.toNat] := by simp [List.getD_eq_getElem?_getD, hlt]
            show RepT _ _ _ _ (cs.getD j.toNat PV.top) _
            rw [he]
            exact RepT.of_s (hc _ hlt)
        · cases hn
      · cases hn
    · exact absurd hq2' (by simp [VR.bad])
  · exact absurd hq2' (by simp [VR.bad])
end
end Go.Proofs.YtaackmiajgapoaaGreatDoor.V

/- A program logic at the level of values: changes of the frame's own memory. -/
set_option linter.unusedVariables false
set_option linter.unusedSimpArgs false
namespace Go.Proofs.YtaackmiajgapoaaGreatDoor.V
open Go

/-- What is known of a local box. -/
def LocOk (P : Program) (gh : Gh) (locs : Nat → Option (List PV)) (chs : Nat → Option Chain) (nx : Nat) (w : World) (d : Nat) (cs : List PV) : Prop :=
  gh.own (gh.lam d) = .loc d ∧ ∃ cur ty, w.heap[gh.lam d]? = some (.cells cur ty (0, 0)) ∧ cur.size = cs.length ∧
    (∀ k (h : k < cs.length), RepT gh locs chs nx (cs[k]) (cur.getD k undef) ∧ (cur.getD k undef).oneCell' = true)

section
variable {P : Program} {G : Nat → Option (List PV)} {w0 : World} {gh0 : Gh} {nx0 : Nat} {st : VS} {a : Act} {w : World} {gh : Gh}

theorem ShSim.block_lt {sh : Sh} (h : ShSim P G sh gh w) {g o : Nat} {v : Value} (hm : gh.m g o = some v) : g < w.heap.size :=
  World.block_lt_of_cell? w _ (h.mem g o v hm)

/-- What the frame's own memory may become. -/
structure Change (w : World) (gh : Gh) (locs : Nat → Option (List PV)) (chs : Nat → Option Chain) (w' : World) (gh' : Gh) (locs' : Nat → Option (List PV)) (chs' : Nat → Option Chain) : Prop where
  mle : MemLe gh.m gh'.m
  mem : ∀ g o v, gh'.m g o = some v → w'.cell? ⟨g, o, none⟩ = some v
  phi : gh'.phi = gh.phi
  os : w'.os = w.os
  tape : w'.tape = w.tape
  output : w'.output = w.output
  size : w.heap.size ≤ w'.heap.size
  free : ∀ g, g < w.heap.size → gh.own g = .none → w'.heap[g]? = w.heap[g]? ∧ gh'.own g = .none ∧ ∀ o, gh'.m g o = gh.m g o
  box : ∀ g b, gh.own g = .box b → w'.heap[g]? = w.heap[g]? ∧ gh'.own g = .box b ∧ ∀ o, gh'.m g o = gh.m g o
  lt : ∀ g, gh'.own g ≠ .none → g < w'.heap.size
  box' : ∀ g b, gh'.own g = .box b → gh.own g = .box b
  loc' : ∀ g d, gh'.own g = .loc d → ∀ o, gh'.m g o = none
  lmap : ∀ d, (locs d).isSome = true → (locs' d).isSome = true ∧ gh'.lam d = gh.lam d
  cmap : ∀ k c, chs k = some c → ∃ c', chs' k = some c' ∧ c.es.length ≤ c'.es.length ∧ (c'.es.length = c.es.length → gh'.gam k = gh.gam k ∧ c'.sz = c.sz)

theorem Change.repT {w' : World} {gh' : Gh} {locs locs' : Nat → Option (List PV)} {chs chs' : Nat → Option Chain} (c : Change w gh locs chs w' gh' locs' chs') {nx : Nat} {p : PV} {v : Value} (h : RepT gh locs chs nx p v) : RepT gh' locs' chs' nx p v :=
  RepT.mono c.mle (fun b _ => by rw [c.phi]) (Nat.le_refl _) c.lmap c.cmap h

theorem Change.step {w' : World} {gh' : Gh} {locs locs' : Nat → Option (List PV)} {chs chs' : Nat → Option Chain} (c : Change w gh locs chs w' gh' locs' chs') (nx : Nat) : Step w gh nx w' gh' nx :=
  ⟨c.os, c.tape, c.output, c.size, c.free, c.mle, fun b _ => by rw [c.phi], Nat.le_refl _⟩

theorem Sim.change (h : Sim P G w0 gh0 nx0 st a w gh) {w' : World} {gh' : Gh} {locs' : Nat → Option (List PV)} {chs' : Nat → Option Chain} (c : Change w gh st.locs st.chs w' gh' locs' chs')
    (hl : ∀ d cs, locs' d = some cs → LocOk P gh' locs' chs' st.sh.next w' d cs) (hc : ∀ k c, chs' k = some c → ChSim P gh' w' k c) :
    Sim P G w0 gh0 nx0 { st with locs := locs', chs := chs' } a w' gh' := by
  refine ⟨⟨c.mem, ?_, ?_, ?_, c.lt⟩, h.n, h.defers, fun i => c.repT (h.tmps i), hl, c.loc', hc, h.step.trans (c.step _)⟩
  · intro g e he
    obtain ⟨u, hu⟩ := h.sh.glob g e he
    exact ⟨u, fun k hk => ⟨c.mle _ _ _ (hu k hk).1, (hu k hk).2.mono c.mle⟩⟩
  · intro b cs hb
    obtain ⟨h1, h2, cur, ty, h3, h4, h5⟩ := h.sh.box b cs hb
    obtain ⟨k1, k2, _⟩ := c.box _ _ h2
    refine ⟨h1, by rw [c.phi]; exact k2, cur, ty, by rw [c.phi, k1]; exact h3, h4, fun k hk => ?_⟩
    obtain ⟨r1, r2⟩ := h5 k hk
    exact ⟨by rw [c.phi]; exact r1.mono c.mle (fun _ _ => rfl) (Nat.le_refl _), r2⟩
  · intro g b hg o
    have h1 := c.box' g b hg
    rw [(c.box g b h1).2.2 o]
    exact h.sh.nomem g b h1 o

theorem LocOk.change {w' : World} {gh' : Gh} {locs locs' : Nat → Option (List PV)} {chs chs' : Nat → Option Chain} (c : Change w gh locs chs w' gh' locs' chs') {nx d : Nat} {cs : List PV} (h : LocOk P gh locs chs nx w d cs) (hd : (locs d).isSome = true)
    (ho : gh'.own (gh.lam d) = .loc d) (hb : w'.heap[gh.lam d]? = w.heap[gh.lam d]?) : LocOk P gh' locs' chs' nx w' d cs := by
  obtain ⟨_, cur, ty, h1, h2, h3⟩ := h
  have hl := (c.lmap d hd).2
  refine ⟨by rw [hl]; exact ho, cur, ty, by rw [hl, hb]; exact h1, h2, fun k hk => ?_⟩
  obtain ⟨r1, r2⟩ := h3 k hk
  exact ⟨c.repT r1, r2⟩

theorem ChSim.change {w' : World} {gh' : Gh} {locs locs' : Nat → Option (List PV)} {chs chs' : Nat → Option Chain} (c : Change w gh locs chs w' gh' locs' chs') {k : Nat} {ch : Chain} (h : ChSim P gh w k ch) (hg : gh'.gam k = gh.gam k)
    (ho : ∀ g cap, gh.gam k = some (g, cap) → gh'.own g = .chain k ∧ w'.heap[g]? = w.heap[g]? ∧ ∀ o, gh'.m g o = gh.m g o) : ChSim P gh' w' k ch := by
  refine ⟨fun e => h.nil (by rw [← hg]; exact e), fun g cap e => ?_⟩
  rw [hg] at e
  obtain ⟨h1, h2, h3, h4, h5, h6, cur, h7, h8, h9, h10, h11⟩ := h.cons g cap e
  obtain ⟨k1, k2, k3⟩ := ho g cap e
  refine ⟨k1, h2, h3, h4, h5, h6, cur, by rw [k2]; exact h7, h8, fun i hi j hj => (h9 i hi j hj).mono c.mle, fun o v hv => h10 o v (by rw [← k3 o]; exact hv), fun hf o ho2 => by rw [k3 o]; exact h11 hf o ho2⟩

/-! ### A new block of the frame's own -/
theorem heap_alloc (w : World) (o : Obj) (g : Nat) : (w.alloc o).heap[g]? = if g = w.heap.size then some o else w.heap[g]? := by
  show (w.heap.push o)[g]? = _
  rw [Array.getElem?_push]

theorem cell_alloc {w : World} {o : Obj} {x : Addr} {v : Value} (h : w.cell? x = some v) : (w.alloc o).cell? x = some v := by
  rw [World.cell?_alloc_lt _ _ _ (World.block_lt_of_cell? w _ h)]; exact h

/-- What a new block means for what was there. -/
theorem change_alloc (h : Sim P G w0 gh0 nx0 st a w gh) (o : Obj) (ow : Owner) (hbox : ∀ b, ow ≠ .box b) (lam' : Nat → Nat) (gam' : Nat → Option (Nat × Nat)) (locs' : Nat → Option (List PV)) (chs' : Nat → Option Chain)
    (hl : ∀ d, (st.locs d).isSome = true → (locs' d).isSome = true ∧ lam' d = gh.lam d)
    (hc : ∀ k c, st.chs k = some c → ∃ c', chs' k = some c' ∧ c.es.length ≤ c'.es.length ∧ (c'.es.length = c.es.length → gam' k = gh.gam k ∧ c'.sz = c.sz)) :
    Change w gh st.locs st.chs (w.alloc o) { gh with own := upd gh.own w.heap.size ow, lam := lam', gam := gam' } locs' chs' where
  mle := MemLe.refl _
  mem := fun g o v hm => cell_alloc (h.sh.mem g o v hm)
  phi := rfl
  os := rfl
  tape := rfl
  output := rfl
  size := by simp
  free := fun g hg ho => ⟨by rw [heap_alloc, if_neg (by omega)], by show upd _ _ _ _ = _; rw [upd_ne _ _ _ _ (by omega)]; exact ho, fun _ => rfl⟩
  box := fun g b ho => by
    have hg := h.sh.lt g (by rw [ho]; simp)
    exact ⟨by rw [heap_alloc, if_neg (by omega)], by show upd _ _ _ _ = _; rw [upd_ne _ _ _ _ (by omega)]; exact ho, fun _ => rfl⟩
  lt := fun g hg => by
    have hg' : upd gh.own w.heap.size ow g ≠ .none := hg
    rw [World.size_alloc]
    by_cases e : g = w.heap.size
    · omega
    · rw [upd_ne _ _ _ _ e] at hg'
      have := h.sh.lt g hg'
      omega
  box' := fun g b hg => by
    have hg' : upd gh.own w.heap.size ow g = .box b := hg
    by_cases e : g = w.heap.size
    · subst e; rw [upd_same] at hg'; exact absurd hg' (hbox b)
    · rwa [upd_ne _ _ _ _ e] at hg'
  loc' := fun g d hg o => by
    have hg' : upd gh.own w.heap.size ow g = .loc d := hg
    by_cases e : g = w.heap.size
    · cases hm : gh.m g o with
      | none => rfl
      | some v =>
        have := h.sh.block_lt hm
        omega
    · rw [upd_ne _ _ _ _ e] at hg'
      exact h.lown g d hg' o
  lmap := hl
  cmap := hc

/-- A NEW LOCAL BOX. -/
theorem Sim.new_loc (h : Sim P G w0 gh0 nx0 st a w gh) {d : Nat} (hd : d < st.n) (hfree : st.locs d = none) {cs : List PV} {arr : Array Value} (ty : TypeId) (hlen : arr.size = cs.length)
    (hcs : ∀ k (hk : k < cs.length), RepT gh st.locs st.chs st.sh.next (cs[k]) (arr.getD k undef) ∧ (arr.getD k undef).oneCell' = true) :
    ∃ gh', Sim P G w0 gh0 nx0 ({ st with locs := upd st.locs d (some cs) }.put (some d) (.loc d 0)) (a.put (some d) (.pointer (some ⟨w.heap.size, 0, none⟩))) (w.alloc (.cells arr ty)) gh' := by
  have ch := change_alloc h (.cells arr ty) (.loc d) (fun b e => by cases e) (upd gh.lam d w.heap.size) gh.gam (upd st.locs d (some cs)) st.chs
    (fun d' hd' => by
      have hne : d' ≠ d := by rintro rfl; rw [hfree] at hd'; cases hd'
      rw [upd_ne _ _ _ _ hne, upd_ne _ _ _ _ hne]; exact ⟨hd', rfl⟩)
    (fun k c hc => ⟨c, hc, Nat.le_refl _, fun _ => ⟨rfl, rfl⟩⟩)
  refine ⟨_, Sim.put (h.change ch ?_ ?_) (d := some d) hd ⟨by simp [upd_same], by simp [upd_same]⟩⟩
  · intro d' cs' hd'
    by_cases e : d' = d
    · subst e
      rw [upd_same] at hd'
      cases hd'
      refine ⟨by simp [upd_same], arr, ty, by simp only [upd_same]; rw [heap_alloc, if_pos rfl], hlen, fun k hk => ?_⟩
      obtain ⟨r1, r2⟩ := hcs k hk
      exact ⟨ch.repT r1, r2⟩
    · rw [upd_ne _ _ _ _ e] at hd'
      have hok : LocOk P gh st.locs st.chs st.sh.next w d' cs' := h.locs d' cs' hd'
      have hlt := h.sh.lt (gh.lam d') (by rw [hok.1]; simp)
      refine hok.change ch (by rw [hd']; rfl) ?_ (by rw [heap_alloc, if_neg (by omega)])
      show upd _ _ _ _ = _
      rw [upd_ne _ _ _ _ (by omega)]; exact hok.1
  · intro k c hc
    refine (h.chs k c hc).change ch rfl fun g cap hg => ?_
    have ho := ((h.chs k c hc).cons g cap hg).1
    have hlt := h.sh.lt g (by rw [ho]; simp)
    exact ⟨by show upd _ _ _ _ = _; rw [upd_ne _ _ _ _ (by omega)]; exact ho, by rw [heap_alloc, if_neg (by omega)], fun _ => rfl⟩

/-! ### Freezing a chain -/
def frzMem (w : World) (gh : Gh) (k n : Nat) : Mem := fun g o =>
  match gh.gam k with
  | some (g1, _) => if g = g1 ∧ o < n then w.cell? ⟨g, o, none⟩ else gh.m g o
  | none => gh.m g o

theorem Sim.freeze (h : Sim P G w0 gh0 nx0 st a w gh) {k : Nat} {c : Chain} (hk : st.chs k = some c) :
    Sim P G w0 gh0 nx0 { st with chs := upd st.chs k (some { c with frz := true }) } a w { gh with m := frzMem w gh k (c.es.length * c.sz) } := by
  have hch := h.chs k c hk
  have hown : ∀ g1 cap, gh.gam k = some (g1, cap) → gh.own g1 = .chain k := fun g1 cap e => (hch.cons g1 cap e).1
  have hne : ∀ g, (∀ cap, gh.gam k ≠ some (g, cap)) → ∀ o, frzMem w gh k (c.es.length * c.sz) g o = gh.m g o := by
    intro g hg o
    unfold frzMem
    split
    · rename_i g1 cap e
      rw [if_neg]
      rintro ⟨rfl, _⟩
      exact hg cap e
    · rfl
  have hmle : MemLe gh.m (frzMem w gh k (c.es.length * c.sz)) := by
    intro g o v hm
    unfold frzMem
    split
    · split
      · exact h.sh.mem g o v hm
      · exact hm
    · exact hm
  have ch : Change w gh st.locs st.chs w { gh with m := frzMem w gh k (c.es.length * c.sz) } st.locs (upd st.chs k (some { c with frz := true })) :=
    { mle := hmle
      mem := fun g o v hm => by
        have hm' : frzMem w gh k (c.es.length * c.sz) g o = some v := hm
        unfold frzMem at hm'
        split at hm'
        · split at hm'
          · exact hm'
          · exact h.sh.mem g o v hm'
        · exact h.sh.mem g o v hm'
      phi := rfl, os := rfl, tape := rfl, output := rfl, size := Nat.le_refl _
      free := fun g hg ho => ⟨rfl, ho, hne g fun cap e => by rw [hown g cap e] at ho; cases ho⟩
      box := fun g b ho => ⟨rfl, ho, hne g fun cap e => by rw [hown g cap e] at ho; cases ho⟩
      lt := h.sh.lt
      box' := fun g b hg => hg
      loc' := fun g d hg o => by
        show frzMem w gh k (c.es.length * c.sz) g o = none
        have hg' : gh.own g = .loc d := hg
        rw [hne g fun cap e => by have := hown g cap e; rw [hg'] at this; cases this]
        exact h.lown g d hg o
      lmap := fun d hd => ⟨hd, rfl⟩
      cmap := fun k' c' hc' => by
        by_cases e : k' = k
        · subst e
          rw [hk] at hc'
          cases hc'
          exact ⟨_, upd_same _ _ _, Nat.le_refl _, fun _ => ⟨rfl, rfl⟩⟩
        · exact ⟨c', by rw [upd_ne _ _ _ _ e]; exact hc', Nat.le_refl _, fun _ => ⟨rfl, rfl⟩⟩ }
  refine h.change ch ?_ ?_
  · intro d cs hd
    have hok : LocOk P gh st.locs st.chs st.sh.next w d cs := h.locs d cs hd
    exact hok.change ch (by rw [hd]; rfl) hok.1 rfl
  · intro k' c' hc'
    by_cases e : k' = k
    · subst e
      rw [upd_same] at hc'
      cases hc'
      refine ⟨hch.nil, fun g cap e => ?_⟩
      obtain ⟨h1, h2, h3, h4, h5, h6, cur, h7, h8, h9, h10, h11⟩ := hch.cons g cap e
      refine ⟨h1, h2, h3, h4, h5, h6, cur, h7, h8, fun i hi j hj => (h9 i hi j hj).mono hmle, ?_, ?_⟩
      · intro o v hm
        have hm' : frzMem w gh k' (c.es.length * c.sz) g o = some v := hm
        unfold frzMem at hm'
        rw [e] at hm'
        simp only at hm'
        split at hm'
        · rename_i hlt
          exact ⟨by trivial, hlt.2⟩
        · exact ⟨by trivial, (h10 o v hm').2⟩
      · intro _ o ho
        show frzMem w gh k' (c.es.length * c.sz) g o = _
        unfold frzMem
        rw [e]
        simp only
        rw [if_pos ⟨trivial, ho⟩, cell_of_heap h7]
        have : o < cur.size := by
          rw [h8]
          exact Nat.lt_of_lt_of_le ho (Nat.mul_le_mul_right _ h3)
        simp [this]
    · rw [upd_ne _ _ _ _ e] at hc'
      refine (h.chs k' c' hc').change ch rfl fun g cap hg => ?_
      have ho := ((h.chs k' c' hc').cons g cap hg).1
      refine ⟨ho, rfl, hne g fun cap' e' => ?_⟩
      have := hown g cap' e'
      rw [ho] at this
      injection this with this
      exact e this
end
end Go.Proofs.YtaackmiajgapoaaGreatDoor.V

/- A program logic at the level of values: what is handed on, stores, new boxes. -/
set_option linter.unusedVariables false
set_option linter.unusedSimpArgs false
namespace Go.Proofs.YtaackmiajgapoaaGreatDoor.V
open Go

/-! ### A value that is handed on: a chain is frozen, and read as a tree -/
structure CV where
  pre : Prop
  v : PV
  chs : Nat → Option Chain

def cv (chs : Nat → Option Chain) (p : PV) : CV :=
  match p with
  | .tsl k len => match chs k with
    | some c => ⟨len = c.es.length, .slice c.es, upd chs k (some { c with frz := true })⟩
    | none => ⟨False, .top, chs⟩
  | .top => ⟨False, .top, chs⟩
  | .gd _ _ => ⟨False, .top, chs⟩
  | .loc _ _ => ⟨False, .top, chs⟩
  | .trow _ _ _ _ => ⟨False, .top, chs⟩
  | p => ⟨True, p, chs⟩

structure CVs where
  pre : Prop
  vs : List PV
  chs : Nat → Option Chain

def cvs (chs : Nat → Option Chain) : List PV → CVs
  | [] => ⟨True, [], chs⟩
  | p :: r => ⟨(cv chs p).pre ∧ (cvs (cv chs p).chs r).pre, (cv chs p).v :: (cvs (cv chs p).chs r).vs, (cvs (cv chs p).chs r).chs⟩

section
variable {P : Program} {G : Nat → Option (List PV)} {w0 : World} {gh0 : Gh} {nx0 : Nat} {st : VS} {a : Act} {w : World} {gh : Gh}

/-- Only the memory that stands has grown. -/
structure Same (gh gh' : Gh) : Prop where
  m : MemLe gh.m gh'.m
  phi : gh'.phi = gh.phi
  own : gh'.own = gh.own
  lam : gh'.lam = gh.lam
  gam : gh'.gam = gh.gam
theorem Same.refl (gh : Gh) : Same gh gh := ⟨MemLe.refl _, rfl, rfl, rfl, rfl⟩
theorem Same.trans {a b c : Gh} (h : Same a b) (k : Same b c) : Same a c := ⟨h.m.trans k.m, k.phi.trans h.phi, k.own.trans h.own, k.lam.trans h.lam, k.gam.trans h.gam⟩
theorem Same.repS {gh gh' : Gh} (h : Same gh gh') {nx : Nat} {p : PV} {v : Value} (r : RepS gh.m gh.phi nx p v) : RepS gh'.m gh'.phi nx p v := by
  rw [h.phi]; exact r.mono h.m (fun _ _ => rfl) (Nat.le_refl _)

/-- The chains of 'chs'' are those of 'chs', some of them frozen. -/
def Frz (chs chs' : Nat → Option Chain) : Prop := ∀ k c, chs k = some c → ∃ f, chs' k = some { c with frz := f }
theorem Frz.refl (chs : Nat → Option Chain) : Frz chs chs := fun k c h => ⟨c.frz, h⟩
theorem Frz.trans {a b c : Nat → Option Chain} (h : Frz a b) (k : Frz b c) : Frz a c := fun i x hx => by
  obtain ⟨f, h1⟩ := h i x hx
  obtain ⟨f2, h2⟩ := k i _ h1
  exact ⟨f2, h2⟩
theorem Frz.repT {chs chs' : Nat → Option Chain} (h : Frz chs chs') {gh gh' : Gh} (hs : Same gh gh') {locs : Nat → Option (List PV)} {nx : Nat} {p : PV} {v : Value} (r : RepT gh locs chs nx p v) : RepT gh' locs chs' nx p v :=
  RepT.mono hs.m (fun _ _ => by rw [hs.phi]) (Nat.le_refl _) (fun d hd => ⟨hd, by rw [hs.lam]⟩)
    (fun k c hc => by obtain ⟨f, hf⟩ := h k c hc; exact ⟨_, hf, Nat.le_refl _, fun _ => ⟨by rw [hs.gam], rfl⟩⟩) r

theorem chain_slice (h : Sim P G w0 gh0 nx0 st a w gh) {k : Nat} {c : Chain} (hk : st.chs k = some c) (hf : c.frz = true) : RepV gh.m (.slice c.es) (chVal (gh.gam k) c.es.length) := by
  have hch := h.chs k c hk
  cases hg : gh.gam k with
  | none =>
    have := hch.nil hg
    rw [this]
    exact .nil0 none 0 (Nat.zero_le _)
  | some gc =>
    obtain ⟨g1, cap⟩ := gc
    obtain ⟨h1, h2, h3, h4, h5, h6, cur, h7, h8, h9, h10, h11⟩ := hch.cons g1 cap hg
    refine .slice c.es g1 0 cap c.sz (fun i j => cur.getD (i * c.sz + j) undef) h3 h4 h6 ?_ (fun i hi j hj => h9 i hi j hj)
    intro i j hi hj
    rw [Nat.zero_add]
    refine h11 hf _ ?_
    have : (i + 1) * c.sz ≤ c.es.length * c.sz := Nat.mul_le_mul_right _ (by omega)
    rw [Nat.add_mul, Nat.one_mul] at this
    omega

theorem cv_sound (h : Sim P G w0 gh0 nx0 st a w gh) {p : PV} {v : Value} (hr : RepT gh st.locs st.chs st.sh.next p v) (hp : (cv st.chs p).pre) :
    ∃ gh', Sim P G w0 gh0 nx0 { st with chs := (cv st.chs p).chs } a w gh' ∧ Same gh gh' ∧ Frz st.chs (cv st.chs p).chs ∧ RepS gh'.m gh'.phi st.sh.next (cv st.chs p).v v := by
  cases p with
  | tsl k len =>
    obtain ⟨c, hc, hle, hv⟩ := hr
    simp only [cv, hc] at hp ⊢
    subst hp
    have hf := h.freeze hc
    have hsame : Same gh { gh with m := frzMem w gh k (c.es.length * c.sz) } := by
      refine ⟨?_, rfl, rfl, rfl, rfl⟩
      intro g o u hm
      show frzMem w gh k (c.es.length * c.sz) g o = _
      unfold frzMem
      split
      · split
        · exact h.sh.mem g o u hm
        · exact hm
      · exact hm
    refine ⟨_, hf, hsame, ?_, ?_⟩
    · intro k' c' hc'
      by_cases e : k' = k
      · subst e
        rw [hc] at hc'
        cases hc'
        exact ⟨true, upd_same _ _ _⟩
      · exact ⟨c'.frz, by rw [upd_ne _ _ _ _ e]; exact hc'⟩
    · rw [hv rfl]
      exact .pure (chain_slice hf (k := k) (c := { c with frz := true }) (by simp [upd_same]) rfl)
  | top => exact hp.elim
  | gd b q => exact hp.elim
  | loc d off => exact hp.elim
  | trow k n i off => exact hp.elim
  | val u => exact ⟨gh, h, Same.refl _, Frz.refl _, hr⟩
  | agg cs => exact ⟨gh, h, Same.refl _, Frz.refl _, hr⟩
  | tup cs => exact ⟨gh, h, Same.refl _, Frz.refl _, hr⟩
  | nils => exact ⟨gh, h, Same.refl _, Frz.refl _, hr⟩
  | slice es => exact ⟨gh, h, Same.refl _, Frz.refl _, hr⟩
  | box b off => exact ⟨gh, h, Same.refl _, Frz.refl _, hr⟩
  | row e off => exact ⟨gh, h, Same.refl _, Frz.refl _, hr⟩
  | func f cs => exact ⟨gh, h, Same.refl _, Frz.refl _, hr⟩

theorem cvs_sound : ∀ (ps : List PV) (st : VS) (gh : Gh) (vs : Nat → Value), Sim P G w0 gh0 nx0 st a w gh → (∀ i (h : i < ps.length), RepT gh st.locs st.chs st.sh.next (ps[i]) (vs i)) → (cvs st.chs ps).pre →
    ∃ gh', Sim P G w0 gh0 nx0 { st with chs := (cvs st.chs ps).chs } a w gh' ∧ Same gh gh' ∧ Frz st.chs (cvs st.chs ps).chs ∧ (cvs st.chs ps).vs.length = ps.length ∧
      ∀ i (h : i < (cvs st.chs ps).vs.length), RepS gh'.m gh'.phi st.sh.next ((cvs st.chs ps).vs[i]) (vs i)
  | [], st, gh, vs, h, _, _ => ⟨gh, h, Same.refl _, Frz.refl _, rfl, fun i hi => absurd hi (by simp [cvs])⟩
  | p :: r, st, gh, vs, h, hr, hp => by
    obtain ⟨gh1, s1, m1, f1, r1⟩ := cv_sound h (hr 0 (by simp)) hp.1
    obtain ⟨gh2, s2, m2, f2, l2, r2⟩ := cvs_sound r { st with chs := (cv st.chs p).chs } gh1 (fun i => vs (i + 1)) s1 (fun i hi => f1.repT m1 (hr (i + 1) (by simp; omega))) hp.2
    refine ⟨gh2, s2, m1.trans m2, f1.trans f2, by simp [cvs, l2], fun i hi => ?_⟩
    cases i with
    | zero => exact m2.repS r1
    | succ i => exact r2 i (by simpa [cvs] using hi)

/-! ### Cells of a value, and lists of cells that are set -/
def cellsPV : PV → List PV
  | .agg cs => cs
  | p => [p]

def okCell : PV → Bool
  | .val _ | .nils | .slice _ | .tsl _ _ | .box _ _ | .row _ _ | .func _ _ => true
  | _ => false
/-- A value that may stand in a variable. -/
def okStore : PV → Bool
  | .agg _ => true
  | p => okCell p

theorem okCell_one {gh : Gh} {locs : Nat → Option (List PV)} {chs : Nat → Option Chain} {nx : Nat} {p : PV} {v : Value} (h : RepT gh locs chs nx p v) (hp : okCell p = true)
    (ht : ∀ k len c, p = .tsl k len → chs k = some c → len = c.es.length) : v.oneCell' = true := by
  cases p with
  | val u => obtain ⟨rfl, ok⟩ := h.val_inv; exact okVal_one ok
  | nils => rw [h.nils_inv]; rfl
  | slice es => obtain ⟨A, cap, e, _⟩ := (h.slice_inv).slice_inv; rw [e]; rfl
  | tsl k len =>
    obtain ⟨c, hc, _, hv⟩ := h
    rw [hv (ht k len c rfl hc)]
    unfold chVal; split <;> rfl
  | box b off => rw [h.box_inv.1]; rfl
  | row e off => obtain ⟨_, _, _, e, _⟩ := h.row_inv; rw [e]; rfl
  | func f cs => obtain ⟨_, e, _⟩ := h.func_inv; rw [e]; rfl
  | _ => simp [okCell] at hp

/-- The chains in it are whole. -/
def wholeC (chs : Nat → Option Chain) : PV → Prop
  | .tsl k len => match chs k with | some c => len = c.es.length | none => False
  | _ => True

/-- A value's cells. -/
theorem store_cells {gh : Gh} {locs : Nat → Option (List PV)} {chs : Nat → Option Chain} {nx : Nat} {p : PV} {v : Value} (h : RepT gh locs chs nx p v) (hp : okStore p = true) (hw : wholeC chs p) :
    v.cells.size = (cellsPV p).length ∧ ∀ k (hk : k < (cellsPV p).length), RepT gh locs chs nx ((cellsPV p)[k]) (v.cells.getD k undef) ∧ (v.cells.getD k undef).oneCell' = true := by
  have one : ∀ {q : PV}, okCell q = true → wholeC chs q → RepT gh locs chs nx q v → v.cells.size = 1 ∧ ∀ k (hk : k < [q].length), RepT gh locs chs nx ([q][k]) (v.cells.getD k undef) ∧ (v.cells.getD k undef).oneCell' = true := by
    intro q hq hw2 hr
    have h1 := okCell_one hr hq (fun k len c e hc => by subst e; simpa [wholeC, hc] using hw2)
    have hc : v.cells = #[v] := by cases v <;> first | rfl | (simp [Value.oneCell'] at h1)
    rw [hc]
    refine ⟨rfl, fun k hk => ?_⟩
    simp at hk
    subst hk
    exact ⟨hr, h1⟩
  cases p with
  | agg cs =>
    obtain ⟨vs, e, hl, h1, hc⟩ := h.agg_inv
    subst e
    refine ⟨hl.symm, fun k hk => ⟨RepT.of_s (hc k hk), ?_⟩⟩
    have : k < vs.size := by rw [← hl]; exact hk
    simpa [Value.cells, this] using h1 k this
  | val u => exact one rfl trivial h
  | nils => exact one rfl trivial h
  | slice es => exact one rfl trivial h
  | tsl k len => exact one rfl hw h
  | box b off => exact one rfl trivial h
  | row e off => exact one rfl trivial h
  | func f cs => exact one rfl trivial h
  | _ => simp [okStore, okCell] at hp

def setL (cs : List PV) (o : Nat) : List PV → List PV
  | [] => cs
  | p :: r => setL (cs.set o p) (o + 1) r
def setA (cur : Array Value) (o : Nat) : List Value → Array Value
  | [] => cur
  | v :: r => setA (cur.setIfInBounds o v) (o + 1) r

theorem setL_length : ∀ (ps cs : List PV) (o : Nat), (setL cs o ps).length = cs.length
  | [], _, _ => rfl
  | p :: r, cs, o => by rw [setL, setL_length r]; simp
theorem setA_size : ∀ (vs : List Value) (cur : Array Value) (o : Nat), (setA cur o vs).size = cur.size
  | [], _, _ => rfl
  | v :: r, cur, o => by rw [setA, setA_size r]; simp

theorem setL_get : ∀ (ps cs : List PV) (o k : Nat), (setL cs o ps)[k]? = if o ≤ k ∧ k < o + ps.length ∧ k < cs.length then ps[k - o]? else cs[k]?
  | [], cs, o, k => by
    rw [setL, if_neg]
    simp; omega
  | p :: r, cs, o, k => by
    rw [setL, setL_get r (cs.set o p) (o + 1) k]
    simp only [List.length_set, List.length_cons]
    by_cases h1 : o + 1 ≤ k ∧ k < o + 1 + r.length ∧ k < cs.length
    · rw [if_pos h1, if_pos (by omega)]
      rw [show k - o = (k - (o + 1)) + 1 by omega, List.getElem?_cons_succ]
    · rw [if_neg h1]
      by_cases h2 : k = o
      · subst h2
        by_cases h3 : k < cs.length
        · rw [if_pos (by omega)]; simp [h3]
        · rw [if_neg (by omega)]; simp [h3]
      · rw [if_neg (by omega), List.getElem?_set_ne (fun e => h2 e.symm)]

theorem setA_get : ∀ (vs : List Value) (cur : Array Value) (o k : Nat), (setA cur o vs)[k]? = if o ≤ k ∧ k < o + vs.length ∧ k < cur.size then vs[k - o]? else cur[k]?
  | [], cur, o, k => by
    rw [setA, if_neg]
    simp; omega
  | v :: r, cur, o, k => by
    rw [setA, setA_get r _ (o + 1) k]
    simp only [Array.size_setIfInBounds, List.length_cons]
    by_cases h1 : o + 1 ≤ k ∧ k < o + 1 + r.length ∧ k < cur.size
    · rw [if_pos h1, if_pos (by omega)]
      rw [show k - o = (k - (o + 1)) + 1 by omega, List.getElem?_cons_succ]
    · rw [if_neg h1]
      by_cases h2 : k = o
      · subst h2
        by_cases h3 : k < cur.size
        · rw [if_pos (by omega)]; simp [h3]
        · rw [if_neg (by omega)]; simp [h3]
      · rw [if_neg (by omega), Array.getElem?_setIfInBounds_ne (fun e => h2 e.symm)]

/-- Cells that are set on both sides alike. -/
theorem set_rep {R : PV → Value → Prop} {cs ps : List PV} {cur : Array Value} {vs : List Value} {o : Nat} (hl : cur.size = cs.length) (hv : vs.length = ps.length)
    (h : ∀ k (hk : k < cs.length), R (cs[k]) (cur.getD k undef)) (h2 : ∀ k (hk : k < ps.length), R (ps[k]) (vs.getD k undef)) :
    ∀ k (hk : k < (setL cs o ps).length), R ((setL cs o ps)[k]) ((setA cur o vs).getD k undef) := by
  intro k hk
  have hk' : k < cs.length := by rw [setL_length] at hk; exact hk
  have e1 := setL_get ps cs o k
  have e2 := setA_get vs cur o k
  rw [List.getElem?_eq_getElem hk] at e1
  have e3 : (setA cur o vs).getD k undef = ((setA cur o vs)[k]?).getD undef := by simp [Array.getD_eq_getD_getElem?]
  rw [e3, e2]
  by_cases hc : o ≤ k ∧ k < o + ps.length ∧ k < cs.length
  · rw [if_pos hc] at e1
    rw [if_pos (by omega)]
    have hlt : k - o < ps.length := by omega
    rw [List.getElem?_eq_getElem hlt] at e1
    have := h2 (k - o) hlt
    rw [Option.some.inj e1]
    simpa [List.getD_eq_getElem?_getD] using this
  · rw [if_neg hc] at e1
    rw [if_neg (by omega)]
    rw [List.getElem?_eq_getElem hk'] at e1
    rw [Option.some.inj e1]
    have := h k hk'
    simpa [Array.getD_eq_getD_getElem?] using this

/-! ### Stores into a block -/
def World.putBlock (w : World) (g : Nat) (o : Obj) : World := { w with heap := w.heap.setIfInBounds g o }

theorem putBlock_heap (w : World) (g : Nat) (o : Obj) (g' : Nat) (h : g < w.heap.size) : (World.putBlock w g o).heap[g']? = if g' = g then some o else w.heap[g']? := by
  show (w.heap.setIfInBounds g o)[g']? = _
  by_cases e : g' = g
  · subst e; simp [h]
  · rw [Array.getElem?_setIfInBounds_ne (fun x => e x.symm), if_neg e]

theorem setCell_put {w : World} {g o : Nat} {cur : Array Value} {ty : TypeId} {v : Value} (h : w.heap[g]? = some (.cells cur ty (0, 0))) :
    w.setCell ⟨g, o, none⟩ v = World.putBlock w g (.cells (cur.setIfInBounds o v) ty (0, 0)) := by
  have hlt : g < w.heap.size := (Array.getElem?_eq_some_iff.1 h).1
  unfold World.setCell World.putBlock
  congr 1
  apply Array.ext_getElem?
  intro i
  rw [Array.getElem?_modify]
  by_cases e : g = i
  · subst e
    rw [if_pos rfl, h]
    simp [hlt]
  · rw [if_neg e, Array.getElem?_setIfInBounds_ne e]

theorem putBlock_put (w : World) (g : Nat) (x y : Obj) : World.putBlock (World.putBlock w g x) g y = World.putBlock w g y := by
  unfold World.putBlock
  simp only
  congr 1
  apply Array.ext_getElem?
  intro i
  simp only [Array.getElem?_setIfInBounds]
  split <;> simp_all

theorem storeCells_run {P : Program} (g off : Nat) (ty : TypeId) : ∀ (vs : List Value) (i : Nat) (w : World) (cur : Array Value), w.heap[g]? = some (.cells cur ty (0, 0)) → off + i + vs.length ≤ cur.size → (∀ v ∈ vs, v.oneCell' = true) →
    (storeCells ⟨g, off, none⟩ vs i).run P w = .ok () (World.putBlock w g (.cells (setA cur (off + i) vs) ty (0, 0)))
  | [], i, w, cur, h, _, _ => by
    have hlt : g < w.heap.size := (Array.getElem?_eq_some_iff.1 h).1
    have e : World.putBlock w g (.cells (setA cur (off + i) []) ty (0, 0)) = w := by
      unfold World.putBlock setA
      cases w with | mk heap tape drawn os output =>
      simp only at h ⊢
      congr 1
      apply Array.ext_getElem?
      intro j
      by_cases e : g = j
      · subst e; rw [h]; simp [show g < heap.size from hlt]
      · rw [Array.getElem?_setIfInBounds_ne e]
    rw [e]
    simp [storeCells]
  | v :: r, i, w, cur, h, hl, h1 => by
    have hlt : g < w.heap.size := (Array.getElem?_eq_some_iff.1 h).1
    have hc : w.cell? ⟨g, off + i, none⟩ = some (cur[off + i]'(by simp at hl; omega)) := by
      rw [cell_of_heap h]
      simp at hl
      simp [show off + i < cur.size by omega]
    have hfr : w.frozen? ⟨g, off + i, none⟩ = false := by simp [World.frozen?, h]
    simp only [storeCells, addr_add, Sem.run_bind]
    rw [run_store P w _ v .plain (h1 v (by simp)), hc]
    simp only [hfr, Bool.false_eq_true, if_false, Result.andThen_ok]
    rw [setCell_put h]
    have hheap := putBlock_heap w g (.cells (cur.setIfInBounds (off + i) v) ty (0, 0)) g hlt
    rw [if_pos rfl] at hheap
    rw [storeCells_run g off ty r (i + 1) _ (cur.setIfInBounds (off + i) v) hheap (by simp at hl ⊢; omega) (fun u hu => h1 u (by simp [hu]))]
    rw [putBlock_put]
    rfl

theorem storeVar_run {P : Program} {w : World} {t : TypeId} {n g off : Nat} {ty : TypeId} {cur : Array Value} {v : Value} (hs : tSize P t = some n) (hn : v.cells.size = n) (h : w.heap[g]? = some (.cells cur ty (0, 0)))
    (hl : off + n ≤ cur.size) (h1 : ∀ u ∈ v.cells.toList, u.oneCell' = true) :
    (storeVar t ⟨g, off, none⟩ v).run P w = .ok () (World.putBlock w g (.cells (setA cur off v.cells.toList) ty (0, 0))) := by
  simp only [storeVar, Sem.run_bind, run_sizeOf hs, Result.andThen_ok]
  rw [if_neg (by omega)]
  have := storeCells_run (P := P) g off ty v.cells.toList 0 w cur h (by simp; omega) h1
  simpa using this
end
end Go.Proofs.YtaackmiajgapoaaGreatDoor.V

/- A program logic at the level of values: stores, shared boxes. -/
set_option linter.unusedVariables false
set_option linter.unusedSimpArgs false
namespace Go.Proofs.YtaackmiajgapoaaGreatDoor.V
open Go

section
variable {P : Program} {G : Nat → Option (List PV)} {w0 : World} {gh0 : Gh} {nx0 : Nat} {st : VS} {a : Act} {w : World} {gh : Gh}

theorem heap_cells {w : World} {g : Nat} {cur : Array Value} {ty : TypeId} {fr : Nat × Nat} (h : w.heap[g]? = some (.cells cur ty fr)) : g < w.heap.size := (Array.getElem?_eq_some_iff.1 h).1

theorem cell_put {w : World} {g : Nat} {o : Obj} (hg : g < w.heap.size) {x : Addr} (hx : x.block ≠ g) : (World.putBlock w g o).cell? x = w.cell? x := by
  unfold World.cell?
  rw [putBlock_heap w g o x.block hg, if_neg hx]

theorem list_getD_mem {vs : Array Value} {n : Nat} (hn : vs.size = n) (h : ∀ k, k < n → (vs.getD k undef).oneCell' = true) : ∀ u ∈ vs.toList, u.oneCell' = true := by
  intro u hu
  obtain ⟨i, hi, e⟩ := List.getElem_of_mem hu
  have hi' : i < vs.size := by simpa using hi
  have := h i (by omega)
  rw [← e]
  simpa [hi'] using this

/-- A STORE INTO A LOCAL BOX. -/
theorem store_loc (h : Sim P G w0 gh0 nx0 st a w gh) {t : TypeId} {d off : Nat} {cs : List PV} (hd : st.locs d = some cs) {p : PV} {v : Value} (hr : RepT gh st.locs st.chs st.sh.next p v)
    (ho : okStore p = true) (hw : wholeC st.chs p) (hs : tSize P t = some (cellsPV p).length) (hl : off + (cellsPV p).length ≤ cs.length) :
    ∃ w', (storeVar t ⟨gh.lam d, off, none⟩ v).run P w = .ok () w' ∧ Sim P G w0 gh0 nx0 { st with locs := upd st.locs d (some (setL cs off (cellsPV p))) } a w' gh := by
  obtain ⟨hown, cur, ty, hh, hlen, hc⟩ := h.locs d cs hd
  obtain ⟨hvs, hvc⟩ := store_cells hr ho hw
  have hlt := heap_cells hh
  refine ⟨_, storeVar_run hs hvs hh (by omega) (list_getD_mem hvs fun k hk => (hvc k hk).2), ?_⟩
  have ch : Change w gh st.locs st.chs (World.putBlock w (gh.lam d) (.cells (setA cur off v.cells.toList) ty (0, 0))) gh (upd st.locs d (some (setL cs off (cellsPV p)))) st.chs :=
    { mle := MemLe.refl _
      mem := fun g o u hm => by
        rw [cell_put hlt]
        · exact h.sh.mem g o u hm
        · intro e
          have := h.lown _ _ hown o
          simp only at e
          rw [e, this] at hm
          cases hm
      phi := rfl, os := rfl, tape := rfl, output := rfl, size := by simp [World.putBlock]
      free := fun g hg hn => ⟨by rw [putBlock_heap _ _ _ _ hlt, if_neg (by rintro rfl; rw [hown] at hn; cases hn)], hn, fun _ => rfl⟩
      box := fun g b hb => ⟨by rw [putBlock_heap _ _ _ _ hlt, if_neg (by rintro rfl; rw [hown] at hb; cases hb)], hb, fun _ => rfl⟩
      lt := fun g hg => by simpa [World.putBlock] using h.sh.lt g hg
      box' := fun g b hg => hg
      loc' := h.lown
      lmap := fun d' hd' => by
        refine ⟨?_, rfl⟩
        by_cases e : d' = d
        · subst e; simp [upd_same]
        · rw [upd_ne _ _ _ _ e]; exact hd'
      cmap := fun k c hc => ⟨c, hc, Nat.le_refl _, fun _ => ⟨rfl, rfl⟩⟩ }
  refine h.change ch ?_ ?_
  · intro d' cs' hd'
    by_cases e : d' = d
    · subst e
      rw [upd_same] at hd'
      cases hd'
      refine ⟨hown, setA cur off v.cells.toList, ty, by rw [putBlock_heap _ _ _ _ hlt, if_pos rfl], by rw [setA_size, setL_length]; exact hlen, ?_⟩
      exact set_rep (R := fun q u => RepT gh (upd st.locs d' (some (setL cs off (cellsPV p)))) st.chs st.sh.next q u ∧ u.oneCell' = true) hlen (by rw [Array.length_toList]; exact hvs)
        (fun k hk => ⟨ch.repT (hc k hk).1, (hc k hk).2⟩) (fun k hk => by
          have := hvc k hk
          have e2 : v.cells.toList.getD k undef = v.cells.getD k undef := by simp [List.getD_eq_getElem?_getD, Array.getD_eq_getD_getElem?]
          rw [e2]
          exact ⟨ch.repT this.1, this.2⟩)
    · rw [upd_ne _ _ _ _ e] at hd'
      have hok : LocOk P gh st.locs st.chs st.sh.next w d' cs' := h.locs d' cs' hd'
      refine hok.change ch (by rw [hd']; rfl) hok.1 ?_
      rw [putBlock_heap _ _ _ _ hlt, if_neg]
      intro e2
      have := hok.1
      rw [e2, hown] at this
      injection this with this
      exact e this.symm
  · intro k c hc
    refine (h.chs k c hc).change ch rfl fun g cap hg => ?_
    have ho := ((h.chs k c hc).cons g cap hg).1
    refine ⟨ho, ?_, fun _ => rfl⟩
    rw [putBlock_heap _ _ _ _ hlt, if_neg]
    rintro rfl
    rw [hown] at ho
    cases ho

/-! ### Shared boxes -/
/-- The frame with other shared memory. -/
theorem Sim.share (h : Sim P G w0 gh0 nx0 st a w gh) {w' : World} {gh' : Gh} {sh' : Sh} (hs : ShSim P G sh' gh' w') (mle : MemLe gh.m gh'.m) (hphi : ∀ b, b < st.sh.next → gh'.phi b = gh.phi b) (hn : st.sh.next ≤ sh'.next)
    (hlam : gh'.lam = gh.lam) (hgam : gh'.gam = gh.gam) (hstep : Step w gh st.sh.next w' gh' sh'.next)
    (hloc : ∀ g d, gh.own g = .loc d → gh'.own g = .loc d ∧ w'.heap[g]? = w.heap[g]?) (hloc' : ∀ g d, gh'.own g = .loc d → ∀ o, gh'.m g o = none)
    (hch : ∀ g k, gh.own g = .chain k → gh'.own g = .chain k ∧ w'.heap[g]? = w.heap[g]? ∧ ∀ o, gh'.m g o = gh.m g o) :
    Sim P G w0 gh0 nx0 { st with sh := sh' } a w' gh' := by
  have rt : ∀ {p : PV} {v : Value}, RepT gh st.locs st.chs st.sh.next p v → RepT gh' st.locs st.chs sh'.next p v := fun h =>
    RepT.mono mle hphi hn (fun d hd => ⟨hd, by rw [hlam]⟩) (fun k c hc => ⟨c, hc, Nat.le_refl _, fun _ => ⟨by rw [hgam], rfl⟩⟩) h
  refine ⟨hs, h.n, h.defers, fun i => rt (h.tmps i), ?_, hloc', ?_, h.step.trans hstep⟩
  · intro d cs hd
    obtain ⟨h1, cur, ty, h2, h3, h4⟩ := h.locs d cs hd
    obtain ⟨k1, k2⟩ := hloc _ _ h1
    exact ⟨by rw [hlam]; exact k1, cur, ty, by rw [hlam, k2]; exact h2, h3, fun k hk => ⟨rt (h4 k hk).1, (h4 k hk).2⟩⟩
  · intro k c hc
    have hcs := h.chs k c hc
    refine ⟨fun e => hcs.nil (by rw [← hgam]; exact e), fun g cap e => ?_⟩
    rw [hgam] at e
    obtain ⟨h1, h2, h3, h4, h5, h6, cur, h7, h8, h9, h10, h11⟩ := hcs.cons g cap e
    obtain ⟨k1, k2, k3⟩ := hch g k h1
    exact ⟨k1, h2, h3, h4, h5, h6, cur, by rw [k2]; exact h7, h8, fun i hi j hj => (h9 i hi j hj).mono mle, fun o v hv => h10 o v (by rw [← k3 o]; exact hv), fun hf o ho2 => by rw [k3 o]; exact h11 hf o ho2⟩

/-- A NEW SHARED BOX. -/
theorem Sim.new_box (h : Sim P G w0 gh0 nx0 st a w gh) {d : Nat} (hd : d < st.n) {cs : List PV} {arr : Array Value} (ty : TypeId) (hlen : arr.size = cs.length)
    (hcs : ∀ k (hk : k < cs.length), RepS gh.m gh.phi st.sh.next (cs[k]) (arr.getD k undef) ∧ (arr.getD k undef).oneCell' = true) :
    ∃ gh', Sim P G w0 gh0 nx0 ({ st with sh := { next := st.sh.next + 1, mem := upd st.sh.mem st.sh.next (some cs) } }.put (some d) (.box st.sh.next 0)) (a.put (some d) (.pointer (some ⟨w.heap.size, 0, none⟩))) (w.alloc (.cells arr ty)) gh' := by
  have hphi : ∀ b, b < st.sh.next → upd gh.phi st.sh.next w.heap.size b = gh.phi b := fun b hb => upd_ne _ _ _ _ (by omega)
  have hown : ∀ g, g ≠ w.heap.size → upd gh.own w.heap.size (.box st.sh.next) g = gh.own g := fun g hg => upd_ne _ _ _ _ hg
  have hm0 : ∀ o, gh.m w.heap.size o = none := fun o => by
    cases hm : gh.m w.heap.size o with
    | none => rfl
    | some v => have := h.sh.block_lt hm; omega
  refine ⟨{ gh with own := upd gh.own w.heap.size (.box st.sh.next), phi := upd gh.phi st.sh.next w.heap.size }, Sim.put (h.share (w' := w.alloc (.cells arr ty)) (sh' := { next := st.sh.next + 1, mem := upd st.sh.mem st.sh.next (some cs) }) (gh' := { gh with own := upd gh.own w.heap.size (.box st.sh.next), phi := upd gh.phi st.sh.next w.heap.size }) ⟨?_, ?_, ?_, ?_, ?_⟩ (MemLe.refl _) hphi (Nat.le_succ _) rfl rfl ⟨rfl, rfl, rfl, by simp, ?_, MemLe.refl _, hphi, Nat.le_succ _⟩ ?_ ?_ ?_) (d := some d) hd ?_⟩
  · exact fun g o v hm => cell_alloc (h.sh.mem g o v hm)
  · exact h.sh.glob
  · intro b cs' hb
    have hb' : upd st.sh.mem st.sh.next (some cs) b = some cs' := hb
    by_cases e : b = st.sh.next
    · subst e
      rw [upd_same] at hb'
      cases hb'
      refine ⟨Nat.lt_succ_self _, by simp [upd_same], arr, ty, by simp only [upd_same]; rw [heap_alloc, if_pos rfl], hlen, fun k hk => ?_⟩
      obtain ⟨r1, r2⟩ := hcs k hk
      exact ⟨r1.mono (MemLe.refl _) hphi (Nat.le_succ _), r2⟩
    · rw [upd_ne _ _ _ _ e] at hb'
      obtain ⟨h1, h2, cur, ty', h3, h4, h5⟩ := h.sh.box b cs' hb'
      have hlt := heap_cells h3
      refine ⟨Nat.lt_succ_of_lt h1, ?_, cur, ty', ?_, h4, fun k hk => ?_⟩
      · show upd gh.own _ _ (upd gh.phi _ _ b) = _
        rw [hphi b h1, hown _ (by omega)]; exact h2
      · show (w.alloc _).heap[upd gh.phi _ _ b]? = _
        rw [hphi b h1, heap_alloc, if_neg (by omega)]; exact h3
      · obtain ⟨r1, r2⟩ := h5 k hk
        exact ⟨r1.mono (MemLe.refl _) hphi (Nat.le_succ _), r2⟩
  · intro g b hg o
    have hg' : upd gh.own w.heap.size (.box st.sh.next) g = .box b := hg
    by_cases e : g = w.heap.size
    · subst e; exact hm0 o
    · rw [hown g e] at hg'; exact h.sh.nomem g b hg' o
  · intro g hg
    have hg' : upd gh.own w.heap.size (.box st.sh.next) g ≠ .none := hg
    rw [World.size_alloc]
    by_cases e : g = w.heap.size
    · omega
    · rw [hown g e] at hg'; have := h.sh.lt g hg'; omega
  · intro g hg ho
    refine ⟨by rw [heap_alloc, if_neg (by omega)], ?_, fun _ => rfl⟩
    show upd _ _ _ _ = _
    rw [hown g (by omega)]; exact ho
  · intro g d' hg
    have hlt := h.sh.lt g (by rw [hg]; simp)
    exact ⟨by show upd _ _ _ _ = _; rw [hown g (by omega)]; exact hg, by rw [heap_alloc, if_neg (by omega)]⟩
  · intro g d' hg o
    have hg' : upd gh.own w.heap.size (.box st.sh.next) g = .loc d' := hg
    by_cases e : g = w.heap.size
    · subst e; exact hm0 o
    · rw [hown g e] at hg'; exact h.lown g d' hg' o
  · intro g k hg
    have hlt := h.sh.lt g (by rw [hg]; simp)
    exact ⟨by show upd _ _ _ _ = _; rw [hown g (by omega)]; exact hg, by rw [heap_alloc, if_neg (by omega)], fun _ => rfl⟩
  · refine RepT.of_s ?_
    have := RepS.box (m := gh.m) (phi := upd gh.phi st.sh.next w.heap.size) (nx := st.sh.next + 1) st.sh.next 0 (Nat.lt_succ_self _)
    simpa [upd_same] using this

/-- A STORE INTO A SHARED BOX. -/
theorem store_box (h : Sim P G w0 gh0 nx0 st a w gh) {t : TypeId} {b off : Nat} {cs ps : List PV} (hb : st.sh.mem b = some cs) {v : Value} (hvs : v.cells.size = ps.length)
    (hvc : ∀ k (hk : k < ps.length), RepS gh.m gh.phi st.sh.next (ps[k]) (v.cells.getD k undef) ∧ (v.cells.getD k undef).oneCell' = true)
    (hs : tSize P t = some ps.length) (hl : off + ps.length ≤ cs.length) :
    ∃ w', (storeVar t ⟨gh.phi b, off, none⟩ v).run P w = .ok () w' ∧ Sim P G w0 gh0 nx0 { st with sh := { st.sh with mem := upd st.sh.mem b (some (setL cs off ps)) } } a w' gh := by
  obtain ⟨hbn, hown, cur, ty, hh, hlen, hc⟩ := h.sh.box b cs hb
  have hlt := heap_cells hh
  refine ⟨_, storeVar_run hs hvs hh (by omega) (list_getD_mem hvs fun k hk => (hvc k hk).2), ?_⟩
  have hother : ∀ g, gh.own g ≠ .box b → (World.putBlock w (gh.phi b) (.cells (setA cur off v.cells.toList) ty (0, 0))).heap[g]? = w.heap[g]? := fun g hg => by
    rw [putBlock_heap _ _ _ _ hlt, if_neg (by rintro rfl; exact hg hown)]
  refine h.share (w' := World.putBlock w (gh.phi b) (.cells (setA cur off v.cells.toList) ty (0, 0))) (sh' := { st.sh with mem := upd st.sh.mem b (some (setL cs off ps)) }) ⟨?_, h.sh.glob, ?_, h.sh.nomem, ?_⟩ (MemLe.refl _) (fun _ _ => rfl) (Nat.le_refl _) rfl rfl ⟨rfl, rfl, rfl, by simp [World.putBlock], ?_, MemLe.refl _, fun _ _ => rfl, Nat.le_refl _⟩ ?_ h.lown ?_
  · intro g o u hm
    rw [cell_put hlt]
    · exact h.sh.mem g o u hm
    · intro e
      simp only at e
      rw [e, h.sh.nomem _ b hown o] at hm
      cases hm
  · intro b' cs' hb'
    have hb2 : upd st.sh.mem b (some (setL cs off ps)) b' = some cs' := hb'
    by_cases e : b' = b
    · subst e
      rw [upd_same] at hb2
      cases hb2
      refine ⟨hbn, hown, setA cur off v.cells.toList, ty, by rw [putBlock_heap _ _ _ _ hlt, if_pos rfl], by rw [setA_size, setL_length]; exact hlen, ?_⟩
      exact set_rep (R := fun q u => RepS gh.m gh.phi st.sh.next q u ∧ u.oneCell' = true) hlen (by rw [Array.length_toList]; exact hvs) hc (fun k hk => by
          have e2 : v.cells.toList.getD k undef = v.cells.getD k undef := by simp [List.getD_eq_getElem?_getD, Array.getD_eq_getD_getElem?]
          rw [e2]
          exact hvc k hk)
    · rw [upd_ne _ _ _ _ e] at hb2
      obtain ⟨h1, h2, cur', ty', h3, h4, h5⟩ := h.sh.box b' cs' hb2
      refine ⟨h1, h2, cur', ty', ?_, h4, h5⟩
      rw [hother _ (by rw [h2]; intro e2; injection e2 with e2; exact e e2)]
      exact h3
  · intro g hg
    simpa [World.putBlock] using h.sh.lt g hg
  · intro g hg ho
    exact ⟨hother g (by rw [ho]; simp), ho, fun _ => rfl⟩
  · intro g d hg
    exact ⟨hg, hother g (by rw [hg]; simp)⟩
  · intro g k hg
    exact ⟨hg, hother g (by rw [hg]; simp), fun _ => rfl⟩
end
end Go.Proofs.YtaackmiajgapoaaGreatDoor.V

/- A program logic at the level of values: chains that grow, literals. -/
set_option linter.unusedVariables false
set_option linter.unusedSimpArgs false
namespace Go.Proofs.YtaackmiajgapoaaGreatDoor.V
open Go

section
variable {P : Program} {G : Nat → Option (List PV)} {w0 : World} {gh0 : Gh} {nx0 : Nat} {st : VS} {a : Act} {w : World} {gh : Gh}

def growMem (m : Mem) (g1 n : Nat) (arr : Array Value) (f : Bool) : Mem := fun g o => if f = true ∧ g = g1 ∧ o < n then arr[o]? else m g o

/-- Chain k (there, or new) is 'c'' from now on: it lies at block g1 of w1. -/
theorem Sim.set_chain (h : Sim P G w0 gh0 nx0 st a w gh) {k : Nat} {c' : Chain} {w1 : World} {g1 cap : Nat} {arr : Array Value}
    (hold : ∀ c, st.chs k = some c → c.es.length ≤ c'.es.length ∧ c'.sz = c.sz ∧ (c.frz = true → c'.frz = true) ∧ (c.es.length = c'.es.length → gh.gam k = some (g1, cap)))
    (hos : w1.os = w.os) (htape : w1.tape = w.tape) (hout : w1.output = w.output) (hsize : w.heap.size ≤ w1.heap.size)
    (hblk : w1.heap[g1]? = some (.cells arr c'.e (0, 0))) (hother : ∀ g, g ≠ g1 → g < w.heap.size → w1.heap[g]? = w.heap[g]?)
    (hg1 : g1 = w.heap.size ∨ ∃ c cap0, st.chs k = some c ∧ gh.gam k = some (g1, cap0))
    (hsz : arr.size = cap * c'.sz) (hcap : c'.es.length ≤ cap) (hm : cap ≤ maxLen) (h0 : 0 < c'.sz) (hinfo : (P.info? c'.e).map (·.size) = some c'.sz)
    (hlen : ∀ i (h : i < c'.es.length), (c'.es[i]).length = c'.sz)
    (hcell : ∀ i (h : i < c'.es.length) j (hj : j < (c'.es[i]).length), RepV gh.m ((c'.es[i])[j]) (arr.getD (i * c'.sz + j) undef))
    (hmem : ∀ o v, gh.m g1 o = some v → arr[o]? = some v) :
    ∃ gh', Sim P G w0 gh0 nx0 { st with chs := upd st.chs k (some c') } a w1 gh' ∧ gh'.gam k = some (g1, cap) := by
  have hown1 : g1 ≠ w.heap.size → gh.own g1 = .chain k := by
    intro hne
    rcases hg1 with e | ⟨c, cap0, hc, hg⟩
    · exact absurd e hne
    · exact ((h.chs k c hc).cons g1 cap0 hg).1
  have hm1 : ∀ o v, gh.m g1 o = some v → c'.frz = true ∧ o < c'.es.length * c'.sz := by
    intro o v hv
    have hlt := h.sh.block_lt hv
    rcases hg1 with e | ⟨c, cap0, hc, hg⟩
    · omega
    · obtain ⟨_, _, _, _, _, _, _, _, _, _, h10, _⟩ := (h.chs k c hc).cons g1 cap0 hg
      obtain ⟨q1, q2, q3, _⟩ := hold c hc
      obtain ⟨r1, r2⟩ := h10 o v hv
      exact ⟨q3 r1, Nat.lt_of_lt_of_le r2 (by rw [q2]; exact Nat.mul_le_mul_right _ q1)⟩
  have hnone : ∀ g, gh.own g ≠ .chain k → g ≠ w.heap.size → g ≠ g1 := by
    intro g h1 h2 e
    subst e
    exact h1 (hown1 h2)
  have hlt1 : g1 < w1.heap.size := heap_cells hblk
  have hmle : MemLe gh.m (growMem gh.m g1 (c'.es.length * c'.sz) arr c'.frz) := by
    intro g o v hv
    unfold growMem
    split
    · rename_i hc
      rw [hc.2.1] at hv
      exact hmem o v hv
    · exact hv
  have hmne : ∀ g, g ≠ g1 → ∀ o, growMem gh.m g1 (c'.es.length * c'.sz) arr c'.frz g o = gh.m g o := by
    intro g hg o
    unfold growMem
    rw [if_neg (fun hc => hg hc.2.1)]
  have ch : Change w gh st.locs st.chs w1 { gh with m := growMem gh.m g1 (c'.es.length * c'.sz) arr c'.frz, own := upd gh.own g1 (.chain k), gam := upd gh.gam k (some (g1, cap)) } st.locs (upd st.chs k (some c')) :=
    { mle := hmle
      mem := fun g o v hv => by
        have hv' : growMem gh.m g1 (c'.es.length * c'.sz) arr c'.frz g o = some v := hv
        by_cases e : g = g1
        · subst e
          rw [cell_of_heap hblk]
          unfold growMem at hv'
          split at hv'
          · exact hv'
          · exact hmem o v hv'
        · rw [hmne g e] at hv'
          have hc := h.sh.mem g o v hv'
          have hlt := h.sh.block_lt hv'
          have e2 := hother g e hlt
          unfold World.cell? at hc ⊢
          simp only [e2]
          exact hc
      phi := rfl, os := hos, tape := htape, output := hout, size := hsize
      free := fun g hg hn => by
        have hne : g ≠ g1 := hnone g (by rw [hn]; simp) (by omega)
        exact ⟨hother g hne hg, by show upd _ _ _ _ = _; rw [upd_ne _ _ _ _ hne]; exact hn, hmne g hne⟩
      box := fun g b hb => by
        have hlt := h.sh.lt g (by rw [hb]; simp)
        have hne : g ≠ g1 := hnone g (by rw [hb]; simp) (by omega)
        exact ⟨hother g hne hlt, by show upd _ _ _ _ = _; rw [upd_ne _ _ _ _ hne]; exact hb, hmne g hne⟩
      lt := fun g hg => by
        have hg' : upd gh.own g1 (.chain k) g ≠ .none := hg
        by_cases e : g = g1
        · rw [e]; exact hlt1
        · rw [upd_ne _ _ _ _ e] at hg'
          exact Nat.lt_of_lt_of_le (h.sh.lt g hg') hsize
      box' := fun g b hg => by
        have hg' : upd gh.own g1 (.chain k) g = .box b := hg
        by_cases e : g = g1
        · rw [e, upd_same] at hg'; cases hg'
        · rwa [upd_ne _ _ _ _ e] at hg'
      loc' := fun g d hg o => by
        have hg' : upd gh.own g1 (.chain k) g = .loc d := hg
        by_cases e : g = g1
        · rw [e, upd_same] at hg'; cases hg'
        · rw [upd_ne _ _ _ _ e] at hg'
          show growMem gh.m g1 (c'.es.length * c'.sz) arr c'.frz g o = none
          rw [hmne g e]
          exact h.lown g d hg' o
      lmap := fun d hd => ⟨hd, rfl⟩
      cmap := fun k' c hc => by
        by_cases e : k' = k
        · subst e
          obtain ⟨q1, q2, _, q4⟩ := hold c hc
          exact ⟨c', upd_same _ _ _, q1, fun e2 => ⟨by show upd _ _ _ _ = _; rw [upd_same]; exact (q4 e2.symm).symm, q2⟩⟩
        · exact ⟨c, by rw [upd_ne _ _ _ _ e]; exact hc, Nat.le_refl _, fun _ => ⟨by show upd _ _ _ _ = _; rw [upd_ne _ _ _ _ e], rfl⟩⟩ }
  refine ⟨_, h.change ch ?_ ?_, by simp [upd_same]⟩
  · intro d cs hd
    have hok : LocOk P gh st.locs st.chs st.sh.next w d cs := h.locs d cs hd
    have hlt := h.sh.lt (gh.lam d) (by rw [hok.1]; simp)
    have hne : gh.lam d ≠ g1 := hnone _ (by rw [hok.1]; simp) (by omega)
    refine hok.change ch (by rw [hd]; rfl) ?_ (hother _ hne hlt)
    show upd _ _ _ _ = _
    rw [upd_ne _ _ _ _ hne]; exact hok.1
  · intro k' c hc
    by_cases e : k' = k
    · subst e
      rw [upd_same] at hc
      cases hc
      refine ⟨fun e2 => by
        have e3 : upd gh.gam k' (some (g1, cap)) k' = none := e2
        rw [upd_same] at e3
        exact absurd e3 (by simp), fun g cap' e2 => ?_⟩
      have e3 : upd gh.gam k' (some (g1, cap)) k' = some (g, cap') := e2
      rw [upd_same] at e3
      simp only [Option.some.injEq, Prod.mk.injEq] at e3
      obtain ⟨rfl, rfl⟩ := e3
      refine ⟨by show upd _ _ _ _ = _; rw [upd_same], h0, hcap, hm, hinfo, hlen, arr, hblk, hsz, fun i hi j hj => (hcell i hi j hj).mono hmle, ?_, ?_⟩
      · intro o v hv
        have hv' : growMem gh.m g1 (c'.es.length * c'.sz) arr c'.frz g1 o = some v := hv
        unfold growMem at hv'
        split at hv'
        · rename_i hcc; exact ⟨hcc.1, hcc.2.2⟩
        · exact hm1 o v hv'
      · intro hf o ho
        show growMem gh.m g1 (c'.es.length * c'.sz) arr c'.frz g1 o = _
        unfold growMem
        rw [if_pos ⟨hf, rfl, ho⟩]
        have : o < arr.size := by
          rw [hsz]
          exact Nat.lt_of_lt_of_le ho (Nat.mul_le_mul_right _ hcap)
        simp [this]
    · rw [upd_ne _ _ _ _ e] at hc
      refine (h.chs k' c hc).change ch (by show upd _ _ _ _ = _; rw [upd_ne _ _ _ _ e]) fun g cap' hg => ?_
      have ho := ((h.chs k' c hc).cons g cap' hg).1
      have hlt := h.sh.lt g (by rw [ho]; simp)
      have hne : g ≠ g1 := hnone g (by rw [ho]; intro e2; injection e2 with e2; exact e e2) (by omega)
      exact ⟨by show upd _ _ _ _ = _; rw [upd_ne _ _ _ _ hne]; exact ho, hother g hne hlt, hmne g hne⟩

/-- A nil chain. -/
theorem Sim.nil_chain (h : Sim P G w0 gh0 nx0 st a w gh) {k : Nat} (hk : st.chs k = none) (e : TypeId) (sz : Nat) (f : Bool) :
    ∃ gh', Sim P G w0 gh0 nx0 { st with chs := upd st.chs k (some ⟨[], e, sz, f⟩) } a w gh' ∧ gh'.gam k = none ∧ Same { gh with gam := gh'.gam } gh' ∧ ∀ j, j ≠ k → gh'.gam j = gh.gam j := by
  have ch : Change w gh st.locs st.chs w { gh with gam := upd gh.gam k none } st.locs (upd st.chs k (some ⟨[], e, sz, f⟩)) :=
    { mle := MemLe.refl _, mem := h.sh.mem, phi := rfl, os := rfl, tape := rfl, output := rfl, size := Nat.le_refl _
      free := fun g _ hn => ⟨rfl, hn, fun _ => rfl⟩, box := fun g b hb => ⟨rfl, hb, fun _ => rfl⟩, lt := h.sh.lt, box' := fun _ _ hb => hb, loc' := h.lown, lmap := fun d hd => ⟨hd, rfl⟩
      cmap := fun k' c hc => by
        have hne : k' ≠ k := by rintro rfl; rw [hk] at hc; cases hc
        exact ⟨c, by rw [upd_ne _ _ _ _ hne]; exact hc, Nat.le_refl _, fun _ => ⟨by show upd _ _ _ _ = _; rw [upd_ne _ _ _ _ hne], rfl⟩⟩ }
  refine ⟨_, h.change ch ?_ ?_, by simp [upd_same], ⟨MemLe.refl _, rfl, rfl, rfl, rfl⟩, fun j hj => by simp [upd_ne _ _ _ _ hj]⟩
  · intro d cs hd
    have hok : LocOk P gh st.locs st.chs st.sh.next w d cs := h.locs d cs hd
    exact hok.change ch (by rw [hd]; rfl) hok.1 rfl
  · intro k' c hc
    by_cases e2 : k' = k
    · subst e2
      rw [upd_same] at hc
      cases hc
      refine ⟨fun _ => rfl, fun g cap e3 => ?_⟩
      have e4 : upd gh.gam k' none k' = some (g, cap) := e3
      rw [upd_same] at e4; cases e4
    · rw [upd_ne _ _ _ _ e2] at hc
      exact (h.chs k' c hc).change ch (by show upd _ _ _ _ = _; rw [upd_ne _ _ _ _ e2]) fun g cap hg => ⟨((h.chs k' c hc).cons g cap hg).1, rfl, fun _ => rfl⟩

theorem upd_self {α : Type} (f : Nat → α) (k : Nat) : upd f k (f k) = f := by
  funext i
  unfold upd
  split
  · rename_i e; rw [e]
  · rfl

/-- The cells of rows, one behind the other. -/
def flat (n sz : Nat) (u : Nat → Nat → Value) : List Value := (List.range (n * sz)).map fun j => u (j / sz) (j % sz)
theorem flat_length (n sz : Nat) (u : Nat → Nat → Value) : (flat n sz u).length = n * sz := by simp [flat]
theorem flat_get {n sz : Nat} {u : Nat → Nat → Value} {i j : Nat} (hi : i < n) (hj : j < sz) : (flat n sz u)[i * sz + j]? = some (u i j) := by
  have hlt : i * sz + j < n * sz := by
    have : (i + 1) * sz ≤ n * sz := Nat.mul_le_mul_right _ (by omega)
    rw [Nat.add_mul, Nat.one_mul] at this
    omega
  have h1 : (i * sz + j) / sz = i := by rw [Nat.mul_comm, Nat.mul_add_div (by omega), Nat.div_eq_of_lt hj]; omega
  have h2 : (i * sz + j) % sz = j := by rw [Nat.mul_comm, Nat.mul_add_mod]; exact Nat.mod_eq_of_lt hj
  simp [flat, hlt, h1, h2]
theorem flat_mem {n sz : Nat} {u : Nat → Nat → Value} (h0 : 0 < sz) {x : Value} (hx : x ∈ flat n sz u) : ∃ i j, i < n ∧ j < sz ∧ x = u i j := by
  simp only [flat, List.mem_map, List.mem_range] at hx
  obtain ⟨k, hk, rfl⟩ := hx
  exact ⟨k / sz, k % sz, Nat.div_lt_of_lt_mul (by rw [Nat.mul_comm]; exact hk), Nat.mod_lt _ h0, rfl⟩

/-- APPEND, to a chain that is whole. -/
theorem append_sound (h : Sim P G w0 gh0 nx0 st a w gh) {k : Nat} {c : Chain} (hk : st.chs k = some c) {t ty : TypeId} (ht : P.underlying t = some (.slice c.e)) {i : TypeInfo} (hi : P.info? c.e = some i) {z : Value} (hz : i.zero = some z)
    (hsz : i.size = c.sz) (h0 : 0 < c.sz) (hzs : z.cells.size = c.sz) {es2 : List (List PV)} {vx : Value} (hx : RepV gh.m (.slice es2) vx) (hlen : ∀ e ∈ es2, e.length = c.sz)
    (hb : (c.es.length + es2.length) * i.bytes ≤ 140737488355328) (h63 : c.es.length + es2.length ≤ maxLen) :
    ∃ v' w' gh', (Builtin.append_ #[t, t] ty #[chVal (gh.gam k) c.es.length, vx]).run P w = .ok v' w' ∧
      Sim P G w0 gh0 nx0 { st with chs := upd st.chs k (some { c with es := c.es ++ es2 }) } a w' gh' ∧ v' = chVal (gh'.gam k) (c.es ++ es2).length := by
  have hch := h.chs k c hk
  obtain ⟨A, capx, rfl, hcx, hmx, hcells⟩ := hx.slice_inv
  by_cases hne : es2 = []
  · subst hne
    refine ⟨chVal (gh.gam k) c.es.length, w, gh, ?_, ?_, by simp⟩
    · cases hg : gh.gam k with
      | none =>
        have := hch.nil hg
        simp [chVal, this, Builtin.append_, run_underlying ht, sizeOf, typeInfo, hi, Builtin.lenOf, Builtin.firstCells]
        cases A <;> simp [loadCells, loadCellsFrom]
      | some gc =>
        obtain ⟨g, cap⟩ := gc
        have hcap := (hch.cons g cap hg).2.2.1
        simp [chVal, Builtin.append_, run_underlying ht, sizeOf, typeInfo, hi, Builtin.lenOf, Builtin.firstCells, hcap]
        cases A <;> simp [loadCells, loadCellsFrom, storeCells]
    · have e : upd st.chs k (some { c with es := c.es ++ [] }) = st.chs := by
        have : ({ c with es := c.es ++ [] } : Chain) = c := by cases c; simp
        rw [this, ← hk, upd_self]
      rw [e]
      exact h
  · have hpos : 0 < es2.length := List.length_pos_iff.2 hne
    obtain ⟨gx, ox, szx, u, rfl, hszx, hux, hrx⟩ := hcells hpos
    have hszx' : szx = c.sz := by rw [← hszx 0 hpos]; exact hlen _ (List.getElem_mem hpos)
    subst hszx'
    have hl : (flat es2.length c.sz u).length = es2.length * i.size := by rw [flat_length, hsz]
    have hnews : ∀ j v, (flat es2.length c.sz u)[j]? = some v → w.cell? ((⟨gx, ox, none⟩ : Addr).add j) = some v := by
      intro j v hv
      have hj : j < es2.length * c.sz := by
        have := (List.getElem?_eq_some_iff.1 hv).1
        rwa [flat_length] at this
      have h1 : j / c.sz < es2.length := Nat.div_lt_of_lt_mul (by rw [Nat.mul_comm]; exact hj)
      have h2 : j % c.sz < c.sz := Nat.mod_lt _ h0
      have h3 : j / c.sz * c.sz + j % c.sz = j := by rw [Nat.mul_comm]; exact Nat.div_add_mod j c.sz
      have h4 := flat_get (u := u) h1 h2
      rw [h3, hv] at h4
      rw [addr_add, Option.some.inj h4]
      have := h.sh.mem _ _ _ (hux _ _ h1 h2)
      rwa [h3] at this
    have hone : ∀ x ∈ flat es2.length c.sz u, x.oneCell' = true := by
      intro x hx
      obtain ⟨p, q, hp, hq, rfl⟩ := flat_mem h0 hx
      exact (hrx p hp q (by rw [hszx p hp]; exact hq)).one
    have h63' : c.es.length + es2.length ≤ 9223372036854775807 := by simp only [maxLen] at h63; omega
    have hcell : ∀ (arr : Array Value) (olds : Nat → Value), (∀ i (hi : i < c.es.length) j (hj : j < (c.es[i]).length), RepV gh.m ((c.es[i])[j]) (olds (i * c.sz + j))) →
        (∀ i (hi : i < c.es.length), (c.es[i]).length = c.sz) → (∀ o, o < c.es.length * c.sz → arr.getD o undef = olds o) → (∀ o, o < es2.length * c.sz → arr.getD (c.es.length * c.sz + o) undef = (flat es2.length c.sz u).getD o undef) →
        ∀ i (hi : i < (c.es ++ es2).length) j (hj : j < ((c.es ++ es2)[i]).length), RepV gh.m (((c.es ++ es2)[i])[j]) (arr.getD (i * c.sz + j) undef) := by
      intro arr olds hco hlo ha1 ha2 i hi j hj
      by_cases hlt : i < c.es.length
      · have e : (c.es ++ es2)[i] = c.es[i] := List.getElem_append_left hlt
        have hj' : j < (c.es[i]).length := by rw [← e]; exact hj
        have hbd : i * c.sz + j < c.es.length * c.sz := by
          have : (i + 1) * c.sz ≤ c.es.length * c.sz := Nat.mul_le_mul_right _ (by omega)
          rw [Nat.add_mul, Nat.one_mul] at this
          have := hlo i hlt
          omega
        rw [ha1 _ hbd]
        simpa [e] using hco i hlt j hj'
      · have hi2 : i - c.es.length < es2.length := by simp at hi; omega
        have e : (c.es ++ es2)[i] = es2[i - c.es.length] := List.getElem_append_right (by omega)
        have hj' : j < (es2[i - c.es.length]).length := by rw [← e]; exact hj
        have hj2 : j < c.sz := by rw [hszx _ hi2] at hj'; exact hj'
        have e3 : i * c.sz + j = c.es.length * c.sz + ((i - c.es.length) * c.sz + j) := by
          rw [← Nat.add_assoc, ← Nat.add_mul]
          congr 2
          omega
        have hbd : (i - c.es.length) * c.sz + j < es2.length * c.sz := by
          have : (i - c.es.length + 1) * c.sz ≤ es2.length * c.sz := Nat.mul_le_mul_right _ (by omega)
          rw [Nat.add_mul, Nat.one_mul] at this
          omega
        rw [e3, ha2 _ hbd, List.getD_eq_getElem?_getD, flat_get hi2 hj2]
        simpa [e] using hrx _ hi2 j hj'
    have hlen' : (∀ i (hi : i < c.es.length), (c.es[i]).length = c.sz) → ∀ i (hi : i < (c.es ++ es2).length), ((c.es ++ es2)[i]).length = c.sz := by
      intro hlo i hi
      by_cases hlt : i < c.es.length
      · rw [List.getElem_append_left hlt]; exact hlo i hlt
      · have hi2 : i - c.es.length < es2.length := by simp at hi; omega
        rw [List.getElem_append_right (by omega)]; exact hszx _ hi2
    have hinfo : (P.info? c.e).map (·.size) = some c.sz := by simp [hi, hsz]
    have hmnew : ∀ o v, gh.m w.heap.size o = some v → False := fun o v hv => by have := h.sh.block_lt hv; omega
    cases hg : gh.gam k with
    | none =>
      have hes := hch.nil hg
      have hr := run_append_nil (P := P) w t ty c.e i z ht hi hz ⟨gx, ox, none⟩ es2.length capx (flat es2.length c.sz u) hl hnews hpos (by rw [hes] at h63'; simp at h63'; omega)
        (by rw [hes] at hb; simp only [List.length_nil, Nat.zero_add] at hb; omega)
      have hge := grownCap_ge w es2.length 0 c.e
      have hcm := grownCap_le_maxLen w es2.length 0 c.e (by rw [hes] at h63; simp at h63; exact h63)
      obtain ⟨gh', hs, hgam⟩ := h.set_chain (k := k) (c' := { c with es := c.es ++ es2 }) (w1 := w.drew.alloc (.cells ((flat es2.length c.sz u).toArray ++ Builtin.zeroCells z.cells (grownCap w es2.length 0 c.e - es2.length)) c.e))
        (g1 := w.heap.size) (cap := grownCap w es2.length 0 c.e) (arr := (flat es2.length c.sz u).toArray ++ Builtin.zeroCells z.cells (grownCap w es2.length 0 c.e - es2.length))
        (fun c2 hc2 => by rw [hk] at hc2; cases hc2; exact ⟨by simp, rfl, fun hf => hf, fun e => by simp at e; exact absurd e hne⟩)
        rfl rfl rfl (by simp) (heap_alloc_new w.drew _) (fun g hg2 hlt => heap_alloc_old w.drew _ hlt) (.inl rfl)
        (by simp only [Array.size_append, List.size_toArray, flat_length, size_zeroCells, hzs, ← Nat.add_mul]; congr 1; omega)
        (by rw [hes]; simpa using hge) hcm h0 hinfo (hlen' (by rw [hes]; intro i hi; simp at hi))
        (hcell _ (fun _ => undef) (by intro i hi; rw [hes] at hi; simp at hi) (by intro i hi; rw [hes] at hi; simp at hi) (by intro o ho; rw [hes] at ho; simp at ho) (by
          intro o ho
          have hlt : o < (flat es2.length c.sz u).length := by rw [flat_length]; exact ho
          rw [hes]
          simp [Array.getD_eq_getD_getElem?, Array.getElem?_append, hlt, List.getD_eq_getElem?_getD]))
        (fun o v hv => (hmnew o v hv).elim)
      refine ⟨_, _, gh', hr, hs, ?_⟩
      rw [hgam, hes]; simp [chVal]
    | some gc =>
      obtain ⟨g, cap⟩ := gc
      obtain ⟨h1, h2, h3, h4, h5, h6, cur, h7, h8, h9, h10, h11⟩ := hch.cons g cap hg
      by_cases hroom : c.es.length + es2.length ≤ cap
      · have hfit : c.es.length * i.size + (flat es2.length c.sz u).length ≤ cur.size := by
          rw [hl, h8, hsz, ← Nat.add_mul]; exact Nat.mul_le_mul_right _ hroom
        have hr := run_append_room (P := P) w t ty c.e i ht hi g c.es.length cap cur h7 ⟨gx, ox, none⟩ es2.length capx (flat es2.length c.sz u) hl hnews hone hroom hfit
        rw [hsz] at hr
        have hfit2 : c.es.length * c.sz + es2.length * c.sz ≤ cur.size := by rw [hsz, flat_length] at hfit; exact hfit
        have harr : ∀ o, ((cur.toList.take (c.es.length * c.sz) ++ flat es2.length c.sz u ++ cur.toList.drop (c.es.length * c.sz + (flat es2.length c.sz u).length)).toArray)[o]? =
            if o < c.es.length * c.sz then cur[o]? else if o < c.es.length * c.sz + es2.length * c.sz then (flat es2.length c.sz u)[o - c.es.length * c.sz]? else cur[o]? := by
          intro o
          have hl1 : (cur.toList.take (c.es.length * c.sz)).length = c.es.length * c.sz := by simp; omega
          have hl2 := flat_length es2.length c.sz u
          rw [List.getElem?_toArray, List.append_assoc, List.getElem?_append, hl1]
          by_cases ho : o < c.es.length * c.sz
          · rw [if_pos ho, if_pos ho, List.getElem?_take, if_pos ho]; simp
          · rw [if_neg ho, if_neg ho, List.getElem?_append, hl2]
            by_cases ho2 : o < c.es.length * c.sz + es2.length * c.sz
            · rw [if_pos (by omega), if_pos ho2]
            · rw [if_neg (by omega), if_neg ho2, List.getElem?_drop]
              simp only [Array.getElem?_toList]
              congr 1
              omega
        obtain ⟨gh', hs, hgam⟩ := h.set_chain (k := k) (c' := { c with es := c.es ++ es2 }) (w1 := w.setRow g (cur.toList.take (c.es.length * c.sz) ++ flat es2.length c.sz u ++ cur.toList.drop (c.es.length * c.sz + (flat es2.length c.sz u).length)).toArray)
          (g1 := g) (cap := cap) (arr := (cur.toList.take (c.es.length * c.sz) ++ flat es2.length c.sz u ++ cur.toList.drop (c.es.length * c.sz + (flat es2.length c.sz u).length)).toArray)
          (fun c2 hc2 => by rw [hk] at hc2; cases hc2; exact ⟨by simp, rfl, fun hf => hf, fun e => by simp at e; exact absurd e hne⟩)
          rfl rfl rfl (by simp [World.setRow]) (setRow_heap w g cur _ c.e _ h7) (fun g2 hg2 _ => setRow_other w g g2 _ hg2) (.inr ⟨c, cap, hk, hg⟩)
          (by
            have hl1 : (cur.toList.take (c.es.length * c.sz)).length = c.es.length * c.sz := by simp; omega
            simp only [List.size_toArray, List.length_append, List.length_drop, hl1, flat_length, Array.length_toList]
            rw [← h8]
            omega)
          (by simp; exact hroom) h4 h0 hinfo (hlen' h6)
          (hcell _ (fun o => cur.getD o undef) h9 h6 (fun o ho => by rw [Array.getD_eq_getD_getElem?, harr, if_pos ho, Array.getD_eq_getD_getElem?])
            (fun o ho => by rw [Array.getD_eq_getD_getElem?, harr, if_neg (by omega), if_pos (by omega), List.getD_eq_getElem?_getD]; congr 2; omega))
          (fun o v hv => by
            obtain ⟨r1, r2⟩ := h10 o v hv
            rw [harr, if_pos r2]
            have := h11 r1 o r2
            rw [hv] at this
            have hlt : o < cur.size := by omega
            rw [Option.some.inj this]
            simp [hlt])
        refine ⟨_, _, gh', hr, hs, ?_⟩
        rw [hgam]; simp [chVal]
      · have holds : ∀ j v, (cur.toList.take (c.es.length * c.sz))[j]? = some v → w.cell? ((⟨g, 0, none⟩ : Addr).add j) = some v := by
          intro j v hv
          rw [addr_add, Nat.zero_add, cell_of_heap h7]
          rw [List.getElem?_take] at hv
          split at hv
          · simpa using hv
          · cases hv
        have hlo : (cur.toList.take (c.es.length * c.sz)).length = c.es.length * c.sz := by
          have : c.es.length * c.sz ≤ cur.size := by rw [h8]; exact Nat.mul_le_mul_right _ h3
          simp; omega
        have hr := run_append_grow (P := P) w t ty c.e i z ht hi hz ⟨g, 0, none⟩ c.es.length cap (cur.toList.take (c.es.length * c.sz)) (by rw [hlo, hsz]) holds ⟨gx, ox, none⟩ es2.length capx (flat es2.length c.sz u) hl hnews
          (by omega) (by omega) (growslice_fits (by omega) hb)
        have hge := grownCap_ge w (c.es.length + es2.length) cap c.e
        have hcm := grownCap_le_maxLen w (c.es.length + es2.length) cap c.e h63
        obtain ⟨gh', hs, hgam⟩ := h.set_chain (k := k) (c' := { c with es := c.es ++ es2 })
          (w1 := w.drew.alloc (.cells ((cur.toList.take (c.es.length * c.sz)).toArray ++ (flat es2.length c.sz u).toArray ++ Builtin.zeroCells z.cells (grownCap w (c.es.length + es2.length) cap c.e - (c.es.length + es2.length))) c.e))
          (g1 := w.heap.size) (cap := grownCap w (c.es.length + es2.length) cap c.e)
          (arr := (cur.toList.take (c.es.length * c.sz)).toArray ++ (flat es2.length c.sz u).toArray ++ Builtin.zeroCells z.cells (grownCap w (c.es.length + es2.length) cap c.e - (c.es.length + es2.length)))
          (fun c2 hc2 => by rw [hk] at hc2; cases hc2; exact ⟨by simp, rfl, fun hf => hf, fun e => by simp at e; exact absurd e hne⟩)
          rfl rfl rfl (by simp) (heap_alloc_new w.drew _) (fun g2 hg2 hlt => heap_alloc_old w.drew _ hlt) (.inl rfl)
          (by simp only [Array.size_append, List.size_toArray, hlo, flat_length, size_zeroCells, hzs, ← Nat.add_mul]; congr 1; omega)
          (by simpa using hge) hcm h0 hinfo (hlen' h6)
          (hcell _ (fun o => cur.getD o undef) h9 h6
            (fun o ho => by
              have hlt : o < (cur.toList.take (c.es.length * c.sz)).length := by rw [hlo]; exact ho
              have hlt2 : o < cur.size := by
                have : c.es.length * c.sz ≤ cur.size := by rw [h8]; exact Nat.mul_le_mul_right _ h3
                omega
              rw [Array.append_assoc, Array.getD_eq_getD_getElem?, Array.getElem?_append, if_pos (by simpa using hlt), List.getElem?_toArray, List.getElem?_take, if_pos ho]
              simp [hlt2])
            (fun o ho => by
              have hlt : o < (flat es2.length c.sz u).length := by rw [flat_length]; exact ho
              rw [Array.append_assoc, Array.getD_eq_getD_getElem?, Array.getElem?_append, if_neg (by rw [List.size_toArray, hlo]; omega), List.size_toArray, hlo, Nat.add_sub_cancel_left, Array.getElem?_append, if_pos (by simpa using hlt), List.getElem?_toArray,
                List.getD_eq_getElem?_getD]))
          (fun o v hv => (hmnew o v hv).elim)
        refine ⟨_, _, gh', hr, hs, ?_⟩
        rw [hgam]; simp [chVal]
end
end Go.Proofs.YtaackmiajgapoaaGreatDoor.V

/- A program logic at the level of values: literals, new variables, stores, as operations. -/
set_option linter.unusedVariables false
set_option linter.unusedSimpArgs false
namespace Go.Proofs.YtaackmiajgapoaaGreatDoor.V
open Go

section
variable {P : Program} {G : Nat → Option (List PV)} {w0 : World} {gh0 : Gh} {nx0 : Nat} {st : VS} {a : Act} {w : World} {gh : Gh}

/-- What is asked of an operation that changes the state. -/
def SoundO (P : Program) (G : Nat → Option (List PV)) (w0 : World) (gh0 : Gh) (nx0 : Nat) (a : Act) (w : World) (o : Oper) (st' : VS) : Prop :=
  ∃ v w' gh', ((execOp a.eval o).run P w = .ok (.value v) w' ∨ ((execOp a.eval o).run P w = .ok .skip w' ∧ v = undef)) ∧ Sim P G w0 gh0 nx0 st' (a.put o.dst v) w' gh'

/-! ### zero values -/
def okB : Value → Bool
  | .agg _ | .tuple _ => false
  | .string s => s.size == 0
  | _ => true
theorem okB_val {v : Value} (h : okB v = true) : okVal v := by
  cases v <;> simp_all [okB, okVal]

def zeroPV (P : Program) (t : TypeId) : Option (List PV) :=
  match (P.info? t).bind (·.zero) with
  | some z => if z.cells.toList.all okB then some (z.cells.toList.map ofConst) else none
  | none => none

theorem zeroPV_sound {t : TypeId} {cs : List PV} (h : zeroPV P t = some cs) (m : Mem) (phi : Nat → Nat) (nx : Nat) :
    ∃ z, (∀ w, (zeroValue t).run P w = .ok z w) ∧ z.cells.size = cs.length ∧ ∀ k (hk : k < cs.length), RepS m phi nx (cs[k]) (z.cells.getD k undef) ∧ (z.cells.getD k undef).oneCell' = true := by
  unfold zeroPV at h
  split at h
  · rename_i z hz
    obtain ⟨i, hi, hz2⟩ := Option.bind_eq_some_iff.1 hz
    split at h
    · rename_i hall
      simp only [Option.some.injEq] at h
      subst h
      refine ⟨z, fun w => by simp [zeroValue, typeInfo, hi, hz2], by simp, fun k hk => ?_⟩
      have hk' : k < z.cells.size := by simpa using hk
      have hb : okB (z.cells[k]) = true := List.all_eq_true.1 hall _ (by simp)
      have e : z.cells.getD k undef = z.cells[k] := by simp [hk']
      rw [e]
      refine ⟨?_, okVal_one (okB_val hb)⟩
      simp only [List.getElem_map, Array.getElem_toList]
      exact .pure (RepV.ofConst (okB_val hb))
    · cases h
  · cases h

/-! ### alloc, box -/
/-- A new variable that holds these cells. -/
def newVar (st : VS) (d : Nat) (cs : List PV) : VS :=
  if st.shr.contains d then { st with sh := { next := st.sh.next + 1, mem := upd st.sh.mem st.sh.next (some cs) } }.put (some d) (.box st.sh.next 0)
  else { st with locs := upd st.locs d (some cs) }.put (some d) (.loc d 0)

def vAlloc (P : Program) (st : VS) (d : Option Tmp) (e : TypeId) : Prop × VS :=
  match d, zeroPV P e with
  | some d, some cs => (d < st.n ∧ (st.shr.contains d = false → st.locs d = none), newVar st d cs)
  | _, _ => (False, st)

theorem alloc_sound (h : Sim P G w0 gh0 nx0 st a w gh) {o : Oper} {e : TypeId} (ho : o.op = .alloc e) (hp : (vAlloc P st o.dst e).1) : SoundO P G w0 gh0 nx0 a w o (vAlloc P st o.dst e).2 := by
  unfold vAlloc at *
  split at hp
  · rename_i d cs hd hz
    obtain ⟨hdn, hfree⟩ := hp
    obtain ⟨z, hrun, hlen, hcs⟩ := zeroPV_sound hz gh.m gh.phi st.sh.next
    have hr : (execOp a.eval o).run P w = .ok (.value (.pointer (some ⟨w.heap.size, 0, none⟩))) (w.alloc (.cells z.cells e)) := by
      simp [execOp, ho, Instr.alloc, hrun, Go.newVar, newRow]
    unfold newVar
    cases hs : st.shr.contains d with
    | true =>
      rw [if_pos rfl]
      obtain ⟨gh', hs'⟩ := h.new_box hdn (cs := cs) (arr := z.cells) e hlen hcs
      exact ⟨_, _, gh', .inl hr, by rw [hd]; exact hs'⟩
    | false =>
      rw [if_neg (by simp)]
      obtain ⟨gh', hs'⟩ := h.new_loc hdn (hfree hs) (cs := cs) (arr := z.cells) e hlen (fun k hk => ⟨RepT.of_s (hcs k hk).1, (hcs k hk).2⟩)
      exact ⟨_, _, gh', .inl hr, by rw [hd]; exact hs'⟩
  · exact hp.elim

/-- A value that is read at once (no guard). -/
def ready : PV → Bool
  | .top | .gd _ _ => false
  | _ => true

/-- The cells of what is handed on are plain. -/
theorem cv_cells {chs : Nat → Option Chain} {locs : Nat → Option (List PV)} {p : PV} {v : Value} {nx : Nat} (hrep : RepS gh.m gh.phi nx (cv chs p).v v) (hst : okStore (cv chs p).v = true) :
    v.cells.size = (cellsPV (cv chs p).v).length ∧ ∀ k (hk : k < (cellsPV (cv chs p).v).length), RepS gh.m gh.phi nx ((cellsPV (cv chs p).v)[k]) (v.cells.getD k undef) ∧ (v.cells.getD k undef).oneCell' = true := by
  generalize (cv chs p).v = q at *
  have hw : wholeC chs q := by
    cases q with
    | tsl k len => exact hrep.not_tsl.elim
    | _ => trivial
  obtain ⟨hvs, hvc⟩ := store_cells (gh := gh) (locs := locs) (chs := chs) (nx := nx) (RepT.of_s hrep) hst hw
  refine ⟨hvs, fun k hk => ⟨?_, (hvc k hk).2⟩⟩
  cases q with
  | agg cs =>
    obtain ⟨vs, e1, hl, h1c, hc⟩ := RepT.agg_inv (RepT.of_s (locs := locs) (chs := chs) hrep)
    rw [e1]
    exact hc k hk
  | top => simp [okStore, okCell] at hst
  | tup cs => simp [okStore, okCell] at hst
  | gd b q => simp [okStore, okCell] at hst
  | loc d off => simp [okStore, okCell] at hst
  | trow k n i off => simp [okStore, okCell] at hst
  | tsl k len => exact hrep.not_tsl.elim
  | val u => exact (hvc k hk).1.plain (by simp only [cellsPV, List.length_singleton, Nat.lt_one_iff] at hk; subst hk; rfl)
  | nils => exact (hvc k hk).1.plain (by simp only [cellsPV, List.length_singleton, Nat.lt_one_iff] at hk; subst hk; rfl)
  | slice es => exact (hvc k hk).1.plain (by simp only [cellsPV, List.length_singleton, Nat.lt_one_iff] at hk; subst hk; rfl)
  | box b off => exact (hvc k hk).1.plain (by simp only [cellsPV, List.length_singleton, Nat.lt_one_iff] at hk; subst hk; rfl)
  | row e off => exact (hvc k hk).1.plain (by simp only [cellsPV, List.length_singleton, Nat.lt_one_iff] at hk; subst hk; rfl)
  | func f cs => exact (hvc k hk).1.plain (by simp only [cellsPV, List.length_singleton, Nat.lt_one_iff] at hk; subst hk; rfl)

def vBox (P : Program) (G : Nat → Option (List PV)) (st : VS) (d : Option Tmp) (e : TypeId) (x : Operand) : Prop × VS :=
  match d with
  | some d => if st.shr.contains d then
      (d < st.n ∧ okOp x ∧ (cv st.chs (st.ev G x)).pre ∧ okStore (cv st.chs (st.ev G x)).v = true, newVar { st with chs := (cv st.chs (st.ev G x)).chs } d (cellsPV (cv st.chs (st.ev G x)).v))
    else (d < st.n ∧ st.locs d = none ∧ okOp x ∧ okStore (st.ev G x) = true ∧ wholeC st.chs (st.ev G x), newVar st d (cellsPV (st.ev G x)))
  | none => (False, st)

theorem box_sound (h : Sim P G w0 gh0 nx0 st a w gh) {o : Oper} {e : TypeId} {x : Operand} (ho : o.op = .box e x) (hp : (vBox P G st o.dst e x).1) : SoundO P G w0 gh0 nx0 a w o (vBox P G st o.dst e x).2 := by
  unfold vBox at *
  have hr : (execOp a.eval o).run P w = .ok (.value (.pointer (some ⟨w.heap.size, 0, none⟩))) (w.alloc (.cells (a.eval x).cells e)) := by
    simp [execOp, ho, Instr.box, Go.newVar, newRow]
  split at hp
  · rename_i d hd
    split at hp
    · rename_i hs
      obtain ⟨hdn, hok, hpre, hst⟩ := hp
      rw [if_pos hs]
      obtain ⟨gh1, h1, hsame, hfrz, hrep⟩ := cv_sound h (ev_sound h x hok) hpre
      obtain ⟨hvs, hplain⟩ := cv_cells (locs := st.locs) hrep hst
      obtain ⟨gh', hs'⟩ := Sim.new_box h1 (d := d) hdn (cs := cellsPV (cv st.chs (st.ev G x)).v) (arr := (a.eval x).cells) e hvs hplain
      refine ⟨_, _, gh', .inl hr, ?_⟩
      rw [hd]
      unfold newVar
      rw [if_pos hs]
      exact hs'
    · rename_i hs
      obtain ⟨hdn, hfree, hok, hst, hw⟩ := hp
      rw [if_neg hs]
      obtain ⟨hvs, hvc⟩ := store_cells (ev_sound h x hok) hst hw
      obtain ⟨gh', hs'⟩ := h.new_loc hdn hfree (cs := cellsPV (st.ev G x)) (arr := (a.eval x).cells) e hvs hvc
      refine ⟨_, _, gh', .inl hr, ?_⟩
      rw [hd]
      unfold newVar
      rw [if_neg hs]
      exact hs'
  · exact hp.elim

/-- Values that stand for themselves. -/
def treeV : PV → Bool
  | .val _ | .nils | .slice _ => true
  | _ => false
theorem treeV_rep {m : Mem} {phi : Nat → Nat} {nx : Nat} {p : PV} {v : Value} (h : RepS m phi nx p v) (hp : treeV p = true) : RepV m p v := by
  cases h with
  | pure h => exact h
  | _ => simp [treeV] at hp
theorem RepV.cells1 {m : Mem} {p : PV} {v : Value} (h : RepV m p v) : v.cells = #[v] := by
  cases h with
  | val _ hk => cases v <;> first | rfl | exact absurd hk (by simp [okVal])
  | nils => rfl
  | nil0 => rfl
  | slice => rfl
def setE (c : Chain) (i off : Nat) (p : PV) : Chain := { c with es := c.es.set i ((c.es.getD i []).set off p) }

theorem store_chain (h : Sim P G w0 gh0 nx0 st a w gh) {t : TypeId} {k i off : Nat} {c : Chain} (hc : st.chs k = some c) (hf : c.frz = false) (hi : i < c.es.length) (ho : off < c.sz) {p : PV} {v : Value} (hr : RepV gh.m p v) (hone : v.oneCell' = true) (hcells : v.cells = #[v]) (hs : tSize P t = some 1)
    {g cap : Nat} (hg : gh.gam k = some (g, cap)) :
    ∃ w', (storeVar t ⟨g, i * c.sz + off, none⟩ v).run P w = .ok () w' ∧ Sim P G w0 gh0 nx0 { st with chs := upd st.chs k (some (setE c i off p)) } a w' gh := by
  obtain ⟨hown, hsz, hle, hcap, hinfo, hlen, cur, hh, hcur, hrep, hm1, hm2⟩ := (h.chs k c hc).cons g cap hg
  have hlt := heap_cells hh
  have hmul : (i + 1) * c.sz ≤ cap * c.sz := Nat.mul_le_mul_right _ (by omega)
  have hsucc : (i + 1) * c.sz = i * c.sz + c.sz := Nat.succ_mul _ _
  have hb : i * c.sz + off + 1 ≤ cur.size := by rw [hcur]; omega
  have hmg : ∀ o, gh.m g o = none := by
    intro o
    cases e : gh.m g o with
    | none => rfl
    | some u =>
      have := (hm1 o u e).1
      rw [hf] at this
      cases this
  refine ⟨_, storeVar_run hs (by rw [hcells]; rfl) hh hb (by rw [hcells]; intro u hu; have : u = v := by simpa using hu
                                                             rw [this]; exact hone), ?_⟩
  have ch : Change w gh st.locs st.chs (World.putBlock w g (.cells (setA cur (i * c.sz + off) v.cells.toList) c.e (0, 0))) gh st.locs (upd st.chs k (some (setE c i off p))) :=
    { mle := MemLe.refl _
      mem := fun g' o u hm => by
        rw [cell_put hlt]
        · exact h.sh.mem g' o u hm
        · intro e
          simp only at e
          rw [e, hmg o] at hm
          cases hm
      phi := rfl, os := rfl, tape := rfl, output := rfl, size := by simp [World.putBlock]
      free := fun g' hg' hn => ⟨by rw [putBlock_heap _ _ _ _ hlt, if_neg (by rintro rfl; rw [hown] at hn; cases hn)], hn, fun _ => rfl⟩
      box := fun g' b hb => ⟨by rw [putBlock_heap _ _ _ _ hlt, if_neg (by rintro rfl; rw [hown] at hb; cases hb)], hb, fun _ => rfl⟩
      lt := fun g' hg' => by simpa [World.putBlock] using h.sh.lt g' hg'
      box' := fun g' b hg' => hg'
      loc' := h.lown
      lmap := fun d hd => ⟨hd, rfl⟩
      cmap := fun k' c0 h0 => by
        by_cases e : k' = k
        · subst e
          rw [hc] at h0
          cases h0
          exact ⟨setE c i off p, upd_same _ _ _, by simp [setE], fun _ => ⟨rfl, rfl⟩⟩
        · exact ⟨c0, by rw [upd_ne _ _ _ _ e]; exact h0, Nat.le_refl _, fun _ => ⟨rfl, rfl⟩⟩ }
  refine h.change ch ?_ ?_
  · intro d cs hd
    have hok : LocOk P gh st.locs st.chs st.sh.next w d cs := h.locs d cs hd
    refine hok.change ch (by rw [hd]; rfl) hok.1 ?_
    rw [putBlock_heap _ _ _ _ hlt, if_neg]
    intro e2
    have := hok.1
    rw [e2, hown] at this
    cases this
  · intro k' c0 h0
    by_cases e : k' = k
    · subst e
      rw [upd_same] at h0
      cases h0
      refine ⟨fun e => (by rw [hg] at e; cases e), fun g' cap' e => ?_⟩
      rw [hg] at e
      cases e
      refine ⟨hown, hsz, by simpa [setE] using hle, hcap, hinfo, ?_, setA cur (i * c.sz + off) v.cells.toList, by rw [putBlock_heap _ _ _ _ hlt, if_pos rfl]; rfl, by rw [setA_size]; exact hcur, ?_, fun o u hu => (by rw [hmg o] at hu; cases hu), fun hfr => (by have : c.frz = true := hfr; rw [hf] at this; cases this)⟩
      · intro i' hi'
        have hi2 : i' < c.es.length := by simpa [setE] using hi'
        simp only [setE, List.getElem_set]
        split
        · rename_i e3
          subst e3
          rw [List.length_set, List.getD_eq_getElem?_getD, List.getElem?_eq_getElem hi]
          exact hlen _ hi
        · exact hlen i' hi2
      · intro i' hi' j hj
        have hi2 : i' < c.es.length := by simpa [setE] using hi'
        obtain ⟨q, hq⟩ : ∃ q, q = ((setE c i off p).es[i'])[j] := ⟨_, rfl⟩
        have hq2 : ((setE c i off p).es[i']?.bind fun l => l[j]?) = some q := by
          rw [List.getElem?_eq_getElem hi']
          show ((setE c i off p).es[i'])[j]? = _
          rw [List.getElem?_eq_getElem hj, hq]
        rw [← hq]
        clear hq hj
        show RepV gh.m q ((setA cur (i * c.sz + off) v.cells.toList).getD (i' * c.sz + j) undef)
        rw [Array.getD_eq_getD_getElem?, setA_get, hcells]
        by_cases ei : i = i'
        · subst ei
          have hgd : c.es.getD i [] = c.es[i] := by rw [List.getD_eq_getElem?_getD, List.getElem?_eq_getElem hi]; rfl
          have e1 : (setE c i off p).es[i]? = some (c.es[i].set off p) := by
            show (c.es.set i ((c.es.getD i []).set off p))[i]? = _
            rw [hgd, List.getElem?_set, if_pos rfl, if_pos hi]
          rw [e1] at hq2
          have hq3 : (c.es[i].set off p)[j]? = some q := hq2
          rw [List.getElem?_set] at hq3
          by_cases ej : off = j
          · subst ej
            rw [if_pos rfl, if_pos (by rw [hlen i hi]; exact ho)] at hq3
            cases hq3
            rw [if_pos ⟨Nat.le_refl _, by simp, by omega⟩]
            simpa using hr
          · rw [if_neg ej] at hq3
            obtain ⟨hj2, hj3⟩ := List.getElem?_eq_some_iff.1 hq3
            have hjs : j < c.sz := by rw [← hlen i hi]; exact hj2
            rw [if_neg (by simp; omega)]
            have := hrep i hi j hj2
            rw [Array.getD_eq_getD_getElem?, hj3] at this
            exact this
        · have e1 : (setE c i off p).es[i']? = some c.es[i'] := by
            show (c.es.set i ((c.es.getD i []).set off p))[i']? = _
            rw [List.getElem?_set, if_neg ei, List.getElem?_eq_getElem hi2]
          rw [e1] at hq2
          have hq3 : c.es[i'][j]? = some q := hq2
          obtain ⟨hj2, hj3⟩ := List.getElem?_eq_some_iff.1 hq3
          have hjs : j < c.sz := by rw [← hlen i' hi2]; exact hj2
          have hne : ¬ (i * c.sz + off ≤ i' * c.sz + j ∧ i' * c.sz + j < i * c.sz + off + (#[v] : Array Value).toList.length ∧ i' * c.sz + j < cur.size) := by
            rintro ⟨q1, q2, _⟩
            simp only [List.length_singleton] at q2
            rcases Nat.lt_or_gt_of_ne ei with q | q
            · have := Nat.mul_le_mul_right c.sz (show i + 1 ≤ i' by omega)
              omega
            · have := Nat.mul_le_mul_right c.sz (show i' + 1 ≤ i by omega)
              have h5 : (i' + 1) * c.sz = i' * c.sz + c.sz := Nat.succ_mul _ _
              omega
          rw [if_neg hne]
          have := hrep i' hi2 j hj2
          rw [Array.getD_eq_getD_getElem?, hj3] at this
          exact this
    · rw [upd_ne _ _ _ _ e] at h0
      refine (h.chs k' c0 h0).change ch rfl fun g2 cap2 hg2 => ?_
      have ho2 := ((h.chs k' c0 h0).cons g2 cap2 hg2).1
      refine ⟨ho2, ?_, fun _ => rfl⟩
      rw [putBlock_heap _ _ _ _ hlt, if_neg]
      rintro rfl
      rw [hown] at ho2
      injection ho2 with ho3
      exact e ho3.symm

/-! ### stores -/
def vStore (P : Program) (G : Nat → Option (List PV)) (st : VS) (t : TypeId) (x y : Operand) : Prop × VS :=
  match st.ev G x with
  | .loc d off => match st.locs d with
    | some cs => (okOp x ∧ okOp y ∧ okStore (st.ev G y) = true ∧ wholeC st.chs (st.ev G y) ∧ tSize P t = some (cellsPV (st.ev G y)).length ∧ off + (cellsPV (st.ev G y)).length ≤ cs.length,
        { st with locs := upd st.locs d (some (setL cs off (cellsPV (st.ev G y)))) })
    | none => (False, st)
  | .box b off => match st.sh.mem b with
    | some cs => (okOp x ∧ okOp y ∧ (cv st.chs (st.ev G y)).pre ∧ okStore (cv st.chs (st.ev G y)).v = true ∧ tSize P t = some (cellsPV (cv st.chs (st.ev G y)).v).length ∧ off + (cellsPV (cv st.chs (st.ev G y)).v).length ≤ cs.length,
        { st with chs := (cv st.chs (st.ev G y)).chs, sh := { st.sh with mem := upd st.sh.mem b (some (setL cs off (cellsPV (cv st.chs (st.ev G y)).v))) } })
    | none => (False, st)
  | .trow k n i off => match (cv st.chs (st.ev G y)).chs k with
    | some c => (okOp x ∧ okOp y ∧ (cv st.chs (st.ev G y)).pre ∧ treeV (cv st.chs (st.ev G y)).v = true ∧ tSize P t = some 1 ∧ c.frz = false ∧ n = c.es.length ∧ i < c.es.length ∧ off < c.sz,
        { st with chs := upd (cv st.chs (st.ev G y)).chs k (some (setE c i off (cv st.chs (st.ev G y)).v)) })
    | none => (False, st)
  | _ => (False, st)

theorem store_sound (h : Sim P G w0 gh0 nx0 st a w gh) {o : Oper} {t : TypeId} {x y : Operand} (ho : o.op = .store t x y) (hd : o.dst = none) (hp : (vStore P G st t x y).1) :
    SoundO P G w0 gh0 nx0 a w o (vStore P G st t x y).2 := by
  unfold vStore at *
  split at hp
  · rename_i d off hx
    split at hp
    · rename_i cs hcs
      obtain ⟨hox, hoy, hst, hw, hs, hl⟩ := hp
      have hptr := ev_sound h x hox
      rw [hx] at hptr
      obtain ⟨_, ex⟩ := hptr
      obtain ⟨w', hrun, hsim⟩ := store_loc h hcs (ev_sound h y hoy) hst hw hs hl
      refine ⟨undef, w', gh, .inr ⟨?_, rfl⟩, by rw [hd]; exact hsim⟩
      simp [execOp, ho, ex, Instr.storeAt, Instr.sureAddr, hrun]
    · exact hp.elim
  · rename_i b off hx
    split at hp
    · rename_i cs hcs
      obtain ⟨hox, hoy, hpre, hst, hs, hl⟩ := hp
      have hptr := ev_sound h x hox
      rw [hx] at hptr
      obtain ⟨ex, hbn⟩ := hptr.box_inv
      obtain ⟨gh1, h1, hsame, hfrz, hrep⟩ := cv_sound h (ev_sound h y hoy) hpre
      obtain ⟨hvs, hvc⟩ := cv_cells (locs := st.locs) hrep hst
      obtain ⟨w', hrun, hsim⟩ := store_box h1 (t := t) (b := b) (off := off) hcs hvs hvc hs hl
      refine ⟨undef, w', gh1, .inr ⟨?_, rfl⟩, by rw [hd]; exact hsim⟩
      rw [hsame.phi] at hrun
      simp [execOp, ho, ex, Instr.storeAt, Instr.sureAddr, hrun]
    · exact hp.elim
  · rename_i k n i off hx
    split at hp
    · rename_i c hc
      obtain ⟨hox, hoy, hpre, htr, hs, hf, hn, hi, hoff⟩ := hp
      obtain ⟨gh1, h1, hsame, hfrz, hrep⟩ := cv_sound h (ev_sound h y hoy) hpre
      have hptr := ev_sound h1 x hox
      have hev : VS.ev G { st with chs := (cv st.chs (st.ev G y)).chs } x = st.ev G x := by cases x <;> rfl
      rw [hev, hx] at hptr
      obtain ⟨c0, hc0, hle, hpt⟩ := hptr
      have hc0' : (cv st.chs (st.ev G y)).chs k = some c0 := hc0
      rw [hc] at hc0'
      cases hc0'
      have hv := treeV_rep hrep htr
      cases hg : gh1.gam k with
      | none =>
        have := (h1.chs k c hc).nil hg
        rw [this] at hi
        cases hi
      | some gc =>
        obtain ⟨g, cap⟩ := gc
        have ex := hpt hn g cap hg
        obtain ⟨w', hrun, hsim⟩ := store_chain h1 (t := t) hc hf hi hoff hv hv.one hv.cells1 hs hg
        refine ⟨undef, w', gh1, .inr ⟨?_, rfl⟩, by rw [hd]; exact hsim⟩
        simp [execOp, ho, ex, Instr.storeAt, Instr.sureAddr, hrun]
    · exact hp.elim
  · exact hp.elim
end
end Go.Proofs.YtaackmiajgapoaaGreatDoor.V

/- A program logic at the level of values: literals, append, closures, slices, as operations. -/
set_option linter.unusedVariables false
set_option linter.unusedSimpArgs false
namespace Go.Proofs.YtaackmiajgapoaaGreatDoor.V
open Go

/-! ### filling places -/
def fillPV (pl : List (Nat × Nat)) (cells : List PV) : List (Nat × PV) → Option (List PV)
  | [] => some cells
  | (i, p) :: rest => match pl[i]? with
    | some (off, n) => if (cellsPV p).length = n ∧ off + n ≤ cells.length then fillPV pl (setL cells off (cellsPV p)) rest else none
    | none => none

theorem foldl_setA (off : Nat) : ∀ (l : List Value) (k : Nat) (cells : Array Value), (l.zipIdx k).foldl (fun cs (x : Value × Nat) => cs.setIfInBounds (off + x.2) x.1) cells = setA cells (off + k) l
  | [], k, cells => rfl
  | v :: r, k, cells => by
    rw [List.zipIdx_cons, List.foldl_cons, foldl_setA off r (k + 1), setA]
    rfl

theorem fill_step (place : Nat → Option (Nat × Nat)) (cells : Array Value) (i : Nat) (v : Value) (rest : List (Nat × Value)) {off n : Nat} (hpl : place i = some (off, n)) (hv : v.cells.size = n) (hl : off + n ≤ cells.size) :
    Instr.fill place cells ((i, v) :: rest) = Instr.fill place (setA cells off v.cells.toList) rest := by
  have hc : ¬ (v.cells.size ≠ n || decide (off + v.cells.size > cells.size)) = true := by simp [hv]; omega
  rw [Instr.fill, hpl]
  simp only
  rw [if_neg hc]
  congr 1
  have := foldl_setA off v.cells.toList 0 cells
  rw [Nat.add_zero] at this
  rw [← this, ← Array.foldl_toList, Array.toList_zipIdx]

theorem fill_rep {R : PV → Value → Prop} (place : Nat → Option (Nat × Nat)) (pl : List (Nat × Nat)) (hpl : ∀ i x, pl[i]? = some x → place i = some x) :
    ∀ (ps : List (Nat × PV)) (vs : List (Nat × Value)) (cs : List PV) (cur : Array Value) (out : List PV), ps.map Prod.fst = vs.map Prod.fst → cur.size = cs.length → (∀ k (hk : k < cs.length), R (cs[k]) (cur.getD k undef)) →
      (∀ j (hj : j < ps.length) (hj2 : j < vs.length), (vs[j]).2.cells.size = (cellsPV (ps[j]).2).length ∧ ∀ k (hk : k < (cellsPV (ps[j]).2).length), R ((cellsPV (ps[j]).2)[k]) ((vs[j]).2.cells.getD k undef)) →
      fillPV pl cs ps = some out → ∃ arr, Instr.fill place cur vs = some arr ∧ arr.size = out.length ∧ ∀ k (hk : k < out.length), R (out[k]) (arr.getD k undef)
  | [], vs, cs, cur, out, hf, hl, hr, _, h => by
    have : vs = [] := by cases vs with | nil => rfl | cons => simp at hf
    subst this
    simp only [fillPV, Option.some.injEq] at h
    subst h
    exact ⟨cur, rfl, hl, hr⟩
  | (i, p) :: ps, vs, cs, cur, out, hf, hl, hr, hp, h => by
    cases vs with
    | nil => simp at hf
    | cons v vs =>
      obtain ⟨i', v⟩ := v
      simp only [List.map_cons, List.cons.injEq] at hf
      obtain ⟨rfl, hf⟩ := hf
      unfold fillPV at h
      split at h
      · rename_i off n hi
        split at h
        · rename_i hc
          obtain ⟨hc1, hc2⟩ := hc
          obtain ⟨h1, h2⟩ := hp 0 (by simp) (by simp)
          simp only [List.getElem_cons_zero] at h1 h2
          rw [fill_step place cur i v vs (hpl i _ hi) (by rw [h1]; exact hc1) (by omega)]
          refine fill_rep place pl hpl ps vs _ _ out hf (by rw [setA_size, setL_length]; exact hl) (set_rep hl (by rw [Array.length_toList]; exact h1) hr ?_) ?_ h
          · intro k hk
            have e2 : v.cells.toList.getD k undef = v.cells.getD k undef := by simp [List.getD_eq_getElem?_getD, Array.getD_eq_getD_getElem?]
            rw [e2]
            exact h2 k hk
          · intro j hj hj2
            exact hp (j + 1) (by simp; omega) (by simp; omega)
        · cases h
      · cases h

def tPlaces (P : Program) (t : TypeId) : Option (List (Nat × Nat)) :=
  match P.underlying t with
  | some (.struct fields) => if fields.toList.all (fun f => (tSize P f.type).isSome) then some (fields.toList.map fun f => (f.offset, (tSize P f.type).getD 0)) else none
  | some (.array n e) => match tSize P e with
    | some s => some ((List.range n).map fun i => (i * s, s))
    | none => none
  | _ => none

theorem mapM_pure {α β : Type} {P : Program} (f : α → Sem β) (g : α → β) (w : World) : ∀ (l : List α), (∀ x ∈ l, (f x).run P w = .ok (g x) w) → (l.mapM f).run P w = .ok (l.map g) w
  | [], _ => by simp
  | x :: r, h => by
    rw [List.mapM_cons]
    simp only [Sem.run_bind, h x (by simp), Result.andThen_ok, mapM_pure f g w r (fun y hy => h y (by simp [hy])), Sem.run_pure, List.map_cons]

section
variable {P : Program} {G : Nat → Option (List PV)} {w0 : World} {gh0 : Gh} {nx0 : Nat} {st : VS} {a : Act} {w : World} {gh : Gh}

theorem run_build {t : TypeId} {pl : List (Nat × Nat)} (hpl : tPlaces P t = some pl) {z : Value} (hz : (zeroValue t).run P w = .ok z w) {parts : Array (Nat × Value)} {arr : Array Value}
    (h : ∀ place, (∀ i x, pl[i]? = some x → place i = some x) → Instr.fill place z.cells parts.toList = some arr) : (Instr.build t parts).run P w = .ok (.agg arr) w := by
  unfold tPlaces at hpl
  split at hpl
  · rename_i fields hu
    split at hpl
    · rename_i hall
      simp only [Option.some.injEq] at hpl
      subst hpl
      have hm : (fields.mapM fun f => do pure (f.offset, ← sizeOf f.type) : Sem (Array (Nat × Nat))).run P w = .ok (fields.map fun f => (f.offset, (tSize P f.type).getD 0)) w := by
        rw [Array.mapM_eq_mapM_toList]
        simp only [Sem.run_map]
        rw [mapM_pure _ (fun f => (f.offset, (tSize P f.type).getD 0)) w fields.toList (fun f hf => by
          obtain ⟨n, hn⟩ := Option.isSome_iff_exists.1 (List.all_eq_true.1 hall f hf)
          simp [run_sizeOf hn, hn])]
        simp only [Result.andThen_ok]
        congr 1
        apply Array.ext'
        simp
      have hf := h (fun i => (fields.map fun f => (f.offset, (tSize P f.type).getD 0))[i]?) (fun i x hx => by simpa using hx)
      simp only [Instr.build, Sem.run_bind, hz, Result.andThen_ok, run_underlying hu, hm, hf, Sem.run_pure]
    · cases hpl
  · rename_i n e hu
    split at hpl
    · rename_i s hs
      simp only [Option.some.injEq] at hpl
      subst hpl
      have hf := h (fun i => some (i * s, s)) (fun i x hx => by
        rw [List.getElem?_map] at hx
        obtain ⟨j, hj, rfl⟩ := Option.map_eq_some_iff.1 hx
        have := (List.getElem?_eq_some_iff.1 hj)
        obtain ⟨hj1, hj2⟩ := this
        simp at hj2
        rw [hj2])
      simp only [Instr.build, Sem.run_bind, hz, Result.andThen_ok, run_underlying hu, run_sizeOf hs, hf, Sem.run_pure]
    · cases hpl
  · cases hpl

/-- The parts of a literal: read, and handed on. -/
def partsPV (G : Nat → Option (List PV)) (st : VS) (parts : List (Nat × Operand)) : List PV := parts.map fun p => st.ev G p.2

def okParts (G : Nat → Option (List PV)) (st : VS) (parts : List (Nat × Operand)) : Prop :=
  (∀ p ∈ parts, okOp p.2) ∧ (cvs st.chs (partsPV G st parts)).pre ∧ (cvs st.chs (partsPV G st parts)).vs.all okStore = true

theorem parts_sound (h : Sim P G w0 gh0 nx0 st a w gh) {parts : List (Nat × Operand)} (hp : okParts G st parts) :
    ∃ gh', Sim P G w0 gh0 nx0 { st with chs := (cvs st.chs (partsPV G st parts)).chs } a w gh' ∧ Same gh gh' ∧ (cvs st.chs (partsPV G st parts)).vs.length = parts.length ∧
      ∀ j (hj : j < (cvs st.chs (partsPV G st parts)).vs.length) (hj2 : j < parts.length), (a.eval (parts[j]).2).cells.size = (cellsPV ((cvs st.chs (partsPV G st parts)).vs[j])).length ∧
        ∀ k (hk : k < (cellsPV ((cvs st.chs (partsPV G st parts)).vs[j])).length), RepS gh'.m gh'.phi st.sh.next ((cellsPV ((cvs st.chs (partsPV G st parts)).vs[j]))[k]) ((a.eval (parts[j]).2).cells.getD k undef) ∧
          ((a.eval (parts[j]).2).cells.getD k undef).oneCell' = true := by
  obtain ⟨h1, h2, h3⟩ := hp
  obtain ⟨gh', hs, hsame, hfrz, hl, hr⟩ := cvs_sound (P := P) (G := G) (w0 := w0) (gh0 := gh0) (nx0 := nx0) (a := a) (w := w) (partsPV G st parts) st gh (fun j => ((parts[j]?).map fun p => a.eval p.2).getD undef) h
    (fun i hi => by
      have hi' : i < parts.length := by simpa [partsPV] using hi
      have := ev_sound h (parts[i]).2 (h1 _ (List.getElem_mem hi'))
      simpa [partsPV, hi'] using this) h2
  have hl2 : (partsPV G st parts).length = parts.length := by simp [partsPV]
  refine ⟨gh', hs, hsame, by rw [hl, hl2], fun j hj hj2 => ?_⟩
  have hrj := hr j hj
  simp only [List.getElem?_eq_getElem hj2, Option.map_some, Option.getD_some] at hrj
  have hst : okStore ((cvs st.chs (partsPV G st parts)).vs[j]) = true := List.all_eq_true.1 h3 _ (List.getElem_mem hj)
  generalize (cvs st.chs (partsPV G st parts)).vs[j] = q at *
  have hw : ∀ chs, wholeC chs q := by
    intro chs
    cases q with
    | tsl k len => exact hrj.not_tsl.elim
    | _ => trivial
  obtain ⟨hvs, hvc⟩ := store_cells (gh := gh') (locs := st.locs) (chs := st.chs) (nx := st.sh.next) (RepT.of_s hrj) hst (hw _)
  refine ⟨hvs, fun k hk => ⟨?_, (hvc k hk).2⟩⟩
  cases q with
  | agg cs =>
    obtain ⟨vs, e1, hl, h1c, hc⟩ := RepT.agg_inv (RepT.of_s (locs := st.locs) (chs := st.chs) hrj)
    rw [e1]
    exact hc k hk
  | top => simp [okStore, okCell] at hst
  | tup cs => simp [okStore, okCell] at hst
  | gd b q => simp [okStore, okCell] at hst
  | loc d off => simp [okStore, okCell] at hst
  | trow k n i off => simp [okStore, okCell] at hst
  | tsl k len => exact hrj.not_tsl.elim
  | val u => exact (hvc k hk).1.plain (by simp only [cellsPV, List.length_singleton, Nat.lt_one_iff] at hk; subst hk; rfl)
  | nils => exact (hvc k hk).1.plain (by simp only [cellsPV, List.length_singleton, Nat.lt_one_iff] at hk; subst hk; rfl)
  | slice es => exact (hvc k hk).1.plain (by simp only [cellsPV, List.length_singleton, Nat.lt_one_iff] at hk; subst hk; rfl)
  | box b off => exact (hvc k hk).1.plain (by simp only [cellsPV, List.length_singleton, Nat.lt_one_iff] at hk; subst hk; rfl)
  | row e off => exact (hvc k hk).1.plain (by simp only [cellsPV, List.length_singleton, Nat.lt_one_iff] at hk; subst hk; rfl)
  | func f cs => exact (hvc k hk).1.plain (by simp only [cellsPV, List.length_singleton, Nat.lt_one_iff] at hk; subst hk; rfl)

def zipParts (parts : List (Nat × Operand)) (vs : List PV) : List (Nat × PV) := (parts.map Prod.fst).zip vs

/-- STRUCT AND ARRAY LITERALS. -/
def vBuild (P : Program) (G : Nat → Option (List PV)) (st : VS) (d : Option Tmp) (t : TypeId) (parts : List (Nat × Operand)) : Prop × VS :=
  match tPlaces P t, zeroPV P t with
  | some pl, some z => match fillPV pl z (zipParts parts (cvs st.chs (partsPV G st parts)).vs) with
    | some cs => (okDst st d ∧ okParts G st parts, { st with chs := (cvs st.chs (partsPV G st parts)).chs }.put d (.agg cs))
    | none => (False, st)
  | _, _ => (False, st)

theorem build_sound (h : Sim P G w0 gh0 nx0 st a w gh) {o : Oper} {t : TypeId} {parts : Array (Nat × Operand)} (ho : o.op = .build t parts) (hp : (vBuild P G st o.dst t parts.toList).1) :
    SoundO P G w0 gh0 nx0 a w o (vBuild P G st o.dst t parts.toList).2 := by
  unfold vBuild at *
  split at hp
  · rename_i pl z hpl hz
    split at hp
    · rename_i cs hcs
      obtain ⟨hdst, hparts⟩ := hp
      obtain ⟨gh', hs, hsame, hlen, hcells⟩ := parts_sound h hparts
      obtain ⟨zv, hzrun, hzl, hzc⟩ := zeroPV_sound hz gh'.m gh'.phi st.sh.next
      have key : ∀ place, (∀ i x, pl[i]? = some x → place i = some x) → ∃ arr, Instr.fill place zv.cells ((parts.map fun (i, x) => (i, a.eval x)).toList) = some arr ∧ arr.size = cs.length ∧
          ∀ k (hk : k < cs.length), RepS gh'.m gh'.phi st.sh.next (cs[k]) (arr.getD k undef) ∧ (arr.getD k undef).oneCell' = true := by
        intro place hplace
        refine fill_rep (R := fun p v => RepS gh'.m gh'.phi st.sh.next p v ∧ v.oneCell' = true) place pl hplace _ _ z zv.cells cs ?_ hzl hzc ?_ hcs
        · simp only [zipParts, Array.toList_map, List.map_map]
          rw [List.map_fst_zip (by simp [hlen])]
          rfl
        · intro j hj hj2
          have hj3 : j < parts.toList.length := by simpa using hj2
          have hj4 : j < (cvs st.chs (partsPV G st parts.toList)).vs.length := by rw [hlen]; exact hj3
          have := hcells j hj4 hj3
          simpa [zipParts] using this
      obtain ⟨arr, harr, hsz, hrep⟩ := key (fun i => pl[i]?) (fun i x hx => hx)
      refine ⟨.agg arr, w, gh', .inl ?_, hs.put hdst (RepT.of_s (.agg cs arr hsz.symm ?_ fun k hk => (hrep k hk).1))⟩
      · have hb := run_build (parts := parts.map fun (i, x) => (i, a.eval x)) (arr := arr) hpl (hzrun w) (fun place hplace => by
          obtain ⟨arr', h1, _⟩ := key place hplace
          have huniq : ∀ (l : List (Nat × Value)) (c : Array Value) (ps : List (Nat × PV)) (cs0 out : List PV), ps.map Prod.fst = l.map Prod.fst → fillPV pl cs0 ps = some out → c.size = cs0.length →
              (∀ j (hj : j < ps.length) (hj2 : j < l.length), (l[j]).2.cells.size = (cellsPV (ps[j]).2).length) → Instr.fill place c l = Instr.fill (fun i => pl[i]?) c l := by
            intro l
            induction l with
            | nil => intros; rfl
            | cons x r ih =>
              intro c ps cs0 out hf hfill hc hsizes
              obtain ⟨i, v⟩ := x
              cases ps with
              | nil => simp at hf
              | cons p ps =>
                obtain ⟨i', p⟩ := p
                simp only [List.map_cons, List.cons.injEq] at hf
                obtain ⟨rfl, hf⟩ := hf
                unfold fillPV at hfill
                split at hfill
                · rename_i off n hi
                  split at hfill
                  · rename_i hcc
                    have hv : v.cells.size = n := by
                      have := hsizes 0 (by simp) (by simp)
                      simp at this
                      omega
                    rw [fill_step place c i' v r (hplace _ _ hi) hv (by omega), fill_step (fun i => pl[i]?) c i' v r hi hv (by omega)]
                    exact ih _ ps _ out hf hfill (by rw [setA_size, setL_length]; exact hc) (fun j hj hj2 => by
                      have := hsizes (j + 1) (by simp; omega) (by simp; omega)
                      simpa using this)
                  · cases hfill
                · cases hfill
          rw [huniq _ _ _ _ _ ?_ hcs hzl ?_]
          · exact harr
          · simp only [zipParts, Array.toList_map, List.map_map]
            rw [List.map_fst_zip (by simp [hlen])]
            rfl
          · intro j hj hj2
            have hj3 : j < parts.toList.length := by simpa using hj2
            have hj4 : j < (cvs st.chs (partsPV G st parts.toList)).vs.length := by rw [hlen]; exact hj3
            have := (hcells j hj4 hj3).1
            simpa [zipParts] using this)
        simp [execOp, ho, hb]
      · intro i hi
        have := (hrep i (by omega)).2
        simpa [hi] using this
    · exact hp.elim
  · exact hp.elim
end
end Go.Proofs.YtaackmiajgapoaaGreatDoor.V

/- A program logic at the level of values: slice literals, append, closures, slice expressions, as operations. -/
set_option linter.unusedVariables false
set_option linter.unusedSimpArgs false
namespace Go.Proofs.YtaackmiajgapoaaGreatDoor.V
open Go

def isTree : PV → Bool
  | .val _ | .nils | .slice _ => true
  | _ => false

theorem RepS.tree {m : Mem} {phi : Nat → Nat} {nx : Nat} {p : PV} {v : Value} (h : RepS m phi nx p v) (hp : isTree p = true) : RepV m p v := by
  cases h with
  | pure h => exact h
  | _ => simp [isTree] at hp

def chunk (n s : Nat) (cells : List PV) : List (List PV) := (List.range n).map fun i => (cells.drop (i * s)).take s

section
variable {P : Program} {G : Nat → Option (List PV)} {w0 : World} {gh0 : Gh} {nx0 : Nat} {st : VS} {a : Act} {w : World} {gh : Gh}

/-- A SLICE LITERAL: a new chain. -/
def vBuildSlice (P : Program) (G : Nat → Option (List PV)) (st : VS) (d : Option Tmp) (t : TypeId) (n : Nat) (parts : List (Nat × Operand)) : Prop × VS :=
  match d, tElem P t with
  | some d, some e => match tSize P e with
    | some s => match fillPV ((List.range n).map fun i => (i * s, s)) (List.replicate (n * s) .top) (zipParts parts (cvs st.chs (partsPV G st parts)).vs) with
      | some cs => (d < st.n ∧ st.chs d = none ∧ 0 < s ∧ n * s ≤ 16777216 ∧ (zeroPV P e).map List.length = some s ∧ okParts G st parts ∧ cs.all isTree = true,
          { st with chs := upd (cvs st.chs (partsPV G st parts)).chs d (some ⟨chunk n s cs, e, s, false⟩) }.put (some d) (.tsl d n))
      | none => (False, st)
    | none => (False, st)
  | _, _ => (False, st)

theorem cvs_none : ∀ (ps : List PV) (chs : Nat → Option Chain) (d : Nat), chs d = none → (cvs chs ps).chs d = none
  | [], _, _, h => h
  | p :: r, chs, d, h => by
    refine cvs_none r _ d ?_
    cases p <;> try exact h
    rename_i k len
    simp only [cv]
    cases hk : chs k with
    | none => exact h
    | some c =>
      simp only
      rw [upd_ne]
      · exact h
      · rintro rfl; rw [hk] at h; cases h

theorem buildSlice_sound (h : Sim P G w0 gh0 nx0 st a w gh) {o : Oper} {t : TypeId} {n : Nat} {parts : Array (Nat × Operand)} (ho : o.op = .buildSlice t n parts) (hp : (vBuildSlice P G st o.dst t n parts.toList).1) :
    SoundO P G w0 gh0 nx0 a w o (vBuildSlice P G st o.dst t n parts.toList).2 := by
  unfold vBuildSlice at *
  split at hp
  · rename_i d e hd he
    split at hp
    · rename_i s hs
      split at hp
      · rename_i cs hcs
        obtain ⟨hdn, hfree, hs0, hmax, hz0, hparts, htree⟩ := hp
        obtain ⟨gh1, hs1, hsame, hlen, hcells⟩ := parts_sound h hparts
        obtain ⟨zl, hzl, hzlen⟩ := Option.map_eq_some_iff.1 hz0
        obtain ⟨zv, hzrun, hzsz, hzc⟩ := zeroPV_sound hzl gh1.m gh1.phi st.sh.next
        have hbase : ∀ (place : Nat → Option (Nat × Nat)), (∀ i x, ((List.range n).map fun i => (i * s, s))[i]? = some x → place i = some x) → ∀ cur : Array Value, cur.size = n * s →
            ∃ arr, Instr.fill place cur ((parts.map fun (i, x) => (i, a.eval x)).toList) = some arr ∧ arr.size = cs.length ∧ ∀ k (hk : k < cs.length), (cs[k] ≠ .top → RepS gh1.m gh1.phi st.sh.next (cs[k]) (arr.getD k undef)) := by
          intro place hplace cur hcur
          refine fill_rep (R := fun p v => p ≠ .top → RepS gh1.m gh1.phi st.sh.next p v) place _ hplace _ _ (List.replicate (n * s) .top) cur cs ?_ (by simp [hcur]) ?_ ?_ hcs
          · simp only [zipParts, Array.toList_map, List.map_map]
            rw [List.map_fst_zip (by simp [hlen])]
            rfl
          · intro k hk htop
            simp at htop
          · intro j hj hj2
            have hj3 : j < parts.toList.length := by simpa using hj2
            have hj4 : j < (cvs st.chs (partsPV G st parts.toList)).vs.length := by rw [hlen]; exact hj3
            obtain ⟨q1, q2⟩ := hcells j hj4 hj3
            refine ⟨by simpa [zipParts] using q1, fun k hk _ => ?_⟩
            have := (q2 k (by simpa [zipParts] using hk)).1
            simpa [zipParts] using this
        obtain ⟨arr, harr, hasz, hrep⟩ := hbase (fun i => some (i * s, s)) (fun i x hx => by
          rw [List.getElem?_map] at hx
          obtain ⟨j, hj, rfl⟩ := Option.map_eq_some_iff.1 hx
          obtain ⟨hj1, hj2⟩ := List.getElem?_eq_some_iff.1 hj
          simp at hj2
          rw [hj2]) ((Array.range (n * s)).map (fun j => zv.cells[j % zv.cells.size]!)) (by simp)
        have hcsl : cs.length = n * s := by
          have : ∀ (ps : List (Nat × PV)) (c0 out : List PV), fillPV ((List.range n).map fun i => (i * s, s)) c0 ps = some out → out.length = c0.length := by
            intro ps
            induction ps with
            | nil => intro c0 out hh; simp only [fillPV, Option.some.injEq] at hh; rw [hh]
            | cons x r ih =>
              intro c0 out hh
              obtain ⟨i, p⟩ := x
              unfold fillPV at hh
              split at hh
              · split at hh
                · rw [ih _ _ hh, setL_length]
                · cases hh
              · cases hh
          rw [this _ _ _ hcs]; simp
        have hrun : (execOp a.eval o).run P w = .ok (.value (.slice (some ⟨w.heap.size, 0, none⟩) n n)) (w.alloc (.cells arr e)) := by
          simp only [execOp, ho, Instr.buildSlice, Sem.run_bind, run_underlying (tElem_und he), Result.andThen_ok, run_sizeOf hs]
          rw [if_neg (by simp only [Nat.not_lt]; exact hmax)]
          by_cases hn0 : n * s = 0
          · rw [if_pos hn0]
            have hn : n = 0 := by
              rcases Nat.mul_eq_zero.1 hn0 with h1 | h1
              · exact h1
              · omega
            have hps : parts.toList = [] := by
              have h3 : (zipParts parts.toList (cvs st.chs (partsPV G st parts.toList)).vs).length = 0 := by
                generalize zipParts parts.toList (cvs st.chs (partsPV G st parts.toList)).vs = zp at hcs
                cases zp with
                | nil => rfl
                | cons x r => obtain ⟨i, p⟩ := x; simp [fillPV, hn] at hcs
              apply List.eq_nil_of_length_eq_zero
              simp only [zipParts, List.length_zip, List.length_map, hlen] at h3
              omega
            have harr0 : arr = #[] := by
              have : arr.size = 0 := by rw [hasz, hcsl, hn0]
              exact Array.eq_empty_of_size_eq_zero this
            simp [hn0, hps, Instr.fill, newRow, harr0, Array.range_zero']
          · rw [if_neg hn0]
            simp only [Sem.run_bind, hzrun, Result.andThen_ok, Sem.run_pure, harr, newRow, run_newObj, World.alloc_eq]
        obtain ⟨gh2, hs2, hgam2⟩ := Sim.set_chain hs1 (k := d) (c' := ⟨chunk n s cs, e, s, false⟩) (w1 := w.alloc (.cells arr e)) (g1 := w.heap.size) (cap := n) (arr := arr)
          (fun c hc => by have := cvs_none (partsPV G st parts.toList) st.chs d hfree; simp only at hc; rw [this] at hc; cases hc) rfl rfl rfl (by simp) (by rw [heap_alloc, if_pos rfl]) (fun g hg hlt => by rw [heap_alloc, if_neg hg]) (.inl rfl)
          (by rw [hasz, hcsl]) (by simp [chunk]) (by
            have : n ≤ n * s := Nat.le_mul_of_pos_right _ hs0
            simp only [maxLen]; omega) hs0 hs
          (by
            intro i hi
            have hi' : i < n := by simpa [chunk] using hi
            have : (i + 1) * s ≤ n * s := Nat.mul_le_mul_right _ (by omega)
            rw [Nat.add_mul, Nat.one_mul] at this
            simp [chunk]; omega)
          (by
            intro i hi j hj
            have hi' : i < n := by simpa [chunk] using hi
            have h3 : (i + 1) * s ≤ n * s := Nat.mul_le_mul_right _ (by omega)
            rw [Nat.add_mul, Nat.one_mul] at h3
            have hj' : j < s := by
              have : ((chunk n s cs)[i]).length ≤ s := by simp [chunk]; omega
              exact Nat.lt_of_lt_of_le hj this
            have hlt : i * s + j < cs.length := by omega
            have e1 : ((chunk n s cs)[i])[j] = cs[i * s + j] := by simp [chunk]
            show RepV gh1.m (((chunk n s cs)[i])[j]) (arr.getD (i * s + j) undef)
            rw [e1]
            have htr : isTree (cs[i * s + j]) = true := List.all_eq_true.1 htree _ (List.getElem_mem hlt)
            exact (hrep _ hlt (by intro e2; rw [e2] at htr; cases htr)).tree htr)
          (fun o v hv => by have := hs1.sh.block_lt hv; omega)
        refine ⟨_, _, gh2, .inl hrun, ?_⟩
        rw [hd]
        refine Sim.put hs2 (d := some d) hdn ⟨⟨chunk n s cs, e, s, false⟩, by simp [upd_same], by simp [chunk], fun _ => ?_⟩
        rw [hgam2]
        simp [chVal]
      · exact hp.elim
    · exact hp.elim
  · exact hp.elim

/-! ### append -/
def asSlice : PV → Option (List (List PV))
  | .slice es => some es
  | .nils => some []
  | _ => none

theorem asSlice_rep {m : Mem} {phi : Nat → Nat} {nx : Nat} {p : PV} {v : Value} {es : List (List PV)} (h : RepS m phi nx p v) (he : asSlice p = some es) : RepV m (.slice es) v := by
  cases p <;> simp [asSlice] at he
  · subst he
    cases h with | pure h => cases h; exact .nil0 none 0 (Nat.zero_le _)
  · subst he
    cases h with | pure h => exact h

/-- What an append asks of the element's type. -/
def tBytes (P : Program) (e : TypeId) : Option Nat := (P.info? e).map (·.bytes)

def appendPre (P : Program) (c : Chain) (es2 : List (List PV)) : Prop :=
  0 < c.sz ∧ tSize P c.e = some c.sz ∧ (zeroPV P c.e).map List.length = some c.sz ∧ (∀ e ∈ es2, e.length = c.sz) ∧
    (c.es.length + es2.length) * (tBytes P c.e).getD 0 ≤ 140737488355328 ∧ c.es.length + es2.length ≤ maxLen

def vAppend (P : Program) (G : Nat → Option (List PV)) (st : VS) (d : Option Tmp) (t : TypeId) (x y : Operand) : Prop × VS :=
  match asSlice (cv st.chs (st.ev G y)).v, st.ev G x, tElem P t with
  | some es2, .tsl k len, some e => match (cv st.chs (st.ev G y)).chs k with
    | some c => (okDst st d ∧ okOp y ∧ (cv st.chs (st.ev G y)).pre ∧ c.e = e ∧ len = c.es.length ∧ appendPre P c es2,
        { st with chs := upd (cv st.chs (st.ev G y)).chs k (some { c with es := c.es ++ es2 }) }.put d (.tsl k (len + es2.length)))
    | none => (False, st)
  | some es2, .nils, some e => match d, tSize P e with
    | some d, some s => (d < st.n ∧ okOp y ∧ (cv st.chs (st.ev G y)).pre ∧ st.chs d = none ∧ appendPre P ⟨[], e, s, false⟩ es2,
        { st with chs := upd (cv st.chs (st.ev G y)).chs d (some ⟨es2, e, s, false⟩) }.put (some d) (.tsl d es2.length))
    | _, _ => (False, st)
  | _, _, _ => (False, st)

theorem zero_info {e : TypeId} {s : Nat} (h : (zeroPV P e).map List.length = some s) (hs : tSize P e = some s) : ∃ i z, P.info? e = some i ∧ i.zero = some z ∧ i.size = s ∧ z.cells.size = s ∧ (tBytes P e).getD 0 = i.bytes := by
  obtain ⟨l, hl, hlen⟩ := Option.map_eq_some_iff.1 h
  unfold zeroPV at hl
  split at hl
  · rename_i z hz
    obtain ⟨i, hi, hz2⟩ := Option.bind_eq_some_iff.1 hz
    split at hl
    · simp only [Option.some.injEq] at hl
      subst hl
      refine ⟨i, z, hi, hz2, ?_, by simpa using hlen, by simp [tBytes, hi]⟩
      unfold tSize at hs
      simpa [hi] using hs
    · cases hl
  · cases hl

theorem appendO_sound (h : Sim P G w0 gh0 nx0 st a w gh) {o : Oper} {t : TypeId} {x y : Operand} (ho : o.op = .call { callee := .builtin .append, args := #[x, y], argTypes := #[t, t] }) (hx : okOp x)
    (hp : (vAppend P G st o.dst t x y).1) : SoundO P G w0 gh0 nx0 a w o (vAppend P G st o.dst t x y).2 := by
  unfold vAppend at *
  split at hp
  · rename_i es2 k len e hes hxv he
    split at hp
    · rename_i c hc
      obtain ⟨hdst, hoy, hpre, hce, hlenc, h0, hsz, hz, hl2, hb, h63⟩ := hp
      obtain ⟨gh1, h1, hsame, hfrz, hrep⟩ := cv_sound h (ev_sound h y hoy) hpre
      have hxr := ev_sound h x hx
      rw [hxv] at hxr
      obtain ⟨i, z, hi, hzz, his, hzs, hby⟩ := zero_info hz hsz
      obtain ⟨c0, hc0, hle0, hv0⟩ := hxr
      have hcc : c0.es = c.es := by
        obtain ⟨f, hf⟩ := hfrz k c0 hc0
        rw [hc] at hf
        have := Option.some.inj hf
        rw [this]
      have hvx := hv0 (by rw [hcc]; exact hlenc)
      obtain ⟨v', w', gh', hrun, hs', hv'⟩ := append_sound h1 (k := k) hc (t := t) (ty := o.type) (by rw [hce]; exact tElem_und he) hi hzz his h0 hzs (asSlice_rep hrep hes) hl2 (by rw [← hby]; exact hb) h63
      refine ⟨v', w', gh', .inl ?_, hs'.put hdst ?_⟩
      · rw [hsame.gam] at hrun
        rw [← hlenc] at hrun
        simp only [execOp, ho, resolve, invoke, builtin, Sem.run_bind, Sem.run_pure, Result.andThen_ok, List.map_toArray, List.map_cons, List.map_nil, hvx, hrun]
      · refine ⟨{ c with es := c.es ++ es2 }, by simp [upd_same], by simp [hlenc], fun _ => ?_⟩
        rw [hv', hlenc]
        simp
    · exact hp.elim
  · rename_i es2 e hes hxv he
    split at hp
    · rename_i d s hd hsz
      obtain ⟨hdn, hoy, hpre, hfree, h0, _, hz, hl2, hb, h63⟩ := hp
      obtain ⟨gh1, h1, hsame, hfrz, hrep⟩ := cv_sound h (ev_sound h y hoy) hpre
      have hxr := ev_sound h x hx
      rw [hxv] at hxr
      have hvx := hxr.nils_inv
      obtain ⟨i, z, hi, hzz, his, hzs, hby⟩ := zero_info hz hsz
      have hfree1 : (cv st.chs (st.ev G y)).chs d = none := by
        have := cvs_none [st.ev G y] st.chs d hfree
        exact this
      obtain ⟨gh2, h2, hgam2, hsame2, hgamo⟩ := Sim.nil_chain h1 (k := d) hfree1 e s false
      have hrep2 : RepV gh2.m (.slice es2) (a.eval y) := (asSlice_rep hrep hes).mono hsame2.m
      obtain ⟨v', w', gh', hrun, hs', hv'⟩ := append_sound h2 (k := d) (c := ⟨[], e, s, false⟩) (by simp [upd_same]) (t := t) (ty := o.type) (tElem_und he) hi hzz his h0 hzs hrep2 hl2 (by rw [← hby]; exact hb) h63
      have e1 : upd (upd (cv st.chs (st.ev G y)).chs d (some ⟨[], e, s, false⟩)) d (some ⟨[] ++ es2, e, s, false⟩) = upd (cv st.chs (st.ev G y)).chs d (some ⟨es2, e, s, false⟩) := by
        funext j
        simp only [upd, List.nil_append]
        split <;> rfl
      simp only [e1] at hs'
      refine ⟨v', w', gh', .inl ?_, ?_⟩
      · rw [hgam2] at hrun
        simp only [chVal] at hrun
        simp only [execOp, ho, resolve, invoke, builtin, Sem.run_bind, Sem.run_pure, Result.andThen_ok, List.map_toArray, List.map_cons, List.map_nil, hvx, hrun]
      · rw [hd]
        refine hs'.put (d := some d) hdn ⟨⟨es2, e, s, false⟩, by simp [upd_same], by simp, fun _ => ?_⟩
        rw [hv']
        simp
    · exact hp.elim
  · exact hp.elim

/-! ### closures -/
def vMakeFunc (G : Nat → Option (List PV)) (st : VS) (d : Option Tmp) (f : FuncId) (caps : List Operand) : Prop × VS :=
  (okDst st d ∧ (∀ x ∈ caps, okOp x) ∧ (caps.map (st.ev G)).all isPlain = true, st.put d (.func f (caps.map (st.ev G))))

theorem makeFunc_sound (h : Sim P G w0 gh0 nx0 st a w gh) {o : Oper} {f : FuncId} {caps : Array Operand} (ho : o.op = .makeFunc (.func f) #[] caps) (hp : (vMakeFunc G st o.dst f caps.toList).1) :
    SoundO P G w0 gh0 nx0 a w o (vMakeFunc G st o.dst f caps.toList).2 := by
  obtain ⟨hdst, hok, hall⟩ := hp
  refine ⟨.func (.func f) #[] (caps.map a.eval), w, gh, .inl (by simp [execOp, ho, Instr.makeFunc]), h.put hdst (RepT.of_s (.func f _ _ (by simp) ?_))⟩
  intro i hi
  have hi' : i < caps.size := by simpa using hi
  have := ev_sound h (caps[i]) (hok _ (by simp))
  have hpl : isPlain (st.ev G (caps[i])) = true := List.all_eq_true.1 hall _ (by simp only [List.mem_map]; exact ⟨caps[i], by simp, rfl⟩)
  simpa [hi'] using this.plain hpl

/-! ### slice expressions -/
/-- A bound: given, or not. -/
def bnd (G : Nat → Option (List PV)) (st : VS) (g : Option Bool) (x : Option Operand) (k : Option Int → VR) : VR :=
  match x with
  | none => k none
  | some x => look G st g x fun p => match p with
    | .val (.int _ n) => k (some n)
    | _ => .bad

theorem bnd_elim (h : Sim P G w0 gh0 nx0 st a w gh) {g : Option Bool} {x : Option Operand} {k : Option Int → VR} (hp : (bnd G st g x k).pre) (hg : onG g) :
    ∃ n, ((x = none ∧ n = none) ∨ ∃ y kk m, x = some y ∧ n = some m ∧ a.eval y = .int kk m) ∧ (k n).pre ∧ (bnd G st g x k).fact = (k n).fact ∧ (bnd G st g x k).v = (k n).v := by
  unfold bnd at *
  cases x with
  | none => exact ⟨none, .inl ⟨rfl, rfl⟩, hp, rfl, rfl⟩
  | some y =>
    obtain ⟨q, hq, hq2, hf, hv⟩ := look_elim h hp hg
    simp only at hf hv ⊢
    rw [hf, hv]
    split at hq2
    · rename_i kk n
      obtain ⟨e, _⟩ := RepT.val_inv hq
      exact ⟨some n, .inr ⟨y, kk, n, rfl, rfl, e⟩, hq2, rfl, rfl⟩
    · exact absurd hq2 (by simp [VR.bad])

def vSlice (P : Program) (G : Nat → Option (List PV)) (st : VS) (g : Option Bool) (t : TypeId) (x : Operand) (lo hi : Option Operand) : VR :=
  look G st g x fun px => bnd G st g lo fun l => bnd G st g hi fun hh => match px with
    | .val (.string s) => ⟨P.underlying t = some .string ∧ 0 ≤ l.getD 0 ∧ l.getD 0 ≤ hh.getD s.size ∧ hh.getD s.size ≤ s.size, True, .val (.string (s.extract (l.getD 0).toNat (hh.getD s.size).toNat))⟩
    | .row e 0 => match P.underlying t, l, hh with
      | some (.array n el), none, none => ⟨tSize P el = some 1 ∧ e.length = n ∧ n ≤ maxLen, True, .slice (e.map fun c => [c])⟩
      | _, _, _ => .bad
    | _ => .bad

theorem run_bound {x : Value} {kk : IntKind} {n : Int} {y : Nat} {code : BoundsCode} (hx : x = .int kk n) (h0 : 0 ≤ n) (h1 : n ≤ y) : (Instr.sliceBound x y code).run P w = .ok n.toNat w := by
  subst hx
  simp [Instr.sliceBound, asIntOf, h0, h1]

theorem slice_sound (h : Sim P G w0 gh0 nx0 st a w gh) {g : Option Bool} (hg : onG g) {o : Oper} {t : TypeId} {x : Operand} {lo hi : Option Operand} (ho : o.op = .slice t x lo hi none) (hp : (vSlice P G st g t x lo hi).pre) :
    Sound P gh st a w o (vSlice P G st g t x lo hi) := by
  obtain ⟨q, hq, hq2, hf, hv⟩ := look_elim h hp hg
  obtain ⟨l, hl, hl2, hlf, hlv⟩ := bnd_elim h hq2 hg
  obtain ⟨hh, hh1, hh2, hhf, hhv⟩ := bnd_elim h hl2 hg
  unfold vSlice Sound
  rw [hf, hv, hlf, hlv, hhf, hhv]
  split at hh2
  · rename_i s
    obtain ⟨hu, h0, h1, h2⟩ := hh2
    obtain ⟨e, ok⟩ := RepT.val_inv hq
    refine ⟨.string (s.extract (l.getD 0).toNat (hh.getD s.size).toNat), ?_, RepT.of_s (.pure (.val _ ?_)), trivial⟩
    · rcases hl with ⟨rfl, rfl⟩ | ⟨y, kk, m, rfl, rfl, el⟩ <;> rcases hh1 with ⟨rfl, rfl⟩ | ⟨y2, kk2, m2, rfl, rfl, eh⟩ <;> simp only [Option.getD_some, Option.getD_none] at h0 h1 h2 ⊢
      · simp [Gives, execOp, ho, e, Instr.sliceAt, run_underlying hu, Instr.slice, Instr.sliceBounds]
      · have hb := run_bound (P := P) (w := w) (x := a.eval y2) (code := .sliceAlen) eh h1 h2
        simp [Gives, execOp, ho, e, Instr.sliceAt, run_underlying hu, Instr.slice, Instr.sliceBounds, hb]
      · have hb := run_bound (P := P) (w := w) (x := a.eval y) (code := .sliceB) el h0 h1
        simp [Gives, execOp, ho, e, Instr.sliceAt, run_underlying hu, Instr.slice, Instr.sliceBounds, hb]
      · have hb := run_bound (P := P) (w := w) (x := a.eval y2) (code := .sliceAlen) eh (by omega) h2
        have hb2 := run_bound (P := P) (w := w) (x := a.eval y) (y := m2.toNat) (code := .sliceB) el h0 (by omega)
        simp [Gives, execOp, ho, e, Instr.sliceAt, run_underlying hu, Instr.slice, Instr.sliceBounds, hb, hb2]
    · have hs : s.size ≤ maxLen := ok
      show (s.extract _ _).size ≤ maxLen
      rw [ByteArray.size_extract]
      omega
  · rename_i e
    split at hh2
    · rename_i n el hu
      obtain ⟨hs, hn, hmax⟩ := hh2
      obtain ⟨g1, o1, u, ev, hu1, hr1⟩ := hq.row_inv
      have hlo : lo = none := by rcases hl with ⟨rfl, _⟩ | ⟨_, _, _, _, h3, _⟩; rfl; cases h3
      have hhi : hi = none := by rcases hh1 with ⟨rfl, _⟩ | ⟨_, _, _, _, h3, _⟩; rfl; cases h3
      subst hlo hhi
      refine ⟨.slice (some ⟨g1, o1, none⟩) n n, ?_, ?_, trivial⟩
      · simp only [Gives, execOp, ho, ev, Instr.sliceAt, Sem.run_bind, run_underlying hu, Result.andThen_ok, Instr.sureAddr, Instr.sliceBounds, Option.map_none, Sem.run_pure, run_sizeOf hs, Nat.add_zero]
        by_cases hz : n = 0
        · simp [hz]
        · simp [hz, addr_add]
      · refine RepT.of_s (.pure ?_)
        have := RepV.slice (m := gh.m) (e.map fun c => [c]) g1 o1 n 1 (fun i _ => u i) (by simp [hn]) hmax (by intro i hi; simp) (by
          intro i k hi hk
          have hk0 : k = 0 := by omega
          subst hk0
          simp at hi
          simpa using hu1 i (by omega)) (by
          intro i hi k hk
          simp at hi hk
          subst hk
          simpa using hr1 i (by omega))
        simpa [hn] using this
    · exact absurd hh2 (by simp [VR.bad])
  · exact absurd hh2 (by simp [VR.bad])
end
end Go.Proofs.YtaackmiajgapoaaGreatDoor.V

/- A program logic at the level of values: operations, regions, code; soundness. -/
set_option linter.unusedVariables false
set_option linter.unusedSimpArgs false
namespace Go.Proofs.YtaackmiajgapoaaGreatDoor.V
open Go

section
variable {P : Program} {G : Nat → Option (List PV)} {w0 : World} {gh0 : Gh} {nx0 : Nat} {st : VS} {a : Act} {w : World} {gh : Gh}

/-- What stands behind a piece of code, in the machine. -/
def WQ (P : Program) (G : Nat → Option (List PV)) (w0 : World) (gh0 : Gh) (nx0 : Nat) (Q : VExit → VS → Prop) : Exit → Act → World → Prop
  | .normal, a, w => ∃ st gh, Q .normal st ∧ Sim P G w0 gh0 nx0 st a w gh
  | .exit id, a, w => ∃ st gh, Q (.exit id) st ∧ Sim P G w0 gh0 nx0 st a w gh
  | .ret, a, w => ∃ st gh, Q .ret st ∧ Sim P G w0 gh0 nx0 st a w gh
  | .panic ch, a, w => ∃ st gh t p v, ch = [{ v := .iface t v, recovered := false }] ∧ Q (.pan t p) st ∧ RepS gh.m gh.phi st.sh.next p v ∧ Sim P G w0 gh0 nx0 st a w gh
  | _, _, _ => False

def VWp (P : Program) (G : Nat → Option (List PV)) (c : Code) (Q : VExit → VS → Prop) (st : VS) : Prop :=
  ∀ w0 gh0 nx0 a w gh, Sim P G w0 gh0 nx0 st a w gh → c.wp P (WQ P G w0 gh0 nx0 Q) a w

/-- What stands behind a call. -/
def callK (st : VS) (d : Option Tmp) (K : VS → Prop) (Q : VExit → VS → Prop) : VEnd → Sh → Prop
  | .ret p, sh' => K ({ st with sh := sh' }.put d p)
  | .pan t p, sh' => Q (.pan t p) { st with sh := sh' }

def pureK (g : Option Bool) (d : Option Tmp) (st : VS) (r : VR) (K : VS → Prop) : Prop :=
  match g with
  | none => okDst st d ∧ r.pre ∧ (r.fact → K (st.put d r.v))
  | some b => okDst st d ∧ (b = true → r.pre) ∧ ((b = true → r.fact) → K (st.put d (.gd b r.v)))

def changeK (g : Option Bool) (x : Prop × VS) (K : VS → Prop) : Prop :=
  match g with
  | none => x.1 ∧ K x.2
  | some _ => False

def canCall (P : Program) (f : FuncId) : Bool :=
  match P.funcs[f]? with
  | some fn => !(fn.name == "runtime.NumGoroutine") && !fn.body.isNone
  | none => false

/-- A value, its guard taken off. -/
def ung (g : Option Bool) (p : PV) : Prop × PV :=
  match p with
  | .gd b q => (impG g b, q)
  | p => (True, p)

def vCallOp0 (P : Program) (G : Nat → Option (List PV)) (g : Option Bool) (st : VS) (d : Option Tmp) (f : Operand) (args : List Operand) (K : VS → Prop) (Q : VExit → VS → Prop) : Prop :=
  match (ung g (st.ev G f)).2 with
  | .func fid caps => match g with
    | none => (ung g (st.ev G f)).1 ∧ canCall P fid = true ∧ (∀ x ∈ args, okOp x) ∧ (cvs st.chs (args.map (st.ev G))).pre ∧
        VCalls P G fid ((cvs st.chs (args.map (st.ev G))).vs ++ caps) st.sh (callK { st with chs := (cvs st.chs (args.map (st.ev G))).chs } d K Q)
    | some b => (ung g (st.ev G f)).1 ∧ canCall P fid = true ∧ (∀ x ∈ args, okOp x ∧ (ung g (st.ev G x)).1) ∧ (args.map fun x => (ung g (st.ev G x)).2).all isPlain = true ∧
        ∃ p, (b = true → VCalls P G fid ((args.map fun x => (ung g (st.ev G x)).2) ++ caps) st.sh fun r sh' => r = .ret p ∧ sh' = st.sh) ∧ K (st.put d (.gd b p))
  | _ => False

/-- What is known of calls: their answers, and what is shared behind them. -/
abbrev Tb := FuncId → List PV → Sh → Option (PV × Sh)

def TabOk (P : Program) (G : Nat → Option (List PV)) (T : Tb) : Prop := ∀ f args sh r sh', T f args sh = some (r, sh') → VCalls P G f args sh fun e s => e = .ret r ∧ s = sh'

/-- A call whose contract is asked for. -/
@[irreducible] def Ask (P : Program) (G : Nat → Option (List PV)) (f : FuncId) (args : List PV) (sh : Sh) (R : VEnd → Sh → Prop) : Prop := VCalls P G f args sh R
theorem Ask.out {f : FuncId} {args : List PV} {sh : Sh} {R : VEnd → Sh → Prop} (h : Ask P G f args sh R) : VCalls P G f args sh R := by unfold Ask at h; exact h
theorem Ask.of {f : FuncId} {args : List PV} {sh : Sh} {R : VEnd → Sh → Prop} (h : VCalls P G f args sh R) : Ask P G f args sh R := by unfold Ask; exact h
theorem Ask.mono {f : FuncId} {args : List PV} {sh : Sh} {R R' : VEnd → Sh → Prop} (h : Ask P G f args sh R) (hr : ∀ r s, R r s → R' r s) : Ask P G f args sh R' := .of (h.out.mono hr)

def vCallN (P : Program) (G : Nat → Option (List PV)) (T : Tb) (st : VS) (d : Option Tmp) (f : FuncId) (args : List PV) (K : VS → Prop) (Q : VExit → VS → Prop) : Prop :=
  match T f args st.sh with
  | some (r, sh') => K ({ st with sh := sh' }.put d r)
  | none => Ask P G f args st.sh (callK st d K Q)

def vCallG (P : Program) (G : Nat → Option (List PV)) (T : Tb) (b : Bool) (st : VS) (d : Option Tmp) (f : FuncId) (args : List PV) (K : VS → Prop) : Prop :=
  match T f args st.sh with
  | some (r, sh') => sh' = st.sh ∧ K (st.put d (.gd b r))
  | none => ∃ p, (b = true → VCalls P G f args st.sh fun r sh' => r = .ret p ∧ sh' = st.sh) ∧ K (st.put d (.gd b p))

def vCallOp (P : Program) (G : Nat → Option (List PV)) (T : Tb) (g : Option Bool) (st : VS) (d : Option Tmp) (f : Operand) (args : List Operand) (K : VS → Prop) (Q : VExit → VS → Prop) : Prop :=
  match (ung g (st.ev G f)).2 with
  | .func fid caps => match g with
    | none => (ung g (st.ev G f)).1 ∧ canCall P fid = true ∧ (∀ x ∈ args, okOp x) ∧ (cvs st.chs (args.map (st.ev G))).pre ∧
        vCallN P G T { st with chs := (cvs st.chs (args.map (st.ev G))).chs } d fid ((cvs st.chs (args.map (st.ev G))).vs ++ caps) K Q
    | some b => (ung g (st.ev G f)).1 ∧ canCall P fid = true ∧ (∀ x ∈ args, okOp x ∧ (ung g (st.ev G x)).1) ∧ (args.map fun x => (ung g (st.ev G x)).2).all isPlain = true ∧
        vCallG P G T b st d fid ((args.map fun x => (ung g (st.ev G x)).2) ++ caps) K
  | _ => False

/-- Before a struct is read whole: the chains in it are handed on. -/
def settle (G : Nat → Option (List PV)) (st : VS) (x : Operand) : Prop × VS :=
  match st.ev G x with
  | .loc d _ => match st.locs d with
    | some cs => match cs.all isPlain with
      | true => (True, st)
      | false => ((cvs st.chs cs).pre, { st with chs := (cvs st.chs cs).chs, locs := upd st.locs d (some (cvs st.chs cs).vs) })
    | none => (True, st)
  | _ => (True, st)

def vLoadOp (P : Program) (G : Nat → Option (List PV)) (g : Option Bool) (st : VS) (d : Option Tmp) (t : TypeId) (x : Operand) (K : VS → Prop) : Prop :=
  match g, tAgg P t with
  | none, some true => (settle G st x).1 ∧ pureK none d (settle G st x).2 (vLoad P G (settle G st x).2 none t x) K
  | g, _ => pureK g d st (vLoad P G st g t x) K

def vOp (P : Program) (G : Nat → Option (List PV)) (T : Tb) (g : Option Bool) (o : Oper) (st : VS) (K : VS → Prop) (Q : VExit → VS → Prop) : Prop :=
  match o.op with
  | .move x => pureK g o.dst st (vMove G st g x) K
  | .assign x => pureK g o.dst st (vMove G st g x) K
  | .pick c x y => pureK g o.dst st (vPick G st g c x y) K
  | .binOp op t x y _ => pureK g o.dst st (vBin P G st g t op x y) K
  | .unOp op _ x => pureK g o.dst st (vUn G st g op x) K
  | .convert s d x => pureK g o.dst st (vConv P G st g s d x) K
  | .nilCheck x => pureK g o.dst st (vNil G st g x) K
  | .fieldAddr s x f => pureK g o.dst st (vFieldAddr P G st g s x f) K
  | .indexAddr t x i => pureK g o.dst st (vIndexAddr P G st g t x i) K
  | .load t x => vLoadOp P G g st o.dst t x K
  | .field t x f => pureK g o.dst st (vField P G st g t x f) K
  | .index t x i => pureK g o.dst st (vIndex P G st g t x i) K
  | .extract x i => pureK g o.dst st (vExtract G st g x i) K
  | .slice t x lo hi none => pureK g o.dst st (vSlice P G st g t x lo hi) K
  | .alloc e => changeK g (vAlloc P st o.dst e) K
  | .box e x => changeK g (vBox P G st o.dst e x) K
  | .store t x y => o.dst = none ∧ changeK g (vStore P G st t x y) K
  | .build t parts => changeK g (vBuild P G st o.dst t parts.toList) K
  | .buildSlice t n parts => changeK g (vBuildSlice P G st o.dst t n parts.toList) K
  | .makeFunc (.func f) first caps => first.toList = [] ∧ changeK g (vMakeFunc G st o.dst f caps.toList) K
  | .call c => match c.callee, c.args.toList, c.argTypes.toList with
    | .builtin .len, [x], [t] => pureK g o.dst st (vLen P G st g t x) K
    | .builtin .append, [x, y], [t, t'] => t = t' ∧ okOp x ∧ changeK g (vAppend P G st o.dst t x y) K
    | .value f, args, _ => okDst st o.dst ∧ okOp f ∧ vCallOp P G T g st o.dst f args K Q
    | _, _, _ => False
  | _ => False

def guardOf (ops : List Oper) (j : Nat) (want : Bool) (st : VS) : Option Bool :=
  match (ops[j]?).bind (·.dst) with
  | some d => match st.tmps d with
    | .val (.bool b) => some (b == want)
    | .gd c (.val (.bool b)) => some (c && (b == want))
    | _ => none
  | none => none

def vList (P : Program) (G : Nat → Option (List PV)) (T : Tb) (ops : List Oper) (Q : VExit → VS → Prop) : List Oper → VS → Prop
  | [], st => Q .normal st
  | o :: rest, st => match o.guard with
    | none => vOp P G T none o st (vList P G T ops Q rest) Q
    | some (j, want) => match guardOf ops j want st with
      | some b => vOp P G T (some b) o st (vList P G T ops Q rest) Q
      | none => False

def thenQ (next : VS → Prop) (Q : VExit → VS → Prop) : VExit → VS → Prop
  | .normal, st => next st
  | .exit id, st => Q (.exit id) st
  | .ret, st => Q .ret st
  | .pan t p, st => Q (.pan t p) st

def blockQ (id : Nat) (Q : VExit → VS → Prop) : VExit → VS → Prop
  | .normal, st => Q .normal st
  | .exit id', st => if id' = id then Q .normal st else Q (.exit id') st
  | .ret, st => Q .ret st
  | .pan t p, st => Q (.pan t p) st

def vCode (P : Program) (G : Nat → Option (List PV)) (T : Tb) : Code → (VExit → VS → Prop) → VS → Prop
  | .skip, Q, st => Q .normal st
  | .region id ops draw, Q, st => match draw with
    | false => vList P G T ops.toList Q ops.toList st
    | true => VWp P G (.region id ops true) Q st
  | .seq x y, Q, st => vCode P G T x (thenQ (vCode P G T y Q) Q) st
  | .cond c x y, Q, st => match st.ev G c with
    | .val (.bool b) => okOp c ∧ (b = true → vCode P G T x Q st) ∧ (b = false → vCode P G T y Q st)
    | _ => False
  | .block id c, Q, st => vCode P G T c (blockQ id Q) st
  | .loop c, Q, st => VWp P G (.loop c) Q st
  | .exit id, Q, st => Q (.exit id) st
  | .ret, Q, st => Q .ret st
  | c, Q, st => VWp P G c Q st

/-! ### Soundness -/
theorem wp_value {o : Oper} {K : Act → World → Prop} {Q : Exit → Act → World → Prop} {v : Value} {w' : World} (hr : (execOp a.eval o).run P w = .ok (.value v) w') (h : K (a.put o.dst v) w') : o.wp P a w K Q := by
  unfold Oper.wp
  rw [hr]
  exact h

theorem pureK_sound (h : Sim P G w0 gh0 nx0 st a w gh) {g : Option Bool} {o : Oper} {r : VR} {K : VS → Prop} {K' : Act → World → Prop} {Q : Exit → Act → World → Prop} (hg : onG g)
    (hr : r.pre → Sound P gh st a w o r) (hk : pureK g o.dst st r K) (hK : ∀ st' a' w' gh', K st' → Sim P G w0 gh0 nx0 st' a' w' gh' → K' a' w') : o.wp P a w K' Q := by
  unfold pureK at hk
  split at hk
  · obtain ⟨hd, hp, hk⟩ := hk
    obtain ⟨v, hv, hrep, hf⟩ := hr hp
    exact wp_value hv (hK _ _ _ _ (hk hf) (h.put hd hrep))
  · rename_i b
    obtain ⟨hd, hp, hk⟩ := hk
    have hb : b = true := hg
    subst hb
    obtain ⟨v, hv, hrep, hf⟩ := hr (hp rfl)
    exact wp_value hv (hK _ _ _ _ (hk fun _ => hf) (h.put hd hrep))

theorem changeK_sound {g : Option Bool} {o : Oper} {x : Prop × VS} {K : VS → Prop} {K' : Act → World → Prop} {Q : Exit → Act → World → Prop}
    (hr : x.1 → SoundO P G w0 gh0 nx0 a w o x.2) (hk : changeK g x K) (hK : ∀ st' a' w' gh', K st' → Sim P G w0 gh0 nx0 st' a' w' gh' → K' a' w') : o.wp P a w K' Q := by
  unfold changeK at hk
  split at hk
  · obtain ⟨v, w', gh', hrun, hs⟩ := hr hk.1
    rcases hrun with hrun | ⟨hrun, rfl⟩
    · exact wp_value hrun (hK _ _ _ _ hk.2 hs)
    · unfold Oper.wp
      rw [hrun]
      exact hK _ _ _ _ hk.2 hs
  · exact hk.elim

theorem ung_rep {g : Option Bool} {p : PV} {v : Value} (h : RepT gh st.locs st.chs st.sh.next p v) (hp : (ung g p).1) (hg : onG g) : RepT gh st.locs st.chs st.sh.next (ung g p).2 v := by
  unfold ung at *
  cases p with
  | gd b q =>
    simp only at hp ⊢
    have hb : b = true := by
      cases g with
      | none => exact hp
      | some c => exact hp hg
    subst hb
    exact h
  | _ => exact h

theorem run_enter {f : FuncId} {args : Array Value} (h : canCall P f = true) : (callFunc f args).run P w = .ok (.enter f args) w := by
  unfold canCall at h
  split at h
  · rename_i fn hf
    simp only [Bool.and_eq_true, Bool.not_eq_true'] at h
    simp only [callFunc, Sem.run_bind, run_program, Result.andThen_ok, hf, h.1, h.2, Bool.false_eq_true, if_false, Sem.run_pure]
  · cases h

theorem getD_append (a b : Array Value) (i : Nat) : (a ++ b).getD i undef = if i < a.size then a.getD i undef else b.getD (i - a.size) undef := by
  simp only [Array.getD_eq_getD_getElem?, Array.getElem?_append]
  split <;> rfl

/-- Arguments, and what was captured. -/
theorem args_rep {m : Mem} {phi : Nat → Nat} {nx : Nat} {as caps : List PV} {vs cs : Array Value} (hl : as.length = vs.size) (h : ∀ i (h : i < as.length), RepS m phi nx (as[i]) (vs.getD i undef))
    (hc : ∀ i (h : i < caps.length), RepS m phi nx (caps[i]) (cs.getD i undef)) : ∀ i (h : i < (as ++ caps).length), RepS m phi nx ((as ++ caps)[i]) ((vs ++ cs).getD i undef) := by
  intro i hi
  rw [getD_append]
  by_cases hlt : i < as.length
  · rw [if_pos (by omega), List.getElem_append_left hlt]; exact h i hlt
  · rw [if_neg (by omega), List.getElem_append_right (by omega)]
    have := hc (i - as.length) (by simp at hi; omega)
    rw [← hl]
    exact this

theorem settle_sound (h : Sim P G w0 gh0 nx0 st a w gh) (x : Operand) (hp : (settle G st x).1) : ∃ gh', Sim P G w0 gh0 nx0 (settle G st x).2 a w gh' := by
  unfold settle at *
  split at hp
  · rename_i d off hx
    split at hp
    · rename_i cs hd
      split at hp
      · exact ⟨gh, h⟩
      · obtain ⟨_, cur, ty, h2, h3, h4⟩ := h.locs d cs hd
        obtain ⟨gh1, hs1, hsame, hfrz, hl, hr⟩ := cvs_sound cs st gh (fun i => cur.getD i undef) h (fun i hi => (h4 i hi).1) hp
        obtain ⟨k1, cur', ty', k2, k3, k4⟩ := hs1.locs d cs hd
        rw [hsame.lam] at k2
        rw [h2] at k2
        cases k2
        have hlm : ∀ d', (st.locs d').isSome = true → (upd st.locs d (some (cvs st.chs cs).vs) d').isSome = true := by
          intro d' hd'
          unfold upd
          split
          · rfl
          · exact hd'
        have rt : ∀ {p : PV} {v : Value}, RepT gh1 st.locs (cvs st.chs cs).chs st.sh.next p v → RepT gh1 (upd st.locs d (some (cvs st.chs cs).vs)) (cvs st.chs cs).chs st.sh.next p v := fun h =>
          RepT.mono (MemLe.refl _) (fun _ _ => rfl) (Nat.le_refl _) (fun d' hd' => ⟨hlm d' hd', rfl⟩) (fun k c hc => ⟨c, hc, Nat.le_refl _, fun _ => ⟨rfl, rfl⟩⟩) h
        refine ⟨gh1, hs1.sh, hs1.n, hs1.defers, fun i => rt (hs1.tmps i), ?_, hs1.lown, hs1.chs, hs1.step⟩
        intro d' cs' hd'
        have hd'' : upd st.locs d (some (cvs st.chs cs).vs) d' = some cs' := hd'
        by_cases e : d' = d
        · subst e
          rw [upd_same] at hd''
          cases hd''
          refine ⟨k1, cur, ty, by rw [hsame.lam]; exact h2, by rw [hl]; exact h3, fun k hk => ⟨RepT.of_s (hr k hk), ?_⟩⟩
          exact (k4 k (by rw [← hl]; exact hk)).2
        · rw [upd_ne _ _ _ _ e] at hd''
          obtain ⟨q1, cur2, ty2, q2, q3, q4⟩ := hs1.locs d' cs' hd''
          exact ⟨q1, cur2, ty2, q2, q3, fun k hk => ⟨rt (q4 k hk).1, (q4 k hk).2⟩⟩
    · exact ⟨gh, h⟩
  · exact ⟨gh, h⟩

theorem loadOp_sound (h : Sim P G w0 gh0 nx0 st a w gh) {g : Option Bool} (hg : onG g) {o : Oper} {t : TypeId} {x : Operand} (ho : o.op = .load t x) {K : VS → Prop} {K' : Act → World → Prop} {Q : Exit → Act → World → Prop}
    (hk : vLoadOp P G g st o.dst t x K) (hK : ∀ st' a' w' gh', K st' → Sim P G w0 gh0 nx0 st' a' w' gh' → K' a' w') : o.wp P a w K' Q := by
  unfold vLoadOp at hk
  split at hk
  · obtain ⟨h1, h2⟩ := hk
    obtain ⟨gh', hs⟩ := settle_sound h x h1
    exact pureK_sound hs (g := none) trivial (load_sound hs (g := none) trivial ho) h2 hK
  · exact pureK_sound h hg (load_sound h hg ho) hk hK

def onlyB : Owner → Owner
  | .box b => .box b
  | _ => .none

/-- A CALL, in a frame that has its own memory. -/
theorem call_sound (h : Sim P G w0 gh0 nx0 st a w gh) {f : FuncId} {ps : List PV} {vs : Array Value} {R : VEnd → Sh → Prop} (hv : VCalls P G f ps st.sh R) (hl : ps.length = vs.size)
    (hr : ∀ i (h : i < ps.length), RepS gh.m gh.phi st.sh.next (ps[i]) (vs.getD i undef)) :
    Calls P f vs w fun e w' => ∃ r sh' gh', R r sh' ∧ RepE gh' sh'.next r e ∧ Sim P G w0 gh0 nx0 { st with sh := sh' } a w' gh' := by
  have hob : ∀ {g b}, onlyB (gh.own g) = .box b → gh.own g = .box b := by
    intro g b e
    cases ho : gh.own g with
    | box b' => rw [ho] at e; exact e
    | _ => rw [ho] at e; cases e
  refine (hv w { gh with own := fun g => onlyB (gh.own g) } vs ⟨h.sh.mem, h.sh.glob, ?_, ?_, ?_⟩ ?_ hl hr).mono ?_
  · intro b cs hb
    obtain ⟨h1, h2, h3⟩ := h.sh.box b cs hb
    exact ⟨h1, by show onlyB _ = _; rw [h2]; rfl, h3⟩
  · intro g b e
    exact h.sh.nomem g b (hob e)
  · intro g e
    refine h.sh.lt g fun e' => e ?_
    show onlyB _ = _
    rw [e']; rfl
  · intro g
    cases ho : gh.own g with
    | box b => exact .inr ⟨b, by show onlyB _ = _; rw [ho]; rfl⟩
    | _ => exact .inl (by show onlyB _ = _; rw [ho]; rfl)
  · rintro e w' ⟨r, sh', gh1, hR, hE, hS, hO, hstep⟩
    have hnb : ∀ {g}, (∀ b, gh.own g ≠ .box b) → onlyB (gh.own g) = .none := by
      intro g hg
      cases ho : gh.own g with
      | box b => exact absurd ho (hg b)
      | _ => rfl
    have hkeep : ∀ {g}, (∀ b, gh.own g ≠ .box b) → gh.own g ≠ .none → w'.heap[g]? = w.heap[g]? ∧ gh1.own g = .none ∧ ∀ o, gh1.m g o = gh.m g o := by
      intro g hg hn
      exact hstep.blk g (h.sh.lt g hn) (hnb hg)
    let own' : Nat → Owner := fun g => match gh.own g with | .loc d => .loc d | .chain k => .chain k | _ => gh1.own g
    have ho1 : ∀ {g b}, own' g = .box b → gh1.own g = .box b := by
      intro g b e
      simp only [own'] at e
      split at e
      · cases e
      · cases e
      · exact e
    have ho2 : ∀ {g b}, gh1.own g = .box b → own' g = .box b := by
      intro g b e
      simp only [own']
      split
      · rename_i d ho
        have := (hkeep (g := g) (by rw [ho]; intro _ e; cases e) (by rw [ho]; intro e; cases e)).2.1
        rw [this] at e; cases e
      · rename_i d ho
        have := (hkeep (g := g) (by rw [ho]; intro _ e; cases e) (by rw [ho]; intro e; cases e)).2.1
        rw [this] at e; cases e
      · exact e
    refine ⟨r, sh', { gh1 with own := own', lam := gh.lam, gam := gh.gam }, hR, ?_, h.share (gh' := { gh1 with own := own', lam := gh.lam, gam := gh.gam }) ⟨hS.mem, hS.glob, ?_, ?_, ?_⟩ hstep.mle hstep.phi hstep.nx rfl rfl ⟨hstep.os, hstep.tape, hstep.output, hstep.size, ?_, hstep.mle, hstep.phi, hstep.nx⟩ ?_ ?_ ?_⟩
    · cases r with
      | ret p => exact hE
      | pan t p => exact hE
    · intro b cs hb
      obtain ⟨h1, h2, h3⟩ := hS.box b cs hb
      exact ⟨h1, ho2 h2, h3⟩
    · intro g b e
      exact hS.nomem g b (ho1 e)
    · intro g e
      by_cases hg : gh1.own g = .none
      · have e' : own' g ≠ .none := e
        simp only [own'] at e'
        split at e'
        · rename_i d ho
          exact Nat.lt_of_lt_of_le (h.sh.lt g (by rw [ho]; intro e; cases e)) hstep.size
        · rename_i d ho
          exact Nat.lt_of_lt_of_le (h.sh.lt g (by rw [ho]; intro e; cases e)) hstep.size
        · exact absurd hg e'
      · exact hS.lt g hg
    · intro g hg ho
      obtain ⟨k1, k2, k3⟩ := hstep.blk g hg (by show onlyB _ = _; rw [ho]; rfl)
      refine ⟨k1, ?_, k3⟩
      show own' g = _
      simp only [own', ho]
      exact k2
    · intro g d ho
      have := hkeep (g := g) (by rw [ho]; intro _ e; cases e) (by rw [ho]; intro e; cases e)
      exact ⟨by show own' g = _; simp only [own', ho], this.1⟩
    · intro g d ho o
      have ho' : own' g = .loc d := ho
      simp only [own'] at ho'
      split at ho'
      · rename_i d' hod
        cases ho'
        have := hkeep (g := g) (by rw [hod]; intro _ e; cases e) (by rw [hod]; intro e; cases e)
        show gh1.m g o = none
        rw [this.2.2 o]
        exact h.lown g d hod o
      · cases ho'
      · rcases hO g with e | ⟨b, e⟩
        · rw [e] at ho'; cases ho'
        · rw [e] at ho'; cases ho'
    · intro g k ho
      have := hkeep (g := g) (by rw [ho]; intro _ e; cases e) (by rw [ho]; intro e; cases e)
      exact ⟨by show own' g = _; simp only [own', ho], this.1, this.2.2⟩

theorem callOp_sound (h : Sim P G w0 gh0 nx0 st a w gh) {g : Option Bool} (hg : onG g) {o : Oper} {c : Call} (ho : o.op = .call c) {f : Operand} (hcal : c.callee = .value f) (hd : okDst st o.dst) {K : VS → Prop} {Q : VExit → VS → Prop} {K' : Act → World → Prop}
    (hf : okOp f) (hk : vCallOp0 P G g st o.dst f c.args.toList K Q) (hK : ∀ st' a' w' gh', K st' → Sim P G w0 gh0 nx0 st' a' w' gh' → K' a' w') : o.wp P a w K' (WQ P G w0 gh0 nx0 Q) := by
  unfold vCallOp0 at hk
  have hfr := ev_sound h f hf
  split at hk
  · rename_i f' caps hu
    have key : ∀ {st1 : VS} {gh1 : Gh} {args : List PV} {R : VEnd → Sh → Prop}, Sim P G w0 gh0 nx0 st1 a w gh1 → (ung g (st.ev G f)).1 → canCall P f' = true → args.length = c.args.size → (∀ i (hi : i < args.length), RepS gh1.m gh1.phi st1.sh.next (args[i]) ((c.args.map a.eval).getD i undef)) →
        MemLe gh.m gh1.m → gh1.phi = gh.phi → st1.sh = st.sh → VCalls P G f' (args ++ caps) st1.sh R →
        (∀ r sh' e w' gh', R r sh' → RepE gh' sh'.next r e → Sim P G w0 gh0 nx0 { st1 with sh := sh' } a w' gh' → match e with | .returned v => K' (a.put o.dst v) w' | .panicked ch => WQ P G w0 gh0 nx0 Q (.panic ch) a w' | .outgrown => False) →
        o.wp P a w K' (WQ P G w0 gh0 nx0 Q) := by
      intro st1 gh1 args R hs1 hung hcan hlen hrep hm hphi hsh hv hfin
      have hfr' := ung_rep hfr hung hg
      rw [hu] at hfr'
      obtain ⟨cs, ev, hcl, hcr⟩ := hfr'.func_inv
      have hcall := call_sound hs1 hv (vs := (c.args.map a.eval) ++ cs) (by simp [hlen, hcl]) (args_rep (by simpa using hlen) hrep (fun i hi => by rw [hphi, hsh]; exact (hcr i hi).mono hm (fun _ _ => rfl) (Nat.le_refl _)))
      have hrun : (execOp a.eval o).run P w = .ok (.enter f' ((c.args.map a.eval) ++ cs)) w := by
        simp only [execOp, ho, resolve, hcal, ev, Deferred.ofValue, Sem.run_bind, Sem.run_pure, Result.andThen_ok, invoke, Array.empty_append]
        exact run_enter hcan
      unfold Oper.wp
      rw [hrun]
      refine hcall.mono fun e w' he => ?_
      obtain ⟨r, sh', gh', hR, hE, hS⟩ := he
      have := hfin r sh' e w' gh' hR hE hS
      cases e with
      | returned v => exact this
      | panicked ch => exact this
      | outgrown => exact this.elim
    split at hk
    · obtain ⟨hung, hcan, hok, hpre, hv⟩ := hk
      obtain ⟨gh1, hs1, hsame, _, hl, hr⟩ := cvs_sound (P := P) (G := G) (w0 := w0) (gh0 := gh0) (nx0 := nx0) (a := a) (w := w) (c.args.toList.map (st.ev G)) st gh (fun i => (c.args.map a.eval).getD i undef) h
        (fun i hi => by
          have hi' : i < c.args.size := by simpa using hi
          have := ev_sound h (c.args[i]) (hok _ (by simp))
          simpa [hi'] using this) hpre
      refine key hs1 hung hcan (by rw [hl]; simp) hr hsame.m hsame.phi rfl hv ?_
      intro r sh' e w' gh' hR hE hS
      cases r with
      | ret p =>
        obtain ⟨v, rfl, hrep⟩ := hE
        exact hK _ _ _ _ hR (hS.put hd (RepT.of_s hrep))
      | pan t p =>
        obtain ⟨v, rfl, hrep⟩ := hE
        exact ⟨_, gh', t, p, v, rfl, hR, hrep, hS⟩
    · rename_i b
      obtain ⟨hung, hcan, hok, hall, p, hv, hkk⟩ := hk
      have hb : b = true := hg
      subst hb
      refine key h hung hcan (by simp) (fun i hi => ?_) (MemLe.refl _) rfl rfl (hv rfl) ?_
      · have hi' : i < c.args.size := by simpa using hi
        obtain ⟨q1, q2⟩ := hok (c.args[i]) (by simp)
        have := ung_rep (ev_sound h (c.args[i]) q1) q2 hg
        have hpl : isPlain (ung (some true) (st.ev G (c.args[i]))).2 = true := List.all_eq_true.1 hall _ (by simp only [List.mem_map]; exact ⟨c.args[i], by simp, rfl⟩)
        simpa [hi'] using this.plain hpl
      · rintro r sh' e w' gh' ⟨rfl, rfl⟩ hE hS
        obtain ⟨v, rfl, hrep⟩ := hE
        exact hK _ _ _ _ hkk (hS.put hd (p := .gd true p) (show RepT _ _ _ _ p v from RepT.of_s hrep))
  · exact hk.elim

theorem callOp_tab {T : Tb} (hT : TabOk P G T) {g : Option Bool} {d : Option Tmp} {f : Operand} {args : List Operand} {K : VS → Prop} {Q : VExit → VS → Prop} (hk : vCallOp P G T g st d f args K Q) : vCallOp0 P G g st d f args K Q := by
  unfold vCallOp at hk
  unfold vCallOp0
  split at hk
  · split at hk
    · obtain ⟨h1, h2, h3, h4, h5⟩ := hk
      refine ⟨h1, h2, h3, h4, ?_⟩
      unfold vCallN at h5
      split at h5
      · rename_i r sh' ht
        refine (hT _ _ _ _ _ ht).mono ?_
        rintro e s ⟨rfl, rfl⟩
        exact h5
      · exact h5.out
    · obtain ⟨h1, h2, h3, h4, h5⟩ := hk
      refine ⟨h1, h2, h3, h4, ?_⟩
      unfold vCallG at h5
      split at h5
      · rename_i r sh' ht
        obtain ⟨h6, h7⟩ := h5
        rw [h6] at ht
        exact ⟨r, fun _ => hT _ _ _ _ _ ht, h7⟩
      · exact h5
  · exact hk

theorem vOp_sound {T : Tb} (hT : TabOk P G T) (h : Sim P G w0 gh0 nx0 st a w gh) {g : Option Bool} (hg : onG g) {o : Oper} {K : VS → Prop} {Q : VExit → VS → Prop} {K' : Act → World → Prop}
    (hk : vOp P G T g o st K Q) (hK : ∀ st' a' w' gh', K st' → Sim P G w0 gh0 nx0 st' a' w' gh' → K' a' w') : o.wp P a w K' (WQ P G w0 gh0 nx0 Q) := by
  unfold vOp at hk
  split at hk
  case h_1 x ho => exact pureK_sound h hg (move_sound h hg (.inl ho)) hk hK
  case h_2 x ho => exact pureK_sound h hg (move_sound h hg (.inr ho)) hk hK
  case h_3 c x y ho => exact pureK_sound h hg (pick_sound h hg ho) hk hK
  case h_4 op t x y t' ho => exact pureK_sound h hg (bin_sound h hg ho) hk hK
  case h_5 op t x ho => exact pureK_sound h hg (un_sound h hg ho) hk hK
  case h_6 s d x ho => exact pureK_sound h hg (conv_sound h hg ho) hk hK
  case h_7 x ho => exact pureK_sound h hg (nil_sound h hg ho) hk hK
  case h_8 s x f ho => exact pureK_sound h hg (fieldAddr_sound h hg ho) hk hK
  case h_9 t x i ho => exact pureK_sound h hg (indexAddr_sound h hg ho) hk hK
  case h_10 t x ho => exact loadOp_sound h hg ho hk hK
  case h_11 t x f ho => exact pureK_sound h hg (field_sound h hg ho) hk hK
  case h_12 t x i ho => exact pureK_sound h hg (index_sound h hg ho) hk hK
  case h_13 x i ho => exact pureK_sound h hg (extract_sound h hg ho) hk hK
  case h_14 t x lo hi ho => exact pureK_sound h hg (slice_sound h hg ho) hk hK
  case h_15 e ho => exact changeK_sound (alloc_sound h ho) hk hK
  case h_16 e x ho => exact changeK_sound (box_sound h ho) hk hK
  case h_17 t x y ho => exact changeK_sound (store_sound h ho hk.1) hk.2 hK
  case h_18 t parts ho => exact changeK_sound (build_sound h ho) hk hK
  case h_19 t n parts ho => exact changeK_sound (buildSlice_sound h ho) hk hK
  case h_20 f first caps ho =>
    obtain ⟨hf, hk⟩ := hk
    have : first = #[] := by cases first; simpa using hf
    subst this
    exact changeK_sound (makeFunc_sound h ho) hk hK
  case h_21 c ho =>
    split at hk
    · rename_i x t hc ha ht
      have hcc : c = { callee := .builtin .len, args := #[x], argTypes := #[t] } := by
        cases c with | mk cc aa tt =>
        simp only at hc ha ht
        subst hc
        congr
        · exact Array.toList_inj.1 (by simpa using ha)
        · exact Array.toList_inj.1 (by simpa using ht)
      exact pureK_sound h hg (len_sound h hg (by rw [ho, hcc])) hk hK
    · rename_i x y t t' hc ha ht
      obtain ⟨rfl, hx, hk⟩ := hk
      have hcc : c = { callee := .builtin .append, args := #[x, y], argTypes := #[t, t] } := by
        cases c with | mk cc aa tt =>
        simp only at hc ha ht
        subst hc
        congr
        · exact Array.toList_inj.1 (by simpa using ha)
        · exact Array.toList_inj.1 (by simpa using ht)
      exact changeK_sound (appendO_sound h (by rw [ho, hcc]) hx) hk hK
    · rename_i f hc
      exact callOp_sound h hg ho hc hk.1 hk.2.1 (callOp_tab hT hk.2.2) hK
    · exact hk.elim
  case h_22 => exact hk.elim

theorem yielded_bool {ops : Array Oper} {tmps : Array Value} {j d : Nat} {b : Bool} (hd : (ops[j]?).bind (·.dst) = some d) (h : tmps.getD d undef = .bool b) : yielded ops tmps j = some b := by
  unfold yielded
  rw [hd]
  simp only [Option.bind_some]
  rcases Nat.lt_or_ge d tmps.size with hlt | hge
  · simp [hlt] at h
    simp [hlt, h]
  · simp [hge, undef] at h

theorem yielded_undef {ops : Array Oper} {tmps : Array Value} {j d : Nat} (hd : (ops[j]?).bind (·.dst) = some d) (h : tmps.getD d undef = undef) : yielded ops tmps j = none := by
  unfold yielded
  rw [hd]
  simp only [Option.bind_some]
  rcases Nat.lt_or_ge d tmps.size with hlt | hge
  · simp [hlt] at h
    simp [hlt, h, undef]
  · simp [hge]

theorem guardOf_sound (h : Sim P G w0 gh0 nx0 st a w gh) {ops : Array Oper} {o : Oper} {j : Nat} {want b : Bool} (ho : o.guard = some (j, want)) (hb : guardOf ops.toList j want st = some b) : Region.wanted o (yielded ops a.tmps) = b := by
  unfold guardOf at hb
  unfold Region.wanted
  rw [ho]
  show (yielded ops a.tmps j == some want) = b
  simp only [Array.getElem?_toList] at hb
  split at hb
  · rename_i d hd
    have hr := h.tmps d
    split at hb
    · rename_i b' hb'
      rw [hb'] at hr
      obtain ⟨e, _⟩ := hr.val_inv
      rw [yielded_bool hd e]
      simp only [Option.some.injEq] at hb
      rw [← hb]
      cases b' <;> cases want <;> rfl
    · rename_i c b' hb'
      rw [hb'] at hr
      simp only [Option.some.injEq] at hb
      cases c with
      | true =>
        have hr' : RepT gh st.locs st.chs st.sh.next (.val (.bool b')) (a.tmps.getD d undef) := hr
        obtain ⟨e, _⟩ := hr'.val_inv
        rw [yielded_bool hd e, ← hb]
        cases b' <;> cases want <;> rfl
      | false =>
        have hr' : a.tmps.getD d undef = undef := hr
        rw [yielded_undef hd hr', ← hb]
        rfl
    · cases hb
  · cases hb

/-- An operation that isn't wanted. -/
theorem pureK_skip (h : Sim P G w0 gh0 nx0 st a w gh) {d : Option Tmp} {r : VR} {K : VS → Prop} (hk : pureK (some false) d st r K) : ∃ st' gh', K st' ∧ Sim P G w0 gh0 nx0 st' (a.put d undef) w gh' := by
  obtain ⟨hd, _, hk⟩ := hk
  exact ⟨_, gh, hk (fun e => by cases e), h.put hd rfl⟩

theorem vOp_skip {T : Tb} (h : Sim P G w0 gh0 nx0 st a w gh) {o : Oper} {K : VS → Prop} {Q : VExit → VS → Prop} (hk : vOp P G T (some false) o st K Q) : ∃ st' gh', K st' ∧ Sim P G w0 gh0 nx0 st' (a.put o.dst undef) w gh' := by
  unfold vOp at hk
  split at hk
  case h_15 => exact hk.elim
  case h_16 => exact hk.elim
  case h_17 => exact hk.2.elim
  case h_18 => exact hk.elim
  case h_19 => exact hk.elim
  case h_20 => exact hk.2.elim
  case h_21 c ho =>
    split at hk
    · exact pureK_skip h hk
    · exact hk.2.2.elim
    · obtain ⟨hd, _, hk⟩ := hk
      unfold vCallOp at hk
      split at hk
      · obtain ⟨_, _, _, _, hv⟩ := hk
        unfold vCallG at hv
        split at hv
        · exact ⟨_, gh, hv.2, h.put hd rfl⟩
        · obtain ⟨p, _, hv⟩ := hv
          exact ⟨_, gh, hv, h.put hd rfl⟩
      · exact hk.elim
    · exact hk.elim
  case h_22 => exact hk.elim
  case h_10 => unfold vLoadOp at hk; exact pureK_skip h hk
  all_goals exact pureK_skip h hk

theorem vList_sound {T : Tb} (hT : TabOk P G T) {ops : Array Oper} {Q : VExit → VS → Prop} : ∀ (l : List Oper) (st : VS) (a : Act) (w : World) (gh : Gh), Sim P G w0 gh0 nx0 st a w gh → vList P G T ops.toList Q l st → wpList P ops (WQ P G w0 gh0 nx0 Q) l a w
  | [], st, a, w, gh, h, hk => ⟨st, gh, hk, h⟩
  | o :: rest, st, a, w, gh, h, hk => by
    unfold vList at hk
    unfold wpList
    split at hk
    · rename_i hgd
      have hw : Region.wanted o (yielded ops a.tmps) = true := by simp [Region.wanted, hgd]
      rw [if_pos hw]
      exact .inl (vOp_sound hT h (g := none) trivial hk fun st' a' w' gh' hk' hs' => vList_sound hT rest st' a' w' gh' hs' hk')
    · rename_i j want hgd
      split at hk
      · rename_i b hb
        have hw := guardOf_sound h hgd hb
        rw [hw]
        cases b with
        | true => exact .inl (vOp_sound hT h (g := some true) rfl hk fun st' a' w' gh' hk' hs' => vList_sound hT rest st' a' w' gh' hs' hk')
        | false =>
          obtain ⟨st', gh', hk', hs'⟩ := vOp_skip h hk
          exact vList_sound hT rest st' _ w gh' hs' hk'
      · exact hk.elim

theorem vCode_sound {T : Tb} (hT : TabOk P G T) : ∀ (c : Code) (Q : VExit → VS → Prop) (st : VS), vCode P G T c Q st → VWp P G c Q st
  | .skip, Q, st, h => fun w0 gh0 nx0 a w gh hs => wp_skip ⟨st, gh, h, hs⟩
  | .region id ops false, Q, st, h => fun w0 gh0 nx0 a w gh hs => wp_region_list (vList_sound hT _ st a w gh hs h)
  | .region id ops true, Q, st, h => h
  | .seq x y, Q, st, h => fun w0 gh0 nx0 a w gh hs => by
    refine wp_seq (Code.wp_mono ?_ (vCode_sound hT x _ st h w0 gh0 nx0 a w gh hs))
    intro e a' w' he
    cases e with
    | normal =>
      obtain ⟨st', gh', hq, hs'⟩ := he
      exact vCode_sound hT y Q st' hq w0 gh0 nx0 a' w' gh' hs'
    | exit id => exact he
    | ret => exact he
    | panic ch => exact he
    | goto l => exact he
    | outgrown => exact he
  | .cond c x y, Q, st, h => fun w0 gh0 nx0 a w gh hs => by
    unfold vCode at h
    split at h
    · rename_i b hb
      obtain ⟨ho, h1, h2⟩ := h
      have hr := ev_sound hs c ho
      rw [hb] at hr
      obtain ⟨e, _⟩ := hr.val_inv
      cases b with
      | true => exact wp_cond_true e (vCode_sound hT x Q st (h1 rfl) w0 gh0 nx0 a w gh hs)
      | false => exact wp_cond_false e (vCode_sound hT y Q st (h2 rfl) w0 gh0 nx0 a w gh hs)
    · exact h.elim
  | .block id c, Q, st, h => fun w0 gh0 nx0 a w gh hs => by
    refine wp_block (Code.wp_mono ?_ (vCode_sound hT c _ st h w0 gh0 nx0 a w gh hs))
    intro e a' w' he
    cases e with
    | normal => exact he
    | exit id' =>
      obtain ⟨st', gh', hq, hs'⟩ := he
      simp only [blockQ] at hq
      simp only [Exit.inBlock]
      by_cases hid : id' = id
      · rw [if_pos hid] at hq ⊢; exact ⟨st', gh', hq, hs'⟩
      · rw [if_neg hid] at hq ⊢; exact ⟨st', gh', hq, hs'⟩
    | ret => exact he
    | panic ch => exact he
    | goto l => exact he
    | outgrown => exact he
  | .loop c, Q, st, h => h
  | .exit id, Q, st, h => fun w0 gh0 nx0 a w gh hs => wp_exit ⟨st, gh, h, hs⟩
  | .ret, Q, st, h => fun w0 gh0 nx0 a w gh hs => wp_ret ⟨st, gh, h, hs⟩
  | .rangeFunc _ _ _ _, Q, st, h => h
  | .scope _, Q, st, h => h
  | .label _, Q, st, h => h
  | .goto _, Q, st, h => h
  | .refuse _, Q, st, h => h
end
end Go.Proofs.YtaackmiajgapoaaGreatDoor.V
