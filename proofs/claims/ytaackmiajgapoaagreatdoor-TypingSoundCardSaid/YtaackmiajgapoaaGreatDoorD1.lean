/- Programs as trees, plainly; how they stand as values. -/
import Derived.Test.YtaackmiajgapoaaGreatDoorFa
import Derived.Test.YtaackmiajgapoaaGreatDoorVB
set_option maxHeartbeats 16000000
set_option linter.unusedVariables false
namespace Go.Proofs.YtaackmiajgapoaaGreatDoor.V
open Go

inductive Ex where
  | mk (kind op num : Int) (name : ByteArray) (kids : List Ex)
inductive St where
  | mk (kind : Int) (name : ByteArray) (e : List Ex) (thn els : List St)
structure Ar where
  name : ByteArray
  size : Int
structure Fn where
  name : ByteArray
  params : List ByteArray
  locals : List ByteArray
  word : Bool
  body : List St
structure Pg where
  vars : List ByteArray
  arrays : List Ar
  funcs : List Fn

def Ex.kind : Ex → Int | .mk k _ _ _ _ => k
def Ex.op : Ex → Int | .mk _ k _ _ _ => k
def Ex.num : Ex → Int | .mk _ _ k _ _ => k
def Ex.name : Ex → ByteArray | .mk _ _ _ k _ => k
def Ex.kids : Ex → List Ex | .mk _ _ _ _ k => k
def St.kind : St → Int | .mk k _ _ _ _ => k
def St.name : St → ByteArray | .mk _ k _ _ _ => k
def St.e : St → List Ex | .mk _ _ k _ _ => k
def St.thn : St → List St | .mk _ _ _ k _ => k
def St.els : St → List St | .mk _ _ _ _ k => k

mutual
def encE : Ex → List PV
  | .mk k o n s l => [.val (.int .i64 k), .val (.int .i64 o), .val (.int .u32 n), .val (.string s), .slice (encEs l)]
def encEs : List Ex → List (List PV)
  | [] => []
  | e :: r => encE e :: encEs r
end
mutual
def encS : St → List PV
  | .mk k s e t f => [.val (.int .i64 k), .val (.string s), .slice (encEs e), .slice (encSs t), .slice (encSs f)]
def encSs : List St → List (List PV)
  | [] => []
  | e :: r => encS e :: encSs r
end
def encT (l : List ByteArray) : List (List PV) := l.map fun s => [.val (.string s)]
def encA (a : Ar) : List PV := [.val (.string a.name), .val (.int .i64 a.size)]
def encF (f : Fn) : List PV := [.val (.string f.name), .slice (encT f.params), .slice (encT f.locals), .val (.bool f.word), .slice (f.body.map encS)]
def encP (p : Pg) : List PV := [.slice (encT p.vars), .slice (p.arrays.map encA), .slice (p.funcs.map encF)]

theorem encEs_map : ∀ l : List Ex, encEs l = l.map encE
  | [] => rfl
  | e :: r => by rw [encEs, encEs_map r]; rfl
theorem encSs_map : ∀ l : List St, encSs l = l.map encS
  | [] => rfl
  | e :: r => by rw [encSs, encSs_map r]; rfl
theorem encE_eq (e : Ex) : encE e = [.val (.int .i64 e.kind), .val (.int .i64 e.op), .val (.int .u32 e.num), .val (.string e.name), .slice (e.kids.map encE)] := by
  cases e with | mk k o n s l => rw [encE, encEs_map]; rfl
theorem encS_eq (s : St) : encS s = [.val (.int .i64 s.kind), .val (.string s.name), .slice (s.e.map encE), .slice (s.thn.map encS), .slice (s.els.map encS)] := by
  cases s with | mk k s e t f => rw [encS, encEs_map, encSs_map, encSs_map]; rfl

mutual
theorem encE_inj : ∀ a b : Ex, encE a = encE b → a = b
  | .mk k o n s l, .mk k' o' n' s' l', h => by
    simp only [encE, List.cons.injEq, PV.val.injEq, Value.int.injEq, Value.string.injEq, PV.slice.injEq, true_and, and_true] at h
    obtain ⟨rfl, rfl, rfl, rfl, hl⟩ := h
    rw [encEs_inj l l' hl]
theorem encEs_inj : ∀ a b : List Ex, encEs a = encEs b → a = b
  | [], [], _ => rfl
  | [], _ :: _, h => by simp [encEs] at h
  | _ :: _, [], h => by simp [encEs] at h
  | x :: r, y :: t, h => by
    simp only [encEs, List.cons.injEq] at h
    rw [encE_inj x y h.1, encEs_inj r t h.2]
end
mutual
theorem encS_inj : ∀ a b : St, encS a = encS b → a = b
  | .mk k s e t f, .mk k' s' e' t' f', h => by
    simp only [encS, List.cons.injEq, PV.val.injEq, Value.int.injEq, Value.string.injEq, PV.slice.injEq, true_and, and_true] at h
    obtain ⟨rfl, rfl, he, ht, hf⟩ := h
    rw [encEs_inj e e' he, encSs_inj t t' ht, encSs_inj f f' hf]
theorem encSs_inj : ∀ a b : List St, encSs a = encSs b → a = b
  | [], [], _ => rfl
  | [], _ :: _, h => by simp [encSs] at h
  | _ :: _, [], h => by simp [encSs] at h
  | x :: r, y :: t, h => by
    simp only [encSs, List.cons.injEq] at h
    rw [encS_inj x y h.1, encSs_inj r t h.2]
end
theorem map_inj {α β : Type} {f : α → β} (h : ∀ a b, f a = f b → a = b) : ∀ (a b : List α), a.map f = b.map f → a = b
  | [], [], _ => rfl
  | [], _ :: _, e => by simp at e
  | _ :: _, [], e => by simp at e
  | x :: r, y :: t, e => by
    simp only [List.map_cons, List.cons.injEq] at e
    rw [h x y e.1, map_inj h r t e.2]
theorem encT_inj (a b : List ByteArray) (h : encT a = encT b) : a = b := map_inj (fun a b e => by simpa using e) a b h
theorem encA_inj (a b : Ar) (h : encA a = encA b) : a = b := by
  cases a; cases b
  simp only [encA, List.cons.injEq, PV.val.injEq, Value.int.injEq, Value.string.injEq, true_and, and_true] at h
  obtain ⟨rfl, rfl⟩ := h
  rfl
theorem encF_inj (a b : Fn) (h : encF a = encF b) : a = b := by
  cases a; cases b
  simp only [encF, List.cons.injEq, PV.val.injEq, Value.bool.injEq, Value.string.injEq, PV.slice.injEq, and_true] at h
  obtain ⟨rfl, h1, h2, rfl, h3⟩ := h
  rw [encT_inj _ _ h1, encT_inj _ _ h2, map_inj encS_inj _ _ h3]
theorem encP_inj (a b : Pg) (h : encP a = encP b) : a = b := by
  cases a; cases b
  simp only [encP, List.cons.injEq, PV.slice.injEq, and_true] at h
  rw [encT_inj _ _ h.1, map_inj encA_inj _ _ h.2.1, map_inj encF_inj _ _ h.2.2]
theorem encE_iff (a b : Ex) : encE a = encE b ↔ a = b := ⟨encE_inj a b, fun h => by rw [h]⟩
theorem encEs_iff (a b : List Ex) : a.map encE = b.map encE ↔ a = b := ⟨map_inj encE_inj a b, fun h => by rw [h]⟩
theorem encS_iff (a b : St) : encS a = encS b ↔ a = b := ⟨encS_inj a b, fun h => by rw [h]⟩
theorem encSs_iff (a b : List St) : a.map encS = b.map encS ↔ a = b := ⟨map_inj encS_inj a b, fun h => by rw [h]⟩
theorem encT_iff (a b : List ByteArray) : encT a = encT b ↔ a = b := ⟨encT_inj a b, fun h => by rw [h]⟩
theorem encF_iff (a b : Fn) : encF a = encF b ↔ a = b := ⟨encF_inj a b, fun h => by rw [h]⟩
theorem encP_iff (a b : Pg) : encP a = encP b ↔ a = b := ⟨encP_inj a b, fun h => by rw [h]⟩

instance : Inhabited ByteArray := ⟨ByteArray.empty⟩
instance : Inhabited Ex := ⟨.mk 0 0 0 ByteArray.empty []⟩
instance : Inhabited St := ⟨.mk 0 ByteArray.empty [] [] []⟩
instance : Inhabited Ar := ⟨⟨ByteArray.empty, 0⟩⟩
instance : Inhabited Fn := ⟨⟨ByteArray.empty, [], [], false, []⟩⟩
mutual
def szE : Ex → Nat
  | .mk _ _ _ _ l => 1 + szEs l
def szEs : List Ex → Nat
  | [] => 0
  | e :: r => szE e + szEs r
end
mutual
def szS : St → Nat
  | .mk _ _ e t f => 1 + szEs e + szSs t + szSs f
def szSs : List St → Nat
  | [] => 0
  | e :: r => szS e + szSs r
end
/-- An element, inside of its row. -/
def elm {α : Type} [Inhabited α] (l : List α) (i : Nat) : α := l.getD i default
theorem elm_eq {α : Type} [Inhabited α] {l : List α} {i : Nat} (h : i < l.length) : elm l i = l[i] := by
  simp [elm, List.getD_eq_getElem?_getD, h]
theorem szEs_elm : ∀ (l : List Ex) (i : Nat), i < l.length → szE (elm l i) ≤ szEs l
  | e :: r, 0, _ => by simp [elm, szEs]
  | e :: r, i + 1, h => by
    have := szEs_elm r i (by simpa using h)
    simp only [szEs]
    show szE (elm r i) ≤ _
    omega
theorem szSs_elm : ∀ (l : List St) (i : Nat), i < l.length → szS (elm l i) ≤ szSs l
  | e :: r, 0, _ => by simp [elm, szSs]
  | e :: r, i + 1, h => by
    have := szSs_elm r i (by simpa using h)
    simp only [szSs]
    show szS (elm r i) ≤ _
    omega
theorem szE_kids (e : Ex) (i : Nat) (h : i < e.kids.length) : szE (elm e.kids i) < szE e := by
  cases e with | mk k o n s l =>
  have := szEs_elm l i h
  simp only [szE, Ex.kids]
  omega
theorem szS_thn (e : St) (i : Nat) (h : i < e.thn.length) : szS (elm e.thn i) < szS e := by
  cases e with | mk k s x t f =>
  have := szSs_elm t i h
  simp only [szS, St.thn]
  omega
theorem szS_els (e : St) (i : Nat) (h : i < e.els.length) : szS (elm e.els i) < szS e := by
  cases e with | mk k s x t f =>
  have := szSs_elm f i h
  simp only [szS, St.els]
  omega
theorem all_at {α : Type} [Inhabited α] {P : α → Bool} {l : List α} {i : Nat} (h : i < l.length) (e : P (elm l i) = false) : l.all P = false :=
  List.all_eq_false.2 ⟨elm l i, by rw [elm_eq h]; exact List.getElem_mem h, by simp [e]⟩
theorem all_of {α : Type} [Inhabited α] {P : α → Bool} {l : List α} (h : ∀ j, j < l.length → P (elm l j) = true) : l.all P = true :=
  List.all_eq_true.2 fun x hx => by
    obtain ⟨j, hj, rfl⟩ := List.getElem_of_mem hx
    rw [← elm_eq hj]; exact h j hj
theorem getD_mapD {α : Type} [Inhabited α] (f : α → List PV) (l : List α) (i : Nat) (h : i < l.length) : (l.map f).getD i [] = f (elm l i) := by
  simp [elm, List.getD_eq_getElem?_getD, h]
theorem encT_getD (l : List ByteArray) (i : Nat) (h : i < l.length) : (encT l).getD i [] = [.val (.string (elm l i))] := by
  simp [elm, encT, List.getD_eq_getElem?_getD, h]
theorem encT_length (l : List ByteArray) : (encT l).length = l.length := by simp [encT]
end Go.Proofs.YtaackmiajgapoaaGreatDoor.V
