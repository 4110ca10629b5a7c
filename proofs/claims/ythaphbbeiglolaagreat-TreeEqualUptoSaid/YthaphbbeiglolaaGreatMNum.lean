/-
  Plain arithmetic of lists of limbs (base 2^32), no program in sight.
  What a walk says of memory: the world only grows ('Kp'); a slice of uint32 reads as a list of numbers ('Rd').
  Plain: expressions as trees: size, depth, validity; no program in sight.
  Plain: the content of a tree, equality, replacement, the list of the nodes; no program in sight.
  Plain: what a replacement does to a tree; no program in sight.
-/
import Derived.KernelRfl
import Derived.Test.YthaphbbeiglolaaGreatProg
import Derived.WalkKit
import Derived.WalkSpells
import Derived.WalkLawsBesides
import Derived.BigQuiet
import Derived.Deep.QuietTactic
import Derived.Lib.Hide
import Derived.Lib.Walk
import Derived.Lib.SliceRun
section
namespace Go.Proofs.YthaphbbeiglolaaGreat

/-- the number that limbs stand for, the least significant one first -/
def val : List Nat → Nat
  | [] => 0
  | x :: xs => x + 4294967296 * val xs

/-- all limbs are below 2^32 -/
def Lt32 (xs : List Nat) : Prop := ∀ x ∈ xs, x < 4294967296

/-- element i, 0 behind the end -/
def nth (xs : List Nat) (i : Nat) : Nat := xs.getD i 0

theorem Lt32.nil : Lt32 [] := fun _ h => by cases h
theorem Lt32.cons {x : Nat} {xs : List Nat} (h : x < 4294967296) (hs : Lt32 xs) : Lt32 (x :: xs) := by
  intro y hy
  rcases List.mem_cons.1 hy with rfl | hy
  · exact h
  · exact hs y hy
theorem Lt32.append {xs ys : List Nat} (h : Lt32 xs) (hs : Lt32 ys) : Lt32 (xs ++ ys) := by
  intro y hy
  rcases List.mem_append.1 hy with hy | hy
  · exact h y hy
  · exact hs y hy
theorem Lt32.take {xs : List Nat} (h : Lt32 xs) (n : Nat) : Lt32 (xs.take n) := fun y hy => h y (List.mem_of_mem_take hy)
theorem Lt32.drop {xs : List Nat} (h : Lt32 xs) (n : Nat) : Lt32 (xs.drop n) := fun y hy => h y (List.mem_of_mem_drop hy)
theorem Lt32.set {xs : List Nat} (h : Lt32 xs) (i x : Nat) (hx : x < 4294967296) : Lt32 (xs.set i x) := by
  intro y hy
  rcases List.mem_or_eq_of_mem_set hy with hy | rfl
  · exact h y hy
  · exact hx
theorem Lt32.replicate (n : Nat) : Lt32 (List.replicate n 0) := by
  intro y hy
  rw [(List.mem_replicate.1 hy).2]; decide

theorem nth_eq {xs : List Nat} {i : Nat} (h : i < xs.length) : nth xs i = xs[i] := by
  unfold nth; rw [List.getD_eq_getElem?_getD, List.getElem?_eq_getElem h]; rfl
theorem nth_get? {xs : List Nat} {i : Nat} (h : i < xs.length) : xs[i]? = some (nth xs i) := by
  rw [nth_eq h, List.getElem?_eq_getElem h]
theorem nth_take {xs : List Nat} {n i : Nat} (h : i < n) : nth (xs.take n) i = nth xs i := by
  unfold nth
  simp [h]
theorem nth_drop {xs : List Nat} {n i : Nat} : nth (xs.drop n) i = nth xs (n + i) := by
  unfold nth
  simp [List.getElem?_drop]
end Go.Proofs.YthaphbbeiglolaaGreat
end

section
namespace Go.Proofs.YthaphbbeiglolaaGreat
open Go.RowKit

/-- All that was there is as it was. -/
def Kp (w w' : World) : Prop := Below w.heap.size w w'
theorem Kp.refl (w : World) : Kp w w := Below.refl _ _
theorem Kp.trans {a b c : World} (h : Kp a b) (k : Kp b c) : Kp a c := Below.trans h (Below.mono k h.size)
theorem Kp.alloc {a w : World} (h : Kp a w) (o : Obj) : Kp a (w.alloc o) := Below.alloc h h.size o
theorem Kp.drew {a w : World} (h : Kp a w) : Kp a w.drew := Below.drew h
theorem Kp.drewN {a w : World} (h : Kp a w) (n : Nat) : Kp a (w.drewN n) := ⟨h.os, h.tape, h.output, h.size, h.block⟩
theorem Kp.size {a w : World} (h : Kp a w) : a.heap.size ≤ w.heap.size := Below.size h
theorem Kp.below {a w : World} (h : Kp a w) : Below a.heap.size a w := h
theorem Kp.cell {w w' : World} (h : Kp w w') {p : Addr} {v : Value} (hc : w.cell? p = some v) : w'.cell? p = some v :=
  (Below.cell h (World.block_lt_of_cell? w p hc)).trans hc
theorem Kp.frozen {w w' : World} (h : Kp w w') {p : Addr} {v : Value} (hc : w.cell? p = some v) {f : Bool} (hf : w.frozen? p = f) : w'.frozen? p = f :=
  (Below.frozen h (World.block_lt_of_cell? w p hc)).trans hf
theorem Kp.heap {w w' : World} (h : Kp w w') {b : Nat} {o : Obj} (ho : w.heap[b]? = some o) : w'.heap[b]? = some o :=
  (h.block b (Array.getElem?_eq_some_iff.1 ho).1).trans ho
/-- a call of the function g enters it -/
def Enters (P : Program) (g : FuncId) : Prop := ∀ args w, (callFunc g args).run P w = .ok (.enter g args) w

/-- The address a shows the numbers xs, as cells of the type uint32. -/
def Rd (w : World) (a : Option Addr) (xs : List Nat) : Prop :=
  Lt32 xs ∧ (xs = [] ∨ ∃ b o, a = some ⟨b, o, none⟩ ∧ ∀ i, i < xs.length → w.cell? ⟨b, o + i, none⟩ = some (.int .u32 (nth xs i)))
theorem Rd.kp {w w' : World} {a : Option Addr} {xs : List Nat} (h : Rd w a xs) (k : Kp w w') : Rd w' a xs := by
  obtain ⟨h1, h2⟩ := h
  refine ⟨h1, ?_⟩
  rcases h2 with h2 | ⟨b, o, rfl, h2⟩
  · exact .inl h2
  · exact .inr ⟨b, o, rfl, fun i hi => k.cell (h2 i hi)⟩
theorem Rd.nil (w : World) (a : Option Addr) : Rd w a [] := ⟨.nil, .inl rfl⟩
theorem Rd.some {w : World} {a : Option Addr} {xs : List Nat} (h : Rd w a xs) {i : Nat} (hi : i < xs.length) :
    ∃ b o, a = .some ⟨b, o, none⟩ ∧ ∀ i, i < xs.length → w.cell? ⟨b, o + i, none⟩ = .some (.int .u32 (nth xs i)) := by
  rcases h.2 with h2 | h2
  · subst h2; simp at hi
  · exact h2
theorem Rd.take {w : World} {a : Option Addr} {xs : List Nat} (h : Rd w a xs) (n : Nat) : Rd w a (xs.take n) := by
  refine ⟨h.1.take n, ?_⟩
  rcases h.2 with h2 | ⟨b, o, rfl, h2⟩
  · exact .inl (by rw [h2]; simp)
  · refine .inr ⟨b, o, rfl, fun i hi => ?_⟩
    rw [List.length_take] at hi
    rw [nth_take (by omega)]
    exact h2 i (by omega)
theorem Rd.drop {w : World} {b o : Nat} {xs : List Nat} (h : Rd w (.some ⟨b, o, none⟩) xs) (n : Nat) : Rd w (.some ⟨b, o + n, none⟩) (xs.drop n) := by
  refine ⟨h.1.drop n, ?_⟩
  rcases h.2 with h2 | ⟨b', o', e, h2⟩
  · exact .inl (by rw [h2]; simp)
  · cases e
    refine .inr ⟨b, o + n, rfl, fun i hi => ?_⟩
    rw [List.length_drop] at hi
    rw [nth_drop, Nat.add_assoc]
    exact h2 _ (by omega)

theorem ret_bool {a b : Bool} (h : a = b) : Ending.returned (.bool a) = .returned (.bool b) := by rw [h]
theorem ret_int {k : IntKind} {a b : Int} (h : a = b) : Ending.returned (.int k a) = .returned (.int k b) := by rw [h]
/-- The call's own slice v, in a block from 'base' on, of the numbers xs. -/
def Own (w : World) (base : Nat) (v : Value) (xs : List Nat) : Prop :=
  Lt32 xs ∧ w.ownsRow base 124 1 v xs.length (xs.map fun x : Nat => Value.int .u32 (x : Int))

theorem Own.value {w : World} {base : Nat} {v : Value} {xs : List Nat} (h : Own w base v xs) : ∃ a c, v = .slice a xs.length c ∧ xs.length ≤ c ∧ c ≤ maxLen ∧ Rd w a xs := by
  obtain ⟨h1, h2, h3⟩ := h
  rcases h3 with ⟨rfl, h3⟩ | ⟨g, cap, cur, rfl, hb, hg, hn, hc, hs, ht⟩
  · refine ⟨none, 0, by rw [h3], by omega, by decide, h1, .inl (List.length_eq_zero_iff.1 h3)⟩
  · refine ⟨_, _, rfl, hn, hc, h1, .inr ⟨g, 0, rfl, fun i hi => ?_⟩⟩
    rw [cell_of_row w g _ cur _ _ hg]
    have : (cur.toList.take (xs.length * 1))[i]? = .some (.int .u32 (nth xs i)) := by
      rw [ht, List.getElem?_map, nth_get? hi]; rfl
    rw [List.getElem?_take, if_pos (by omega)] at this
    simpa using this


/-- a number as a uint32 -/
def u32v (x : Nat) : Value := .int .u32 (x : Int)
/-- Block g holds just the numbers xs, as cells of the type uint32. -/
def Blk (w : World) (g : Nat) (xs : List Nat) : Prop := w.heap[g]? = some (.cells (xs.map u32v).toArray 124 (0, 0))
theorem Blk.cell {w : World} {g : Nat} {xs : List Nat} (h : Blk w g xs) {i : Nat} (hi : i < xs.length) : w.cell? ⟨g, i, none⟩ = some (.int .u32 (nth xs i)) := by
  rw [cell_of_row w g _ _ _ _ h, List.getElem?_toArray, List.getElem?_map, nth_get? hi]; rfl
theorem Blk.frozen {w : World} {g : Nat} {xs : List Nat} (h : Blk w g xs) (i : Nat) : w.frozen? ⟨g, i, none⟩ = false := frozen_of_row w g _ _ _ h
theorem Blk.kp {w w' : World} {g : Nat} {xs : List Nat} (h : Blk w g xs) (k : Kp w w') : Blk w' g xs := k.heap h
theorem Blk.rd {w : World} {g : Nat} {xs : List Nat} (h : Blk w g xs) (hl : Lt32 xs) : Rd w (some ⟨g, 0, none⟩) xs :=
  ⟨hl, .inr ⟨g, 0, rfl, fun i hi => by rw [Nat.zero_add]; exact h.cell hi⟩⟩
theorem Blk.set {w : World} {g : Nat} {xs : List Nat} (h : Blk w g xs) (i x : Nat) : Blk (w.setCell ⟨g, i, none⟩ (.int .u32 (x : Int))) g (xs.set i x) := by
  unfold Blk
  rw [heap_setCell_same w g i _ _ _ h]
  congr 2
  rw [List.setIfInBounds_toArray, List.map_set]; rfl
theorem Blk.put {w : World} {g : Nat} {xs : List Nat} (h : Blk w g xs) {i x : Nat} {e : Int} (he : e = x) : Blk (w.setCell ⟨g, i, none⟩ (.int .u32 e)) g (xs.set i x) := by
  subst he; exact h.set i x
theorem Kp.set {a w : World} (h : Kp a w) {g i : Nat} (hg : a.heap.size ≤ g) (v : Value) : Kp a (w.setCell ⟨g, i, none⟩ v) := Below.setCell h hg v
theorem Blk.made (w : World) (n : Nat) : Blk (w.alloc (.cells (madeCells #[.int .u32 0] n) 124)) w.heap.size (List.replicate n 0) := by
  unfold Blk
  rw [heap_alloc_new]
  congr 2
  rw [← Array.toList_inj, toList_madeCells_one, List.map_replicate]; rfl
theorem Blk.lt {w : World} {g : Nat} {xs : List Nat} (h : Blk w g xs) : g < w.heap.size := (Array.getElem?_eq_some_iff.1 h).1
theorem Own.nil (w : World) (base : Nat) : Own w base (.slice none 0 0) [] := ⟨.nil, World.ownsRow_nil _ _ _ _⟩
theorem Own.alloc {w : World} {base : Nat} {v : Value} {xs : List Nat} (h : Own w base v xs) (o : Obj) : Own (w.alloc o) base v xs := ⟨h.1, h.2.alloc o⟩
theorem Own.rd {w : World} {base : Nat} {a : Option Addr} {n c : Nat} {xs : List Nat} (h : Own w base (.slice a n c) xs) : n = xs.length ∧ xs.length ≤ c ∧ c ≤ maxLen ∧ Rd w a xs := by
  obtain ⟨a', c', e, h1, h2, h3⟩ := h.value
  cases e
  exact ⟨rfl, h1, h2, h3⟩
theorem Own.made (w : World) (l c : Nat) (hl : l ≤ c) (hc : c ≤ 9000000) (base : Nat) (hb : base ≤ w.heap.size) :
    Own (w.alloc (.cells (madeCells #[.int .u32 0] c) 124)) base (.slice (some ⟨w.heap.size, 0, none⟩) l c) (List.replicate l 0) := by
  refine ⟨.replicate _, by simp, .inr ⟨w.heap.size, c, _, by simp, hb, heap_alloc_new w _, by simpa using hl, by unfold maxLen; omega, by simp [size_madeCells], ?_⟩⟩
  rw [toList_madeCells_one]
  simp [List.take_replicate, Nat.min_eq_left hl]
/-- the empty literal []uint32{} -/
theorem Own.empty (w : World) (base : Nat) (hb : base ≤ w.heap.size) : Own (w.alloc (.cells #[] 124)) base (.slice (some ⟨w.heap.size, 0, none⟩) 0 0) [] :=
  ⟨.nil, World.ownsRow_made w #[] 0 hb (Nat.zero_le _) rfl⟩
end Go.Proofs.YthaphbbeiglolaaGreat
end

section
namespace Go.Proofs.YthaphbbeiglolaaGreat

/-- an expression as it comes: its fields; its elements' address and capacity -/
inductive Ex where
  | mk (kind rn rd : Int) (name : ByteArray) (pw : Int) (a : Option Addr) (c : Nat) (l : List Ex)
def Ex.kind : Ex → Int | .mk k _ _ _ _ _ _ _ => k
def Ex.rn : Ex → Int | .mk _ n _ _ _ _ _ _ => n
def Ex.rd : Ex → Int | .mk _ _ d _ _ _ _ _ => d
def Ex.name : Ex → ByteArray | .mk _ _ _ s _ _ _ _ => s
def Ex.pw : Ex → Int | .mk _ _ _ _ p _ _ _ => p
def Ex.a : Ex → Option Addr | .mk _ _ _ _ _ a _ _ => a
def Ex.c : Ex → Nat | .mk _ _ _ _ _ _ c _ => c
def Ex.l : Ex → List Ex | .mk _ _ _ _ _ _ _ l => l
/-- a property of all nodes is shown by the nodes -/
theorem Ex.ind {P : Ex → Prop} (h : ∀ e : Ex, (∀ x ∈ e.l, P x) → P e) : ∀ e, P e
  | .mk k n d s p a c l => h _ (fun x hx => by
      have : SizeOf.sizeOf x < SizeOf.sizeOf l := List.sizeOf_lt_of_mem hx
      exact Ex.ind h x)
termination_by e => SizeOf.sizeOf e
decreasing_by
  simp_wf
  omega
mutual
def Ex.size : Ex → Nat | .mk _ _ _ _ _ _ _ l => 1 + Ex.sizeL l
def Ex.sizeL : List Ex → Nat | [] => 0 | x :: t => x.size + Ex.sizeL t
end
mutual
def Ex.depth : Ex → Nat | .mk _ _ _ _ _ _ _ l => 1 + Ex.depthL l
def Ex.depthL : List Ex → Nat | [] => 0 | x :: t => max x.depth (Ex.depthL t)
end
theorem Ex.size_eq (e : Ex) : e.size = 1 + Ex.sizeL e.l := by cases e; rw [Ex.size]; rfl
theorem Ex.depth_eq (e : Ex) : e.depth = 1 + Ex.depthL e.l := by cases e; rw [Ex.depth]; rfl
theorem Ex.size_pos (e : Ex) : 1 ≤ e.size := by rw [e.size_eq]; omega
theorem Ex.depth_pos (e : Ex) : 1 ≤ e.depth := by rw [e.depth_eq]; omega
/-- letters, digits -/
def isLet (b : UInt8) : Bool := (decide (97 ≤ b.toNat) && decide (b.toNat ≤ 122)) || (decide (65 ≤ b.toNat) && decide (b.toNat ≤ 90))
def isDig (b : UInt8) : Bool := decide (48 ≤ b.toNat) && decide (b.toNat ≤ 57)
def isRun (b : UInt8) : Bool := isLet b || (isDig b || decide (b.toNat = 95))
def wordB (s : ByteArray) : Bool := match s.data.toList with | [] => false | b :: t => isLet b && t.all isRun
def keywords : List String := ["state", "param", "in", "mode", "when", "rises", "falls", "goto", "with", "time", "exp", "log", "sin", "cos", "sqrt"]
def keyB (s : ByteArray) : Bool := keywords.any fun k => decide (s = k.toUTF8)
def nameB (s : ByteArray) : Bool := wordB s && (decide (s.size ≤ 20) && !keyB s)
def ratB (n d : Int) : Bool := decide (1 ≤ d ∧ d ≤ 1073741824) && (decide (-1073741824 ≤ n ∧ n ≤ 1073741824) && decide (Nat.gcd n.natAbs d.natAbs = 1))
/-- how many elements a kind has -/
def opsK (k : Int) : Int := if 3 ≤ k ∧ k ≤ 6 then 2 else if 7 ≤ k ∧ k ≤ 13 then 1 else -1
/-- are the fields of a node right? -/
def nodeB (e : Ex) : Bool :=
  if e.kind = 1 then ratB e.rn e.rd && (decide (e.name.size = 0) && (decide (e.pw = 0) && decide (e.l.length = 0)))
  else if e.kind = 2 then decide (e.rn = 0 ∧ e.rd = 0) && (nameB e.name && (decide (e.pw = 0) && decide (e.l.length = 0)))
  else if e.kind = 8 then decide (e.rn = 0 ∧ e.rd = 0) && (decide (e.name.size = 0) && (decide (0 ≤ e.pw ∧ e.pw ≤ 16) && decide (e.l.length = 1)))
  else decide (e.rn = 0 ∧ e.rd = 0) && (decide (e.name.size = 0) && (decide (e.pw = 0) && decide ((e.l.length : Int) = opsK e.kind)))
mutual
def Ex.allB : Ex → Bool | .mk k n d s p a c l => nodeB (.mk k n d s p a c l) && Ex.allL l
def Ex.allL : List Ex → Bool | [] => true | x :: t => x.allB && Ex.allL t
end
theorem Ex.allB_eq (e : Ex) : e.allB = (nodeB e && Ex.allL e.l) := by cases e; rw [Ex.allB]; rfl
/-- a valid expression -/
def Ex.ok (e : Ex) : Bool := e.allB && (decide (e.depth ≤ 20) && decide (e.size ≤ 200))
mutual
/-- tree.count: its answer and the number behind -/
def Ex.cnt : Ex → Nat → Nat → Bool × Nat
  | .mk k r d s p a c l, dp, n => if 20 < dp ∨ 200 < n + 1 ∨ nodeB (.mk k r d s p a c l) = false then (false, n + 1) else Ex.cntL l (dp + 1) (n + 1)
def Ex.cntL : List Ex → Nat → Nat → Bool × Nat
  | [], _, n => (true, n)
  | x :: t, dp, n => if (x.cnt dp n).1 = true then Ex.cntL t dp (x.cnt dp n).2 else (false, (x.cnt dp n).2)
end
theorem Ex.cnt_eq (e : Ex) (dp n : Nat) : e.cnt dp n = if 20 < dp ∨ 200 < n + 1 ∨ nodeB e = false then (false, n + 1) else Ex.cntL e.l (dp + 1) (n + 1) := by cases e; rw [Ex.cnt]; rfl
theorem Ex.cntL_cons (x : Ex) (t : List Ex) (dp n : Nat) : Ex.cntL (x :: t) dp n = if (x.cnt dp n).1 = true then Ex.cntL t dp (x.cnt dp n).2 else (false, (x.cnt dp n).2) := by rw [Ex.cntL]
theorem Ex.cntL_nil (dp n : Nat) : Ex.cntL [] dp n = (true, n) := by rw [Ex.cntL]
theorem Ex.sizeL_cons (x : Ex) (t : List Ex) : Ex.sizeL (x :: t) = x.size + Ex.sizeL t := by rw [Ex.sizeL]
theorem Ex.sizeL_nil : Ex.sizeL [] = 0 := by rw [Ex.sizeL]
theorem Ex.depthL_cons (x : Ex) (t : List Ex) : Ex.depthL (x :: t) = max x.depth (Ex.depthL t) := by rw [Ex.depthL]
theorem Ex.depthL_nil : Ex.depthL [] = 0 := by rw [Ex.depthL]
theorem Ex.allL_cons (x : Ex) (t : List Ex) : Ex.allL (x :: t) = (x.allB && Ex.allL t) := by rw [Ex.allL]
theorem Ex.allL_nil : Ex.allL [] = true := by rw [Ex.allL]
theorem cnt_list {l : List Ex} (ih : ∀ x ∈ l, ∀ dp n, (((x.cnt dp n).1 = true ↔ x.allB = true ∧ x.depth + dp ≤ 21 ∧ n + x.size ≤ 200) ∧ ((x.cnt dp n).1 = true → (x.cnt dp n).2 = n + x.size))) :
    ∀ dp n, dp ≤ 21 → n ≤ 200 → (((Ex.cntL l dp n).1 = true ↔ Ex.allL l = true ∧ Ex.depthL l + dp ≤ 21 ∧ n + Ex.sizeL l ≤ 200) ∧ ((Ex.cntL l dp n).1 = true → (Ex.cntL l dp n).2 = n + Ex.sizeL l)) := by
  induction l with
  | nil =>
    intro dp n h1 h2
    rw [Ex.cntL_nil, Ex.allL_nil, Ex.depthL_nil, Ex.sizeL_nil]
    exact ⟨⟨fun _ => ⟨rfl, by omega, by omega⟩, fun _ => rfl⟩, fun _ => rfl⟩
  | cons x t iht =>
    intro dp n h1 h2
    obtain ⟨hx, hx2⟩ := ih x (.head _) dp n
    rw [Ex.cntL_cons, Ex.allL_cons, Ex.depthL_cons, Ex.sizeL_cons, Bool.and_eq_true]
    by_cases hc : (x.cnt dp n).1 = true
    · obtain ⟨h3, h4, h5⟩ := hx.1 hc
      rw [if_pos hc, hx2 hc]
      obtain ⟨i1, i2⟩ := iht (fun y hy => ih y (.tail _ hy)) dp (n + x.size) h1 h5
      refine ⟨⟨fun h => ?_, fun h => ?_⟩, fun h => ?_⟩
      · obtain ⟨q1, q2, q3⟩ := i1.1 h
        exact ⟨⟨h3, q1⟩, by omega, by omega⟩
      · exact i1.2 ⟨h.1.2, by omega, by omega⟩
      · rw [i2 h]; omega
    · rw [if_neg hc]
      refine ⟨⟨fun h => (by cases h), fun h => absurd (hx.2 ⟨h.1.1, by omega, by omega⟩) hc⟩, fun h => by cases h⟩
theorem cnt_iff : ∀ (e : Ex) (dp n : Nat), (((e.cnt dp n).1 = true ↔ e.allB = true ∧ e.depth + dp ≤ 21 ∧ n + e.size ≤ 200) ∧ ((e.cnt dp n).1 = true → (e.cnt dp n).2 = n + e.size)) := by
  refine Ex.ind fun e ih dp n => ?_
  rw [Ex.cnt_eq, Ex.allB_eq, e.depth_eq, e.size_eq, Bool.and_eq_true]
  by_cases h : 20 < dp ∨ 200 < n + 1 ∨ nodeB e = false
  · rw [if_pos h]
    refine ⟨⟨fun h2 => (by cases h2), fun h2 => ?_⟩, fun h2 => by cases h2⟩
    rcases h with h | h | h
    · omega
    · omega
    · rw [h2.1.1] at h; cases h
  · rw [if_neg h]
    have hn : nodeB e = true := by cases hb : nodeB e with | true => rfl | false => exact absurd (.inr (.inr hb)) h
    have hd : ¬ 20 < dp := fun h2 => h (.inl h2)
    have hs : ¬ 200 < n + 1 := fun h2 => h (.inr (.inl h2))
    obtain ⟨i1, i2⟩ := cnt_list ih (dp + 1) (n + 1) (by omega) (by omega)
    refine ⟨⟨fun h2 => ?_, fun h2 => ?_⟩, fun h2 => ?_⟩
    · obtain ⟨q1, q2, q3⟩ := i1.1 h2
      exact ⟨⟨hn, q1⟩, by omega, by omega⟩
    · exact i1.2 ⟨h2.1.2, by omega, by omega⟩
    · rw [i2 h2]; omega
/-- tree.Valid's answer -/
theorem cnt_ok (e : Ex) : (e.cnt 1 0).1 = e.ok := by
  rw [Bool.eq_iff_iff, (cnt_iff e 1 0).1]
  unfold Ex.ok
  rw [Bool.and_eq_true, Bool.and_eq_true, decide_eq_true_eq, decide_eq_true_eq]
  exact and_congr_right fun _ => and_congr (by omega) (by omega)
mutual
/-- the reference's count -/
def Ex.rct : Ex → Nat → Nat
  | .mk _ _ _ _ _ _ _ _, 0 => 1048576
  | .mk k r d s p a c l, lv + 1 => if nodeB (.mk k r d s p a c l) = false then 1048576 else Ex.rctL l lv 1
def Ex.rctL : List Ex → Nat → Nat → Nat
  | [], _, n => n
  | x :: t, lv, n => if n ≤ 200 then Ex.rctL t lv (n + x.rct lv) else n
end
theorem Ex.rct_zero (e : Ex) : e.rct 0 = 1048576 := by cases e; rw [Ex.rct]
theorem Ex.rct_succ (e : Ex) (lv : Nat) : e.rct (lv + 1) = if nodeB e = false then 1048576 else Ex.rctL e.l lv 1 := by cases e; rw [Ex.rct]; rfl
theorem Ex.rctL_nil (lv n : Nat) : Ex.rctL [] lv n = n := by rw [Ex.rctL]
theorem Ex.rctL_cons (x : Ex) (t : List Ex) (lv n : Nat) : Ex.rctL (x :: t) lv n = if n ≤ 200 then Ex.rctL t lv (n + x.rct lv) else n := by rw [Ex.rctL]
theorem rctL_ge : ∀ (l : List Ex) (lv n : Nat), n ≤ Ex.rctL l lv n
  | [], lv, n => by rw [Ex.rctL_nil]; exact Nat.le_refl n
  | x :: t, lv, n => by
    rw [Ex.rctL_cons]
    split
    · have := rctL_ge t lv (n + x.rct lv); omega
    · exact Nat.le_refl n
/-- the reference's count of a good tree is its size; of another one it is great -/
theorem rct_iff : ∀ (e : Ex) (lv : Nat), (e.rct lv ≤ 200 ↔ e.allB = true ∧ e.depth ≤ lv ∧ e.size ≤ 200) ∧ (e.rct lv ≤ 200 → e.rct lv = e.size) := by
  refine Ex.ind fun e ih lv => ?_
  have hd := e.depth_pos
  cases lv with
  | zero =>
    rw [e.rct_zero]
    exact ⟨⟨fun h => absurd h (by decide), fun h => by omega⟩, fun h => absurd h (by decide)⟩
  | succ lv =>
    rw [e.rct_succ, e.allB_eq, e.depth_eq, e.size_eq, Bool.and_eq_true]
    cases hn : nodeB e with
    | false =>
      rw [if_pos rfl]
      exact ⟨⟨fun h => absurd h (by decide), fun h => absurd h.1.1 (by decide)⟩, fun h => absurd h (by decide)⟩
    | true =>
      rw [if_neg (by decide)]
      have key : ∀ (l : List Ex), (∀ x ∈ l, (x.rct lv ≤ 200 ↔ x.allB = true ∧ x.depth ≤ lv ∧ x.size ≤ 200) ∧ (x.rct lv ≤ 200 → x.rct lv = x.size)) → ∀ n, n ≤ 200 →
          ((Ex.rctL l lv n ≤ 200 ↔ Ex.allL l = true ∧ Ex.depthL l ≤ lv ∧ n + Ex.sizeL l ≤ 200) ∧ (Ex.rctL l lv n ≤ 200 → Ex.rctL l lv n = n + Ex.sizeL l)) := by
        intro l
        induction l with
        | nil =>
          intro _ n hn
          rw [Ex.rctL_nil, Ex.allL_nil, Ex.depthL_nil, Ex.sizeL_nil]
          exact ⟨⟨fun h => ⟨rfl, by omega, by omega⟩, fun h => by omega⟩, fun h => by omega⟩
        | cons x t iht =>
          intro hx n hn
          obtain ⟨h1, h2⟩ := hx x (.head _)
          rw [Ex.rctL_cons, if_pos hn, Ex.allL_cons, Ex.depthL_cons, Ex.sizeL_cons, Bool.and_eq_true]
          have hge := rctL_ge t lv (n + x.rct lv)
          by_cases hs : n + x.rct lv ≤ 200
          · have hx2 := h2 (by omega)
            obtain ⟨h3, h4, h5⟩ := h1.1 (by omega)
            rw [hx2] at hs ⊢
            obtain ⟨i1, i2⟩ := iht (fun y hy => hx y (.tail _ hy)) (n + x.size) hs
            refine ⟨⟨fun h => ?_, fun h => ?_⟩, fun h => ?_⟩
            · obtain ⟨q1, q2, q3⟩ := i1.1 h
              exact ⟨⟨h3, q1⟩, by omega, by omega⟩
            · exact i1.2 ⟨h.1.2, by omega, by omega⟩
            · rw [i2 h]; omega
          · refine ⟨⟨fun h => by omega, fun h => ?_⟩, fun h => by omega⟩
            have h6 := h1.2 ⟨h.1.1, by omega, by omega⟩
            have h7 := h2 h6
            omega
      obtain ⟨k1, k2⟩ := key e.l (fun x hx => ih x hx lv) 1 (by decide)
      refine ⟨⟨fun h => ?_, fun h => ?_⟩, fun h => k2 h⟩
      · obtain ⟨q1, q2, q3⟩ := k1.1 h
        exact ⟨⟨rfl, q1⟩, by omega, by omega⟩
      · exact k1.2 ⟨h.1.2, by omega, by omega⟩
/-- the reference's Valid answers alike -/
theorem rct_ok (e : Ex) : decide (e.rct 20 ≤ 200) = e.ok := by
  rw [Bool.eq_iff_iff, decide_eq_true_eq, (rct_iff e 20).1]
  unfold Ex.ok
  rw [Bool.and_eq_true, Bool.and_eq_true, decide_eq_true_eq, decide_eq_true_eq]
end Go.Proofs.YthaphbbeiglolaaGreat
end

section
namespace Go.Proofs.YthaphbbeiglolaaGreat

mutual
def Ex.er : Ex → Ex | .mk k r d s p _ _ l => .mk k r d s p none 0 (Ex.erL l)
def Ex.erL : List Ex → List Ex | [] => [] | x :: t => x.er :: Ex.erL t
end
theorem Ex.erL_map (l : List Ex) : Ex.erL l = l.map Ex.er := by
  induction l with
  | nil => rw [Ex.erL]; rfl
  | cons x t ih => rw [Ex.erL, ih]; rfl
theorem Ex.er_eq (e : Ex) : e.er = .mk e.kind e.rn e.rd e.name e.pw none 0 (e.l.map Ex.er) := by cases e; rw [Ex.er, Ex.erL_map]; rfl
theorem Ex.er_l (e : Ex) : e.er.l = e.l.map Ex.er := by rw [e.er_eq]; rfl
theorem Ex.er_kind (e : Ex) : e.er.kind = e.kind := by rw [e.er_eq]; rfl
theorem Ex.er_name (e : Ex) : e.er.name = e.name := by rw [e.er_eq]; rfl
/-- the same content -/
theorem Ex.er_iff {x y : Ex} : x.er = y.er ↔ (x.kind = y.kind ∧ x.rn = y.rn ∧ x.rd = y.rd ∧ x.name = y.name ∧ x.pw = y.pw) ∧ x.l.map Ex.er = y.l.map Ex.er := by
  rw [x.er_eq, y.er_eq]
  simp only [Ex.mk.injEq, true_and]
  constructor
  · rintro ⟨h1, h2, h3, h4, h5, h6⟩; exact ⟨⟨h1, h2, h3, h4, h5⟩, h6⟩
  · rintro ⟨⟨h1, h2, h3, h4, h5⟩, h6⟩; exact ⟨h1, h2, h3, h4, h5, h6⟩
theorem sizeL_er {l : List Ex} (h : ∀ x ∈ l, x.er.size = x.size) : Ex.sizeL (l.map Ex.er) = Ex.sizeL l := by
  induction l with
  | nil => rfl
  | cons x t ih => rw [List.map_cons, Ex.sizeL_cons, Ex.sizeL_cons, h x (.head _), ih fun y hy => h y (.tail _ hy)]
theorem Ex.er_size : ∀ e : Ex, e.er.size = e.size := by
  refine Ex.ind fun e ih => ?_
  rw [e.er.size_eq, e.size_eq, e.er_l, sizeL_er ih]
theorem depthL_er {l : List Ex} (h : ∀ x ∈ l, x.er.depth = x.depth) : Ex.depthL (l.map Ex.er) = Ex.depthL l := by
  induction l with
  | nil => rfl
  | cons x t ih => rw [List.map_cons, Ex.depthL_cons, Ex.depthL_cons, h x (.head _), ih fun y hy => h y (.tail _ hy)]
theorem Ex.er_depth : ∀ e : Ex, e.er.depth = e.depth := by
  refine Ex.ind fun e ih => ?_
  rw [e.er.depth_eq, e.depth_eq, e.er_l, depthL_er ih]
theorem Ex.er_rn (e : Ex) : e.er.rn = e.rn := by rw [e.er_eq]; rfl
theorem Ex.er_rd (e : Ex) : e.er.rd = e.rd := by rw [e.er_eq]; rfl
theorem Ex.er_pw (e : Ex) : e.er.pw = e.pw := by rw [e.er_eq]; rfl
theorem nodeB_er (e : Ex) : nodeB e.er = nodeB e := by unfold nodeB; rw [e.er_kind, e.er_rn, e.er_rd, e.er_name, e.er_pw, e.er_l, List.length_map]
theorem allL_er {l : List Ex} (h : ∀ x ∈ l, x.er.allB = x.allB) : Ex.allL (l.map Ex.er) = Ex.allL l := by
  induction l with
  | nil => rfl
  | cons x t ih => rw [List.map_cons, Ex.allL_cons, Ex.allL_cons, h x (.head _), ih fun y hy => h y (.tail _ hy)]
theorem Ex.er_all : ∀ e : Ex, e.er.allB = e.allB := by
  refine Ex.ind fun e ih => ?_
  rw [e.er.allB_eq, e.allB_eq, nodeB_er, e.er_l, allL_er ih]
theorem Ex.er_ok (e : Ex) : e.er.ok = e.ok := by unfold Ex.ok; rw [e.er_all, e.er_depth, e.er_size]
theorem ok_er {x y : Ex} (h : x.er = y.er) : x.ok = y.ok := by rw [← x.er_ok, ← y.er_ok, h]
mutual
/-- equality of two trees, as both programs reckon it -/
def Ex.eqv : Ex → Ex → Bool
  | .mk k r d s p _ _ l, y => (decide (k = y.kind) && (decide (r = y.rn ∧ d = y.rd) && (decide (s = y.name) && decide (p = y.pw)))) && Ex.eqL l y.l
def Ex.eqL : List Ex → List Ex → Bool
  | [], [] => true
  | [], _ :: _ => false
  | _ :: _, [] => false
  | x :: t, y :: u => x.eqv y && Ex.eqL t u
end
theorem Ex.eqv_eq (x y : Ex) : x.eqv y = ((decide (x.kind = y.kind) && (decide (x.rn = y.rn ∧ x.rd = y.rd) && (decide (x.name = y.name) && decide (x.pw = y.pw)))) && Ex.eqL x.l y.l) := by cases x; rw [Ex.eqv]; rfl
theorem eqL_iff : ∀ {l m : List Ex}, (∀ x ∈ l, ∀ y, x.eqv y = true ↔ x.er = y.er) → (Ex.eqL l m = true ↔ l.map Ex.er = m.map Ex.er)
  | [], [], _ => by rw [Ex.eqL]; simp
  | [], _ :: _, _ => by rw [Ex.eqL]; simp
  | _ :: _, [], _ => by rw [Ex.eqL]; simp
  | x :: t, y :: u, h => by
    rw [Ex.eqL, Bool.and_eq_true, h x (.head _), eqL_iff (l := t) (m := u) fun z hz => h z (.tail _ hz), List.map_cons, List.map_cons, List.cons.injEq]
theorem eqv_iff : ∀ (x y : Ex), x.eqv y = true ↔ x.er = y.er := by
  refine Ex.ind fun x ih y => ?_
  rw [x.eqv_eq, Ex.er_iff, Bool.and_eq_true, eqL_iff ih]
  simp only [Bool.and_eq_true, decide_eq_true_eq]
  constructor
  · rintro ⟨⟨h1, ⟨h2, h3⟩, h4, h5⟩, h6⟩; exact ⟨⟨h1, h2, h3, h4, h5⟩, h6⟩
  · rintro ⟨⟨h1, h2, h3, h4, h5⟩, h6⟩; exact ⟨⟨h1, ⟨h2, h3⟩, h4, h5⟩, h6⟩
theorem eqv_refl (x : Ex) : x.eqv x = true := (eqv_iff x x).2 rfl
theorem eqv_symm (x y : Ex) : x.eqv y = y.eqv x := by
  rw [Bool.eq_iff_iff, eqv_iff, eqv_iff]
  exact ⟨fun h => h.symm, fun h => h.symm⟩
mutual
/-- variables replaced, all at once -/
def Ex.sub (f : ByteArray → Option Ex) : Ex → Ex
  | .mk k r d s p a c l => if k = 2 ∧ (f s).isSome = true then (f s).getD (.mk k r d s p a c l) else .mk k r d s p none 0 (Ex.subL f l)
def Ex.subL (f : ByteArray → Option Ex) : List Ex → List Ex
  | [] => []
  | x :: t => x.sub f :: Ex.subL f t
end
theorem Ex.subL_map (f : ByteArray → Option Ex) (l : List Ex) : Ex.subL f l = l.map (Ex.sub f) := by
  induction l with
  | nil => rw [Ex.subL]; rfl
  | cons x t ih => rw [Ex.subL, ih]; rfl
theorem Ex.sub_eq (f : ByteArray → Option Ex) (e : Ex) : e.sub f = if e.kind = 2 ∧ (f e.name).isSome = true then (f e.name).getD e else .mk e.kind e.rn e.rd e.name e.pw none 0 (e.l.map (Ex.sub f)) := by cases e; rw [Ex.sub, Ex.subL_map]; rfl
mutual
/-- all nodes, each before its elements -/
def Ex.flat : Ex → List Ex | .mk k r d s p a c l => .mk k r d s p a c l :: Ex.flatL l
def Ex.flatL : List Ex → List Ex | [] => [] | x :: t => x.flat ++ Ex.flatL t
end
theorem Ex.flat_eq (e : Ex) : e.flat = e :: Ex.flatL e.l := by cases e; rw [Ex.flat]; rfl
theorem Ex.flatL_cons (x : Ex) (t : List Ex) : Ex.flatL (x :: t) = x.flat ++ Ex.flatL t := by rw [Ex.flatL]
theorem Ex.flatL_nil : Ex.flatL [] = [] := by rw [Ex.flatL]
theorem flatL_len {l : List Ex} (h : ∀ x ∈ l, x.flat.length = x.size) : (Ex.flatL l).length = Ex.sizeL l := by
  induction l with
  | nil => rw [Ex.flatL_nil, Ex.sizeL_nil]; rfl
  | cons x t ih => rw [Ex.flatL_cons, Ex.sizeL_cons, List.length_append, h x (.head _), ih fun y hy => h y (.tail _ hy)]
theorem Ex.flat_len : ∀ e : Ex, e.flat.length = e.size := by
  refine Ex.ind fun e ih => ?_
  rw [e.flat_eq, e.size_eq, List.length_cons, flatL_len ih, Nat.add_comm]
mutual
/-- the places of a variable -/
def Ex.occ (s : ByteArray) : Ex → Nat | .mk k _ _ n _ _ _ l => (if k = 2 ∧ n = s then 1 else 0) + Ex.occL s l
def Ex.occL (s : ByteArray) : List Ex → Nat | [] => 0 | x :: t => x.occ s + Ex.occL s t
end
end Go.Proofs.YthaphbbeiglolaaGreat
end

section
namespace Go.Proofs.YthaphbbeiglolaaGreat

end Go.Proofs.YthaphbbeiglolaaGreat
end
