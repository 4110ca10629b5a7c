/-
  What a walk says of memory: the world only grows ('Kp'); a slice of uint32 reads as a list of numbers ('Rd').
-/
import Derived.Test.YthaphbbeiglolaaProg
import Derived.Test.YthaphbbeiglolaaNum
import Derived.WalkKit
import Derived.WalkSpells
import Derived.WalkLawsBesides
import Derived.BigQuiet
import Derived.Deep.QuietTactic
import Derived.Lib.Hide
import Derived.Lib.Walk
import Derived.Lib.SliceRun
namespace Go.Proofs.Ythaphbbeiglolaa
open Go.RowKit

/-- All that was there is as it was. -/
def Kp (w w' : World) : Prop := Below w.heap.size w w'
theorem Kp.refl (w : World) : Kp w w := Below.refl _ _
theorem Kp.trans {a b c : World} (h : Kp a b) (k : Kp b c) : Kp a c := Below.trans h (Below.mono k h.size)
theorem Kp.alloc {a w : World} (h : Kp a w) (o : Obj) : Kp a (w.alloc o) := Below.alloc h h.size o
theorem Kp.drew {a w : World} (h : Kp a w) : Kp a w.drew := Below.drew h
theorem Kp.drewN {a w : World} (h : Kp a w) (n : Nat) : Kp a (w.drewN n) := ⟨h.os, h.tape, h.output, h.size, h.block⟩
theorem Kp.size {a w : World} (h : Kp a w) : a.heap.size ≤ w.heap.size := Below.size h
theorem Kp.below {a w : World} (h : Kp a w) : Below a.heap.size a w := h
theorem Kp.of {a w : World} (h : Below a.heap.size a w) : Kp a w := h
theorem Kp.cell {w w' : World} (h : Kp w w') {p : Addr} {v : Value} (hc : w.cell? p = some v) : w'.cell? p = some v :=
  (Below.cell h (World.block_lt_of_cell? w p hc)).trans hc
theorem Kp.frozen {w w' : World} (h : Kp w w') {p : Addr} {v : Value} (hc : w.cell? p = some v) {f : Bool} (hf : w.frozen? p = f) : w'.frozen? p = f :=
  (Below.frozen h (World.block_lt_of_cell? w p hc)).trans hf
theorem Kp.heap {w w' : World} (h : Kp w w') {b : Nat} {o : Obj} (ho : w.heap[b]? = some o) : w'.heap[b]? = some o :=
  (h.block b (Array.getElem?_eq_some_iff.1 ho).1).trans ho
theorem Kp.into {B : Nat} {a w w' : World} (h : Below B a w) (k : Kp w w') (hB : B ≤ w.heap.size) : Below B a w' := h.trans (Below.mono k hB)

/-- a call of the function g enters it -/
def Enters (P : Program) (g : FuncId) : Prop := ∀ args w, (callFunc g args).run P w = .ok (.enter g args) w

/-- The address a shows the numbers xs, as cells of the type uint32. -/
def Rd (w : World) (a : Option Addr) (xs : List Nat) : Prop :=
  Lt32 xs ∧ (xs = [] ∨ ∃ b o, a = some ⟨b, o, none⟩ ∧ ∀ i, i < xs.length → w.cell? ⟨b, o + i, none⟩ = some (.int .u32 (nth xs i)))
theorem Rd.lt32 {w : World} {a : Option Addr} {xs : List Nat} (h : Rd w a xs) : Lt32 xs := h.1
theorem Rd.kp {w w' : World} {a : Option Addr} {xs : List Nat} (h : Rd w a xs) (k : Kp w w') : Rd w' a xs := by
  obtain ⟨h1, h2⟩ := h
  refine ⟨h1, ?_⟩
  rcases h2 with h2 | ⟨b, o, rfl, h2⟩
  · exact .inl h2
  · exact .inr ⟨b, o, rfl, fun i hi => k.cell (h2 i hi)⟩
theorem Rd.nil (w : World) (a : Option Addr) : Rd w a [] := ⟨.nil, .inl rfl⟩
theorem Rd.some {w : World} {a : Option Addr} {xs : List Nat} (h : Rd w a xs) {i : Nat} (hi : i < xs.length) :
    ∃ b o, a = .some ⟨b, o, none⟩ ∧ ∀ i, i < xs.length → w.cell? ⟨b, o + i, none⟩ = .some (.int .u32 (nth xs i)) := by
  rcases h.2 with h2 | h2
  · subst h2; simp at hi
  · exact h2
theorem Rd.take {w : World} {a : Option Addr} {xs : List Nat} (h : Rd w a xs) (n : Nat) : Rd w a (xs.take n) := by
  refine ⟨h.1.take n, ?_⟩
  rcases h.2 with h2 | ⟨b, o, rfl, h2⟩
  · exact .inl (by rw [h2]; simp)
  · refine .inr ⟨b, o, rfl, fun i hi => ?_⟩
    rw [List.length_take] at hi
    rw [nth_take (by omega)]
    exact h2 i (by omega)
theorem Rd.drop {w : World} {b o : Nat} {xs : List Nat} (h : Rd w (.some ⟨b, o, none⟩) xs) (n : Nat) : Rd w (.some ⟨b, o + n, none⟩) (xs.drop n) := by
  refine ⟨h.1.drop n, ?_⟩
  rcases h.2 with h2 | ⟨b', o', e, h2⟩
  · exact .inl (by rw [h2]; simp)
  · cases e
    refine .inr ⟨b, o + n, rfl, fun i hi => ?_⟩
    rw [List.length_drop] at hi
    rw [nth_drop, Nat.add_assoc]
    exact h2 _ (by omega)

theorem ret_bool {a b : Bool} (h : a = b) : Ending.returned (.bool a) = .returned (.bool b) := by rw [h]
theorem ret_int {k : IntKind} {a b : Int} (h : a = b) : Ending.returned (.int k a) = .returned (.int k b) := by rw [h]
theorem ret_len {a : Option Addr} {m n c : Nat} (h : m = n) : Ending.returned (.slice a m c) = .returned (.slice a n c) := by rw [h]

/-- The call's own slice v, in a block from 'base' on, of the numbers xs. -/
def Own (w : World) (base : Nat) (v : Value) (xs : List Nat) : Prop :=
  Lt32 xs ∧ w.ownsRow base 93 1 v xs.length (xs.map fun x : Nat => Value.int .u32 (x : Int))

theorem Own.value {w : World} {base : Nat} {v : Value} {xs : List Nat} (h : Own w base v xs) : ∃ a c, v = .slice a xs.length c ∧ xs.length ≤ c ∧ c ≤ maxLen ∧ Rd w a xs := by
  obtain ⟨h1, h2, h3⟩ := h
  rcases h3 with ⟨rfl, h3⟩ | ⟨g, cap, cur, rfl, hb, hg, hn, hc, hs, ht⟩
  · refine ⟨none, 0, by rw [h3], by omega, by decide, h1, .inl (List.length_eq_zero_iff.1 h3)⟩
  · refine ⟨_, _, rfl, hn, hc, h1, .inr ⟨g, 0, rfl, fun i hi => ?_⟩⟩
    rw [cell_of_row w g _ cur _ _ hg]
    have : (cur.toList.take (xs.length * 1))[i]? = .some (.int .u32 (nth xs i)) := by
      rw [ht, List.getElem?_map, nth_get? hi]; rfl
    rw [List.getElem?_take, if_pos (by omega)] at this
    simpa using this


/-- a number as a uint32 -/
def u32v (x : Nat) : Value := .int .u32 (x : Int)
/-- Block g holds just the numbers xs, as cells of the type uint32. -/
def Blk (w : World) (g : Nat) (xs : List Nat) : Prop := w.heap[g]? = some (.cells (xs.map u32v).toArray 93 (0, 0))
theorem Blk.cell {w : World} {g : Nat} {xs : List Nat} (h : Blk w g xs) {i : Nat} (hi : i < xs.length) : w.cell? ⟨g, i, none⟩ = some (.int .u32 (nth xs i)) := by
  rw [cell_of_row w g _ _ _ _ h, List.getElem?_toArray, List.getElem?_map, nth_get? hi]; rfl
theorem Blk.frozen {w : World} {g : Nat} {xs : List Nat} (h : Blk w g xs) (i : Nat) : w.frozen? ⟨g, i, none⟩ = false := frozen_of_row w g _ _ _ h
theorem Blk.kp {w w' : World} {g : Nat} {xs : List Nat} (h : Blk w g xs) (k : Kp w w') : Blk w' g xs := k.heap h
theorem Blk.rd {w : World} {g : Nat} {xs : List Nat} (h : Blk w g xs) (hl : Lt32 xs) : Rd w (some ⟨g, 0, none⟩) xs :=
  ⟨hl, .inr ⟨g, 0, rfl, fun i hi => by rw [Nat.zero_add]; exact h.cell hi⟩⟩
theorem Blk.set {w : World} {g : Nat} {xs : List Nat} (h : Blk w g xs) (i x : Nat) : Blk (w.setCell ⟨g, i, none⟩ (.int .u32 (x : Int))) g (xs.set i x) := by
  unfold Blk
  rw [heap_setCell_same w g i _ _ _ h]
  congr 2
  rw [List.setIfInBounds_toArray, List.map_set]; rfl
theorem Blk.put {w : World} {g : Nat} {xs : List Nat} (h : Blk w g xs) {i x : Nat} {e : Int} (he : e = x) : Blk (w.setCell ⟨g, i, none⟩ (.int .u32 e)) g (xs.set i x) := by
  subst he; exact h.set i x
theorem Kp.set {a w : World} (h : Kp a w) {g i : Nat} (hg : a.heap.size ≤ g) (v : Value) : Kp a (w.setCell ⟨g, i, none⟩ v) := Below.setCell h hg v
theorem Blk.made (w : World) (n : Nat) : Blk (w.alloc (.cells (madeCells #[.int .u32 0] n) 93)) w.heap.size (List.replicate n 0) := by
  unfold Blk
  rw [heap_alloc_new]
  congr 2
  rw [← Array.toList_inj, toList_madeCells_one, List.map_replicate]; rfl
theorem Blk.lt {w : World} {g : Nat} {xs : List Nat} (h : Blk w g xs) : g < w.heap.size := (Array.getElem?_eq_some_iff.1 h).1
/-- A store into a block from B on. -/
theorem below_set {B : Nat} {a w : World} (h : Below B a w) {g i : Nat} (hg : B ≤ g) (v : Value) : Below B a (w.setCell ⟨g, i, none⟩ v) := h.setCell hg v

theorem infoU32 : (Try.prog.info? 93).map (fun i => (i.zero, i.size, i.bytes)) = some (some (.int .u32 0), 1, 4) := by kernel_rfl
theorem Own.nil (w : World) (base : Nat) : Own w base (.slice none 0 0) [] := ⟨.nil, World.ownsRow_nil _ _ _ _⟩
theorem Own.alloc {w : World} {base : Nat} {v : Value} {xs : List Nat} (h : Own w base v xs) (o : Obj) : Own (w.alloc o) base v xs := ⟨h.1, h.2.alloc o⟩
theorem Own.rd {w : World} {base : Nat} {a : Option Addr} {n c : Nat} {xs : List Nat} (h : Own w base (.slice a n c) xs) : n = xs.length ∧ xs.length ≤ c ∧ c ≤ maxLen ∧ Rd w a xs := by
  obtain ⟨a', c', e, h1, h2, h3⟩ := h.value
  cases e
  exact ⟨rfl, h1, h2, h3⟩
theorem Own.made (w : World) (l c : Nat) (hl : l ≤ c) (hc : c ≤ 9000000) (base : Nat) (hb : base ≤ w.heap.size) :
    Own (w.alloc (.cells (madeCells #[.int .u32 0] c) 93)) base (.slice (some ⟨w.heap.size, 0, none⟩) l c) (List.replicate l 0) := by
  refine ⟨.replicate _, by simp, .inr ⟨w.heap.size, c, _, by simp, hb, heap_alloc_new w _, by simpa using hl, by unfold maxLen; omega, by simp [size_madeCells], ?_⟩⟩
  rw [toList_madeCells_one]
  simp [List.take_replicate, Nat.min_eq_left hl]
theorem run_append_zero {w : World} (base : Nat) (t ty e : TypeId) (i : TypeInfo) (size : Nat) (ht : Try.prog.underlying t = some (.slice e)) (hi : Try.prog.info? e = some i)
    (v : Value) (n c2 : Nat) (xs : List Value) (hown : w.ownsRow base e size v n xs) :
    (Builtin.append_ #[t, t] ty #[v, .slice none 0 c2]).run Try.prog w = .ok v w := by
  rcases hown.2 with ⟨rfl, rfl⟩ | ⟨g, cap, cur, rfl, _, _, hnc, _⟩
  · simp [Builtin.append_, run_underlying ht, sizeOf, typeInfo, hi, Builtin.lenOf, Builtin.firstCells]
  · simp [Builtin.append_, run_underlying ht, sizeOf, typeInfo, hi, Builtin.lenOf, Builtin.firstCells, hnc, storeCells]
/-- the empty literal []uint32{} -/
theorem Own.empty (w : World) (base : Nat) (hb : base ≤ w.heap.size) : Own (w.alloc (.cells #[] 93)) base (.slice (some ⟨w.heap.size, 0, none⟩) 0 0) [] :=
  ⟨.nil, World.ownsRow_made w #[] 0 hb (Nat.zero_le _) rfl⟩
end Go.Proofs.Ythaphbbeiglolaa
