/-
  Plain: the norm of a matrix; stores of numbers.
  Plain: a quotient's rounding does not depend on how many bits more are computed.
  Plain: Knuth's digit of a quotient is right or one too great; no program in sight.
  Walks: natural.digit.
  Walks: natural.guess.
  A block of limbs that is written to: its cells begin with a list; all other blocks are as they were.
  Walks: natural.take.
  Plain: one step of the division of limbs by limbs; no program in sight.
  Walks: natural.divide.
-/
import Derived.Test.YtdlpiblgkpgplaaGreatDoorMIvT
import Derived.Test.YtdlpiblgkpgplaaGreatDoorMDotM
import Derived.Test.YtdlpiblgkpgplaaGreatDoorMRoAdd
import Derived.Test.YtdlpiblgkpgplaaGreatDoorMRoSq
import Derived.Test.YtdlpiblgkpgplaaGreatDoorMSumH
import Derived.Test.YtdlpiblgkpgplaaGreatDoorMMul
import Derived.Test.YtdlpiblgkpgplaaGreatDoorMDyA
section
namespace Go.Proofs.YtdlpiblgkpgplaaGreatDoor
open Go.RowKit

/-- a number is stored -/
theorem stored3 {w : World} {g : Nat} {y0 y1 y2 : Value} (h : Box3 w g y0 y1 y2) (n0 : ∀ n : Int, y0 ≠ .int .u32 n) (n1 : ∀ n : Int, y1 ≠ .int .u32 n) (n2 : ∀ n : Int, y2 ≠ .int .u32 n) (x0 x1 x2 : Value) {W : World}
    (hW : (((w.setCell ⟨g, 0, none⟩ x0).setCell ⟨g, 1, none⟩ x1).setCell ⟨g, 2, none⟩ x2) = W) : Box3 W g x0 x1 x2 ∧ Upd g w W := by
  obtain ⟨h0, h1, h2, f0, f1, f2⟩ := h
  have a1 := set_at (i := 0) (v := x0) (by decide) h1
  have a2 := set_at (i := 1) (v := x1) (by decide) (set_at (i := 0) (v := x0) (by decide) h2)
  have U := (((Upd.refl g w).step h0 n0 x0).step a1 n1 x1).step a2 n2 x2
  rw [← hW]
  exact ⟨⟨set_at (by decide) (set_at (by decide) (cell_set_eq h0)), set_at (by decide) (cell_set_eq a1), cell_set_eq a2, (U.1 _).trans f0, (U.1 _).trans f1, (U.1 _).trans f2⟩, U⟩
/-- the number x lies in block g -/
def BoxD (w : World) (g : Nat) (x : RD) : Prop := Box3 w g (.bool x.neg) (.slice x.a x.xs.length x.c) (.int .i64 x.e)
theorem BoxD.kp {w w' : World} {g : Nat} {x : RD} (h : BoxD w g x) (k : Kp w w') : BoxD w' g x := Box3.kp h k
theorem BoxD.new (w : World) (x : RD) (t : TypeId) : BoxD (w.alloc (.cells #[.bool x.neg, .slice x.a x.xs.length x.c, .int .i64 x.e] t)) w.heap.size x := Box3.new _ _ _ _ _
theorem BoxD.store {w : World} {g : Nat} {x : RD} (h : BoxD w g x) (y : RD) {W : World} (hW : (((w.setCell ⟨g, 0, none⟩ (.bool y.neg)).setCell ⟨g, 1, none⟩ (.slice y.a y.xs.length y.c)).setCell ⟨g, 2, none⟩ (.int .i64 y.e)) = W) : BoxD W g y ∧ Upd g w W :=
  stored3 h (fun _ h => by cases h) (fun _ h => by cases h) (fun _ h => by cases h) _ _ _ hW
end Go.Proofs.YtdlpiblgkpgplaaGreatDoor
end

section
namespace Go.Proofs.YtdlpiblgkpgplaaGreatDoor

end Go.Proofs.YtdlpiblgkpgplaaGreatDoor
end

section
namespace Go.Proofs.YtdlpiblgkpgplaaGreatDoor

section
variable {U V T x3 up P v1 w vp q r : Nat}
end
end Go.Proofs.YtdlpiblgkpgplaaGreatDoor
end

section
namespace Go.Proofs.YtdlpiblgkpgplaaGreatDoor
open Go.RowKit

end Go.Proofs.YtdlpiblgkpgplaaGreatDoor
end

section
namespace Go.Proofs.YtdlpiblgkpgplaaGreatDoor
open Go.RowKit

end Go.Proofs.YtdlpiblgkpgplaaGreatDoor
end

section
namespace Go.Proofs.YtdlpiblgkpgplaaGreatDoor
open Go.RowKit

/-- The cells of block g begin with the numbers xs. -/
def Pre (w : World) (g : Nat) (xs : List Nat) : Prop :=
  ∃ cur : Array Value, w.heap[g]? = some (.cells cur 73 (0, 0)) ∧ cur.toList.take xs.length = xs.map u32v ∧ xs.length ≤ cur.size
theorem Pre.cell {w : World} {g : Nat} {xs : List Nat} (h : Pre w g xs) {i : Nat} (hi : i < xs.length) : w.cell? ⟨g, i, none⟩ = some (.int .u32 (nth xs i)) := by
  obtain ⟨cur, h1, h2, _⟩ := h
  rw [cell_of_row w g _ cur _ _ h1]
  have h3 : (cur.toList.take xs.length)[i]? = some (u32v (nth xs i)) := by rw [h2, List.getElem?_map, nth_get? hi]; rfl
  rw [List.getElem?_take, if_pos hi] at h3
  simpa [u32v] using h3
theorem Pre.frozen {w : World} {g : Nat} {xs : List Nat} (h : Pre w g xs) (i : Nat) : w.frozen? ⟨g, i, none⟩ = false := by
  obtain ⟨cur, h1, _⟩ := h
  exact frozen_of_row w g _ _ _ h1
theorem Pre.rd {w : World} {g : Nat} {xs : List Nat} (h : Pre w g xs) (hl : Lt32 xs) : Rd w (some ⟨g, 0, none⟩) xs :=
  ⟨hl, .inr ⟨g, 0, rfl, fun i hi => by rw [Nat.zero_add]; exact h.cell hi⟩⟩
theorem Pre.lt {w : World} {g : Nat} {xs : List Nat} (h : Pre w g xs) : g < w.heap.size := by
  obtain ⟨cur, h1, _⟩ := h
  exact (Array.getElem?_eq_some_iff.1 h1).1
theorem Pre.kp {w w' : World} {g : Nat} {xs : List Nat} (h : Pre w g xs) (k : Kp w w') : Pre w' g xs := by
  obtain ⟨cur, h1, h2⟩ := h
  exact ⟨cur, k.heap h1, h2⟩
theorem Pre.set {w : World} {g : Nat} {xs : List Nat} (h : Pre w g xs) {i x : Nat} {e : Int} (he : e = x) : Pre (w.setCell ⟨g, i, none⟩ (.int .u32 e)) g (xs.set i x) := by
  obtain ⟨cur, h1, h2, h3⟩ := h
  subst he
  refine ⟨cur.setIfInBounds i (.int .u32 (x : Int)), heap_setCell_same w g i _ _ _ h1, ?_, by simpa using h3⟩
  rw [Array.toList_setIfInBounds, List.length_set, List.take_set, h2, List.map_set]
  rfl
theorem Pre.of {w : World} {base : Nat} {a : Option Addr} {n c : Nat} {xs : List Nat} (h : Own w base (.slice a n c) xs) (h0 : xs ≠ []) : ∃ g, a = some ⟨g, 0, none⟩ ∧ base ≤ g ∧ Pre w g xs := by
  obtain ⟨_, _, h3⟩ := h
  rcases h3 with ⟨_, h3⟩ | ⟨g, cap, cur, h4, hb, hg, hn, hc, hs, ht⟩
  · exact absurd (List.length_eq_zero_iff.1 h3) h0
  · injection h4 with e1 e2 e3
    exact ⟨g, e1, hb, cur, hg, by rw [Nat.mul_one] at ht; exact ht, by omega⟩
/-- between a part before and a part behind -/
theorem Pre.at {w : World} {g : Nat} {pre ws post : List Nat} (h : Pre w g (pre ++ ws ++ post)) {i : Nat} (hi : i < ws.length) : w.cell? ⟨g, pre.length + i, none⟩ = some (.int .u32 (nth ws i)) := by
  have := h.cell (i := pre.length + i) (by simp; omega)
  rwa [nth_append_left (by simp; omega), nth_append_right (by omega), Nat.add_sub_cancel_left] at this
theorem Pre.put {w : World} {g : Nat} {pre ws post : List Nat} (h : Pre w g (pre ++ ws ++ post)) {i x : Nat} (hi : i < ws.length) {e : Int} (he : e = x) : Pre (w.setCell ⟨g, pre.length + i, none⟩ (.int .u32 e)) g (pre ++ ws.set i x ++ post) := by
  have := h.set (i := pre.length + i) he
  rwa [List.set_append_left _ _ (by simp; omega), List.set_append_right _ _ (by omega), Nat.add_sub_cancel_left] at this

/-- all blocks but g are as they were -/
def Mod (g : Nat) (w w' : World) : Prop := w'.os = w.os ∧ w'.tape = w.tape ∧ w'.output = w.output ∧ w.heap.size ≤ w'.heap.size ∧ ∀ k, k < w.heap.size → k ≠ g → w'.heap[k]? = w.heap[k]?
theorem Mod.refl (g : Nat) (w : World) : Mod g w w := ⟨rfl, rfl, rfl, Nat.le_refl _, fun _ _ _ => rfl⟩
theorem Mod.trans {g : Nat} {a b c : World} (h : Mod g a b) (k : Mod g b c) : Mod g a c :=
  ⟨k.1.trans h.1, k.2.1.trans h.2.1, k.2.2.1.trans h.2.2.1, Nat.le_trans h.2.2.2.1 k.2.2.2.1, fun i hi hn => (k.2.2.2.2 i (by have := h.2.2.2.1; omega) hn).trans (h.2.2.2.2 i hi hn)⟩
theorem Mod.kp {g : Nat} {a b c : World} (h : Mod g a b) (k : Kp b c) : Mod g a c :=
  h.trans ⟨k.os, k.tape, k.output, k.size, fun i hi _ => k.block i hi⟩
theorem Mod.set {g : Nat} {a w : World} (h : Mod g a w) (i : Nat) (v : Value) : Mod g a (w.setCell ⟨g, i, none⟩ v) := by
  have := Below.setCell (Below.refl 0 w) (p := ⟨g, i, none⟩) (Nat.zero_le _) v
  exact h.trans ⟨this.os, this.tape, this.output, this.size, fun k _ hn => heap_setCell_other w _ k v hn⟩
theorem Mod.drew {g : Nat} {a w : World} (h : Mod g a w) : Mod g a w.drew := h.kp (Kp.refl w).drew
theorem Mod.cell {g : Nat} {w w' : World} (h : Mod g w w') {p : Addr} {v : Value} (hp : p.block ≠ g) (hc : w.cell? p = some v) : w'.cell? p = some v :=
  (World.cell?_of_block (w := w) (h.2.2.2.2 p.block (World.block_lt_of_cell? w p hc) hp)).trans hc
theorem Mod.rd {g b o : Nat} {w w' : World} (h : Mod g w w') (hb : b ≠ g) {xs : List Nat} (hr : Rd w (some ⟨b, o, none⟩) xs) : Rd w' (some ⟨b, o, none⟩) xs := by
  refine ⟨hr.1, ?_⟩
  rcases hr.2 with h2 | ⟨b', o', e, h2⟩
  · exact .inl h2
  · cases e
    exact .inr ⟨b, o, rfl, fun i hi => h.cell (p := ⟨b, o + i, none⟩) hb (h2 i hi)⟩
theorem Mod.pre {g b : Nat} {w w' : World} (h : Mod g w w') (hb : b ≠ g) {xs : List Nat} (hr : Pre w b xs) : Pre w' b xs := by
  obtain ⟨cur, h1, h2⟩ := hr
  exact ⟨cur, (h.2.2.2.2 b (Array.getElem?_eq_some_iff.1 h1).1 hb).trans h1, h2⟩
theorem Mod.below {g : Nat} {a w w' : World} (h : Mod g w w') (k : Kp a w) (hg : a.heap.size ≤ g) : Kp a w' :=
  ⟨h.1.trans k.os, h.2.1.trans k.tape, h.2.2.1.trans k.output, Nat.le_trans k.size h.2.2.2.1, fun i hi => (h.2.2.2.2 i (by have := k.size; omega) (by omega)).trans (k.block i hi)⟩
end Go.Proofs.YtdlpiblgkpgplaaGreatDoor
end

section
namespace Go.Proofs.YtdlpiblgkpgplaaGreatDoor
open Go.RowKit

end Go.Proofs.YtdlpiblgkpgplaaGreatDoor
end

section
namespace Go.Proofs.YtdlpiblgkpgplaaGreatDoor

theorem back {r V z M y c : Nat} (hz : z + V = r + M) (hr : r < V) (hVM : V ≤ M) (hy : y < M) (h : y + M * c = z + V) : y = r := by
  rcases (show c = 0 ∨ c = 1 ∨ 2 ≤ c by omega) with rfl | rfl | h2
  · omega
  · omega
  · have := Nat.mul_le_mul_left M h2
    omega
end Go.Proofs.YtdlpiblgkpgplaaGreatDoor
end

section
namespace Go.Proofs.YtdlpiblgkpgplaaGreatDoor
open Go.RowKit

end Go.Proofs.YtdlpiblgkpgplaaGreatDoor
end
