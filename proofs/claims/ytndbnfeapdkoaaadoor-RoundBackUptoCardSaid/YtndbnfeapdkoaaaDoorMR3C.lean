/-
  Walks: the third reference's exact, Add.
  Walks: the law's own is; the law RoundSums.
  A block of limbs that is written to: its cells begin with a list; all other blocks are as they were.
-/
import Derived.Test.YtndbnfeapdkoaaaDoorMR3B
import Derived.Test.YtndbnfeapdkoaaaDoorMMul
section
namespace Go.Proofs.YtndbnfeapdkoaaaDoor
open Go.RowKit

theorem sumD_e (d f : Dy) : -16384 ≤ (sumD d f).e := by
  unfold sumD ofI canon
  split
  · exact (by decide : (-16384 : Int) ≤ 0)
  · show -16384 ≤ -16384 + (tz _ : Int); omega
theorem sumD_zero0 {d f : Dy} (h : (sumD d f).m = 0) : sumD d f = .zero := by
  unfold sumD ofI canon at h ⊢
  split
  · rfl
  · next h0 =>
    rw [if_neg h0] at h
    have := (oddp_spec h0).1
    have h2 : oddp (d.iv + f.iv).natAbs = 0 := h
    rw [h2] at this
    exact absurd this (by decide)
theorem sum_rnd {d f : Dy} {p : Nat} {up : Bool} (hp : p ≤ 512) : rndS (sumD d f).neg (sumD d f).m (sumD d f).e false p up = rnd 0 (d.iv + f.iv) p up := by
  by_cases h0 : (sumD d f).m = 0
  · have hz := sumD_zero0 h0
    have hi := sumD_iv d f
    rw [hz, Dy.iv_zero] at hi
    rw [hz, ← hi]
    have := rndS_rnd (d := .zero) Dy.ok_zero hp up
    rwa [Dy.iv_zero] at this
  · have he := sumD_e d f
    refine rndS_val (a := 0) (b := ((sumD d f).e + 16384).toNat) h0 ?_ (by omega)
    rw [Int.pow_zero, Int.mul_one, ← sumD_iv]
    unfold Dy.iv sg
    split
    · push_cast; rw [Int.neg_mul]
    · push_cast; rfl
end Go.Proofs.YtndbnfeapdkoaaaDoor
end

section
namespace Go.Proofs.YtndbnfeapdkoaaaDoor
open Go.RowKit

theorem addB_ok (x y : RD) (p : Int) (up : Bool) : (addB x y p up).1.ok := by
  unfold addB
  split
  · next h0 =>
    obtain ⟨_, h1, h2⟩ := fltB_zero.1 h0
    cases up with
    | false =>
      cases hr : rnd 0 (x.iv + y.iv) p.toNat false with
      | none => exact Dy.ok_zero
      | some d => exact (down_spec (by omega) (by omega) hr).1.1
    | true =>
      cases hr : rnd 0 (x.iv + y.iv) p.toNat true with
      | none => exact Dy.ok_zero
      | some d => exact (up_spec (by omega) (by omega) hr).1.1
  · exact Dy.ok_zero
theorem addB_zero (x y : RD) (p : Int) (up : Bool) (h : (addB x y p up).2 ≠ 0) : (addB x y p up).1 = .zero := by
  unfold addB at h ⊢
  split
  · next h0 =>
    rw [if_pos h0] at h
    cases hr : rnd 0 (x.iv + y.iv) p.toNat up with
    | none => rfl
    | some d => rw [hr] at h; exact absurd rfl h
  · rfl
set_option maxHeartbeats 2000000 in
theorem is_ok (a b : RD) (ec : Int) (w : World) (ha : a.ok w) (hb : b.ok w) (h : a.dy = b.dy) (he : ec ≠ 0 → a.dy = .zero) :
    Calls Tryd.prog 9 #[.agg #[.bool a.neg, .slice a.a a.xs.length a.c, .int .i64 a.e], .int .i64 ec, .agg #[.bool b.neg, .slice b.a b.xs.length b.c, .int .i64 b.e], .int .i64 ec] w fun e w' => e = .returned (.bool true) ∧ Kp w w' := by
  have HS := Lib.hid (sameR_dy ha hb h)
  have HL := Lib.hid (fun k : ec ≠ 0 => (rdok_zero ha).2 (by rw [he k]; rfl))
  have RA := ha.1
  have RB := hb.1
  clear ha hb h he
  go_enter Tryd.func9, Tryd.ntmps9
  go_wp2_with fail
  generalize hW : ((w.alloc _).alloc _) = W at *
  have hk : Kp w W := hW ▸ ((Kp.refl w).alloc _).alloc _
  have hS : W.cell? ⟨w.heap.size, 0, none⟩ = some (.bool a.neg) ∧ W.cell? ⟨w.heap.size, 1, none⟩ = some (.slice a.a a.xs.length a.c) ∧ W.cell? ⟨w.heap.size, 2, none⟩ = some (.int .i64 a.e) := by rw [← hW]; exact keep3 ((Kp.refl _).alloc _) (by simp)
  clear hW
  refine (same_any a b _ (RA.kp hk) (RB.kp hk)).mono ?_
  rw [HS.out]
  rintro e w1 ⟨rfl, k1⟩
  have h1 := hk.trans k1
  obtain ⟨s0, s1, s2⟩ := keep3 k1 hS
  clear hS hk k1
  by_cases hz : ec = 0
  · subst hz
    clear s0 s1 s2
    go_wp2_with fail
    go_ret
    exact ⟨rfl, h1⟩
  · have hl : ((a.xs.length : Int) == 0) = true := beq_iff_eq.2 (by have := HL.out hz; omega)
    have hz2 : (ec == 0) = false := beq_eq_false_iff_ne.2 hz
    go_wp2_with fail
    go_ret
    exact ⟨rfl, h1⟩
end Go.Proofs.YtndbnfeapdkoaaaDoor
end

section
namespace Go.Proofs.YtndbnfeapdkoaaaDoor
open Go.RowKit

/-- The cells of block g begin with the numbers xs. -/
def Pre (w : World) (g : Nat) (xs : List Nat) : Prop :=
  ∃ cur : Array Value, w.heap[g]? = some (.cells cur 42 (0, 0)) ∧ cur.toList.take xs.length = xs.map u32v ∧ xs.length ≤ cur.size
theorem Pre.cell {w : World} {g : Nat} {xs : List Nat} (h : Pre w g xs) {i : Nat} (hi : i < xs.length) : w.cell? ⟨g, i, none⟩ = some (.int .u32 (nth xs i)) := by
  obtain ⟨cur, h1, h2, _⟩ := h
  rw [cell_of_row w g _ cur _ _ h1]
  have h3 : (cur.toList.take xs.length)[i]? = some (u32v (nth xs i)) := by rw [h2, List.getElem?_map, nth_get? hi]; rfl
  rw [List.getElem?_take, if_pos hi] at h3
  simpa [u32v] using h3
theorem Pre.frozen {w : World} {g : Nat} {xs : List Nat} (h : Pre w g xs) (i : Nat) : w.frozen? ⟨g, i, none⟩ = false := by
  obtain ⟨cur, h1, _⟩ := h
  exact frozen_of_row w g _ _ _ h1
theorem Pre.rd {w : World} {g : Nat} {xs : List Nat} (h : Pre w g xs) (hl : Lt32 xs) : Rd w (some ⟨g, 0, none⟩) xs :=
  ⟨hl, .inr ⟨g, 0, rfl, fun i hi => by rw [Nat.zero_add]; exact h.cell hi⟩⟩
theorem Pre.lt {w : World} {g : Nat} {xs : List Nat} (h : Pre w g xs) : g < w.heap.size := by
  obtain ⟨cur, h1, _⟩ := h
  exact (Array.getElem?_eq_some_iff.1 h1).1
theorem Pre.kp {w w' : World} {g : Nat} {xs : List Nat} (h : Pre w g xs) (k : Kp w w') : Pre w' g xs := by
  obtain ⟨cur, h1, h2⟩ := h
  exact ⟨cur, k.heap h1, h2⟩
theorem Pre.set {w : World} {g : Nat} {xs : List Nat} (h : Pre w g xs) {i x : Nat} {e : Int} (he : e = x) : Pre (w.setCell ⟨g, i, none⟩ (.int .u32 e)) g (xs.set i x) := by
  obtain ⟨cur, h1, h2, h3⟩ := h
  subst he
  refine ⟨cur.setIfInBounds i (.int .u32 (x : Int)), heap_setCell_same w g i _ _ _ h1, ?_, by simpa using h3⟩
  rw [Array.toList_setIfInBounds, List.length_set, List.take_set, h2, List.map_set]
  rfl
theorem Pre.of {w : World} {base : Nat} {a : Option Addr} {n c : Nat} {xs : List Nat} (h : Own w base (.slice a n c) xs) (h0 : xs ≠ []) : ∃ g, a = some ⟨g, 0, none⟩ ∧ base ≤ g ∧ Pre w g xs := by
  obtain ⟨_, _, h3⟩ := h
  rcases h3 with ⟨_, h3⟩ | ⟨g, cap, cur, h4, hb, hg, hn, hc, hs, ht⟩
  · exact absurd (List.length_eq_zero_iff.1 h3) h0
  · injection h4 with e1 e2 e3
    exact ⟨g, e1, hb, cur, hg, by rw [Nat.mul_one] at ht; exact ht, by omega⟩
/-- between a part before and a part behind -/
theorem Pre.at {w : World} {g : Nat} {pre ws post : List Nat} (h : Pre w g (pre ++ ws ++ post)) {i : Nat} (hi : i < ws.length) : w.cell? ⟨g, pre.length + i, none⟩ = some (.int .u32 (nth ws i)) := by
  have := h.cell (i := pre.length + i) (by simp; omega)
  rwa [nth_append_left (by simp; omega), nth_append_right (by omega), Nat.add_sub_cancel_left] at this
theorem Pre.put {w : World} {g : Nat} {pre ws post : List Nat} (h : Pre w g (pre ++ ws ++ post)) {i x : Nat} (hi : i < ws.length) {e : Int} (he : e = x) : Pre (w.setCell ⟨g, pre.length + i, none⟩ (.int .u32 e)) g (pre ++ ws.set i x ++ post) := by
  have := h.set (i := pre.length + i) he
  rwa [List.set_append_left _ _ (by simp; omega), List.set_append_right _ _ (by omega), Nat.add_sub_cancel_left] at this

/-- all blocks but g are as they were -/
def Mod (g : Nat) (w w' : World) : Prop := w'.os = w.os ∧ w'.tape = w.tape ∧ w'.output = w.output ∧ w.heap.size ≤ w'.heap.size ∧ ∀ k, k < w.heap.size → k ≠ g → w'.heap[k]? = w.heap[k]?
theorem Mod.refl (g : Nat) (w : World) : Mod g w w := ⟨rfl, rfl, rfl, Nat.le_refl _, fun _ _ _ => rfl⟩
theorem Mod.trans {g : Nat} {a b c : World} (h : Mod g a b) (k : Mod g b c) : Mod g a c :=
  ⟨k.1.trans h.1, k.2.1.trans h.2.1, k.2.2.1.trans h.2.2.1, Nat.le_trans h.2.2.2.1 k.2.2.2.1, fun i hi hn => (k.2.2.2.2 i (by have := h.2.2.2.1; omega) hn).trans (h.2.2.2.2 i hi hn)⟩
theorem Mod.kp {g : Nat} {a b c : World} (h : Mod g a b) (k : Kp b c) : Mod g a c :=
  h.trans ⟨k.os, k.tape, k.output, k.size, fun i hi _ => k.block i hi⟩
theorem Mod.set {g : Nat} {a w : World} (h : Mod g a w) (i : Nat) (v : Value) : Mod g a (w.setCell ⟨g, i, none⟩ v) := by
  have := Below.setCell (Below.refl 0 w) (p := ⟨g, i, none⟩) (Nat.zero_le _) v
  exact h.trans ⟨this.os, this.tape, this.output, this.size, fun k _ hn => heap_setCell_other w _ k v hn⟩
theorem Mod.drew {g : Nat} {a w : World} (h : Mod g a w) : Mod g a w.drew := h.kp (Kp.refl w).drew
theorem Mod.cell {g : Nat} {w w' : World} (h : Mod g w w') {p : Addr} {v : Value} (hp : p.block ≠ g) (hc : w.cell? p = some v) : w'.cell? p = some v :=
  (World.cell?_of_block (w := w) (h.2.2.2.2 p.block (World.block_lt_of_cell? w p hc) hp)).trans hc
theorem Mod.rd {g b o : Nat} {w w' : World} (h : Mod g w w') (hb : b ≠ g) {xs : List Nat} (hr : Rd w (some ⟨b, o, none⟩) xs) : Rd w' (some ⟨b, o, none⟩) xs := by
  refine ⟨hr.1, ?_⟩
  rcases hr.2 with h2 | ⟨b', o', e, h2⟩
  · exact .inl h2
  · cases e
    exact .inr ⟨b, o, rfl, fun i hi => h.cell (p := ⟨b, o + i, none⟩) hb (h2 i hi)⟩
theorem Mod.blk {g b : Nat} {w w' : World} (h : Mod g w w') (hb : b ≠ g) {xs : List Nat} (hr : Blk w b xs) : Blk w' b xs := (h.2.2.2.2 b hr.lt hb).trans hr
theorem Mod.pre {g b : Nat} {w w' : World} (h : Mod g w w') (hb : b ≠ g) {xs : List Nat} (hr : Pre w b xs) : Pre w' b xs := by
  obtain ⟨cur, h1, h2⟩ := hr
  exact ⟨cur, (h.2.2.2.2 b (Array.getElem?_eq_some_iff.1 h1).1 hb).trans h1, h2⟩
theorem Mod.below {g : Nat} {a w w' : World} (h : Mod g w w') (k : Kp a w) (hg : a.heap.size ≤ g) : Kp a w' :=
  ⟨h.1.trans k.os, h.2.1.trans k.tape, h.2.2.1.trans k.output, Nat.le_trans k.size h.2.2.2.1, fun i hi => (h.2.2.2.2 i (by have := k.size; omega) (by omega)).trans (k.block i hi)⟩
end Go.Proofs.YtndbnfeapdkoaaaDoor
end
