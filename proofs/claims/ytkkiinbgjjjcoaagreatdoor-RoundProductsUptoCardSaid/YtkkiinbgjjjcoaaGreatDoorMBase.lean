/-
  What a walk says of memory: the world only grows ('Kp'); a slice of uint32 reads as a list of numbers ('Rd').
  Walks: trim.
  Walks: slices.IndexFunc, slices.ContainsFunc.
-/
import Derived.Test.YtkkiinbgjjjcoaaGreatDoorProg
import Derived.Test.YtkkiinbgjjjcoaaGreatDoorMNum
import Derived.WalkKit
import Derived.WalkSpells
import Derived.WalkLawsBesides
import Derived.BigQuiet
import Derived.Deep.QuietTactic
import Derived.Lib.Hide
import Derived.Lib.Walk
import Derived.Lib.SliceRun
section
namespace Go.Proofs.YtkkiinbgjjjcoaaGreatDoor
open Go.RowKit

/-- All that was there is as it was. -/
def Kp (w w' : World) : Prop := Below w.heap.size w w'
theorem Kp.refl (w : World) : Kp w w := Below.refl _ _
theorem Kp.trans {a b c : World} (h : Kp a b) (k : Kp b c) : Kp a c := Below.trans h (Below.mono k h.size)
theorem Kp.alloc {a w : World} (h : Kp a w) (o : Obj) : Kp a (w.alloc o) := Below.alloc h h.size o
theorem Kp.drew {a w : World} (h : Kp a w) : Kp a w.drew := Below.drew h
theorem Kp.drewN {a w : World} (h : Kp a w) (n : Nat) : Kp a (w.drewN n) := ⟨h.os, h.tape, h.output, h.size, h.block⟩
theorem Kp.size {a w : World} (h : Kp a w) : a.heap.size ≤ w.heap.size := Below.size h
theorem Kp.below {a w : World} (h : Kp a w) : Below a.heap.size a w := h
theorem Kp.of {a w : World} (h : Below a.heap.size a w) : Kp a w := h
theorem Kp.cell {w w' : World} (h : Kp w w') {p : Addr} {v : Value} (hc : w.cell? p = some v) : w'.cell? p = some v :=
  (Below.cell h (World.block_lt_of_cell? w p hc)).trans hc
theorem Kp.frozen {w w' : World} (h : Kp w w') {p : Addr} {v : Value} (hc : w.cell? p = some v) {f : Bool} (hf : w.frozen? p = f) : w'.frozen? p = f :=
  (Below.frozen h (World.block_lt_of_cell? w p hc)).trans hf
theorem Kp.heap {w w' : World} (h : Kp w w') {b : Nat} {o : Obj} (ho : w.heap[b]? = some o) : w'.heap[b]? = some o :=
  (h.block b (Array.getElem?_eq_some_iff.1 ho).1).trans ho
theorem Kp.into {B : Nat} {a w w' : World} (h : Below B a w) (k : Kp w w') (hB : B ≤ w.heap.size) : Below B a w' := h.trans (Below.mono k hB)

/-- a call of the function g enters it -/
def Enters (P : Program) (g : FuncId) : Prop := ∀ args w, (callFunc g args).run P w = .ok (.enter g args) w

/-- The address a shows the numbers xs, as cells of the type uint32. -/
def Rd (w : World) (a : Option Addr) (xs : List Nat) : Prop :=
  Lt32 xs ∧ (xs = [] ∨ ∃ b o, a = some ⟨b, o, none⟩ ∧ ∀ i, i < xs.length → w.cell? ⟨b, o + i, none⟩ = some (.int .u32 (nth xs i)))
theorem Rd.lt32 {w : World} {a : Option Addr} {xs : List Nat} (h : Rd w a xs) : Lt32 xs := h.1
theorem Rd.kp {w w' : World} {a : Option Addr} {xs : List Nat} (h : Rd w a xs) (k : Kp w w') : Rd w' a xs := by
  obtain ⟨h1, h2⟩ := h
  refine ⟨h1, ?_⟩
  rcases h2 with h2 | ⟨b, o, rfl, h2⟩
  · exact .inl h2
  · exact .inr ⟨b, o, rfl, fun i hi => k.cell (h2 i hi)⟩
theorem Rd.nil (w : World) (a : Option Addr) : Rd w a [] := ⟨.nil, .inl rfl⟩
theorem Rd.some {w : World} {a : Option Addr} {xs : List Nat} (h : Rd w a xs) {i : Nat} (hi : i < xs.length) :
    ∃ b o, a = .some ⟨b, o, none⟩ ∧ ∀ i, i < xs.length → w.cell? ⟨b, o + i, none⟩ = .some (.int .u32 (nth xs i)) := by
  rcases h.2 with h2 | h2
  · subst h2; simp at hi
  · exact h2
theorem Rd.take {w : World} {a : Option Addr} {xs : List Nat} (h : Rd w a xs) (n : Nat) : Rd w a (xs.take n) := by
  refine ⟨h.1.take n, ?_⟩
  rcases h.2 with h2 | ⟨b, o, rfl, h2⟩
  · exact .inl (by rw [h2]; simp)
  · refine .inr ⟨b, o, rfl, fun i hi => ?_⟩
    rw [List.length_take] at hi
    rw [nth_take (by omega)]
    exact h2 i (by omega)
theorem Rd.drop {w : World} {b o : Nat} {xs : List Nat} (h : Rd w (.some ⟨b, o, none⟩) xs) (n : Nat) : Rd w (.some ⟨b, o + n, none⟩) (xs.drop n) := by
  refine ⟨h.1.drop n, ?_⟩
  rcases h.2 with h2 | ⟨b', o', e, h2⟩
  · exact .inl (by rw [h2]; simp)
  · cases e
    refine .inr ⟨b, o + n, rfl, fun i hi => ?_⟩
    rw [List.length_drop] at hi
    rw [nth_drop, Nat.add_assoc]
    exact h2 _ (by omega)

theorem ret_bool {a b : Bool} (h : a = b) : Ending.returned (.bool a) = .returned (.bool b) := by rw [h]
theorem ret_int {k : IntKind} {a b : Int} (h : a = b) : Ending.returned (.int k a) = .returned (.int k b) := by rw [h]
theorem ret_len {a : Option Addr} {m n c : Nat} (h : m = n) : Ending.returned (.slice a m c) = .returned (.slice a n c) := by rw [h]

/-- The call's own slice v, in a block from 'base' on, of the numbers xs. -/
def Own (w : World) (base : Nat) (v : Value) (xs : List Nat) : Prop :=
  Lt32 xs ∧ w.ownsRow base 35 1 v xs.length (xs.map fun x : Nat => Value.int .u32 (x : Int))

theorem Own.value {w : World} {base : Nat} {v : Value} {xs : List Nat} (h : Own w base v xs) : ∃ a c, v = .slice a xs.length c ∧ xs.length ≤ c ∧ c ≤ maxLen ∧ Rd w a xs := by
  obtain ⟨h1, h2, h3⟩ := h
  rcases h3 with ⟨rfl, h3⟩ | ⟨g, cap, cur, rfl, hb, hg, hn, hc, hs, ht⟩
  · refine ⟨none, 0, by rw [h3], by omega, by decide, h1, .inl (List.length_eq_zero_iff.1 h3)⟩
  · refine ⟨_, _, rfl, hn, hc, h1, .inr ⟨g, 0, rfl, fun i hi => ?_⟩⟩
    rw [cell_of_row w g _ cur _ _ hg]
    have : (cur.toList.take (xs.length * 1))[i]? = .some (.int .u32 (nth xs i)) := by
      rw [ht, List.getElem?_map, nth_get? hi]; rfl
    rw [List.getElem?_take, if_pos (by omega)] at this
    simpa using this


/-- a number as a uint32 -/
def u32v (x : Nat) : Value := .int .u32 (x : Int)
/-- Block g holds just the numbers xs, as cells of the type uint32. -/
def Blk (w : World) (g : Nat) (xs : List Nat) : Prop := w.heap[g]? = some (.cells (xs.map u32v).toArray 35 (0, 0))
theorem Blk.cell {w : World} {g : Nat} {xs : List Nat} (h : Blk w g xs) {i : Nat} (hi : i < xs.length) : w.cell? ⟨g, i, none⟩ = some (.int .u32 (nth xs i)) := by
  rw [cell_of_row w g _ _ _ _ h, List.getElem?_toArray, List.getElem?_map, nth_get? hi]; rfl
theorem Blk.frozen {w : World} {g : Nat} {xs : List Nat} (h : Blk w g xs) (i : Nat) : w.frozen? ⟨g, i, none⟩ = false := frozen_of_row w g _ _ _ h
theorem Blk.kp {w w' : World} {g : Nat} {xs : List Nat} (h : Blk w g xs) (k : Kp w w') : Blk w' g xs := k.heap h
theorem Blk.rd {w : World} {g : Nat} {xs : List Nat} (h : Blk w g xs) (hl : Lt32 xs) : Rd w (some ⟨g, 0, none⟩) xs :=
  ⟨hl, .inr ⟨g, 0, rfl, fun i hi => by rw [Nat.zero_add]; exact h.cell hi⟩⟩
theorem Blk.set {w : World} {g : Nat} {xs : List Nat} (h : Blk w g xs) (i x : Nat) : Blk (w.setCell ⟨g, i, none⟩ (.int .u32 (x : Int))) g (xs.set i x) := by
  unfold Blk
  rw [heap_setCell_same w g i _ _ _ h]
  congr 2
  rw [List.setIfInBounds_toArray, List.map_set]; rfl
theorem Blk.put {w : World} {g : Nat} {xs : List Nat} (h : Blk w g xs) {i x : Nat} {e : Int} (he : e = x) : Blk (w.setCell ⟨g, i, none⟩ (.int .u32 e)) g (xs.set i x) := by
  subst he; exact h.set i x
theorem Kp.set {a w : World} (h : Kp a w) {g i : Nat} (hg : a.heap.size ≤ g) (v : Value) : Kp a (w.setCell ⟨g, i, none⟩ v) := Below.setCell h hg v
theorem Blk.made (w : World) (n : Nat) : Blk (w.alloc (.cells (madeCells #[.int .u32 0] n) 35)) w.heap.size (List.replicate n 0) := by
  unfold Blk
  rw [heap_alloc_new]
  congr 2
  rw [← Array.toList_inj, toList_madeCells_one, List.map_replicate]; rfl
theorem Blk.lt {w : World} {g : Nat} {xs : List Nat} (h : Blk w g xs) : g < w.heap.size := (Array.getElem?_eq_some_iff.1 h).1
/-- A store into a block from B on. -/
theorem below_set {B : Nat} {a w : World} (h : Below B a w) {g i : Nat} (hg : B ≤ g) (v : Value) : Below B a (w.setCell ⟨g, i, none⟩ v) := h.setCell hg v

theorem infoU32 : (Tryz.prog.info? 35).map (fun i => (i.zero, i.size, i.bytes)) = some (some (.int .u32 0), 1, 4) := by kernel_rfl
/-- make([]uint32, n) -/
theorem make_u32 (i : Int) (n : Nat) (e : i = n) (hn : n ≤ 9000000) (u : World) : (Instr.makeSlice 22 (.int .i64 i) (.int .i64 i)).run Tryz.prog u =
    .ok (.slice (some ⟨u.heap.size, 0, none⟩) n n) (u.alloc (.cells (madeCells #[.int .u32 0] n) 35)) := by
  subst e
  obtain ⟨i0, hi, hz0, hz1, hz2⟩ := info_parts infoU32
  have h := run_make (P := Tryz.prog) u 22 35 i0 (.int .u32 0) Tryz.underlying22 hi hz0 .i64 .i64 (n : Int) (n : Int) (by omega) (Int.le_refl _) (by rw [hz2]; omega) (by omega)
  simpa [hz1, Value.cells] using h

theorem Own.nil (w : World) (base : Nat) : Own w base (.slice none 0 0) [] := ⟨.nil, World.ownsRow_nil _ _ _ _⟩
theorem Own.alloc {w : World} {base : Nat} {v : Value} {xs : List Nat} (h : Own w base v xs) (o : Obj) : Own (w.alloc o) base v xs := ⟨h.1, h.2.alloc o⟩
theorem Own.rd {w : World} {base : Nat} {a : Option Addr} {n c : Nat} {xs : List Nat} (h : Own w base (.slice a n c) xs) : n = xs.length ∧ xs.length ≤ c ∧ c ≤ maxLen ∧ Rd w a xs := by
  obtain ⟨a', c', e, h1, h2, h3⟩ := h.value
  cases e
  exact ⟨rfl, h1, h2, h3⟩
/-- make([]uint32, l, c) -/
theorem make_u32c (i k : Int) (l c : Nat) (e : i = l) (e2 : k = c) (hlc : l ≤ c) (hn : c ≤ 9000000) (u : World) : (Instr.makeSlice 22 (.int .i64 i) (.int .i64 k)).run Tryz.prog u =
    .ok (.slice (some ⟨u.heap.size, 0, none⟩) l c) (u.alloc (.cells (madeCells #[.int .u32 0] c) 35)) := by
  subst e e2
  obtain ⟨i0, hi, hz0, hz1, hz2⟩ := info_parts infoU32
  have h := run_make (P := Tryz.prog) u 22 35 i0 (.int .u32 0) Tryz.underlying22 hi hz0 .i64 .i64 (l : Int) (c : Int) (by omega) (by omega) (by rw [hz2]; omega) (by omega)
  simpa [hz1, Value.cells] using h
theorem Own.made (w : World) (l c : Nat) (hl : l ≤ c) (hc : c ≤ 9000000) (base : Nat) (hb : base ≤ w.heap.size) :
    Own (w.alloc (.cells (madeCells #[.int .u32 0] c) 35)) base (.slice (some ⟨w.heap.size, 0, none⟩) l c) (List.replicate l 0) := by
  refine ⟨.replicate _, by simp, .inr ⟨w.heap.size, c, _, by simp, hb, heap_alloc_new w _, by simpa using hl, by unfold maxLen; omega, by simp [size_madeCells], ?_⟩⟩
  rw [toList_madeCells_one]
  simp [List.take_replicate, Nat.min_eq_left hl]
/-- append of one number to the call's own slice -/
theorem wpList_append_u32 {w : World} {ops : Array Oper} {rest : List Oper} {o : Oper} {a : Act} {Q : Exit → Act → World → Prop} (hgd : o.guard = none) (s x : Operand)
    (ho : o.op = .call { callee := .builtin .append, args := #[s, x], argTypes := #[22, 22] })
    (base : Nat) (v : Value) (xs : List Nat) (hs : a.eval s = v) (hown : Own w base v xs)
    (g : Nat) (e : Int) (hx : a.eval x = .slice (some ⟨g, 0, none⟩) 1 1) (hcell : w.cell? ⟨g, 0, none⟩ = some (.int .u32 e))
    (y : Nat) (he : e = y) (hy : y < 4294967296) (hlen : xs.length + 1 ≤ 9000000) (hbase : base ≤ w.heap.size)
    (h : ∀ a' c' w', Own w' base (.slice a' (xs.length + 1) c') (xs ++ [y]) → Below base w w' → wpList Tryz.prog ops Q rest (a.put o.dst (.slice a' (xs.length + 1) c')) w') :
    wpList Tryz.prog ops Q (o :: rest) a w := by
  obtain ⟨i0, hi, hz0, hz1, hz2⟩ := info_parts infoU32
  subst he
  refine wpList_append_own w hgd s x 22 ho base 35 i0 (.int .u32 0) 1 4 Tryz.underlying22 hi hz0 hz1 hz2 rfl (by decide) v xs.length (xs.map fun x : Nat => Value.int .u32 (x : Int)) hs hown.2
    ⟨g, 0, none⟩ 1 1 [.int .u32 y] hx rfl ?_ ?_ (by unfold maxLen; omega) (by omega) hbase ?_
  · intro j u hj
    match j, hj with
    | 0, hj => simp at hj; subst hj; simpa [Addr.add] using hcell
  · intro u hu; simp at hu; subst hu; rfl
  · intro v' w' h1 h2 _
    have hb : Below base w w' := (Below.refl base w).grown h2 hbase (fun k hk => (hown.2.lt k hk).1)
    have ho : Own w' base v' (xs ++ [y]) := ⟨hown.1.snoc hy, by simpa using h1⟩
    obtain ⟨a', c', e, h3, h4, h5⟩ := ho.value
    have e' : v' = .slice a' (xs.length + 1) c' := by rw [e]; simp
    subst e'
    exact h a' c' w' ho hb
theorem run_append_zero {w : World} (base : Nat) (t ty e : TypeId) (i : TypeInfo) (size : Nat) (ht : Tryz.prog.underlying t = some (.slice e)) (hi : Tryz.prog.info? e = some i)
    (v : Value) (n c2 : Nat) (xs : List Value) (hown : w.ownsRow base e size v n xs) :
    (Builtin.append_ #[t, t] ty #[v, .slice none 0 c2]).run Tryz.prog w = .ok v w := by
  rcases hown.2 with ⟨rfl, rfl⟩ | ⟨g, cap, cur, rfl, _, _, hnc, _⟩
  · simp [Builtin.append_, run_underlying ht, sizeOf, typeInfo, hi, Builtin.lenOf, Builtin.firstCells]
  · simp [Builtin.append_, run_underlying ht, sizeOf, typeInfo, hi, Builtin.lenOf, Builtin.firstCells, hnc, storeCells]
/-- append of numbers that are read to the call's own slice -/
theorem wpList_append_u32s {w : World} {ops : Array Oper} {rest : List Oper} {o : Oper} {a : Act} {Q : Exit → Act → World → Prop} (hgd : o.guard = none) (s x : Operand)
    (ho : o.op = .call { callee := .builtin .append, args := #[s, x], argTypes := #[22, 22] })
    (base : Nat) (v : Value) (xs : List Nat) (hs : a.eval s = v) (hown : Own w base v xs)
    (ad : Option Addr) (ys : List Nat) (c : Nat) (hx : a.eval x = .slice ad ys.length c) (hrd : Rd w ad ys) (hlen : xs.length + ys.length ≤ 9000000) (hbase : base ≤ w.heap.size)
    (h : ∀ a' c' w', Own w' base (.slice a' (xs.length + ys.length) c') (xs ++ ys) → Below base w w' → wpList Tryz.prog ops Q rest (a.put o.dst (.slice a' (xs.length + ys.length) c')) w') :
    wpList Tryz.prog ops Q (o :: rest) a w := by
  obtain ⟨i0, hi, hz0, hz1, hz2⟩ := info_parts infoU32
  cases ad with
  | none =>
    have hys : ys = [] := by
      rcases hrd.2 with h | ⟨b, o, h, _⟩
      · exact h
      · cases h
    subst hys
    refine wpList_plain hgd fun K hK => ?_
    have hrun := run_append_zero (w := w) base 22 o.type 35 i0 1 Tryz.underlying22 hi v _ c _ hown.2
    unfold Oper.wp
    simp [execOp, ho, resolve, invoke, builtin, hs, hx, hrun, Result.andThen]
    obtain ⟨a', c', e, h3, h4, h5⟩ := hown.value
    subst e
    exact hK _ _ (by simpa using h a' c' w (by simpa using hown) (Below.refl _ _))
  | some ad =>
    refine wpList_append_own w hgd s x 22 ho base 35 i0 (.int .u32 0) 1 4 Tryz.underlying22 hi hz0 hz1 hz2 rfl (by decide) v xs.length (xs.map fun x : Nat => Value.int .u32 (x : Int)) hs hown.2
      ad ys.length c (ys.map fun x : Nat => Value.int .u32 (x : Int)) hx (by simp) ?_ ?_ (by unfold maxLen; omega) (by omega) hbase ?_
    · intro j u hj
      rcases hrd.2 with h0 | ⟨b, o, h0, hc⟩
      · subst h0; simp at hj
      · cases h0
        have hj2 : j < ys.length := by
          have := (List.getElem?_eq_some_iff.1 hj).1
          simpa using this
        rw [Addr.add_lit, hc j hj2, ← hj, List.getElem?_map, nth_get? hj2]; rfl
    · intro u hu; obtain ⟨x, _, rfl⟩ := List.mem_map.1 hu; rfl
    · intro v' w' h1 h2 _
      have hb : Below base w w' := (Below.refl base w).grown h2 hbase (fun k hk => (hown.2.lt k hk).1)
      have ho : Own w' base v' (xs ++ ys) := ⟨hown.1.append hrd.1, by simpa using h1⟩
      obtain ⟨a', c', e, h3, h4, h5⟩ := ho.value
      have e' : v' = .slice a' (xs.length + ys.length) c' := by rw [e]; simp
      subst e'
      exact h a' c' w' ho hb
/-- the empty literal []uint32{} -/
theorem Own.empty (w : World) (base : Nat) (hb : base ≤ w.heap.size) : Own (w.alloc (.cells #[] 35)) base (.slice (some ⟨w.heap.size, 0, none⟩) 0 0) [] :=
  ⟨.nil, World.ownsRow_made w #[] 0 hb (Nat.zero_le _) rfl⟩
theorem nil_u32 (w : World) (a : Option Addr) (n c n' c' : Nat) : (binOp .eql 22 (.slice a n c) (.slice none n' c')).run Tryz.prog w = .ok (.bool a.isNone) w :=
  Lib.run_eql_slice_nil w _ _ a n c n' c' Tryz.underlying22
end Go.Proofs.YtkkiinbgjjjcoaaGreatDoor
end

section
namespace Go.Proofs.YtkkiinbgjjjcoaaGreatDoor
open Go.RowKit

/-- the greatest length of a slice here -/
theorem trim_top {xs : List Nat} (h : Lt32 xs) {n : Nat} (hn : n ≤ xs.length) (hz : ∀ i, n ≤ i → i < xs.length → nth xs i = 0) (h0 : 0 < n → nth xs (n - 1) ≠ 0) :
    xs.take n = limbs (val xs) := by
  rw [← val_take_zeros hn hz, limbs_val (h.take n) (top_take hn h0)]
theorem limbs_len_le {xs : List Nat} (h : Lt32 xs) : (limbs (val xs)).length ≤ xs.length := limbs_length_le.2 (val_lt h)

set_option maxHeartbeats 400000 in
theorem trim_any (a : Option Addr) (xs : List Nat) (c : Nat) (w : World) (h : Rd w a xs) (hc : xs.length ≤ c) (hm : c ≤ maxLen) :
    Calls Tryz.prog 67 #[.slice a xs.length c] w fun e w' => e = .returned (.slice a (limbs (val xs)).length c) ∧ w = w' := by
  unfold maxLen at hm
  go_enter Tryz.func67, Tryz.ntmps67
  go_wp2
  go_loop [3] (fun x => ∃ n : Nat, n ≤ xs.length ∧ x = .int .i64 n ∧ ∀ i, n ≤ i → i < xs.length → nth xs i = 0) (fun x => (intOf x).toNat)
  case atStart => exact ⟨xs.length, Nat.le_refl _, rfl, fun i h1 h2 => by omega⟩
  case round =>
    obtain ⟨n, hn, rfl, hz⟩ := hrel
    have Hz := Lib.hid hz; clear hz
    by_cases h0 : n = 0
    · subst h0
      go_wp2
      go_ret
      have := trim_top h.lt32 hn Hz.out (by omega)
      rw [← this]
      exact ⟨rfl, rfl⟩
    · obtain ⟨b, o, rfl, hcell⟩ := h.some (i := n - 1) (by omega)
      have hk := hcell (n - 1) (by omega)
      clear hcell
      by_cases hx : nth xs (n - 1) = 0
      · have hx2 : ((nth xs (n - 1) : Int) == 0) = true := by simp [hx]
        have Hx := Lib.hid hx; clear hx
        go_wp2
        go_round
        case rel =>
          refine ⟨n - 1, by omega, by congr 1; omega, fun i h1 h2 => ?_⟩
          by_cases hi : i = n - 1
          · rw [hi]; exact Hx.out
          · exact Hz.out i (by omega) h2
        case measure => simp [intOf]; omega
      · have hx2 : ((nth xs (n - 1) : Int) == 0) = false := by simp; omega
        go_wp2
        go_ret
        have := trim_top h.lt32 hn Hz.out (fun _ => hx)
        rw [← this, List.length_take, Nat.min_eq_left hn]
        exact ⟨rfl, rfl⟩

theorem trim_exists (xs : List Nat) : ∃ n, n ≤ xs.length ∧ (∀ i, n ≤ i → i < xs.length → nth xs i = 0) ∧ (0 < n → nth xs (n - 1) ≠ 0) := by
  have key : ∀ k, k ≤ xs.length → (∀ i, k ≤ i → i < xs.length → nth xs i = 0) → ∃ n, n ≤ xs.length ∧ (∀ i, n ≤ i → i < xs.length → nth xs i = 0) ∧ (0 < n → nth xs (n - 1) ≠ 0) := by
    intro k
    induction k with
    | zero => intro h1 h2; exact ⟨0, h1, h2, fun h => absurd h (by omega)⟩
    | succ k ih =>
      intro h1 h2
      by_cases h : nth xs k = 0
      · refine ih (by omega) fun i hi hi2 => ?_
        by_cases e : i = k
        · rw [e]; exact h
        · exact h2 i (by omega) hi2
      · exact ⟨k + 1, h1, h2, fun _ => h⟩
  exact key xs.length (Nat.le_refl _) fun i h1 h2 => by omega
theorem take_limbs {xs : List Nat} (h : Lt32 xs) : xs.take (limbs (val xs)).length = limbs (val xs) := by
  obtain ⟨n, h1, h2, h3⟩ := trim_exists xs
  have e := trim_top h h1 h2 h3
  have : (limbs (val xs)).length = n := by rw [← e, List.length_take, Nat.min_eq_left h1]
  rw [this]; exact e
theorem Rd.limbs {w : World} {a : Option Addr} {xs : List Nat} (h : Rd w a xs) : Rd w a (Go.Proofs.YtkkiinbgjjjcoaaGreatDoor.limbs (val xs)) := by
  have h0 := h.take (Go.Proofs.YtkkiinbgjjjcoaaGreatDoor.limbs (val xs)).length
  rwa [take_limbs h.lt32] at h0
end Go.Proofs.YtkkiinbgjjjcoaaGreatDoor
end

section
namespace Go.Proofs.YtkkiinbgjjjcoaaGreatDoor
open Go.RowKit

/-- the first index at which p answers true; -1 if there is none -/
def idxP (p : Nat → Bool) (n : Nat) : Int := match (List.range n).find? p with | some i => (i : Int) | none => -1
theorem idxP_none {p : Nat → Bool} {n : Nat} (h : ∀ i, i < n → p i = false) : idxP p n = -1 := by
  unfold idxP
  have : (List.range n).find? p = none := by
    rw [List.find?_eq_none]; intro i hi; rw [h i (List.mem_range.1 hi)]; decide
  rw [this]
theorem idxP_some {p : Nat → Bool} {n k : Nat} (hk : k < n) (hp : p k = true) (h : ∀ i, i < k → p i = false) : idxP p n = k := by
  unfold idxP
  have : (List.range n).find? p = some k := by
    rw [List.find?_range_eq_some]
    refine ⟨hp, List.mem_range.2 hk, fun j hj => ?_⟩
    rw [h j hj]; decide
  rw [this]
/-- is there an index at which p answers true? -/
def anyP (p : Nat → Bool) (n : Nat) : Bool := (List.range n).any p
theorem anyP_false {p : Nat → Bool} {n : Nat} : anyP p n = false ↔ ∀ i, i < n → p i = false := by
  unfold anyP; rw [List.any_eq_false]
  constructor
  · intro h i hi; simpa using h i (List.mem_range.2 hi)
  · intro h i hi; rw [h i (List.mem_range.1 hi)]; decide
theorem anyP_true {p : Nat → Bool} {n : Nat} : anyP p n = true ↔ ∃ i, i < n ∧ p i = true := by
  unfold anyP; rw [List.any_eq_true]
  exact ⟨fun ⟨i, h1, h2⟩ => ⟨i, List.mem_range.1 h1, h2⟩, fun ⟨i, h1, h2⟩ => ⟨i, List.mem_range.2 h1, h2⟩⟩
theorem anyP_idx (p : Nat → Bool) (n : Nat) : decide (0 ≤ idxP p n) = anyP p n := by
  by_cases h : ∀ i, i < n → p i = false
  · rw [idxP_none h, anyP_false.2 h]; decide
  · have h' : ∃ i, i < n ∧ p i = true := by
      apply Classical.byContradiction; intro hn; apply h; intro i hi
      cases hp : p i with
      | false => rfl
      | true => exact absurd ⟨i, hi, hp⟩ hn
    rw [anyP_true.2 h']
    unfold idxP
    split
    · simp
    · next hnone =>
      rw [List.find?_eq_none] at hnone
      obtain ⟨i, hi, hp⟩ := h'
      exact absurd hp (hnone i (List.mem_range.2 hi))

/-- the function g with the captured values cap answers p i at each of the elements ev i, in whatever later world, and keeps all that was there -/
def Ans (P : Program) (g : FuncId) (cap : Array Value) (w : World) (n : Nat) (ev : Nat → Value) (p : Nat → Bool) : Prop :=
  Enters P g ∧ ∀ i, i < n → ∀ w1, Kp w w1 → Calls P g (#[ev i] ++ cap) w1 fun e w2 => e = .returned (.bool (p i)) ∧ Kp w1 w2

set_option maxHeartbeats 400000 in
theorem idx_lists (a : Option Addr) (n c : Nat) (g : FuncId) (cap : Array Value) (w : World) (ev : Nat → Value) (p : Nat → Bool) (hm : n ≤ maxLen)
    (hev : ∀ i, i < n → ∃ b o, a = some ⟨b, o, none⟩ ∧ w.cell? ⟨b, o + i, none⟩ = some (ev i))
    (hp : Ans Tryz.prog g cap w n ev p) :
    Calls Tryz.prog 111 #[.slice a n c, .func (.func g) #[] cap] w fun e w' => e = .returned (.int .i64 (idxP p n)) ∧ Kp w w' := by
  unfold maxLen at hm
  go_enter Tryz.func111, Tryz.ntmps111
  go_wp2
  go_loopw [8] (fun x wr => ∃ k : Nat, k ≤ n ∧ x = .int .i64 k ∧ (∀ i, i < k → p i = false) ∧ Kp w wr) (fun x _ => n - (intOf x).toNat)
  case atStart => exact ⟨0, by omega, rfl, fun i h1 => by omega, .refl _⟩
  case round =>
    obtain ⟨k, hk, rfl, hz, hkp⟩ := hrel
    have Hz := Lib.hid hz; clear hz
    by_cases hlt : k < n
    · obtain ⟨b, o, rfl, hcell⟩ := hev k hlt
      have hc1 := hkp.cell hcell
      clear hcell hev
      have hgo : ∀ args w, (callFunc g args).run Tryz.prog w = .ok (.enter g args) w := hp.1
      have hcall := hp.2 k hlt wr hkp
      clear hp
      cases hq : p k with
      | true =>
        rw [hq] at hcall
        have Hc := Lib.hid hcall
        have Hq := Lib.hid hq
        clear hcall hq
        go_wp2_with (refine Hc.out.mono ?_; rintro e w2 ⟨rfl, hk2⟩)
        go_ret
        exact ⟨by rw [idxP_some hlt Hq.out Hz.out]; rfl, hkp.trans hk2⟩
      | false =>
        rw [hq] at hcall
        have Hc := Lib.hid hcall
        have Hq := Lib.hid hq
        clear hcall hq
        go_wp2_with (refine Hc.out.mono ?_; rintro e w2 ⟨rfl, hk2⟩)
        go_roundw
        case rel =>
          refine ⟨k + 1, by omega, by go_num, fun i hi => ?_, hkp.trans hk2⟩
          by_cases h : i = k
          · rw [h]; exact Hq.out
          · exact Hz.out i (by omega)
        case measure => simp [intOf]; omega
    · have := idxP_none (p := p) (n := n) (fun i hi => Hz.out i (by omega))
      have Hthis := Lib.hid this; clear this
      go_wp2
      go_ret
      exact ⟨by rw [Hthis.out]; rfl, hkp⟩

set_option maxHeartbeats 400000 in
theorem has_lists (a : Option Addr) (n c : Nat) (g : FuncId) (cap : Array Value) (w : World) (ev : Nat → Value) (p : Nat → Bool) (hm : n ≤ maxLen)
    (hev : ∀ i, i < n → ∃ b o, a = some ⟨b, o, none⟩ ∧ w.cell? ⟨b, o + i, none⟩ = some (ev i))
    (hp : Ans Tryz.prog g cap w n ev p) :
    Calls Tryz.prog 97 #[.slice a n c, .func (.func g) #[] cap] w fun e w' => e = .returned (.bool (anyP p n)) ∧ Kp w w' := by
  have Hc := Lib.hid (idx_lists a n c g cap w ev p hm hev hp)
  have Ha := Lib.hid (anyP_idx p n)
  clear hev hp hm
  go_enter Tryz.func97, Tryz.ntmps97
  go_wp2_with (refine Hc.out.mono ?_; rintro e w2 ⟨rfl, hk2⟩)
  go_ret
  exact ⟨by rw [← Ha.out]; rfl, hk2⟩
end Go.Proofs.YtkkiinbgjjjcoaaGreatDoor
end
