/-
  Walks: tree.Rename.
  The library's sort and Compact at the call's own slice of texts.
  Walks: tree.Names.
  Walks: tree.Names.
  Walks: slices.Equal at texts; the law's v, num, op.
-/
import Derived.Test.YthaphbbeiglolaaGreatMRatX
import Derived.Test.YthaphbbeiglolaaGreatMTreS
import Derived.Sort.OwnSorted
import Derived.Lib.OwnBridge
import Derived.Lib.RowBridge
import Derived.RangeFuncBox
import Derived.Maps.OwnIn
import Derived.Maps.AppendAt
section
namespace Go.Proofs.YthaphbbeiglolaaGreat
open Go.RowKit Go.Sort

theorem varE_at {w : World} {B : Nat} {s : ByteArray} (h : s.size ≤ maxLen) : (varE s).at w B :=
  Ex.at_iff.2 ⟨⟨Nat.zero_le _, Nat.zero_le _, h, Nat.zero_le _⟩, fun i x hx => by simp [varE, Ex.l] at hx, fun x hx => by simp [varE, Ex.l] at hx⟩
end Go.Proofs.YthaphbbeiglolaaGreat
end

section
namespace Go.Proofs.YthaphbbeiglolaaGreat
open Go.RowKit Go.Shelf Go.Sort

/-- the call's own slice of texts -/
def OwnS (w : World) (base : Nat) (v : Value) (ss : List (List UInt8)) : Prop := w.ownsRow base 9 1 v ss.length (ss.map encStr)
theorem sortS_any (base : Nat) (v : Value) (ss : List (List UInt8)) (w : World) (h : OwnS w base v ss) (hl : ss.length ≤ 1100000) :
    Calls Tryz.prog 47 #[v] w fun e w' => e = .returned (.tuple #[]) ∧ w.grownBy w' v.ownBlock ∧ OwnS w' base v (ss.mergeSort leB) := by
  by_cases hv : v = .slice none 0 0
  · subst hv
    have h0 : ss = [] := by
      rcases h.2 with ⟨_, h0⟩ | ⟨g, cap, cur, e, _⟩
      · exact List.length_eq_zero_iff.1 h0
      · cases e
    subst h0
    refine (Any.slices_Sort_string_none lays190 none 0 w).mono fun e w' hh => ?_
    obtain ⟨e1, e2⟩ := hh
    subst e2
    exact ⟨e1, ⟨rfl, rfl, rfl, Nat.le_refl _, fun _ _ _ => rfl⟩, by rw [List.mergeSort_nil]; exact h⟩
  · rcases h.2 with ⟨e, _⟩ | ⟨g, cap, cur, rfl, hb, hg, hn, hc, hs, ht⟩
    · exact absurd e hv
    rw [Nat.mul_one] at ht
    have hH : Holds encStr w g 0 ss.toArray := holds_of_block hg ht
    refine (Any.slices_Sort_string lays190 g 0 cap ss w hH (Array.getElem?_eq_some_iff.1 hg).1 (by omega)).mono fun e w' hh => ?_
    obtain ⟨e1, n, os, e2⟩ := hh
    subst e2
    refine ⟨e1, grownBy_sorted _, ?_⟩
    have hlen : (ss.mergeSort leB).length = ss.length := (sortB_perm ss).length_eq
    unfold OwnS
    rw [hlen]
    exact ownsRow_sorted hlen hb hg hn hc hs
theorem compS_any (base : Nat) (v : Value) (ss : List (List UInt8)) (w : World) (h : OwnS w base v ss) (hl : ss.length ≤ 1100000) :
    Calls Tryz.prog 48 #[v] w fun e w' => ∃ v', e = .returned v' ∧ w.grownBy w' v.ownBlock ∧ OwnS w' base v' (Lib.compact ss) := by
  by_cases hv : v = .slice none 0 0
  · subst hv
    have h0 : ss = [] := by
      rcases h.2 with ⟨_, h0⟩ | ⟨g, cap, cur, e, _⟩
      · exact List.length_eq_zero_iff.1 h0
      · cases e
    subst h0
    refine (Any.slices_Compact_string_empty lays194 none 0 w).mono fun e w' hh => ?_
    obtain ⟨e1, e2⟩ := hh
    subst e2
    exact ⟨_, e1, ⟨rfl, rfl, rfl, Nat.le_refl _, fun _ _ _ => rfl⟩, h⟩
  · obtain ⟨g, cap, rfl, hb, hlt, hn, hc, _, hH⟩ := Lib.holds_of_ownsRow h hv
    refine (Any.slices_Compact_string lays194 g 0 cap ss w hH (by omega) hn).mono fun e w' hh => ?_
    obtain ⟨e1, q, e2⟩ := hh
    subst e2
    have hle := Lib.compact_length_le ss
    refine ⟨_, e1, ?_, ?_⟩
    · have := grownBy_sorted (w := w) (g := g) (n := q) (os := #[]) (Lib.compact ss ++ List.replicate (ss.length - (Lib.compact ss).length) []).toArray
      show w.grownBy _ (some g)
      simpa using this
    · have := Lib.ownsRow_putRow (q := q) (k := (Lib.compact ss).length) (ys := Lib.compact ss ++ List.replicate (ss.length - (Lib.compact ss).length) []) h (by simp; omega) hle
      rw [List.take_left] at this
      exact this
end Go.Proofs.YthaphbbeiglolaaGreat
end

section
namespace Go.Proofs.YthaphbbeiglolaaGreat
open Go.RowKit Go.Sort Go.Shelf
attribute [local go_sem] Oper.semAt_some

/-- the names that come, in their order -/
def nmL (xs : List Ex) : List (List UInt8) := (xs.filter fun x => decide (x.kind = 2)).map fun x => x.name.data.toList
theorem nmL_snoc (pre : List Ex) (x : Ex) : nmL (pre ++ [x]) = nmL pre ++ (if x.kind = 2 then [x.name.data.toList] else []) := by
  unfold nmL
  rw [List.filter_append, List.map_append]
  by_cases h : x.kind = 2 <;> simp [h]
theorem nmL_er (xs : List Ex) : nmL (xs.map Ex.er) = nmL xs := by
  unfold nmL
  induction xs with
  | nil => rfl
  | cons x t ih =>
    rw [List.map_cons, List.filter_cons, List.filter_cons, Ex.er_kind]
    split
    · rw [List.map_cons, List.map_cons, Ex.er_name, ih]
    · exact ih
theorem nmL_le (xs : List Ex) : (nmL xs).length ≤ xs.length := by unfold nmL; rw [List.length_map]; exact List.length_filter_le _ _
/-- Names' answer -/
def namO (e : Ex) : List ByteArray := namesL (((flatE e).filter fun x : Ex => decide (x.kind = 2)).map Ex.name)
theorem namO_sort (e : Ex) : Lib.compact ((nmL (flatE e)).mergeSort leB) = (namO e).map (·.data.toList) := by
  obtain ⟨rs, h1, h2⟩ := sort_names (((flatE e).filter fun x : Ex => decide (x.kind = 2)).map Ex.name)
  rw [List.map_map] at h1
  rw [h2] at h1
  exact h1
theorem infoStr : (Tryz.prog.info? 9).map (fun i => (i.zero, i.size, i.bytes)) = some (some (.string ⟨#[]⟩), 1, 16) := by kernel_rfl
/-- the rounds write a box and the row that it leads to -/
def tSlice (B : Nat) : Turf where
  X := fun W k => k = B ∨ ∃ g n c, W.cell? ⟨B, 0, none⟩ = some (.slice (some g) n c) ∧ k = g.block
  G := fun W => CellsAt W B ∧ ∀ g n c, W.cell? ⟨B, 0, none⟩ = some (.slice (some g) n c) → g.block < W.heap.size
  lt := fun W k h hx => by
    rcases hx with rfl | ⟨g, n, c, h1, rfl⟩
    · exact h.1.lt
    · exact h.2 g n c h1
  kp' := fun W W' h k => by
    have e := cell_same (k.2 B h.1) 0
    refine ⟨⟨h.1.same (k.2 B h.1), fun g n c hc => ?_⟩, fun j hj => ?_⟩
    · rw [e] at hc
      exact Nat.lt_of_lt_of_le (h.2 g n c hc) k.1
    · rcases hj with rfl | ⟨g, n, c, h1, rfl⟩
      · exact .inl rfl
      · rw [e] at h1
        exact .inr ⟨g, n, c, h1, rfl⟩
theorem boxed_cellsAt {W : World} {B : Nat} {t : TypeId} {v : Value} (h : Boxed W B t v) : CellsAt W B := ⟨_, _, _, h⟩
/-- an append to the slice in the box, and its store there: what the turf asks -/
theorem tSlice_append {W w1 : World} {B n0 k m : Nat} {t e : TypeId} {size : Nat} {v v' : Value} {xs ys : List Value} {tmp : Obj} (hv : Boxed W B t v) (hrow : W.ownsRow n0 e size v k xs) (hown : w1.ownsRow n0 e size v' m ys)
    (hv2 : Boxed (w1.setCell ⟨B, 0, none⟩ v') B t v') (hg : (W.alloc tmp).grownBy w1 v.ownBlock) (hat : v'.ownBlock = v.ownBlock ∨ v'.ownBlock = some (W.alloc tmp).heap.size) : KpT (tSlice B) W (w1.setCell ⟨B, 0, none⟩ v') := by
  have hsz := hg.size
  simp only [World.size_alloc] at hsz hat
  have hblk : ∀ g n c, v = .slice (some g) n c → v.ownBlock = some g.block := fun g n c e => by rw [e]; rfl
  refine kpT_of (by simp; omega) (fun j hj hx => ?_) (fun h => ⟨boxed_cellsAt hv2, fun g n c hc => ?_⟩) (fun h j hj => ?_)
  · have hjB : j ≠ B := fun e => hx (.inl e)
    rw [Below.heap_setCell _ _ _ _ hjB]
    have hne : some j ≠ v.ownBlock := fun e => hx (.inr (by
      rcases hrow.2 with ⟨rfl, _⟩ | ⟨g, cap, cur, rfl, _⟩
      · cases e
      · refine ⟨_, _, _, hv.cell, ?_⟩
        simp only [Value.ownBlock, Option.some.injEq] at e
        exact e))
    rw [hg.block j (by simp only [World.size_alloc]; have := hj.lt; omega) hne]
    exact Below.heap_alloc _ _ _ hj.lt
  · rw [hv2.cell] at hc
    injection hc with hc
    subst hc
    rcases hown.2 with ⟨h0, _⟩ | ⟨g', cap, cur, e, _, hgb, _⟩
    · cases h0
    · injection e with e1
      injection e1 with e1
      subst e1
      simp only [World.size_setCell]
      exact (Array.getElem?_eq_some_iff.1 hgb).1
  · rcases hj with rfl | ⟨g, n, c, hc, rfl⟩
    · exact .inl (.inl rfl)
    · rw [hv2.cell] at hc
      injection hc with hc
      rcases hat with h1 | h1
      · rw [hc] at h1
        rcases hrow.2 with ⟨rfl, _⟩ | ⟨g', cap, cur, rfl, _⟩
        · cases h1
        · simp only [Value.ownBlock, Option.some.injEq] at h1
          exact .inl (.inr ⟨_, _, _, hv.cell, h1⟩)
      · rw [hc] at h1
        simp only [Value.ownBlock, Option.some.injEq] at h1
        exact .inr (by omega)
end Go.Proofs.YthaphbbeiglolaaGreat
end

section
namespace Go.Proofs.YthaphbbeiglolaaGreat
open Go.RowKit Go.Sort Go.Shelf
attribute [local go_sem] Oper.semAt_some

set_option maxHeartbeats 4000000 in
set_option maxRecDepth 20000 in
theorem tnames_any (e : Ex) (B : Nat) (w : World) (hat : e.at w B) (hB : B ≤ w.heap.size) : Calls Tryz.prog 19 #[.agg #[.int .i64 e.kind, .int .i64 e.rn, .int .i64 e.rd, .string e.name, .int .i64 e.pw, .slice e.a e.l.length e.c]] w fun r w' => ∃ v, r = .returned v ∧ OwnS w' w.heap.size v ((namO e).map (·.data.toList)) ∧ Kp w w' := by
  have k1 : Kp w ((w.alloc (.cells #[.int .i64 e.kind, .int .i64 e.rn, .int .i64 e.rd, .string e.name, .int .i64 e.pw, .slice e.a e.l.length e.c] 26)).alloc (.cells #[.slice none 0 0] 45)) := ((Kp.refl w).alloc _).alloc _
  have hB1 : BoxX ((w.alloc (.cells #[.int .i64 e.kind, .int .i64 e.rn, .int .i64 e.rd, .string e.name, .int .i64 e.pw, .slice e.a e.l.length e.c] 26)).alloc (.cells #[.slice none 0 0] 45)) w.heap.size e := (BoxX.new w e _ rfl).kp ((Kp.refl _).alloc _)
  have hn : Boxed ((w.alloc (.cells #[.int .i64 e.kind, .int .i64 e.rn, .int .i64 e.rd, .string e.name, .int .i64 e.pw, .slice e.a e.l.length e.c] 26)).alloc (.cells #[.slice none 0 0] 45)) (w.heap.size + 1) 45 (.slice none 0 0) := by
    have := Boxed.new (w.alloc (.cells #[.int .i64 e.kind, .int .i64 e.rn, .int .i64 e.rd, .string e.name, .int .i64 e.pw, .slice e.a e.l.length e.c] 26)) 45 (.slice none 0 0)
    rwa [World.size_alloc] at this
  have k3 := (Kp.refl ((w.alloc (.cells #[.int .i64 e.kind, .int .i64 e.rn, .int .i64 e.rd, .string e.name, .int .i64 e.pw, .slice e.a e.l.length e.c] 26)).alloc (.cells #[.slice none 0 0] 45))).alloc (.cells #[.int .i64 e.kind, .int .i64 e.rn, .int .i64 e.rd, .string e.name, .int .i64 e.pw, .slice e.a e.l.length e.c] 26)
  obtain ⟨i0, hi, hz0, hz1, hz2⟩ := info_parts infoStr
  refine (callsIn_wide (n := 3)).1 ?_
  refine callsIn_of_wp_marks Tryz.func19 rfl trivial ?_ rfl
  simp only [Tryz.ntmps19, List.size_toArray, List.length_cons, List.length_nil, Nat.reduceAdd, Nat.reduceSub, Array.replicate_succ, Array.replicate_zero, List.push_toArray, List.append_toArray, List.nil_append, List.cons_append]
  have HB := Lib.hid hB1
  obtain ⟨⟨q0, q1, q2, q3, q4, q5⟩, _⟩ := hB1
  gi_wp2_with (refine ⟨trivial, ?_⟩; gi_at_call 46; refine (callsIn_wide.2 (twalk_any e _)).mono ?_; rintro r w' ⟨rfl, rfl⟩)
  have k2 := k1.trans k3
  have hb2 : BoxX (((w.alloc (.cells #[.int .i64 e.kind, .int .i64 e.rn, .int .i64 e.rd, .string e.name, .int .i64 e.pw, .slice e.a e.l.length e.c] 26)).alloc (.cells #[.slice none 0 0] 45)).alloc (.cells #[.int .i64 e.kind, .int .i64 e.rn, .int .i64 e.rd, .string e.name, .int .i64 e.pw, .slice e.a e.l.length e.c] 26)) (w.heap.size + 1 + 1) e := BoxX.new _ e _ (by simp)
  have hn2 := hn.alloc (.cells #[.int .i64 e.kind, .int .i64 e.rn, .int .i64 e.rd, .string e.name, .int .i64 e.pw, .slice e.a e.l.length e.c] 26)
  have hz : (((w.alloc (.cells #[.int .i64 e.kind, .int .i64 e.rn, .int .i64 e.rd, .string e.name, .int .i64 e.pw, .slice e.a e.l.length e.c] 26)).alloc (.cells #[.slice none 0 0] 45)).alloc (.cells #[.int .i64 e.kind, .int .i64 e.rn, .int .i64 e.rd, .string e.name, .int .i64 e.pw, .slice e.a e.l.length e.c] 26)).heap.size = w.heap.size + 3 := by simp
  clear q0 q1 q2 q3 q4 q5 hn k1 HB k3
  generalize (((w.alloc (.cells #[.int .i64 e.kind, .int .i64 e.rn, .int .i64 e.rd, .string e.name, .int .i64 e.pw, .slice e.a e.l.length e.c] 26)).alloc (.cells #[.slice none 0 0] 45)).alloc (.cells #[.int .i64 e.kind, .int .i64 e.rn, .int .i64 e.rd, .string e.name, .int .i64 e.pw, .slice e.a e.l.length e.c] 26)) = W0 at *
  refine wpIn_rangeFunc_ownH rfl (by omega) (gf := 77) (lb := #[.pointer (some ⟨w.heap.size + 1 + 1, 0, none⟩)]) rfl trivial (enters_of Tryz.func77 (by kernel_rfl) rfl)
    (walkc_stops (3 - 1) e (w.heap.size + 1 + 1) B W0 (tSlice (w.heap.size + 1)) ⟨boxed_cellsAt hn2, fun g n c hc => by rw [hn2.cell] at hc; cases hc⟩ (Ex.at_kp hat k2) (Nat.le_trans hB k2.size) hb2)
    KpT.trans (fun W l o o' _ hl ho _ => kpT_put W l o o' hl ho) (Below.refl _ _) (fun _ => rfl)
    (fun pre W => (∃ v, Boxed W (w.heap.size + 1) 45 v ∧ W.ownsRow w.heap.size 9 1 v (nmL pre).length ((nmL pre).map encStr) ∧ True) ∧ Below w.heap.size w W)
    (fun _ _ _ => False)
    (OwnFrom.and (Own.from (holdsRow_own w.heap.size (w.heap.size + 1) 45 9 1 (fun pre => (nmL pre).length) (fun pre => (nmL pre).map encStr) (fun _ _ => True)) _) (ownFrom_below (Nat.le_refl _) (by omega)))
    (fun _ _ _ _ _ hs _ _ => hs)
    ⟨⟨_, hn2, World.ownsRow_nil _ _ _ _, trivial⟩, k2⟩
    (fun x a' W => ∃ Bx, w.heap.size + 1 < Bx ∧ BoxX W Bx x ∧ a' = { tmps := #[.agg #[.int .i64 e.kind, .int .i64 e.rn, .int .i64 e.rd, .string e.name, .int .i64 e.pw, .slice e.a e.l.length e.c], .pointer (some ⟨w.heap.size, 0, none⟩), .slice none 0 0, .pointer (some ⟨w.heap.size + 1, 0, none⟩), .pointer (some ⟨Bx, 0, none⟩), .agg #[.int .i64 e.kind, .int .i64 e.rn, .int .i64 e.rd, .string e.name, .int .i64 e.pw, .slice e.a e.l.length e.c], .func (.func 77) #[] #[.pointer (some ⟨w.heap.size + 1 + 1, 0, none⟩)], .agg #[.int .i64 x.kind, .int .i64 x.rn, .int .i64 x.rd, .string x.name, .int .i64 x.pw, .slice x.a x.l.length x.c], undef, undef, undef, undef, undef, undef, undef, undef, undef, undef, undef, undef], defers := [] })
    (fun x a' _ X Y row hs hg hr => by obtain ⟨Bx, h1, h2, h3⟩ := hs; exact ⟨Bx, h1, boxX_kept h2 hg (fun r e => (hr r e).2), h3⟩)
    ?assign ?body ?done ?stop
  case assign =>
    rintro l pre x W K ⟨⟨v, h1, h2, _⟩, hB1⟩ hK
    simp only [List.zip_toArray, List.zip_cons_cons, List.zip_nil_right, List.foldl_toArray', List.foldl_cons, List.foldl_nil]
    gi_wp2
    exact hK _ _ ((KeepsOthers.alloc _ _).from _) (Kp.kpT ((Kp.refl W).alloc _)) ⟨⟨v, h1.alloc _, h2.alloc _, trivial⟩, hB1.alloc hB1.size _⟩ ⟨W.heap.size, h1.lt, BoxX.new W x _ rfl, rfl⟩
  case body =>
    rintro l pre x a' W hl ⟨r, hr⟩ ⟨⟨v, h1, h2, _⟩, hB1⟩ ⟨Bx, hBx, ⟨⟨x0, x1, x2, x3, x4, x5⟩, _⟩, rfl⟩ hlt
    have hsn := nmL_snoc pre x
    have hc := h1.cell
    have hle := flatE_le e
    have hle2 := nmL_le pre
    by_cases hk : x.kind = 2
    · rw [if_pos hk] at hsn
      have hk2 : (x.kind == 2) = true := by rw [hk]; rfl
      clear hk
      gi_wp2_with (gi_at_builtin; refine wpListIn_append_own_at _ rfl _ _ 45 rfl w.heap.size 9 i0 (.string ⟨#[]⟩) 1 16 Tryz.underlying45 hi hz0 hz1 hz2 rfl (by decide) _ _ _ rfl (h2.alloc _) ⟨W.heap.size, 0, none⟩ 1 1 [.string x.name] rfl rfl (cell_one_new _ _ _) (by simp [Value.oneCell']) (by unfold maxLen; omega) (by omega) (by have := hB1.size; simp; omega) ?_; intro v' w1 hown' hgrow _ hat'; obtain ⟨g', cap', rfl⟩ := ownsRow_succ hown'; obtain ⟨hv1, hv2, hr2, hk2, hb2⟩ := h1.appended (by decide) h2 hB1.size (by omega) hown' hgrow; have hc1 := hv1.cell; have hf1 := hv1.frozen)
      refine ⟨hk2.from _, tSlice_append h1 h2 hown' hv2 hgrow hat', ⟨_, hv2, ?_, trivial⟩, hB1.trans hb2⟩
      rw [hsn]
      simpa using hr2
    · rw [if_neg hk, List.append_nil] at hsn
      have hk2 : (x.kind == 2) = false := beq_eq_false_iff_ne.2 hk
      clear hk
      gi_wp2
      exact ⟨KeepsFrom.refl _ _, (Kp.refl W).kpT, ⟨v, h1, by rw [hsn]; exact h2, trivial⟩, hB1⟩
  case done =>
    rintro D xs W hD hxs ⟨⟨v, h1, h2, _⟩, hB1⟩ hK
    have hnm : nmL xs = nmL (flatE e) := by rw [← hxs, nmL_er]
    rw [hnm] at h2
    have hle := nmL_le (flatE e)
    have hle2 := flatE_le e
    have hc := h1.cell
    have HS := Lib.hid (sortS_any w.heap.size v (nmL (flatE e)) W h2 (by omega))
    gi_wp2_with (refine ⟨trivial, ?_⟩; gi_at_call 47; refine (callsIn_wide.2 HS.out).mono ?_; rintro r w2 ⟨rfl, hg2, ho2⟩; have hv2 := h1.kept hg2 (h1.not_row (by decide) h2); have hc2 := hv2.cell)
    have ho3 := ho2
    have HC := Lib.hid (compS_any w.heap.size v ((nmL (flatE e)).mergeSort leB) w2 ho3 (by rw [(sortB_perm _).length_eq]; omega))
    have hlt2 : w.heap.size ≤ w2.heap.size := Nat.le_trans hB1.size hg2.size
    have hb2' := hB1.grown hg2 hB1.size (fun k hk => (h2.lt k hk).1)
    have hKD : w2.heap[D]? = some (.deferred (some [])) := (hg2.block D (Array.getElem?_eq_some_iff.1 hK).1 (fun e1 => by
      rcases h2.2 with ⟨rfl, _⟩ | ⟨g, cap, cur, rfl, _, hgb, _⟩
      · cases e1
      · simp only [Value.ownBlock, Option.some.injEq] at e1
        subst e1
        rw [hK] at hgb
        cases hgb)).trans hK
    refine ⟨trivial, ?_⟩
    refine (callsIn_wide.2 HC.out).mono ?_
    rintro r w3 ⟨v3, rfl, hg3, ho4⟩
    rw [namO_sort] at ho4
    have hKD3 : w3.heap[D]? = some (.deferred (some [])) := (hg3.block D (Array.getElem?_eq_some_iff.1 hKD).1 (fun e1 => by
      rcases ho3.2 with ⟨rfl, _⟩ | ⟨g, cap, cur, rfl, _, hgb, _⟩
      · cases e1
      · simp only [Value.ownBlock, Option.some.injEq] at e1
        subst e1
        rw [hKD] at hgb
        cases hgb)).trans hKD
    have hb3 := hb2'.grown hg3 hlt2 (fun k hk => (ho3.lt k hk).1)
    gi_wp2
    refine ⟨by simp, .inl ⟨_, _, rfl, run_takeDeferred hKD3, ?_⟩⟩
    exact ⟨_, results_tmp rfl _ _ _, v3, rfl, ownsRow_putObj ho4 _ hKD3 rfl, hb3.trans (belowK_b (w := w) (Nat.le_refl _) w3 D _ _ (by omega) hKD3 rfl rfl)⟩
  case stop =>
    rintro D c pre W _ _ h _
    exact h.elim
end Go.Proofs.YthaphbbeiglolaaGreat
end

section
namespace Go.Proofs.YthaphbbeiglolaaGreat
open Go.RowKit Go.Sort Go.Shelf

theorem rowS_cells {w : World} {a : Option Addr} {ss : List ByteArray} (h : RowS w a ss) (hn : ss ≠ []) : ∃ b o, a = some ⟨b, o, none⟩ ∧ ∀ j, j < ss.length → w.cell? ⟨b, o + j, none⟩ = some (.string (ss.getD j ByteArray.empty)) := by
  cases ss with
  | nil => exact absurd rfl hn
  | cons s t =>
    obtain ⟨b, o, e, _⟩ := h 0 s rfl
    refine ⟨b, o, e, fun j hj => ?_⟩
    obtain ⟨b', o', e', hc⟩ := h j _ (List.getElem?_eq_getElem hj)
    rw [e] at e'
    cases e'
    rw [hc, List.getD_eq_getElem?_getD, List.getElem?_eq_getElem hj]
    rfl
theorem eqS_any (a1 a2 : Option Addr) (c1 c2 : Nat) (xs ys : List ByteArray) (w : World) (h1 : RowS w a1 xs) (h2 : RowS w a2 ys) (hx : xs.length ≤ 1100000) (hy : ys.length ≤ 1100000) :
    Calls Tryz.prog 18 #[.slice a1 xs.length c1, .slice a2 ys.length c2] w fun e w' => e = .returned (.bool (decide (xs = ys))) ∧ Kp w w' := by
  by_cases hl : xs.length = ys.length
  · by_cases hx0 : xs = []
    · subst hx0
      have hy0 : ys = [] := List.length_eq_zero_iff.1 hl.symm
      subst hy0
      refine (Any.slices_Equal_string_empty lays193 a1 a2 c1 0 c2 w (by omega)).mono fun e w' hh => ?_
      obtain ⟨e1, e2⟩ := hh
      subst e2
      exact ⟨e1.trans (ret_bool (by simp)), .refl _⟩
    · have hy0 : ys ≠ [] := fun e => hx0 (by rw [e] at hl; exact List.length_eq_zero_iff.1 hl)
      obtain ⟨b1, o1, rfl, hc1⟩ := rowS_cells h1 hx0
      obtain ⟨b2, o2, rfl, hc2⟩ := rowS_cells h2 hy0
      refine (Any.slices_Equal_string lays193 b1 o1 xs.length c1 b2 o2 ys.length c2 xs ys w (Nat.le_refl _) (Nat.le_refl _) (by omega) (by omega) hc1 hc2).mono fun e w' hh => ?_
      obtain ⟨e1, q, e2⟩ := hh
      subst e2
      rw [List.take_length, List.take_length] at e1
      exact ⟨e1, (Kp.refl w).drewN q⟩
  · refine (Any.slices_Equal_string_lens lays193 a1 a2 xs.length c1 ys.length c2 w hl).mono fun e w' hh => ?_
    obtain ⟨e1, e2⟩ := hh
    subst e2
    exact ⟨e1.trans (ret_bool (by rw [decide_eq_false (fun e => hl (by rw [e]))])), .refl _⟩
/-- what the own slice of texts shows -/
theorem rowS_own {w : World} {base : Nat} {v : Value} {ss : List ByteArray} (h : OwnS w base v (ss.map (·.data.toList))) : ∃ a c, v = .slice a ss.length c ∧ RowS w a ss := by
  have hn : (ss.map (·.data.toList)).length = ss.length := List.length_map _
  rcases h.2 with ⟨rfl, h3⟩ | ⟨g, cap, cur, rfl, hb, hg, hn2, hc, hs, ht⟩
  · have h0 : ss = [] := List.length_eq_zero_iff.1 (by rw [← hn]; exact h3)
    subst h0
    exact ⟨none, 0, rfl, fun i s hs => by simp at hs⟩
  · refine ⟨_, cap, by rw [hn], fun i s hs => ⟨g, 0, rfl, ?_⟩⟩
    have hil : i < ss.length := (List.getElem?_eq_some_iff.1 hs).1
    rw [Nat.zero_add, cell_of_row w g _ cur _ _ hg]
    have h5 : (cur.toList.take ((ss.map (·.data.toList)).length * 1))[i]? = some (.string s) := by
      rw [ht, Lib.map_encStr, List.getElem?_map, hs]; rfl
    rw [List.getElem?_take, if_pos (by rw [hn]; omega)] at h5
    simpa using h5
set_option maxHeartbeats 1000000 in
theorem lawv_any (s : ByteArray) (w : World) : Calls Tryz.prog 15 #[.string s] w fun r w' => r = .returned (.agg #[.int .i64 2, .int .i64 0, .int .i64 0, .string s, .int .i64 0, .slice none 0 0]) ∧ Kp w w' := by
  have k1 : Kp w (w.alloc (.cells #[.int .i64 2, .int .i64 0, .int .i64 0, .string s, .int .i64 0, .slice none 0 0] 26)) := (Kp.refl w).alloc _
  have hb : BoxX (w.alloc (.cells #[.int .i64 2, .int .i64 0, .int .i64 0, .string s, .int .i64 0, .slice none 0 0] 26)) w.heap.size (varE s) := BoxX.new w (varE s) _ rfl
  go_enter Tryz.func15, Tryz.ntmps15
  go_wp2_with fail
  obtain ⟨⟨s0, s1, s2, s3, s4, s5⟩, _⟩ := hb
  refine bodyPost_ret (v := .agg #[.int .i64 2, .int .i64 0, .int .i64 0, .string s, .int .i64 0, .slice none 0 0]) (by simp [results, Tryz.results15, go_sem]) rfl ?_
  exact ⟨rfl, k1⟩
set_option maxHeartbeats 1000000 in
theorem lawnum_any (n : Int) (w : World) : Calls Tryz.prog 16 #[.int .i64 n] w fun r w' => r = .returned (.agg #[.int .i64 1, .int .i64 n, .int .i64 1, .string ⟨#[]⟩, .int .i64 0, .slice none 0 0]) ∧ Kp w w' := by
  have k1 : Kp w (w.alloc (.cells #[.int .i64 1, .int .i64 n, .int .i64 1, .string ⟨#[]⟩, .int .i64 0, .slice none 0 0] 26)) := (Kp.refl w).alloc _
  go_enter Tryz.func16, Tryz.ntmps16
  go_wp2_with fail
  refine bodyPost_ret (v := .agg #[.int .i64 1, .int .i64 n, .int .i64 1, .string ⟨#[]⟩, .int .i64 0, .slice none 0 0]) (by simp [results, Tryz.results16, go_sem]) rfl ?_
  exact ⟨rfl, k1⟩
set_option maxHeartbeats 1000000 in
theorem lawop_any (k : Int) (a : Option Addr) (n c : Nat) (w : World) : Calls Tryz.prog 14 #[.int .i64 k, .slice a n c] w fun r w' => r = .returned (.agg #[.int .i64 k, .int .i64 0, .int .i64 0, .string ⟨#[]⟩, .int .i64 0, .slice a n c]) ∧ Kp w w' := by
  have k1 : Kp w (w.alloc (.cells #[.int .i64 k, .int .i64 0, .int .i64 0, .string ⟨#[]⟩, .int .i64 0, .slice a n c] 26)) := (Kp.refl w).alloc _
  go_enter Tryz.func14, Tryz.ntmps14
  go_wp2_with fail
  refine bodyPost_ret (v := .agg #[.int .i64 k, .int .i64 0, .int .i64 0, .string ⟨#[]⟩, .int .i64 0, .slice a n c]) (by simp [results, Tryz.results14, go_sem]) rfl ?_
  exact ⟨rfl, k1⟩
end Go.Proofs.YthaphbbeiglolaaGreat
end
