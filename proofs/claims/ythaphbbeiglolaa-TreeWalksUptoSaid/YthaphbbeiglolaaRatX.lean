/-
  Walks: tree.Rational.
-/
import Derived.Test.YthaphbbeiglolaaSizN
namespace Go.Proofs.Ythaphbbeiglolaa
open Go.RowKit Go.Sort Go.Shelf
attribute [local go_sem] Oper.semAt_some

/-- Rational's answer -/
def ratO (e : Ex) : Bool := e.ok && (flatE e).all fun x => decide (x.kind < 9)
theorem ratO_all {e : Ex} {xs : List Ex} (h : xs.map Ex.er = flatE e) (h2 : ∀ x ∈ xs, x.kind < 9) : ratO e = e.ok := by
  unfold ratO
  rw [← h]
  have : (xs.map Ex.er).all (fun x => decide (x.kind < 9)) = true := by
    rw [List.all_eq_true]
    intro y hy
    obtain ⟨x, hx, rfl⟩ := List.mem_map.1 hy
    rw [Ex.er_kind]
    exact decide_eq_true (h2 x hx)
  rw [this, Bool.and_true]
theorem ratO_some {e : Ex} {xs : List Ex} (h : xs.map Ex.er <+: flatE e) {x : Ex} (hx : x ∈ xs) (h2 : ¬ x.kind < 9) : ratO e = false := by
  unfold ratO
  rw [Bool.and_eq_false_iff]
  refine .inr ?_
  rw [List.all_eq_false]
  exact ⟨x.er, h.subset (List.mem_map.2 ⟨x, hx, rfl⟩), by rw [Ex.er_kind]; simpa using h2⟩
theorem boxX_kept {W W' : World} {row : Option Nat} {g : Nat} {x : Ex} (h : BoxX W g x) (hg : W.grownBy W' row) (hrow : ∀ r, row = some r → ∃ o : Obj, W.heap[r]? = some o ∧ o.isCells = false) : BoxX W' g x := by
  obtain ⟨⟨q0, q1, q2, q3, q4, q5⟩, hf, hl⟩ := h
  obtain ⟨o, ho, hc⟩ := cells_of_cell q0
  have he := grownBy_keeps_cells hg hrow ho hc
  exact ⟨⟨cell_kept q0 hg hrow, cell_kept q1 hg hrow, cell_kept q2 hg hrow, cell_kept q3 hg hrow, cell_kept q4 hg hrow, cell_kept q5 hg hrow⟩, fun i => (World.frozen?_of_block (a := ⟨g, i, none⟩) he).trans (hf i), Nat.lt_of_lt_of_le hl hg.size⟩
set_option maxHeartbeats 2000000 in
set_option maxRecDepth 20000 in
theorem trational_any (e : Ex) (B : Nat) (w : World) (hat : e.at w B) (hB : B ≤ w.heap.size) : Calls Try.prog 21 #[.agg #[.int .i64 e.kind, .int .i64 e.rn, .int .i64 e.rd, .string e.name, .int .i64 e.pw, .slice e.a e.l.length e.c]] w fun r w' => r = .returned (.bool (ratO e)) ∧ Kp w w' := by
  have k1 : Kp w ((w.alloc (.cells #[.int .i64 e.kind, .int .i64 e.rn, .int .i64 e.rd, .string e.name, .int .i64 e.pw, .slice e.a e.l.length e.c] 26)).alloc (.cells #[.bool false] 4)) := ((Kp.refl w).alloc _).alloc _
  have hB1 : BoxX ((w.alloc (.cells #[.int .i64 e.kind, .int .i64 e.rn, .int .i64 e.rd, .string e.name, .int .i64 e.pw, .slice e.a e.l.length e.c] 26)).alloc (.cells #[.bool false] 4)) w.heap.size e := (BoxX.new w e _ rfl).kp ((Kp.refl _).alloc _)
  have hn : ((w.alloc (.cells #[.int .i64 e.kind, .int .i64 e.rn, .int .i64 e.rd, .string e.name, .int .i64 e.pw, .slice e.a e.l.length e.c] 26)).alloc (.cells #[.bool false] 4)).cell? ⟨w.heap.size + 1, 0, none⟩ = some (.bool false) := new_cell _ _ _ _ (by simp)
  have hf : ((w.alloc (.cells #[.int .i64 e.kind, .int .i64 e.rn, .int .i64 e.rd, .string e.name, .int .i64 e.pw, .slice e.a e.l.length e.c] 26)).alloc (.cells #[.bool false] 4)).frozen? ⟨w.heap.size + 1, 0, none⟩ = false := newF _ _ _ _ _ (by simp)
  have k3 := (Kp.refl ((w.alloc (.cells #[.int .i64 e.kind, .int .i64 e.rn, .int .i64 e.rd, .string e.name, .int .i64 e.pw, .slice e.a e.l.length e.c] 26)).alloc (.cells #[.bool false] 4))).alloc (.cells #[.int .i64 e.kind, .int .i64 e.rn, .int .i64 e.rd, .string e.name, .int .i64 e.pw, .slice e.a e.l.length e.c] 26)
  refine (callsIn_wide (n := 3)).1 ?_
  refine callsIn_of_wp_marks Try.func21 rfl trivial ?_ rfl
  simp only [Try.ntmps21, List.size_toArray, List.length_cons, List.length_nil, Nat.reduceAdd, Nat.reduceSub, Array.replicate_succ, Array.replicate_zero, List.push_toArray, List.append_toArray, List.nil_append, List.cons_append]
  have HB := Lib.hid hB1
  obtain ⟨⟨q0, q1, q2, q3, q4, q5⟩, _⟩ := hB1
  gi_wp2_with (refine ⟨trivial, ?_⟩; gi_at_call 17; refine (callsIn_wide.2 (twalk_any e _)).mono ?_; rintro r w' ⟨rfl, rfl⟩)
  have k2 := k1.trans k3
  have hb1 := HB.out.kp k3
  have hb2 : BoxX (((w.alloc (.cells #[.int .i64 e.kind, .int .i64 e.rn, .int .i64 e.rd, .string e.name, .int .i64 e.pw, .slice e.a e.l.length e.c] 26)).alloc (.cells #[.bool false] 4)).alloc (.cells #[.int .i64 e.kind, .int .i64 e.rn, .int .i64 e.rd, .string e.name, .int .i64 e.pw, .slice e.a e.l.length e.c] 26)) (w.heap.size + 1 + 1) e := BoxX.new _ e _ (by simp)
  have hn2 := k3.cell hn
  have hf2 := k3.frozen hn hf
  have hz : (((w.alloc (.cells #[.int .i64 e.kind, .int .i64 e.rn, .int .i64 e.rd, .string e.name, .int .i64 e.pw, .slice e.a e.l.length e.c] 26)).alloc (.cells #[.bool false] 4)).alloc (.cells #[.int .i64 e.kind, .int .i64 e.rn, .int .i64 e.rd, .string e.name, .int .i64 e.pw, .slice e.a e.l.length e.c] 26)).heap.size = w.heap.size + 3 := by simp
  clear q0 q1 q2 q3 q4 q5 hn hf k1 HB k3
  generalize (((w.alloc (.cells #[.int .i64 e.kind, .int .i64 e.rn, .int .i64 e.rd, .string e.name, .int .i64 e.pw, .slice e.a e.l.length e.c] 26)).alloc (.cells #[.bool false] 4)).alloc (.cells #[.int .i64 e.kind, .int .i64 e.rn, .int .i64 e.rd, .string e.name, .int .i64 e.pw, .slice e.a e.l.length e.c] 26)) = W0 at *
  refine wpIn_rangeFunc_ownH rfl (by omega) (gf := 43) (lb := #[.pointer (some ⟨w.heap.size + 1 + 1, 0, none⟩)]) rfl trivial (enters_of Try.func43 (by kernel_rfl) rfl)
    (walkc_stops (3 - 1) e (w.heap.size + 1 + 1) B W0 (tBox (w.heap.size + 1)) (by show w.heap.size + 1 < W0.heap.size; omega) (Ex.at_kp hat k2) (Nat.le_trans hB k2.size) hb2)
    KpT.trans (fun W l o o' _ hl ho _ => kpT_put W l o o' hl ho) (Below.refl _ _) (fun _ => rfl)
    (fun pre W => ((∀ y ∈ pre, y.kind < 9) ∧ BoxX W w.heap.size e ∧ W.cell? ⟨w.heap.size + 1, 0, none⟩ = some (.bool false) ∧ W.frozen? ⟨w.heap.size + 1, 0, none⟩ = false) ∧ Below w.heap.size w W)
    (fun c pre W => (c = .ret ∧ (∃ y ∈ pre, ¬ y.kind < 9) ∧ W.cell? ⟨w.heap.size + 1, 0, none⟩ = some (.bool false)) ∧ Below w.heap.size w W)
    (OwnFrom.and (Own.from (fun s A B row hs hg hr => ⟨hs.1, boxX_kept hs.2.1 hg hr, cell_kept hs.2.2.1 hg hr, (frozen_kept hs.2.2.1 hg hr).trans hs.2.2.2⟩) _) (ownFrom_below (Nat.le_refl _) (by omega)))
    (fun c => OwnFrom.and (Own.from (fun s A B row hs hg hr => ⟨hs.1, hs.2.1, cell_kept hs.2.2 hg hr⟩) _) (ownFrom_below (Nat.le_refl _) (by omega)))
    ⟨⟨fun y hy => (by cases hy), hb1, hn2, hf2⟩, k2⟩
    (fun x a' W => ∃ Bx, w.heap.size + 1 < Bx ∧ BoxX W Bx x ∧ a' = { tmps := #[.agg #[.int .i64 e.kind, .int .i64 e.rn, .int .i64 e.rd, .string e.name, .int .i64 e.pw, .slice e.a e.l.length e.c], .pointer (some ⟨w.heap.size, 0, none⟩), .pointer (some ⟨w.heap.size + 1, 0, none⟩), .pointer (some ⟨Bx, 0, none⟩), .agg #[.int .i64 e.kind, .int .i64 e.rn, .int .i64 e.rd, .string e.name, .int .i64 e.pw, .slice e.a e.l.length e.c], .func (.func 43) #[] #[.pointer (some ⟨w.heap.size + 1 + 1, 0, none⟩)], .agg #[.int .i64 x.kind, .int .i64 x.rn, .int .i64 x.rd, .string x.name, .int .i64 x.pw, .slice x.a x.l.length x.c], undef, undef, undef, undef, undef], defers := [] })
    (fun x a' _ X Y row hs hg hr => by obtain ⟨Bx, h1, h2, h3⟩ := hs; exact ⟨Bx, h1, boxX_kept h2 hg (fun r e => (hr r e).2), h3⟩)
    ?assign ?body ?done ?stop
  case assign =>
    rintro l pre x W K ⟨⟨h1, h2, h3, h4⟩, hB1⟩ hK
    simp only [List.zip_toArray, List.zip_cons_cons, List.zip_nil_right, List.foldl_toArray', List.foldl_cons, List.foldl_nil]
    gi_wp2
    exact hK _ _ ((KeepsOthers.alloc _ _).from _) (Kp.kpT ((Kp.refl W).alloc _)) ⟨⟨h1, h2.kp ((Kp.refl W).alloc _), ((Kp.refl W).alloc _).cell h3, ((Kp.refl W).alloc _).frozen h3 h4⟩, hB1.alloc hB1.size _⟩ ⟨W.heap.size, cell_ltT h3, BoxX.new W x _ rfl, rfl⟩
  case body =>
    rintro l pre x a' W hl ⟨r, hr⟩ ⟨⟨h1, h2, h3, h4⟩, hB1⟩ ⟨Bx, hBx, ⟨⟨x0, x1, x2, x3, x4, x5⟩, _⟩, rfl⟩ hlt
    by_cases hk : (9 : Int) ≤ x.kind
    · gi_wp2
      exact ⟨(KeepsOthers.setCell _ _ _).from _, ⟨rfl, ⟨x, List.mem_append.2 (.inr (List.mem_singleton.2 rfl)), by omega⟩, cellset_eq h3⟩, hB1.setCell (p := ⟨w.heap.size + 1, 0, none⟩) (by simp) _⟩
    · gi_wp2
      exact ⟨KeepsFrom.refl _ _, (Kp.refl W).kpT, ⟨fun y hy => (List.mem_append.1 hy).elim (h1 y) (fun e1 => by rw [List.mem_singleton.1 e1]; omega), h2, h3, h4⟩, hB1⟩
  case done =>
    rintro D xs W hD hxs ⟨⟨h1, h2, h3, h4⟩, hB1⟩ hK
    have hr := ratO_all hxs h1
    have HV := Lib.hid (tvalid_any e B W (Ex.at_kp hat hB1) (Nat.le_trans hB hB1.size))
    obtain ⟨⟨q0, q1, q2, q3, q4, q5⟩, _⟩ := h2
    gi_wp2_with (refine ⟨trivial, ?_⟩; gi_at_call 31; refine (callsIn_wide.2 HV.out).mono ?_; rintro r w2 ⟨rfl, k4⟩; have h5 := k4.cell h3; have h6 := k4.frozen h3 h4)
    have hKD := k4.heap hK
    have hK' := (KeepsOthers.setCell w2 ⟨w.heap.size + 1, 0, none⟩ (.bool e.ok)).same D _ hKD rfl
    refine ⟨by simp, .inl ⟨_, _, rfl, run_takeDeferred hK', ?_⟩⟩
    have hc5 := cell_kept (cellset_eq (v := .bool e.ok) h5) (grownBy_putObj' _ D (.deferred none)) (fun r e => by cases e; exact ⟨_, hK', rfl⟩)
    refine ⟨.bool e.ok, ?_, by rw [hr], ((Kp.trans hB1 k4).below.setCell (p := ⟨w.heap.size + 1, 0, none⟩) (by simp) _).trans (belowK_b (w := w) (Nat.le_refl _) _ D _ _ (by omega) hK' rfl rfl)⟩
    simp [results, Try.results21, go_sem, hc5]
  case stop =>
    rintro D c pre W hD hpre ⟨⟨rfl, ⟨y, hy, hk⟩, hcr⟩, hB1⟩ hK
    have hr := ratO_some hpre hy hk
    gi_wp2
    refine ⟨by simp, .inl ⟨_, _, rfl, run_takeDeferred hK, ?_⟩⟩
    have hc5 := cell_kept hcr (grownBy_putObj' _ D (.deferred none)) (fun r e => by cases e; exact ⟨_, hK, rfl⟩)
    refine ⟨.bool false, ?_, by first | rfl | rw [hr], hB1.trans (belowK_b (w := w) (Nat.le_refl _) W D _ _ (by omega) hK rfl rfl)⟩
    simp [results, Try.results21, go_sem, hc5]
end Go.Proofs.Ythaphbbeiglolaa
