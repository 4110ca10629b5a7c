/-
  Walks: TreeWalks.
-/
import Derived.Test.YthaphbbeiglolaaWkL
import Derived.Sort.CutIn
import Derived.Test.YthaphbbeiglolaaRFlN
import Derived.Test.YthaphbbeiglolaaRequN
import Derived.Test.YthaphbbeiglolaaRCoN
import Derived.Test.YthaphbbeiglolaaBakP
namespace Go.Proofs.Ythaphbbeiglolaa
open Go.RowKit Go.Sort Go.Shelf
attribute [local go_sem] Oper.semAt_some

set_option maxHeartbeats 8000000 in
set_option maxRecDepth 20000 in
theorem Walks_ok (e : Ex) (m : Nat) (w : World) (hat : e.at w w.heap.size) (hm : m < 256) :
    Calls Try.prog 6 #[.agg #[.int .i64 e.kind, .int .i64 e.rn, .int .i64 e.rd, .string e.name, .int .i64 e.pw, .slice e.a e.l.length e.c], .int .u8 m] w fun r w' => r = .returned (.bool true) ∧ Kp w w' := by
  have k1 : Kp w (((w.alloc (.cells #[.int .i64 e.kind, .int .i64 e.rn, .int .i64 e.rd, .string e.name, .int .i64 e.pw, .slice e.a e.l.length e.c] 26)).alloc (.cells #[.int .u8 m] 5)).alloc (.cells #[.bool false] 4)) := (((Kp.refl w).alloc _).alloc _).alloc _
  have hB1 : BoxX (((w.alloc (.cells #[.int .i64 e.kind, .int .i64 e.rn, .int .i64 e.rd, .string e.name, .int .i64 e.pw, .slice e.a e.l.length e.c] 26)).alloc (.cells #[.int .u8 m] 5)).alloc (.cells #[.bool false] 4)) w.heap.size e := (BoxX.new w e _ rfl).kp (((Kp.refl _).alloc _).alloc _)
  have hM : (((w.alloc (.cells #[.int .i64 e.kind, .int .i64 e.rn, .int .i64 e.rd, .string e.name, .int .i64 e.pw, .slice e.a e.l.length e.c] 26)).alloc (.cells #[.int .u8 m] 5)).alloc (.cells #[.bool false] 4)).cell? ⟨w.heap.size + 1, 0, none⟩ = some (.int .u8 m) := ((Kp.refl _).alloc _).cell (new_cell _ _ _ _ (by simp))
  have hR : (((w.alloc (.cells #[.int .i64 e.kind, .int .i64 e.rn, .int .i64 e.rd, .string e.name, .int .i64 e.pw, .slice e.a e.l.length e.c] 26)).alloc (.cells #[.int .u8 m] 5)).alloc (.cells #[.bool false] 4)).cell? ⟨w.heap.size + 1 + 1, 0, none⟩ = some (.bool false) ∧ (((w.alloc (.cells #[.int .i64 e.kind, .int .i64 e.rn, .int .i64 e.rd, .string e.name, .int .i64 e.pw, .slice e.a e.l.length e.c] 26)).alloc (.cells #[.int .u8 m] 5)).alloc (.cells #[.bool false] 4)).frozen? ⟨w.heap.size + 1 + 1, 0, none⟩ = false := ⟨new_cell _ _ _ _ (by simp), newF _ _ _ _ _ (by simp)⟩
  refine (callsIn_wide (n := 3)).1 ?_
  refine callsIn_of_wp_marks Try.func6 rfl trivial ?_ rfl
  simp only [Try.ntmps6, List.size_toArray, List.length_cons, List.length_nil, Nat.reduceAdd, Nat.reduceSub, Array.replicate_succ, Array.replicate_zero, List.push_toArray, List.append_toArray, List.nil_append, List.cons_append]
  refine wpIn_wide.2 ?_
  generalize hQ : bodyPostM Fence.wide 3 _ _ _ = Q
  have HQ := Lib.hid hQ
  clear hQ
  go_upto_region 1 with fail
  generalize World.alloc _ _ = W at *
  have KC := Lib.hid k1
  have HE := Lib.hid (Ex.at_kp hat k1)
  have HB1 := Lib.hid hB1
  have HM := Lib.hid hM
  have HR := Lib.hid hR
  clear hat hB1 hM hR k1
  go_upto_region 3 with (first | (go_at_call 10; go_fit (awake_one _); rintro r w1 ⟨rfl, k1⟩) | fail)
  have KC := Lib.hid (KC.out.trans k1)
  have HE := Lib.hid (Ex.at_kp HE.out k1)
  have HB1 := Lib.hid (HB1.out.kp k1)
  have HM := Lib.hid (k1.cell HM.out)
  have HR := Lib.hid (And.intro (k1.cell HR.out.1) (k1.frozen HR.out.1 HR.out.2))
  have hs1 : w.heap.size ≤ w1.heap.size := KC.out.size
  have hRw1 : w.heap.size + 1 + 1 < w1.heap.size := cell_ltT HR.out.1
  clear k1
  go_upto_region 4 with fail
  obtain ⟨⟨p0, p1, p2, p3, p4, p5⟩, _⟩ := HB1.out.kp ((Kp.refl w1).alloc (.cells #[.slice none 0 0] 24))
  go_upto_region 5 with (first | (go_at_call 17; go_fit (twalk_any e _); rintro r w' ⟨rfl, rfl⟩) | fail)
  have k1W : Kp w1 ((w1.alloc (.cells #[.slice none 0 0] 24)).alloc (.cells #[.int .i64 e.kind, .int .i64 e.rn, .int .i64 e.rd, .string e.name, .int .i64 e.pw, .slice e.a e.l.length e.c] 26)) := ((Kp.refl w1).alloc _).alloc _
  have hbx : Boxed ((w1.alloc (.cells #[.slice none 0 0] 24)).alloc (.cells #[.int .i64 e.kind, .int .i64 e.rn, .int .i64 e.rd, .string e.name, .int .i64 e.pw, .slice e.a e.l.length e.c] 26)) w1.heap.size 24 (.slice none 0 0) := (Boxed.new w1 24 (.slice none 0 0)).alloc _
  have hb2 : BoxX ((w1.alloc (.cells #[.slice none 0 0] 24)).alloc (.cells #[.int .i64 e.kind, .int .i64 e.rn, .int .i64 e.rd, .string e.name, .int .i64 e.pw, .slice e.a e.l.length e.c] 26)) (w1.heap.size + 1) e := BoxX.new _ e _ (by simp)
  have hz : ((w1.alloc (.cells #[.slice none 0 0] 24)).alloc (.cells #[.int .i64 e.kind, .int .i64 e.rn, .int .i64 e.rd, .string e.name, .int .i64 e.pw, .slice e.a e.l.length e.c] 26)).heap.size = w1.heap.size + 2 := by simp
  obtain ⟨i0, hi, hz0, hz1, hz2⟩ := info_parts infoExp
  clear p0 p1 p2 p3 p4 p5
  generalize ((w1.alloc (.cells #[.slice none 0 0] 24)).alloc (.cells #[.int .i64 e.kind, .int .i64 e.rn, .int .i64 e.rd, .string e.name, .int .i64 e.pw, .slice e.a e.l.length e.c] 26)) = W0 at *
  refine (wpIn_wide (n := 3)).1 ?_
  refine wpIn_rangeFunc_end rfl (by omega) (gf := 43) (lb := #[.pointer (some ⟨w1.heap.size + 1, 0, none⟩)]) rfl trivial (enters_of Try.func43 (by kernel_rfl) rfl)
    (walkc_ends (3 - 1) e (w1.heap.size + 1) w.heap.size W0 (tSlice w1.heap.size) ⟨boxed_cellsAt hbx, fun g n c hc => by rw [hbx.cell] at hc; cases hc⟩ (Ex.at_kp HE.out k1W) (Nat.le_trans hs1 k1W.size) hb2)
    (fun xs W l o o' h hl ho => EndE.put xs W l o o' h hl ho)
    KpT.trans (fun W l o o' hl ho => kpT_put W l o o' hl ho) (Below.refl _ _) (fun _ => rfl)
    (fun pre W => (∃ v, Boxed W w1.heap.size 24 v ∧ W.ownsRow w1.heap.size 26 6 v pre.length (pre.flatMap Ex.cells) ∧ True) ∧ Below w1.heap.size w1 W)
    (fun _ _ _ => False)
    (OwnFrom.and (Own.from (holdsRow_own w1.heap.size w1.heap.size 24 26 6 (fun pre : List Ex => pre.length) (fun pre : List Ex => pre.flatMap Ex.cells) (fun _ _ => True)) _) (ownFrom_below (Nat.le_refl _) (by omega)))
    (fun _ _ _ _ _ hs _ _ => hs)
    ⟨⟨_, hbx, World.ownsRow_nil _ _ _ _, trivial⟩, k1W⟩
    (fun x a' W => ∃ Bx, w1.heap.size < Bx ∧ BoxX W Bx x ∧ (∃ v, Boxed W w1.heap.size 24 v ∧ v.ownBlock ≠ some Bx) ∧ a' = { tmps := #[.agg #[.int .i64 e.kind, .int .i64 e.rn, .int .i64 e.rd, .string e.name, .int .i64 e.pw, .slice e.a e.l.length e.c], .int .u8 m, .pointer (some ⟨w.heap.size, 0, none⟩), .pointer (some ⟨w.heap.size + 1, 0, none⟩), .pointer (some ⟨w.heap.size + 1 + 1, 0, none⟩), .pointer (some ⟨w1.heap.size, 0, none⟩), .pointer (some ⟨Bx, 0, none⟩), undef, .bool true, .bool false, .agg #[.int .i64 e.kind, .int .i64 e.rn, .int .i64 e.rd, .string e.name, .int .i64 e.pw, .slice e.a e.l.length e.c], .func (.func 43) #[] #[.pointer (some ⟨w1.heap.size + 1, 0, none⟩)], .agg #[.int .i64 x.kind, .int .i64 x.rn, .int .i64 x.rd, .string x.name, .int .i64 x.pw, .slice x.a x.l.length x.c], undef, undef, undef, undef, undef, undef, undef, undef, undef, undef, undef, undef, undef, undef, undef, undef, undef, undef, undef, undef, undef, undef, undef, undef, undef, undef, undef, undef, undef, undef, undef, undef, undef, undef, undef, undef, undef, undef, undef, undef, undef, undef, undef, undef, undef, undef, undef, undef], defers := [] })
    (fun x a' _ X Y row hs hg hr => by obtain ⟨Bx, h1, h2, ⟨v, h4, h5⟩, h3⟩ := hs; exact ⟨Bx, h1, boxX_kept h2 hg (fun r e => (hr r e).2), ⟨v, h4.kept hg (fun e' => by obtain ⟨_, o, ho, hc⟩ := hr _ e'.symm; rw [show X.heap[w1.heap.size]? = _ from h4] at ho; cases ho; cases hc), h5⟩, h3⟩)
    ?assign ?body ?done ?stop
  case assign =>
    rintro l pre x W K ⟨⟨v, h1, h2, _⟩, hB1⟩ hK
    simp only [List.zip_toArray, List.zip_cons_cons, List.zip_nil_right, List.foldl_toArray', List.foldl_cons, List.foldl_nil]
    gi_wp2
    exact hK _ _ ((KeepsOthers.alloc _ _).from _) (Kp.kpT ((Kp.refl W).alloc _)) ⟨⟨v, h1.alloc _, h2.alloc _, trivial⟩, hB1.alloc hB1.size _⟩ ⟨W.heap.size, h1.lt, BoxX.new W x _ rfl, ⟨v, h1.alloc _, fun e' => by have := (h2.lt _ e').2; omega⟩, rfl⟩
  case body =>
    rintro l pre x a' W hl ⟨r, hr⟩ ⟨⟨v, h1, h2, _⟩, hB1⟩ ⟨Bx, hBx, hbx, ⟨v2, h4, h5⟩, rfl⟩ hlt
    have hle := flatE_le e
    obtain rfl : v = v2 := by have := h1.cell.symm.trans h4.cell; injection this
    have hmix : Try.prog.follows .mixedOrders = true := by kernel_rfl
    have hlen : ∀ X : World, (Builtin.len_ #[24] 3 #[v]).run Try.prog X = .ok (.int .i64 pre.length) X := by
      obtain ⟨a, c, rfl, hc1, hc2, _⟩ := rowC_of h2 rfl
      intro X
      go_simp
    have hA := Boxed.alloc (W := W) h1 (.cells #[.int .i64 0, .int .i64 0, .int .i64 0, .string ⟨#[]⟩, .int .i64 0, .slice none 0 0] 26)
    have hBA : BoxX (W.alloc (.cells #[.int .i64 0, .int .i64 0, .int .i64 0, .string ⟨#[]⟩, .int .i64 0, .slice none 0 0] 26)) Bx x := BoxX.kp hbx ((Kp.refl W).alloc _)
    obtain ⟨v', w2, hrun, hown', hgrow, _, hat'⟩ := run_append_own_at (P := Try.prog) (W.drew.alloc (.cells #[.int .i64 0, .int .i64 0, .int .i64 0, .string ⟨#[]⟩, .int .i64 0, .slice none 0 0] 26)) w1.heap.size 24 24 26 i0 _ 6 72 Try.underlying24 hi hz0 hz1 hz2 rfl (by decide) _ _ _ ((h2.drew).alloc _) ⟨W.heap.size, 0, none⟩ 1 1 [.int .i64 0, .int .i64 0, .int .i64 0, .string ⟨#[]⟩, .int .i64 0, .slice none 0 0] rfl (fun j u hj => lit_cell W.drew #[.int .i64 0, .int .i64 0, .int .i64 0, .string ⟨#[]⟩, .int .i64 0, .slice none 0 0] _ j u (by rw [← hj]; exact (Array.getElem?_toList ..).symm)) (by simp [Value.oneCell']) (by unfold maxLen; omega) (by omega) (by have := hB1.size; simp; omega)
    obtain ⟨g', cap', rfl⟩ := ownsRow_succ hown'
    obtain ⟨hv1, hv2, hr2, hk2, hb2⟩ := Boxed.appended (W := W.drew) h1 (by decide) (h2.drew) hB1.size (Nat.le_refl _) hown' hgrow
    have hbx1 : BoxX w2 Bx x := BoxX.grown (show BoxX (W.drew.alloc (.cells #[.int .i64 0, .int .i64 0, .int .i64 0, .string ⟨#[]⟩, .int .i64 0, .slice none 0 0] 26)) Bx x from BoxX.kp hbx ((Kp.refl W).drew.alloc _)) hgrow (fun e => h5 e.symm)
    have hbx2 : BoxX (w2.setCell ⟨w1.heap.size, 0, none⟩ (.slice (some ⟨g', 0, none⟩) (pre.length + 1) cap')) Bx x := BoxX.grown hbx1 (grownBy_setCell' w2 w1.heap.size _) (fun e => by injection e with e; omega)
    have hrun1 := hrun
    simp [go_sem] at hrun1
    clear hrun
    have hZ : ∀ (Y : World) (j : Nat) (u : Value), Y.ownsRow w1.heap.size 26 6 (.slice (some ⟨g', 0, none⟩) (pre.length + 1) cap') (pre.length + 1) (pre.flatMap Ex.cells ++ [.int .i64 0, .int .i64 0, .int .i64 0, .string ⟨#[]⟩, .int .i64 0, .slice none 0 0]) → j < 6 → [.int .i64 0, .int .i64 0, .int .i64 0, .string ⟨#[]⟩, .int .i64 0, .slice none 0 0][j]? = some u → Y.cell? ⟨g', pre.length * 6 + j, none⟩ = some u := by
      intro Y j u h hj hu
      rw [h.cellAt _ (by omega), List.getElem?_append_right (by rw [h2.1]; omega), h2.1]
      rw [show pre.length * 6 + j - pre.length * 6 = j by omega]
      exact hu
    obtain ⟨z0, z1, z2, z3, z4, z5⟩ : w2.cell? ⟨g', pre.length * 6, none⟩ = some (.int .i64 0) ∧ w2.cell? ⟨g', pre.length * 6 + 1, none⟩ = some (.int .i64 0) ∧ w2.cell? ⟨g', pre.length * 6 + 2, none⟩ = some (.int .i64 0) ∧ w2.cell? ⟨g', pre.length * 6 + 3, none⟩ = some (.string ⟨#[]⟩) ∧ w2.cell? ⟨g', pre.length * 6 + 4, none⟩ = some (.int .i64 0) ∧ w2.cell? ⟨g', pre.length * 6 + 5, none⟩ = some (.slice none 0 0) := ⟨hZ _ 0 _ hown' (by decide) rfl, hZ _ 1 _ hown' (by decide) rfl, hZ _ 2 _ hown' (by decide) rfl, hZ _ 3 _ hown' (by decide) rfl, hZ _ 4 _ hown' (by decide) rfl, hZ _ 5 _ hown' (by decide) rfl⟩
    obtain ⟨y0, y1, y2, y3, y4, y5⟩ : (w2.setCell ⟨w1.heap.size, 0, none⟩ (.slice (some ⟨g', 0, none⟩) (pre.length + 1) cap')).cell? ⟨g', pre.length * 6, none⟩ = some (.int .i64 0) ∧ (w2.setCell ⟨w1.heap.size, 0, none⟩ (.slice (some ⟨g', 0, none⟩) (pre.length + 1) cap')).cell? ⟨g', pre.length * 6 + 1, none⟩ = some (.int .i64 0) ∧ (w2.setCell ⟨w1.heap.size, 0, none⟩ (.slice (some ⟨g', 0, none⟩) (pre.length + 1) cap')).cell? ⟨g', pre.length * 6 + 2, none⟩ = some (.int .i64 0) ∧ (w2.setCell ⟨w1.heap.size, 0, none⟩ (.slice (some ⟨g', 0, none⟩) (pre.length + 1) cap')).cell? ⟨g', pre.length * 6 + 3, none⟩ = some (.string ⟨#[]⟩) ∧ (w2.setCell ⟨w1.heap.size, 0, none⟩ (.slice (some ⟨g', 0, none⟩) (pre.length + 1) cap')).cell? ⟨g', pre.length * 6 + 4, none⟩ = some (.int .i64 0) ∧ (w2.setCell ⟨w1.heap.size, 0, none⟩ (.slice (some ⟨g', 0, none⟩) (pre.length + 1) cap')).cell? ⟨g', pre.length * 6 + 5, none⟩ = some (.slice none 0 0) := ⟨hZ _ 0 _ hr2 (by decide) rfl, hZ _ 1 _ hr2 (by decide) rfl, hZ _ 2 _ hr2 (by decide) rfl, hZ _ 3 _ hr2 (by decide) rfl, hZ _ 4 _ hr2 (by decide) rfl, hZ _ 5 _ hr2 (by decide) rfl⟩
    have hfz := hown'.frozenAt
    have hfy := hr2.frozenAt
    have hl1 : (pre.length : Int) < (pre.length : Int) + 1 := by omega
    have hne : ¬ w1.heap.size = g' := fun e => hv1.not_row (by decide) hown' (by rw [e]; rfl)
    have hne' : ¬ g' = w1.heap.size := fun e => hne e.symm
    have hc := h1.cell
    have hcA := hA.cell
    have hc1' := hv1.cell
    have hf1 := hv1.frozen
    obtain ⟨⟨x0, x1, x2, x3, x4, x5⟩, _⟩ := hbx
    obtain ⟨⟨xa0, xa1, xa2, xa3, xa4, xa5⟩, _⟩ := hBA
    obtain ⟨⟨xb0, xb1, xb2, xb3, xb4, xb5⟩, _⟩ := hbx1
    obtain ⟨⟨xc0, xc1, xc2, xc3, xc4, xc5⟩, _⟩ := hbx2
    have hBg : w1.heap.size ≤ g' := (hown'.lt _ rfl).1
    have hP := put6_row (x := x) (o := pre.length * 6) hr2 h2.1
    have hRow : (put6 (w2.setCell ⟨w1.heap.size, 0, none⟩ (.slice (some ⟨g', 0, none⟩) (pre.length + 1) cap')) g' (pre.length * 6) x).ownsRow w1.heap.size 26 6 (.slice (some ⟨g', 0, none⟩) (pre.length + 1) cap') (pre.length + 1) ((pre ++ [x]).flatMap Ex.cells) := by
      have := hP.1
      rw [List.flatMap_append, List.flatMap_singleton]
      exact this
    have hBox : Boxed (put6 (w2.setCell ⟨w1.heap.size, 0, none⟩ (.slice (some ⟨g', 0, none⟩) (pre.length + 1) cap')) g' (pre.length * 6) x) w1.heap.size 24 (.slice (some ⟨g', 0, none⟩) (pre.length + 1) cap') := hv2.kept hP.2 (fun e => hne (Option.some.inj e))
    have hKT : KpT (tSlice w1.heap.size) W (put6 (w2.setCell ⟨w1.heap.size, 0, none⟩ (.slice (some ⟨g', 0, none⟩) (pre.length + 1) cap')) g' (pre.length * 6) x) :=
      KpT.trans (Kp.kpT (Kp.refl W).drew) (KpT.trans (tSlice_append (W := W.drew) h1 (h2.drew) hown' hv2 hgrow hat') (kpT_row hv2 hP.2 hne))
    have hKO : KeepsOthers W (put6 (w2.setCell ⟨w1.heap.size, 0, none⟩ (.slice (some ⟨g', 0, none⟩) (pre.length + 1) cap')) g' (pre.length * 6) x) :=
      (KeepsOthers.drew W).trans (hk2.trans (((((((KeepsOthers.setCell _ _ _).trans (KeepsOthers.setCell _ _ _)).trans (KeepsOthers.setCell _ _ _)).trans (KeepsOthers.setCell _ _ _)).trans (KeepsOthers.setCell _ _ _)).trans (KeepsOthers.setCell _ _ _))))
    have hBB : Below w1.heap.size w1 (put6 (w2.setCell ⟨w1.heap.size, 0, none⟩ (.slice (some ⟨g', 0, none⟩) (pre.length + 1) cap')) g' (pre.length * 6) x) := by
      have q : Below w1.heap.size w1 (w2.setCell ⟨w1.heap.size, 0, none⟩ (.slice (some ⟨g', 0, none⟩) (pre.length + 1) cap')) := (hB1.trans ((Below.refl _ W).drew)).trans hb2
      unfold put6
      exact ((((((q.setCell (p := ⟨g', _, none⟩) hBg _).setCell (p := ⟨g', _, none⟩) hBg _).setCell (p := ⟨g', _, none⟩) hBg _).setCell (p := ⟨g', _, none⟩) hBg _).setCell (p := ⟨g', _, none⟩) hBg _).setCell (p := ⟨g', _, none⟩) hBg _)
    obtain ⟨Wf, hWf⟩ : ∃ Wf, put6 (w2.setCell ⟨w1.heap.size, 0, none⟩ (.slice (some ⟨g', 0, none⟩) (pre.length + 1) cap')) g' (pre.length * 6) x = Wf := ⟨_, rfl⟩
    rw [hWf] at hRow hBox hKT hKO hBB
    have HW2' := ((put6_swap w2 g' (pre.length * 6) x ⟨w1.heap.size, 0, none⟩ (.slice (some ⟨g', 0, none⟩) (pre.length + 1) cap') hne').trans hWf)
    unfold put6 at hWf HW2'
    have HW1 := Lib.hid hWf
    have HW2 := Lib.hid HW2'
    clear HW2'
    have HF := Lib.hid (And.intro hRow (And.intro hBox (And.intro hKT (And.intro hKO hBB))))
    clear hRow hBox hKT hKO hBB hWf hP hBg
    gi_wp2
    gi_cut [] from 61 (fun wx => wx = Wf)
    case first =>
      -- [[a
      gi_region_with_o (fail)
      all_goals gi_wp2
      all_goals gi_meet
      all_goals (first | with_reducible exact HW1.out | with_reducible exact HW2.out)
      -- ]]a
    case rest =>
      subst hcut
      -- [[b
      obtain ⟨hRow, hBox, hKT, hKO, hBB⟩ := HF.out
      have hc9 := hBox.cell
      have hg9 : decide ((200 : Int) < (pre.length : Int) + 1) = false := decide_eq_false (by omega)
      clear HW1 HW2 HF hc hcA hc1' hf1 x0 x1 x2 x3 x4 x5 xa0 xa1 xa2 xa3 xa4 xa5 xb0 xb1 xb2 xb3 xb4 xb5 xc0 xc1 xc2 xc3 xc4 xc5 hrun1
      gi_wp2
      refine ⟨hKO.from _, hKT, ⟨⟨_, hBox, ?_, trivial⟩, hBB⟩⟩
      rw [List.length_append]
      exact hRow
      -- ]]b
  case done =>
    rintro D xs W hD hS ⟨⟨v, h1, h2, _⟩, hB1⟩ hK
    have KW : Kp w1 W := hB1
    obtain ⟨a, c, rfl, hc1, hc2, hrow⟩ := rowC_of h2 rfl
    have HD := Lib.hid hD
    have HK := Lib.hid hK
    have HS := Lib.hid hS
    have HROW := Lib.hid hrow
    have HL := Lib.hid h1.cell
    have HE := Lib.hid (Ex.at_kp HE.out KW)
    have HB1 := Lib.hid (HB1.out.kp KW)
    have HM := Lib.hid (KW.cell HM.out)
    have HR := Lib.hid (And.intro (KW.cell HR.out.1) (KW.frozen HR.out.1 HR.out.2))
    have KC := Lib.hid (KC.out.trans KW)
    have hsW : w.heap.size ≤ W.heap.size := Nat.le_trans hs1 KW.size
    have hRw : w.heap.size + 1 + 1 < w1.heap.size := hRw1
    have hWw : w1.heap.size ≤ W.heap.size := KW.size
    clear hS hrow h1 h2 hB1 hK hD k1W hb2 hi hz0 hz1 hz2
    go_upto_region 10 with fail
    obtain ⟨⟨p0, p1, p2, p3, p4, p5⟩, _⟩ := HB1.out.kp ((Kp.refl W).alloc (.cells #[.int .i64 0] 3))
    go_upto_region 11 with (first | (go_at_call 17; go_fit (twalk_any e _); rintro r w' ⟨rfl, rfl⟩) | fail)
    have k2W : Kp W ((W.alloc (.cells #[.int .i64 0] 3)).alloc (.cells #[.int .i64 e.kind, .int .i64 e.rn, .int .i64 e.rd, .string e.name, .int .i64 e.pw, .slice e.a e.l.length e.c] 26)) := ((Kp.refl W).alloc _).alloc _
    have hc0 : ((W.alloc (.cells #[.int .i64 0] 3)).alloc (.cells #[.int .i64 e.kind, .int .i64 e.rn, .int .i64 e.rd, .string e.name, .int .i64 e.pw, .slice e.a e.l.length e.c] 26)).cell? ⟨W.heap.size, 0, none⟩ = some (.int .i64 0) := ((Kp.refl _).alloc _).cell (new_cell _ _ _ _ rfl)
    have hf0 : ((W.alloc (.cells #[.int .i64 0] 3)).alloc (.cells #[.int .i64 e.kind, .int .i64 e.rn, .int .i64 e.rd, .string e.name, .int .i64 e.pw, .slice e.a e.l.length e.c] 26)).frozen? ⟨W.heap.size, 0, none⟩ = false := ((Kp.refl _).alloc _).frozen (new_cell _ _ _ _ rfl) (newF _ _ _ _ _ rfl)
    have hb2 : BoxX ((W.alloc (.cells #[.int .i64 0] 3)).alloc (.cells #[.int .i64 e.kind, .int .i64 e.rn, .int .i64 e.rd, .string e.name, .int .i64 e.pw, .slice e.a e.l.length e.c] 26)) (W.heap.size + 1) e := BoxX.new _ e _ (by simp)
    have hz2 : ((W.alloc (.cells #[.int .i64 0] 3)).alloc (.cells #[.int .i64 e.kind, .int .i64 e.rn, .int .i64 e.rd, .string e.name, .int .i64 e.pw, .slice e.a e.l.length e.c] 26)).heap.size = W.heap.size + 2 := by simp
    clear p0 p1 p2 p3 p4 p5
    generalize ((W.alloc (.cells #[.int .i64 0] 3)).alloc (.cells #[.int .i64 e.kind, .int .i64 e.rn, .int .i64 e.rd, .string e.name, .int .i64 e.pw, .slice e.a e.l.length e.c] 26)) = W2 at *
    refine (wpIn_wide (n := 3)).1 ?_
    refine wpIn_rangeFunc_ownG rfl (by omega) (gf := 43) (lb := #[.pointer (some ⟨W.heap.size + 1, 0, none⟩)]) rfl trivial (enters_of Try.func43 (by kernel_rfl) rfl)
      (walkc_stops (3 - 1) e (W.heap.size + 1) w.heap.size W2 (tBox W.heap.size) (by show W.heap.size < W2.heap.size; omega) (Ex.at_kp HE.out k2W) (Nat.le_trans hsW k2W.size) hb2)
      KpT.trans (fun W l o o' _ hl ho _ => kpT_put W l o o' hl ho) (Below.refl _ _) (fun _ => rfl)
      (fun pre W3 => (W3.cell? ⟨W.heap.size, 0, none⟩ = some (.int .i64 (pre.length : Int)) ∧ W3.frozen? ⟨W.heap.size, 0, none⟩ = false ∧ pre.length ≤ m) ∧ Below W.heap.size W W3)
      (fun c pre W3 => (c = .exit 2 ∧ pre.length = m + 1 ∧ W3.cell? ⟨W.heap.size, 0, none⟩ = some (.int .i64 (m : Int))) ∧ Below W.heap.size W W3)
      (OwnFrom.and (Own.from (fun s A B row hs hg hr => ⟨cell_kept hs.1 hg hr, (frozen_kept hs.1 hg hr).trans hs.2.1, hs.2.2⟩) _) (ownFrom_below (Nat.le_refl _) (by omega)))
      (fun c => OwnFrom.and (Own.from (fun s A B row hs hg hr => ⟨hs.1, hs.2.1, cell_kept hs.2.2 hg hr⟩) _) (ownFrom_below (Nat.le_refl _) (by omega)))
      ⟨⟨hc0, hf0, Nat.zero_le _⟩, k2W⟩
      (fun x => { tmps := #[.agg #[.int .i64 e.kind, .int .i64 e.rn, .int .i64 e.rd, .string e.name, .int .i64 e.pw, .slice e.a e.l.length e.c], .int .u8 m, .pointer (some ⟨w.heap.size, 0, none⟩), .pointer (some ⟨w.heap.size + 1, 0, none⟩), .pointer (some ⟨w.heap.size + 1 + 1, 0, none⟩), .pointer (some ⟨w1.heap.size, 0, none⟩), undef, .pointer (some ⟨W.heap.size, 0, none⟩), .bool true, .bool false, .agg #[.int .i64 e.kind, .int .i64 e.rn, .int .i64 e.rd, .string e.name, .int .i64 e.pw, .slice e.a e.l.length e.c], .func (.func 43) #[] #[.pointer (some ⟨w1.heap.size + 1, 0, none⟩)], undef, undef, undef, undef, undef, undef, undef, undef, undef, undef, .agg #[.int .i64 e.kind, .int .i64 e.rn, .int .i64 e.rd, .string e.name, .int .i64 e.pw, .slice e.a e.l.length e.c], .func (.func 43) #[] #[.pointer (some ⟨W.heap.size + 1, 0, none⟩)], .agg #[.int .i64 x.kind, .int .i64 x.rn, .int .i64 x.rd, .string x.name, .int .i64 x.pw, .slice x.a x.l.length x.c], undef, undef, undef, undef, undef, undef, undef, undef, undef, undef, undef, undef, undef, undef, undef, undef, undef, undef, undef, undef, undef, undef, undef, undef, undef, undef, undef, undef, undef, undef, undef, undef, undef, undef, undef, undef], defers := [] }) ?assign2 ?body2 ?done2 ?stop2
    case assign2 =>
      intro l x W K hK
      gi_wp2
      simpa using hK
    case body2 =>
      -- [[c
      rintro l pre x W3 ⟨⟨hc, hf, hle⟩, hB⟩ hl
      have KW3 : Kp W W3 := hB
      have hcm := KW3.cell HM.out
      have hN := flatE_le e
      by_cases hq : pre.length = m
      · have hq1 : ((pre.length : Int) == (m : Int)) = true := by rw [hq]; simp
        have hw1 : IntKind.i64.wrap (m : Int) = m := IntWalk.i64_in _ (by omega)
        gi_wp2
        exact ⟨KeepsFrom.refl _ _, ⟨rfl, by rw [List.length_append, hq]; rfl, by rw [hc, hq]⟩, hB⟩
      · have hq1 : ((pre.length : Int) == (m : Int)) = false := beq_eq_false_iff_ne.2 (by omega)
        have hw1 : IntKind.i64.wrap (m : Int) = m := IntWalk.i64_in _ (by omega)
        have hb1 : (pre.length : Int) ≤ 200 := by omega
        gi_wp2
        refine ⟨(KeepsOthers.setCell _ _ _).from _, kpT_of (by simp) (fun k hk hx => Below.heap_setCell _ _ _ _ (fun e => hx (show k = W.heap.size by simpa using e))) (fun h => by show W.heap.size < (World.setCell _ _ _).heap.size; rw [World.size_setCell]; exact h) (fun _ k h => .inl h), ⟨?_, by rw [World.frozen?_setCell]; exact hf, by rw [List.length_append]; simp; omega⟩, hB.setCell (p := ⟨W.heap.size, 0, none⟩) (by simp) _⟩
        rw [cellset_eq hc, List.length_append]
        rfl
      -- ]]c
    case done2 =>
      rintro D2 xs2 W3 hD2 hxs ⟨⟨hc, hf, hle⟩, hB⟩ hK2
      obtain ⟨kk, hkk, hc⟩ : ∃ kk : Nat, min (flatE e).length m = kk ∧ W3.cell? ⟨W.heap.size, 0, none⟩ = some (.int .i64 (kk : Int)) := ⟨xs2.length, by have := congrArg List.length hxs; rw [List.length_map] at this; omega, hc⟩
      clear hf hle hxs
      have KW3 : Kp W W3 := hB
      have hDD : D ≠ D2 := by have := (Array.getElem?_eq_some_iff.1 HK.out).1; omega
      have HDD := Lib.hid hDD
      have HKD := Lib.hid (KW3.heap HK.out)
      have HKD2 := Lib.hid hK2
      have HD2 := Lib.hid hD2
      have HKK := Lib.hid hkk
      obtain ⟨⟨p0, p1, p2, p3, p4, p5⟩, _⟩ := HB1.out.kp KW3
      have HV := Lib.hid (rvalid13_any e w.heap.size W3 (Ex.at_kp HE.out KW3))
      have hl3 := KW3.cell HL.out
      have hm3 := KW3.cell HM.out
      have hr3 := KW3.cell HR.out.1
      have hrf3 := KW3.frozen HR.out.1 HR.out.2
      have KC3 := Lib.hid (KC.out.trans KW3)
      have HK3 := Lib.hid KW3
      clear hB KW3 hK2 hD2 hkk hDD
      rcases Bool.eq_false_or_eq_true e.ok with ho | ho
      · rw [ho] at HV
        have HO := Lib.hid ho
        clear ho
        -- [[d
        obtain ⟨e', B', hee, hxs, hat'⟩ : ∃ (e' : Ex) (B' : Nat), e'.er = e.er ∧ xs = e'.flat ∧ e'.at W B' := HS.out.elim (fun h => h.2) (fun h => by rw [HO.out] at h; cases h.1)
        have hlen : xs.length = (flatE e).length := by rw [hxs, e'.flat_len, flatE_len HO.out, ← e'.er_size, hee, e.er_size]
        have hsz := ok_size HO.out
        have hfl := flatE_le e
        have hall : allXX Ex.eqv xs e.flat = true := by
          have hm9 : xs.map Ex.er = e.flat.map Ex.er := by rw [hxs]; exact flat_er hee
          refine allXX_true.2 ⟨by have := congrArg List.length hm9; simpa using this, fun i x y hx hy => (eqv_iff x y).2 ?_⟩
          have h9 := congrArg (fun l => l[i]?) hm9
          simp only [List.getElem?_map, hx, hy, Option.map_some, Option.some.injEq] at h9
          exact h9
        have HX := Lib.hid (fun x hx => flat_at e' hat' x hx)
        have HXS := Lib.hid hxs
        have HALL := Lib.hid hall
        have hso : sizO e = ((flatE e).length : Int) := rfl
        rw [hlen] at hl3
        have HLEN := Lib.hid hlen
        clear hat' hall hxs hlen
        go_upto_region 15 with (first | (go_at_call 12; go_fit HV.out; rintro r W4 ⟨rfl, k4⟩) | fail)
        have l4 := k4.cell hl3
        have n4 := k4.cell hc
        have m4 := k4.cell hm3
        have r4 := k4.cell hr3
        have rf4 := k4.frozen hr3 hrf3
        obtain ⟨⟨p0, p1, p2, p3, p4, p5⟩, _⟩ := (HB1.out.kp HK3.out).kp k4
        have KE := Lib.hid (Ex.at_kp (Ex.at_kp HE.out HK3.out) k4)
        have KW4 := Lib.hid (HK3.out.trans k4)
        have hsW4 : w.heap.size ≤ W4.heap.size := Nat.le_trans hsW KW4.out.size
        have HFL := Lib.hid fun W' (k : Kp W4 W') => rflat_any e w.heap.size W' (Ex.at_kp KE.out k) (by omega)
        have HSZ := Lib.hid fun W' (k : Kp W4 W') => tsize_any e w.heap.size W' (Ex.at_kp KE.out k) (Nat.le_trans hsW4 k.size)
        rw [hso] at HSZ
        have HEQ := Lib.hid fun W' (k : Kp W4 W') (g5 c5 : Nat) (hrow5 : RowC W' g5 e.flat) => show Calls Try.prog 27 #[.slice a (flatE e).length c, .slice (some ⟨g5, 0, none⟩) e.size c5, .func (.func 16) #[] #[]] W' (fun r w'' => r = .returned (.bool true) ∧ Kp W' w'') by
          have kk9 := KW4.out.trans k
          have h9 := eqfXX a (some ⟨g5, 0, none⟩) xs e.flat c c5 (B' + w.heap.size + W'.heap.size) 16 #[] W' Ex.eqv (by rw [HLEN.out]; omega) (by
            rcases HROW.out with h | ⟨g0, rfl, _, hr⟩
            · intro i x hx
              rw [h] at hx
              simp at hx
            · exact RowC.row (hr.kp kk9) (by omega)) (RowC.row hrow5 (by omega)) ⟨fun _ _ => by kernel_rfl, fun x hx y hy w9 k9 => by
              have hx' : x ∈ e'.flat := by rw [← HXS.out]; exact hx
              exact requal_any x y (B' + w.heap.size + W'.heap.size) w9 (Ex.at_up (Ex.at_kp (Ex.at_kp (HX.out x hx') kk9) k9) (by omega)) (Ex.at_up (Ex.at_kp (Ex.at_kp (flat_at e KE.out y hy) k) k9) (by omega))⟩
          rw [HALL.out, HLEN.out, e.flat_len] at h9
          exact h9
        have hw1 : IntKind.i64.wrap (m : Int) = m := IntWalk.i64_in _ (by omega)
        have HKDa := Lib.hid (k4.heap HKD.out)
        have HKDb := Lib.hid (k4.heap HKD2.out)
        have KC4 := Lib.hid (KC3.out.trans k4)
        have HS4 := Lib.hid hsW4
        clear hc hl3 hm3 hr3 hrf3 k4 HV hsz hsW4 HS HB1 HE HM HR HL HROW HX HXS HALL hee HLEN HO
        have hkk2 := HKK.out
        generalize (flatE e).length = L at *
        have hq9 : ((kk : Int) == min (L : Int) (m : Int)) = true := by
          rw [beq_iff_eq]
          omega
        have hSd : (W4.drew.cell? ⟨w.heap.size, 0, none⟩ = some (.int .i64 e.kind) ∧ W4.drew.cell? ⟨w.heap.size, 1, none⟩ = some (.int .i64 e.rn) ∧ W4.drew.cell? ⟨w.heap.size, 2, none⟩ = some (.int .i64 e.rd) ∧ W4.drew.cell? ⟨w.heap.size, 3, none⟩ = some (.string e.name) ∧ W4.drew.cell? ⟨w.heap.size, 4, none⟩ = some (.int .i64 e.pw) ∧ W4.drew.cell? ⟨w.heap.size, 5, none⟩ = some (.slice e.a e.l.length e.c)) ∧ W4.drew.cell? ⟨w1.heap.size, 0, none⟩ = some (.slice a L c) ∧ W4.drew.cell? ⟨W.heap.size, 0, none⟩ = some (.int .i64 (kk : Int)) ∧ W4.drew.cell? ⟨w.heap.size + 1, 0, none⟩ = some (.int .u8 m) := keepWk ((Kp.refl W4).drew) ⟨⟨p0, p1, p2, p3, p4, p5⟩, l4, n4, m4⟩
        have KJ := Lib.hid ((Kp.refl W4).drew)
        clear p0 p1 p2 p3 p4 p5 l4 n4 m4
        go_region_held3 (fun w' => (w'.cell? ⟨w.heap.size, 0, none⟩ = some (.int .i64 e.kind) ∧ w'.cell? ⟨w.heap.size, 1, none⟩ = some (.int .i64 e.rn) ∧ w'.cell? ⟨w.heap.size, 2, none⟩ = some (.int .i64 e.rd) ∧ w'.cell? ⟨w.heap.size, 3, none⟩ = some (.string e.name) ∧ w'.cell? ⟨w.heap.size, 4, none⟩ = some (.int .i64 e.pw) ∧ w'.cell? ⟨w.heap.size, 5, none⟩ = some (.slice e.a e.l.length e.c)) ∧ w'.cell? ⟨w1.heap.size, 0, none⟩ = some (.slice a L c) ∧ w'.cell? ⟨W.heap.size, 0, none⟩ = some (.int .i64 (kk : Int)) ∧ w'.cell? ⟨w.heap.size + 1, 0, none⟩ = some (.int .u8 m)) (first | with_reducible assumption | with_reducible exact keepWk (by assumption) (by assumption) | with_reducible exact setWk (by omega) (by omega) (by omega) (by omega) (by assumption) | fail) (first
          | (go_at_call 28; go_fit (HFL.out _ KJ.out); rintro r w5 ⟨⟨g5, c5, rfl, hg5, hrow5⟩, k5⟩; replace KJ := Lib.hid (KJ.out.trans k5))
          | (go_at_call 27; go_fit (HEQ.out _ KJ.out g5 c5 hrow5); rintro r w6 ⟨rfl, k6⟩; replace KJ := Lib.hid (KJ.out.trans k6))
          | (go_at_call 18; go_fit (HSZ.out _ KJ.out); rintro r w7 ⟨rfl, k7⟩; replace KJ := Lib.hid (KJ.out.trans k7); have r7 := KJ.out.cell r4; have rf7 := KJ.out.frozen r4 rf4)
          | fail)
        go_wp2
        rw [← HQ.out]
        have KCf := Lib.hid (KC4.out.trans KJ.out)
        have hKa := KJ.out.heap HKDa.out
        have hKb := KJ.out.heap HKDb.out
        have hnR : ∀ k : Nat, w7.heap[k]? = some (Obj.deferred (some [])) → (w7.setCell ⟨w.heap.size + 1 + 1, 0, none⟩ (.bool true)).heap[k]? = some (Obj.deferred (some [])) := fun k hk => (Below.heap_setCell _ _ _ _ (fun e1 => by
          obtain ⟨vs, t, fr, h9⟩ := cellsAt_of r7
          rw [← show k = w.heap.size + 1 + 1 by simpa using e1, hk] at h9
          cases h9)).trans hk
        refine leaveWk w _ _ (w.heap.size + 1 + 1) D D2 rfl (cellset_eq r7) (hnR _ hKa) (hnR _ hKb) HDD.out (by have := HD.out; omega) (by have := HD2.out; omega) ?_
        exact Below.setCell (p := ⟨w.heap.size + 1 + 1, 0, none⟩) KCf.out (by simp; omega) _
        -- ]]d
      · rw [ho] at HV
        have hx0 : xs = [] := HS.out.elim (fun h => by rw [ho] at h; cases h.1) (fun h => h.2)
        have hk0 : kk = 0 := by
          have := HKK.out
          have hf0 : flatE e = [] := by unfold flatE; rw [if_neg (by rw [ho]; decide)]
          rw [hf0] at this
          simpa using this.symm
        subst hx0
        subst hk0
        have HO := Lib.hid ho
        clear ho
        -- [[e
        go_upto_region 14 with (first | (go_at_call 12; go_fit HV.out; rintro r W4 ⟨rfl, k4⟩) | fail)
        have l4 := k4.cell hl3
        have n4 := k4.cell hc
        have r4 := k4.cell hr3
        have rf4 := k4.frozen hr3 hrf3
        have HKD := Lib.hid (k4.heap HKD.out)
        have HKD2 := Lib.hid (k4.heap HKD2.out)
        have KC4 := Lib.hid (KC3.out.trans k4)
        clear hc hl3 hm3 hr3 hrf3 k4 p0 p1 p2 p3 p4 p5 HV
        go_wp2
        rw [← HQ.out]
        have hnR : ∀ k : Nat, W4.heap[k]? = some (Obj.deferred (some [])) → (W4.setCell ⟨w.heap.size + 1 + 1, 0, none⟩ (.bool true)).heap[k]? = some (Obj.deferred (some [])) := fun k hk => (Below.heap_setCell _ _ _ _ (fun e1 => by
          obtain ⟨vs, t, fr, h9⟩ := cellsAt_of r4
          rw [← show k = w.heap.size + 1 + 1 by simpa using e1, hk] at h9
          cases h9)).trans hk
        refine leaveWk w _ _ (w.heap.size + 1 + 1) D D2 rfl (cellset_eq r4) (hnR _ HKD.out) (hnR _ HKD2.out) HDD.out (by have := HD.out; omega) (by have := HD2.out; omega) ?_
        exact Below.setCell (p := ⟨w.heap.size + 1 + 1, 0, none⟩) KC4.out (by simp; omega) _
        -- ]]e
    case stop2 =>
      rintro D2 c pre W3 hD2 hSp ⟨⟨rfl, hlen, hc⟩, hB⟩ hK2
      obtain ⟨kk, hkk, hc⟩ : ∃ kk : Nat, min (flatE e).length m = kk ∧ W3.cell? ⟨W.heap.size, 0, none⟩ = some (.int .i64 (kk : Int)) := ⟨m, by have := hSp.length_le; rw [List.length_map] at this; omega, hc⟩
      clear hlen hSp
      refine wpIn_exit ?_
      have KW3 : Kp W W3 := hB
      have hDD : D ≠ D2 := by have := (Array.getElem?_eq_some_iff.1 HK.out).1; omega
      have HDD := Lib.hid hDD
      have HKD := Lib.hid (KW3.heap HK.out)
      have HKD2 := Lib.hid hK2
      have HD2 := Lib.hid hD2
      have HKK := Lib.hid hkk
      obtain ⟨⟨p0, p1, p2, p3, p4, p5⟩, _⟩ := HB1.out.kp KW3
      have HV := Lib.hid (rvalid13_any e w.heap.size W3 (Ex.at_kp HE.out KW3))
      have hl3 := KW3.cell HL.out
      have hm3 := KW3.cell HM.out
      have hr3 := KW3.cell HR.out.1
      have hrf3 := KW3.frozen HR.out.1 HR.out.2
      have KC3 := Lib.hid (KC.out.trans KW3)
      have HK3 := Lib.hid KW3
      clear hB KW3 hK2 hD2 hkk hDD
      rcases Bool.eq_false_or_eq_true e.ok with ho | ho
      · rw [ho] at HV
        have HO := Lib.hid ho
        clear ho
        -- [[D
        obtain ⟨e', B', hee, hxs, hat'⟩ : ∃ (e' : Ex) (B' : Nat), e'.er = e.er ∧ xs = e'.flat ∧ e'.at W B' := HS.out.elim (fun h => h.2) (fun h => by rw [HO.out] at h; cases h.1)
        have hlen : xs.length = (flatE e).length := by rw [hxs, e'.flat_len, flatE_len HO.out, ← e'.er_size, hee, e.er_size]
        have hsz := ok_size HO.out
        have hfl := flatE_le e
        have hall : allXX Ex.eqv xs e.flat = true := by
          have hm9 : xs.map Ex.er = e.flat.map Ex.er := by rw [hxs]; exact flat_er hee
          refine allXX_true.2 ⟨by have := congrArg List.length hm9; simpa using this, fun i x y hx hy => (eqv_iff x y).2 ?_⟩
          have h9 := congrArg (fun l => l[i]?) hm9
          simp only [List.getElem?_map, hx, hy, Option.map_some, Option.some.injEq] at h9
          exact h9
        have HX := Lib.hid (fun x hx => flat_at e' hat' x hx)
        have HXS := Lib.hid hxs
        have HALL := Lib.hid hall
        have hso : sizO e = ((flatE e).length : Int) := rfl
        rw [hlen] at hl3
        have HLEN := Lib.hid hlen
        clear hat' hall hxs hlen
        go_upto_region 15 with (first | (go_at_call 12; go_fit HV.out; rintro r W4 ⟨rfl, k4⟩) | fail)
        have l4 := k4.cell hl3
        have n4 := k4.cell hc
        have m4 := k4.cell hm3
        have r4 := k4.cell hr3
        have rf4 := k4.frozen hr3 hrf3
        obtain ⟨⟨p0, p1, p2, p3, p4, p5⟩, _⟩ := (HB1.out.kp HK3.out).kp k4
        have KE := Lib.hid (Ex.at_kp (Ex.at_kp HE.out HK3.out) k4)
        have KW4 := Lib.hid (HK3.out.trans k4)
        have hsW4 : w.heap.size ≤ W4.heap.size := Nat.le_trans hsW KW4.out.size
        have HFL := Lib.hid fun W' (k : Kp W4 W') => rflat_any e w.heap.size W' (Ex.at_kp KE.out k) (by omega)
        have HSZ := Lib.hid fun W' (k : Kp W4 W') => tsize_any e w.heap.size W' (Ex.at_kp KE.out k) (Nat.le_trans hsW4 k.size)
        rw [hso] at HSZ
        have HEQ := Lib.hid fun W' (k : Kp W4 W') (g5 c5 : Nat) (hrow5 : RowC W' g5 e.flat) => show Calls Try.prog 27 #[.slice a (flatE e).length c, .slice (some ⟨g5, 0, none⟩) e.size c5, .func (.func 16) #[] #[]] W' (fun r w'' => r = .returned (.bool true) ∧ Kp W' w'') by
          have kk9 := KW4.out.trans k
          have h9 := eqfXX a (some ⟨g5, 0, none⟩) xs e.flat c c5 (B' + w.heap.size + W'.heap.size) 16 #[] W' Ex.eqv (by rw [HLEN.out]; omega) (by
            rcases HROW.out with h | ⟨g0, rfl, _, hr⟩
            · intro i x hx
              rw [h] at hx
              simp at hx
            · exact RowC.row (hr.kp kk9) (by omega)) (RowC.row hrow5 (by omega)) ⟨fun _ _ => by kernel_rfl, fun x hx y hy w9 k9 => by
              have hx' : x ∈ e'.flat := by rw [← HXS.out]; exact hx
              exact requal_any x y (B' + w.heap.size + W'.heap.size) w9 (Ex.at_up (Ex.at_kp (Ex.at_kp (HX.out x hx') kk9) k9) (by omega)) (Ex.at_up (Ex.at_kp (Ex.at_kp (flat_at e KE.out y hy) k) k9) (by omega))⟩
          rw [HALL.out, HLEN.out, e.flat_len] at h9
          exact h9
        have hw1 : IntKind.i64.wrap (m : Int) = m := IntWalk.i64_in _ (by omega)
        have HKDa := Lib.hid (k4.heap HKD.out)
        have HKDb := Lib.hid (k4.heap HKD2.out)
        have KC4 := Lib.hid (KC3.out.trans k4)
        have HS4 := Lib.hid hsW4
        clear hc hl3 hm3 hr3 hrf3 k4 HV hsz hsW4 HS HB1 HE HM HR HL HROW HX HXS HALL hee HLEN HO
        have hkk2 := HKK.out
        generalize (flatE e).length = L at *
        have hq9 : ((kk : Int) == min (L : Int) (m : Int)) = true := by
          rw [beq_iff_eq]
          omega
        have hSd : (W4.drew.cell? ⟨w.heap.size, 0, none⟩ = some (.int .i64 e.kind) ∧ W4.drew.cell? ⟨w.heap.size, 1, none⟩ = some (.int .i64 e.rn) ∧ W4.drew.cell? ⟨w.heap.size, 2, none⟩ = some (.int .i64 e.rd) ∧ W4.drew.cell? ⟨w.heap.size, 3, none⟩ = some (.string e.name) ∧ W4.drew.cell? ⟨w.heap.size, 4, none⟩ = some (.int .i64 e.pw) ∧ W4.drew.cell? ⟨w.heap.size, 5, none⟩ = some (.slice e.a e.l.length e.c)) ∧ W4.drew.cell? ⟨w1.heap.size, 0, none⟩ = some (.slice a L c) ∧ W4.drew.cell? ⟨W.heap.size, 0, none⟩ = some (.int .i64 (kk : Int)) ∧ W4.drew.cell? ⟨w.heap.size + 1, 0, none⟩ = some (.int .u8 m) := keepWk ((Kp.refl W4).drew) ⟨⟨p0, p1, p2, p3, p4, p5⟩, l4, n4, m4⟩
        have KJ := Lib.hid ((Kp.refl W4).drew)
        clear p0 p1 p2 p3 p4 p5 l4 n4 m4
        go_region_held3 (fun w' => (w'.cell? ⟨w.heap.size, 0, none⟩ = some (.int .i64 e.kind) ∧ w'.cell? ⟨w.heap.size, 1, none⟩ = some (.int .i64 e.rn) ∧ w'.cell? ⟨w.heap.size, 2, none⟩ = some (.int .i64 e.rd) ∧ w'.cell? ⟨w.heap.size, 3, none⟩ = some (.string e.name) ∧ w'.cell? ⟨w.heap.size, 4, none⟩ = some (.int .i64 e.pw) ∧ w'.cell? ⟨w.heap.size, 5, none⟩ = some (.slice e.a e.l.length e.c)) ∧ w'.cell? ⟨w1.heap.size, 0, none⟩ = some (.slice a L c) ∧ w'.cell? ⟨W.heap.size, 0, none⟩ = some (.int .i64 (kk : Int)) ∧ w'.cell? ⟨w.heap.size + 1, 0, none⟩ = some (.int .u8 m)) (first | with_reducible assumption | with_reducible exact keepWk (by assumption) (by assumption) | with_reducible exact setWk (by omega) (by omega) (by omega) (by omega) (by assumption) | fail) (first
          | (go_at_call 28; go_fit (HFL.out _ KJ.out); rintro r w5 ⟨⟨g5, c5, rfl, hg5, hrow5⟩, k5⟩; replace KJ := Lib.hid (KJ.out.trans k5))
          | (go_at_call 27; go_fit (HEQ.out _ KJ.out g5 c5 hrow5); rintro r w6 ⟨rfl, k6⟩; replace KJ := Lib.hid (KJ.out.trans k6))
          | (go_at_call 18; go_fit (HSZ.out _ KJ.out); rintro r w7 ⟨rfl, k7⟩; replace KJ := Lib.hid (KJ.out.trans k7); have r7 := KJ.out.cell r4; have rf7 := KJ.out.frozen r4 rf4)
          | fail)
        go_wp2
        rw [← HQ.out]
        have KCf := Lib.hid (KC4.out.trans KJ.out)
        have hKa := KJ.out.heap HKDa.out
        have hKb := KJ.out.heap HKDb.out
        have hnR : ∀ k : Nat, w7.heap[k]? = some (Obj.deferred (some [])) → (w7.setCell ⟨w.heap.size + 1 + 1, 0, none⟩ (.bool true)).heap[k]? = some (Obj.deferred (some [])) := fun k hk => (Below.heap_setCell _ _ _ _ (fun e1 => by
          obtain ⟨vs, t, fr, h9⟩ := cellsAt_of r7
          rw [← show k = w.heap.size + 1 + 1 by simpa using e1, hk] at h9
          cases h9)).trans hk
        refine leaveWk w _ _ (w.heap.size + 1 + 1) D D2 rfl (cellset_eq r7) (hnR _ hKa) (hnR _ hKb) HDD.out (by have := HD.out; omega) (by have := HD2.out; omega) ?_
        exact Below.setCell (p := ⟨w.heap.size + 1 + 1, 0, none⟩) KCf.out (by simp; omega) _
        -- ]]D
      · rw [ho] at HV
        have hx0 : xs = [] := HS.out.elim (fun h => by rw [ho] at h; cases h.1) (fun h => h.2)
        have hk0 : kk = 0 := by
          have := HKK.out
          have hf0 : flatE e = [] := by unfold flatE; rw [if_neg (by rw [ho]; decide)]
          rw [hf0] at this
          simpa using this.symm
        subst hx0
        subst hk0
        have HO := Lib.hid ho
        clear ho
        -- [[E
        go_upto_region 14 with (first | (go_at_call 12; go_fit HV.out; rintro r W4 ⟨rfl, k4⟩) | fail)
        have l4 := k4.cell hl3
        have n4 := k4.cell hc
        have r4 := k4.cell hr3
        have rf4 := k4.frozen hr3 hrf3
        have HKD := Lib.hid (k4.heap HKD.out)
        have HKD2 := Lib.hid (k4.heap HKD2.out)
        have KC4 := Lib.hid (KC3.out.trans k4)
        clear hc hl3 hm3 hr3 hrf3 k4 p0 p1 p2 p3 p4 p5 HV
        go_wp2
        rw [← HQ.out]
        have hnR : ∀ k : Nat, W4.heap[k]? = some (Obj.deferred (some [])) → (W4.setCell ⟨w.heap.size + 1 + 1, 0, none⟩ (.bool true)).heap[k]? = some (Obj.deferred (some [])) := fun k hk => (Below.heap_setCell _ _ _ _ (fun e1 => by
          obtain ⟨vs, t, fr, h9⟩ := cellsAt_of r4
          rw [← show k = w.heap.size + 1 + 1 by simpa using e1, hk] at h9
          cases h9)).trans hk
        refine leaveWk w _ _ (w.heap.size + 1 + 1) D D2 rfl (cellset_eq r4) (hnR _ HKD.out) (hnR _ HKD2.out) HDD.out (by have := HD.out; omega) (by have := HD2.out; omega) ?_
        exact Below.setCell (p := ⟨w.heap.size + 1 + 1, 0, none⟩) KC4.out (by simp; omega) _
        -- ]]E
  case stop =>
    rintro D c pre W _ _ h _
    exact h.elim
end Go.Proofs.Ythaphbbeiglolaa
