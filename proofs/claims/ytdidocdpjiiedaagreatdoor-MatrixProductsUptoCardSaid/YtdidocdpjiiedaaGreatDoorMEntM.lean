/-
  Walks: matrix.entrywise, Add, Sub.
-/
import Derived.Deep.RegionHeld3
import Derived.Test.YtdidocdpjiiedaaGreatDoorMEchM
import Derived.Test.YtdidocdpjiiedaaGreatDoorMNum7
namespace Go.Proofs.YtdidocdpjiiedaaGreatDoor
open Go.RowKit

/-- the function f answers op of two valid intervals, at precision p -/
def OpE (P : Program) (fid : FuncId) (p : Nat) (op : PI → PI → PI) : Prop :=
  Enters P fid ∧ ∀ (x y : RI) (W : World), (x.rd W ∧ x.vl = true) → (y.rd W ∧ y.vl = true) → Tab W → Calls P fid #[.agg #[.bool x.lo.neg, .slice x.lo.a x.lo.xs.length x.lo.c, .int .i64 x.lo.e, .bool x.hi.neg, .slice x.hi.a x.hi.xs.length x.hi.c, .int .i64 x.hi.e, .bool x.all], .agg #[.bool y.lo.neg, .slice y.lo.a y.lo.xs.length y.lo.c, .int .i64 y.lo.e, .bool y.hi.neg, .slice y.hi.a y.hi.xs.length y.hi.c, .int .i64 y.hi.e, .bool y.all], .int .i64 (p : Int)] W (IvOut W (op x.pl y.pl))
theorem keepE {w w' : World} (k : Kp w w') {pf pb pr pp : Addr} {bx by9 oy : Nat} {vf vb vr vp x0 x1 x2 x3 x4 x5 x6 y0 y1 y2 y3 y4 y5 y6 : Value} (h : w.cell? pf = some vf ∧ w.cell? pb = some vb ∧ w.cell? pr = some vr ∧ w.cell? pp = some vp ∧ w.cell? ⟨bx, 0, none⟩ = some x0 ∧ w.cell? ⟨bx, 1, none⟩ = some x1 ∧ w.cell? ⟨bx, 2, none⟩ = some x2 ∧ w.cell? ⟨bx, 3, none⟩ = some x3 ∧ w.cell? ⟨bx, 4, none⟩ = some x4 ∧ w.cell? ⟨bx, 5, none⟩ = some x5 ∧ w.cell? ⟨bx, 6, none⟩ = some x6 ∧ w.cell? ⟨by9, oy, none⟩ = some y0 ∧ w.cell? ⟨by9, oy + 1, none⟩ = some y1 ∧ w.cell? ⟨by9, oy + 2, none⟩ = some y2 ∧ w.cell? ⟨by9, oy + 3, none⟩ = some y3 ∧ w.cell? ⟨by9, oy + 4, none⟩ = some y4 ∧ w.cell? ⟨by9, oy + 5, none⟩ = some y5 ∧ w.cell? ⟨by9, oy + 6, none⟩ = some y6) : w'.cell? pf = some vf ∧ w'.cell? pb = some vb ∧ w'.cell? pr = some vr ∧ w'.cell? pp = some vp ∧ w'.cell? ⟨bx, 0, none⟩ = some x0 ∧ w'.cell? ⟨bx, 1, none⟩ = some x1 ∧ w'.cell? ⟨bx, 2, none⟩ = some x2 ∧ w'.cell? ⟨bx, 3, none⟩ = some x3 ∧ w'.cell? ⟨bx, 4, none⟩ = some x4 ∧ w'.cell? ⟨bx, 5, none⟩ = some x5 ∧ w'.cell? ⟨bx, 6, none⟩ = some x6 ∧ w'.cell? ⟨by9, oy, none⟩ = some y0 ∧ w'.cell? ⟨by9, oy + 1, none⟩ = some y1 ∧ w'.cell? ⟨by9, oy + 2, none⟩ = some y2 ∧ w'.cell? ⟨by9, oy + 3, none⟩ = some y3 ∧ w'.cell? ⟨by9, oy + 4, none⟩ = some y4 ∧ w'.cell? ⟨by9, oy + 5, none⟩ = some y5 ∧ w'.cell? ⟨by9, oy + 6, none⟩ = some y6 := by
  obtain ⟨h0, h1, h2, h3, h4, h5, h6, h7, h8, h9, h10, h11, h12, h13, h14, h15, h16, h17⟩ := h
  exact ⟨k.cell h0, k.cell h1, k.cell h2, k.cell h3, k.cell h4, k.cell h5, k.cell h6, k.cell h7, k.cell h8, k.cell h9, k.cell h10, k.cell h11, k.cell h12, k.cell h13, k.cell h14, k.cell h15, k.cell h16, k.cell h17⟩
theorem keepEU {g : Nat} {w W : World} (U : Upd g w W) {pf pb pr pp : Addr} {bx by9 oy : Nat} (nf : pf.block ≠ g) (nb : pb.block ≠ g) (nr : pr.block ≠ g) (np : pp.block ≠ g) (nx : bx ≠ g) (ny : by9 ≠ g) {vf vb vr vp x0 x1 x2 x3 x4 x5 x6 y0 y1 y2 y3 y4 y5 y6 : Value} (h : w.cell? pf = some vf ∧ w.cell? pb = some vb ∧ w.cell? pr = some vr ∧ w.cell? pp = some vp ∧ w.cell? ⟨bx, 0, none⟩ = some x0 ∧ w.cell? ⟨bx, 1, none⟩ = some x1 ∧ w.cell? ⟨bx, 2, none⟩ = some x2 ∧ w.cell? ⟨bx, 3, none⟩ = some x3 ∧ w.cell? ⟨bx, 4, none⟩ = some x4 ∧ w.cell? ⟨bx, 5, none⟩ = some x5 ∧ w.cell? ⟨bx, 6, none⟩ = some x6 ∧ w.cell? ⟨by9, oy, none⟩ = some y0 ∧ w.cell? ⟨by9, oy + 1, none⟩ = some y1 ∧ w.cell? ⟨by9, oy + 2, none⟩ = some y2 ∧ w.cell? ⟨by9, oy + 3, none⟩ = some y3 ∧ w.cell? ⟨by9, oy + 4, none⟩ = some y4 ∧ w.cell? ⟨by9, oy + 5, none⟩ = some y5 ∧ w.cell? ⟨by9, oy + 6, none⟩ = some y6) : W.cell? pf = some vf ∧ W.cell? pb = some vb ∧ W.cell? pr = some vr ∧ W.cell? pp = some vp ∧ W.cell? ⟨bx, 0, none⟩ = some x0 ∧ W.cell? ⟨bx, 1, none⟩ = some x1 ∧ W.cell? ⟨bx, 2, none⟩ = some x2 ∧ W.cell? ⟨bx, 3, none⟩ = some x3 ∧ W.cell? ⟨bx, 4, none⟩ = some x4 ∧ W.cell? ⟨bx, 5, none⟩ = some x5 ∧ W.cell? ⟨bx, 6, none⟩ = some x6 ∧ W.cell? ⟨by9, oy, none⟩ = some y0 ∧ W.cell? ⟨by9, oy + 1, none⟩ = some y1 ∧ W.cell? ⟨by9, oy + 2, none⟩ = some y2 ∧ W.cell? ⟨by9, oy + 3, none⟩ = some y3 ∧ W.cell? ⟨by9, oy + 4, none⟩ = some y4 ∧ W.cell? ⟨by9, oy + 5, none⟩ = some y5 ∧ W.cell? ⟨by9, oy + 6, none⟩ = some y6 := by
  obtain ⟨_, _, _, h4, _⟩ := U
  rw [h4 pf nf, h4 pb nb, h4 pr nr, h4 pp np]
  have kx (i : Nat) : W.cell? ⟨bx, i, none⟩ = w.cell? ⟨bx, i, none⟩ := h4 _ nx
  have ky (i : Nat) : W.cell? ⟨by9, i, none⟩ = w.cell? ⟨by9, i, none⟩ := h4 _ ny
  simp only [kx, ky]
  exact h
set_option maxRecDepth 100000 in
set_option maxHeartbeats 8000000 in
theorem entel_any (n : List (List RI)) (x y : RI) (r : List RI) (d rc i j bf bb bp : Nat) (b2 o2 b3 o3 : Nat) (fid : FuncId) (p : Nat) (op : PI → PI → PI) (w : World) (hop : OpE Tryz.prog fid p op) (hx : x.rd w) (vx : x.vl = true) (hy : y.rd w) (vy : y.vl = true) (hT : Tab w)
    (hf : w.cell? ⟨bf, 0, none⟩ = some (.func (.func fid) #[] #[])) (hb : w.cell? ⟨bb, 0, none⟩ = some (.slice (some ⟨b2, o2, none⟩) n.length d)) (hp : w.cell? ⟨bp, 0, none⟩ = some (.int .i64 (p : Int)))
    (hr : w.cell? ⟨b2, o2 + i, none⟩ = some (.slice (some ⟨b3, o3, none⟩) r.length rc)) (hY : w.cell? ⟨b3, o3 + j * 7, none⟩ = some (.bool y.lo.neg) ∧ w.cell? ⟨b3, o3 + j * 7 + 1, none⟩ = some (.slice y.lo.a y.lo.xs.length y.lo.c) ∧ w.cell? ⟨b3, o3 + j * 7 + 2, none⟩ = some (.int .i64 y.lo.e) ∧ w.cell? ⟨b3, o3 + j * 7 + 3, none⟩ = some (.bool y.hi.neg) ∧ w.cell? ⟨b3, o3 + j * 7 + 4, none⟩ = some (.slice y.hi.a y.hi.xs.length y.hi.c) ∧ w.cell? ⟨b3, o3 + j * 7 + 5, none⟩ = some (.int .i64 y.hi.e) ∧ w.cell? ⟨b3, o3 + j * 7 + 6, none⟩ = some (.bool y.all))
    (hi : i < n.length) (hj : j < r.length) :
    Calls Tryz.prog 121 #[.int .i64 (i : Int), .int .i64 (j : Int), .agg #[.bool x.lo.neg, .slice x.lo.a x.lo.xs.length x.lo.c, .int .i64 x.lo.e, .bool x.hi.neg, .slice x.hi.a x.hi.xs.length x.hi.c, .int .i64 x.hi.e, .bool x.all], .pointer (some ⟨bf, 0, none⟩), .pointer (some ⟨bb, 0, none⟩), .pointer (some ⟨bp, 0, none⟩)] w (IvOut w (op x.pl y.pl)) := by
  have hgo : ∀ args w, (callFunc fid args).run Tryz.prog w = .ok (.enter fid args) w := hop.1
  have HOP := Lib.hid hop.2
  have hi1 : (0 : Int) ≤ (i : Int) := by omega
  have hi2 : (i : Int) < (n.length : Int) := by omega
  have hj1 : (0 : Int) ≤ (j : Int) := by omega
  have hj2 : (j : Int) < (r.length : Int) := by omega
  have nf : (⟨bf, 0, none⟩ : Addr).block ≠ w.heap.size + 1 := by have := World.block_lt_of_cell? w _ hf; omega
  have nb : (⟨bb, 0, none⟩ : Addr).block ≠ w.heap.size + 1 := by have := World.block_lt_of_cell? w _ hb; omega
  have nr : (⟨b2, o2 + i, none⟩ : Addr).block ≠ w.heap.size + 1 := by have := World.block_lt_of_cell? w _ hr; omega
  have np : (⟨bp, 0, none⟩ : Addr).block ≠ w.heap.size + 1 := by have := World.block_lt_of_cell? w _ hp; omega
  have ny : b3 ≠ w.heap.size + 1 := by have := World.block_lt_of_cell? w _ hY.1; simp only at this; omega
  have Nn := Lib.hid (And.intro nf (And.intro nb (And.intro nr (And.intro np ny))))
  have h0 := Lib.hid (And.intro hf (And.intro hb (And.intro hr (And.intro hp hY))))
  have HX := Lib.hid (And.intro hx (And.intro vx (And.intro hy (And.intro vy hT))))
  clear hop hf hb hr hp hY hx vx hy vy hT nf nb nr np ny
  go_enter Tryz.func121, Tryz.ntmps121
  go_upto_region 1 with fail
  generalize hW : ((w.alloc _).alloc _) = W at *
  have hk : Kp w W := hW ▸ ((Kp.refl w).alloc _).alloc _
  have hS : W.cell? ⟨w.heap.size, 0, none⟩ = some (.bool x.lo.neg) ∧ W.cell? ⟨w.heap.size, 1, none⟩ = some (.slice x.lo.a x.lo.xs.length x.lo.c) ∧ W.cell? ⟨w.heap.size, 2, none⟩ = some (.int .i64 x.lo.e) ∧ W.cell? ⟨w.heap.size, 3, none⟩ = some (.bool x.hi.neg) ∧ W.cell? ⟨w.heap.size, 4, none⟩ = some (.slice x.hi.a x.hi.xs.length x.hi.c) ∧ W.cell? ⟨w.heap.size, 5, none⟩ = some (.int .i64 x.hi.e) ∧ W.cell? ⟨w.heap.size, 6, none⟩ = some (.bool x.all) := by rw [← hW]; simp
  have hV : Var7 W (w.heap.size + 1) := by rw [← hW]; exact Var7.new1 _ _ _
  clear hW
  have kd := (Kp.refl W).drew
  have hk2 := hk.trans kd
  have HS := Lib.hid (keepE kd (show W.cell? ⟨bf, 0, none⟩ = some (.func (.func fid) #[] #[]) ∧ W.cell? ⟨bb, 0, none⟩ = some (.slice (some ⟨b2, o2, none⟩) n.length d) ∧ W.cell? ⟨b2, o2 + i, none⟩ = some (.slice (some ⟨b3, o3, none⟩) r.length rc) ∧ W.cell? ⟨bp, 0, none⟩ = some (.int .i64 (p : Int)) ∧ W.cell? ⟨w.heap.size, 0, none⟩ = some (.bool x.lo.neg) ∧ W.cell? ⟨w.heap.size, 1, none⟩ = some (.slice x.lo.a x.lo.xs.length x.lo.c) ∧ W.cell? ⟨w.heap.size, 2, none⟩ = some (.int .i64 x.lo.e) ∧ W.cell? ⟨w.heap.size, 3, none⟩ = some (.bool x.hi.neg) ∧ W.cell? ⟨w.heap.size, 4, none⟩ = some (.slice x.hi.a x.hi.xs.length x.hi.c) ∧ W.cell? ⟨w.heap.size, 5, none⟩ = some (.int .i64 x.hi.e) ∧ W.cell? ⟨w.heap.size, 6, none⟩ = some (.bool x.all) ∧ W.cell? ⟨b3, o3 + j * 7, none⟩ = some (.bool y.lo.neg) ∧ W.cell? ⟨b3, o3 + j * 7 + 1, none⟩ = some (.slice y.lo.a y.lo.xs.length y.lo.c) ∧ W.cell? ⟨b3, o3 + j * 7 + 2, none⟩ = some (.int .i64 y.lo.e) ∧ W.cell? ⟨b3, o3 + j * 7 + 3, none⟩ = some (.bool y.hi.neg) ∧ W.cell? ⟨b3, o3 + j * 7 + 4, none⟩ = some (.slice y.hi.a y.hi.xs.length y.hi.c) ∧ W.cell? ⟨b3, o3 + j * 7 + 5, none⟩ = some (.int .i64 y.hi.e) ∧ W.cell? ⟨b3, o3 + j * 7 + 6, none⟩ = some (.bool y.all) by
    obtain ⟨s0, s1, s2, s3, s4, s5, s6⟩ := hS
    exact ⟨hk.cell h0.out.1, hk.cell h0.out.2.1, hk.cell h0.out.2.2.1, hk.cell h0.out.2.2.2.1, s0, s1, s2, s3, s4, s5, s6, keep7 hk h0.out.2.2.2.2⟩))
  have HC := Lib.hid (HOP.out x y W.drew ⟨HX.out.1.kp hk2, HX.out.2.1⟩ ⟨HX.out.2.2.1.kp hk2, HX.out.2.2.2.1⟩ (HX.out.2.2.2.2.kp hk2))
  have HV := Lib.hid (hV.kp kd)
  have HK := Lib.hid hk2
  have hgn : w.heap.size ≠ w.heap.size + 1 := by omega
  clear hS hV kd hk2 hk
  go_region_held3 (fun w' => w'.cell? ⟨bf, 0, none⟩ = some (.func (.func fid) #[] #[]) ∧ w'.cell? ⟨bb, 0, none⟩ = some (.slice (some ⟨b2, o2, none⟩) n.length d) ∧ w'.cell? ⟨b2, o2 + i, none⟩ = some (.slice (some ⟨b3, o3, none⟩) r.length rc) ∧ w'.cell? ⟨bp, 0, none⟩ = some (.int .i64 (p : Int)) ∧ w'.cell? ⟨w.heap.size, 0, none⟩ = some (.bool x.lo.neg) ∧ w'.cell? ⟨w.heap.size, 1, none⟩ = some (.slice x.lo.a x.lo.xs.length x.lo.c) ∧ w'.cell? ⟨w.heap.size, 2, none⟩ = some (.int .i64 x.lo.e) ∧ w'.cell? ⟨w.heap.size, 3, none⟩ = some (.bool x.hi.neg) ∧ w'.cell? ⟨w.heap.size, 4, none⟩ = some (.slice x.hi.a x.hi.xs.length x.hi.c) ∧ w'.cell? ⟨w.heap.size, 5, none⟩ = some (.int .i64 x.hi.e) ∧ w'.cell? ⟨w.heap.size, 6, none⟩ = some (.bool x.all) ∧ w'.cell? ⟨b3, o3 + j * 7, none⟩ = some (.bool y.lo.neg) ∧ w'.cell? ⟨b3, o3 + j * 7 + 1, none⟩ = some (.slice y.lo.a y.lo.xs.length y.lo.c) ∧ w'.cell? ⟨b3, o3 + j * 7 + 2, none⟩ = some (.int .i64 y.lo.e) ∧ w'.cell? ⟨b3, o3 + j * 7 + 3, none⟩ = some (.bool y.hi.neg) ∧ w'.cell? ⟨b3, o3 + j * 7 + 4, none⟩ = some (.slice y.hi.a y.hi.xs.length y.hi.c) ∧ w'.cell? ⟨b3, o3 + j * 7 + 5, none⟩ = some (.int .i64 y.hi.e) ∧ w'.cell? ⟨b3, o3 + j * 7 + 6, none⟩ = some (.bool y.all)) (first | with_reducible exact HS.out | with_reducible assumption | with_reducible exact keepE (by assumption) (by assumption) | exact keepEU HU.out Nn.out.1 Nn.out.2.1 Nn.out.2.2.1 Nn.out.2.2.2.1 hgn Nn.out.2.2.2.2 HS1.out)
    (first
      | ((with_reducible refine HC.out.mono ?_); rintro e v1 ⟨z, rfl, hz, hzp, hzv, j1⟩
         have HZ := Lib.hid (And.intro hz (And.intro hzp hzv))
         have hV1 := HV.out.kp j1
         have HK1 := Lib.hid (HK.out.trans j1)
         have HS1 := Lib.hid (keepE j1 HS.out)
         have HU := Lib.hid (stored7 hV1.1 (fun _ h => by cases h) (fun _ h => by cases h) (fun _ h => by cases h) (fun _ h => by cases h) (fun _ h => by cases h) (fun _ h => by cases h) (fun _ h => by cases h) (.bool z.lo.neg) (.slice z.lo.a z.lo.xs.length z.lo.c) (.int .i64 z.lo.e) (.bool z.hi.neg) (.slice z.hi.a z.hi.xs.length z.hi.c) (.int .i64 z.hi.e) (.bool z.all) rfl).2
         clear hz hzp hzv
         obtain ⟨⟨q0, q1, q2, q3, q4, q5, q6⟩, f0, f1, f2, f3, f4, f5, f6⟩ := id hV1)
      | fail)
  go_wp2_with fail
  generalize hW9 : ((((((v1.setCell _ _).setCell _ _).setCell _ _).setCell _ _).setCell _ _).setCell _ _).setCell _ _ = W9
  obtain ⟨⟨s0, s1, s2, s3, s4, s5, s6⟩, hU⟩ := stored7 (show Box7 v1 _ _ _ _ _ _ _ _ from ⟨q0, q1, q2, q3, q4, q5, q6⟩) (fun _ h => by cases h) (fun _ h => by cases h) (fun _ h => by cases h) (fun _ h => by cases h) (fun _ h => by cases h) (fun _ h => by cases h) (fun _ h => by cases h) _ _ _ _ _ _ _ hW9
  clear hW9 q0 q1 q2 q3 q4 q5 q6 f0 f1 f2 f3 f4 f5 f6
  refine bodyPost_ret (v := .agg #[.bool z.lo.neg, .slice z.lo.a z.lo.xs.length z.lo.c, .int .i64 z.lo.e, .bool z.hi.neg, .slice z.hi.a z.hi.xs.length z.hi.c, .int .i64 z.hi.e, .bool z.all]) (by simp [results, Tryz.results121, go_sem, s0, s1, s2, s3, s4, s5, s6]) rfl ?_
  exact ⟨z, rfl, hU.rdI HZ.out.1, HZ.out.2.1, HZ.out.2.2, hU.2.2.1 _ HK1.out (by omega)⟩
end Go.Proofs.YtdidocdpjiiedaaGreatDoor
