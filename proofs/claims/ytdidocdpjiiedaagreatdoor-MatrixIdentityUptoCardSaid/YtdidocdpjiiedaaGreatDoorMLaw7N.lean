/-
  Walks: the law MatrixNorms.
  Walks: matrix.entrywise, Add, Sub.
  Walks: matrix.entrywise, Add, Sub.
-/
import Derived.Test.YtdidocdpjiiedaaGreatDoorMAwk7
import Derived.Test.YtdidocdpjiiedaaGreatDoorMR7N
import Derived.Deep.RegionHeld3
import Derived.Test.YtdidocdpjiiedaaGreatDoorMIdnL
import Derived.Test.YtdidocdpjiiedaaGreatDoorMNum7
section
namespace Go.Proofs.YtdidocdpjiiedaaGreatDoor
open Go.RowKit

theorem rowT_one {w : World} {a : Option Addr} {m : List (List RI)} {c : Nat} (h : RowM w a m) (hl : m.length ≤ 1100000) (t : TypeId) : RowT (w.alloc (.cells #[.slice a m.length c] t)) (some ⟨w.heap.size, 0, none⟩) [m] := by
  intro i r hi
  match i with
  | 0 =>
    simp only [List.getElem?_cons_zero, Option.some.injEq] at hi
    subst hi
    exact ⟨_, 0, a, c, rfl, by simp, h.kp ((Kp.refl w).alloc _), hl⟩
  | i + 1 => simp at hi
set_option maxRecDepth 100000 in
set_option maxHeartbeats 4000000 in
theorem Norms_ok (a : Option Addr) (m : List (List RI)) (c : Nat) (p : Int) (w : World) (hm : RowM w a m) (hl : m.length ≤ 1100000) (hT : Tab w) :
    Calls Tryz.prog 3 #[.slice a m.length c, .int .i64 p] w fun e w' => e = .returned (.bool true) ∧ Kp w w' := by
  go_enter Tryz.func3, Tryz.ntmps3
  go_wp2_with fail
  go_fit (awake7_any _ hT)
  rintro e w1 ⟨rfl, k1⟩
  have hm1 := hm.kp k1
  have hT1 := hT.kp k1
  have HT := Lib.hid (rowT_one (c := c) hm1 hl 22)
  have hA := k1.alloc (.cells #[.slice a m.length c] 22)
  go_wp2_with fail
  go_fit (great7_any [m] _ 1 _ HT.out (by simp))
  rintro e w2 ⟨rfl, k2⟩
  have hk2 := hA.trans k2
  clear HT hA k1 hm1 hT1 k2
  cases hg : [m].any greatM with
  | true =>
    clear hg
    go_wp2_with fail
    go_ret
    exact ⟨rfl, hk2⟩
  | false =>
    clear hg
    go_wp2_with fail
    go_fit (fine7_any p _)
    rintro e w3 ⟨rfl, rfl⟩
    cases hf : fineP p with
    | false =>
      clear hf
      go_wp2_with fail
      go_ret
      exact ⟨rfl, hk2⟩
    | true =>
      clear hf
      obtain ⟨D, hD⟩ : ∃ D, D = (nrmO m p).getD .zero := ⟨_, rfl⟩
      obtain ⟨B, hB⟩ : ∃ B, B = (nrmO m p).isSome := ⟨_, rfl⟩
      have HN := mnorm_any a m c p w2 (hm.kp hk2) hl (hT.kp hk2)
      have HR := fun (W : World) (k : Kp w2 W) => r7norm_any a m c p W ((hm.kp hk2).kp k) hl
      rw [← hD, ← hB] at HN
      simp only [← hD, ← hB] at HR
      have HN := Lib.hid HN
      have HR := Lib.hid HR
      clear hD hB hm hT
      go_wp2_with fail
      go_fit HN.out
      rintro e w3 ⟨y1, rfl, r1, d1, v1, k3⟩
      have ka := (Kp.refl w3).alloc (.cells #[.bool y1.neg, .slice y1.a y1.xs.length y1.c, .int .i64 y1.e] 28)
      have O1 := Lib.hid (show y1.ok (w3.alloc (.cells #[.bool y1.neg, .slice y1.a y1.xs.length y1.c, .int .i64 y1.e] 28)) from ⟨r1.kp ka, v1⟩)
      have hk4 := hk2.trans (k3.trans ka)
      have ka2 := k3.trans ka
      clear r1 v1 k3 ka HN
      go_upto_region 6 with fail
      generalize hW4 : w3.alloc _ = W4 at *
      have hY1 : W4.cell? ⟨w3.heap.size, 0, none⟩ = some (.bool y1.neg) ∧ W4.cell? ⟨w3.heap.size, 1, none⟩ = some (.slice y1.a y1.xs.length y1.c) ∧ W4.cell? ⟨w3.heap.size, 2, none⟩ = some (.int .i64 y1.e) := by rw [← hW4]; simp
      clear hW4
      go_wp2_with fail
      go_fit (HR.out _ ka2)
      rintro e w5 ⟨y2, rfl, r2, d2, v2, k5⟩
      have kb := (Kp.refl w5).alloc (.cells #[.bool y2.neg, .slice y2.a y2.xs.length y2.c, .int .i64 y2.e] 28)
      have O2 := Lib.hid (show y2.ok (w5.alloc (.cells #[.bool y2.neg, .slice y2.a y2.xs.length y2.c, .int .i64 y2.e] 28)) from ⟨r2.kp kb, v2⟩)
      have O1b := Lib.hid (O1.out.kp (k5.trans kb))
      have HE := Lib.hid (sameR_dy O1b.out O2.out (d1.trans d2.symm))
      have hk6 := hk4.trans (k5.trans kb)
      have hY1b := keep3 (k5.trans kb) hY1
      clear r2 v2 d1 d2 k5 kb hY1 hk4 ka2
      go_upto_region 7 with fail
      generalize hW6 : w5.alloc _ = W6 at *
      have hY2 : W6.cell? ⟨w5.heap.size, 0, none⟩ = some (.bool y2.neg) ∧ W6.cell? ⟨w5.heap.size, 1, none⟩ = some (.slice y2.a y2.xs.length y2.c) ∧ W6.cell? ⟨w5.heap.size, 2, none⟩ = some (.int .i64 y2.e) := by rw [← hW6]; simp
      clear hW6
      obtain ⟨s0, s1, s2⟩ := hY1b
      obtain ⟨t0, t1, t2⟩ := hY2
      cases B
      all_goals
        go_wp2_with fail
        go_fit (number7_any y1 y2 _ O1b.out.1 O2.out.1)
        rw [HE.out]
        rintro e w7 ⟨rfl, k7⟩
        go_wp2_with fail
        go_ret
        exact ⟨rfl, hk6.trans k7⟩
end Go.Proofs.YtdidocdpjiiedaaGreatDoor
end

section
namespace Go.Proofs.YtdidocdpjiiedaaGreatDoor
open Go.RowKit

/-- the function f answers op of two valid intervals, at precision p -/
def OpE (P : Program) (fid : FuncId) (p : Nat) (op : PI → PI → PI) : Prop :=
  Enters P fid ∧ ∀ (x y : RI) (W : World), (x.rd W ∧ x.vl = true) → (y.rd W ∧ y.vl = true) → Tab W → Calls P fid #[.agg #[.bool x.lo.neg, .slice x.lo.a x.lo.xs.length x.lo.c, .int .i64 x.lo.e, .bool x.hi.neg, .slice x.hi.a x.hi.xs.length x.hi.c, .int .i64 x.hi.e, .bool x.all], .agg #[.bool y.lo.neg, .slice y.lo.a y.lo.xs.length y.lo.c, .int .i64 y.lo.e, .bool y.hi.neg, .slice y.hi.a y.hi.xs.length y.hi.c, .int .i64 y.hi.e, .bool y.all], .int .i64 (p : Int)] W (IvOut W (op x.pl y.pl))
theorem keepE {w w' : World} (k : Kp w w') {pf pb pr pp : Addr} {bx by9 oy : Nat} {vf vb vr vp x0 x1 x2 x3 x4 x5 x6 y0 y1 y2 y3 y4 y5 y6 : Value} (h : w.cell? pf = some vf ∧ w.cell? pb = some vb ∧ w.cell? pr = some vr ∧ w.cell? pp = some vp ∧ w.cell? ⟨bx, 0, none⟩ = some x0 ∧ w.cell? ⟨bx, 1, none⟩ = some x1 ∧ w.cell? ⟨bx, 2, none⟩ = some x2 ∧ w.cell? ⟨bx, 3, none⟩ = some x3 ∧ w.cell? ⟨bx, 4, none⟩ = some x4 ∧ w.cell? ⟨bx, 5, none⟩ = some x5 ∧ w.cell? ⟨bx, 6, none⟩ = some x6 ∧ w.cell? ⟨by9, oy, none⟩ = some y0 ∧ w.cell? ⟨by9, oy + 1, none⟩ = some y1 ∧ w.cell? ⟨by9, oy + 2, none⟩ = some y2 ∧ w.cell? ⟨by9, oy + 3, none⟩ = some y3 ∧ w.cell? ⟨by9, oy + 4, none⟩ = some y4 ∧ w.cell? ⟨by9, oy + 5, none⟩ = some y5 ∧ w.cell? ⟨by9, oy + 6, none⟩ = some y6) : w'.cell? pf = some vf ∧ w'.cell? pb = some vb ∧ w'.cell? pr = some vr ∧ w'.cell? pp = some vp ∧ w'.cell? ⟨bx, 0, none⟩ = some x0 ∧ w'.cell? ⟨bx, 1, none⟩ = some x1 ∧ w'.cell? ⟨bx, 2, none⟩ = some x2 ∧ w'.cell? ⟨bx, 3, none⟩ = some x3 ∧ w'.cell? ⟨bx, 4, none⟩ = some x4 ∧ w'.cell? ⟨bx, 5, none⟩ = some x5 ∧ w'.cell? ⟨bx, 6, none⟩ = some x6 ∧ w'.cell? ⟨by9, oy, none⟩ = some y0 ∧ w'.cell? ⟨by9, oy + 1, none⟩ = some y1 ∧ w'.cell? ⟨by9, oy + 2, none⟩ = some y2 ∧ w'.cell? ⟨by9, oy + 3, none⟩ = some y3 ∧ w'.cell? ⟨by9, oy + 4, none⟩ = some y4 ∧ w'.cell? ⟨by9, oy + 5, none⟩ = some y5 ∧ w'.cell? ⟨by9, oy + 6, none⟩ = some y6 := by
  obtain ⟨h0, h1, h2, h3, h4, h5, h6, h7, h8, h9, h10, h11, h12, h13, h14, h15, h16, h17⟩ := h
  exact ⟨k.cell h0, k.cell h1, k.cell h2, k.cell h3, k.cell h4, k.cell h5, k.cell h6, k.cell h7, k.cell h8, k.cell h9, k.cell h10, k.cell h11, k.cell h12, k.cell h13, k.cell h14, k.cell h15, k.cell h16, k.cell h17⟩
theorem keepEU {g : Nat} {w W : World} (U : Upd g w W) {pf pb pr pp : Addr} {bx by9 oy : Nat} (nf : pf.block ≠ g) (nb : pb.block ≠ g) (nr : pr.block ≠ g) (np : pp.block ≠ g) (nx : bx ≠ g) (ny : by9 ≠ g) {vf vb vr vp x0 x1 x2 x3 x4 x5 x6 y0 y1 y2 y3 y4 y5 y6 : Value} (h : w.cell? pf = some vf ∧ w.cell? pb = some vb ∧ w.cell? pr = some vr ∧ w.cell? pp = some vp ∧ w.cell? ⟨bx, 0, none⟩ = some x0 ∧ w.cell? ⟨bx, 1, none⟩ = some x1 ∧ w.cell? ⟨bx, 2, none⟩ = some x2 ∧ w.cell? ⟨bx, 3, none⟩ = some x3 ∧ w.cell? ⟨bx, 4, none⟩ = some x4 ∧ w.cell? ⟨bx, 5, none⟩ = some x5 ∧ w.cell? ⟨bx, 6, none⟩ = some x6 ∧ w.cell? ⟨by9, oy, none⟩ = some y0 ∧ w.cell? ⟨by9, oy + 1, none⟩ = some y1 ∧ w.cell? ⟨by9, oy + 2, none⟩ = some y2 ∧ w.cell? ⟨by9, oy + 3, none⟩ = some y3 ∧ w.cell? ⟨by9, oy + 4, none⟩ = some y4 ∧ w.cell? ⟨by9, oy + 5, none⟩ = some y5 ∧ w.cell? ⟨by9, oy + 6, none⟩ = some y6) : W.cell? pf = some vf ∧ W.cell? pb = some vb ∧ W.cell? pr = some vr ∧ W.cell? pp = some vp ∧ W.cell? ⟨bx, 0, none⟩ = some x0 ∧ W.cell? ⟨bx, 1, none⟩ = some x1 ∧ W.cell? ⟨bx, 2, none⟩ = some x2 ∧ W.cell? ⟨bx, 3, none⟩ = some x3 ∧ W.cell? ⟨bx, 4, none⟩ = some x4 ∧ W.cell? ⟨bx, 5, none⟩ = some x5 ∧ W.cell? ⟨bx, 6, none⟩ = some x6 ∧ W.cell? ⟨by9, oy, none⟩ = some y0 ∧ W.cell? ⟨by9, oy + 1, none⟩ = some y1 ∧ W.cell? ⟨by9, oy + 2, none⟩ = some y2 ∧ W.cell? ⟨by9, oy + 3, none⟩ = some y3 ∧ W.cell? ⟨by9, oy + 4, none⟩ = some y4 ∧ W.cell? ⟨by9, oy + 5, none⟩ = some y5 ∧ W.cell? ⟨by9, oy + 6, none⟩ = some y6 := by
  obtain ⟨_, _, _, h4, _⟩ := U
  rw [h4 pf nf, h4 pb nb, h4 pr nr, h4 pp np]
  have kx (i : Nat) : W.cell? ⟨bx, i, none⟩ = w.cell? ⟨bx, i, none⟩ := h4 _ nx
  have ky (i : Nat) : W.cell? ⟨by9, i, none⟩ = w.cell? ⟨by9, i, none⟩ := h4 _ ny
  simp only [kx, ky]
  exact h
set_option maxRecDepth 100000 in
set_option maxHeartbeats 8000000 in
theorem entel_any (n : List (List RI)) (x y : RI) (r : List RI) (d rc i j bf bb bp : Nat) (b2 o2 b3 o3 : Nat) (fid : FuncId) (p : Nat) (op : PI → PI → PI) (w : World) (hop : OpE Tryz.prog fid p op) (hx : x.rd w) (vx : x.vl = true) (hy : y.rd w) (vy : y.vl = true) (hT : Tab w)
    (hf : w.cell? ⟨bf, 0, none⟩ = some (.func (.func fid) #[] #[])) (hb : w.cell? ⟨bb, 0, none⟩ = some (.slice (some ⟨b2, o2, none⟩) n.length d)) (hp : w.cell? ⟨bp, 0, none⟩ = some (.int .i64 (p : Int)))
    (hr : w.cell? ⟨b2, o2 + i, none⟩ = some (.slice (some ⟨b3, o3, none⟩) r.length rc)) (hY : w.cell? ⟨b3, o3 + j * 7, none⟩ = some (.bool y.lo.neg) ∧ w.cell? ⟨b3, o3 + j * 7 + 1, none⟩ = some (.slice y.lo.a y.lo.xs.length y.lo.c) ∧ w.cell? ⟨b3, o3 + j * 7 + 2, none⟩ = some (.int .i64 y.lo.e) ∧ w.cell? ⟨b3, o3 + j * 7 + 3, none⟩ = some (.bool y.hi.neg) ∧ w.cell? ⟨b3, o3 + j * 7 + 4, none⟩ = some (.slice y.hi.a y.hi.xs.length y.hi.c) ∧ w.cell? ⟨b3, o3 + j * 7 + 5, none⟩ = some (.int .i64 y.hi.e) ∧ w.cell? ⟨b3, o3 + j * 7 + 6, none⟩ = some (.bool y.all))
    (hi : i < n.length) (hj : j < r.length) :
    Calls Tryz.prog 121 #[.int .i64 (i : Int), .int .i64 (j : Int), .agg #[.bool x.lo.neg, .slice x.lo.a x.lo.xs.length x.lo.c, .int .i64 x.lo.e, .bool x.hi.neg, .slice x.hi.a x.hi.xs.length x.hi.c, .int .i64 x.hi.e, .bool x.all], .pointer (some ⟨bf, 0, none⟩), .pointer (some ⟨bb, 0, none⟩), .pointer (some ⟨bp, 0, none⟩)] w (IvOut w (op x.pl y.pl)) := by
  have hgo : ∀ args w, (callFunc fid args).run Tryz.prog w = .ok (.enter fid args) w := hop.1
  have HOP := Lib.hid hop.2
  have hi1 : (0 : Int) ≤ (i : Int) := by omega
  have hi2 : (i : Int) < (n.length : Int) := by omega
  have hj1 : (0 : Int) ≤ (j : Int) := by omega
  have hj2 : (j : Int) < (r.length : Int) := by omega
  have nf : (⟨bf, 0, none⟩ : Addr).block ≠ w.heap.size + 1 := by have := World.block_lt_of_cell? w _ hf; omega
  have nb : (⟨bb, 0, none⟩ : Addr).block ≠ w.heap.size + 1 := by have := World.block_lt_of_cell? w _ hb; omega
  have nr : (⟨b2, o2 + i, none⟩ : Addr).block ≠ w.heap.size + 1 := by have := World.block_lt_of_cell? w _ hr; omega
  have np : (⟨bp, 0, none⟩ : Addr).block ≠ w.heap.size + 1 := by have := World.block_lt_of_cell? w _ hp; omega
  have ny : b3 ≠ w.heap.size + 1 := by have := World.block_lt_of_cell? w _ hY.1; simp only at this; omega
  have Nn := Lib.hid (And.intro nf (And.intro nb (And.intro nr (And.intro np ny))))
  have h0 := Lib.hid (And.intro hf (And.intro hb (And.intro hr (And.intro hp hY))))
  have HX := Lib.hid (And.intro hx (And.intro vx (And.intro hy (And.intro vy hT))))
  clear hop hf hb hr hp hY hx vx hy vy hT nf nb nr np ny
  go_enter Tryz.func121, Tryz.ntmps121
  go_upto_region 1 with fail
  generalize hW : ((w.alloc _).alloc _) = W at *
  have hk : Kp w W := hW ▸ ((Kp.refl w).alloc _).alloc _
  have hS : W.cell? ⟨w.heap.size, 0, none⟩ = some (.bool x.lo.neg) ∧ W.cell? ⟨w.heap.size, 1, none⟩ = some (.slice x.lo.a x.lo.xs.length x.lo.c) ∧ W.cell? ⟨w.heap.size, 2, none⟩ = some (.int .i64 x.lo.e) ∧ W.cell? ⟨w.heap.size, 3, none⟩ = some (.bool x.hi.neg) ∧ W.cell? ⟨w.heap.size, 4, none⟩ = some (.slice x.hi.a x.hi.xs.length x.hi.c) ∧ W.cell? ⟨w.heap.size, 5, none⟩ = some (.int .i64 x.hi.e) ∧ W.cell? ⟨w.heap.size, 6, none⟩ = some (.bool x.all) := by rw [← hW]; simp
  have hV : Var7 W (w.heap.size + 1) := by rw [← hW]; exact Var7.new1 _ _ _
  clear hW
  have kd := (Kp.refl W).drew
  have hk2 := hk.trans kd
  have HS := Lib.hid (keepE kd (show W.cell? ⟨bf, 0, none⟩ = some (.func (.func fid) #[] #[]) ∧ W.cell? ⟨bb, 0, none⟩ = some (.slice (some ⟨b2, o2, none⟩) n.length d) ∧ W.cell? ⟨b2, o2 + i, none⟩ = some (.slice (some ⟨b3, o3, none⟩) r.length rc) ∧ W.cell? ⟨bp, 0, none⟩ = some (.int .i64 (p : Int)) ∧ W.cell? ⟨w.heap.size, 0, none⟩ = some (.bool x.lo.neg) ∧ W.cell? ⟨w.heap.size, 1, none⟩ = some (.slice x.lo.a x.lo.xs.length x.lo.c) ∧ W.cell? ⟨w.heap.size, 2, none⟩ = some (.int .i64 x.lo.e) ∧ W.cell? ⟨w.heap.size, 3, none⟩ = some (.bool x.hi.neg) ∧ W.cell? ⟨w.heap.size, 4, none⟩ = some (.slice x.hi.a x.hi.xs.length x.hi.c) ∧ W.cell? ⟨w.heap.size, 5, none⟩ = some (.int .i64 x.hi.e) ∧ W.cell? ⟨w.heap.size, 6, none⟩ = some (.bool x.all) ∧ W.cell? ⟨b3, o3 + j * 7, none⟩ = some (.bool y.lo.neg) ∧ W.cell? ⟨b3, o3 + j * 7 + 1, none⟩ = some (.slice y.lo.a y.lo.xs.length y.lo.c) ∧ W.cell? ⟨b3, o3 + j * 7 + 2, none⟩ = some (.int .i64 y.lo.e) ∧ W.cell? ⟨b3, o3 + j * 7 + 3, none⟩ = some (.bool y.hi.neg) ∧ W.cell? ⟨b3, o3 + j * 7 + 4, none⟩ = some (.slice y.hi.a y.hi.xs.length y.hi.c) ∧ W.cell? ⟨b3, o3 + j * 7 + 5, none⟩ = some (.int .i64 y.hi.e) ∧ W.cell? ⟨b3, o3 + j * 7 + 6, none⟩ = some (.bool y.all) by
    obtain ⟨s0, s1, s2, s3, s4, s5, s6⟩ := hS
    exact ⟨hk.cell h0.out.1, hk.cell h0.out.2.1, hk.cell h0.out.2.2.1, hk.cell h0.out.2.2.2.1, s0, s1, s2, s3, s4, s5, s6, keep7 hk h0.out.2.2.2.2⟩))
  have HC := Lib.hid (HOP.out x y W.drew ⟨HX.out.1.kp hk2, HX.out.2.1⟩ ⟨HX.out.2.2.1.kp hk2, HX.out.2.2.2.1⟩ (HX.out.2.2.2.2.kp hk2))
  have HV := Lib.hid (hV.kp kd)
  have HK := Lib.hid hk2
  have hgn : w.heap.size ≠ w.heap.size + 1 := by omega
  clear hS hV kd hk2 hk
  go_region_held3 (fun w' => w'.cell? ⟨bf, 0, none⟩ = some (.func (.func fid) #[] #[]) ∧ w'.cell? ⟨bb, 0, none⟩ = some (.slice (some ⟨b2, o2, none⟩) n.length d) ∧ w'.cell? ⟨b2, o2 + i, none⟩ = some (.slice (some ⟨b3, o3, none⟩) r.length rc) ∧ w'.cell? ⟨bp, 0, none⟩ = some (.int .i64 (p : Int)) ∧ w'.cell? ⟨w.heap.size, 0, none⟩ = some (.bool x.lo.neg) ∧ w'.cell? ⟨w.heap.size, 1, none⟩ = some (.slice x.lo.a x.lo.xs.length x.lo.c) ∧ w'.cell? ⟨w.heap.size, 2, none⟩ = some (.int .i64 x.lo.e) ∧ w'.cell? ⟨w.heap.size, 3, none⟩ = some (.bool x.hi.neg) ∧ w'.cell? ⟨w.heap.size, 4, none⟩ = some (.slice x.hi.a x.hi.xs.length x.hi.c) ∧ w'.cell? ⟨w.heap.size, 5, none⟩ = some (.int .i64 x.hi.e) ∧ w'.cell? ⟨w.heap.size, 6, none⟩ = some (.bool x.all) ∧ w'.cell? ⟨b3, o3 + j * 7, none⟩ = some (.bool y.lo.neg) ∧ w'.cell? ⟨b3, o3 + j * 7 + 1, none⟩ = some (.slice y.lo.a y.lo.xs.length y.lo.c) ∧ w'.cell? ⟨b3, o3 + j * 7 + 2, none⟩ = some (.int .i64 y.lo.e) ∧ w'.cell? ⟨b3, o3 + j * 7 + 3, none⟩ = some (.bool y.hi.neg) ∧ w'.cell? ⟨b3, o3 + j * 7 + 4, none⟩ = some (.slice y.hi.a y.hi.xs.length y.hi.c) ∧ w'.cell? ⟨b3, o3 + j * 7 + 5, none⟩ = some (.int .i64 y.hi.e) ∧ w'.cell? ⟨b3, o3 + j * 7 + 6, none⟩ = some (.bool y.all)) (first | with_reducible exact HS.out | with_reducible assumption | with_reducible exact keepE (by assumption) (by assumption) | exact keepEU HU.out Nn.out.1 Nn.out.2.1 Nn.out.2.2.1 Nn.out.2.2.2.1 hgn Nn.out.2.2.2.2 HS1.out)
    (first
      | ((with_reducible refine HC.out.mono ?_); rintro e v1 ⟨z, rfl, hz, hzp, hzv, j1⟩
         have HZ := Lib.hid (And.intro hz (And.intro hzp hzv))
         have hV1 := HV.out.kp j1
         have HK1 := Lib.hid (HK.out.trans j1)
         have HS1 := Lib.hid (keepE j1 HS.out)
         have HU := Lib.hid (stored7 hV1.1 (fun _ h => by cases h) (fun _ h => by cases h) (fun _ h => by cases h) (fun _ h => by cases h) (fun _ h => by cases h) (fun _ h => by cases h) (fun _ h => by cases h) (.bool z.lo.neg) (.slice z.lo.a z.lo.xs.length z.lo.c) (.int .i64 z.lo.e) (.bool z.hi.neg) (.slice z.hi.a z.hi.xs.length z.hi.c) (.int .i64 z.hi.e) (.bool z.all) rfl).2
         clear hz hzp hzv
         obtain ⟨⟨q0, q1, q2, q3, q4, q5, q6⟩, f0, f1, f2, f3, f4, f5, f6⟩ := id hV1)
      | fail)
  go_wp2_with fail
  generalize hW9 : ((((((v1.setCell _ _).setCell _ _).setCell _ _).setCell _ _).setCell _ _).setCell _ _).setCell _ _ = W9
  obtain ⟨⟨s0, s1, s2, s3, s4, s5, s6⟩, hU⟩ := stored7 (show Box7 v1 _ _ _ _ _ _ _ _ from ⟨q0, q1, q2, q3, q4, q5, q6⟩) (fun _ h => by cases h) (fun _ h => by cases h) (fun _ h => by cases h) (fun _ h => by cases h) (fun _ h => by cases h) (fun _ h => by cases h) (fun _ h => by cases h) _ _ _ _ _ _ _ hW9
  clear hW9 q0 q1 q2 q3 q4 q5 q6 f0 f1 f2 f3 f4 f5 f6
  refine bodyPost_ret (v := .agg #[.bool z.lo.neg, .slice z.lo.a z.lo.xs.length z.lo.c, .int .i64 z.lo.e, .bool z.hi.neg, .slice z.hi.a z.hi.xs.length z.hi.c, .int .i64 z.hi.e, .bool z.all]) (by simp [results, Tryz.results121, go_sem, s0, s1, s2, s3, s4, s5, s6]) rfl ?_
  exact ⟨z, rfl, hU.rdI HZ.out.1, HZ.out.2.1, HZ.out.2.2, hU.2.2.1 _ HK1.out (by omega)⟩
end Go.Proofs.YtdidocdpjiiedaaGreatDoor
end

section
namespace Go.Proofs.YtdidocdpjiiedaaGreatDoor
open Go.RowKit

/-- elements combined, or the error -/
def entC (op : Nat → PI → PI → PI) (m n : List (List RI)) (p : Int) : List (List PI) × Int :=
  if (!vlM m || !vlM n) = true then ([], 1) else if preB p = false then ([], 2) else if m.length ≠ n.length ∨ colsM m ≠ colsM n then ([], 3) else (tabM m.length (colsM m) (fun i j => op p.toNat (atP m i j) (atP n i j)), 0)
set_option maxRecDepth 100000 in
set_option maxHeartbeats 8000000 in
theorem ent_any (a b : Option Addr) (m n : List (List RI)) (c d : Nat) (p : Int) (fid : FuncId) (op : Nat → PI → PI → PI) (w : World) (hm : RowM w a m) (hn : RowM w b n) (hl : m.length ≤ 1100000) (hl2 : n.length ≤ 1100000) (hT : Tab w)
    (hop : ∀ q, 8 ≤ q → q ≤ 512 → OpE Tryz.prog fid q (op q)) :
    Calls Tryz.prog 76 #[.slice a m.length c, .slice b n.length d, .int .i64 p, .func (.func fid) #[] #[]] w (MatE w (entC op m n p).1 (entC op m n p).2) := by
  have hsf := storeF
  have HM := Lib.hid hm
  have HN := Lib.hid hn
  have HT := Lib.hid hT
  have HOP := Lib.hid hop
  obtain ⟨D, hD⟩ : ∃ D, D = entC op m n p := ⟨_, rfl⟩
  have HD := Lib.hid hD
  rw [← hD]
  clear hm hn hT hD hop
  go_enter Tryz.func76, Tryz.ntmps76
  go_wp2_with fail
  generalize hW : (((w.alloc _).alloc _).alloc _) = W at *
  have hk : Kp w W := hW ▸ (((Kp.refl w).alloc _).alloc _).alloc _
  have hbb : W.cell? ⟨w.heap.size, 0, none⟩ = some (.slice b n.length d) := by rw [← hW]; exact ((Kp.refl _).alloc _).cell (by simp)
  have hpb : W.cell? ⟨w.heap.size + 1, 0, none⟩ = some (.int .i64 p) := by rw [← hW]; exact ((Kp.refl _).alloc _).cell (by simp)
  have hfb : W.cell? ⟨w.heap.size + 1 + 1, 0, none⟩ = some (.func (.func fid) #[] #[]) := by
    have := heap_alloc_new ((w.alloc (.cells #[.slice b n.length d] 22)).alloc (.cells #[.int .i64 p] 3)) (.cells #[.func (.func fid) #[] #[]] 97)
    rw [hW] at this
    have e := cell_of_row W _ 0 _ _ _ this
    simpa using e
  clear hW
  go_fit (mvalid_any a m c _ (HM.out.kp hk) hl)
  rintro e w1 ⟨rfl, k1⟩
  have hk1 := hk.trans k1
  have hbb1 := k1.cell hbb
  have HPF := Lib.hid (And.intro (k1.cell hpb) (k1.cell hfb))
  clear hk hbb hpb hfb k1
  cases hvm : vlM m with
  | false =>
    have HE := Lib.hid (show D = ([], 1) by rw [HD.out]; unfold entC; rw [hvm]; rfl)
    clear hvm
    go_wp2_with fail
    rw [HE.out]
    refine bodyPost_ret (v := .tuple #[.slice none 0 0, .int .i64 1]) (by simp [results, Tryz.results76, go_sem]) rfl ?_
    exact matE_nil rfl hk1
  | true =>
    have HVM := Lib.hid hvm
    clear hvm
    go_wp2_with fail
    go_fit (mvalid_any b n d _ (HN.out.kp hk1) hl2)
    rintro e w2 ⟨rfl, k2⟩
    have hk2 := hk1.trans k2
    have hbb2 := k2.cell hbb1
    have hpb2 := k2.cell HPF.out.1
    have HF2 := Lib.hid (k2.cell HPF.out.2)
    clear hk1 hbb1 HPF k2
    cases hvn : vlM n with
    | false =>
      have HE := Lib.hid (show D = ([], 1) by rw [HD.out]; unfold entC; rw [HVM.out, hvn]; rfl)
      clear hvn
      go_wp2_with fail
      rw [HE.out]
      refine bodyPost_ret (v := .tuple #[.slice none 0 0, .int .i64 1]) (by simp [results, Tryz.results76, go_sem]) rfl ?_
      exact matE_nil rfl hk2
    | true =>
      have HVN := Lib.hid hvn
      clear hvn
      go_wp2_with fail
      go_fit (mprecise_any p _)
      rintro e w3 ⟨rfl, rfl⟩
      cases hp : preB p with
      | false =>
        have HE := Lib.hid (show D = ([], 2) by rw [HD.out]; unfold entC; rw [HVM.out, HVN.out, hp]; rfl)
        clear hp
        go_wp2_with fail
        rw [HE.out]
        refine bodyPost_ret (v := .tuple #[.slice none 0 0, .int .i64 2]) (by simp [results, Tryz.results76, go_sem]) rfl ?_
        exact matE_nil rfl hk2
      | true =>
        have HP := Lib.hid hp
        clear hp
        obtain ⟨r0, hr0, hc0⟩ := vlM_row0 HVM.out
        obtain ⟨s0, hs0, hd0⟩ := vlM_row0 HVN.out
        have hml := (vlM_iff.1 HVM.out).1
        have hmc := (vlM_iff.1 HVM.out).2.1
        have hnl := (vlM_iff.1 HVN.out).1
        have hnc := (vlM_iff.1 HVN.out).2.1
        obtain ⟨ba, oa, ra, rc, rfl, hrow, _⟩ := HM.out 0 r0 hr0
        obtain ⟨bb, ob, rb, rd, rfl, hrowb, _⟩ := HN.out 0 s0 hs0
        rw [Nat.add_zero] at hrow hrowb
        have hi1 : (0 : Int) < (m.length : Int) := by omega
        have hi2 : (0 : Int) < (n.length : Int) := by omega
        have HC0 := Lib.hid (And.intro hc0 hd0)
        have kd := (Kp.refl w2).drew
        have hk3 := hk2.trans kd
        have g1 := hk3.cell hrow
        have g2 := hk3.cell hrowb
        have g3 := kd.cell hbb2
        have HB := Lib.hid (And.intro g3 (And.intro (kd.cell hpb2) (kd.cell HF2.out)))
        have hlr : r0.length ≤ 8 := by omega
        have hls : s0.length ≤ 8 := by omega
        have hlm : m.length ≤ 8 := by omega
        have hln : n.length ≤ 8 := by omega
        clear hr0 hs0 hrow hrowb hc0 hd0 kd hbb2 hpb2 HF2 hk2 hml hmc hnl hnc
        go_upto_region 5 with fail
        by_cases hne : m.length = n.length
        · have hne1 : ((m.length : Int) != (n.length : Int)) = false := by rw [hne]; simp
          by_cases hnc : r0.length = s0.length
          · have hnc1 : ((r0.length : Int) != (s0.length : Int)) = false := by rw [hnc]; simp
            go_region
            generalize w2.drew = W0 at *
            clear g1 g2 g3
            obtain ⟨q, hq⟩ : ∃ q : Nat, q = p.toNat := ⟨_, rfl⟩
            have hpq : p = (q : Int) := by have := preB_iff.1 HP.out; omega
            have hq0 : 8 ≤ q := by have := preB_iff.1 HP.out; omega
            have hq1 : q ≤ 512 := by have := preB_iff.1 HP.out; omega
            have HDm := Lib.hid (show D = (tabM m.length (colsM m) (fun i j => op q (atP m i j) (atP n i j)), 0) by
              rw [HD.out]; unfold entC
              rw [HVM.out, HVN.out, HP.out, if_neg (by decide), if_neg (by decide), if_neg (by have := HC0.out; omega), hq])
            have HG := Lib.hid (show FunE Tryz.prog 121 #[.pointer (some ⟨w.heap.size + 1 + 1, 0, none⟩), .pointer (some ⟨w.heap.size, 0, none⟩), .pointer (some ⟨w.heap.size + 1, 0, none⟩)] W0 m (fun i j => op q (atP m i j) (atP n i j)) from by
              refine ⟨fun _ _ => by kernel_rfl, fun i j r x hr hx w1 k hxr => ?_⟩
              have hir := (List.getElem?_eq_some_iff.1 hr).1
              have hjr := (List.getElem?_eq_some_iff.1 hx).1
              have hjc : j < colsM n := by have := (vlM_row HVM.out hr).1; have := HC0.out; omega
              obtain ⟨s, y, hs, hy, hyv, hat⟩ := vlM_get HVN.out (show i < n.length by omega) hjc
              have kk := hk3.trans k
              obtain ⟨b2, o2, ra2, rc2, e2, hrc, hrow2, _⟩ := (HN.out.kp kk) i s hs
              cases e2
              obtain ⟨b3, o3, e3, hyr, hY⟩ := hrow2 j y hy
              subst e3
              have := entel_any n x y s d rc2 i j (w.heap.size + 1 + 1) w.heap.size (w.heap.size + 1) bb ob b3 o3 fid q (op q) w1 (HOP.out q hq0 hq1) hxr ((vlM_row HVM.out hr).2 x (List.mem_of_getElem? hx)) hyr hyv (HT.out.kp kk)
                (k.cell HB.out.2.2) (k.cell HB.out.1) (by rw [← hpq]; exact k.cell HB.out.2.1) hrc hY (by omega) (List.getElem?_eq_some_iff.1 hy).1
              have e9 : op q (atP m i j) (atP n i j) = op q x.pl y.pl := by rw [atP_eq hr hx, show atP n i j = y.pl by unfold atP; rw [hat]]
              rw [← e9] at this
              exact this)
            have HE := Lib.hid (each_any (some ⟨ba, oa, none⟩) m c 121 _ _ W0 (HM.out.kp hk3) HVM.out HG.out)
            clear hpq hq hne hnc
            go_wp2_with fail
            go_fit HE.out
            rintro e w4 ⟨aZ, Z, cZ, rfl, hZ, hp, ho, hz, k4⟩
            have hk4 := hk3.trans k4
            go_wp2_with fail
            rw [HDm.out]
            refine bodyPost_ret (v := .tuple #[.slice aZ Z.length cZ, .int .i64 0]) (by simp [results, Tryz.results76, go_sem]) rfl ?_
            exact ⟨aZ, Z, cZ, rfl, hZ, hp, ho, hz, hk4⟩
          · have hnc1 : ((r0.length : Int) != (s0.length : Int)) = true := by simpa using (by omega : ¬ (r0.length : Int) = (s0.length : Int))
            have HE := Lib.hid (show D = ([], 3) by
              rw [HD.out]; unfold entC
              rw [HVM.out, HVN.out, HP.out, if_neg (by decide), if_neg (by decide), if_pos (by have := HC0.out; omega)])
            clear hne hnc
            go_region
            generalize w2.drew = W0 at *
            go_wp2_with fail
            rw [HE.out]
            refine bodyPost_ret (v := .tuple #[.slice none 0 0, .int .i64 3]) (by simp [results, Tryz.results76, go_sem]) rfl ?_
            exact matE_nil rfl hk3
        · have hne1 : ((m.length : Int) != (n.length : Int)) = true := by simpa using (by omega : ¬ (m.length : Int) = (n.length : Int))
          have HE := Lib.hid (show D = ([], 3) by
            rw [HD.out]; unfold entC
            rw [HVM.out, HVN.out, HP.out, if_neg (by decide), if_neg (by decide), if_pos (.inl hne)])
          clear hne
          go_region
          generalize w2.drew = W0 at *
          go_wp2_with fail
          rw [HE.out]
          refine bodyPost_ret (v := .tuple #[.slice none 0 0, .int .i64 3]) (by simp [results, Tryz.results76, go_sem]) rfl ?_
          exact matE_nil rfl hk3
theorem opAdd (q : Nat) (h0 : 8 ≤ q) (h1 : q ≤ 512) : OpE Tryz.prog 77 q (fun X Y => pAdd X Y q) := ⟨fun _ _ => by kernel_rfl, fun x y W hx hy hT => IAdd_rd x y q W hx hy h0 h1 hT⟩
theorem opSub (q : Nat) (h0 : 8 ≤ q) (h1 : q ≤ 512) : OpE Tryz.prog 80 q (fun X Y => pSub X Y q) := ⟨fun _ _ => by kernel_rfl, fun x y W hx hy hT => ISub_any x y q W hx.1 hy.1 hx.2 hy.2 h0 h1 hT⟩
theorem madd_any (a b : Option Addr) (m n : List (List RI)) (c d : Nat) (p : Int) (w : World) (hm : RowM w a m) (hn : RowM w b n) (hl : m.length ≤ 1100000) (hl2 : n.length ≤ 1100000) (hT : Tab w) :
    Calls Tryz.prog 26 #[.slice a m.length c, .slice b n.length d, .int .i64 p] w (MatE w (entC (fun q X Y => pAdd X Y q) m n p).1 (entC (fun q X Y => pAdd X Y q) m n p).2) := by
  have H := Lib.hid (ent_any a b m n c d p _ _ w hm hn hl hl2 hT opAdd)
  generalize entC (fun q X Y => pAdd X Y q) m n p = D at *
  clear hm hn hT
  go_enter Tryz.func26, Tryz.ntmps26
  go_wp2_with fail
  go_fit H.out
  rintro e w4 ⟨aZ, Z, cZ, rfl, hZ, hp, ho, hz, k4⟩
  go_wp2_with fail
  refine bodyPost_ret (v := .tuple #[.slice aZ Z.length cZ, .int .i64 D.2]) (by simp [results, Tryz.results26, go_sem]) rfl ?_
  exact ⟨aZ, Z, cZ, rfl, hZ, hp, ho, hz, k4⟩
theorem msub_any (a b : Option Addr) (m n : List (List RI)) (c d : Nat) (p : Int) (w : World) (hm : RowM w a m) (hn : RowM w b n) (hl : m.length ≤ 1100000) (hl2 : n.length ≤ 1100000) (hT : Tab w) :
    Calls Tryz.prog 28 #[.slice a m.length c, .slice b n.length d, .int .i64 p] w (MatE w (entC (fun q X Y => pSub X Y q) m n p).1 (entC (fun q X Y => pSub X Y q) m n p).2) := by
  have H := Lib.hid (ent_any a b m n c d p _ _ w hm hn hl hl2 hT opSub)
  generalize entC (fun q X Y => pSub X Y q) m n p = D at *
  clear hm hn hT
  go_enter Tryz.func28, Tryz.ntmps28
  go_wp2_with fail
  go_fit H.out
  rintro e w4 ⟨aZ, Z, cZ, rfl, hZ, hp, ho, hz, k4⟩
  go_wp2_with fail
  refine bodyPost_ret (v := .tuple #[.slice aZ Z.length cZ, .int .i64 D.2]) (by simp [results, Tryz.results28, go_sem]) rfl ?_
  exact ⟨aZ, Z, cZ, rfl, hZ, hp, ho, hz, k4⟩
end Go.Proofs.YtdidocdpjiiedaaGreatDoor
end
