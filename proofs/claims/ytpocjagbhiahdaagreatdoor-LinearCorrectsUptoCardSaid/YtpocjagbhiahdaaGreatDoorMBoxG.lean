/-
  Walks: slices.Clone of intervals; box.precise, Split.
-/
import Derived.Test.YtpocjagbhiahdaaGreatDoorMRoA
import Derived.Test.YtpocjagbhiahdaaGreatDoorMSumH
import Derived.Test.YtpocjagbhiahdaaGreatDoorMArdN
import Derived.Deep.DeepFit
import Derived.Test.YtpocjagbhiahdaaGreatDoorMOwnX
import Derived.Test.YtpocjagbhiahdaaGreatDoorMRoAdd
import Derived.Test.YtpocjagbhiahdaaGreatDoorMIdxI
import Derived.Test.YtpocjagbhiahdaaGreatDoorMTabP
namespace Go.Proofs.YtpocjagbhiahdaaGreatDoor
open Go.RowKit
theorem OwnI.empty {wb w : World} (k : Kp wb w) : OwnI wb (w.alloc (.cells #[] 44)) (.slice (some ⟨w.heap.size, 0, none⟩) 0 0) [] :=
  ⟨⟨fun _ h => by simp at h, k.alloc _⟩, World.ownsRow_made w #[] 0 k.size (Nat.zero_le _) rfl⟩
theorem OwnI.block {wb w : World} {g n c : Nat} {zs : List RI} (h : OwnI wb w (.slice (some ⟨g, 0, none⟩) n c) zs) : wb.heap.size ≤ g ∧ g < w.heap.size ∧ (∀ i, w.frozen? ⟨g, i, none⟩ = false) := by
  obtain ⟨h1, h2, h3⟩ := h
  rcases h3 with ⟨h4, _⟩ | ⟨g', cap, cur, h4, hb, hg, hn, hc, hs, ht⟩
  · cases h4
  cases h4
  exact ⟨hb, (Array.getElem?_eq_some_iff.1 hg).1, fun i => frozen_of_row w g _ _ _ hg⟩

theorem eqR_of {w w' : World} {x y : RD} (hx : x.rd w) (hy : y.rd w') (vx : x.vl = true) (vy : y.vl = true) (h : x.dy = y.dy) : eqR x y = true := by
  unfold eqR
  have h1 : x.neg = y.neg := congrArg Dy.neg h
  have h2 : x.e = y.e := congrArg Dy.e h
  have h3 : x.xs = y.xs := by rw [← RD.limbs hx vx, ← RD.limbs hy vy, h]
  simp [h1, h2, h3]
def eqI8 (x y : RI) : Bool := (x.all == y.all) && (eqR x.lo y.lo && eqR x.hi y.hi)
theorem eqI8_pl {w w' : World} {x y : RI} (hx : x.rd w) (hy : y.rd w') (vx : x.vl = true) (vy : y.vl = true) (h : x.pl = y.pl) : eqI8 x y = true := by
  have ha := pl_all h
  unfold eqI8
  cases hxa : x.all with
  | false =>
    have hya : y.all = false := by rw [← ha]; exact hxa
    have ox : x.ok w := ⟨hx, hxa, vx⟩
    have oy : y.ok w' := ⟨hy, hya, vy⟩
    rw [hya, eqR_of ox.lo.1 oy.lo.1 ox.lo.2 oy.lo.2 (pl_lo h), eqR_of ox.hi.1 oy.hi.1 ox.hi.2 oy.hi.2 (pl_hi h)]
    rfl
  | true =>
  have hya : y.all = true := by rw [← ha]; exact hxa
  unfold RI.vl at vx vy
  rw [hxa, if_pos rfl, Bool.and_eq_true] at vx
  rw [hya, if_pos rfl, Bool.and_eq_true] at vy
  obtain ⟨a1, a2, a3⟩ := RD.zr_parts.1 vx.1
  obtain ⟨b1, b2, b3⟩ := RD.zr_parts.1 vx.2
  obtain ⟨c1, c2, c3⟩ := RD.zr_parts.1 vy.1
  obtain ⟨d1, d2, d3⟩ := RD.zr_parts.1 vy.2
  rw [hya]
  unfold eqR
  rw [a1, a2, a3, b1, b2, b3, c1, c2, c3, d1, d2, d3]
  rfl
set_option maxRecDepth 100000 in
set_option maxHeartbeats 4000000 in
theorem r5equal_any (x y : RI) (w : World) (hx : x.rd w) (hy : y.rd w) :
    Calls Tryz.prog 15 #[.agg #[.bool x.lo.neg, .slice x.lo.a x.lo.xs.length x.lo.c, .int .i64 x.lo.e, .bool x.hi.neg, .slice x.hi.a x.hi.xs.length x.hi.c, .int .i64 x.hi.e, .bool x.all], .agg #[.bool y.lo.neg, .slice y.lo.a y.lo.xs.length y.lo.c, .int .i64 y.lo.e, .bool y.hi.neg, .slice y.hi.a y.hi.xs.length y.hi.c, .int .i64 y.hi.e, .bool y.all]] w fun e w' => e = .returned (.bool (eqI8 x y)) ∧ Kp w w' := by
  have H := Lib.hid (show eqI8 x y = ((x.all == y.all) && (eqR x.lo y.lo && eqR x.hi y.hi)) from rfl)
  by_cases hn : x.all = y.all
  rotate_left
  · have hn1 : (x.all == y.all) = false := by cases h1 : x.all <;> cases h2 : y.all <;> simp_all
    rw [hn1] at H
    clear hn
    go_enter Tryz.func15, Tryz.ntmps15
    go_wp2_with fail
    go_ret
    exact ⟨ret_bool (by rw [H.out]; simp), ((Kp.refl w).alloc _).alloc _⟩
  have hn1 : (x.all == y.all) = true := by rw [hn]; cases y.all <;> rfl
  have Hn := Lib.hid hn1
  clear hn
  go_enter Tryz.func15, Tryz.ntmps15
  go_wp2_with fail
  generalize hW : ((w.alloc _).alloc _) = W at *
  have hk : Kp w W := hW ▸ ((Kp.refl w).alloc _).alloc _
  have hS : (W.cell? ⟨w.heap.size, 0, none⟩ = some (.bool x.lo.neg) ∧ W.cell? ⟨w.heap.size, 1, none⟩ = some (.slice x.lo.a x.lo.xs.length x.lo.c) ∧ W.cell? ⟨w.heap.size, 2, none⟩ = some (.int .i64 x.lo.e) ∧ W.cell? ⟨w.heap.size, 3, none⟩ = some (.bool x.hi.neg) ∧ W.cell? ⟨w.heap.size, 4, none⟩ = some (.slice x.hi.a x.hi.xs.length x.hi.c) ∧ W.cell? ⟨w.heap.size, 5, none⟩ = some (.int .i64 x.hi.e) ∧ W.cell? ⟨w.heap.size, 6, none⟩ = some (.bool x.all)) ∧ W.cell? ⟨w.heap.size + 1, 0, none⟩ = some (.bool y.lo.neg) ∧ W.cell? ⟨w.heap.size + 1, 1, none⟩ = some (.slice y.lo.a y.lo.xs.length y.lo.c) ∧ W.cell? ⟨w.heap.size + 1, 2, none⟩ = some (.int .i64 y.lo.e) ∧ W.cell? ⟨w.heap.size + 1, 3, none⟩ = some (.bool y.hi.neg) ∧ W.cell? ⟨w.heap.size + 1, 4, none⟩ = some (.slice y.hi.a y.hi.xs.length y.hi.c) ∧ W.cell? ⟨w.heap.size + 1, 5, none⟩ = some (.int .i64 y.hi.e) ∧ W.cell? ⟨w.heap.size + 1, 6, none⟩ = some (.bool y.all) := by rw [← hW]; exact keep77 (Kp.refl _) (by simp)
  clear hW
  go_fit (r2Equal_any x.lo y.lo _ (hx.1.kp hk) (hy.1.kp hk))
  rintro e w1 ⟨rfl, hk1⟩
  cases hl : eqR x.lo y.lo with
  | false =>
    rw [hl] at H
    clear hl
    go_wp2_with fail
    go_ret
    exact ⟨ret_bool (by rw [H.out]; simp), hk.trans hk1⟩
  | true =>
  rw [hl] at H
  clear hl
  obtain ⟨⟨s0, s1, s2, s3, s4, s5, s6⟩, t0, t1, t2, t3, t4, t5, t6⟩ := keep77 hk1 hS
  clear hS
  go_wp2_with fail
  have hk2 := hk.trans hk1
  go_fit (r2Equal_any x.hi y.hi _ (hx.2.kp hk2) (hy.2.kp hk2))
  rintro e w2 ⟨rfl, hk3⟩
  go_wp2_with fail
  go_ret
  exact ⟨ret_bool (by rw [H.out, Hn.out]; simp), hk2.trans hk3⟩
set_option maxHeartbeats 1000000 in
theorem eqrow8_any (zs ys : List RI) (a b : Option Addr) (c d : Nat) (w : World) (hz : RowI w a zs) (hy : RowI w b ys) (hl : zs.length ≤ 1100000) :
    Calls Tryz.prog 14 #[.slice a zs.length c, .slice b ys.length d, .func (.func 15) #[] #[]] w fun e w' => e = .returned (.bool (allII eqI8 zs ys)) ∧ Kp w w' := by
  have hp : AnsII Tryz.prog 15 #[] w zs ys eqI8 :=
    ⟨fun _ _ => by kernel_rfl, fun x hx y hy' w1 k => r5equal_any x y w1 ((hz.rdI hx).kp k) ((hy.rdI hy').kp k)⟩
  exact eqfII a b zs ys c d _ _ w eqI8 hl hz hy hp
set_option maxHeartbeats 1000000 in
theorem eq8row_any (zs ys : List RI) (a b : Option Addr) (c d : Nat) (w : World) (hz : RowI w a zs) (hy : RowI w b ys) (hl : zs.length ≤ 1100000) :
    Calls Tryz.prog 49 #[.slice a zs.length c, .slice b ys.length d] w fun e w' => e = .returned (.bool (allII eqI8 zs ys)) ∧ Kp w w' := by
  have HC := Lib.hid (eqrow8_any zs ys a b c d w hz hy hl)
  clear hz hy
  go_enter Tryz.func49, Tryz.ntmps49
  go_wp2_with fail
  go_fit HC.out
  rintro e w1 ⟨rfl, k1⟩
  go_wp2_with fail
  go_ret
  exact ⟨rfl, k1⟩
def eqM8 (m n : List (List RI)) : Bool := allRR (allII eqI8) m n
set_option maxHeartbeats 1000000 in
theorem equal8_any (m n : List (List RI)) (a b : Option Addr) (c d : Nat) (w : World) (hm : RowM w a m) (hn : RowM w b n) (hl : m.length ≤ 1100000) :
    Calls Tryz.prog 10 #[.slice a m.length c, .slice b n.length d] w fun e w' => e = .returned (.bool (eqM8 m n)) ∧ Kp w w' := by
  have hp : AnsRR Tryz.prog 49 #[] w m n (allII eqI8) :=
    ⟨fun _ _ => by kernel_rfl, fun x hx y hy a1 c1 a2 c2 w1 k h1 h2 => eq8row_any x y a1 a2 c1 c2 w1 h1.1 h2.1 h1.2⟩
  have HC := Lib.hid (eqfRR a b m n c d _ _ w (allII eqI8) hl hm hn hp)
  clear hp hm hn
  go_enter Tryz.func10, Tryz.ntmps10
  go_wp2_with fail
  go_fit HC.out
  rintro e w1 ⟨rfl, k1⟩
  go_wp2_with fail
  go_ret
  exact ⟨rfl, k1⟩
theorem eqR8_pl {w w' : World} {a b : Option Addr} {x y : List RI} (rx : RowI w a x) (ry : RowI w' b y) (ox : ∀ z ∈ x, z.vl = true) (oy : ∀ z ∈ y, z.vl = true) (hr : plR x = plR y) : allII eqI8 x y = true := by
  have hl2 : x.length = y.length := by have := congrArg List.length hr; simpa [plR] using this
  refine allII_true.2 ⟨hl2, fun j u v hu hv => ?_⟩
  have hp : u.pl = v.pl := by
    have h1 : (plR x)[j]? = (plR y)[j]? := by rw [hr]
    simpa [plR, hu, hv] using h1
  exact eqI8_pl (rx.rdI (List.mem_of_getElem? hu)) (ry.rdI (List.mem_of_getElem? hv)) (ox u (List.mem_of_getElem? hu)) (oy v (List.mem_of_getElem? hv)) hp
theorem eqM8_pl {w w' : World} {a b : Option Addr} {m n : List (List RI)} (hm : RowM w a m) (hn : RowM w' b n) (om : okM m) (on : okM n) (h : plM m = plM n) : eqM8 m n = true := by
  have hl : m.length = n.length := by have := congrArg List.length h; simpa [plM] using this
  refine allRR_true.2 ⟨hl, fun i x y hx hy => ?_⟩
  obtain ⟨_, _, _, _, _, _, rx, _⟩ := hm i x hx
  obtain ⟨_, _, _, _, _, _, ry, _⟩ := hn i y hy
  have hr : plR x = plR y := by
    have h1 : (plM m)[i]? = (plM n)[i]? := by rw [h]
    simpa [plM, hx, hy] using h1
  exact eqR8_pl rx ry (om x (List.mem_of_getElem? hx)) (on y (List.mem_of_getElem? hy)) hr
end Go.Proofs.YtpocjagbhiahdaaGreatDoor
