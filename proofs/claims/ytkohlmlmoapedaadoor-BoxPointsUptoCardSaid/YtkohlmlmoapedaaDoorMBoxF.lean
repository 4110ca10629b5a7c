/-
  Walks: box.Meet.
-/
import Derived.Test.YtkohlmlmoapedaaDoorMBoxD
namespace Go.Proofs.YtkohlmlmoapedaaDoor
open Go.RowKit

theorem IMeet_yes (x y : RI) (w : World) (hx : x.ok w) (hy : y.ok w) (hm : meets x y = true) :
    Calls Tryd.prog 29 #[.agg #[.bool x.lo.neg, .slice x.lo.a x.lo.xs.length x.lo.c, .int .i64 x.lo.e, .bool x.hi.neg, .slice x.hi.a x.hi.xs.length x.hi.c, .int .i64 x.hi.e, .bool false], .agg #[.bool y.lo.neg, .slice y.lo.a y.lo.xs.length y.lo.c, .int .i64 y.lo.e, .bool y.hi.neg, .slice y.hi.a y.hi.xs.length y.hi.c, .int .i64 y.hi.e, .bool false]] w fun e w' => e = .returned (.tuple #[.agg #[.bool (meetI x y).lo.neg, .slice (meetI x y).lo.a (meetI x y).lo.xs.length (meetI x y).lo.c, .int .i64 (meetI x y).lo.e, .bool (meetI x y).hi.neg, .slice (meetI x y).hi.a (meetI x y).hi.xs.length (meetI x y).hi.c, .int .i64 (meetI x y).hi.e, .bool (meetI x y).all], .bool true]) ∧ Kp w w' := by
  refine (IMeet_ok x y w hx hy).mono fun e w' h => ⟨?_, h.2⟩
  rw [h.1, hm]; rfl
theorem IMeet_no (x y : RI) (w : World) (hx : x.ok w) (hy : y.ok w) (hm : meets x y = false) :
    Calls Tryd.prog 29 #[.agg #[.bool x.lo.neg, .slice x.lo.a x.lo.xs.length x.lo.c, .int .i64 x.lo.e, .bool x.hi.neg, .slice x.hi.a x.hi.xs.length x.hi.c, .int .i64 x.hi.e, .bool false], .agg #[.bool y.lo.neg, .slice y.lo.a y.lo.xs.length y.lo.c, .int .i64 y.lo.e, .bool y.hi.neg, .slice y.hi.a y.hi.xs.length y.hi.c, .int .i64 y.hi.e, .bool false]] w fun e w' => e = .returned (.tuple #[.agg #[.bool false, .slice none 0 0, .int .i64 0, .bool false, .slice none 0 0, .int .i64 0, .bool false], .bool false]) ∧ Kp w w' := by
  refine (IMeet_ok x y w hx hy).mono fun e w' h => ⟨?_, h.2⟩
  rw [h.1, hm]; rfl
theorem meetI_rd {w : World} {x y : RI} (hx : x.rd w) (hy : y.rd w) : (meetI x y).rd w := by
  refine ⟨?_, ?_⟩
  · show (moreR x.lo y.lo).rd w
    unfold moreR; split
    · exact hx.1
    · exact hy.1
  · show (lessR x.hi y.hi).rd w
    unfold lessR; split
    · exact hx.2
    · exact hy.2
theorem set77x {w : World} {g b1 b2 : Nat} (n1 : b1 ≠ g) (n2 : b2 ≠ g) {p0 p1 p2 p3 p4 p5 p6 q0 q1 q2 q3 q4 q5 q6 : Nat} {v0 v1 v2 v3 v4 v5 v6 u0 u1 u2 u3 u4 u5 u6 x0 x1 x2 x3 x4 x5 x6 : Value}
    (h : (w.cell? ⟨b1, p0, none⟩ = some v0 ∧ w.cell? ⟨b1, p1, none⟩ = some v1 ∧ w.cell? ⟨b1, p2, none⟩ = some v2 ∧ w.cell? ⟨b1, p3, none⟩ = some v3 ∧ w.cell? ⟨b1, p4, none⟩ = some v4 ∧ w.cell? ⟨b1, p5, none⟩ = some v5 ∧ w.cell? ⟨b1, p6, none⟩ = some v6) ∧ w.cell? ⟨b2, q0, none⟩ = some u0 ∧ w.cell? ⟨b2, q1, none⟩ = some u1 ∧ w.cell? ⟨b2, q2, none⟩ = some u2 ∧ w.cell? ⟨b2, q3, none⟩ = some u3 ∧ w.cell? ⟨b2, q4, none⟩ = some u4 ∧ w.cell? ⟨b2, q5, none⟩ = some u5 ∧ w.cell? ⟨b2, q6, none⟩ = some u6) :
    ((((((((w.setCell ⟨g, 0, none⟩ x0).setCell ⟨g, 1, none⟩ x1).setCell ⟨g, 2, none⟩ x2).setCell ⟨g, 3, none⟩ x3).setCell ⟨g, 4, none⟩ x4).setCell ⟨g, 5, none⟩ x5).setCell ⟨g, 6, none⟩ x6).cell? ⟨b1, p0, none⟩ = some v0 ∧ (((((((w.setCell ⟨g, 0, none⟩ x0).setCell ⟨g, 1, none⟩ x1).setCell ⟨g, 2, none⟩ x2).setCell ⟨g, 3, none⟩ x3).setCell ⟨g, 4, none⟩ x4).setCell ⟨g, 5, none⟩ x5).setCell ⟨g, 6, none⟩ x6).cell? ⟨b1, p1, none⟩ = some v1 ∧ (((((((w.setCell ⟨g, 0, none⟩ x0).setCell ⟨g, 1, none⟩ x1).setCell ⟨g, 2, none⟩ x2).setCell ⟨g, 3, none⟩ x3).setCell ⟨g, 4, none⟩ x4).setCell ⟨g, 5, none⟩ x5).setCell ⟨g, 6, none⟩ x6).cell? ⟨b1, p2, none⟩ = some v2 ∧ (((((((w.setCell ⟨g, 0, none⟩ x0).setCell ⟨g, 1, none⟩ x1).setCell ⟨g, 2, none⟩ x2).setCell ⟨g, 3, none⟩ x3).setCell ⟨g, 4, none⟩ x4).setCell ⟨g, 5, none⟩ x5).setCell ⟨g, 6, none⟩ x6).cell? ⟨b1, p3, none⟩ = some v3 ∧ (((((((w.setCell ⟨g, 0, none⟩ x0).setCell ⟨g, 1, none⟩ x1).setCell ⟨g, 2, none⟩ x2).setCell ⟨g, 3, none⟩ x3).setCell ⟨g, 4, none⟩ x4).setCell ⟨g, 5, none⟩ x5).setCell ⟨g, 6, none⟩ x6).cell? ⟨b1, p4, none⟩ = some v4 ∧ (((((((w.setCell ⟨g, 0, none⟩ x0).setCell ⟨g, 1, none⟩ x1).setCell ⟨g, 2, none⟩ x2).setCell ⟨g, 3, none⟩ x3).setCell ⟨g, 4, none⟩ x4).setCell ⟨g, 5, none⟩ x5).setCell ⟨g, 6, none⟩ x6).cell? ⟨b1, p5, none⟩ = some v5 ∧ (((((((w.setCell ⟨g, 0, none⟩ x0).setCell ⟨g, 1, none⟩ x1).setCell ⟨g, 2, none⟩ x2).setCell ⟨g, 3, none⟩ x3).setCell ⟨g, 4, none⟩ x4).setCell ⟨g, 5, none⟩ x5).setCell ⟨g, 6, none⟩ x6).cell? ⟨b1, p6, none⟩ = some v6) ∧ (((((((w.setCell ⟨g, 0, none⟩ x0).setCell ⟨g, 1, none⟩ x1).setCell ⟨g, 2, none⟩ x2).setCell ⟨g, 3, none⟩ x3).setCell ⟨g, 4, none⟩ x4).setCell ⟨g, 5, none⟩ x5).setCell ⟨g, 6, none⟩ x6).cell? ⟨b2, q0, none⟩ = some u0 ∧ (((((((w.setCell ⟨g, 0, none⟩ x0).setCell ⟨g, 1, none⟩ x1).setCell ⟨g, 2, none⟩ x2).setCell ⟨g, 3, none⟩ x3).setCell ⟨g, 4, none⟩ x4).setCell ⟨g, 5, none⟩ x5).setCell ⟨g, 6, none⟩ x6).cell? ⟨b2, q1, none⟩ = some u1 ∧ (((((((w.setCell ⟨g, 0, none⟩ x0).setCell ⟨g, 1, none⟩ x1).setCell ⟨g, 2, none⟩ x2).setCell ⟨g, 3, none⟩ x3).setCell ⟨g, 4, none⟩ x4).setCell ⟨g, 5, none⟩ x5).setCell ⟨g, 6, none⟩ x6).cell? ⟨b2, q2, none⟩ = some u2 ∧ (((((((w.setCell ⟨g, 0, none⟩ x0).setCell ⟨g, 1, none⟩ x1).setCell ⟨g, 2, none⟩ x2).setCell ⟨g, 3, none⟩ x3).setCell ⟨g, 4, none⟩ x4).setCell ⟨g, 5, none⟩ x5).setCell ⟨g, 6, none⟩ x6).cell? ⟨b2, q3, none⟩ = some u3 ∧ (((((((w.setCell ⟨g, 0, none⟩ x0).setCell ⟨g, 1, none⟩ x1).setCell ⟨g, 2, none⟩ x2).setCell ⟨g, 3, none⟩ x3).setCell ⟨g, 4, none⟩ x4).setCell ⟨g, 5, none⟩ x5).setCell ⟨g, 6, none⟩ x6).cell? ⟨b2, q4, none⟩ = some u4 ∧ (((((((w.setCell ⟨g, 0, none⟩ x0).setCell ⟨g, 1, none⟩ x1).setCell ⟨g, 2, none⟩ x2).setCell ⟨g, 3, none⟩ x3).setCell ⟨g, 4, none⟩ x4).setCell ⟨g, 5, none⟩ x5).setCell ⟨g, 6, none⟩ x6).cell? ⟨b2, q5, none⟩ = some u5 ∧ (((((((w.setCell ⟨g, 0, none⟩ x0).setCell ⟨g, 1, none⟩ x1).setCell ⟨g, 2, none⟩ x2).setCell ⟨g, 3, none⟩ x3).setCell ⟨g, 4, none⟩ x4).setCell ⟨g, 5, none⟩ x5).setCell ⟨g, 6, none⟩ x6).cell? ⟨b2, q6, none⟩ = some u6 := by
  have ne (a i j : Nat) (n : a ≠ g) : (⟨g, i, none⟩ : Addr) ≠ ⟨a, j, none⟩ := fun e => n (by injection e with e1; exact e1.symm)
  have key (a j : Nat) (n : a ≠ g) : (((((((w.setCell ⟨g, 0, none⟩ x0).setCell ⟨g, 1, none⟩ x1).setCell ⟨g, 2, none⟩ x2).setCell ⟨g, 3, none⟩ x3).setCell ⟨g, 4, none⟩ x4).setCell ⟨g, 5, none⟩ x5).setCell ⟨g, 6, none⟩ x6).cell? ⟨a, j, none⟩ = w.cell? ⟨a, j, none⟩ := by
    rw [cell_set_ne (ne a 6 j n), cell_set_ne (ne a 5 j n), cell_set_ne (ne a 4 j n), cell_set_ne (ne a 3 j n), cell_set_ne (ne a 2 j n), cell_set_ne (ne a 1 j n), cell_set_ne (ne a 0 j n)]
  simp only [key _ _ n1, key _ _ n2]
  exact h
theorem set77ax {w : World} {o1 o2 : Obj} {b1 b2 : Nat} (n1 : b1 < w.heap.size) (n2 : b2 < w.heap.size) {p0 p1 p2 p3 p4 p5 p6 q0 q1 q2 q3 q4 q5 q6 : Nat} {v0 v1 v2 v3 v4 v5 v6 u0 u1 u2 u3 u4 u5 u6 : Value}
    (h : ((w.alloc o1).cell? ⟨b1, p0, none⟩ = some v0 ∧ (w.alloc o1).cell? ⟨b1, p1, none⟩ = some v1 ∧ (w.alloc o1).cell? ⟨b1, p2, none⟩ = some v2 ∧ (w.alloc o1).cell? ⟨b1, p3, none⟩ = some v3 ∧ (w.alloc o1).cell? ⟨b1, p4, none⟩ = some v4 ∧ (w.alloc o1).cell? ⟨b1, p5, none⟩ = some v5 ∧ (w.alloc o1).cell? ⟨b1, p6, none⟩ = some v6) ∧ (w.alloc o1).cell? ⟨b2, q0, none⟩ = some u0 ∧ (w.alloc o1).cell? ⟨b2, q1, none⟩ = some u1 ∧ (w.alloc o1).cell? ⟨b2, q2, none⟩ = some u2 ∧ (w.alloc o1).cell? ⟨b2, q3, none⟩ = some u3 ∧ (w.alloc o1).cell? ⟨b2, q4, none⟩ = some u4 ∧ (w.alloc o1).cell? ⟨b2, q5, none⟩ = some u5 ∧ (w.alloc o1).cell? ⟨b2, q6, none⟩ = some u6) : ((w.alloc o2).cell? ⟨b1, p0, none⟩ = some v0 ∧ (w.alloc o2).cell? ⟨b1, p1, none⟩ = some v1 ∧ (w.alloc o2).cell? ⟨b1, p2, none⟩ = some v2 ∧ (w.alloc o2).cell? ⟨b1, p3, none⟩ = some v3 ∧ (w.alloc o2).cell? ⟨b1, p4, none⟩ = some v4 ∧ (w.alloc o2).cell? ⟨b1, p5, none⟩ = some v5 ∧ (w.alloc o2).cell? ⟨b1, p6, none⟩ = some v6) ∧ (w.alloc o2).cell? ⟨b2, q0, none⟩ = some u0 ∧ (w.alloc o2).cell? ⟨b2, q1, none⟩ = some u1 ∧ (w.alloc o2).cell? ⟨b2, q2, none⟩ = some u2 ∧ (w.alloc o2).cell? ⟨b2, q3, none⟩ = some u3 ∧ (w.alloc o2).cell? ⟨b2, q4, none⟩ = some u4 ∧ (w.alloc o2).cell? ⟨b2, q5, none⟩ = some u5 ∧ (w.alloc o2).cell? ⟨b2, q6, none⟩ = some u6 := by
  have key (a j : Nat) (n : a < w.heap.size) : (w.alloc o2).cell? ⟨a, j, none⟩ = (w.alloc o1).cell? ⟨a, j, none⟩ :=
    (Below.cell ((Kp.refl w).alloc o2) n).trans (Below.cell ((Kp.refl w).alloc o1) n).symm
  simp only [key _ _ n1, key _ _ n2]
  exact h
/-- have two boxes anything in common? -/
def okB (zs ys : List RI) : Bool := vl2 zs ys && allII meets zs ys
/-- the meet of two boxes -/
def meetB (zs ys : List RI) : List RI := List.zipWith meetI zs ys
/-- the result of Meet -/
def MeetsB (w : World) (zs ys : List RI) (e : Ending) (w' : World) : Prop :=
  if okB zs ys then ∃ a c, e = .returned (.tuple #[.slice a (meetB zs ys).length c, .bool true]) ∧ RowI w' a (meetB zs ys) ∧ (meetB zs ys).length ≤ c ∧ c ≤ maxLen ∧ Kp w w'
  else e = .returned (.tuple #[.slice none 0 0, .bool false]) ∧ Kp w w'
theorem meetsB_no {w w' : World} {zs ys : List RI} {e : Ending} (h : okB zs ys = false) (he : e = .returned (.tuple #[.slice none 0 0, .bool false])) (hk : Kp w w') : MeetsB w zs ys e w' := by
  unfold MeetsB; rw [h]; exact ⟨he, hk⟩
set_option maxRecDepth 100000 in
set_option maxHeartbeats 8000000 in
theorem BMeet_any (a b : Option Addr) (zs ys : List RI) (c d : Nat) (w : World) (h : RowI w a zs) (hl : zs.length ≤ 1100000) (h' : RowI w b ys) (hl' : ys.length ≤ 1100000) :
    Calls Tryd.prog 9 #[.slice a zs.length c, .slice b ys.length d] w (MeetsB w zs ys) := by
  have H := Lib.hid (show okB zs ys = (vl2 zs ys && allII meets zs ys) from rfl)
  go_enter Tryd.func9, Tryd.ntmps9
  go_wp2_with fail
  refine (two_any a b zs ys c d _ h hl h' hl').mono ?_
  rintro e w1 ⟨rfl, hk1⟩
  cases hz : vl2 zs ys with
  | false =>
    rw [hz] at H
    clear hz
    go_wp2_with fail
    go_ret2
    exact meetsB_no (by rw [H.out]; rfl) rfl hk1
  | true =>
    rw [hz] at H
    have v1 := (vl2_iff.1 hz).1
    have v2 := (vl2_iff.1 hz).2.1
    have Hlen := Lib.hid (vl2_iff.1 hz).2.2
    clear hz
    go_wp2_with fail
    go_loopw [6, 16] (fun v x wr => ∃ k : Nat, k ≤ zs.length ∧ x = .int .i64 k ∧ OwnI w wr v (meetB (zs.take k) (ys.take k)) ∧ ∀ (i : Nat) (x y : RI), zs[i]? = some x → ys[i]? = some y → i < k → meets x y = true) (fun _ x _ => zs.length - (intOf x).toNat)
    case atStart => exact ⟨0, by omega, rfl, OwnI.nil hk1, fun _ _ _ _ _ h => by omega⟩
    case round =>
      obtain ⟨k, hk, rfl, hown, hall⟩ := hrel
      have Hall := Lib.hid hall
      clear hall
      have hk2 := hown.1.2
      obtain ⟨L, hL⟩ : ∃ L, L = meetB (zs.take k) (ys.take k) := ⟨_, rfl⟩
      rw [← hL] at hown
      have hlen8 : L.length + 1 ≤ 9000000 := by have := vlB_len v1; rw [hL]; unfold meetB; simp; omega
      have HL := Lib.hid hL
      clear hL
      by_cases hlt : k < zs.length
      · have hlt2 : k < ys.length := by have := Hlen.out; omega
        have hx := (vlB_ok (h.kp hk2) v1 (List.getElem_mem hlt))
        have hy := (vlB_ok (h'.kp hk2) v2 (List.getElem_mem hlt2))
        obtain ⟨b1, o1, rfl, hxw, g1, _⟩ := h k (zs[k]) (List.getElem?_eq_getElem hlt)
        obtain ⟨b2, o2, rfl, hyw, g2, _⟩ := h' k (ys[k]) (List.getElem?_eq_getElem hlt2)
        have hb1 := World.block_lt_of_cell? w _ g1
        have hb2 := World.block_lt_of_cell? w _ g2
        clear g1 g2
        obtain ⟨_, _, e1, _, h0, h1, h2, h3, h4, h5, h6⟩ := (h.kp hk2) k (zs[k]) (List.getElem?_eq_getElem hlt)
        cases e1
        obtain ⟨_, _, e1, _, j0, j1, j2, j3, j4, j5, j6⟩ := (h'.kp hk2) k (ys[k]) (List.getElem?_eq_getElem hlt2)
        cases e1
        have Hg := Lib.hid (List.getElem?_eq_getElem hlt)
        have Hg2 := Lib.hid (List.getElem?_eq_getElem hlt2)
        generalize zs[k] = x at *
        generalize ys[k] = y at *
        rw [hx.2.1] at h6
        rw [hy.2.1] at j6
        have hi1 : (0 : Int) ≤ (k : Int) := by omega
        have hi2 : (k : Int) < (zs.length : Int) := by omega
        have hi3 : (k : Int) < (ys.length : Int) := by omega
        go_wp2_with fail
        have hxd := hx.drew
        have hyd := hy.drew
        have hkd : Kp wr.drew wr.drew := Kp.refl _
        have hownd := hown.kp (Kp.refl wr).drew
        have hzok : (meetI x y).rd w := meetI_rd hxw hyw
        clear h h'
        have hS := keep77 (Kp.refl wr).drew (And.intro (And.intro h0 (And.intro h1 (And.intro h2 (And.intro h3 (And.intro h4 (And.intro h5 h6)))))) (And.intro j0 (And.intro j1 (And.intro j2 (And.intro j3 (And.intro j4 (And.intro j5 j6)))))))
        clear h0 h1 h2 h3 h4 h5 h6 j0 j1 j2 j3 j4 j5 j6
        have Hs := Lib.hid (zip_snoc (f := meetI) Hg.out Hg2.out)
        have hbw1 : b1 < wr.drew.heap.size := Nat.lt_of_lt_of_le hb1 hk2.size
        have hbw2 : b2 < wr.drew.heap.size := Nat.lt_of_lt_of_le hb2 hk2.size
        have hbv1 : b1 < wr.heap.size := hbw1
        have hbv2 : b2 < wr.heap.size := hbw2
        have hsz : wr.drew.heap.size = wr.heap.size := rfl
        have Hsz := Lib.hid hsz
        clear hsz
        by_cases hm : meets x y = true
        · have Hm := Lib.hid hm
          have Hst := Lib.hid (show ∀ (i : Nat) (x' y' : RI), zs[i]? = some x' → ys[i]? = some y' → i < k + 1 → meets x' y' = true from fun i x' y' hx' hy' hi => by
            by_cases e : i = k
            · subst e; rw [Hg.out] at hx'; rw [Hg2.out] at hy'; cases hx'; cases hy'; exact Hm.out
            · exact Hall.out i x' y' hx' hy' (by omega))
          clear hm
          go_region_held3 (fun w' => (w'.cell? ⟨b1, o1 + k * 7, none⟩ = some (.bool x.lo.neg) ∧ w'.cell? ⟨b1, o1 + k * 7 + 1, none⟩ = some (.slice x.lo.a x.lo.xs.length x.lo.c) ∧ w'.cell? ⟨b1, o1 + k * 7 + 2, none⟩ = some (.int .i64 x.lo.e) ∧ w'.cell? ⟨b1, o1 + k * 7 + 3, none⟩ = some (.bool x.hi.neg) ∧ w'.cell? ⟨b1, o1 + k * 7 + 4, none⟩ = some (.slice x.hi.a x.hi.xs.length x.hi.c) ∧ w'.cell? ⟨b1, o1 + k * 7 + 5, none⟩ = some (.int .i64 x.hi.e) ∧ w'.cell? ⟨b1, o1 + k * 7 + 6, none⟩ = some (.bool false)) ∧ w'.cell? ⟨b2, o2 + k * 7, none⟩ = some (.bool y.lo.neg) ∧ w'.cell? ⟨b2, o2 + k * 7 + 1, none⟩ = some (.slice y.lo.a y.lo.xs.length y.lo.c) ∧ w'.cell? ⟨b2, o2 + k * 7 + 2, none⟩ = some (.int .i64 y.lo.e) ∧ w'.cell? ⟨b2, o2 + k * 7 + 3, none⟩ = some (.bool y.hi.neg) ∧ w'.cell? ⟨b2, o2 + k * 7 + 4, none⟩ = some (.slice y.hi.a y.hi.xs.length y.hi.c) ∧ w'.cell? ⟨b2, o2 + k * 7 + 5, none⟩ = some (.int .i64 y.hi.e) ∧ w'.cell? ⟨b2, o2 + k * 7 + 6, none⟩ = some (.bool false)) (first | with_reducible assumption | with_reducible exact keep77 (by assumption) (by assumption) | with_reducible exact keep77 ((Kp.refl _).alloc _) (by assumption) | with_reducible exact keep77 (kp_ad _ _) (by assumption) | with_reducible exact set77x (by omega) (by omega) (by assumption) | with_reducible exact set77ax (by omega) (by omega) (by assumption))
            (first
              | (go_at_call 29; refine (IMeet_yes x y _ (hxd.kp (by first | with_reducible exact Kp.refl _ | with_reducible exact kp_ad _ _)) (hyd.kp (by first | with_reducible exact Kp.refl _ | with_reducible exact kp_ad _ _)) Hm.out).mono ?_; rintro e w4 ⟨rfl, hk4⟩
                 have hk4' := Lib.hid (show Kp wr.drew w4 by first | with_reducible exact hk4 | with_reducible exact (kp_ad _ _).trans hk4)
                 have z4 := hk4'.out.size
                 first
                   | (with_reducible have hz := ((Var7.newd _ _).kp hk4)); obtain ⟨⟨q0, q1, q2, q3, q4, q5, q6⟩, ⟨f0, f1, f2, f3, f4, f5, f6⟩⟩ := hz
                   | skip))
          all_goals clear hxd hyd hkd
          · have hk9 : Kp wr.drew _ := hk4'.out.alloc (.cells #[.bool (meetI x y).lo.neg, .slice (meetI x y).lo.a (meetI x y).lo.xs.length (meetI x y).lo.c, .int .i64 (meetI x y).lo.e, .bool (meetI x y).hi.neg, .slice (meetI x y).hi.a (meetI x y).hi.xs.length (meetI x y).hi.c, .int .i64 (meetI x y).hi.e, .bool (meetI x y).all] 39)
            have hB9 := Box7.new w4 (.bool (meetI x y).lo.neg) (.slice (meetI x y).lo.a (meetI x y).lo.xs.length (meetI x y).lo.c) (.int .i64 (meetI x y).lo.e) (.bool (meetI x y).hi.neg) (.slice (meetI x y).hi.a (meetI x y).hi.xs.length (meetI x y).hi.c) (.int .i64 (meetI x y).hi.e) (.bool (meetI x y).all) 39
            generalize w4.alloc _ = W9 at *
            have hown9 := hownd.kp (hk9.alloc (.cells #[.bool (meetI x y).lo.neg, .slice (meetI x y).lo.a (meetI x y).lo.xs.length (meetI x y).lo.c, .int .i64 (meetI x y).lo.e, .bool (meetI x y).hi.neg, .slice (meetI x y).hi.a (meetI x y).hi.xs.length (meetI x y).hi.c, .int .i64 (meetI x y).hi.e, .bool (meetI x y).all] 39))
            clear hk4 hk4' z4 hk9 hownd hS hbw1 hbw2 hbv1 hbv2
            obtain ⟨s0, s1, s2, s3, s4, s5, s6⟩ := hB9
            go_wp2_with (at_builtin; refine wpList_append_ivl rfl _ _ rfl w _ _ rfl hown9 _ _ rfl (meetI x y) hzok (by simp) hlen8 ?_; intro a' c' w5 hown5 hb5)
            go_roundw
            case rel => exact ⟨k + 1, by omega, by go_num, by unfold meetB; rw [Hs.out]; unfold meetB at HL; rw [← HL.out]; exact hown5, Hst.out⟩
            case measure => simp [intOf]; omega
          · generalize hW9 : ((((((w4.setCell _ _).setCell _ _).setCell _ _).setCell _ _).setCell _ _).setCell _ _).setCell _ _ = W9
            obtain ⟨hB9, hU9⟩ := stored7 (show Box7 w4 _ _ _ _ _ _ _ _ from ⟨q0, q1, q2, q3, q4, q5, q6⟩) (fun _ h => by cases h) (fun _ h => by cases h) (fun _ h => by cases h) (fun _ h => by cases h) (fun _ h => by cases h) (fun _ h => by cases h) (fun _ h => by cases h) _ _ _ _ _ _ _ hW9
            have hk9 : Kp wr.drew W9 := hU9.2.2.1 _ hk4'.out (Nat.le_refl _)
            clear hW9 hU9 q0 q1 q2 q3 q4 q5 q6 f0 f1 f2 f3 f4 f5 f6
            have hown9 := hownd.kp (hk9.alloc (.cells #[.bool (meetI x y).lo.neg, .slice (meetI x y).lo.a (meetI x y).lo.xs.length (meetI x y).lo.c, .int .i64 (meetI x y).lo.e, .bool (meetI x y).hi.neg, .slice (meetI x y).hi.a (meetI x y).hi.xs.length (meetI x y).hi.c, .int .i64 (meetI x y).hi.e, .bool (meetI x y).all] 39))
            clear hk4 hk4' z4 hk9 hownd hS hbw1 hbw2 hbv1 hbv2
            obtain ⟨s0, s1, s2, s3, s4, s5, s6⟩ := hB9
            go_wp2_with (at_builtin; refine wpList_append_ivl rfl _ _ rfl w _ _ rfl hown9 _ _ rfl (meetI x y) hzok (by simp) hlen8 ?_; intro a' c' w5 hown5 hb5)
            go_roundw
            case rel => exact ⟨k + 1, by omega, by go_num, by unfold meetB; rw [Hs.out]; unfold meetB at HL; rw [← HL.out]; exact hown5, Hst.out⟩
            case measure => simp [intOf]; omega
        · have hm : meets x y = false := by simpa using hm
          have Hm := Lib.hid hm
          have Hno := Lib.hid (show okB zs ys = false by rw [H.out, allII_false Hg.out Hg2.out hm]; rfl)
          clear hm
          go_region_held3 (fun w' => (w'.cell? ⟨b1, o1 + k * 7, none⟩ = some (.bool x.lo.neg) ∧ w'.cell? ⟨b1, o1 + k * 7 + 1, none⟩ = some (.slice x.lo.a x.lo.xs.length x.lo.c) ∧ w'.cell? ⟨b1, o1 + k * 7 + 2, none⟩ = some (.int .i64 x.lo.e) ∧ w'.cell? ⟨b1, o1 + k * 7 + 3, none⟩ = some (.bool x.hi.neg) ∧ w'.cell? ⟨b1, o1 + k * 7 + 4, none⟩ = some (.slice x.hi.a x.hi.xs.length x.hi.c) ∧ w'.cell? ⟨b1, o1 + k * 7 + 5, none⟩ = some (.int .i64 x.hi.e) ∧ w'.cell? ⟨b1, o1 + k * 7 + 6, none⟩ = some (.bool false)) ∧ w'.cell? ⟨b2, o2 + k * 7, none⟩ = some (.bool y.lo.neg) ∧ w'.cell? ⟨b2, o2 + k * 7 + 1, none⟩ = some (.slice y.lo.a y.lo.xs.length y.lo.c) ∧ w'.cell? ⟨b2, o2 + k * 7 + 2, none⟩ = some (.int .i64 y.lo.e) ∧ w'.cell? ⟨b2, o2 + k * 7 + 3, none⟩ = some (.bool y.hi.neg) ∧ w'.cell? ⟨b2, o2 + k * 7 + 4, none⟩ = some (.slice y.hi.a y.hi.xs.length y.hi.c) ∧ w'.cell? ⟨b2, o2 + k * 7 + 5, none⟩ = some (.int .i64 y.hi.e) ∧ w'.cell? ⟨b2, o2 + k * 7 + 6, none⟩ = some (.bool false)) (first | with_reducible assumption | with_reducible exact keep77 (by assumption) (by assumption) | with_reducible exact keep77 ((Kp.refl _).alloc _) (by assumption) | with_reducible exact keep77 (kp_ad _ _) (by assumption) | with_reducible exact set77x (by omega) (by omega) (by assumption) | with_reducible exact set77ax (by omega) (by omega) (by assumption))
            (first
              | (go_at_call 29; refine (IMeet_no x y _ (hxd.kp (by first | with_reducible exact Kp.refl _ | with_reducible exact kp_ad _ _)) (hyd.kp (by first | with_reducible exact Kp.refl _ | with_reducible exact kp_ad _ _)) Hm.out).mono ?_; rintro e w4 ⟨rfl, hk4⟩
                 have hk4' := Lib.hid (show Kp wr.drew w4 by first | with_reducible exact hk4 | with_reducible exact (kp_ad _ _).trans hk4)
                 have z4 := hk4'.out.size
                 first
                   | (with_reducible have hz := ((Var7.newd _ _).kp hk4)); obtain ⟨⟨q0, q1, q2, q3, q4, q5, q6⟩, ⟨f0, f1, f2, f3, f4, f5, f6⟩⟩ := hz
                   | skip))
          all_goals clear hxd hyd hkd
          · have hk9 : Kp wr.drew _ := hk4'.out.alloc (.cells #[.bool false, .slice none 0 0, .int .i64 0, .bool false, .slice none 0 0, .int .i64 0, .bool false] 39)
            have hB9 := Box7.new w4 (.bool false) (.slice none 0 0) (.int .i64 0) (.bool false) (.slice none 0 0) (.int .i64 0) (.bool false) 39
            generalize w4.alloc _ = W9 at *
            have hk10 := hk2.trans ((Kp.refl wr).drew.trans hk9)
            clear hk4 hk4' z4 hk9 hownd hS hbw1 hbw2 hbv1 hbv2
            go_wp2_with fail
            go_ret2
            exact meetsB_no Hno.out rfl hk10
          · generalize hW9 : ((((((w4.setCell _ _).setCell _ _).setCell _ _).setCell _ _).setCell _ _).setCell _ _).setCell _ _ = W9
            obtain ⟨hB9, hU9⟩ := stored7 (show Box7 w4 _ _ _ _ _ _ _ _ from ⟨q0, q1, q2, q3, q4, q5, q6⟩) (fun _ h => by cases h) (fun _ h => by cases h) (fun _ h => by cases h) (fun _ h => by cases h) (fun _ h => by cases h) (fun _ h => by cases h) (fun _ h => by cases h) _ _ _ _ _ _ _ hW9
            have hk9 : Kp wr.drew W9 := hU9.2.2.1 _ hk4'.out (Nat.le_refl _)
            clear hW9 hU9 q0 q1 q2 q3 q4 q5 q6 f0 f1 f2 f3 f4 f5 f6
            have hk10 := hk2.trans ((Kp.refl wr).drew.trans hk9)
            clear hk4 hk4' z4 hk9 hownd hS hbw1 hbw2 hbv1 hbv2
            go_wp2_with fail
            go_ret2
            exact meetsB_no Hno.out rfl hk10
      · obtain ⟨a3, c3, rfl, h1, h2, h3⟩ := hown.value
        have Hok := Lib.hid (show okB zs ys = true by
          rw [H.out, Bool.true_and, allII_true]
          exact ⟨Hlen.out, fun i x y hx hy => Hall.out i x y hx hy (by have := (List.getElem?_eq_some_iff.1 hx).1; omega)⟩)
        have Hz := Lib.hid (show L = meetB zs ys by
          rw [HL.out]
          rw [List.take_of_length_le (by omega), List.take_of_length_le (by have := Hlen.out; omega)])
        go_wp2
        go_ret2
        unfold MeetsB
        rw [Hok.out, if_pos rfl, ← Hz.out]
        exact ⟨a3, c3, rfl, h3, h1, h2, hk2⟩
end Go.Proofs.YtkohlmlmoapedaaDoor
