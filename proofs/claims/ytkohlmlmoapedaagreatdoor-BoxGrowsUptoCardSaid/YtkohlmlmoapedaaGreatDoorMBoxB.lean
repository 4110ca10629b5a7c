/-
  Walks: box.Inside, Interior, Equal.
  Walks: box.Hull.
-/
import Derived.Test.YtkohlmlmoapedaaGreatDoorMIdxI
import Derived.Test.YtkohlmlmoapedaaGreatDoorMEqfI
import Derived.Test.YtkohlmlmoapedaaGreatDoorMOwnI
section
namespace Go.Proofs.YtkohlmlmoapedaaGreatDoor
open Go.RowKit

theorem vl2_iff {zs ys : List RI} : vl2 zs ys = true ↔ vlB zs = true ∧ vlB ys = true ∧ zs.length = ys.length := by
  unfold vl2; simp
theorem vlB_ok {w : World} {a : Option Addr} {zs : List RI} (h : RowI w a zs) (hv : vlB zs = true) {x : RI} (hx : x ∈ zs) : x.ok w :=
  (goodI_ok (h.rd hx)).1 (List.all_eq_true.1 (vlB_iff.1 hv).2.2 x hx)
theorem vlB_len {zs : List RI} (hv : vlB zs = true) : zs.length ≤ 8 := (vlB_iff.1 hv).2.1

/-- Inside, of boxes that may be invalid -/
def insB (zs ys : List RI) : Bool := vl2 zs ys && allII insI zs ys
theorem enters_IInside : Enters Tryz.prog 31 := fun _ _ => by kernel_rfl
set_option maxHeartbeats 4000000 in
theorem BInside_any (a b : Option Addr) (zs ys : List RI) (c d : Nat) (w : World) (h : RowI w a zs) (hl : zs.length ≤ 1100000) (h' : RowI w b ys) (hl' : ys.length ≤ 1100000) :
    Calls Tryz.prog 7 #[.slice a zs.length c, .slice b ys.length d] w fun e w' => e = .returned (.bool (insB zs ys)) ∧ Kp w w' := by
  have H := Lib.hid (show insB zs ys = (vl2 zs ys && allII insI zs ys) from rfl)
  go_enter Tryz.func7, Tryz.ntmps7
  go_wp2_with fail
  refine (two_any a b zs ys c d _ h hl h' hl').mono ?_
  rintro e w1 ⟨rfl, hk1⟩
  cases hz : vl2 zs ys with
  | false =>
    rw [hz] at H
    clear hz
    go_wp2_with fail
    go_ret
    exact ⟨ret_bool (by rw [H.out]; simp), hk1⟩
  | true =>
    rw [hz] at H
    have v1 := (vl2_iff.1 hz).1
    have v2 := (vl2_iff.1 hz).2.1
    have hA : AnsII Tryz.prog 31 #[] w1 zs ys insI := ⟨enters_IInside, fun x hx y hy w2 hk2 => by
      have hx1 := (vlB_ok (h.kp hk1) v1 hx).kp hk2
      have hy1 := (vlB_ok (h'.kp hk1) v2 hy).kp hk2
      have := Inside_ok x y w2 hx1 hy1
      rw [hx1.2.1, hy1.2.1]
      exact this⟩
    have hE := eqfII a b zs ys c d _ #[] w1 insI hl (h.kp hk1) (h'.kp hk1) hA
    clear hz hA v1 v2
    go_wp2_with fail
    refine hE.mono ?_
    rintro e w2 ⟨rfl, hk2⟩
    go_wp2_with fail
    go_ret
    exact ⟨ret_bool (by rw [H.out]; simp), hk1.trans hk2⟩

/-- Interior, of boxes that may be invalid -/
def intB (zs ys : List RI) : Bool := vl2 zs ys && allII intI zs ys
theorem enters_IInterior : Enters Tryz.prog 32 := fun _ _ => by kernel_rfl
set_option maxHeartbeats 4000000 in
theorem BInterior_any (a b : Option Addr) (zs ys : List RI) (c d : Nat) (w : World) (h : RowI w a zs) (hl : zs.length ≤ 1100000) (h' : RowI w b ys) (hl' : ys.length ≤ 1100000) :
    Calls Tryz.prog 8 #[.slice a zs.length c, .slice b ys.length d] w fun e w' => e = .returned (.bool (intB zs ys)) ∧ Kp w w' := by
  have H := Lib.hid (show intB zs ys = (vl2 zs ys && allII intI zs ys) from rfl)
  go_enter Tryz.func8, Tryz.ntmps8
  go_wp2_with fail
  refine (two_any a b zs ys c d _ h hl h' hl').mono ?_
  rintro e w1 ⟨rfl, hk1⟩
  cases hz : vl2 zs ys with
  | false =>
    rw [hz] at H
    clear hz
    go_wp2_with fail
    go_ret
    exact ⟨ret_bool (by rw [H.out]; simp), hk1⟩
  | true =>
    rw [hz] at H
    have v1 := (vl2_iff.1 hz).1
    have v2 := (vl2_iff.1 hz).2.1
    have hA : AnsII Tryz.prog 32 #[] w1 zs ys intI := ⟨enters_IInterior, fun x hx y hy w2 hk2 => by
      have hx1 := (vlB_ok (h.kp hk1) v1 hx).kp hk2
      have hy1 := (vlB_ok (h'.kp hk1) v2 hy).kp hk2
      have := Interior_ok x y w2 hx1 hy1
      rw [hx1.2.1, hy1.2.1]
      exact this⟩
    have hE := eqfII a b zs ys c d _ #[] w1 intI hl (h.kp hk1) (h'.kp hk1) hA
    clear hz hA v1 v2
    go_wp2_with fail
    refine hE.mono ?_
    rintro e w2 ⟨rfl, hk2⟩
    go_wp2_with fail
    go_ret
    exact ⟨ret_bool (by rw [H.out]; simp), hk1.trans hk2⟩

/-- Equal, of boxes that may be invalid -/
def eqB (zs ys : List RI) : Bool := vl2 zs ys && allII eqI zs ys
theorem enters_IEqual : Enters Tryz.prog 37 := fun _ _ => by kernel_rfl
set_option maxHeartbeats 4000000 in
theorem BEqual_any (a b : Option Addr) (zs ys : List RI) (c d : Nat) (w : World) (h : RowI w a zs) (hl : zs.length ≤ 1100000) (h' : RowI w b ys) (hl' : ys.length ≤ 1100000) :
    Calls Tryz.prog 11 #[.slice a zs.length c, .slice b ys.length d] w fun e w' => e = .returned (.bool (eqB zs ys)) ∧ Kp w w' := by
  have H := Lib.hid (show eqB zs ys = (vl2 zs ys && allII eqI zs ys) from rfl)
  go_enter Tryz.func11, Tryz.ntmps11
  go_wp2_with fail
  refine (two_any a b zs ys c d _ h hl h' hl').mono ?_
  rintro e w1 ⟨rfl, hk1⟩
  cases hz : vl2 zs ys with
  | false =>
    rw [hz] at H
    clear hz
    go_wp2_with fail
    go_ret
    exact ⟨ret_bool (by rw [H.out]; simp), hk1⟩
  | true =>
    rw [hz] at H
    have v1 := (vl2_iff.1 hz).1
    have v2 := (vl2_iff.1 hz).2.1
    have hA : AnsII Tryz.prog 37 #[] w1 zs ys eqI := ⟨enters_IEqual, fun x hx y hy w2 hk2 => by
      have hx1 := (vlB_ok (h.kp hk1) v1 hx).kp hk2
      have hy1 := (vlB_ok (h'.kp hk1) v2 hy).kp hk2
      have := Equal_ok x y w2 hx1 hy1
      rw [hx1.2.1, hy1.2.1]
      exact this⟩
    have hE := eqfII a b zs ys c d _ #[] w1 eqI hl (h.kp hk1) (h'.kp hk1) hA
    clear hz hA v1 v2
    go_wp2_with fail
    refine hE.mono ?_
    rintro e w2 ⟨rfl, hk2⟩
    go_wp2_with fail
    go_ret
    exact ⟨ret_bool (by rw [H.out]; simp), hk1.trans hk2⟩
end Go.Proofs.YtkohlmlmoapedaaGreatDoor
end

section
namespace Go.Proofs.YtkohlmlmoapedaaGreatDoor
open Go.RowKit

theorem hullI_rd {w : World} {x y : RI} (hx : x.rd w) (hy : y.rd w) : (hullI x y).rd w := by
  refine ⟨?_, ?_⟩
  · show (lessR x.lo y.lo).rd w
    unfold lessR; split
    · exact hx.1
    · exact hy.1
  · show (moreR x.hi y.hi).rd w
    unfold moreR; split
    · exact hx.2
    · exact hy.2
theorem keep77b {B : Nat} {w w' : World} (k : Below B w w') {b1 b2 : Nat} (n1 : b1 < B) (n2 : b2 < B) {p0 p1 p2 p3 p4 p5 p6 q0 q1 q2 q3 q4 q5 q6 : Nat} {v0 v1 v2 v3 v4 v5 v6 u0 u1 u2 u3 u4 u5 u6 : Value}
    (h : (w.cell? ⟨b1, p0, none⟩ = some v0 ∧ w.cell? ⟨b1, p1, none⟩ = some v1 ∧ w.cell? ⟨b1, p2, none⟩ = some v2 ∧ w.cell? ⟨b1, p3, none⟩ = some v3 ∧ w.cell? ⟨b1, p4, none⟩ = some v4 ∧ w.cell? ⟨b1, p5, none⟩ = some v5 ∧ w.cell? ⟨b1, p6, none⟩ = some v6) ∧ w.cell? ⟨b2, q0, none⟩ = some u0 ∧ w.cell? ⟨b2, q1, none⟩ = some u1 ∧ w.cell? ⟨b2, q2, none⟩ = some u2 ∧ w.cell? ⟨b2, q3, none⟩ = some u3 ∧ w.cell? ⟨b2, q4, none⟩ = some u4 ∧ w.cell? ⟨b2, q5, none⟩ = some u5 ∧ w.cell? ⟨b2, q6, none⟩ = some u6) :
    (w'.cell? ⟨b1, p0, none⟩ = some v0 ∧ w'.cell? ⟨b1, p1, none⟩ = some v1 ∧ w'.cell? ⟨b1, p2, none⟩ = some v2 ∧ w'.cell? ⟨b1, p3, none⟩ = some v3 ∧ w'.cell? ⟨b1, p4, none⟩ = some v4 ∧ w'.cell? ⟨b1, p5, none⟩ = some v5 ∧ w'.cell? ⟨b1, p6, none⟩ = some v6) ∧ w'.cell? ⟨b2, q0, none⟩ = some u0 ∧ w'.cell? ⟨b2, q1, none⟩ = some u1 ∧ w'.cell? ⟨b2, q2, none⟩ = some u2 ∧ w'.cell? ⟨b2, q3, none⟩ = some u3 ∧ w'.cell? ⟨b2, q4, none⟩ = some u4 ∧ w'.cell? ⟨b2, q5, none⟩ = some u5 ∧ w'.cell? ⟨b2, q6, none⟩ = some u6 := by
  have e1 (i : Nat) : w'.cell? ⟨b1, i, none⟩ = w.cell? ⟨b1, i, none⟩ := k.cell (p := ⟨b1, i, none⟩) n1
  have e2 (i : Nat) : w'.cell? ⟨b2, i, none⟩ = w.cell? ⟨b2, i, none⟩ := k.cell (p := ⟨b2, i, none⟩) n2
  simp only [e1, e2]
  exact h
theorem zip_snoc {α β γ : Type} {f : α → β → γ} {zs : List α} {ys : List β} {k : Nat} {x : α} {y : β} (hx : zs[k]? = some x) (hy : ys[k]? = some y) :
    List.zipWith f (zs.take (k + 1)) (ys.take (k + 1)) = List.zipWith f (zs.take k) (ys.take k) ++ [f x y] := by
  obtain ⟨h1, rfl⟩ := List.getElem?_eq_some_iff.1 hx
  obtain ⟨h2, rfl⟩ := List.getElem?_eq_some_iff.1 hy
  rw [List.take_succ_eq_append_getElem h1, List.take_succ_eq_append_getElem h2, List.zipWith_append (by simp; omega)]
  rfl
/-- the hull of two boxes -/
def hullB (zs ys : List RI) : List RI := if vl2 zs ys then List.zipWith hullI zs ys else []
/-- the result is a slice of these intervals -/
def ShowsI (w : World) (zs : List RI) (e : Ending) (w' : World) : Prop :=
  ∃ a c, e = .returned (.slice a zs.length c) ∧ RowI w' a zs ∧ zs.length ≤ c ∧ c ≤ maxLen ∧ Kp w w'
set_option maxRecDepth 100000 in
set_option maxHeartbeats 4000000 in
theorem BHull_any (a b : Option Addr) (zs ys : List RI) (c d : Nat) (w : World) (h : RowI w a zs) (hl : zs.length ≤ 1100000) (h' : RowI w b ys) (hl' : ys.length ≤ 1100000) :
    Calls Tryz.prog 12 #[.slice a zs.length c, .slice b ys.length d] w (ShowsI w (hullB zs ys)) := by
  have H := Lib.hid (show hullB zs ys = if vl2 zs ys then List.zipWith hullI zs ys else [] from rfl)
  go_enter Tryz.func12, Tryz.ntmps12
  go_wp2_with fail
  refine (two_any a b zs ys c d _ h hl h' hl').mono ?_
  rintro e w1 ⟨rfl, hk1⟩
  cases hz : vl2 zs ys with
  | false =>
    rw [hz] at H
    clear hz
    go_wp2_with fail
    go_ret
    rw [H.out]
    exact ⟨none, 0, rfl, fun i x hi => by simp at hi, Nat.le_refl _, by unfold maxLen; omega, hk1⟩
  | true =>
    rw [hz] at H
    have v1 := (vl2_iff.1 hz).1
    have v2 := (vl2_iff.1 hz).2.1
    have Hlen := Lib.hid (vl2_iff.1 hz).2.2
    clear hz
    go_wp2_with fail
    go_loopw [5, 13] (fun v x wr => ∃ k : Nat, k ≤ zs.length ∧ x = .int .i64 k ∧ OwnI w wr v (List.zipWith hullI (zs.take k) (ys.take k))) (fun _ x _ => zs.length - (intOf x).toNat)
    case atStart => exact ⟨0, by omega, rfl, OwnI.nil hk1⟩
    case round =>
      obtain ⟨k, hk, rfl, hown⟩ := hrel
      have hk2 := hown.1.2
      obtain ⟨L, hL⟩ : ∃ L, L = List.zipWith hullI (zs.take k) (ys.take k) := ⟨_, rfl⟩
      rw [← hL] at hown
      have hlen8 : L.length + 1 ≤ 9000000 := by have := vlB_len v1; rw [hL]; simp; omega
      have HL := Lib.hid hL
      clear hL
      by_cases hlt : k < zs.length
      · have hlt2 : k < ys.length := by have := Hlen.out; omega
        have hx := (vlB_ok (h.kp hk2) v1 (List.getElem_mem hlt))
        have hy := (vlB_ok (h'.kp hk2) v2 (List.getElem_mem hlt2))
        obtain ⟨b1, o1, rfl, _, g1, _⟩ := h k (zs[k]) (List.getElem?_eq_getElem hlt)
        obtain ⟨b2, o2, rfl, _, g2, _⟩ := h' k (ys[k]) (List.getElem?_eq_getElem hlt2)
        have hb1 := World.block_lt_of_cell? w _ g1
        have hb2 := World.block_lt_of_cell? w _ g2
        clear g1 g2
        obtain ⟨_, _, e1, _, h0, h1, h2, h3, h4, h5, h6⟩ := (h.kp hk2) k (zs[k]) (List.getElem?_eq_getElem hlt)
        cases e1
        obtain ⟨_, _, e1, _, j0, j1, j2, j3, j4, j5, j6⟩ := (h'.kp hk2) k (ys[k]) (List.getElem?_eq_getElem hlt2)
        cases e1
        have Hg := Lib.hid (List.getElem?_eq_getElem hlt)
        have Hg2 := Lib.hid (List.getElem?_eq_getElem hlt2)
        generalize zs[k] = x at *
        generalize ys[k] = y at *
        rw [hx.2.1] at h6
        rw [hy.2.1] at j6
        have hi1 : (0 : Int) ≤ (k : Int) := by omega
        have hi2 : (k : Int) < (zs.length : Int) := by omega
        have hi3 : (k : Int) < (ys.length : Int) := by omega
        go_wp2_with fail
        have hxd := hx.drew
        have hyd := hy.drew
        have hownd := hown.kp (Kp.refl wr).drew
        have hxw : x.rd w := h.rd (List.mem_of_getElem? Hg.out)
        have hyw : y.rd w := h'.rd (List.mem_of_getElem? Hg2.out)
        have hzok : (hullI x y).rd w := hullI_rd hxw hyw
        clear h h'
        have hS := keep77 (Kp.refl wr).drew (And.intro (And.intro h0 (And.intro h1 (And.intro h2 (And.intro h3 (And.intro h4 (And.intro h5 h6)))))) (And.intro j0 (And.intro j1 (And.intro j2 (And.intro j3 (And.intro j4 (And.intro j5 j6)))))))
        clear h0 h1 h2 h3 h4 h5 h6 j0 j1 j2 j3 j4 j5 j6
        go_region_held3 (fun w' => (w'.cell? ⟨b1, o1 + k * 7, none⟩ = some (.bool x.lo.neg) ∧ w'.cell? ⟨b1, o1 + k * 7 + 1, none⟩ = some (.slice x.lo.a x.lo.xs.length x.lo.c) ∧ w'.cell? ⟨b1, o1 + k * 7 + 2, none⟩ = some (.int .i64 x.lo.e) ∧ w'.cell? ⟨b1, o1 + k * 7 + 3, none⟩ = some (.bool x.hi.neg) ∧ w'.cell? ⟨b1, o1 + k * 7 + 4, none⟩ = some (.slice x.hi.a x.hi.xs.length x.hi.c) ∧ w'.cell? ⟨b1, o1 + k * 7 + 5, none⟩ = some (.int .i64 x.hi.e) ∧ w'.cell? ⟨b1, o1 + k * 7 + 6, none⟩ = some (.bool false)) ∧ w'.cell? ⟨b2, o2 + k * 7, none⟩ = some (.bool y.lo.neg) ∧ w'.cell? ⟨b2, o2 + k * 7 + 1, none⟩ = some (.slice y.lo.a y.lo.xs.length y.lo.c) ∧ w'.cell? ⟨b2, o2 + k * 7 + 2, none⟩ = some (.int .i64 y.lo.e) ∧ w'.cell? ⟨b2, o2 + k * 7 + 3, none⟩ = some (.bool y.hi.neg) ∧ w'.cell? ⟨b2, o2 + k * 7 + 4, none⟩ = some (.slice y.hi.a y.hi.xs.length y.hi.c) ∧ w'.cell? ⟨b2, o2 + k * 7 + 5, none⟩ = some (.int .i64 y.hi.e) ∧ w'.cell? ⟨b2, o2 + k * 7 + 6, none⟩ = some (.bool false)) (first | with_reducible assumption | with_reducible exact keep77 (by assumption) (by assumption) | with_reducible exact keep77 ((Kp.refl _).alloc _) (by assumption) | with_reducible exact keep77b hb5 hb1 hb2 (by assumption))
          (first
            | (go_at_call 38; refine (IHull_ok x y _ hxd hyd).mono ?_; rintro e w4 ⟨rfl, hk4⟩; have hown4 := hownd.kp (hk4.alloc (.cells #[.bool (hullI x y).lo.neg, .slice (hullI x y).lo.a (hullI x y).lo.xs.length (hullI x y).lo.c, .int .i64 (hullI x y).lo.e, .bool (hullI x y).hi.neg, .slice (hullI x y).hi.a (hullI x y).hi.xs.length (hullI x y).hi.c, .int .i64 (hullI x y).hi.e, .bool (hullI x y).all] 34)))
            | (refine step_append_ivl (by rfl) _ _ (by rfl) w _ _ (by rfl) hown4 _ _ (by rfl) (hullI x y) hzok (by simp) hlen8 ?_; intro a' c' w5 hown5 hb5))
        have Hs := Lib.hid (zip_snoc (f := hullI) Hg.out Hg2.out)
        go_wp2_with fail
        go_roundw
        case rel => exact ⟨k + 1, by omega, by go_num, by rw [Hs.out, ← HL.out]; exact hown5⟩
        case measure => simp [intOf]; omega
      · obtain ⟨a3, c3, rfl, h1, h2, h3⟩ := hown.value
        have Hz := Lib.hid (show L = hullB zs ys by
          rw [H.out, HL.out]
          simp only [if_true]
          rw [ List.take_of_length_le (by omega), List.take_of_length_le (by have := Hlen.out; omega)])
        go_wp2
        go_ret
        rw [← Hz.out]
        exact ⟨a3, c3, rfl, h3, h1, h2, hk2⟩
end Go.Proofs.YtkohlmlmoapedaaGreatDoor
end
