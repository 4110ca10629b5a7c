/-
  Walks: interval.Mag of valid intervals.
-/
import Derived.Test.YtpocjagbhiahdaaGreatDoorMOwnX
import Derived.Test.YtpocjagbhiahdaaGreatDoorMDotM
import Derived.Test.YtpocjagbhiahdaaGreatDoorMRoAdd
import Derived.Deep.CutRange
import Derived.Deep.DeepFit
import Derived.Test.YtpocjagbhiahdaaGreatDoorMRoC
import Derived.Deep.RegionHeld3
import Derived.Deep.RegionLaw
import Derived.Test.YtpocjagbhiahdaaGreatDoorMSumH
namespace Go.Proofs.YtpocjagbhiahdaaGreatDoor
open Go.RowKit
def maxD (a b : Dy) : Dy := if b.iv ≤ a.iv then a else b
def magP (X : PI) : Dy := if X.all then .zero else maxD X.lo.absv X.hi.absv
def NumB (w : World) (d : Dy) (b : Bool) (e : Ending) (w' : World) : Prop := ∃ y : RD, e = .returned (.tuple #[.agg #[.bool y.neg, .slice y.a y.xs.length y.c, .int .i64 y.e], .bool b]) ∧ y.rd w' ∧ y.dy = d ∧ y.vl = true ∧ Kp w w'
theorem set7by3 {w : World} {g b : Nat} (n : b ≠ g) {v0 v1 v2 v3 v4 v5 v6 x0 x1 x2 : Value} (h : w.cell? ⟨b, 0, none⟩ = some v0 ∧ w.cell? ⟨b, 1, none⟩ = some v1 ∧ w.cell? ⟨b, 2, none⟩ = some v2 ∧ w.cell? ⟨b, 3, none⟩ = some v3 ∧ w.cell? ⟨b, 4, none⟩ = some v4 ∧ w.cell? ⟨b, 5, none⟩ = some v5 ∧ w.cell? ⟨b, 6, none⟩ = some v6) :
    (((w.setCell ⟨g, 0, none⟩ x0).setCell ⟨g, 1, none⟩ x1).setCell ⟨g, 2, none⟩ x2).cell? ⟨b, 0, none⟩ = some v0 ∧ (((w.setCell ⟨g, 0, none⟩ x0).setCell ⟨g, 1, none⟩ x1).setCell ⟨g, 2, none⟩ x2).cell? ⟨b, 1, none⟩ = some v1 ∧ (((w.setCell ⟨g, 0, none⟩ x0).setCell ⟨g, 1, none⟩ x1).setCell ⟨g, 2, none⟩ x2).cell? ⟨b, 2, none⟩ = some v2 ∧ (((w.setCell ⟨g, 0, none⟩ x0).setCell ⟨g, 1, none⟩ x1).setCell ⟨g, 2, none⟩ x2).cell? ⟨b, 3, none⟩ = some v3 ∧ (((w.setCell ⟨g, 0, none⟩ x0).setCell ⟨g, 1, none⟩ x1).setCell ⟨g, 2, none⟩ x2).cell? ⟨b, 4, none⟩ = some v4 ∧ (((w.setCell ⟨g, 0, none⟩ x0).setCell ⟨g, 1, none⟩ x1).setCell ⟨g, 2, none⟩ x2).cell? ⟨b, 5, none⟩ = some v5 ∧ (((w.setCell ⟨g, 0, none⟩ x0).setCell ⟨g, 1, none⟩ x1).setCell ⟨g, 2, none⟩ x2).cell? ⟨b, 6, none⟩ = some v6 := by
  have ne (i j : Nat) : (⟨g, i, none⟩ : Addr) ≠ ⟨b, j, none⟩ := fun e => n (by injection e with e1; exact e1.symm)
  have key (j : Nat) : (((w.setCell ⟨g, 0, none⟩ x0).setCell ⟨g, 1, none⟩ x1).setCell ⟨g, 2, none⟩ x2).cell? ⟨b, j, none⟩ = w.cell? ⟨b, j, none⟩ := by
    rw [cell_set_ne (ne 2 j), cell_set_ne (ne 1 j), cell_set_ne (ne 0 j)]
  simp only [key]
  exact h
theorem moreR_dy (x y : RD) : (moreR x y).dy = maxD x.dy y.dy := by
  unfold moreR maxD
  show (if y.dy.iv ≤ x.dy.iv then x else y).dy = _
  split <;> rfl
set_option maxRecDepth 100000 in
set_option maxHeartbeats 8000000 in
theorem Mag_any (x : RI) (w : World) (hx : x.rd w) (vx : x.vl = true) :
    Calls Tryz.prog 105 #[.agg #[.bool x.lo.neg, .slice x.lo.a x.lo.xs.length x.lo.c, .int .i64 x.lo.e, .bool x.hi.neg, .slice x.hi.a x.hi.xs.length x.hi.c, .int .i64 x.hi.e, .bool x.all]] w (NumB w (magP x.pl) (!x.all)) := by
  go_enter Tryz.func105, Tryz.ntmps105
  go_wp2_with fail
  generalize hW3 : ((w.alloc _).alloc _) = W3 at *
  have hk3 : Kp w W3 := hW3 ▸ ((Kp.refl w).alloc _).alloc _
  have hS3 : W3.cell? ⟨w.heap.size, 0, none⟩ = some (.bool x.lo.neg) ∧ W3.cell? ⟨w.heap.size, 1, none⟩ = some (.slice x.lo.a x.lo.xs.length x.lo.c) ∧ W3.cell? ⟨w.heap.size, 2, none⟩ = some (.int .i64 x.lo.e) ∧ W3.cell? ⟨w.heap.size, 3, none⟩ = some (.bool x.hi.neg) ∧ W3.cell? ⟨w.heap.size, 4, none⟩ = some (.slice x.hi.a x.hi.xs.length x.hi.c) ∧ W3.cell? ⟨w.heap.size, 5, none⟩ = some (.int .i64 x.hi.e) ∧ W3.cell? ⟨w.heap.size, 6, none⟩ = some (.bool x.all) := by rw [← hW3]; simp
  have hV3 : Box3 W3 (w.heap.size + 1) (.bool false) (.slice none 0 0) (.int .i64 0) := by rw [← hW3]; exact Box3.new2 _ _ _ _ _ _
  have hsz : W3.heap.size = w.heap.size + 1 + 1 := by rw [← hW3]; simp
  have hR := rowI_oneR W3 x (hx.kp hk3) 44
  rw [hsz] at hR
  have hk4 := (Kp.refl W3).alloc (.cells #[.bool x.lo.neg, .slice x.lo.a x.lo.xs.length x.lo.c, .int .i64 x.lo.e, .bool x.hi.neg, .slice x.hi.a x.hi.xs.length x.hi.c, .int .i64 x.hi.e, .bool x.all] 44)
  generalize hW : W3.alloc _ = W at *
  have hS := keep7 hk4 hS3
  have hV := hV3.kp hk4
  have hk := hk3.trans hk4
  clear hW hW3 hS3 hV3 hk3 hk4 hsz
  go_fit (known_any _ [x] 1 _ hR (by simp))
  rintro e w1 ⟨rfl, hk1⟩
  have hS1 := keep7 hk1 hS
  have hV1 := hV.kp hk1
  have hk2 := (hk.trans hk1)
  have hx1 := hx.kp hk2
  clear hR hS hV hk hk1
  cases ha : x.all with
  | true =>
    have hg : [x].all goodI = false := by simp [goodI_vl vx, ha]
    have HP := Lib.hid (show magP x.pl = .zero by unfold magP; rw [if_pos (by exact ha)])
    have HA := Lib.hid ha
    rw [hg]
    clear hg ha hS1
    obtain ⟨q0, q1, q2, f0, f1, f2⟩ := hV1
    go_wp2_with fail
    have hst := stored q0 q1 q2 (fun _ h => by cases h) (fun _ h => by cases h) (fun _ h => by cases h) (.bool false) (.slice none 0 0) (.int .i64 0)
    generalize (((w1.setCell _ _).setCell _ _).setCell _ _) = W9 at hst ⊢
    obtain ⟨s0, s1, s2, _, s4, s5, _, _⟩ := hst
    refine bodyPost_ret (v := .tuple #[.agg #[.bool false, .slice none 0 0, .int .i64 0], .bool false]) (by simp [results, Tryz.results105, go_sem, s0, s1, s2]) rfl ?_
    rw [HP.out, HA.out]
    exact ⟨rdZero, rfl, rdZero_rd _, rfl, rdZero_vl, s5 _ hk2 (by omega)⟩
  | false =>
  have ox := ok_of hx1 vx ha
  have HA := Lib.hid ha
  have hg : [x].all goodI = true := by simp [(goodI_ok ox.1).2 ox]
  have HP := Lib.hid (show magP x.pl = maxD x.lo.dy.absv x.hi.dy.absv by unfold magP; rw [if_neg (by show ¬ x.all = true; rw [ha]; decide)]; rfl)
  rw [hg]
  clear hg
  have kd := (Kp.refl w1).drew
  have hB2 := hV1.kp kd
  have Ox := Lib.hid (ox.kp kd)
  have hk3 := hk2.trans kd
  have hS4 := keep7 kd hS1
  clear hV1 hS1 kd hk2 ox hx1 ha
  go_wp2_with fail
  go_region_held3 (fun w' => w'.cell? ⟨w.heap.size, 0, none⟩ = some (.bool x.lo.neg) ∧ w'.cell? ⟨w.heap.size, 1, none⟩ = some (.slice x.lo.a x.lo.xs.length x.lo.c) ∧ w'.cell? ⟨w.heap.size, 2, none⟩ = some (.int .i64 x.lo.e) ∧ w'.cell? ⟨w.heap.size, 3, none⟩ = some (.bool x.hi.neg) ∧ w'.cell? ⟨w.heap.size, 4, none⟩ = some (.slice x.hi.a x.hi.xs.length x.hi.c) ∧ w'.cell? ⟨w.heap.size, 5, none⟩ = some (.int .i64 x.hi.e) ∧ w'.cell? ⟨w.heap.size, 6, none⟩ = some (.bool x.all)) (first | with_reducible assumption | with_reducible exact keep7 (by assumption) (by assumption) | with_reducible exact set7by3 (by omega) (by assumption))
    (first
      | (go_at_call 150; go_fit (Abs_ok x.lo _ Ox.out.lo); rintro e w4 ⟨z1, rfl, r1, d1, v1, hk4⟩
         have O1 := Lib.hid (show z1.ok w4 from ⟨r1, v1 (Dy.absv_ok (rdok_dy Ox.out.lo))⟩)
         have D1 := Lib.hid d1
         clear r1 d1 v1)
      | (go_at_call 150; go_fit (Abs_ok x.hi _ (Ox.out.hi.kp hk4)); rintro e w5 ⟨z2, rfl, r2, d2, v2, hk5⟩
         have O2 := Lib.hid (show z2.ok w5 from ⟨r2, v2 (Dy.absv_ok (rdok_dy Ox.out.hi))⟩)
         have D2 := Lib.hid d2
         clear r2 d2 v2)
      | (go_at_call 149; go_fit (more_ok z1 z2 _ (O1.out.kp hk5) O2.out); rintro e w6 ⟨rfl, hk6⟩; have hk7 := (hk4.trans hk5).trans hk6; obtain ⟨q0, q1, q2, f0, f1, f2⟩ := hB2.kp hk7)
      | fail)
  have hk8 := hk3.trans hk7
  have OM := Lib.hid (moreR_ok ((O1.out.kp hk5).kp hk6) (O2.out.kp hk6))
  have DM := Lib.hid (moreR_dy z1 z2)
  clear hS4 hB2
  generalize moreR z1 z2 = Z at *
  have hst := stored q0 q1 q2 (fun _ h => by cases h) (fun _ h => by cases h) (fun _ h => by cases h) (.bool Z.neg) (.slice Z.a Z.xs.length Z.c) (.int .i64 Z.e)
  go_wp2_with fail
  generalize (((w6.setCell _ _).setCell _ _).setCell _ _) = W9 at hst ⊢
  obtain ⟨s0, s1, s2, _, s4, s5, _, _⟩ := hst
  refine bodyPost_ret (v := .tuple #[.agg #[.bool Z.neg, .slice Z.a Z.xs.length Z.c, .int .i64 Z.e], .bool true]) (by simp [results, Tryz.results105, go_sem, s0, s1, s2]) rfl ?_
  rw [HP.out, HA.out, ← D1.out, ← D2.out]
  exact ⟨Z, rfl, ⟨s4 _ _ OM.out.1.1, OM.out.1.2⟩, DM.out, OM.out.2, s5 _ hk8 (by omega)⟩
def sumN (p : Nat) : List RI → Dy → Option Dy
  | [], s => some s
  | x :: r, s => if x.all = true then none else if (adP s (magP x.pl) p true).2 ≠ 0 then none else sumN p r (adP s (magP x.pl) p true).1
def nrmN (p : Nat) : List (List RI) → Dy → Option Dy
  | [], t => some t
  | r :: m, t => match sumN p r .zero with
    | none => none
    | some s => nrmN p m (if t.iv < s.iv then s else t)
def contN (p : Nat) (m : List (List RI)) (t : Dy) : Option Dy → Option Dy
  | none => none
  | some s => nrmN p m (if t.iv < s.iv then s else t)
theorem nrmN_cons (p : Nat) (r : List RI) (m : List (List RI)) (t : Dy) : nrmN p (r :: m) t = contN p m t (sumN p r .zero) := by
  unfold nrmN contN
  cases sumN p r .zero <;> rfl
def nrmO (m : List (List RI)) (p : Int) : Option Dy := if (vlM m && preB p) = true then nrmN p.toNat m .zero else none
theorem sumN_all {p k : Nat} {r : List RI} {x : RI} {s : Dy} (h : r[k]? = some x) (ha : x.all = true) : sumN p (r.drop k) s = none := by
  obtain ⟨hk, e⟩ := List.getElem?_eq_some_iff.1 h
  rw [List.drop_eq_getElem_cons hk, e]; unfold sumN; rw [if_pos ha]
theorem sumN_err {p k : Nat} {r : List RI} {x : RI} {s : Dy} (h : r[k]? = some x) (ha : x.all = false) (he : (adP s (magP x.pl) p true).2 ≠ 0) : sumN p (r.drop k) s = none := by
  obtain ⟨hk, e⟩ := List.getElem?_eq_some_iff.1 h
  rw [List.drop_eq_getElem_cons hk, e]; unfold sumN; rw [if_neg (by rw [ha]; decide), if_pos he]
theorem sumN_next {p k : Nat} {r : List RI} {x : RI} {s : Dy} (h : r[k]? = some x) (ha : x.all = false) (he : (adP s (magP x.pl) p true).2 = 0) : sumN p (r.drop k) s = sumN p (r.drop (k + 1)) (adP s (magP x.pl) p true).1 := by
  obtain ⟨hk, e⟩ := List.getElem?_eq_some_iff.1 h
  rw [List.drop_eq_getElem_cons hk, e]; conv => lhs; unfold sumN
  rw [if_neg (by rw [ha]; decide), if_neg (by omega)]
theorem nrmN_row {p i : Nat} {m : List (List RI)} {r : List RI} {t : Dy} (h : m[i]? = some r) : nrmN p (m.drop i) t = contN p (m.drop (i + 1)) t (sumN p (r.drop 0) .zero) := by
  obtain ⟨hk, e⟩ := List.getElem?_eq_some_iff.1 h
  rw [List.drop_eq_getElem_cons hk, e, nrmN_cons, List.drop_zero]
theorem stored3 {w : World} {g : Nat} {y0 y1 y2 : Value} (h : Box3 w g y0 y1 y2) (n0 : ∀ n : Int, y0 ≠ .int .u32 n) (n1 : ∀ n : Int, y1 ≠ .int .u32 n) (n2 : ∀ n : Int, y2 ≠ .int .u32 n) (x0 x1 x2 : Value) {W : World}
    (hW : (((w.setCell ⟨g, 0, none⟩ x0).setCell ⟨g, 1, none⟩ x1).setCell ⟨g, 2, none⟩ x2) = W) : Box3 W g x0 x1 x2 ∧ Upd g w W := by
  obtain ⟨h0, h1, h2, f0, f1, f2⟩ := h
  have a1 := set_at (i := 0) (v := x0) (by decide) h1
  have a2 := set_at (i := 1) (v := x1) (by decide) (set_at (i := 0) (v := x0) (by decide) h2)
  have U := (((Upd.refl g w).step h0 n0 x0).step a1 n1 x1).step a2 n2 x2
  rw [← hW]
  exact ⟨⟨set_at (by decide) (set_at (by decide) (cell_set_eq h0)), set_at (by decide) (cell_set_eq a1), cell_set_eq a2, (U.1 _).trans f0, (U.1 _).trans f1, (U.1 _).trans f2⟩, U⟩
def BoxD (w : World) (g : Nat) (x : RD) : Prop := Box3 w g (.bool x.neg) (.slice x.a x.xs.length x.c) (.int .i64 x.e)
theorem BoxD.kp {w w' : World} {g : Nat} {x : RD} (h : BoxD w g x) (k : Kp w w') : BoxD w' g x := Box3.kp h k
theorem BoxD.new (w : World) (x : RD) (t : TypeId) : BoxD (w.alloc (.cells #[.bool x.neg, .slice x.a x.xs.length x.c, .int .i64 x.e] t)) w.heap.size x := Box3.new _ _ _ _ _
theorem BoxD.store {w : World} {g : Nat} {x : RD} (h : BoxD w g x) (y : RD) {W : World} (hW : (((w.setCell ⟨g, 0, none⟩ (.bool y.neg)).setCell ⟨g, 1, none⟩ (.slice y.a y.xs.length y.c)).setCell ⟨g, 2, none⟩ (.int .i64 y.e)) = W) : BoxD W g y ∧ Upd g w W :=
  stored3 h (fun _ h => by cases h) (fun _ h => by cases h) (fun _ h => by cases h) _ _ _ hW
theorem addUp_ok (a b : RD) {p : Nat} (h0 : 8 ≤ p) (h1 : p ≤ 512) (W : World) (ha : a.ok W) (hb : b.ok W) (hT : Tab W) :
    Calls Tryz.prog 106 #[.agg #[.bool a.neg, .slice a.a a.xs.length a.c, .int .i64 a.e], .agg #[.bool b.neg, .slice b.a b.xs.length b.c, .int .i64 b.e], .int .i64 p] W (NumE W (adP a.dy b.dy p true).1 (adP a.dy b.dy p true).2) := by
  have := rAddUp_of a b (p : Int) _ _ W (fun W' k' => add_rd a b p true W' (ha.1.kp k') (hb.1.kp k') (hT.kp k'))
  rwa [addB_dy ha hb h0 h1 true] at this
theorem intD_okz {n : Int} (h : n.natAbs ≤ 9000000) : (intD n).ok := (intD_isP (p := 24) (by decide) (by decide) (by omega)).1
theorem dyOut_rd {w w' : World} {d : Dy} {e : Ending} (h : DyOut w d e w') (hd : d.ok) : ∃ y : RD, e = .returned (.agg #[.bool y.neg, .slice y.a y.xs.length y.c, .int .i64 y.e]) ∧ y.ok w' ∧ y.dy = d ∧ Kp w w' := by
  obtain ⟨a, c, rfl, h1, h2, h3, h4⟩ := h
  exact ⟨rdOf d a c, rfl, rdOf_ok hd h1 h2 h3, rdOf_dy d a c, h4⟩
set_option maxRecDepth 100000 in
set_option maxHeartbeats 2000000 in
theorem r2IntN_any (N : Nat) (w : World) (hn : N ≤ 9000000) (h0 : 0 < N) :
    Calls Tryz.prog 43 #[.int .i64 (-(N : Int))] w (DyOut w (canon true N 0)) := by
  have hB := Box3.new w (.bool false) (.slice none 0 0) (.int .i64 0) 42
  go_enter Tryz.func43, Tryz.ntmps43
  have hneg : decide (-(N : Int) < 0) = true := decide_eq_true (by omega)
  have hlt : -(N : Int) < 0 := by omega
  have hR := rd_pair (w.alloc (.cells #[.bool false, .slice none 0 0, .int .i64 0] 42)) N 0 (by omega) (by decide) (Go.bits BinOp.and IntKind.u64 (N : Int) 4294967295 % 4294967296) ((N : Int) / 4294967296) (by rw [and_low (by omega)]; omega) (by omega)
  rw [World.size_alloc] at hR
  have hO := Lib.hid (r2Of_any true _ [N, 0] 2 0 _ hR (by simp) (by unfold maxLen; omega) (by simp) (by decide) (by decide))
  clear hR
  go_upto_region 4 with fail
  have hw : IntKind.u64.wrap (-IntKind.u64.wrap (-(N : Int))) = (N : Int) := by
    rw [IntKind.wrap_u64, IntKind.wrap_u64]; omega
  rw [hw]
  clear hw
  go_wp2_with fail
  go_fit hO.out
  rintro e w3 ⟨a3, c3, rfl, r3, l3, m3, k3⟩
  have hkb := ((Kp.refl _).alloc _).trans k3
  obtain ⟨q0, q1, q2, f0, f1, f2⟩ := hB.kp hkb
  have hk2 := ((Kp.refl w).alloc _).trans hkb
  rw [show val [N, 0] = N from by simp [val]] at r3 l3 ⊢
  generalize canon true N 0 = D at *
  have hst := stored q0 q1 q2 (fun _ h => by cases h) (fun _ h => by cases h) (fun _ h => by cases h) (.bool D.neg) (.slice a3 (limbs D.m).length c3) (.int .i64 D.e)
  go_wp2_with fail
  generalize (((w3.setCell _ _).setCell _ _).setCell _ _) = W at hst ⊢
  obtain ⟨s0, s1, s2, _, s4, s5, _, _⟩ := hst
  refine bodyPost_ret (v := .agg #[.bool D.neg, .slice a3 (limbs D.m).length c3, .int .i64 D.e]) (by simp [results, Tryz.results43, go_sem, s0, s1, s2]) rfl ?_
  exact ⟨a3, c3, rfl, s4 _ _ r3, l3, m3, s5 _ hk2 (by omega)⟩
theorem r2IntZ_any (n : Int) (w : World) (hn : n.natAbs ≤ 9000000) :
    Calls Tryz.prog 43 #[.int .i64 n] w fun e w' => ∃ y : RD, e = .returned (.agg #[.bool y.neg, .slice y.a y.xs.length y.c, .int .i64 y.e]) ∧ y.ok w' ∧ y.dy = intD n ∧ Kp w w' := by
  by_cases h : n < 0
  · have h1 := r2IntN_any n.natAbs w hn (by omega)
    have e1 : -(n.natAbs : Int) = n := by omega
    have e2 : canon true n.natAbs 0 = intD n := by unfold intD; rw [decide_eq_true h]
    rw [e1, e2] at h1
    exact h1.mono fun e w' h => dyOut_rd h (intD_okz hn)
  have h1 := r2Int_any n.natAbs w hn
  have e1 : (n.natAbs : Int) = n := by omega
  have e2 : canon false n.natAbs 0 = intD n := by unfold intD; rw [decide_eq_false h]
  rw [e1, e2] at h1
  exact h1.mono fun e w' h => dyOut_rd h (intD_okz hn)
set_option maxHeartbeats 2000000 in
theorem d8_any (n : Int) (w : World) (hn : n.natAbs ≤ 9000000) :
    Calls Tryz.prog 22 #[.int .i64 n] w fun e w' => ∃ y : RD, e = .returned (.agg #[.bool y.neg, .slice y.a y.xs.length y.c, .int .i64 y.e]) ∧ y.ok w' ∧ y.dy = intD n ∧ Kp w w' := by
  have H := Lib.hid (r2IntZ_any n)
  have hB := Box3.new w (.bool false) (.slice none 0 0) (.int .i64 0) 42
  go_enter Tryz.func22, Tryz.ntmps22
  go_wp2_with fail
  go_fit (H.out _ hn)
  rintro e w3 ⟨y, rfl, hy, hd, k3⟩
  have hk2 := ((Kp.refl w).alloc _).trans k3
  have HB := hB.kp k3
  obtain ⟨q0, q1, q2, f0, f1, f2⟩ := id HB
  have HY := Lib.hid (And.intro hy hd)
  clear hy hd
  go_wp2_with fail
  generalize hW9 : (((w3.setCell _ _).setCell _ _).setCell _ _) = W9
  obtain ⟨⟨s0, s1, s2, _⟩, hU⟩ := BoxD.store (x := rdZero) HB y hW9
  clear hW9 q0 q1 q2 f0 f1 f2
  refine bodyPost_ret (v := .agg #[.bool y.neg, .slice y.a y.xs.length y.c, .int .i64 y.e]) (by simp [results, Tryz.results22, go_sem, s0, s1, s2]) rfl ?_
  exact ⟨y, rfl, hU.okD HY.out.1, HY.out.2, hU.2.2.1 _ hk2 (by omega)⟩
theorem make_rows (i : Int) (n : Nat) (e : i = n) (hn : n ≤ 9000000) (u : World) : (Instr.makeSlice 25 (.int .i64 i) (.int .i64 i)).run Tryz.prog u =
    .ok (.slice (some ⟨u.heap.size, 0, none⟩) n n) (u.alloc (.cells (madeCells #[.slice none 0 0] n) 34)) := by
  subst e
  obtain ⟨i0, hi, hz0, hz1, hz2⟩ := info_parts infoSlI
  have h := run_make (P := Tryz.prog) u 25 34 i0 (.slice none 0 0) Tryz.underlying25 hi hz0 .i64 .i64 (n : Int) (n : Int) (by omega) (Int.le_refl _) (by rw [hz2]; omega) (by omega)
  simpa [hz1, Value.cells] using h
theorem OutH.made (w : World) (n : Nat) : OutH w (w.alloc (.cells (madeCells #[.slice none 0 0] n) 34)) w.heap.size n [] := by
  have hg := heap_alloc_new w (.cells (madeCells #[.slice none 0 0] n) 34)
  refine ⟨⟨Nat.le_refl _, by simp, by simp⟩, (Kp.refl w).alloc _, fun i _ => frozen_of_row _ _ _ _ _ hg, fun i _ hi => ?_, fun i r h => by simp at h⟩
  rw [cell_of_row _ _ _ _ _ _ hg, ← Array.getElem?_toList, toList_madeCells_one]
  simp [hi]
theorem step_append_ivg {w : World} {ops : Array Oper} {o : Oper} {a : Act} {K : Act → World → Prop} {Q : Exit → Act → World → Prop} {E : Prop} (hgd : o.guard = none) (s x : Operand)
    (ho : o.op = .call { callee := .builtin .append, args := #[s, x], argTypes := #[34, 34] })
    (wb : World) (v : Value) (zs : List RI) (hs : a.eval s = v) (hown : OwnN wb w v zs)
    (g c : Nat) (hx : a.eval x = .slice (some ⟨g, 0, none⟩) 1 c) (y : RI) (hy : y.rd w)
    (hcell : w.cell? ⟨g, 0, none⟩ = some (.bool y.lo.neg) ∧ w.cell? ⟨g, 1, none⟩ = some (.slice y.lo.a y.lo.xs.length y.lo.c) ∧ w.cell? ⟨g, 2, none⟩ = some (.int .i64 y.lo.e) ∧ w.cell? ⟨g, 3, none⟩ = some (.bool y.hi.neg) ∧ w.cell? ⟨g, 4, none⟩ = some (.slice y.hi.a y.hi.xs.length y.hi.c) ∧ w.cell? ⟨g, 5, none⟩ = some (.int .i64 y.hi.e) ∧ w.cell? ⟨g, 6, none⟩ = some (.bool y.all)) (hlen : zs.length + 1 ≤ 9000000)
    (h : ∀ a' c' w', OwnN wb w' (.slice a' (zs.length + 1) c') (zs ++ [y]) → w.grownBy w' v.ownBlock → (v.ownBlock = (Value.slice a' (zs.length + 1) c').ownBlock ∨ (Value.slice a' (zs.length + 1) c').ownBlock = some w.heap.size) → K (a.put o.dst (.slice a' (zs.length + 1) c')) w') :
    if Region.wanted o (yielded ops a.tmps) = true then Oper.wp Tryz.prog o a w K Q else E := by
  have hw : Region.wanted o (yielded ops a.tmps) = true := by simp [Region.wanted, hgd]
  rw [if_pos hw]
  obtain ⟨i0, hi, hz0, hz1, hz2⟩ := info_parts infoIvl
  obtain ⟨hk, hown1, hall, hrows⟩ := hown
  obtain ⟨g', cap, w', hr, h1, h2, h3, h6⟩ := append_all (P := Tryz.prog) w NoU 34 o.type wb.heap.size 44 i0 (.agg #[.bool false, .slice none 0 0, .int .i64 0, .bool false, .slice none 0 0, .int .i64 0, .bool false]) 7 88 Tryz.underlying34 hi hz0 hz1 hz2 rfl (by decide) v zs.length (zs.flatMap RI.cells) hown1
    ⟨g, 0, none⟩ 1 c y.cells rfl (by
      intro j u hj
      obtain ⟨h0, h1, h2, h3, h4, h5, h6⟩ := hcell
      match j, hj with
      | 0, hj => cases hj; simpa [Addr.add] using h0
      | 1, hj => cases hj; simpa [Addr.add] using h1
      | 2, hj => cases hj; simpa [Addr.add] using h2
      | 3, hj => cases hj; simpa [Addr.add] using h3
      | 4, hj => cases hj; simpa [Addr.add] using h4
      | 5, hj => cases hj; simpa [Addr.add] using h5
      | 6, hj => cases hj; simpa [Addr.add] using h6
      | j + 7, hj => simp [RI.cells] at hj) (by
      intro u hu
      simp only [RI.cells, List.mem_cons, List.not_mem_nil, or_false] at hu
      rcases hu with rfl | rfl | rfl | rfl | rfl | rfl | rfl <;> rfl) (by decide) (by unfold maxLen; omega) (by omega) hk.size hall noU_cells (by
      intro u hu y e
      simp [Value.cells] at hu
      rcases hu with rfl | rfl | rfl | rfl | rfl | rfl | rfl <;> cases e)
  unfold Oper.wp execOp
  simp only [ho, resolve, invoke, builtin, Sem.run_bind, Sem.run_pure, Result.andThen_ok, List.map_toArray, List.map_cons, List.map_nil, hs, hx, hr]
  have hb : Below wb.heap.size w w' := (Below.refl wb.heap.size w).grown h2 hk.size (fun k hk => (hown1.lt k hk).1)
  refine h _ _ w' ⟨Below.trans hk hb, ?_, h6, fun q hq => ?_⟩ h2 ?_
  · rw [List.flatMap_append, List.length_append]
    simpa using h1
  · rcases List.mem_append.1 hq with hq | hq
    · exact (hrows q hq).far h2 hall
    simp only [List.mem_singleton] at hq
    subst hq
    exact hy.far h2 hall
  rcases h3 with h3 | h3
  · exact .inl h3
  subst h3; exact .inr rfl
theorem OutM.cellF {wb w : World} {g n : Nat} {R : List (List RI)} {v : Value} {cur : List RI} (h : OutM wb w g n R v cur) : w.cell? ⟨g, R.length, none⟩ = some v ∧ w.frozen? ⟨g, R.length, none⟩ = false :=
  ⟨h.2.2.1, h.2.2.2.1 _ h.1.2.2.1⟩
theorem OutM.cellG {wb w w' : World} {g n : Nat} {R : List (List RI)} {v : Value} {cur : List RI} (h : OutM wb w g n R v cur) (hg : w.grownBy w' v.ownBlock) : w'.cell? ⟨g, R.length, none⟩ = some v ∧ w'.frozen? ⟨g, R.length, none⟩ = false := by
  obtain ⟨⟨h1, h2, h3, h4⟩, ho0, hv0, hf, hz, hr⟩ := h
  refine ⟨hg.cell hv0 (fun e => h4 e.symm), ?_⟩
  have := hg.block g h2 (fun e => h4 e.symm)
  have hh := hf _ h3
  unfold World.frozen? at hh ⊢
  rw [this]; exact hh
theorem OwnN.noU {wb w : World} {v : Value} {zs : List RI} (h : OwnN wb w v zs) : NoU v := by
  obtain ⟨a, c, e, _⟩ := h.value
  subst e
  intro x h; cases h
theorem set10 {w : World} {g bb bj b2 o2 b o : Nat} (n1 : bb ≠ g) (n2 : bj ≠ g) (n3 : b2 ≠ g) (n : b ≠ g) {u0 u1 u2 v0 v1 v2 v3 v4 v5 v6 x0 x1 x2 x3 x4 x5 x6 : Value}
    (h : w.cell? ⟨bb, 0, none⟩ = some u0 ∧ w.cell? ⟨bj, 0, none⟩ = some u1 ∧ w.cell? ⟨b2, o2, none⟩ = some u2 ∧ w.cell? ⟨b, o, none⟩ = some v0 ∧ w.cell? ⟨b, o + 1, none⟩ = some v1 ∧ w.cell? ⟨b, o + 2, none⟩ = some v2 ∧ w.cell? ⟨b, o + 3, none⟩ = some v3 ∧ w.cell? ⟨b, o + 4, none⟩ = some v4 ∧ w.cell? ⟨b, o + 5, none⟩ = some v5 ∧ w.cell? ⟨b, o + 6, none⟩ = some v6) :
    (fun W : World => W.cell? ⟨bb, 0, none⟩ = some u0 ∧ W.cell? ⟨bj, 0, none⟩ = some u1 ∧ W.cell? ⟨b2, o2, none⟩ = some u2 ∧ W.cell? ⟨b, o, none⟩ = some v0 ∧ W.cell? ⟨b, o + 1, none⟩ = some v1 ∧ W.cell? ⟨b, o + 2, none⟩ = some v2 ∧ W.cell? ⟨b, o + 3, none⟩ = some v3 ∧ W.cell? ⟨b, o + 4, none⟩ = some v4 ∧ W.cell? ⟨b, o + 5, none⟩ = some v5 ∧ W.cell? ⟨b, o + 6, none⟩ = some v6)
      (((((((w.setCell ⟨g, 0, none⟩ x0).setCell ⟨g, 1, none⟩ x1).setCell ⟨g, 2, none⟩ x2).setCell ⟨g, 3, none⟩ x3).setCell ⟨g, 4, none⟩ x4).setCell ⟨g, 5, none⟩ x5).setCell ⟨g, 6, none⟩ x6) := by
  have ne (i : Nat) (c j : Nat) (n : c ≠ g) : (⟨g, i, none⟩ : Addr) ≠ ⟨c, j, none⟩ := fun e => n (by injection e with e1; exact e1.symm)
  have key (c j : Nat) (n : c ≠ g) : (((((((w.setCell ⟨g, 0, none⟩ x0).setCell ⟨g, 1, none⟩ x1).setCell ⟨g, 2, none⟩ x2).setCell ⟨g, 3, none⟩ x3).setCell ⟨g, 4, none⟩ x4).setCell ⟨g, 5, none⟩ x5).setCell ⟨g, 6, none⟩ x6).cell? ⟨c, j, none⟩ = w.cell? ⟨c, j, none⟩ := by
    rw [cell_set_ne (ne 6 c j n), cell_set_ne (ne 5 c j n), cell_set_ne (ne 4 c j n), cell_set_ne (ne 3 c j n), cell_set_ne (ne 2 c j n), cell_set_ne (ne 1 c j n), cell_set_ne (ne 0 c j n)]
  simp only [key _ _ n1, key _ _ n2, key _ _ n3, key _ _ n]
  exact h
theorem keep10 {w w' : World} (k : Kp w w') {p0 p1 p2 p3 p4 p5 p6 p7 p8 p9 : Addr} {u0 u1 u2 v0 v1 v2 v3 v4 v5 v6 : Value} (h : w.cell? p0 = some u0 ∧ w.cell? p1 = some u1 ∧ w.cell? p2 = some u2 ∧ w.cell? p3 = some v0 ∧ w.cell? p4 = some v1 ∧ w.cell? p5 = some v2 ∧ w.cell? p6 = some v3 ∧ w.cell? p7 = some v4 ∧ w.cell? p8 = some v5 ∧ w.cell? p9 = some v6) : w'.cell? p0 = some u0 ∧ w'.cell? p1 = some u1 ∧ w'.cell? p2 = some u2 ∧ w'.cell? p3 = some v0 ∧ w'.cell? p4 = some v1 ∧ w'.cell? p5 = some v2 ∧ w'.cell? p6 = some v3 ∧ w'.cell? p7 = some v4 ∧ w'.cell? p8 = some v5 ∧ w'.cell? p9 = some v6 := by
  obtain ⟨h0, h1, h2, h3, h4, h5, h6, h7, h8, h9⟩ := h
  exact ⟨k.cell h0, k.cell h1, k.cell h2, k.cell h3, k.cell h4, k.cell h5, k.cell h6, k.cell h7, k.cell h8, k.cell h9⟩
set_option maxRecDepth 100000 in
set_option maxHeartbeats 4000000 in
theorem mulat_any (m : List (List RI)) (a : Option Addr) (c k j bb bj : Nat) (w : World) (hm : RowM w a m) (hv : vlM m = true) (hb : w.cell? ⟨bb, 0, none⟩ = some (.slice a m.length c)) (hj : w.cell? ⟨bj, 0, none⟩ = some (.int .i64 (j : Int)))
    (hk : k < m.length) (hj2 : j < colsM m) :
    Calls Tryz.prog 82 #[.int .i64 (k : Int), .pointer (some ⟨bb, 0, none⟩), .pointer (some ⟨bj, 0, none⟩)] w (IvOut w (atP m k j)) := by
  obtain ⟨r, x, hr, hx, hxv, hat⟩ := vlM_get hv hk hj2
  have HX := Lib.hid (show x.pl = atP m k j by unfold atP; rw [hat])
  have Hv := Lib.hid hxv
  have hlb := (vlM_iff.1 hv).1.2
  have hlr : r.length ≤ 8 := by rw [(vlM_row hv hr).1]; exact (vlM_iff.1 hv).2.1.2
  have hjr := (List.getElem?_eq_some_iff.1 hx).1
  obtain ⟨b2, o2, ra, rc, rfl, hc2, hrow, _⟩ := hm k r hr
  obtain ⟨b3, o3, rfl, hrd, hS⟩ := hrow j x hx
  have k1 := (Kp.refl w).alloc (.cells #[.bool false, .slice none 0 0, .int .i64 0, .bool false, .slice none 0 0, .int .i64 0, .bool false] 44)
  have k2 := Lib.hid k1
  have n1 : bb ≠ w.heap.size := Nat.ne_of_lt (World.block_lt_of_cell? w _ hb)
  have n2 : bj ≠ w.heap.size := Nat.ne_of_lt (World.block_lt_of_cell? w _ hj)
  have n3 : b2 ≠ w.heap.size := Nat.ne_of_lt (World.block_lt_of_cell? w _ hc2)
  have n4 : b3 ≠ w.heap.size := Nat.ne_of_lt (World.block_lt_of_cell? w _ hS.1)
  have hi1 : (0 : Int) ≤ (k : Int) := by omega
  have hi2 : (k : Int) < (m.length : Int) := by omega
  have hi3 : (0 : Int) ≤ (j : Int) := by omega
  have hi4 : (j : Int) < (r.length : Int) := by omega
  have HR := Lib.hid (hrd.kp k2.out)
  have hSS := And.intro (k2.out.cell hb) (And.intro (k2.out.cell hj) (And.intro (k2.out.cell hc2) (keep7 k2.out hS)))
  have hV := Var7.new w 44
  clear hv hxv hr hx hat hm hrow hb hj hc2 hS hrd k1
  go_enter Tryz.func82, Tryz.ntmps82
  go_upto_region 1 with fail
  generalize w.alloc _ = W at *
  have kd := (Kp.refl W).drew
  have hSd : W.drew.cell? ⟨bb, 0, none⟩ = some (.slice (some ⟨b2, o2, none⟩) m.length c) ∧ W.drew.cell? ⟨bj, 0, none⟩ = some (.int .i64 (j : Int)) ∧ W.drew.cell? ⟨b2, o2 + k, none⟩ = some (.slice (some ⟨b3, o3, none⟩) r.length rc) ∧ W.drew.cell? ⟨b3, o3 + j * 7, none⟩ = some (.bool x.lo.neg) ∧ W.drew.cell? ⟨b3, o3 + j * 7 + 1, none⟩ = some (.slice x.lo.a x.lo.xs.length x.lo.c) ∧ W.drew.cell? ⟨b3, o3 + j * 7 + 2, none⟩ = some (.int .i64 x.lo.e) ∧ W.drew.cell? ⟨b3, o3 + j * 7 + 3, none⟩ = some (.bool x.hi.neg) ∧ W.drew.cell? ⟨b3, o3 + j * 7 + 4, none⟩ = some (.slice x.hi.a x.hi.xs.length x.hi.c) ∧ W.drew.cell? ⟨b3, o3 + j * 7 + 5, none⟩ = some (.int .i64 x.hi.e) ∧ W.drew.cell? ⟨b3, o3 + j * 7 + 6, none⟩ = some (.bool x.all) := ⟨kd.cell hSS.1, kd.cell hSS.2.1, kd.cell hSS.2.2.1, keep7 kd hSS.2.2.2⟩
  obtain ⟨⟨q0, q1, q2, q3, q4, q5, q6⟩, f0, f1, f2, f3, f4, f5, f6⟩ := id hV
  have HSS := Lib.hid hSS
  clear hSS hV
  go_region_held3 (fun w' => w'.cell? ⟨bb, 0, none⟩ = some (.slice (some ⟨b2, o2, none⟩) m.length c) ∧ w'.cell? ⟨bj, 0, none⟩ = some (.int .i64 (j : Int)) ∧ w'.cell? ⟨b2, o2 + k, none⟩ = some (.slice (some ⟨b3, o3, none⟩) r.length rc) ∧ w'.cell? ⟨b3, o3 + j * 7, none⟩ = some (.bool x.lo.neg) ∧ w'.cell? ⟨b3, o3 + j * 7 + 1, none⟩ = some (.slice x.lo.a x.lo.xs.length x.lo.c) ∧ w'.cell? ⟨b3, o3 + j * 7 + 2, none⟩ = some (.int .i64 x.lo.e) ∧ w'.cell? ⟨b3, o3 + j * 7 + 3, none⟩ = some (.bool x.hi.neg) ∧ w'.cell? ⟨b3, o3 + j * 7 + 4, none⟩ = some (.slice x.hi.a x.hi.xs.length x.hi.c) ∧ w'.cell? ⟨b3, o3 + j * 7 + 5, none⟩ = some (.int .i64 x.hi.e) ∧ w'.cell? ⟨b3, o3 + j * 7 + 6, none⟩ = some (.bool x.all)) (first | with_reducible assumption | with_reducible exact keep10 (Kp.refl _).drew (set10 n1 n2 n3 n4 HSS.out)) (fail)
  go_wp2_with fail
  generalize hW9 : ((((((W.setCell _ _).setCell _ _).setCell _ _).setCell _ _).setCell _ _).setCell _ _).setCell _ _ = W9
  obtain ⟨⟨s0, s1, s2, s3, s4, s5, s6⟩, hU⟩ := stored7 (show Box7 W _ _ _ _ _ _ _ _ from ⟨q0, q1, q2, q3, q4, q5, q6⟩) (fun _ h => by cases h) (fun _ h => by cases h) (fun _ h => by cases h) (fun _ h => by cases h) (fun _ h => by cases h) (fun _ h => by cases h) (fun _ h => by cases h) _ _ _ _ _ _ _ hW9
  clear hW9 q0 q1 q2 q3 q4 q5 q6 f0 f1 f2 f3 f4 f5 f6
  refine bodyPost_ret (v := .agg #[.bool x.lo.neg, .slice x.lo.a x.lo.xs.length x.lo.c, .int .i64 x.lo.e, .bool x.hi.neg, .slice x.hi.a x.hi.xs.length x.hi.c, .int .i64 x.hi.e, .bool x.all]) (by simp [results, Tryz.results82, go_sem, s0, s1, s2, s3, s4, s5, s6]) rfl ?_
  exact ⟨x, rfl, (hU.rdI HR.out).kp (Kp.refl _).drew, HX.out, Hv.out, (hU.2.2.1 _ k2.out (by omega)).drew⟩

theorem limbs_top_ne {n : Nat} (h : n ≠ 0) : nth (limbs n) ((limbs n).length - 1) ≠ 0 := by
  have hl : 0 < (limbs n).length := by
    rw [List.length_pos_iff, Ne, limbs_eq_nil]; exact h
  have ht := limbs_top n
  unfold Top at ht
  rw [List.getLast?_eq_getElem?, List.getElem?_eq_getElem (by omega)] at ht
  rw [nth_eq (by omega)]
  exact fun e => ht (congrArg some e)
theorem bits_top {n : Nat} (h : n ≠ 0) : bits n = 32 * ((limbs n).length - 1) + bits (nth (limbs n) ((limbs n).length - 1)) ∧ nth (limbs n) ((limbs n).length - 1) ≠ 0 := by
  have hl : 0 < (limbs n).length := by
    rw [List.length_pos_iff, Ne, limbs_eq_nil]; exact h
  have ht : nth (limbs n) ((limbs n).length - 1) ≠ 0 := limbs_top_ne h
  have h32 := limbs_lt32 n
  have hv := val_limbs n
  generalize limbs n = xs at *
  have e : xs = xs.take (xs.length - 1) ++ [nth xs (xs.length - 1)] := by
    rw [nth_eq (by omega), ← List.take_succ_eq_append_getElem (by omega), List.take_of_length_le (by omega)]
  have hb := bits_val_snoc (h32.take (xs.length - 1)) ht
  rw [← e, hv, List.length_take, Nat.min_eq_left (by omega)] at hb
  exact ⟨hb, ht⟩
set_option maxHeartbeats 1000000 in
theorem r2bits_any (a : Option Addr) (n : Nat) (c : Nat) (w : World) (h : Rd w a (limbs n)) (hl : (limbs n).length ≤ 1100000) :
    Calls Tryz.prog 128 #[.slice a (limbs n).length c] w fun e w' => e = .returned (.int .i64 (bits n)) ∧ w = w' := by
  by_cases h0 : n = 0
  · have hz := len_is0 h0
    have hb := Lib.hid (show bits n = 0 by rw [h0, bits_zero])
    clear h0
    go_enter Tryz.func128, Tryz.ntmps128
    go_wp2_with fail
    go_ret
    rw [hb.out]
    exact ⟨rfl, rfl⟩
  have hz := len_ne h0
  obtain ⟨hb, ht⟩ := bits_top h0
  have hpos : 0 < (limbs n).length := by
    rw [List.length_pos_iff, Ne, limbs_eq_nil]; exact h0
  have hnt := (limbs_lt32 n).nth ((limbs n).length - 1)
  have hbt : bits (nth (limbs n) ((limbs n).length - 1)) ≤ 32 := bits_le.2 hnt
  obtain ⟨b, o, rfl, hcell⟩ := h.some hpos
  have hx := hcell ((limbs n).length - 1) (by omega)
  have Hb := Lib.hid hb
  clear hcell h hb h0
  generalize (limbs n).length = L at *
  generalize nth (limbs n) (L - 1) = t at *
  have hi1 : (0 : Int) ≤ ((L - 1 : Nat) : Int) := by omega
  have hi2 : ((L - 1 : Nat) : Int) < (L : Int) := by omega
  have hL1 : (L : Int) - 1 = ((L - 1 : Nat) : Int) := by omega
  go_enter Tryz.func128, Tryz.ntmps128
  go_wp2_with fail
  go_loop [3, 4] (fun v x => ∃ (y j : Nat), x = .int .u32 y ∧ v = .int .i64 ((32 * (L - 1) + j : Nat) : Int) ∧ j + bits y = bits t ∧ y < 4294967296) (fun _ x => (intOf x).toNat)
  case atStart => exact ⟨t, 0, rfl, by congr 1 <;> omega, by omega, hnt⟩
  case round =>
  obtain ⟨y, j, rfl, rfl, hj, hy⟩ := hrel
  by_cases hy0 : y = 0
  · subst hy0
    rw [bits_zero] at hj
    have HB := Lib.hid (show bits n = 32 * (L - 1) + j by rw [Hb.out]; omega)
    go_wp2_with fail
    go_ret
    rw [HB.out]
    exact ⟨rfl, rfl⟩
  have h2 := bits_half hy0
  have h3 : 0 < y := by omega
  go_wp2_with fail
  go_round
  case measure => simp [intOf]; omega
  case rel => exact ⟨y / 2, j + 1, by go_num, by congr 1 <;> omega, by omega, by omega⟩

end Go.Proofs.YtpocjagbhiahdaaGreatDoor
