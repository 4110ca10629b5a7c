/-
  Plain: smaller arguments and more bits have smaller results: sums and products of intervals; no program in sight.
  Plain: sums and products of intervals contain those of their numbers; no program in sight.
  Plain: the identity changes nothing that has few bits; products turned around; no program in sight.
  Plain: the example of chapter 7.
  Walks: the law's own number, one.
-/
import Derived.Test.YtdidocdpjiiedaaGreatDoorMRoAdd
import Derived.Test.YtdidocdpjiiedaaGreatDoorMNrmP
import Derived.Test.YtdidocdpjiiedaaGreatDoorMMulN
import Derived.Deep.DeepFit
import Derived.Test.YtdidocdpjiiedaaGreatDoorMSumH
import Derived.Test.YtdidocdpjiiedaaGreatDoorMCmpD
section
namespace Go.Proofs.YtdidocdpjiiedaaGreatDoor
open Go.RowKit

/-- X is contained in Y -/
def insP (X Y : PI) : Prop := Y.all = true ∨ X.all = false ∧ Y.all = false ∧ Y.lo.iv ≤ X.lo.iv ∧ X.hi.iv ≤ Y.hi.iv
theorem insP.refl (X : PI) : insP X X := by
  cases h : X.all with
  | true => exact .inl h
  | false => exact .inr ⟨h, h, Int.le_refl _, Int.le_refl _⟩
theorem insP.whole (X : PI) : insP X .whole := .inl rfl
section
variable {K p q : Nat} {S T : Int}
end
end Go.Proofs.YtdidocdpjiiedaaGreatDoor
end

section
namespace Go.Proofs.YtdidocdpjiiedaaGreatDoor
open Go.RowKit

/-- a number, in steps of 2^-16384, is in an interval -/
def hasV (X : PI) (v : Int) : Prop := X.all = true ∨ X.lo.iv ≤ v ∧ v ≤ X.hi.iv
theorem hasV.lo {X : PI} (h : X.ok) : hasV X X.lo.iv := .inr ⟨Int.le_refl _, PI.ok_le h⟩
theorem hasV.hi {X : PI} (h : X.ok) : hasV X X.hi.iv := .inr ⟨PI.ok_le h, Int.le_refl _⟩
theorem hasV.whole (v : Int) : hasV .whole v := .inl rfl
end Go.Proofs.YtdidocdpjiiedaaGreatDoor
end

section
namespace Go.Proofs.YtdidocdpjiiedaaGreatDoor
open Go.RowKit

/-- the identity's elements -/
def idP (i t : Nat) : PI := if i = t then pnI 1 1 else pnI 0 0
theorem intD_zero : intD 0 = .zero := rfl
end Go.Proofs.YtdidocdpjiiedaaGreatDoor
end

section
namespace Go.Proofs.YtdidocdpjiiedaaGreatDoor
open Go.RowKit

theorem intD_le {a b : Int} (h : a ≤ b) : (intD a).iv ≤ (intD b).iv := by
  rw [intD_iv, intD_iv]
  have hp := twoK_pos 16384
  generalize ((2 : Int) ^ 16384) = q at *
  exact Int.mul_le_mul_of_nonneg_right h (by omega)
theorem intD_lt {a b : Int} (h : a < b) : (intD a).iv < (intD b).iv := by
  rw [intD_iv, intD_iv]
  have hp := twoK_pos 16384
  generalize ((2 : Int) ^ 16384) = q at *
  exact Int.mul_lt_mul_of_pos_right h (by omega)
theorem absv_int {a : Int} (h : a.natAbs ≤ 1000) : (intD a).absv = intD a.natAbs := by
  refine Dy.iv_inj (Dy.absv_ok (intD_oks h)) (intD_oks (by omega)) ?_
  rw [Dy.absv_iv, intD_iv, intD_iv]
  have hp := twoK_pos 16384
  generalize ((2 : Int) ^ 16384) = q at *
  rw [Int.natAbs_mul, Int.natCast_mul]
  congr 1
  omega
theorem maxD_int {a b : Int} : maxD (intD a) (intD b) = if b ≤ a then intD a else intD b := by
  unfold maxD
  by_cases h : b ≤ a
  · rw [if_pos (intD_le h), if_pos h]
  · rw [if_neg (by have := intD_lt (show a < b by omega); omega), if_neg h]
theorem magP_int {a b : Int} (ha : a.natAbs ≤ 1000) (hb : b.natAbs ≤ 1000) : magP (pnI a b) = if b.natAbs ≤ a.natAbs then intD a.natAbs else intD b.natAbs := by
  unfold magP pnI
  simp only [Bool.false_eq_true, if_false]
  rw [absv_int ha, absv_int hb, maxD_int]
  simp only [Int.ofNat_le]
/-- the product -/
theorem awk_mul (A B : List (List RI)) (a0 : atP A 0 0 = pnI 1 1 ∧ atP A 0 1 = pnI 2 2) (b0 : atP B 0 0 = pnI 3 3) (b1 : atP B 1 0 = pnI 4 4) (la : A.length = 1) (ca : colsM A = 2) (cb : colsM B = 1) :
    mulF A B 24 = [[pnI 11 11]] := by
  unfold mulF
  rw [la, ca, cb]
  show [[dotF 24 (atP A 0) (fun t => atP B t 0) 1]] = _
  have : dotF 24 (atP A 0) (fun t => atP B t 0) 1 = pAdd (pMul (atP A 0 0) (atP B 0 0) 24) (pMul (atP A 0 1) (atP B 1 0) 24) 24 := rfl
  rw [this, a0.1, a0.2, b0, b1, pMul_pt (by decide) (by decide) (by decide), pMul_pt (by decide) (by decide) (by decide), pAdd_int (by decide) (by decide) (by decide) (by decide)]
  rfl
theorem adP_nil2 {b : Int} {p : Nat} (hp : 8 ≤ p) (hp2 : p ≤ 512) (h : b.natAbs < 2 ^ p) : adP .zero (intD b) p true = (intD b, 0) := by
  have := adP_int (a := 0) (b := b) hp hp2 (by rwa [Int.zero_add]) true
  rw [Int.zero_add, intD_zero] at this
  exact this
/-- the norm -/
theorem awk_norm {x0 x1 x2 x3 : RI} (h0 : x0.pl = pnI (-2) 1) (h1 : x1.pl = pnI 3 3) (h2 : x2.pl = pnI 0 0) (h3 : x3.pl = pnI 4 4) : nrmN 24 [[x0, x1], [x2, x3]] .zero = some (intD 5) := by
  have a0 : x0.all = false := congrArg PI.all h0
  have a1 : x1.all = false := congrArg PI.all h1
  have a2 : x2.all = false := congrArg PI.all h2
  have a3 : x3.all = false := congrArg PI.all h3
  have m0 : magP x0.pl = intD 2 := by rw [h0, magP_int (by decide) (by decide)]; rfl
  have m1 : magP x1.pl = intD 3 := by rw [h1, magP_int (by decide) (by decide)]; rfl
  have m2 : magP x2.pl = intD 0 := by rw [h2, magP_int (by decide) (by decide)]; rfl
  have m3 : magP x3.pl = intD 4 := by rw [h3, magP_int (by decide) (by decide)]; rfl
  have s1 : sumN 24 [x0, x1] .zero = some (intD 5) := by
    unfold sumN
    rw [if_neg (by rw [a0]; decide), m0, adP_nil2 (by decide) (by decide) (by decide), if_neg (by decide)]
    show sumN 24 [x1] (intD 2) = _
    unfold sumN
    rw [if_neg (by rw [a1]; decide), m1, adP_int (by decide) (by decide) (by decide), if_neg (by decide)]
    rfl
  have s2 : sumN 24 [x2, x3] .zero = some (intD 4) := by
    unfold sumN
    rw [if_neg (by rw [a2]; decide), m2, adP_nil2 (by decide) (by decide) (by decide), if_neg (by decide)]
    show sumN 24 [x3] (intD 0) = _
    unfold sumN
    rw [if_neg (by rw [a3]; decide), m3, adP_int (by decide) (by decide) (by decide), if_neg (by decide)]
    rfl
  rw [nrmN_cons, s1]
  show nrmN 24 [[x2, x3]] (if (intD 0).iv < (intD 5).iv then intD 5 else .zero) = _
  rw [if_pos (intD_lt (by decide)), nrmN_cons, s2]
  show nrmN 24 [] (if (intD 5).iv < (intD 4).iv then intD 4 else intD 5) = _
  rw [if_neg (by have := intD_lt (show (4 : Int) < 5 by decide); omega)]
  rfl
theorem vl_int {w : World} {x y : RD} {a b : Int} (hx : x.ok w) (hy : y.ok w) (dx : x.dy = intD a) (dy : y.dy = intD b) (h : a ≤ b) : RI.vl ⟨x, y, false⟩ = true :=
  vl_mk2 hx.2 hy.2 (by show x.dy.iv ≤ y.dy.iv; rw [dx, dy]; exact intD_le h)
theorem pl_int {x y : RD} {a b : Int} (dx : x.dy = intD a) (dy : y.dy = intD b) : RI.pl ⟨x, y, false⟩ = pnI a b := by unfold RI.pl pnI; rw [dx, dy]
theorem plM_one {Z : List (List RI)} {X : PI} (h : plM Z = [[X]]) : ∃ z, Z = [[z]] ∧ z.pl = X := by
  match Z, h with
  | [[z]], h => exact ⟨z, rfl, by simpa [plM, plR] using h⟩
  | [], h => simp [plM] at h
  | [] :: t, h => simp [plM, plR] at h
  | [z] :: r :: t, h => simp [plM] at h
  | (z :: y :: s) :: t, h => simp [plM, plR] at h
/-- a matrix of one row that lies there -/
theorem rowM_alloc1 {w : World} {a : Option Addr} {r : List RI} {c : Nat} (h : RowI w a r) (hl : r.length ≤ 1100000) (t : TypeId) : RowM (w.alloc (.cells #[.slice a r.length c] t)) (some ⟨w.heap.size, 0, none⟩) [r] := by
  intro i s hi
  match i with
  | 0 =>
    simp only [List.getElem?_cons_zero, Option.some.injEq] at hi
    subst hi
    exact ⟨_, 0, a, c, rfl, by simp, h.kp ((Kp.refl w).alloc _), hl⟩
  | i + 1 => simp at hi
theorem rowM_alloc2 {w : World} {a b : Option Addr} {r s : List RI} {c d : Nat} (h : RowI w a r) (h2 : RowI w b s) (hl : r.length ≤ 1100000) (hl2 : s.length ≤ 1100000) (t : TypeId) : RowM (w.alloc (.cells #[.slice a r.length c, .slice b s.length d] t)) (some ⟨w.heap.size, 0, none⟩) [r, s] := by
  intro i q hi
  match i with
  | 0 =>
    simp only [List.getElem?_cons_zero, Option.some.injEq] at hi
    subst hi
    exact ⟨_, 0, a, c, rfl, by simp, h.kp ((Kp.refl w).alloc _), hl⟩
  | 1 =>
    simp only [List.getElem?_cons_succ, List.getElem?_cons_zero, Option.some.injEq] at hi
    subst hi
    exact ⟨_, 0, b, d, rfl, by simp, h2.kp ((Kp.refl w).alloc _), hl2⟩
  | i + 2 => simp at hi
theorem vlM_one2 {x y : RI} (hx : x.vl = true) (hy : y.vl = true) : vlM [[x, y]] = true := by
  rw [vlM_iff]; refine ⟨by simp, ⟨by show 1 ≤ 2; decide, by show 2 ≤ 8; decide⟩, fun r hr => ?_⟩
  simp only [List.mem_singleton] at hr; subst hr
  refine ⟨rfl, fun z hz => ?_⟩
  simp only [List.mem_cons, List.not_mem_nil, or_false] at hz
  rcases hz with rfl | rfl <;> assumption
theorem vlM_two1 {x y : RI} (hx : x.vl = true) (hy : y.vl = true) : vlM [[x], [y]] = true := by
  rw [vlM_iff]; refine ⟨by simp, ⟨by show 1 ≤ 1; decide, by show 1 ≤ 8; decide⟩, fun r hr => ?_⟩
  simp only [List.mem_cons, List.not_mem_nil, or_false] at hr
  rcases hr with rfl | rfl
  · refine ⟨rfl, fun z hz => ?_⟩
    simp only [List.mem_singleton] at hz; subst hz; exact hx
  · refine ⟨rfl, fun z hz => ?_⟩
    simp only [List.mem_singleton] at hz; subst hz; exact hy
theorem vlM_two2 {x y u v : RI} (hx : x.vl = true) (hy : y.vl = true) (hu : u.vl = true) (hv : v.vl = true) : vlM [[x, y], [u, v]] = true := by
  rw [vlM_iff]; refine ⟨by simp, ⟨by show 1 ≤ 2; decide, by show 2 ≤ 8; decide⟩, fun r hr => ?_⟩
  simp only [List.mem_cons, List.not_mem_nil, or_false] at hr
  rcases hr with rfl | rfl
  · refine ⟨rfl, fun z hz => ?_⟩
    simp only [List.mem_cons, List.not_mem_nil, or_false] at hz
    rcases hz with rfl | rfl <;> assumption
  · refine ⟨rfl, fun z hz => ?_⟩
    simp only [List.mem_cons, List.not_mem_nil, or_false] at hz
    rcases hz with rfl | rfl <;> assumption
end Go.Proofs.YtdidocdpjiiedaaGreatDoor
end

section
namespace Go.Proofs.YtdidocdpjiiedaaGreatDoor
open Go.RowKit

set_option maxHeartbeats 1000000 in
theorem number7_any (x y : RD) (w : World) (hx : x.rd w) (hy : y.rd w) :
    Calls Tryz.prog 16 #[.agg #[.bool x.neg, .slice x.a x.xs.length x.c, .int .i64 x.e], .agg #[.bool y.neg, .slice y.a y.xs.length y.c, .int .i64 y.e]] w fun e w' => e = .returned (.bool (sameR x y)) ∧ Kp w w' := by
  have H := Lib.hid (show sameR x y = ((x.neg == y.neg) && (decide (x.e = y.e) && decide (x.xs = y.xs))) from rfl)
  have hk := ((Kp.refl w).alloc (.cells #[.bool x.neg, .slice x.a x.xs.length x.c, .int .i64 x.e] 28)).alloc (.cells #[.bool y.neg, .slice y.a y.xs.length y.c, .int .i64 y.e] 28)
  have hxl := hx.2.2.2.1
  by_cases hn : x.neg = y.neg
  · have hn1 : (x.neg == y.neg) = true := by rw [hn]; cases y.neg <;> rfl
    by_cases he : x.e = y.e
    · have he1 : (x.e == y.e) = true := beq_iff_eq.2 he
      have Hn := Lib.hid (And.intro hn1 he)
      clear hn he
      go_enter Tryz.func16, Tryz.ntmps16
      go_wp2_with fail
      refine (eqU_any x.a y.a x.xs y.xs x.c y.c _ (hx.1.kp hk) (hy.1.kp hk) hxl).mono ?_
      rintro e w3 ⟨rfl, hk3⟩
      go_wp2_with fail
      go_ret
      exact ⟨ret_bool (by rw [H.out, Hn.out.1, Hn.out.2]; simp), hk.trans hk3⟩
    · have he1 : (x.e == y.e) = false := beq_eq_false_iff_ne.2 he
      have Hn := Lib.hid he
      clear hn he
      go_enter Tryz.func16, Tryz.ntmps16
      go_wp2_with fail
      go_ret
      exact ⟨ret_bool (by rw [H.out, decide_eq_false Hn.out]; simp), hk⟩
  · have hn1 : (x.neg == y.neg) = false := by cases h1 : x.neg <;> cases h2 : y.neg <;> simp_all
    clear hn
    go_enter Tryz.func16, Tryz.ntmps16
    go_wp2_with fail
    go_ret
    exact ⟨ret_bool (by rw [H.out, hn1]; simp), hk⟩
/-- equal fields of intervals -/
def oneR (x y : RI) : Bool := (x.all == y.all) && (sameR x.lo y.lo && sameR x.hi y.hi)
theorem oneR_pl {w w' : World} {x y : RI} (hx : x.rd w) (hy : y.rd w') (vx : x.vl = true) (vy : y.vl = true) (h : x.pl = y.pl) : oneR x y = true := by
  have ha := pl_all h
  unfold oneR
  cases hxa : x.all with
  | true =>
    have hya : y.all = true := by rw [← ha]; exact hxa
    unfold RI.vl at vx vy
    rw [hxa, if_pos rfl, Bool.and_eq_true] at vx
    rw [hya, if_pos rfl, Bool.and_eq_true] at vy
    obtain ⟨a1, a2, a3⟩ := RD.zr_parts.1 vx.1
    obtain ⟨b1, b2, b3⟩ := RD.zr_parts.1 vx.2
    obtain ⟨c1, c2, c3⟩ := RD.zr_parts.1 vy.1
    obtain ⟨d1, d2, d3⟩ := RD.zr_parts.1 vy.2
    rw [hya]
    unfold sameR
    rw [a1, a2, a3, b1, b2, b3, c1, c2, c3, d1, d2, d3]
    rfl
  | false =>
    have hya : y.all = false := by rw [← ha]; exact hxa
    have ox : x.ok w := ⟨hx, hxa, vx⟩
    have oy : y.ok w' := ⟨hy, hya, vy⟩
    rw [hya, sameR_dy ox.lo oy.lo (pl_lo h), sameR_dy ox.hi oy.hi (pl_hi h)]
    rfl
set_option maxRecDepth 100000 in
set_option maxHeartbeats 4000000 in
theorem one7_any (x y : RI) (w : World) (hx : x.rd w) (hy : y.rd w) :
    Calls Tryz.prog 25 #[.agg #[.bool x.lo.neg, .slice x.lo.a x.lo.xs.length x.lo.c, .int .i64 x.lo.e, .bool x.hi.neg, .slice x.hi.a x.hi.xs.length x.hi.c, .int .i64 x.hi.e, .bool x.all], .agg #[.bool y.lo.neg, .slice y.lo.a y.lo.xs.length y.lo.c, .int .i64 y.lo.e, .bool y.hi.neg, .slice y.hi.a y.hi.xs.length y.hi.c, .int .i64 y.hi.e, .bool y.all]] w fun e w' => e = .returned (.bool (oneR x y)) ∧ Kp w w' := by
  have H := Lib.hid (show oneR x y = ((x.all == y.all) && (sameR x.lo y.lo && sameR x.hi y.hi)) from rfl)
  by_cases hn : x.all = y.all
  · have hn1 : (x.all == y.all) = true := by rw [hn]; cases y.all <;> rfl
    have Hn := Lib.hid hn1
    clear hn
    go_enter Tryz.func25, Tryz.ntmps25
    go_wp2_with fail
    generalize hW : ((w.alloc _).alloc _) = W at *
    have hk : Kp w W := hW ▸ ((Kp.refl w).alloc _).alloc _
    have hS : (W.cell? ⟨w.heap.size, 0, none⟩ = some (.bool x.lo.neg) ∧ W.cell? ⟨w.heap.size, 1, none⟩ = some (.slice x.lo.a x.lo.xs.length x.lo.c) ∧ W.cell? ⟨w.heap.size, 2, none⟩ = some (.int .i64 x.lo.e) ∧ W.cell? ⟨w.heap.size, 3, none⟩ = some (.bool x.hi.neg) ∧ W.cell? ⟨w.heap.size, 4, none⟩ = some (.slice x.hi.a x.hi.xs.length x.hi.c) ∧ W.cell? ⟨w.heap.size, 5, none⟩ = some (.int .i64 x.hi.e) ∧ W.cell? ⟨w.heap.size, 6, none⟩ = some (.bool x.all)) ∧ W.cell? ⟨w.heap.size + 1, 0, none⟩ = some (.bool y.lo.neg) ∧ W.cell? ⟨w.heap.size + 1, 1, none⟩ = some (.slice y.lo.a y.lo.xs.length y.lo.c) ∧ W.cell? ⟨w.heap.size + 1, 2, none⟩ = some (.int .i64 y.lo.e) ∧ W.cell? ⟨w.heap.size + 1, 3, none⟩ = some (.bool y.hi.neg) ∧ W.cell? ⟨w.heap.size + 1, 4, none⟩ = some (.slice y.hi.a y.hi.xs.length y.hi.c) ∧ W.cell? ⟨w.heap.size + 1, 5, none⟩ = some (.int .i64 y.hi.e) ∧ W.cell? ⟨w.heap.size + 1, 6, none⟩ = some (.bool y.all) := by rw [← hW]; exact keep77 (Kp.refl _) (by simp)
    clear hW
    go_fit (number7_any x.lo y.lo _ (hx.1.kp hk) (hy.1.kp hk))
    rintro e w1 ⟨rfl, hk1⟩
    cases hl : sameR x.lo y.lo with
    | false =>
      rw [hl] at H
      clear hl
      go_wp2_with fail
      go_ret
      exact ⟨ret_bool (by rw [H.out]; simp), hk.trans hk1⟩
    | true =>
      rw [hl] at H
      clear hl
      obtain ⟨⟨s0, s1, s2, s3, s4, s5, s6⟩, t0, t1, t2, t3, t4, t5, t6⟩ := keep77 hk1 hS
      clear hS
      go_wp2_with fail
      have hk2 := hk.trans hk1
      go_fit (number7_any x.hi y.hi _ (hx.2.kp hk2) (hy.2.kp hk2))
      rintro e w2 ⟨rfl, hk3⟩
      go_wp2_with fail
      go_ret
      exact ⟨ret_bool (by rw [H.out, Hn.out]; simp), hk2.trans hk3⟩
  · have hn1 : (x.all == y.all) = false := by cases h1 : x.all <;> cases h2 : y.all <;> simp_all
    rw [hn1] at H
    clear hn
    go_enter Tryz.func25, Tryz.ntmps25
    go_wp2_with fail
    go_ret
    exact ⟨ret_bool (by rw [H.out]; simp), ((Kp.refl w).alloc _).alloc _⟩
end Go.Proofs.YtdidocdpjiiedaaGreatDoor
end
