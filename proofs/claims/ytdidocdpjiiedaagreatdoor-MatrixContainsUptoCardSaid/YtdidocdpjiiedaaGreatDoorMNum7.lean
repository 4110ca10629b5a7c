/-
  Walks: the law's num.
  Walks: interval.Whole, made, Add, of valid intervals.
  Walks: interval.Neg, Sub, of valid intervals.
  Walks: dyadic.Abs of valid numbers.
  Walks: interval.Mag of valid intervals.
-/
import Derived.Deep.LoopGhost
import Derived.Deep.RegionHeld3
import Derived.Test.YtdidocdpjiiedaaGreatDoorMRoAdd
import Derived.Test.YtdidocdpjiiedaaGreatDoorMIvE
import Derived.Test.YtdidocdpjiiedaaGreatDoorMSumH
import Derived.Deep.DeepFit
import Derived.Test.YtdidocdpjiiedaaGreatDoorMOpenM
import Derived.Test.YtdidocdpjiiedaaGreatDoorMSign
section
namespace Go.Proofs.YtdidocdpjiiedaaGreatDoor
open Go.RowKit

theorem limbs_one7 {m : Nat} (h0 : 0 < m) (h1 : m < 4294967296) : limbs m = [m] := by
  rw [limbs_pos (by omega), Nat.mod_eq_of_lt h1, Nat.div_eq_of_lt h1, limbs_zero]
theorem intD_oks {n : Int} (h : n.natAbs ≤ 1000) : (intD n).ok := (intD_isP (p := 10) (by decide) (by decide) (by omega)).1
theorem intD_eqs {d : Dy} {n : Int} (hd : d.ok) (hn : n.natAbs ≤ 1000) (h : d.iv = n * 2 ^ 16384) : d = intD n := Dy.iv_inj hd (intD_oks hn) (h.trans (intD_iv n).symm)
theorem Box3.setN {w : World} {g : Nat} {x0 x1 x2 : Value} (h : Box3 w g x0 x1 x2) (hx : ∀ n : Int, x2 ≠ .int .u32 n) (v : Value) : Box3 (w.setCell ⟨g, 2, none⟩ v) g x0 x1 v ∧ Upd g w (w.setCell ⟨g, 2, none⟩ v) := by
  obtain ⟨h0, h1, h2, f0, f1, f2⟩ := h
  have U := (Upd.refl g w).step h2 hx v
  exact ⟨⟨set_at (by decide) h0, set_at (by decide) h1, cell_set_eq h2, (U.1 _).trans f0, (U.1 _).trans f1, (U.1 _).trans f2⟩, U⟩
theorem Box3.setM {w : World} {g : Nat} {x0 x1 x2 : Value} (h : Box3 w g x0 x1 x2) (hx : ∀ n : Int, x1 ≠ .int .u32 n) (v : Value) : Box3 (w.setCell ⟨g, 1, none⟩ v) g x0 v x2 ∧ Upd g w (w.setCell ⟨g, 1, none⟩ v) := by
  obtain ⟨h0, h1, h2, f0, f1, f2⟩ := h
  have U := (Upd.refl g w).step h1 hx v
  exact ⟨⟨set_at (by decide) h0, cell_set_eq h1, set_at (by decide) h2, (U.1 _).trans f0, (U.1 _).trans f1, (U.1 _).trans f2⟩, U⟩
theorem Upd.box3 {g b : Nat} {w W : World} (h : Upd g w W) (hb : b ≠ g) {x0 x1 x2 : Value} (f : Box3 w b x0 x1 x2) : Box3 W b x0 x1 x2 := by
  obtain ⟨h1, _, _, h4, _⟩ := h
  have key (i : Nat) : W.cell? ⟨b, i, none⟩ = w.cell? ⟨b, i, none⟩ := h4 _ hb
  unfold Box3
  simp only [key, h1]
  exact f
set_option maxHeartbeats 4000000 in
theorem num7_any (n : Int) (w : World) (h0 : n ≠ 0) (hb : n.natAbs ≤ 1000) :
    Calls Tryz.prog 51 #[.int .i64 n] w fun e w' => ∃ y : RD, e = .returned (.agg #[.bool y.neg, .slice y.a y.xs.length y.c, .int .i64 y.e]) ∧ y.ok w' ∧ y.dy = intD n ∧ Kp w w' := by
  have hlo : -1000 ≤ n := by omega
  have hhi : n ≤ 1000 := by omega
  obtain ⟨N, hN⟩ : ∃ N : Nat, N = n.natAbs := ⟨_, rfl⟩
  have hmax : max n (-n) = (N : Int) := by omega
  have hz1 : ((N : Int) == 0) = false := beq_eq_false_iff_ne.2 (by omega)
  have HN := Lib.hid (And.intro hN (show 0 < N ∧ N ≤ 1000 by omega))
  obtain ⟨B, hB⟩ : ∃ B : Bool, B = decide (n < 0) := ⟨_, rfl⟩
  have HB := Lib.hid hB
  clear hN h0 hb
  go_enter Tryz.func51, Tryz.ntmps51
  go_upto_region 3 with fail
  rw [← hB]
  clear hB
  have hO : Box3 ((w.alloc (.cells #[.bool false, .slice none 0 0, .int .i64 0] 28)).alloc (.cells #[.bool B, .slice none 0 0, .int .i64 0] 28)) w.heap.size (.bool false) (.slice none 0 0) (.int .i64 0) := (Box3.new w _ _ _ _).kp ((Kp.refl _).alloc _)
  have hD : Box3 ((w.alloc (.cells #[.bool false, .slice none 0 0, .int .i64 0] 28)).alloc (.cells #[.bool B, .slice none 0 0, .int .i64 0] 28)) (w.heap.size + 1) (.bool B) (.slice none 0 0) (.int .i64 0) := by
    have := Box3.new (w.alloc (.cells #[.bool false, .slice none 0 0, .int .i64 0] 28)) (.bool B) (.slice none 0 0) (.int .i64 0) 28
    rwa [World.size_alloc] at this
  have hk : Kp w ((w.alloc (.cells #[.bool false, .slice none 0 0, .int .i64 0] 28)).alloc (.cells #[.bool B, .slice none 0 0, .int .i64 0] 28)) := ((Kp.refl w).alloc _).alloc _
  generalize ((w.alloc (.cells #[.bool false, .slice none 0 0, .int .i64 0] 28)).alloc (.cells #[.bool B, .slice none 0 0, .int .i64 0] 28)) = W at *
  go_wp2_with fail
  go_loopg [0] N (fun q v wr => ∃ e : Nat, v = .int .i64 q ∧ 0 < q ∧ q * 2 ^ e = N ∧ Kp w wr ∧ Box3 wr w.heap.size (.bool false) (.slice none 0 0) (.int .i64 0) ∧ Box3 wr (w.heap.size + 1) (.bool B) (.slice none 0 0) (.int .i64 e))
  case atStart => exact ⟨0, rfl, HN.out.2.1, by simp, hk, hO, hD⟩
  case round =>
    obtain ⟨e, rfl, hq0, hqe, hkr, hOr, hDr⟩ := hrel
    have HQ := Lib.hid (And.intro hq0 hqe)
    have he10 : e ≤ 10 := by
      have h1 : 2 ^ e ≤ N := by rw [← hqe]; exact Nat.le_mul_of_pos_left _ hq0
      have h2 := HN.out.2.2
      exact Classical.byContradiction fun h => by
        have : 2 ^ 11 ≤ 2 ^ e := Nat.pow_le_pow_right (by decide) (by omega)
        omega
    have hq9 : gk ≤ 1000 := by have h1 : gk ≤ N := by { rw [← hqe]; exact Nat.le_mul_of_pos_right _ (Nat.pow_pos (by decide)) }; have := HN.out.2.2; omega
    have hj9 : (gk : Int) ≤ 1000 := by omega
    clear hO hD hk hqe
    rcases Nat.mod_two_eq_zero_or_one gk with hm | hm
    · obtain ⟨j, rfl⟩ : ∃ j, gk = 2 * j := ⟨gk / 2, by omega⟩
      have hr : Int.tmod ((2 * j : Nat) : Int) 2 = 0 := by rw [Int.tmod_eq_emod_of_nonneg (by omega)]; omega
      have hd : Int.tdiv ((2 * j : Nat) : Int) 2 = (j : Int) := by rw [Int.tdiv_eq_ediv_of_nonneg (by omega)]; omega
      obtain ⟨q0, q1, q2, f0, f1, f2⟩ := id hDr
      go_upto_region 6 with fail
      have hj8 : (j : Int) ≤ 1000 := by omega
      go_region
      go_wp2_with fail
      go_roundg j
      case measure => omega
      case rel =>
        have hE := Box3.setN hDr (fun _ h => by cases h) (.int .i64 ((e : Int) + 1))
        exact ⟨e + 1, by go_num, by omega, by rw [Nat.pow_succ, Nat.mul_comm (2 ^ e) 2, ← Nat.mul_assoc, Nat.mul_comm j 2]; exact HQ.out.2, (hE.2.2.2.1 _ hkr (by omega)).drew, (hE.2.box3 (by omega) hOr).kp (Kp.refl _).drew, hE.1.kp (Kp.refl _).drew⟩
    · have hr : Int.tmod ((gk : Nat) : Int) 2 = 1 := by rw [Int.tmod_eq_emod_of_nonneg (by omega)]; omega
      have hA := (Kp.refl wr).alloc (.cells #[.int .u32 (gk : Int)] 88)
      have hDA := hDr.kp hA
      obtain ⟨q0, q1, q2, f0, f1, f2⟩ := id hDA
      go_upto_region 8 with fail
      obtain ⟨hM, hU⟩ := Box3.setM hDA (fun _ h => by cases h) (.slice (some ⟨wr.heap.size, 0, none⟩) 1 1)
      have hRd : Rd (wr.alloc (.cells #[.int .u32 (gk : Int)] 88)) (some ⟨wr.heap.size, 0, none⟩) [gk] := ⟨by intro x hx; simp at hx; omega, .inr ⟨_, _, rfl, fun i hi => by
        obtain rfl : i = 0 := by simp at hi; omega
        simp [nth]⟩⟩
      have hRd2 := hU.2.1 _ _ hRd
      have hO2 := hU.box3 (by omega) (hOr.kp hA)
      have hK2 := hU.2.2.1 _ (hkr.trans hA) (by omega)
      clear q0 q1 q2 f0 f1 f2 hDA hA hRd hU hOr hDr hkr
      generalize ((wr.alloc _).setCell _ _) = W9 at *
      obtain ⟨q0, q1, q2, _⟩ := id hM
      obtain ⟨r0, r1, r2, f0, f1, f2⟩ := id hO2
      go_wp2_with fail
      have hst := stored r0 r1 r2 (fun _ h => by cases h) (fun _ h => by cases h) (fun _ h => by cases h) (.bool B) (.slice (some ⟨wr.heap.size, 0, none⟩) 1 1) (.int .i64 e)
      generalize (((W9.setCell _ _).setCell _ _).setCell _ _) = W8 at hst ⊢
      obtain ⟨s0, s1, s2, _, s4, s5, _, _⟩ := hst
      have hok : (⟨B, gk, (e : Int)⟩ : Dy).ok := by
        have hb1 : bits gk ≤ 10 := bits_le.2 (by omega)
        exact .inr ⟨hm, by show bits gk ≤ 4096; omega, by show (-16384 : Int) ≤ e; omega, by show (e : Int) ≤ 16384; omega, by show (bits gk : Int) + e ≤ 16384; omega⟩
      have hdy : (⟨B, gk, (e : Int)⟩ : Dy) = intD n := by
        refine intD_eqs hok ?_ ?_
        · omega
        · rw [iv_sg]
          show sg B gk * 2 ^ ((e : Int) + 16384).toNat = _
          rw [show ((e : Int) + 16384).toNat = e + 16384 from by omega, Int.pow_add, ← Int.mul_assoc]
          congr 1
          have hN9 : ((gk * 2 ^ e : Nat) : Int) = (n.natAbs : Int) := by rw [HQ.out.2, HN.out.1]
          rw [Int.natCast_mul, Int.natCast_pow] at hN9
          have hBn := HB.out
          unfold sg
          cases B with
          | true =>
            have : n < 0 := by simpa using hBn.symm
            rw [if_pos rfl, Int.neg_mul]
            have e9 : ((2 : Nat) : Int) = 2 := rfl
            rw [e9] at hN9
            omega
          | false =>
            have : ¬ n < 0 := by simpa using hBn.symm
            rw [if_neg (by decide)]
            have e9 : ((2 : Nat) : Int) = 2 := rfl
            rw [e9] at hN9
            omega
      have hl1 : limbs gk = [gk] := limbs_one7 (by omega) (by omega)
      refine bodyPost_ret (v := .agg #[.bool B, .slice (some ⟨wr.heap.size, 0, none⟩) 1 1, .int .i64 e]) (by simp [results, Tryz.results51, go_sem, s0, s1, s2]) rfl ?_
      refine ⟨rdOf ⟨B, gk, e⟩ (some ⟨wr.heap.size, 0, none⟩) 1, ?_, rdOf_ok hok (by show Rd W8 _ (limbs gk); rw [hl1]; exact s4 _ _ hRd2) (by show (limbs gk).length ≤ 1; rw [hl1]; exact Nat.le_refl _) (by decide), by rw [rdOf_dy]; exact hdy, s5 _ hK2 (by omega)⟩
      unfold rdOf
      show Ending.returned (.agg #[.bool B, .slice (some ⟨wr.heap.size, 0, none⟩) 1 1, .int .i64 e]) = .returned (.agg #[.bool B, .slice (some ⟨wr.heap.size, 0, none⟩) (limbs gk).length 1, .int .i64 e])
      rw [hl1]; rfl
end Go.Proofs.YtdidocdpjiiedaaGreatDoor
end

section
namespace Go.Proofs.YtdidocdpjiiedaaGreatDoor
open Go.RowKit

/-- two intervals in a block of the call's own, as they come -/
theorem rowI_twoR (w : World) (x y : RI) (hx : x.rd w) (hy : y.rd w) (t : TypeId) : RowI (w.alloc (.cells #[.bool x.lo.neg, .slice x.lo.a x.lo.xs.length x.lo.c, .int .i64 x.lo.e, .bool x.hi.neg, .slice x.hi.a x.hi.xs.length x.hi.c, .int .i64 x.hi.e, .bool x.all, .bool y.lo.neg, .slice y.lo.a y.lo.xs.length y.lo.c, .int .i64 y.lo.e, .bool y.hi.neg, .slice y.hi.a y.hi.xs.length y.hi.c, .int .i64 y.hi.e, .bool y.all] t)) (some ⟨w.heap.size, 0, none⟩) [x, y] := by
  intro i z hi
  have hk := (Kp.refl w).alloc (.cells #[.bool x.lo.neg, .slice x.lo.a x.lo.xs.length x.lo.c, .int .i64 x.lo.e, .bool x.hi.neg, .slice x.hi.a x.hi.xs.length x.hi.c, .int .i64 x.hi.e, .bool x.all, .bool y.lo.neg, .slice y.lo.a y.lo.xs.length y.lo.c, .int .i64 y.lo.e, .bool y.hi.neg, .slice y.hi.a y.hi.xs.length y.hi.c, .int .i64 y.hi.e, .bool y.all] t)
  match i with
  | 0 =>
    simp only [List.getElem?_cons_zero, Option.some.injEq] at hi
    subst hi
    refine ⟨_, 0, rfl, hx.kp hk, ?_, ?_, ?_, ?_, ?_, ?_, ?_⟩ <;> simp
  | 1 =>
    simp only [List.getElem?_cons_succ, List.getElem?_cons_zero, Option.some.injEq] at hi
    subst hi
    refine ⟨_, 0, rfl, hy.kp hk, ?_, ?_, ?_, ?_, ?_, ?_, ?_⟩ <;> simp
  | i + 2 => simp at hi
theorem Var7.new1 (w : World) (t : TypeId) (o1 : Obj) : Var7 ((w.alloc o1).alloc (.cells #[.bool false, .slice none 0 0, .int .i64 0, .bool false, .slice none 0 0, .int .i64 0, .bool false] t)) (w.heap.size + 1) := by
  have := Var7.new (w.alloc o1) t
  rwa [World.size_alloc] at this
theorem Upd.rdD {g : Nat} {w W : World} (h : Upd g w W) {x : RD} (hx : x.rd w) : x.rd W := ⟨h.2.1 _ _ hx.1, hx.2⟩
theorem Upd.rdI {g : Nat} {w W : World} (h : Upd g w W) {x : RI} (hx : x.rd w) : x.rd W := ⟨h.rdD hx.1, h.rdD hx.2⟩
set_option maxHeartbeats 4000000 in
theorem Whole_any (w : World) :
    Calls Tryz.prog 123 #[] w fun e w' => e = .returned (.agg #[.bool false, .slice none 0 0, .int .i64 0, .bool false, .slice none 0 0, .int .i64 0, .bool true]) ∧ Kp w w' := by
  go_enter Tryz.func123, Tryz.ntmps123
  go_wp2_with fail
  refine bodyPost_ret (v := .agg #[.bool false, .slice none 0 0, .int .i64 0, .bool false, .slice none 0 0, .int .i64 0, .bool true]) (by simp [results, Tryz.results123, go_sem]) rfl ?_
  exact ⟨rfl, (Kp.refl w).alloc _⟩
/-- an interval of two numbers, or All -/
def madeR (x y : RD) (e f : Int) : RI := if e ≠ 0 ∨ f ≠ 0 then wholeR else ⟨x, y, false⟩
theorem madeR_rd {w : World} {x y : RD} {e f : Int} (hx : x.rd w) (hy : y.rd w) : (madeR x y e f).rd w := by
  unfold madeR; split
  · exact wholeR_rd w
  · exact ⟨hx, hy⟩
theorem madeR_pl {x y : RD} {l h : Dy × Int} (hx : x.dy = l.1) (hy : y.dy = h.1) : (madeR x y l.2 h.2).pl = mkI l h := by
  unfold madeR mkI; split
  · rfl
  · unfold RI.pl; rw [hx, hy]
theorem vl_mk2 {x y : RD} (hx : x.vl = true) (hy : y.vl = true) (h : x.iv ≤ y.iv) : RI.vl ⟨x, y, false⟩ = true := by
  unfold RI.vl
  have := @cmpZ_gt x.iv y.iv
  simp [hx, hy]; omega
theorem madeR_vl {x y : RD} {l h : Dy × Int} (hx : x.dy = l.1) (hy : y.dy = h.1) (vx : x.vl = true) (vy : y.vl = true) (hle : l.2 = 0 → h.2 = 0 → l.1.iv ≤ h.1.iv) : (madeR x y l.2 h.2).vl = true := by
  unfold madeR; split
  · rfl
  · next hn =>
    refine vl_mk2 vx vy ?_
    show x.dy.iv ≤ y.dy.iv
    rw [hx, hy]; exact hle (by omega) (by omega)
set_option maxRecDepth 100000 in
set_option maxHeartbeats 4000000 in
theorem made_any (x y : RD) (e f : Int) (w : World) :
    Calls Tryz.prog 125 #[.agg #[.bool x.neg, .slice x.a x.xs.length x.c, .int .i64 x.e], .int .i64 e, .agg #[.bool y.neg, .slice y.a y.xs.length y.c, .int .i64 y.e], .int .i64 f] w fun r w' => r = .returned (.agg #[.bool (madeR x y e f).lo.neg, .slice (madeR x y e f).lo.a (madeR x y e f).lo.xs.length (madeR x y e f).lo.c, .int .i64 (madeR x y e f).lo.e, .bool (madeR x y e f).hi.neg, .slice (madeR x y e f).hi.a (madeR x y e f).hi.xs.length (madeR x y e f).hi.c, .int .i64 (madeR x y e f).hi.e, .bool (madeR x y e f).all]) ∧ Kp w w' := by
  by_cases h : e ≠ 0 ∨ f ≠ 0
  · have HM := Lib.hid (show madeR x y e f = wholeR by unfold madeR; rw [if_pos h])
    by_cases he : e = 0
    · have hf : f ≠ 0 := h.resolve_left (fun k => k he)
      have g2 : (f != 0) = true := by rw [bne, beq_eq_false_iff_ne.2 hf]; rfl
      have g3 : (f == 0) = false := beq_eq_false_iff_ne.2 hf
      clear h hf
      subst he
      go_enter Tryz.func125, Tryz.ntmps125
      go_wp2_with fail
      generalize hW : (((w.alloc _).alloc _).alloc _) = W at *
      have hk : Kp w W := hW ▸ (((Kp.refl w).alloc _).alloc _).alloc _
      have hV : Var7 W (w.heap.size + 1 + 1) := by rw [← hW]; exact Var7.new2 _ _ _ _
      clear hW
      go_fit (Whole_any _)
      rintro r w1 ⟨rfl, hk1⟩
      have hk2 := hk.trans hk1
      obtain ⟨⟨q0, q1, q2, q3, q4, q5, q6⟩, f0, f1, f2, f3, f4, f5, f6⟩ := hV.kp hk1
      go_wp2_with fail
      generalize hW9 : ((((((w1.setCell _ _).setCell _ _).setCell _ _).setCell _ _).setCell _ _).setCell _ _).setCell _ _ = W9
      obtain ⟨⟨s0, s1, s2, s3, s4, s5, s6⟩, hU⟩ := stored7 (show Box7 w1 _ _ _ _ _ _ _ _ from ⟨q0, q1, q2, q3, q4, q5, q6⟩) (fun _ h => by cases h) (fun _ h => by cases h) (fun _ h => by cases h) (fun _ h => by cases h) (fun _ h => by cases h) (fun _ h => by cases h) (fun _ h => by cases h) _ _ _ _ _ _ _ hW9
      clear hW9 q0 q1 q2 q3 q4 q5 q6 f0 f1 f2 f3 f4 f5 f6
      refine bodyPost_ret (v := .agg #[.bool false, .slice none 0 0, .int .i64 0, .bool false, .slice none 0 0, .int .i64 0, .bool true]) (by simp [results, Tryz.results125, go_sem, s0, s1, s2, s3, s4, s5, s6]) rfl ?_
      rw [HM.out]
      exact ⟨rfl, hU.2.2.1 _ hk2 (by omega)⟩
    · have g1 : (e != 0) = true := by rw [bne, beq_eq_false_iff_ne.2 he]; rfl
      have g3 : (e == 0) = false := beq_eq_false_iff_ne.2 he
      clear h he
      go_enter Tryz.func125, Tryz.ntmps125
      go_wp2_with fail
      generalize hW : (((w.alloc _).alloc _).alloc _) = W at *
      have hk : Kp w W := hW ▸ (((Kp.refl w).alloc _).alloc _).alloc _
      have hV : Var7 W (w.heap.size + 1 + 1) := by rw [← hW]; exact Var7.new2 _ _ _ _
      clear hW
      go_fit (Whole_any _)
      rintro r w1 ⟨rfl, hk1⟩
      have hk2 := hk.trans hk1
      obtain ⟨⟨q0, q1, q2, q3, q4, q5, q6⟩, f0, f1, f2, f3, f4, f5, f6⟩ := hV.kp hk1
      go_wp2_with fail
      generalize hW9 : ((((((w1.setCell _ _).setCell _ _).setCell _ _).setCell _ _).setCell _ _).setCell _ _).setCell _ _ = W9
      obtain ⟨⟨s0, s1, s2, s3, s4, s5, s6⟩, hU⟩ := stored7 (show Box7 w1 _ _ _ _ _ _ _ _ from ⟨q0, q1, q2, q3, q4, q5, q6⟩) (fun _ h => by cases h) (fun _ h => by cases h) (fun _ h => by cases h) (fun _ h => by cases h) (fun _ h => by cases h) (fun _ h => by cases h) (fun _ h => by cases h) _ _ _ _ _ _ _ hW9
      clear hW9 q0 q1 q2 q3 q4 q5 q6 f0 f1 f2 f3 f4 f5 f6
      refine bodyPost_ret (v := .agg #[.bool false, .slice none 0 0, .int .i64 0, .bool false, .slice none 0 0, .int .i64 0, .bool true]) (by simp [results, Tryz.results125, go_sem, s0, s1, s2, s3, s4, s5, s6]) rfl ?_
      rw [HM.out]
      exact ⟨rfl, hU.2.2.1 _ hk2 (by omega)⟩
  · have HM := Lib.hid (show madeR x y e f = ⟨x, y, false⟩ by unfold madeR; rw [if_neg h])
    have he : e = 0 := Classical.byContradiction fun k => h (.inl k)
    have hf : f = 0 := Classical.byContradiction fun k => h (.inr k)
    clear h
    subst he
    subst hf
    go_enter Tryz.func125, Tryz.ntmps125
    go_wp2_with fail
    refine bodyPost_ret (v := .agg #[.bool (RI.mk x y false).lo.neg, .slice (RI.mk x y false).lo.a (RI.mk x y false).lo.xs.length (RI.mk x y false).lo.c, .int .i64 (RI.mk x y false).lo.e, .bool (RI.mk x y false).hi.neg, .slice (RI.mk x y false).hi.a (RI.mk x y false).hi.xs.length (RI.mk x y false).hi.c, .int .i64 (RI.mk x y false).hi.e, .bool (RI.mk x y false).all]) (by simp [results, Tryz.results125, go_sem]) rfl ?_
    rw [HM.out]
    exact ⟨rfl, (((Kp.refl w).alloc _).alloc _).alloc _⟩
/-- valid intervals other than All -/
theorem goodI_vl {x : RI} (h : x.vl = true) : goodI x = !x.all := by unfold goodI; rw [h]; simp
theorem ok_of {w : World} {x : RI} (h : x.rd w) (v : x.vl = true) (ha : x.all = false) : x.ok w := ⟨h, ha, v⟩
set_option maxRecDepth 100000 in
set_option maxHeartbeats 8000000 in
theorem IAdd_any (x y : RI) (p : Nat) (w : World) (hx : x.rd w) (hy : y.rd w) (vx : x.vl = true) (vy : y.vl = true) (h0 : 8 ≤ p) (h1 : p ≤ 512) (hT : Tab w) :
    Calls Tryz.prog 77 #[.agg #[.bool x.lo.neg, .slice x.lo.a x.lo.xs.length x.lo.c, .int .i64 x.lo.e, .bool x.hi.neg, .slice x.hi.a x.hi.xs.length x.hi.c, .int .i64 x.hi.e, .bool x.all], .agg #[.bool y.lo.neg, .slice y.lo.a y.lo.xs.length y.lo.c, .int .i64 y.lo.e, .bool y.hi.neg, .slice y.hi.a y.hi.xs.length y.hi.c, .int .i64 y.hi.e, .bool y.all], .int .i64 p] w (IvOut w (pAdd x.pl y.pl p)) := by
  have Hp := Lib.hid (show preB (p : Int) = true from preB_iff.2 ⟨by omega, by omega⟩)
  go_enter Tryz.func77, Tryz.ntmps77
  go_wp2_with fail
  generalize hW3 : (((w.alloc _).alloc _).alloc _) = W3 at *
  have hk3 : Kp w W3 := hW3 ▸ (((Kp.refl w).alloc _).alloc _).alloc _
  have hS3 : (W3.cell? ⟨w.heap.size, 0, none⟩ = some (.bool x.lo.neg) ∧ W3.cell? ⟨w.heap.size, 1, none⟩ = some (.slice x.lo.a x.lo.xs.length x.lo.c) ∧ W3.cell? ⟨w.heap.size, 2, none⟩ = some (.int .i64 x.lo.e) ∧ W3.cell? ⟨w.heap.size, 3, none⟩ = some (.bool x.hi.neg) ∧ W3.cell? ⟨w.heap.size, 4, none⟩ = some (.slice x.hi.a x.hi.xs.length x.hi.c) ∧ W3.cell? ⟨w.heap.size, 5, none⟩ = some (.int .i64 x.hi.e) ∧ W3.cell? ⟨w.heap.size, 6, none⟩ = some (.bool x.all)) ∧ W3.cell? ⟨w.heap.size + 1, 0, none⟩ = some (.bool y.lo.neg) ∧ W3.cell? ⟨w.heap.size + 1, 1, none⟩ = some (.slice y.lo.a y.lo.xs.length y.lo.c) ∧ W3.cell? ⟨w.heap.size + 1, 2, none⟩ = some (.int .i64 y.lo.e) ∧ W3.cell? ⟨w.heap.size + 1, 3, none⟩ = some (.bool y.hi.neg) ∧ W3.cell? ⟨w.heap.size + 1, 4, none⟩ = some (.slice y.hi.a y.hi.xs.length y.hi.c) ∧ W3.cell? ⟨w.heap.size + 1, 5, none⟩ = some (.int .i64 y.hi.e) ∧ W3.cell? ⟨w.heap.size + 1, 6, none⟩ = some (.bool y.all) := by rw [← hW3]; exact keep77 ((Kp.refl _).alloc _) (by simp)
  have hV3 : Var7 W3 (w.heap.size + 1 + 1) := hW3 ▸ Var7.new2 _ _ _ _
  have hsz : W3.heap.size = w.heap.size + 1 + 1 + 1 := by rw [← hW3]; simp
  have hR := rowI_twoR W3 x y (hx.kp hk3) (hy.kp hk3) 43
  rw [hsz] at hR
  have hk4 := (Kp.refl W3).alloc (.cells #[.bool x.lo.neg, .slice x.lo.a x.lo.xs.length x.lo.c, .int .i64 x.lo.e, .bool x.hi.neg, .slice x.hi.a x.hi.xs.length x.hi.c, .int .i64 x.hi.e, .bool x.all, .bool y.lo.neg, .slice y.lo.a y.lo.xs.length y.lo.c, .int .i64 y.lo.e, .bool y.hi.neg, .slice y.hi.a y.hi.xs.length y.hi.c, .int .i64 y.hi.e, .bool y.all] 43)
  generalize hW : W3.alloc _ = W at *
  have hS := keep77 hk4 hS3
  have hV := hV3.kp hk4
  have hk := hk3.trans hk4
  clear hW hW3 hS3 hV3 hk3 hk4 hsz
  refine (known_any _ [x, y] 2 _ hR (by simp)).mono ?_
  rintro e w1 ⟨rfl, hk1⟩
  have hS1 := keep77 hk1 hS
  have hV1 := hV.kp hk1
  have hk2 := (hk.trans hk1)
  have hT1 := hT.kp hk2
  have hx1 := hx.kp hk2
  have hy1 := hy.kp hk2
  clear hR hS hV hk hk1
  cases ha : x.all || y.all with
  | true =>
    have hg : [x, y].all goodI = false := by
      simp only [List.all_cons, List.all_nil, Bool.and_true]
      rw [goodI_vl vx, goodI_vl vy]
      cases hxa : x.all <;> cases hya : y.all <;> simp_all
    have HP := Lib.hid (show pAdd x.pl y.pl p = .whole by unfold pAdd; rw [if_pos (by exact ha)])
    rw [hg]
    clear hg ha hS1
    go_wp2_with fail
    refine (Whole_any _).mono ?_
    rintro e w2 ⟨rfl, hk3⟩
    have hk4 := hk2.trans hk3
    obtain ⟨⟨q0, q1, q2, q3, q4, q5, q6⟩, f0, f1, f2, f3, f4, f5, f6⟩ := hV1.kp hk3
    go_wp2_with fail
    generalize hW9 : ((((((w2.setCell _ _).setCell _ _).setCell _ _).setCell _ _).setCell _ _).setCell _ _).setCell _ _ = W9
    obtain ⟨⟨s0, s1, s2, s3, s4, s5, s6⟩, hU⟩ := stored7 (show Box7 w2 _ _ _ _ _ _ _ _ from ⟨q0, q1, q2, q3, q4, q5, q6⟩) (fun _ h => by cases h) (fun _ h => by cases h) (fun _ h => by cases h) (fun _ h => by cases h) (fun _ h => by cases h) (fun _ h => by cases h) (fun _ h => by cases h) _ _ _ _ _ _ _ hW9
    clear hW9 q0 q1 q2 q3 q4 q5 q6 f0 f1 f2 f3 f4 f5 f6
    refine bodyPost_ret (v := .agg #[.bool false, .slice none 0 0, .int .i64 0, .bool false, .slice none 0 0, .int .i64 0, .bool true]) (by simp [results, Tryz.results77, go_sem, s0, s1, s2, s3, s4, s5, s6]) rfl ?_
    rw [HP.out]
    exact ⟨wholeR, rfl, wholeR_rd _, rfl, rfl, hU.2.2.1 _ hk4 (by omega)⟩
  | false =>
    have hax : x.all = false := by cases hxa : x.all <;> simp_all
    have hay : y.all = false := by cases hya : y.all <;> simp_all
    have ox := ok_of hx1 vx hax
    have oy := ok_of hy1 vy hay
    have hg : [x, y].all goodI = true := by simp [(goodI_ok ox.1).2 ox, (goodI_ok oy.1).2 oy]
    have HP := Lib.hid (show pAdd x.pl y.pl p = mkI (adP x.lo.dy y.lo.dy p false) (adP x.hi.dy y.hi.dy p true) by unfold pAdd; rw [if_neg (by show ¬ (x.all || y.all) = true; rw [ha]; decide)]; rfl)
    have E1 := Lib.hid (addB_dy ox.lo oy.lo h0 h1 false)
    have E2 := Lib.hid (addB_dy ox.hi oy.hi h0 h1 true)
    have HOK := Lib.hid (fun a b => rndE_between (K := 0) (S := x.lo.dy.iv + y.lo.dy.iv) (T := x.hi.dy.iv + y.hi.dy.iv) (p := p) (q := p) (by omega) (by omega) (by omega) (by omega) (by
      have u1 := ox.parts.2.2
      have u2 := oy.parts.2.2
      show x.lo.iv + y.lo.iv ≤ x.hi.iv + y.hi.iv
      omega) a b)
    have C1 := fun (W : World) (k : Kp w1 W) => rAddDown_of x.lo y.lo (p : Int) _ _ W (fun W' k' => add_rd x.lo y.lo p false W' ((ox.lo.1.kp k).kp k') ((oy.lo.1.kp k).kp k') ((hT1.kp k).kp k'))
    have C2 := fun (W : World) (k : Kp w1 W) => rAddUp_of x.hi y.hi (p : Int) _ _ W (fun W' k' => add_rd x.hi y.hi p true W' ((ox.hi.1.kp k).kp k') ((oy.hi.1.kp k).kp k') ((hT1.kp k).kp k'))
    rw [E1.out] at C1
    rw [E2.out] at C2
    have K1 := Lib.hid (adP_ok x.lo.dy y.lo.dy h0 h1 false)
    have K2 := Lib.hid (adP_ok x.hi.dy y.hi.dy h0 h1 true)
    obtain ⟨L, hL⟩ : ∃ L, L = adP x.lo.dy y.lo.dy p false := ⟨_, rfl⟩
    obtain ⟨H, hH⟩ : ∃ H, H = adP x.hi.dy y.hi.dy p true := ⟨_, rfl⟩
    have HOK2 := Lib.hid (show L.2 = 0 → H.2 = 0 → L.1.iv ≤ H.1.iv by rw [hL, hH]; exact HOK.out)
    rw [← hL] at C1 HP K1
    rw [← hH] at C2 HP K2
    have D1 := Lib.hid C1
    have D2 := Lib.hid C2
    rw [hg]
    clear hg ha hax hay C1 C2 E1 E2 HOK hL hH
    have Ox := Lib.hid ox
    have Oy := Lib.hid oy
    clear ox oy
    go_wp2_with fail
    go_fit (permitted_any (p : Int) _)
    rintro e w2 ⟨rfl, rfl⟩
    rw [Hp.out]
    obtain ⟨⟨s0, s1, s2, s3, s4, s5, s6⟩, t0, t1, t2, t3, t4, t5, t6⟩ := id hS1
    go_wp2_with fail
    go_fit (D1.out _ (.refl _))
    rintro e w3 ⟨z1, rfl, rz, dz, vz, k3⟩
    have ka := (Kp.refl w3).alloc (.cells #[.bool z1.neg, .slice z1.a z1.xs.length z1.c, .int .i64 z1.e] 28)
    have k3a := k3.trans ka
    have R1 := Lib.hid (rz.kp ka)
    have Z1 := Lib.hid (And.intro dz (vz K1.out))
    have hS2 := keep77 k3a hS1
    have hV2 := hV1.kp k3a
    have hk3 := hk2.trans k3a
    clear rz dz vz hS1 hV1 s0 s1 s2 s3 s4 s5 s6 t0 t1 t2 t3 t4 t5 t6 k3
    obtain ⟨⟨s0, s1, s2, s3, s4, s5, s6⟩, t0, t1, t2, t3, t4, t5, t6⟩ := id hS2
    go_wp2_with fail
    generalize hA3 : w3.alloc _ = A3 at *
    have hZ1 : A3.cell? ⟨w3.heap.size, 0, none⟩ = some (.bool z1.neg) ∧ A3.cell? ⟨w3.heap.size, 1, none⟩ = some (.slice z1.a z1.xs.length z1.c) ∧ A3.cell? ⟨w3.heap.size, 2, none⟩ = some (.int .i64 z1.e) := by rw [← hA3]; simp
    clear hA3 ka
    go_fit (D2.out _ k3a)
    rintro e w4 ⟨z2, rfl, rz, dz, vz, k4⟩
    have ka := (Kp.refl w4).alloc (.cells #[.bool z2.neg, .slice z2.a z2.xs.length z2.c, .int .i64 z2.e] 28)
    have k4a := k4.trans ka
    have R2 := Lib.hid (rz.kp ka)
    have Z2 := Lib.hid (And.intro dz (vz K2.out))
    have hZ1b := keep3 k4a hZ1
    have R1b := Lib.hid (R1.out.kp k4a)
    have hV3 := hV2.kp k4a
    have hk4 := hk3.trans k4a
    clear rz dz vz hS2 hV2 hZ1 R1 s0 s1 s2 s3 s4 s5 s6 t0 t1 t2 t3 t4 t5 t6 k4 D1 D2
    obtain ⟨m0, m1, m2⟩ := hZ1b
    go_wp2_with fail
    generalize hA4 : w4.alloc _ = A4 at *
    obtain ⟨n0, n1, n2⟩ : A4.cell? ⟨w4.heap.size, 0, none⟩ = some (.bool z2.neg) ∧ A4.cell? ⟨w4.heap.size, 1, none⟩ = some (.slice z2.a z2.xs.length z2.c) ∧ A4.cell? ⟨w4.heap.size, 2, none⟩ = some (.int .i64 z2.e) := by rw [← hA4]; simp
    clear hA4 ka
    go_fit (made_any z1 z2 _ _ _)
    rintro e w5 ⟨rfl, k5⟩
    have hk5 := hk4.trans k5
    obtain ⟨⟨q0, q1, q2, q3, q4, q5, q6⟩, f0, f1, f2, f3, f4, f5, f6⟩ := hV3.kp k5
    have R3 := Lib.hid (madeR_rd (e := L.2) (f := H.2) (R1b.out.kp k5) (R2.out.kp k5))
    have Zp := Lib.hid (madeR_pl (l := L) (h := H) Z1.out.1 Z2.out.1)
    have Zv := Lib.hid (madeR_vl (l := L) (h := H) Z1.out.1 Z2.out.1 Z1.out.2 Z2.out.2 HOK2.out)
    clear m0 m1 m2 n0 n1 n2 hV3
    generalize madeR z1 z2 L.2 H.2 = Z at *
    go_wp2_with fail
    generalize hW9 : ((((((w5.setCell _ _).setCell _ _).setCell _ _).setCell _ _).setCell _ _).setCell _ _).setCell _ _ = W9
    obtain ⟨⟨s0, s1, s2, s3, s4, s5, s6⟩, hU⟩ := stored7 (show Box7 w5 _ _ _ _ _ _ _ _ from ⟨q0, q1, q2, q3, q4, q5, q6⟩) (fun _ h => by cases h) (fun _ h => by cases h) (fun _ h => by cases h) (fun _ h => by cases h) (fun _ h => by cases h) (fun _ h => by cases h) (fun _ h => by cases h) _ _ _ _ _ _ _ hW9
    clear hW9 q0 q1 q2 q3 q4 q5 q6 f0 f1 f2 f3 f4 f5 f6
    refine bodyPost_ret (v := .agg #[.bool Z.lo.neg, .slice Z.lo.a Z.lo.xs.length Z.lo.c, .int .i64 Z.lo.e, .bool Z.hi.neg, .slice Z.hi.a Z.hi.xs.length Z.hi.c, .int .i64 Z.hi.e, .bool Z.all]) (by simp [results, Tryz.results77, go_sem, s0, s1, s2, s3, s4, s5, s6]) rfl ?_
    rw [HP.out]
    exact ⟨Z, rfl, hU.rdI R3.out, Zp.out, Zv.out, hU.2.2.1 _ hk5 (by omega)⟩
end Go.Proofs.YtdidocdpjiiedaaGreatDoor
end

section
namespace Go.Proofs.YtdidocdpjiiedaaGreatDoor
open Go.RowKit

theorem rowI_oneR (w : World) (x : RI) (hx : x.rd w) (t : TypeId) : RowI (w.alloc (.cells #[.bool x.lo.neg, .slice x.lo.a x.lo.xs.length x.lo.c, .int .i64 x.lo.e, .bool x.hi.neg, .slice x.hi.a x.hi.xs.length x.hi.c, .int .i64 x.hi.e, .bool x.all] t)) (some ⟨w.heap.size, 0, none⟩) [x] := by
  intro i z hi
  have hk := (Kp.refl w).alloc (.cells #[.bool x.lo.neg, .slice x.lo.a x.lo.xs.length x.lo.c, .int .i64 x.lo.e, .bool x.hi.neg, .slice x.hi.a x.hi.xs.length x.hi.c, .int .i64 x.hi.e, .bool x.all] t)
  match i with
  | 0 =>
    simp only [List.getElem?_cons_zero, Option.some.injEq] at hi
    subst hi
    refine ⟨_, 0, rfl, hx.kp hk, ?_, ?_, ?_, ?_, ?_, ?_, ?_⟩ <;> simp
  | i + 1 => simp at hi
theorem Dy.opp_ok2 {d : Dy} (h : d.ok) : d.opp.ok := by
  unfold Dy.opp
  split
  · exact Dy.ok_zero
  · next h0 =>
    rcases h with h | h
    · exact absurd h.1 h0
    · exact .inr h
theorem set7one {w : World} {g b : Nat} (n : b ≠ g) {v0 v1 v2 v3 v4 v5 v6 x0 x1 x2 x3 x4 x5 x6 : Value} (h : w.cell? ⟨b, 0, none⟩ = some v0 ∧ w.cell? ⟨b, 1, none⟩ = some v1 ∧ w.cell? ⟨b, 2, none⟩ = some v2 ∧ w.cell? ⟨b, 3, none⟩ = some v3 ∧ w.cell? ⟨b, 4, none⟩ = some v4 ∧ w.cell? ⟨b, 5, none⟩ = some v5 ∧ w.cell? ⟨b, 6, none⟩ = some v6) :
    (((((((w.setCell ⟨g, 0, none⟩ x0).setCell ⟨g, 1, none⟩ x1).setCell ⟨g, 2, none⟩ x2).setCell ⟨g, 3, none⟩ x3).setCell ⟨g, 4, none⟩ x4).setCell ⟨g, 5, none⟩ x5).setCell ⟨g, 6, none⟩ x6).cell? ⟨b, 0, none⟩ = some v0 ∧ (((((((w.setCell ⟨g, 0, none⟩ x0).setCell ⟨g, 1, none⟩ x1).setCell ⟨g, 2, none⟩ x2).setCell ⟨g, 3, none⟩ x3).setCell ⟨g, 4, none⟩ x4).setCell ⟨g, 5, none⟩ x5).setCell ⟨g, 6, none⟩ x6).cell? ⟨b, 1, none⟩ = some v1 ∧ (((((((w.setCell ⟨g, 0, none⟩ x0).setCell ⟨g, 1, none⟩ x1).setCell ⟨g, 2, none⟩ x2).setCell ⟨g, 3, none⟩ x3).setCell ⟨g, 4, none⟩ x4).setCell ⟨g, 5, none⟩ x5).setCell ⟨g, 6, none⟩ x6).cell? ⟨b, 2, none⟩ = some v2 ∧ (((((((w.setCell ⟨g, 0, none⟩ x0).setCell ⟨g, 1, none⟩ x1).setCell ⟨g, 2, none⟩ x2).setCell ⟨g, 3, none⟩ x3).setCell ⟨g, 4, none⟩ x4).setCell ⟨g, 5, none⟩ x5).setCell ⟨g, 6, none⟩ x6).cell? ⟨b, 3, none⟩ = some v3 ∧ (((((((w.setCell ⟨g, 0, none⟩ x0).setCell ⟨g, 1, none⟩ x1).setCell ⟨g, 2, none⟩ x2).setCell ⟨g, 3, none⟩ x3).setCell ⟨g, 4, none⟩ x4).setCell ⟨g, 5, none⟩ x5).setCell ⟨g, 6, none⟩ x6).cell? ⟨b, 4, none⟩ = some v4 ∧ (((((((w.setCell ⟨g, 0, none⟩ x0).setCell ⟨g, 1, none⟩ x1).setCell ⟨g, 2, none⟩ x2).setCell ⟨g, 3, none⟩ x3).setCell ⟨g, 4, none⟩ x4).setCell ⟨g, 5, none⟩ x5).setCell ⟨g, 6, none⟩ x6).cell? ⟨b, 5, none⟩ = some v5 ∧ (((((((w.setCell ⟨g, 0, none⟩ x0).setCell ⟨g, 1, none⟩ x1).setCell ⟨g, 2, none⟩ x2).setCell ⟨g, 3, none⟩ x3).setCell ⟨g, 4, none⟩ x4).setCell ⟨g, 5, none⟩ x5).setCell ⟨g, 6, none⟩ x6).cell? ⟨b, 6, none⟩ = some v6 := (set77 n n ⟨h, h⟩).1
set_option maxRecDepth 100000 in
set_option maxHeartbeats 8000000 in
theorem INeg_any (x : RI) (w : World) (hx : x.rd w) (vx : x.vl = true) :
    Calls Tryz.prog 131 #[.agg #[.bool x.lo.neg, .slice x.lo.a x.lo.xs.length x.lo.c, .int .i64 x.lo.e, .bool x.hi.neg, .slice x.hi.a x.hi.xs.length x.hi.c, .int .i64 x.hi.e, .bool x.all]] w (IvOut w x.pl.neg) := by
  go_enter Tryz.func131, Tryz.ntmps131
  go_wp2_with fail
  generalize hW3 : ((w.alloc _).alloc _) = W3 at *
  have hk3 : Kp w W3 := hW3 ▸ ((Kp.refl w).alloc _).alloc _
  have hS3 : W3.cell? ⟨w.heap.size, 0, none⟩ = some (.bool x.lo.neg) ∧ W3.cell? ⟨w.heap.size, 1, none⟩ = some (.slice x.lo.a x.lo.xs.length x.lo.c) ∧ W3.cell? ⟨w.heap.size, 2, none⟩ = some (.int .i64 x.lo.e) ∧ W3.cell? ⟨w.heap.size, 3, none⟩ = some (.bool x.hi.neg) ∧ W3.cell? ⟨w.heap.size, 4, none⟩ = some (.slice x.hi.a x.hi.xs.length x.hi.c) ∧ W3.cell? ⟨w.heap.size, 5, none⟩ = some (.int .i64 x.hi.e) ∧ W3.cell? ⟨w.heap.size, 6, none⟩ = some (.bool x.all) := by rw [← hW3]; simp
  have hV3 : Var7 W3 (w.heap.size + 1) := by rw [← hW3]; exact Var7.new1 _ _ _
  have hsz : W3.heap.size = w.heap.size + 1 + 1 := by rw [← hW3]; simp
  have hR := rowI_oneR W3 x (hx.kp hk3) 43
  rw [hsz] at hR
  have hk4 := (Kp.refl W3).alloc (.cells #[.bool x.lo.neg, .slice x.lo.a x.lo.xs.length x.lo.c, .int .i64 x.lo.e, .bool x.hi.neg, .slice x.hi.a x.hi.xs.length x.hi.c, .int .i64 x.hi.e, .bool x.all] 43)
  generalize hW : W3.alloc _ = W at *
  have hS := keep7 hk4 hS3
  have hV := hV3.kp hk4
  have hk := hk3.trans hk4
  clear hW hW3 hS3 hV3 hk3 hk4 hsz
  go_fit (known_any _ [x] 1 _ hR (by simp))
  rintro e w1 ⟨rfl, hk1⟩
  have hS1 := keep7 hk1 hS
  have hV1 := hV.kp hk1
  have hk2 := (hk.trans hk1)
  have hx1 := hx.kp hk2
  clear hR hS hV hk hk1
  cases ha : x.all with
  | true =>
    have hg : [x].all goodI = false := by simp [goodI_vl vx, ha]
    have HP := Lib.hid (show x.pl.neg = .whole by unfold PI.neg; rw [if_pos (by exact ha)])
    rw [hg]
    clear hg ha hS1
    go_wp2_with fail
    go_fit (Whole_any _)
    rintro e w2 ⟨rfl, hk3⟩
    have hk4 := hk2.trans hk3
    obtain ⟨⟨q0, q1, q2, q3, q4, q5, q6⟩, f0, f1, f2, f3, f4, f5, f6⟩ := hV1.kp hk3
    go_wp2_with fail
    generalize hW9 : ((((((w2.setCell _ _).setCell _ _).setCell _ _).setCell _ _).setCell _ _).setCell _ _).setCell _ _ = W9
    obtain ⟨⟨s0, s1, s2, s3, s4, s5, s6⟩, hU⟩ := stored7 (show Box7 w2 _ _ _ _ _ _ _ _ from ⟨q0, q1, q2, q3, q4, q5, q6⟩) (fun _ h => by cases h) (fun _ h => by cases h) (fun _ h => by cases h) (fun _ h => by cases h) (fun _ h => by cases h) (fun _ h => by cases h) (fun _ h => by cases h) _ _ _ _ _ _ _ hW9
    clear hW9 q0 q1 q2 q3 q4 q5 q6 f0 f1 f2 f3 f4 f5 f6
    refine bodyPost_ret (v := .agg #[.bool false, .slice none 0 0, .int .i64 0, .bool false, .slice none 0 0, .int .i64 0, .bool true]) (by simp [results, Tryz.results131, go_sem, s0, s1, s2, s3, s4, s5, s6]) rfl ?_
    rw [HP.out]
    exact ⟨wholeR, rfl, wholeR_rd _, rfl, rfl, hU.2.2.1 _ hk4 (by omega)⟩
  | false =>
    have ox := ok_of hx1 vx ha
    have hg : [x].all goodI = true := by simp [(goodI_ok ox.1).2 ox]
    have HP := Lib.hid (show x.pl.neg = ⟨x.hi.dy.opp, x.lo.dy.opp, false⟩ by unfold PI.neg; rw [if_neg (by show ¬ x.all = true; rw [ha]; decide)]; rfl)
    rw [hg]
    clear hg
    obtain ⟨hB, hF⟩ := hV1
    have kd := (Kp.refl w1).drew
    have hB2 := hB.kp kd
    have hF2 := hF.kp hB kd
    have Ox := Lib.hid (ox.kp kd)
    have hk3 := hk2.trans kd
    have hS4 := keep7 kd hS1
    clear hB hF hS1 kd hk2 ox hx1 ha
    go_wp2_with fail
    go_region_held3 (fun w' => w'.cell? ⟨w.heap.size, 0, none⟩ = some (.bool x.lo.neg) ∧ w'.cell? ⟨w.heap.size, 1, none⟩ = some (.slice x.lo.a x.lo.xs.length x.lo.c) ∧ w'.cell? ⟨w.heap.size, 2, none⟩ = some (.int .i64 x.lo.e) ∧ w'.cell? ⟨w.heap.size, 3, none⟩ = some (.bool x.hi.neg) ∧ w'.cell? ⟨w.heap.size, 4, none⟩ = some (.slice x.hi.a x.hi.xs.length x.hi.c) ∧ w'.cell? ⟨w.heap.size, 5, none⟩ = some (.int .i64 x.hi.e) ∧ w'.cell? ⟨w.heap.size, 6, none⟩ = some (.bool x.all)) (first | with_reducible assumption | with_reducible exact keep7 (by assumption) (by assumption) | with_reducible exact set7one (by omega) (by assumption))
      (first
        | (go_at_call 167; go_fit (Neg_ok x.hi _ Ox.out.hi); rintro e w4 ⟨z1, rfl, r1, d1, v1, hk4⟩)
        | (go_at_call 167; go_fit (Neg_ok x.lo _ (Ox.out.lo.kp hk4)); rintro e w5 ⟨z2, rfl, r2, d2, v2, hk5⟩; have hk6 := hk4.trans hk5; obtain ⟨q0, q1, q2, q3, q4, q5, q6⟩ := hB2.kp hk6; obtain ⟨f0, f1, f2, f3, f4, f5, f6⟩ := hF2.kp hB2 hk6)
        | fail)
    have hk7 := hk3.trans hk6
    have R1 := Lib.hid (r1.kp hk5)
    have R2 := Lib.hid r2
    have E1 := Lib.hid (And.intro d1 (v1 (Dy.opp_ok2 (rdok_dy Ox.out.hi))))
    have E2 := Lib.hid (And.intro d2 (v2 (Dy.opp_ok2 (rdok_dy Ox.out.lo))))
    have HL := Lib.hid (show z1.iv ≤ z2.iv by
      show z1.dy.iv ≤ z2.dy.iv
      rw [E1.out.1, E2.out.1, Dy.opp_iv, Dy.opp_iv]
      have := Ox.out.parts.2.2
      have h1 : x.lo.dy.iv ≤ x.hi.dy.iv := this
      omega)
    clear hS4 hB2 hF2 r1 r2 d1 d2 v1 v2
    go_wp2_with fail
    generalize hW9 : ((((((w5.setCell _ _).setCell _ _).setCell _ _).setCell _ _).setCell _ _).setCell _ _).setCell _ _ = W9
    obtain ⟨⟨s0, s1, s2, s3, s4, s5, s6⟩, hU⟩ := stored7 (show Box7 w5 _ _ _ _ _ _ _ _ from ⟨q0, q1, q2, q3, q4, q5, q6⟩) (fun _ h => by cases h) (fun _ h => by cases h) (fun _ h => by cases h) (fun _ h => by cases h) (fun _ h => by cases h) (fun _ h => by cases h) (fun _ h => by cases h) _ _ _ _ _ _ _ hW9
    clear hW9 q0 q1 q2 q3 q4 q5 q6 f0 f1 f2 f3 f4 f5 f6
    refine bodyPost_ret (v := .agg #[.bool (RI.mk z1 z2 false).lo.neg, .slice (RI.mk z1 z2 false).lo.a (RI.mk z1 z2 false).lo.xs.length (RI.mk z1 z2 false).lo.c, .int .i64 (RI.mk z1 z2 false).lo.e, .bool (RI.mk z1 z2 false).hi.neg, .slice (RI.mk z1 z2 false).hi.a (RI.mk z1 z2 false).hi.xs.length (RI.mk z1 z2 false).hi.c, .int .i64 (RI.mk z1 z2 false).hi.e, .bool (RI.mk z1 z2 false).all]) (by simp [results, Tryz.results131, go_sem, s0, s1, s2, s3, s4, s5, s6]) rfl ?_
    rw [HP.out]
    exact ⟨⟨z1, z2, false⟩, rfl, hU.rdI ⟨R1.out, R2.out⟩, by unfold RI.pl; rw [E1.out.1, E2.out.1], vl_mk2 E1.out.2 E2.out.2 HL.out, hU.2.2.1 _ hk7 (by omega)⟩
/-- the difference -/
def pSub (X Y : PI) (p : Nat) : PI := pAdd X Y.neg p
theorem PI.neg_ok {X : PI} (h : X.ok) : X.neg.ok := by
  unfold PI.neg
  split
  · exact PI.whole_ok
  · have hle := PI.ok_le h
    unfold PI.ok
    simp only [Bool.false_eq_true, if_false]
    exact ⟨Dy.opp_ok2 (PI.ok_hi h), Dy.opp_ok2 (PI.ok_lo h), by rw [Dy.opp_iv, Dy.opp_iv]; omega⟩
set_option maxRecDepth 100000 in
set_option maxHeartbeats 8000000 in
theorem ISub_any (x y : RI) (p : Nat) (w : World) (hx : x.rd w) (hy : y.rd w) (vx : x.vl = true) (vy : y.vl = true) (h0 : 8 ≤ p) (h1 : p ≤ 512) (hT : Tab w) :
    Calls Tryz.prog 80 #[.agg #[.bool x.lo.neg, .slice x.lo.a x.lo.xs.length x.lo.c, .int .i64 x.lo.e, .bool x.hi.neg, .slice x.hi.a x.hi.xs.length x.hi.c, .int .i64 x.hi.e, .bool x.all], .agg #[.bool y.lo.neg, .slice y.lo.a y.lo.xs.length y.lo.c, .int .i64 y.lo.e, .bool y.hi.neg, .slice y.hi.a y.hi.xs.length y.hi.c, .int .i64 y.hi.e, .bool y.all], .int .i64 p] w (IvOut w (pSub x.pl y.pl p)) := by
  go_enter Tryz.func80, Tryz.ntmps80
  go_wp2_with fail
  generalize hW : (((w.alloc _).alloc _).alloc _) = W at *
  have hk : Kp w W := hW ▸ (((Kp.refl w).alloc _).alloc _).alloc _
  have hS : (W.cell? ⟨w.heap.size, 0, none⟩ = some (.bool x.lo.neg) ∧ W.cell? ⟨w.heap.size, 1, none⟩ = some (.slice x.lo.a x.lo.xs.length x.lo.c) ∧ W.cell? ⟨w.heap.size, 2, none⟩ = some (.int .i64 x.lo.e) ∧ W.cell? ⟨w.heap.size, 3, none⟩ = some (.bool x.hi.neg) ∧ W.cell? ⟨w.heap.size, 4, none⟩ = some (.slice x.hi.a x.hi.xs.length x.hi.c) ∧ W.cell? ⟨w.heap.size, 5, none⟩ = some (.int .i64 x.hi.e) ∧ W.cell? ⟨w.heap.size, 6, none⟩ = some (.bool x.all)) ∧ W.cell? ⟨w.heap.size + 1, 0, none⟩ = some (.bool y.lo.neg) ∧ W.cell? ⟨w.heap.size + 1, 1, none⟩ = some (.slice y.lo.a y.lo.xs.length y.lo.c) ∧ W.cell? ⟨w.heap.size + 1, 2, none⟩ = some (.int .i64 y.lo.e) ∧ W.cell? ⟨w.heap.size + 1, 3, none⟩ = some (.bool y.hi.neg) ∧ W.cell? ⟨w.heap.size + 1, 4, none⟩ = some (.slice y.hi.a y.hi.xs.length y.hi.c) ∧ W.cell? ⟨w.heap.size + 1, 5, none⟩ = some (.int .i64 y.hi.e) ∧ W.cell? ⟨w.heap.size + 1, 6, none⟩ = some (.bool y.all) := by rw [← hW]; exact keep77 ((Kp.refl _).alloc _) (by simp)
  have hV : Var7 W (w.heap.size + 1 + 1) := by rw [← hW]; exact Var7.new2 _ _ _ _
  clear hW
  obtain ⟨hB, hF⟩ := hV
  have kd := (Kp.refl W).drew
  have hB2 := hB.kp kd
  have hF2 := hF.kp hB kd
  have hk3 := hk.trans kd
  have hS4 := keep77 kd hS
  have Rx := Lib.hid (hx.kp hk3)
  have Ry := Lib.hid (hy.kp hk3)
  have HT := Lib.hid (hT.kp hk3)
  clear hB hF hS kd hk
  go_region_held3 (fun w' => (w'.cell? ⟨w.heap.size, 0, none⟩ = some (.bool x.lo.neg) ∧ w'.cell? ⟨w.heap.size, 1, none⟩ = some (.slice x.lo.a x.lo.xs.length x.lo.c) ∧ w'.cell? ⟨w.heap.size, 2, none⟩ = some (.int .i64 x.lo.e) ∧ w'.cell? ⟨w.heap.size, 3, none⟩ = some (.bool x.hi.neg) ∧ w'.cell? ⟨w.heap.size, 4, none⟩ = some (.slice x.hi.a x.hi.xs.length x.hi.c) ∧ w'.cell? ⟨w.heap.size, 5, none⟩ = some (.int .i64 x.hi.e) ∧ w'.cell? ⟨w.heap.size, 6, none⟩ = some (.bool x.all)) ∧ w'.cell? ⟨w.heap.size + 1, 0, none⟩ = some (.bool y.lo.neg) ∧ w'.cell? ⟨w.heap.size + 1, 1, none⟩ = some (.slice y.lo.a y.lo.xs.length y.lo.c) ∧ w'.cell? ⟨w.heap.size + 1, 2, none⟩ = some (.int .i64 y.lo.e) ∧ w'.cell? ⟨w.heap.size + 1, 3, none⟩ = some (.bool y.hi.neg) ∧ w'.cell? ⟨w.heap.size + 1, 4, none⟩ = some (.slice y.hi.a y.hi.xs.length y.hi.c) ∧ w'.cell? ⟨w.heap.size + 1, 5, none⟩ = some (.int .i64 y.hi.e) ∧ w'.cell? ⟨w.heap.size + 1, 6, none⟩ = some (.bool y.all)) (first | with_reducible assumption | with_reducible exact keep77 (by assumption) (by assumption) | with_reducible exact set77 (by omega) (by omega) (by assumption))
    (first
      | (go_at_call 131; go_fit (INeg_any y _ Ry.out vy); rintro e w4 ⟨z, rfl, rz, dz, vz, hk4⟩
         have RZ := Lib.hid rz
         have DZ := Lib.hid dz
         have VZ := Lib.hid vz
         clear rz dz vz)
      | (go_at_call 77; go_fit (IAdd_any x z p _ (Rx.out.kp hk4) RZ.out vx VZ.out h0 h1 (HT.out.kp hk4)); rintro e w5 ⟨u, rfl, ru, du, vu, hk5⟩; have hk6 := hk4.trans hk5; obtain ⟨q0, q1, q2, q3, q4, q5, q6⟩ := hB2.kp hk6; obtain ⟨f0, f1, f2, f3, f4, f5, f6⟩ := hF2.kp hB2 hk6)
      | fail)
  have hk7 := hk3.trans hk6
  have RU := Lib.hid ru
  have DU := Lib.hid du
  have VU := Lib.hid vu
  clear hS4 hB2 hF2 ru du vu
  go_wp2_with fail
  generalize hW9 : ((((((w5.setCell _ _).setCell _ _).setCell _ _).setCell _ _).setCell _ _).setCell _ _).setCell _ _ = W9
  obtain ⟨⟨s0, s1, s2, s3, s4, s5, s6⟩, hU⟩ := stored7 (show Box7 w5 _ _ _ _ _ _ _ _ from ⟨q0, q1, q2, q3, q4, q5, q6⟩) (fun _ h => by cases h) (fun _ h => by cases h) (fun _ h => by cases h) (fun _ h => by cases h) (fun _ h => by cases h) (fun _ h => by cases h) (fun _ h => by cases h) _ _ _ _ _ _ _ hW9
  clear hW9 q0 q1 q2 q3 q4 q5 q6 f0 f1 f2 f3 f4 f5 f6
  refine bodyPost_ret (v := .agg #[.bool u.lo.neg, .slice u.lo.a u.lo.xs.length u.lo.c, .int .i64 u.lo.e, .bool u.hi.neg, .slice u.hi.a u.hi.xs.length u.hi.c, .int .i64 u.hi.e, .bool u.all]) (by simp [results, Tryz.results80, go_sem, s0, s1, s2, s3, s4, s5, s6]) rfl ?_
  exact ⟨u, rfl, hU.rdI RU.out, by rw [DU.out, DZ.out]; rfl, VU.out, hU.2.2.1 _ hk7 (by omega)⟩
end Go.Proofs.YtdidocdpjiiedaaGreatDoor
end

section
namespace Go.Proofs.YtdidocdpjiiedaaGreatDoor
open Go.RowKit

/-- the absolute value -/
def Dy.absv (d : Dy) : Dy := if d.m = 0 then .zero else ⟨false, d.m, d.e⟩
theorem Dy.absv_ok {d : Dy} (h : d.ok) : d.absv.ok := by
  unfold Dy.absv
  split
  · exact Dy.ok_zero
  · next h0 =>
    rcases h with h | ⟨h1, h2⟩
    · exact absurd h.1 h0
    · exact .inr ⟨h1, h2⟩
theorem Dy.absv_iv {d : Dy} : d.absv.iv = (d.iv.natAbs : Int) := by
  unfold Dy.absv
  split
  · next h0 => rw [Dy.iv_eq_zero.2 h0, Dy.iv_zero]; rfl
  · show sg false _ = ((sg d.neg _).natAbs : Int)
    generalize d.m * 2 ^ (d.e + 16384).toNat = u
    unfold sg
    cases d.neg <;> simp
set_option maxHeartbeats 2000000 in
theorem Abs_ok (x : RD) (w : World) (h : x.ok w) :
    Calls Tryz.prog 35 #[.agg #[.bool x.neg, .slice x.a x.xs.length x.c, .int .i64 x.e]] w (NumOut w x.dy.absv) := by
  have hlen := rdok_len h
  have he := rdok_e h
  by_cases h0 : x.xs.length = 0
  · have hz : ((x.xs.length : Int) == 0) = true := beq_iff_eq.2 (by omega)
    have H := Lib.hid (show x.dy.absv = .zero by unfold Dy.absv; rw [if_pos ((rdok_zero h).1 h0)])
    clear h0
    go_enter Tryz.func35, Tryz.ntmps35
    go_wp2_with fail
    generalize hW : ((w.alloc _).alloc _) = W at *
    have hk : Kp w W := hW ▸ ((Kp.refl w).alloc _).alloc _
    have hS : W.cell? ⟨w.heap.size, 0, none⟩ = some (.bool x.neg) ∧ W.cell? ⟨w.heap.size, 1, none⟩ = some (.slice x.a x.xs.length x.c) ∧ W.cell? ⟨w.heap.size, 2, none⟩ = some (.int .i64 x.e) := by rw [← hW]; simp
    have hB : Box3 W (w.heap.size + 1) (.bool false) (.slice none 0 0) (.int .i64 0) := hW ▸ Box3.new2 _ _ _ _ _ _
    clear hW
    refine (Valid_rok x _ (h.kp hk)).mono ?_
    rintro e w1 ⟨rfl, hk1⟩
    have hS1 := keep3 hk1 hS
    obtain ⟨q0, q1, q2, f0, f1, f2⟩ := hB.kp hk1
    have hk2 := hk.trans hk1
    clear hS hk hk1 hB
    go_wp2_with fail
    have hst := stored q0 q1 q2 (fun _ h => by cases h) (fun _ h => by cases h) (fun _ h => by cases h) (.bool false) (.slice none 0 0) (.int .i64 0)
    generalize (((w1.setCell _ _).setCell _ _).setCell _ _) = W2 at hst ⊢
    obtain ⟨s0, s1, s2, _, s4, s5, _, _⟩ := hst
    refine bodyPost_ret (v := .agg #[.bool false, .slice none 0 0, .int .i64 0]) (by simp [results, Tryz.results35, go_sem, s0, s1, s2]) rfl ?_
    rw [H.out]
    exact numOut_zero rfl (s5 _ hk2 (by omega))
  · have hz : ((x.xs.length : Int) == 0) = false := beq_eq_false_iff_ne.2 (by omega)
    have H := Lib.hid (show x.dy.absv = ⟨false, val x.xs, x.e⟩ by unfold Dy.absv; rw [if_neg (fun e => h0 ((rdok_zero h).2 e))]; rfl)
    have Hv := Lib.hid (show (x.dy.absv.ok → vld false x.xs x.e = true) from fun hok => by
      have := ok_vld hok
      rwa [H.out, show limbs (Dy.m ⟨false, val x.xs, x.e⟩) = x.xs from rdok_limbs h] at this)
    clear h0
    go_enter Tryz.func35, Tryz.ntmps35
    go_wp2_with fail
    generalize hW : ((w.alloc _).alloc _) = W at *
    have hk : Kp w W := hW ▸ ((Kp.refl w).alloc _).alloc _
    have hS : W.cell? ⟨w.heap.size, 0, none⟩ = some (.bool x.neg) ∧ W.cell? ⟨w.heap.size, 1, none⟩ = some (.slice x.a x.xs.length x.c) ∧ W.cell? ⟨w.heap.size, 2, none⟩ = some (.int .i64 x.e) := by rw [← hW]; simp
    have hB : Box3 W (w.heap.size + 1) (.bool false) (.slice none 0 0) (.int .i64 0) := hW ▸ Box3.new2 _ _ _ _ _ _
    clear hW
    refine (Valid_rok x _ (h.kp hk)).mono ?_
    rintro e w1 ⟨rfl, hk1⟩
    have hS1 := keep3 hk1 hS
    have hB1 := (hB.kp hk1).kp (Kp.refl w1).drew
    have hk2 := hk.trans hk1
    have hx := (h.kp hk2).drew
    clear hS hk hk1 hB
    go_wp2_with fail
    have hS2 := keep3 (Kp.refl w1).drew hS1
    clear hS1
    go_region_held3 (fun w' => w'.cell? ⟨w.heap.size, 0, none⟩ = some (.bool x.neg) ∧ w'.cell? ⟨w.heap.size, 1, none⟩ = some (.slice x.a x.xs.length x.c) ∧ w'.cell? ⟨w.heap.size, 2, none⟩ = some (.int .i64 x.e)) (first | with_reducible assumption | with_reducible exact keep3 (by assumption) (by assumption) | with_reducible exact set3x (by omega) (by assumption))
      (first
        | (go_at_call 87; refine (clone_any x.a x.xs x.c _ hx.1.1 (by omega)).mono ?_; rintro e w4 ⟨a4, c4, rfl, r4, l4, m4, hk4⟩; obtain ⟨q0, q1, q2, f0, f1, f2⟩ := hB1.kp hk4))
    have hk5 := hk2.drew.trans hk4
    have hxs := hx.1.1.lt32
    clear hS2 hB1 hx
    have hst := stored q0 q1 q2 (fun _ h => by cases h) (fun _ h => by cases h) (fun _ h => by cases h) (.bool false) (.slice a4 x.xs.length c4) (.int .i64 x.e)
    go_wp2_with fail
    generalize (((w4.setCell _ _).setCell _ _).setCell _ _) = W2 at hst ⊢
    obtain ⟨s0, s1, s2, _, s4, s5, _, _⟩ := hst
    refine bodyPost_ret (v := .agg #[.bool (RD.mk false a4 x.xs c4 x.e).neg, .slice (RD.mk false a4 x.xs c4 x.e).a (RD.mk false a4 x.xs c4 x.e).xs.length (RD.mk false a4 x.xs c4 x.e).c, .int .i64 (RD.mk false a4 x.xs c4 x.e).e]) (by simp [results, Tryz.results35, go_sem, s0, s1, s2]) rfl ?_
    exact ⟨RD.mk false a4 x.xs c4 x.e, rfl, ⟨s4 _ _ r4, l4, m4, by show x.xs.length ≤ 1100000; omega, ⟨by show _ ≤ x.e; omega, by show x.e ≤ _; omega⟩⟩, H.out.symm, Hv.out, s5 _ hk5 (by omega)⟩
end Go.Proofs.YtdidocdpjiiedaaGreatDoor
end

section
namespace Go.Proofs.YtdidocdpjiiedaaGreatDoor
open Go.RowKit

/-- the greater one of two numbers -/
def maxD (a b : Dy) : Dy := if b.iv ≤ a.iv then a else b
/-- the greatest absolute value; none for All -/
def magP (X : PI) : Dy := if X.all then .zero else maxD X.lo.absv X.hi.absv
/-- a number and whether there is one -/
def NumB (w : World) (d : Dy) (b : Bool) (e : Ending) (w' : World) : Prop := ∃ y : RD, e = .returned (.tuple #[.agg #[.bool y.neg, .slice y.a y.xs.length y.c, .int .i64 y.e], .bool b]) ∧ y.rd w' ∧ y.dy = d ∧ y.vl = true ∧ Kp w w'
theorem set7by3 {w : World} {g b : Nat} (n : b ≠ g) {v0 v1 v2 v3 v4 v5 v6 x0 x1 x2 : Value} (h : w.cell? ⟨b, 0, none⟩ = some v0 ∧ w.cell? ⟨b, 1, none⟩ = some v1 ∧ w.cell? ⟨b, 2, none⟩ = some v2 ∧ w.cell? ⟨b, 3, none⟩ = some v3 ∧ w.cell? ⟨b, 4, none⟩ = some v4 ∧ w.cell? ⟨b, 5, none⟩ = some v5 ∧ w.cell? ⟨b, 6, none⟩ = some v6) :
    (((w.setCell ⟨g, 0, none⟩ x0).setCell ⟨g, 1, none⟩ x1).setCell ⟨g, 2, none⟩ x2).cell? ⟨b, 0, none⟩ = some v0 ∧ (((w.setCell ⟨g, 0, none⟩ x0).setCell ⟨g, 1, none⟩ x1).setCell ⟨g, 2, none⟩ x2).cell? ⟨b, 1, none⟩ = some v1 ∧ (((w.setCell ⟨g, 0, none⟩ x0).setCell ⟨g, 1, none⟩ x1).setCell ⟨g, 2, none⟩ x2).cell? ⟨b, 2, none⟩ = some v2 ∧ (((w.setCell ⟨g, 0, none⟩ x0).setCell ⟨g, 1, none⟩ x1).setCell ⟨g, 2, none⟩ x2).cell? ⟨b, 3, none⟩ = some v3 ∧ (((w.setCell ⟨g, 0, none⟩ x0).setCell ⟨g, 1, none⟩ x1).setCell ⟨g, 2, none⟩ x2).cell? ⟨b, 4, none⟩ = some v4 ∧ (((w.setCell ⟨g, 0, none⟩ x0).setCell ⟨g, 1, none⟩ x1).setCell ⟨g, 2, none⟩ x2).cell? ⟨b, 5, none⟩ = some v5 ∧ (((w.setCell ⟨g, 0, none⟩ x0).setCell ⟨g, 1, none⟩ x1).setCell ⟨g, 2, none⟩ x2).cell? ⟨b, 6, none⟩ = some v6 := by
  have ne (i j : Nat) : (⟨g, i, none⟩ : Addr) ≠ ⟨b, j, none⟩ := fun e => n (by injection e with e1; exact e1.symm)
  have key (j : Nat) : (((w.setCell ⟨g, 0, none⟩ x0).setCell ⟨g, 1, none⟩ x1).setCell ⟨g, 2, none⟩ x2).cell? ⟨b, j, none⟩ = w.cell? ⟨b, j, none⟩ := by
    rw [cell_set_ne (ne 2 j), cell_set_ne (ne 1 j), cell_set_ne (ne 0 j)]
  simp only [key]
  exact h
theorem moreR_dy (x y : RD) : (moreR x y).dy = maxD x.dy y.dy := by
  unfold moreR maxD
  show (if y.dy.iv ≤ x.dy.iv then x else y).dy = _
  split <;> rfl
set_option maxRecDepth 100000 in
set_option maxHeartbeats 8000000 in
theorem Mag_any (x : RI) (w : World) (hx : x.rd w) (vx : x.vl = true) :
    Calls Tryz.prog 56 #[.agg #[.bool x.lo.neg, .slice x.lo.a x.lo.xs.length x.lo.c, .int .i64 x.lo.e, .bool x.hi.neg, .slice x.hi.a x.hi.xs.length x.hi.c, .int .i64 x.hi.e, .bool x.all]] w (NumB w (magP x.pl) (!x.all)) := by
  go_enter Tryz.func56, Tryz.ntmps56
  go_wp2_with fail
  generalize hW3 : ((w.alloc _).alloc _) = W3 at *
  have hk3 : Kp w W3 := hW3 ▸ ((Kp.refl w).alloc _).alloc _
  have hS3 : W3.cell? ⟨w.heap.size, 0, none⟩ = some (.bool x.lo.neg) ∧ W3.cell? ⟨w.heap.size, 1, none⟩ = some (.slice x.lo.a x.lo.xs.length x.lo.c) ∧ W3.cell? ⟨w.heap.size, 2, none⟩ = some (.int .i64 x.lo.e) ∧ W3.cell? ⟨w.heap.size, 3, none⟩ = some (.bool x.hi.neg) ∧ W3.cell? ⟨w.heap.size, 4, none⟩ = some (.slice x.hi.a x.hi.xs.length x.hi.c) ∧ W3.cell? ⟨w.heap.size, 5, none⟩ = some (.int .i64 x.hi.e) ∧ W3.cell? ⟨w.heap.size, 6, none⟩ = some (.bool x.all) := by rw [← hW3]; simp
  have hV3 : Box3 W3 (w.heap.size + 1) (.bool false) (.slice none 0 0) (.int .i64 0) := by rw [← hW3]; exact Box3.new2 _ _ _ _ _ _
  have hsz : W3.heap.size = w.heap.size + 1 + 1 := by rw [← hW3]; simp
  have hR := rowI_oneR W3 x (hx.kp hk3) 43
  rw [hsz] at hR
  have hk4 := (Kp.refl W3).alloc (.cells #[.bool x.lo.neg, .slice x.lo.a x.lo.xs.length x.lo.c, .int .i64 x.lo.e, .bool x.hi.neg, .slice x.hi.a x.hi.xs.length x.hi.c, .int .i64 x.hi.e, .bool x.all] 43)
  generalize hW : W3.alloc _ = W at *
  have hS := keep7 hk4 hS3
  have hV := hV3.kp hk4
  have hk := hk3.trans hk4
  clear hW hW3 hS3 hV3 hk3 hk4 hsz
  go_fit (known_any _ [x] 1 _ hR (by simp))
  rintro e w1 ⟨rfl, hk1⟩
  have hS1 := keep7 hk1 hS
  have hV1 := hV.kp hk1
  have hk2 := (hk.trans hk1)
  have hx1 := hx.kp hk2
  clear hR hS hV hk hk1
  cases ha : x.all with
  | true =>
    have hg : [x].all goodI = false := by simp [goodI_vl vx, ha]
    have HP := Lib.hid (show magP x.pl = .zero by unfold magP; rw [if_pos (by exact ha)])
    have HA := Lib.hid ha
    rw [hg]
    clear hg ha hS1
    obtain ⟨q0, q1, q2, f0, f1, f2⟩ := hV1
    go_wp2_with fail
    have hst := stored q0 q1 q2 (fun _ h => by cases h) (fun _ h => by cases h) (fun _ h => by cases h) (.bool false) (.slice none 0 0) (.int .i64 0)
    generalize (((w1.setCell _ _).setCell _ _).setCell _ _) = W9 at hst ⊢
    obtain ⟨s0, s1, s2, _, s4, s5, _, _⟩ := hst
    refine bodyPost_ret (v := .tuple #[.agg #[.bool false, .slice none 0 0, .int .i64 0], .bool false]) (by simp [results, Tryz.results56, go_sem, s0, s1, s2]) rfl ?_
    rw [HP.out, HA.out]
    exact ⟨rdZero, rfl, rdZero_rd _, rfl, rdZero_vl, s5 _ hk2 (by omega)⟩
  | false =>
    have ox := ok_of hx1 vx ha
    have HA := Lib.hid ha
    have hg : [x].all goodI = true := by simp [(goodI_ok ox.1).2 ox]
    have HP := Lib.hid (show magP x.pl = maxD x.lo.dy.absv x.hi.dy.absv by unfold magP; rw [if_neg (by show ¬ x.all = true; rw [ha]; decide)]; rfl)
    rw [hg]
    clear hg
    have kd := (Kp.refl w1).drew
    have hB2 := hV1.kp kd
    have Ox := Lib.hid (ox.kp kd)
    have hk3 := hk2.trans kd
    have hS4 := keep7 kd hS1
    clear hV1 hS1 kd hk2 ox hx1 ha
    go_wp2_with fail
    go_region_held3 (fun w' => w'.cell? ⟨w.heap.size, 0, none⟩ = some (.bool x.lo.neg) ∧ w'.cell? ⟨w.heap.size, 1, none⟩ = some (.slice x.lo.a x.lo.xs.length x.lo.c) ∧ w'.cell? ⟨w.heap.size, 2, none⟩ = some (.int .i64 x.lo.e) ∧ w'.cell? ⟨w.heap.size, 3, none⟩ = some (.bool x.hi.neg) ∧ w'.cell? ⟨w.heap.size, 4, none⟩ = some (.slice x.hi.a x.hi.xs.length x.hi.c) ∧ w'.cell? ⟨w.heap.size, 5, none⟩ = some (.int .i64 x.hi.e) ∧ w'.cell? ⟨w.heap.size, 6, none⟩ = some (.bool x.all)) (first | with_reducible assumption | with_reducible exact keep7 (by assumption) (by assumption) | with_reducible exact set7by3 (by omega) (by assumption))
      (first
        | (go_at_call 35; go_fit (Abs_ok x.lo _ Ox.out.lo); rintro e w4 ⟨z1, rfl, r1, d1, v1, hk4⟩
           have O1 := Lib.hid (show z1.ok w4 from ⟨r1, v1 (Dy.absv_ok (rdok_dy Ox.out.lo))⟩)
           have D1 := Lib.hid d1
           clear r1 d1 v1)
        | (go_at_call 35; go_fit (Abs_ok x.hi _ (Ox.out.hi.kp hk4)); rintro e w5 ⟨z2, rfl, r2, d2, v2, hk5⟩
           have O2 := Lib.hid (show z2.ok w5 from ⟨r2, v2 (Dy.absv_ok (rdok_dy Ox.out.hi))⟩)
           have D2 := Lib.hid d2
           clear r2 d2 v2)
        | (go_at_call 109; go_fit (more_ok z1 z2 _ (O1.out.kp hk5) O2.out); rintro e w6 ⟨rfl, hk6⟩; have hk7 := (hk4.trans hk5).trans hk6; obtain ⟨q0, q1, q2, f0, f1, f2⟩ := hB2.kp hk7)
        | fail)
    have hk8 := hk3.trans hk7
    have OM := Lib.hid (moreR_ok ((O1.out.kp hk5).kp hk6) (O2.out.kp hk6))
    have DM := Lib.hid (moreR_dy z1 z2)
    clear hS4 hB2
    generalize moreR z1 z2 = Z at *
    have hst := stored q0 q1 q2 (fun _ h => by cases h) (fun _ h => by cases h) (fun _ h => by cases h) (.bool Z.neg) (.slice Z.a Z.xs.length Z.c) (.int .i64 Z.e)
    go_wp2_with fail
    generalize (((w6.setCell _ _).setCell _ _).setCell _ _) = W9 at hst ⊢
    obtain ⟨s0, s1, s2, _, s4, s5, _, _⟩ := hst
    refine bodyPost_ret (v := .tuple #[.agg #[.bool Z.neg, .slice Z.a Z.xs.length Z.c, .int .i64 Z.e], .bool true]) (by simp [results, Tryz.results56, go_sem, s0, s1, s2]) rfl ?_
    rw [HP.out, HA.out, ← D1.out, ← D2.out]
    exact ⟨Z, rfl, ⟨s4 _ _ OM.out.1.1, OM.out.1.2⟩, DM.out, OM.out.2, s5 _ hk8 (by omega)⟩
end Go.Proofs.YtdidocdpjiiedaaGreatDoor
end
