/-
  Walks: the law RoundEnds.
-/
import Derived.Test.YtkkiinbgjjjcoaaDoorMProdP
import Derived.Test.YtkkiinbgjjjcoaaDoorMRoDiv
namespace Go.Proofs.YtkkiinbgjjjcoaaDoor
open Go.RowKit

theorem num_at (m : Nat) (ex : Int) (w : World) (h0 : 0 < m) (h1 : m < 4294967296) (hok : (dyL m ex).ok) :
    Calls Tryd.prog 17 #[.int .u32 (m : Nat), .int .i64 ex] w fun e w' => ∃ y : RD, e = .returned (.agg #[.bool y.neg, .slice y.a y.xs.length y.c, .int .i64 y.e]) ∧ y.ok w' ∧ y.dy = dyL m ex ∧ y.xs = [m] ∧ Kp w w' := by
  refine (num_any m ex w h1 (ok_I64 hok)).mono ?_
  rintro e w' ⟨y, rfl, hr, y1, y2, y3, hk⟩
  have hd : y.dy = dyL m ex := by unfold RD.dy dyL; rw [y1, y2, y3]; simp [val]
  have hv : y.vl = true := by
    have := ok_vld hok
    unfold RD.vl
    rw [y1, y2, y3]
    rw [show limbs (dyL m ex).m = [m] from limbs_single (m := m) h0 h1] at this
    exact this
  exact ⟨y, rfl, ⟨hr, hv⟩, hd, y2, hk⟩
theorem dyB_ok : (dyL 1 16383).ok := .inr ⟨by decide, by decide, by decide, by decide, by decide⟩
theorem dyT_ok (s : Bool) : (⟨s, 1, -16384⟩ : Dy).ok := by cases s <;> exact .inr ⟨by decide, by decide, by decide, by decide, by decide⟩
/-- half of the least number -/
theorem mul_ends {w w' : World} {x y : RD} {s : Bool} (hx : x.ok w) (hy : y.ok w') (ex : x.dy = ⟨s, 1, -16384⟩) (ey : y.dy = dyL 1 (-1)) {p : Nat} (h0 : 8 ≤ p) (h1 : p ≤ 512) (up : Bool) :
    mulB x y p up = (if up != s then ⟨s, 1, -16384⟩ else .zero, 0) := by
  have hxm : x.dy.m = 1 := by rw [ex]
  have hym : y.dy.m = 1 := by rw [ey]; rfl
  obtain ⟨b1, b2, b3⟩ := dy_val ey
  have a1 : x.neg = s := congrArg Dy.neg ex
  have a2 : val x.xs = 1 := hxm
  have a3 : x.e = -16384 := congrArg Dy.e ex
  unfold mulB
  rw [if_pos (fltB_ok (by simp [hx.2, hy.2]) h0 h1), if_neg (by
    rintro (h | h)
    · rw [(rdok_zero hx).1 h] at hxm; cases hxm
    · rw [(rdok_zero hy).1 h] at hym; cases hym)]
  rw [a1, a2, a3, b1, b2, b3, Bool.bne_false, show ((p : Nat) : Int).toNat = p from rfl]
  rw [show ((-16384 : Int) + -1) = -16385 from rfl, show 1 * 1 = 1 from rfl, tiny_rnd h0 h1]
  rfl
theorem big_iv {x : RD} (ex : x.dy = dyL 1 16383) {n : Nat} (hn : n = ((16383 : Int) + 16384).toNat) : x.iv = sg false (2 ^ n) := by
  have he : (x.dy.e + 16384).toNat = n := by rw [ex]; exact hn.symm
  have h1 : x.dy.m = 1 := by rw [ex]; rfl
  have h2 : x.dy.neg = false := by rw [ex]; rfl
  show x.dy.iv = _
  rw [Dy.iv_av]
  unfold Dy.av
  rw [he, h1, h2, Nat.one_mul]
theorem sg_two (n : Nat) : sg false (2 ^ n) + sg false (2 ^ n) = sg false 1 * 2 ^ (n + 1) := by
  unfold sg
  simp only [Bool.false_eq_true, if_false]
  rw [Int.pow_succ]; push_cast; omega
/-- twice the half of 2^16384 -/
theorem add_ends {w : World} {x : RD} (hx : x.ok w) (ex : x.dy = dyL 1 16383) {p : Nat} (h0 : 8 ≤ p) (h1 : p ≤ 512) (up : Bool) :
    addB x x p up = if up then (.zero, 9) else (topD p, 0) := by
  obtain ⟨n, hn⟩ : ∃ n : Nat, n = ((16383 : Int) + 16384).toNat := ⟨_, rfl⟩
  unfold addB
  rw [if_pos (fltB_ok (by simp [hx.2]) h0 h1), big_iv ex hn, show ((p : Nat) : Int).toNat = p from rfl]
  have h := rndS_val (s := false) (M := 1) (p := p) (a := 0) (b := n + 1) (e := 16384) (S := sg false (2 ^ n) + sg false (2 ^ n)) (up := up) (by decide) (by rw [Int.pow_zero, Int.mul_one]; exact sg_two _) (by omega)
  rw [← h, huge_rnd h0 h1]
  cases up <;> rfl
theorem top_topI {p : Nat} (h : 8 ≤ p) : topI (topD p) = 16384 := by
  have hb : bits (topD p).m = p := bits_two_pow_sub_one (by omega)
  unfold topI
  rw [if_neg (fun k => by rw [k, bits_zero] at hb; omega), hb]
  show (p : Int) + (16384 - p) = 16384
  omega
theorem top_isB {w : World} {x : RD} (hx : x.ok w) {p : Nat} (ex : isP p x.dy) (h0 : 8 ≤ p) (h1 : p ≤ 512) : isB x p = true := by
  unfold isB
  rw [Bool.and_eq_true, decide_eq_true_eq, decide_eq_true_eq]
  exact ⟨fltB_ok (by simp [hx.2]) h0 h1, by have : bits (val x.xs) ≤ p := ex.2; omega⟩
theorem or_one (m : Nat) (h : m < 4294967296) : (m ||| 1) < 4294967296 ∧ (m ||| 1) % 2 = 1 := ⟨lt_or32 h (by decide), by rw [Nat.or_mod_two_eq_one.2 (.inr rfl)]⟩
theorem dyQ_ok {m : Nat} (h : m % 2 = 1) (hm : m < 4294967296) : (dyL m (-31)).ok := dyL_ok h hm (by decide) (by decide)
/-- the greatest number, divided -/
theorem div_ends (x y : RD) (p M : Nat) (w : World) (hx : x.ok w) (hy : y.ok w) (ex : x.dy = topD p) (ey : y.dy = dyL M (-31)) (_eys : y.xs = [M]) (hM : M % 2 = 1) (hM1 : M < 4294967296) (h0 : 8 ≤ p) (h1 : p ≤ 512) (hT : Tab w) :
    ∃ d : Dy, isP p d ∧ d.neg = false ∧ d.m ≠ 0 ∧ ∀ W, Kp w W → Calls Tryd.prog 43 #[.agg #[.bool x.neg, .slice x.a x.xs.length x.c, .int .i64 x.e], .agg #[.bool y.neg, .slice y.a y.xs.length y.c, .int .i64 y.e], .int .i64 (p : Nat), .bool false] W (NumE W d 0) := by
  obtain ⟨b1, b2, b3⟩ := dy_val ey
  have a1 : x.neg = false := congrArg Dy.neg ex
  have a2 : val x.xs = 2 ^ p - 1 := congrArg Dy.m ex
  have a3 : x.e = 16384 - p := congrArg Dy.e ex
  have hbM : bits M ≤ 32 := bits_le.2 (by omega)
  have hbx : bits (2 ^ p - 1) = p := bits_two_pow_sub_one (by omega)
  have hx0 : 2 ^ p - 1 ≠ 0 := fun h => by rw [h, bits_zero] at hbx; omega
  have hlen : (limbs (val x.xs * 2 ^ (3 + bits M))).length ≤ 200 := limbs_of_bits (by rw [a2, bits_mul_pow hx0, hbx]; omega)
  obtain ⟨d, hd, hp, hn, hm⟩ := top_div (M := M) (more := decide (0 < bits (val x.xs * 2 ^ (3 + bits M) % M))) h0 h1 (by omega) hbM rfl
  refine ⟨d, hp, hn, hm, fun W k => ?_⟩
  have H := div_of x y p (3 + bits M) false W (hx.kp k) (hy.kp k) (by rw [a2]; exact hx0) (by rw [b2]; omega) h0 h1 (hT.kp k) (by rw [a2, b2, hbx]; omega)
    (fun W' a c k1 k2 k3 k4 k5 => by
      have := divide1_any a y.a (limbs (val x.xs * 2 ^ (3 + bits M))) y.xs c y.c W' k2 k5 (by omega) k3 hy.1.2.1 k4 hy.1.2.2.1 (by rw [b2, limbs_single (by omega) hM1]; rfl)
      rwa [val_limbs] at this)
  have hR : rndS (x.neg != y.neg) (val x.xs * 2 ^ (3 + bits M) / val y.xs) (x.e - (3 + bits M : Nat) - y.e) (decide (0 < bits (val x.xs * 2 ^ (3 + bits M) % val y.xs))) p false = some d := by
    rw [a1, b1, b2, b3, a3, show (false != false) = false from rfl]
    rw [← a2] at hd
    exact hd
  rw [hR] at H
  exact H
theorem mulDn (x y : RD) (s : Bool) (p : Nat) (w : World) (hx : x.ok w) (hy : y.ok w) (ex : x.dy = ⟨s, 1, -16384⟩) (ey : y.dy = dyL 1 (-1)) (h0 : 8 ≤ p) (h1 : p ≤ 512) (hT : Tab w) :
    Calls Tryd.prog 18 #[.agg #[.bool x.neg, .slice x.a x.xs.length x.c, .int .i64 x.e], .agg #[.bool y.neg, .slice y.a y.xs.length y.c, .int .i64 y.e], .int .i64 (p : Nat)] w (NumE w (if s then ⟨s, 1, -16384⟩ else .zero) 0) :=
  rMulDown_of x y p _ _ w fun W k => by
    have := mul_rd x y p false W (hx.kp k).1 (hy.kp k).1 (hT.kp k)
    rw [mul_ends hx hy ex ey h0 h1] at this
    rw [Bool.false_bne] at this
    exact this
theorem mulUp (x y : RD) (s : Bool) (p : Nat) (w : World) (hx : x.ok w) (hy : y.ok w) (ex : x.dy = ⟨s, 1, -16384⟩) (ey : y.dy = dyL 1 (-1)) (h0 : 8 ≤ p) (h1 : p ≤ 512) (hT : Tab w) :
    Calls Tryd.prog 19 #[.agg #[.bool x.neg, .slice x.a x.xs.length x.c, .int .i64 x.e], .agg #[.bool y.neg, .slice y.a y.xs.length y.c, .int .i64 y.e], .int .i64 (p : Nat)] w (NumE w (if !s then ⟨s, 1, -16384⟩ else .zero) 0) :=
  rMulUp_of x y p _ _ w fun W k => by
    have := mul_rd x y p true W (hx.kp k).1 (hy.kp k).1 (hT.kp k)
    rw [mul_ends hx hy ex ey h0 h1] at this
    rw [Bool.true_bne] at this
    exact this
theorem addDn (x : RD) (p : Nat) (w : World) (hx : x.ok w) (ex : x.dy = dyL 1 16383) (h0 : 8 ≤ p) (h1 : p ≤ 512) (hT : Tab w) :
    Calls Tryd.prog 20 #[.agg #[.bool x.neg, .slice x.a x.xs.length x.c, .int .i64 x.e], .agg #[.bool x.neg, .slice x.a x.xs.length x.c, .int .i64 x.e], .int .i64 (p : Nat)] w (NumE w (topD p) 0) :=
  rAddDown_of x x p _ _ w fun W k => by
    have := add_rd x x p false W (hx.kp k).1 (hx.kp k).1 (hT.kp k)
    rw [add_ends hx ex h0 h1] at this
    exact this
theorem addUp (x : RD) (p : Nat) (w : World) (hx : x.ok w) (ex : x.dy = dyL 1 16383) (h0 : 8 ≤ p) (h1 : p ≤ 512) (hT : Tab w) :
    Calls Tryd.prog 21 #[.agg #[.bool x.neg, .slice x.a x.xs.length x.c, .int .i64 x.e], .agg #[.bool x.neg, .slice x.a x.xs.length x.c, .int .i64 x.e], .int .i64 (p : Nat)] w (NumE w .zero 9) :=
  rAddUp_of x x p _ _ w fun W k => by
    have := add_rd x x p true W (hx.kp k).1 (hx.kp k).1 (hT.kp k)
    rw [add_ends hx ex h0 h1] at this
    exact this
theorem dy_opp (s : Bool) : (⟨s, 1, -16384⟩ : Dy).opp = ⟨!s, 1, -16384⟩ := by cases s <;> rfl
theorem negL (x : RD) (w : World) (hx : x.ok w) (ex : x.dy = ⟨false, 1, -16384⟩) :
    Calls Tryd.prog 13 #[.agg #[.bool x.neg, .slice x.a x.xs.length x.c, .int .i64 x.e]] w fun e w' => ∃ y : RD, e = .returned (.agg #[.bool y.neg, .slice y.a y.xs.length y.c, .int .i64 y.e]) ∧ y.ok w' ∧ y.dy = ⟨true, 1, -16384⟩ ∧ Kp w w' := by
  refine (Neg_ok x w hx).mono ?_
  rw [ex, dy_opp]
  rintro e w' ⟨y, rfl, ry, dy, vy, k⟩
  exact ⟨y, rfl, ⟨ry, vy (dyT_ok true)⟩, dy, k⟩
/-- a number stored into a new cell -/
theorem store_num {a v : World} {g : Nat} {c : RD} (hB : Box3 v g (.bool false) (.slice none 0 0) (.int .i64 0)) (hc : c.rd v) (k : Kp a v) (hg : a.heap.size ≤ g) :
    ((((v.setCell ⟨g, 0, none⟩ (.bool c.neg)).setCell ⟨g, 1, none⟩ (.slice c.a c.xs.length c.c)).setCell ⟨g, 2, none⟩ (.int .i64 c.e)).cell? ⟨g, 0, none⟩ = some (.bool c.neg) ∧ (((v.setCell ⟨g, 0, none⟩ (.bool c.neg)).setCell ⟨g, 1, none⟩ (.slice c.a c.xs.length c.c)).setCell ⟨g, 2, none⟩ (.int .i64 c.e)).cell? ⟨g, 1, none⟩ = some (.slice c.a c.xs.length c.c) ∧ (((v.setCell ⟨g, 0, none⟩ (.bool c.neg)).setCell ⟨g, 1, none⟩ (.slice c.a c.xs.length c.c)).setCell ⟨g, 2, none⟩ (.int .i64 c.e)).cell? ⟨g, 2, none⟩ = some (.int .i64 c.e)) ∧ c.rd (((v.setCell ⟨g, 0, none⟩ (.bool c.neg)).setCell ⟨g, 1, none⟩ (.slice c.a c.xs.length c.c)).setCell ⟨g, 2, none⟩ (.int .i64 c.e)) ∧ Kp a (((v.setCell ⟨g, 0, none⟩ (.bool c.neg)).setCell ⟨g, 1, none⟩ (.slice c.a c.xs.length c.c)).setCell ⟨g, 2, none⟩ (.int .i64 c.e)) := by
  obtain ⟨q0, q1, q2, _, _, _⟩ := hB
  obtain ⟨s0, s1, s2, _, s4, s5, _, _⟩ := stored q0 q1 q2 (fun _ h => by cases h) (fun _ h => by cases h) (fun _ h => by cases h) (.bool c.neg) (.slice c.a c.xs.length c.c) (.int .i64 c.e)
  exact ⟨⟨s0, s1, s2⟩, ⟨s4 _ _ hc.1, hc.2⟩, s5 _ k hg⟩
theorem alloc_num {a v : World} {c : RD} (hc : c.rd v) (k : Kp a v) :
    ((v.alloc (.cells #[.bool c.neg, .slice c.a c.xs.length c.c, .int .i64 c.e] 24)).cell? ⟨v.heap.size, 0, none⟩ = some (.bool c.neg) ∧ (v.alloc (.cells #[.bool c.neg, .slice c.a c.xs.length c.c, .int .i64 c.e] 24)).cell? ⟨v.heap.size, 1, none⟩ = some (.slice c.a c.xs.length c.c) ∧ (v.alloc (.cells #[.bool c.neg, .slice c.a c.xs.length c.c, .int .i64 c.e] 24)).cell? ⟨v.heap.size, 2, none⟩ = some (.int .i64 c.e)) ∧ c.rd (v.alloc (.cells #[.bool c.neg, .slice c.a c.xs.length c.c, .int .i64 c.e] 24)) ∧ Kp a (v.alloc (.cells #[.bool c.neg, .slice c.a c.xs.length c.c, .int .i64 c.e] 24)) :=
  ⟨by simp, hc.kp ((Kp.refl _).alloc _), k.alloc _⟩
theorem divDn (x y : RD) (p M : Nat) (w : World) (hx : x.ok w) (hy : y.ok w) (ex : x.dy = topD p) (ey : y.dy = dyL M (-31)) (eys : y.xs = [M]) (hM : M % 2 = 1) (hM1 : M < 4294967296) (h0 : 8 ≤ p) (h1 : p ≤ 512) (hT : Tab w) :
    Calls Tryd.prog 24 #[.agg #[.bool x.neg, .slice x.a x.xs.length x.c, .int .i64 x.e], .agg #[.bool y.neg, .slice y.a y.xs.length y.c, .int .i64 y.e], .int .i64 (p : Nat)] w fun e w' => ∃ c : RD, e = .returned (.tuple #[.agg #[.bool c.neg, .slice c.a c.xs.length c.c, .int .i64 c.e], .int .i64 0]) ∧ c.ok w' ∧ (isP p c.dy ∧ c.dy.neg = false ∧ c.dy.m ≠ 0) ∧ Kp w w' := by
  obtain ⟨d, hp, hn, hm, hC⟩ := div_ends x y p M w hx hy ex ey eys hM hM1 h0 h1 hT
  refine (rDivDown_of x y p d 0 w hC).mono ?_
  rintro e w' ⟨c, rfl, rc, dc, vc, k⟩
  rw [← dc] at hp hn hm vc
  exact ⟨c, rfl, ⟨rc, vc hp.1⟩, ⟨hp, hn, hm⟩, k⟩
theorem sgn_pos' {d : Dy} (hn : d.neg = false) (hm : d.m ≠ 0) : sgn d = 1 := by unfold sgn; rw [if_neg hm, hn]; rfl
theorem Sign_rok (x : RD) (w : World) (h : x.ok w) :
    Calls Tryd.prog 25 #[.agg #[.bool x.neg, .slice x.a x.xs.length x.c, .int .i64 x.e]] w fun e w' => e = .returned (.int .i64 (sgn x.dy)) ∧ Kp w w' := by
  have H := Sign_ok x.dy x.a x.c w (rdok_at h)
  rw [rdok_limbs h] at H
  exact H
theorem zero_len {w : World} {x : RD} (hx : x.ok w) (e : x.dy = Dy.zero) : ((x.xs.length : Int) != 0) = false := by
  have : x.xs.length = 0 := (rdok_zero hx).2 (by rw [e]; rfl)
  simp [this]
theorem keepE12 {w w' : World} (k : Kp w w') {b1 b2 b3 b4 : Nat} {x y z u : RD} (h : w.cell? ⟨b1, 0, none⟩ = some (.bool x.neg) ∧ w.cell? ⟨b1, 1, none⟩ = some (.slice x.a x.xs.length x.c) ∧ w.cell? ⟨b1, 2, none⟩ = some (.int .i64 x.e) ∧ w.cell? ⟨b2, 0, none⟩ = some (.bool y.neg) ∧ w.cell? ⟨b2, 1, none⟩ = some (.slice y.a y.xs.length y.c) ∧ w.cell? ⟨b2, 2, none⟩ = some (.int .i64 y.e) ∧ w.cell? ⟨b3, 0, none⟩ = some (.bool z.neg) ∧ w.cell? ⟨b3, 1, none⟩ = some (.slice z.a z.xs.length z.c) ∧ w.cell? ⟨b3, 2, none⟩ = some (.int .i64 z.e) ∧ w.cell? ⟨b4, 0, none⟩ = some (.bool u.neg) ∧ w.cell? ⟨b4, 1, none⟩ = some (.slice u.a u.xs.length u.c) ∧ w.cell? ⟨b4, 2, none⟩ = some (.int .i64 u.e)) : w'.cell? ⟨b1, 0, none⟩ = some (.bool x.neg) ∧ w'.cell? ⟨b1, 1, none⟩ = some (.slice x.a x.xs.length x.c) ∧ w'.cell? ⟨b1, 2, none⟩ = some (.int .i64 x.e) ∧ w'.cell? ⟨b2, 0, none⟩ = some (.bool y.neg) ∧ w'.cell? ⟨b2, 1, none⟩ = some (.slice y.a y.xs.length y.c) ∧ w'.cell? ⟨b2, 2, none⟩ = some (.int .i64 y.e) ∧ w'.cell? ⟨b3, 0, none⟩ = some (.bool z.neg) ∧ w'.cell? ⟨b3, 1, none⟩ = some (.slice z.a z.xs.length z.c) ∧ w'.cell? ⟨b3, 2, none⟩ = some (.int .i64 z.e) ∧ w'.cell? ⟨b4, 0, none⟩ = some (.bool u.neg) ∧ w'.cell? ⟨b4, 1, none⟩ = some (.slice u.a u.xs.length u.c) ∧ w'.cell? ⟨b4, 2, none⟩ = some (.int .i64 u.e) := by
  obtain ⟨a0, a1, a2, c0, c1, c2, d0, d1, d2, e0, e1, e2⟩ := h
  exact ⟨k.cell a0, k.cell a1, k.cell a2, k.cell c0, k.cell c1, k.cell c2, k.cell d0, k.cell d1, k.cell d2, k.cell e0, k.cell e1, k.cell e2⟩
/-- the least number, as a literal -/
def leastR (w : World) : RD := ⟨false, some ⟨w.heap.size, 0, none⟩, [1], 1, -16384⟩
theorem leastR_ok (w : World) (t : TypeId) (o : Obj) : (leastR w).ok ((w.alloc (.cells #[.int .u32 1] t)).alloc o) := by
  refine ⟨⟨⟨.cons (by decide) .nil, .inr ⟨_, 0, rfl, fun i hi => ?_⟩⟩, Nat.le_refl 1, (show 1 ≤ maxLen by decide), (show 1 ≤ 1100000 by decide), ok_I64 (dyT_ok false)⟩, ?_⟩
  · have : i = 0 := by simpa [leastR] using hi
    subst this
    refine ((Kp.refl (w.alloc (.cells #[.int .u32 1] t))).alloc o).cell ?_
    simp [leastR, nth_cons_zero]
  · have := ok_vld (dyT_ok false)
    rw [show limbs (⟨false, 1, -16384⟩ : Dy).m = [1] from limbs_single (m := 1) (by decide) (by decide)] at this
    exact this
theorem leastR_dy (w : World) : (leastR w).dy = ⟨false, 1, -16384⟩ := by unfold RD.dy leastR; simp [val]
set_option maxRecDepth 100000 in
set_option maxHeartbeats 16000000 in
theorem Ends_ok (p : Int) (neg : Bool) (m : Nat) (w : World) (hm : m < 4294967296) (hT : Tab w) :
    Calls Tryd.prog 5 #[.int .i64 p, .bool neg, .int .u32 (m : Nat)] w fun e w' => e = .returned (.bool true) ∧ Kp w w' := by
  go_enter Tryd.func5, Tryd.ntmps5
  go_upto_region 1 with fail
  go_cut [23] from 7 (fun s wx => s = .bool false ∧ Kp w wx)
  case first =>
    go_wp2_with fail
    refine (awake3_ok _ hT).mono ?_
    rintro e w1 ⟨rfl, k1⟩
    go_wp2_with fail
    go_meet
    case rel => exact ⟨rfl, k1⟩
  case rest =>
    obtain ⟨rfl, h1⟩ := hcut
    obtain ⟨W1, hW1⟩ : ∃ W1 : World, W1 = wc := ⟨_, rfl⟩
    subst hW1
    have hT1 := hT.kp h1
    by_cases hp0 : p < 8
    · go_wp2_with fail
      go_ret
      exact ⟨rfl, h1⟩
    · by_cases hp1 : 512 < p
      · go_wp2_with fail
        go_ret
        exact ⟨rfl, h1⟩
      · obtain ⟨q, rfl⟩ := Int.eq_ofNat_of_zero_le (show 0 ≤ p by omega)
        have g0 : 8 ≤ q := by omega
        have g1 : q ≤ 512 := by omega
        go_wp2_with fail
        generalize hA : ((W1.alloc _).alloc _) = A at *
        have hk : Kp W1 A := hA ▸ ((Kp.refl W1).alloc _).alloc _
        have oL : (leastR W1).ok A := hA ▸ leastR_ok W1 _ _
        have hL : A.cell? ⟨W1.heap.size + 1, 0, none⟩ = some (.bool (leastR W1).neg) ∧ A.cell? ⟨W1.heap.size + 1, 1, none⟩ = some (.slice (leastR W1).a (leastR W1).xs.length (leastR W1).c) ∧ A.cell? ⟨W1.heap.size + 1, 2, none⟩ = some (.int .i64 (leastR W1).e) := by rw [← hA]; simp [leastR]
        have dL := Lib.hid (leastR_dy W1)
        have h2 := h1.trans hk
        have hT2 := hT.kp h2
        clear hA hk
        generalize leastR W1 = L at *
        refine (num_at 1 (-1) _ (by decide) (by decide) (dyL_ok (by decide) (by decide) (by decide) (by decide))).mono ?_
        rintro e w2 ⟨H, rfl, oH, dH, -, k2⟩
        have ka := (Kp.refl w2).alloc (.cells #[.bool H.neg, .slice H.a H.xs.length H.c, .int .i64 H.e] 24)
        have k2a := k2.trans ka
        have oL2 := oL.kp k2a
        have oH2 := oH.kp ka
        have DH := Lib.hid dH
        have hL2 := keep3 k2a hL
        have h3 := h2.trans k2a
        have hT3 := hT2.kp k2a
        clear hL oL oH dH h2 hT2 k2 k2a
        go_upto_region 7 with fail
        generalize hA2 : w2.alloc _ = A2 at *
        have hH : A2.cell? ⟨w2.heap.size, 0, none⟩ = some (.bool H.neg) ∧ A2.cell? ⟨w2.heap.size, 1, none⟩ = some (.slice H.a H.xs.length H.c) ∧ A2.cell? ⟨w2.heap.size, 2, none⟩ = some (.int .i64 H.e) := by rw [← hA2]; simp
        clear hA2 ka
        obtain ⟨s0, s1, s2⟩ := id hL2
        obtain ⟨t0, t1, t2⟩ := id hH
        go_wp2_with fail
        clear s0 s1 s2 t0 t1 t2
        refine (mulDn L H false q _ oL2 oH2 dL.out DH.out g0 g1 hT3).mono ?_
        rintro e w3 ⟨a, rfl, ra, da, va, k3⟩
        have ka := (Kp.refl w3).alloc (.cells #[.bool a.neg, .slice a.a a.xs.length a.c, .int .i64 a.e] 24)
        have k3a := k3.trans ka
        have oA := (show a.ok w3 from ⟨ra, va Dy.ok_zero⟩).kp ka
        have DA := Lib.hid da
        have oL3 := oL2.kp k3a
        have oH3 := oH2.kp k3a
        have hLH := keepRR k3a (show A2.cell? ⟨W1.heap.size + 1, 0, none⟩ = some (.bool L.neg) ∧ A2.cell? ⟨W1.heap.size + 1, 1, none⟩ = some (.slice L.a L.xs.length L.c) ∧ A2.cell? ⟨W1.heap.size + 1, 2, none⟩ = some (.int .i64 L.e) ∧ A2.cell? ⟨w2.heap.size, 0, none⟩ = some (.bool H.neg) ∧ A2.cell? ⟨w2.heap.size, 1, none⟩ = some (.slice H.a H.xs.length H.c) ∧ A2.cell? ⟨w2.heap.size, 2, none⟩ = some (.int .i64 H.e) from ⟨hL2.1, hL2.2.1, hL2.2.2, hH⟩)
        have h4 := h3.trans k3a
        have hT4 := hT3.kp k3a
        clear hL2 hH oL2 oH2 h3 hT3 k3 k3a ra da va
        obtain ⟨s0, s1, s2, t0, t1, t2⟩ := id hLH
        go_wp2_with fail
        generalize hA3 : w3.alloc _ = A3 at *
        have hZA : A3.cell? ⟨w3.heap.size, 0, none⟩ = some (.bool a.neg) ∧ A3.cell? ⟨w3.heap.size, 1, none⟩ = some (.slice a.a a.xs.length a.c) ∧ A3.cell? ⟨w3.heap.size, 2, none⟩ = some (.int .i64 a.e) := by rw [← hA3]; simp
        clear hA3 ka s0 s1 s2 t0 t1 t2
        refine (mulUp L H false q _ oL3 oH3 dL.out DH.out g0 g1 hT4).mono ?_
        rintro e w4 ⟨b, rfl, rb, db, vb, k4⟩
        have ka := (Kp.refl w4).alloc (.cells #[.bool b.neg, .slice b.a b.xs.length b.c, .int .i64 b.e] 24)
        have k4a := k4.trans ka
        have oB := (show b.ok w4 from ⟨rb, vb (dyT_ok false)⟩).kp ka
        have DB := Lib.hid db
        have oA4 := oA.kp k4a
        have oL4 := oL3.kp k4a
        have oH4 := oH3.kp k4a
        have hLH4 := keepRR k4a hLH
        have hZA4 := keep3 k4a hZA
        have h5 := h4.trans k4a
        have hT5 := hT4.kp k4a
        clear hLH hZA oL3 oH3 h4 hT4 k4 k4a rb db vb oA
        go_upto_region 9 with fail
        generalize hA4 : w4.alloc _ = A4 at *
        have hZB : A4.cell? ⟨w4.heap.size, 0, none⟩ = some (.bool b.neg) ∧ A4.cell? ⟨w4.heap.size, 1, none⟩ = some (.slice b.a b.xs.length b.c) ∧ A4.cell? ⟨w4.heap.size, 2, none⟩ = some (.int .i64 b.e) := by rw [← hA4]; simp
        clear hA4 ka
        go_cut [13, 14] from 15 (fun s t wx => ∃ (b5 : Nat) (c : RD), s = .pointer (some ⟨b5, 0, none⟩) ∧ t = .int .i64 0 ∧ c.ok wx ∧ c.dy = ⟨true, 1, -16384⟩ ∧ (wx.cell? ⟨b5, 0, none⟩ = some (.bool c.neg) ∧ wx.cell? ⟨b5, 1, none⟩ = some (.slice c.a c.xs.length c.c) ∧ wx.cell? ⟨b5, 2, none⟩ = some (.int .i64 c.e)) ∧ Kp A4 wx)
        case first =>
          have hSS := keepRR (Kp.refl A4).drew hLH4
          have j0 := (Kp.refl A4).drew
          have HJ := Lib.hid j0
          have OL := Lib.hid (oL4.kp j0)
          have OH := Lib.hid (oH4.kp j0)
          have HT := Lib.hid (hT5.kp j0)
          have KZ := Lib.hid (show Kp A4.drew (A4.alloc (.cells #[.bool false, .slice none 0 0, .int .i64 0] 24)).drew from (Kp.refl A4.drew).alloc _)
          have HSZ := Lib.hid (keepRR KZ.out hSS)
          have BZ := Lib.hid (show Box3 (A4.alloc (.cells #[.bool false, .slice none 0 0, .int .i64 0] 24)).drew A4.heap.size (.bool false) (.slice none 0 0) (.int .i64 0) from Box3.new A4.drew _ _ _ _)
          clear hLH4 hZA4 hZB h5 hT5 oL4 oH4 oA4 oB j0 DA DB
          go_region_held3 (fun w' => w'.cell? ⟨W1.heap.size + 1, 0, none⟩ = some (.bool L.neg) ∧ w'.cell? ⟨W1.heap.size + 1, 1, none⟩ = some (.slice L.a L.xs.length L.c) ∧ w'.cell? ⟨W1.heap.size + 1, 2, none⟩ = some (.int .i64 L.e) ∧ w'.cell? ⟨w2.heap.size, 0, none⟩ = some (.bool H.neg) ∧ w'.cell? ⟨w2.heap.size, 1, none⟩ = some (.slice H.a H.xs.length H.c) ∧ w'.cell? ⟨w2.heap.size, 2, none⟩ = some (.int .i64 H.e)) (first | with_reducible assumption | with_reducible exact keepRR (by assumption) (by assumption) | with_reducible exact keepRR ((Kp.refl _).alloc _) (by assumption) | with_reducible exact setRR (by assumption) (by assumption) (by assumption) | with_reducible exact HSZ.out)
            (first
              | (go_at_call 13; (with_reducible refine (negL L _ OL.out dL.out).mono ?_); rintro e v1 ⟨n, rfl, on, dn, j1⟩)
              | (go_at_call 13; (with_reducible refine (negL L _ (OL.out.kp KZ.out) dL.out).mono ?_); rintro e v1 ⟨n, rfl, on, dn, j1⟩)
              | (go_at_call 18; (with_reducible refine (mulDn n H true q _ on (OH.out.kp j1) dn DH.out g0 g1 (HT.out.kp j1)).mono ?_); rintro e v2 ⟨c, rfl, rc, dc, vc, j2⟩
                 have hS2 := keepRR j2 (keepRR j1 hSS)
                 have FIN := Lib.hid (alloc_num rc ((HJ.out.trans j1).trans j2))
                 have VC := Lib.hid (vc (dyT_ok true))
                 have DC := Lib.hid (show c.dy = ⟨true, 1, -16384⟩ from dc))
              | (go_at_call 18; (with_reducible refine (mulDn n H true q _ (on.kp ((Kp.refl _).alloc _)) ((OH.out.kp j1).kp ((Kp.refl _).alloc _)) dn DH.out g0 g1 ((HT.out.kp j1).kp ((Kp.refl _).alloc _))).mono ?_); rintro e v2 ⟨c, rfl, rc, dc, vc, j2⟩
                 have hS2 := keepRR j1 hSS
                 have n1 : W1.heap.size + 1 ≠ v1.heap.size := Nat.ne_of_lt (World.block_lt_of_cell? v1 _ hS2.1)
                 have n2 : w2.heap.size ≠ v1.heap.size := Nat.ne_of_lt (World.block_lt_of_cell? v1 _ hS2.2.2.2.1)
                 have hB := (Box3.new v1 (.bool false) (.slice none 0 0) (.int .i64 0) 24).kp j2
                 have FIN := Lib.hid (store_num hB rc (((HJ.out.trans j1).alloc _).trans j2) ((HJ.out.trans j1).size))
                 have VC := Lib.hid (vc (dyT_ok true))
                 have DC := Lib.hid (show c.dy = ⟨true, 1, -16384⟩ from dc)
                 obtain ⟨q0, q1, q2, f0, f1, f2⟩ := hB)
              | (go_at_call 18; (with_reducible refine (mulDn n H true q _ on ((OH.out.kp KZ.out).kp j1) dn DH.out g0 g1 ((HT.out.kp KZ.out).kp j1)).mono ?_); rintro e v2 ⟨c, rfl, rc, dc, vc, j2⟩
                 have n1 : W1.heap.size + 1 ≠ A4.heap.size := Nat.ne_of_lt (World.block_lt_of_cell? A4.drew _ hSS.1)
                 have n2 : w2.heap.size ≠ A4.heap.size := Nat.ne_of_lt (World.block_lt_of_cell? A4.drew _ hSS.2.2.2.1)
                 have hB := (BZ.out.kp j1).kp j2
                 have FIN := Lib.hid (store_num hB rc (((HJ.out.trans KZ.out).trans j1).trans j2) (Nat.le_refl _))
                 have VC := Lib.hid (vc (dyT_ok true))
                 have DC := Lib.hid (show c.dy = ⟨true, 1, -16384⟩ from dc)
                 obtain ⟨q0, q1, q2, f0, f1, f2⟩ := hB)
              | fail)
          all_goals
            go_wp2_with fail
            go_meet
            case rel => exact ⟨_, c, rfl, rfl, ⟨FIN.out.2.1, VC.out⟩, DC.out, FIN.out.1, FIN.out.2.2⟩
        case rest =>
          obtain ⟨b5, c, rfl, rfl, oC, dC, hZC, k5⟩ := hcut
          obtain ⟨W5, hW5⟩ : ∃ W5 : World, W5 = wc := ⟨_, rfl⟩
          subst hW5
          go_upto_region 10 with fail
          have k5d := k5.trans (Kp.refl W5).drew
          have oL5 := Lib.hid (oL4.kp k5d)
          have oB5 := Lib.hid (oB.kp k5d)
          have rL5 := Lib.hid (oL4.kp k5d).1
          have rB5 := Lib.hid (oB.kp k5d).1
          have oC5 := Lib.hid oC.drew
          have rC5 := Lib.hid oC.drew.1
          have hz := zero_len oA4 DA.out
          have E1 := Lib.hid (sameR_dy oB oL4 (DB.out.trans dL.out.symm))
          have DC := Lib.hid dC
          obtain ⟨l0, l1, l2, _, _, _⟩ := keepRR k5d hLH4
          obtain ⟨a0, a1, a2⟩ := keep3 k5d hZA4
          obtain ⟨c0, c1, c2⟩ := keep3 (Kp.refl W5).drew hZC
          obtain ⟨d0, d1, d2⟩ := keep3 k5d hZB
          have hSS : W5.drew.cell? ⟨w3.heap.size, 0, none⟩ = some (.bool a.neg) ∧ W5.drew.cell? ⟨w3.heap.size, 1, none⟩ = some (.slice a.a a.xs.length a.c) ∧ W5.drew.cell? ⟨w3.heap.size, 2, none⟩ = some (.int .i64 a.e) ∧ W5.drew.cell? ⟨w4.heap.size, 0, none⟩ = some (.bool b.neg) ∧ W5.drew.cell? ⟨w4.heap.size, 1, none⟩ = some (.slice b.a b.xs.length b.c) ∧ W5.drew.cell? ⟨w4.heap.size, 2, none⟩ = some (.int .i64 b.e) ∧ W5.drew.cell? ⟨W1.heap.size + 1, 0, none⟩ = some (.bool L.neg) ∧ W5.drew.cell? ⟨W1.heap.size + 1, 1, none⟩ = some (.slice L.a L.xs.length L.c) ∧ W5.drew.cell? ⟨W1.heap.size + 1, 2, none⟩ = some (.int .i64 L.e) ∧ W5.drew.cell? ⟨b5, 0, none⟩ = some (.bool c.neg) ∧ W5.drew.cell? ⟨b5, 1, none⟩ = some (.slice c.a c.xs.length c.c) ∧ W5.drew.cell? ⟨b5, 2, none⟩ = some (.int .i64 c.e) := ⟨a0, a1, a2, d0, d1, d2, l0, l1, l2, c0, c1, c2⟩
          have HSS := Lib.hid hSS
          have h6 := Lib.hid (h5.trans k5d)
          have hT6 := Lib.hid (hT5.kp k5d)
          clear hLH4 hZA4 hZB hZC h5 hT5 oL4 oH4 oA4 oB oC DA DB dC k5 k5d l0 l1 l2 a0 a1 a2 c0 c1 c2 d0 d1 d2 hSS
          go_region_held3 (fun w' => w'.cell? ⟨w3.heap.size, 0, none⟩ = some (.bool a.neg) ∧ w'.cell? ⟨w3.heap.size, 1, none⟩ = some (.slice a.a a.xs.length a.c) ∧ w'.cell? ⟨w3.heap.size, 2, none⟩ = some (.int .i64 a.e) ∧ w'.cell? ⟨w4.heap.size, 0, none⟩ = some (.bool b.neg) ∧ w'.cell? ⟨w4.heap.size, 1, none⟩ = some (.slice b.a b.xs.length b.c) ∧ w'.cell? ⟨w4.heap.size, 2, none⟩ = some (.int .i64 b.e) ∧ w'.cell? ⟨W1.heap.size + 1, 0, none⟩ = some (.bool L.neg) ∧ w'.cell? ⟨W1.heap.size + 1, 1, none⟩ = some (.slice L.a L.xs.length L.c) ∧ w'.cell? ⟨W1.heap.size + 1, 2, none⟩ = some (.int .i64 L.e) ∧ w'.cell? ⟨b5, 0, none⟩ = some (.bool c.neg) ∧ w'.cell? ⟨b5, 1, none⟩ = some (.slice c.a c.xs.length c.c) ∧ w'.cell? ⟨b5, 2, none⟩ = some (.int .i64 c.e)) (first | with_reducible exact HSS.out | with_reducible assumption | with_reducible exact keepE12 (by assumption) (by assumption))
            (first
              | (go_at_call 14; (with_reducible refine (same_any b L _ rB5.out rL5.out).mono ?_); rw [E1.out]; rintro e v1 ⟨rfl, j1⟩)
              | (go_at_call 13; (with_reducible refine (negL L _ (oL5.out.kp j1) dL.out).mono ?_); rintro e v2 ⟨n, rfl, on, dn, j2⟩
                 have rn := Lib.hid on.1
                 have E2 := Lib.hid (sameR_dy oC5.out on (DC.out.trans dn.symm)))
              | (go_at_call 14; (with_reducible refine (same_any c n _ ((rC5.out.kp j1).kp j2) rn.out).mono ?_); rw [E2.out]; rintro e v3 ⟨rfl, j3⟩)
              | fail)
          have jj := (j1.trans j2).trans j3
          have h7 := h6.out.trans jj
          have hT7 := hT6.out.kp jj
          clear hz HSS j1 j2 j3 jj rn E2 E1 oL5 oB5 rL5 rB5 oC5 rC5 on dn h6 hT6
          go_wp2_with fail
          refine (num_at 1 16383 _ (by decide) (by decide) dyB_ok).mono ?_
          rintro e w7 ⟨B, rfl, oB, dB, -, k7⟩
          have ka := (Kp.refl w7).alloc (.cells #[.bool B.neg, .slice B.a B.xs.length B.c, .int .i64 B.e] 24)
          have k7a := k7.trans ka
          have oB8 := oB.kp ka
          have DB := Lib.hid dB
          have h8 := h7.trans k7a
          have hT8 := hT7.kp k7a
          clear oB dB h7 hT7 k7 k7a
          go_upto_region 13 with fail
          generalize hA7 : w7.alloc _ = A7 at *
          obtain ⟨s0, s1, s2⟩ : A7.cell? ⟨w7.heap.size, 0, none⟩ = some (.bool B.neg) ∧ A7.cell? ⟨w7.heap.size, 1, none⟩ = some (.slice B.a B.xs.length B.c) ∧ A7.cell? ⟨w7.heap.size, 2, none⟩ = some (.int .i64 B.e) := by rw [← hA7]; simp
          clear hA7 ka
          go_wp2_with fail
          refine (addDn B q _ oB8 DB.out g0 g1 hT8).mono ?_
          rintro e w8 ⟨T, rfl, rT, dT, vT, k8⟩
          have ka := (Kp.refl w8).alloc (.cells #[.bool T.neg, .slice T.a T.xs.length T.c, .int .i64 T.e] 24)
          have k8a := k8.trans ka
          have oT := (show T.ok w8 from ⟨rT, vT (topD_ok g0 g1)⟩).kp ka
          have DT := Lib.hid dT
          have oB9 := oB8.kp k8a
          have h9 := h8.trans k8a
          have hT9 := hT8.kp k8a
          have hZB := keep3 k8a (show A7.cell? ⟨w7.heap.size, 0, none⟩ = some (.bool B.neg) ∧ A7.cell? ⟨w7.heap.size, 1, none⟩ = some (.slice B.a B.xs.length B.c) ∧ A7.cell? ⟨w7.heap.size, 2, none⟩ = some (.int .i64 B.e) from ⟨s0, s1, s2⟩)
          clear rT dT vT oB8 h8 hT8 k8 k8a s0 s1 s2
          obtain ⟨s0, s1, s2⟩ := hZB
          go_upto_region 14 with fail
          generalize hA8 : w8.alloc _ = A8 at *
          have hZT : A8.cell? ⟨w8.heap.size, 0, none⟩ = some (.bool T.neg) ∧ A8.cell? ⟨w8.heap.size, 1, none⟩ = some (.slice T.a T.xs.length T.c) ∧ A8.cell? ⟨w8.heap.size, 2, none⟩ = some (.int .i64 T.e) := by rw [← hA8]; simp
          clear hA8 ka
          go_wp2_with fail
          refine (addUp B q _ oB9 DB.out g0 g1 hT9).mono ?_
          rintro e w9 ⟨U, rfl, rU, _, _, k9⟩
          have ka := (Kp.refl w9).alloc (.cells #[.bool U.neg, .slice U.a U.xs.length U.c, .int .i64 U.e] 24)
          have k9a := k9.trans ka
          have oT1 := oT.kp k9a
          have h10 := h9.trans k9a
          have hT10 := hT9.kp k9a
          have hZT1 := keep3 k9a hZT
          clear hZT oT oB9 h9 hT9 k9 k9a s0 s1 s2 DB rU
          go_upto_region 15 with fail
          generalize w9.alloc _ = A9 at *
          clear ka
          have I1 := Lib.hid (Is_any T q A9 oT1.1)
          have I2 := top_isB oT1 (p := q) (by rw [DT.out]; exact ⟨topD_ok g0 g1, Nat.le_of_eq (bits_two_pow_sub_one (by omega))⟩) g0 g1
          have I1' := I1.out
          rw [I2] at I1'
          have I3 := Lib.hid I1'
          clear I1 I2 I1'
          obtain ⟨s0, s1, s2⟩ := id hZT1
          go_wp2_with fail
          refine I3.out.mono ?_
          rintro e w10 ⟨rfl, k10⟩
          have oT2 := oT1.kp k10
          have hZT2 := keep3 k10 hZT1
          have h11 := h10.trans k10
          have hT11 := hT10.kp k10
          have TT := Lib.hid (show topI T.dy = 16384 by rw [DT.out]; exact top_topI g0)
          have TB := Lib.hid (show bits (val T.xs) = q by
            have : T.dy.m = 2 ^ q - 1 := by rw [DT.out]; rfl
            show bits T.dy.m = q
            rw [this]; exact bits_two_pow_sub_one (by omega))
          clear hZT1 oT1 h10 hT10 k10 s0 s1 s2 I3
          obtain ⟨s0, s1, s2⟩ := id hZT2
          go_wp2_with fail
          refine (Top_rok T _ oT2).mono ?_
          rw [TT.out]
          rintro e w11 ⟨rfl, k11⟩
          have oT3 := oT2.kp k11
          have hZT3 := keep3 k11 hZT2
          have h12 := h11.trans k11
          have hT12 := hT11.kp k11
          clear hZT2 oT2 h11 hT11 k11 s0 s1 s2
          obtain ⟨s0, s1, s2⟩ := id hZT3
          go_wp2_with fail
          refine (Bits_rok T _ oT3).mono ?_
          rw [TB.out]
          rintro e w12 ⟨rfl, k12⟩
          have oT4 := oT3.kp k12
          have hZT4 := keep3 k12 hZT3
          have h13 := h12.trans k12
          have hT13 := hT12.kp k12
          clear hZT3 oT3 h12 hT12 k12 s0 s1 s2
          go_upto_region 17 with fail
          have KA : Kp w12 w12.drew := (Kp.refl w12).drew
          go_cut [20, 21] from 22 (fun s t wx => ∃ (b6 : Nat) (d : RD), s = .pointer (some ⟨b6, 0, none⟩) ∧ t = .int .i64 0 ∧ d.ok wx ∧ (isP q d.dy ∧ d.dy.neg = false ∧ d.dy.m ≠ 0) ∧ (wx.cell? ⟨b6, 0, none⟩ = some (.bool d.neg) ∧ wx.cell? ⟨b6, 1, none⟩ = some (.slice d.a d.xs.length d.c) ∧ wx.cell? ⟨b6, 2, none⟩ = some (.int .i64 d.e)) ∧ Kp w12 wx)
          case first =>
            obtain ⟨M, hM⟩ : ∃ M, M = m ||| 1 := ⟨_, rfl⟩
            have hor : Go.bits BinOp.or IntKind.u32 (m : Int) 1 = (M : Int) := by rw [hM]; exact u32_or_nat m 1 hm (by decide)
            have HM := Lib.hid (show 0 < M ∧ M < 4294967296 ∧ M % 2 = 1 by
              have := or_one m hm
              rw [← hM] at this
              exact ⟨by omega, this.1, this.2⟩)
            clear hM
            have hSS := keep3 KA hZT4
            have HJ := Lib.hid KA
            have OT := Lib.hid (oT4.kp KA)
            have HT := Lib.hid (hT13.kp KA)
            have KZ := Lib.hid (show Kp w12.drew (w12.alloc (.cells #[.bool false, .slice none 0 0, .int .i64 0] 24)).drew from (Kp.refl w12.drew).alloc _)
            have HSZ := Lib.hid (keep3 KZ.out hSS)
            have BZ := Lib.hid (show Box3 (w12.alloc (.cells #[.bool false, .slice none 0 0, .int .i64 0] 24)).drew w12.heap.size (.bool false) (.slice none 0 0) (.int .i64 0) from Box3.new w12.drew _ _ _ _)
            clear hZT4 oT4 h13 hT13 KA TT TB
            go_region_held3 (fun w' => w'.cell? ⟨w8.heap.size, 0, none⟩ = some (.bool T.neg) ∧ w'.cell? ⟨w8.heap.size, 1, none⟩ = some (.slice T.a T.xs.length T.c) ∧ w'.cell? ⟨w8.heap.size, 2, none⟩ = some (.int .i64 T.e)) (first | with_reducible assumption | with_reducible exact keep3 (by assumption) (by assumption) | with_reducible exact keep3 ((Kp.refl _).alloc _) (by assumption) | with_reducible exact set3x (by assumption) (by assumption) | with_reducible exact HSZ.out)
              (first
                | (go_at_call 17; (with_reducible refine (num_at M (-31) _ HM.out.1 HM.out.2.1 (dyQ_ok HM.out.2.2 HM.out.2.1)).mono ?_); rintro e v1 ⟨n, rfl, on, dn, nx, j1⟩
                   have NX := Lib.hid nx
                   clear nx)
                | (go_at_call 24; (with_reducible refine (divDn T n q M _ (OT.out.kp j1) on DT.out dn NX.out HM.out.2.2 HM.out.2.1 g0 g1 (HT.out.kp j1)).mono ?_); rintro e v2 ⟨c, rfl, oc, pc, j2⟩
                   have hS2 := keep3 j2 (keep3 j1 hSS)
                   have FIN := Lib.hid (alloc_num oc.1 ((HJ.out.trans j1).trans j2))
                   have VC := Lib.hid (And.intro oc.2 pc)
                   clear oc pc)
                | (go_at_call 24; (with_reducible refine (divDn T n q M _ ((OT.out.kp j1).kp ((Kp.refl _).alloc _)) (on.kp ((Kp.refl _).alloc _)) DT.out dn NX.out HM.out.2.2 HM.out.2.1 g0 g1 ((HT.out.kp j1).kp ((Kp.refl _).alloc _))).mono ?_); rintro e v2 ⟨c, rfl, oc, pc, j2⟩
                   have hS2 := keep3 j1 hSS
                   have n1 : w8.heap.size ≠ v1.heap.size := Nat.ne_of_lt (World.block_lt_of_cell? v1 _ hS2.1)
                   have hB := (Box3.new v1 (.bool false) (.slice none 0 0) (.int .i64 0) 24).kp j2
                   have FIN := Lib.hid (store_num hB oc.1 (((HJ.out.trans j1).alloc _).trans j2) ((HJ.out.trans j1).size))
                   have VC := Lib.hid (And.intro oc.2 pc)
                   clear oc pc
                   obtain ⟨q0, q1, q2, f0, f1, f2⟩ := hB)
                | (go_at_call 24; (with_reducible refine (divDn T n q M _ ((OT.out.kp KZ.out).kp j1) on DT.out dn NX.out HM.out.2.2 HM.out.2.1 g0 g1 ((HT.out.kp KZ.out).kp j1)).mono ?_); rintro e v2 ⟨c, rfl, oc, pc, j2⟩
                   have n1 : w8.heap.size ≠ w12.heap.size := Nat.ne_of_lt (World.block_lt_of_cell? w12.drew _ hSS.1)
                   have hB := (BZ.out.kp j1).kp j2
                   have FIN := Lib.hid (store_num hB oc.1 (((HJ.out.trans KZ.out).trans j1).trans j2) (Nat.le_refl _))
                   have VC := Lib.hid (And.intro oc.2 pc)
                   clear oc pc
                   obtain ⟨q0, q1, q2, f0, f1, f2⟩ := hB)
                | fail)
            all_goals
              go_wp2_with fail
              go_meet
              case rel => exact ⟨_, c, rfl, rfl, ⟨FIN.out.2.1, VC.out.1⟩, VC.out.2, FIN.out.1, FIN.out.2.2⟩
          case rest =>
            obtain ⟨b6, d, rfl, rfl, oD, ⟨hp, hn, hm0⟩, hZD, k13⟩ := hcut
            obtain ⟨W6, hW6⟩ : ∃ W6 : World, W6 = wc := ⟨_, rfl⟩
            subst hW6
            have h14 := h13.trans k13
            have I1 := Is_any d q W6 oD.1
            rw [top_isB oD hp g0 g1] at I1
            have I2 := Lib.hid I1
            have SG := Lib.hid (sgn_pos' hn hm0)
            clear I1 hp hn hm0 hZT4 oT4 h13 hT13 KA TT TB k13
            obtain ⟨s0, s1, s2⟩ := id hZD
            go_wp2_with fail
            refine I2.out.mono ?_
            rintro e w13 ⟨rfl, k14⟩
            have oD2 := oD.kp k14
            obtain ⟨t0, t1, t2⟩ := keep3 k14 hZD
            have h15 := h14.trans k14
            clear I2 oD hZD h14 k14 s0 s1 s2
            cases neg with
            | true =>
              go_wp2_with fail
              go_ret
              exact ⟨rfl, h15⟩
            | false =>
              go_wp2_with fail
              refine (Sign_rok d _ oD2).mono ?_
              rw [SG.out]
              rintro e w14 ⟨rfl, k15⟩
              go_wp2_with fail
              go_ret
              exact ⟨rfl, h15.trans k15⟩
end Go.Proofs.YtkkiinbgjjjcoaaDoor
