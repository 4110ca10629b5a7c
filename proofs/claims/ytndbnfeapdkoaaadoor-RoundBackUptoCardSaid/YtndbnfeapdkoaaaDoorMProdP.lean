/-
  Plain: the rounded product is the exact one rounded, where that is a valid number.
  Plain: what the laws RoundExact and RoundEnds ask; no program in sight.
  Walks: the reference's trim, compare, Equal.
  Walks: the reference's zeros, right.
  Walks: the reference's right.
  Walks: the reference's plus, minus.
  Walks: the reference's bits, Neg.
  Walks: the reference's Neg, Valid.
-/
import Derived.Test.YtndbnfeapdkoaaaDoorMRoAdd
import Derived.Test.YtndbnfeapdkoaaaDoorMLaw3P
import Derived.Test.YtndbnfeapdkoaaaDoorMRoA
import Derived.Test.YtndbnfeapdkoaaaDoorMMul
import Derived.Shelf.Spec.TrailingZeros
import Derived.Test.YtndbnfeapdkoaaaDoorMSumH
section
namespace Go.Proofs.YtndbnfeapdkoaaaDoor
open Go.RowKit

theorem canon_rnd {s : Bool} {N p : Nat} {e : Int} {up : Bool} (hN : N ≠ 0) (h : (canon s N e).ok) : rndS s N e false p up = rnd 0 (canon s N e).iv p up := by
  have hc : canon s N e = ⟨s, oddp N, e + tz N⟩ := by unfold canon; rw [if_neg hN]
  have he := ok_e h
  rw [hc] at he ⊢
  refine rndS_val (a := (-(e + 16384)).toNat) (b := (e + 16384).toNat) hN ?_ (by omega)
  rw [iv_scale (d := ⟨s, oddp N, e + tz N⟩) (low := e) he.1 (by show e ≤ e + tz N; omega)]
  show sg s (oddp N * 2 ^ (e + tz N - e).toNat) * _ = _
  rw [show (e + (tz N : Int) - e).toNat = tz N from by omega, ← (oddp_spec hN).2]
end Go.Proofs.YtndbnfeapdkoaaaDoor
end

section
namespace Go.Proofs.YtndbnfeapdkoaaaDoor
open Go.RowKit

theorem chk0 {d : Dy} (h : (chk d).2 = 0) : (chk d).1 = d := by
  unfold chk at h ⊢
  split at h
  · next h' => rw [if_pos h']
  · next h' => cases h
/-- a sum, exact -/
def addX (x y : RD) : Dy × Int := if (x.vl && y.vl) = true then chk (sumD x.dy y.dy) else (.zero, 1)
/-- a product, exact -/
def mulX (x y : RD) : Dy × Int := if (x.vl && y.vl) = true then chk (prodD x.dy y.dy) else (.zero, 1)
theorem addX_ok (x y : RD) : (addX x y).1.ok := by
  unfold addX; split
  · exact sumD_chk_ok _ _
  · exact Dy.ok_zero
theorem mulX_ok (x y : RD) : (mulX x y).1.ok := by
  unfold mulX; split
  · exact chk_canon_ok _ _ _
  · exact Dy.ok_zero
theorem flt2 {x y : RD} {p : Int} (hx : x.vl = true) (hy : y.vl = true) (h : ¬ (8 ≤ p ∧ p ≤ 512)) : fltB p [x, y] = 2 := by
  have hp : preB p = false := decide_eq_false h
  unfold fltB; simp [hx, hy, hp]
theorem flt20 {x y : RD} {p : Int} (hx : x.vl = true) (hy : y.vl = true) (h : 8 ≤ p ∧ p ≤ 512) : fltB p [x, y] = 0 := fltB_zero.2 ⟨by simp [hx, hy], h.1, h.2⟩
/-- the rounded sum is the exact one, rounded -/
theorem add_exact {w w' : World} {x y z : RD} (_hx : x.rd w) (_hy : y.rd w) (hz : z.ok w') (h : (addX x y).2 = 0) (ez : z.dy = (addX x y).1) (p : Int) (up : Bool) : addB x y p up = rndB z p up := by
  unfold addX at h ez
  split at h
  · next hv =>
    rw [if_pos hv] at ez
    rw [Bool.and_eq_true] at hv
    rw [chk0 h] at ez
    unfold addB
    by_cases hp : 8 ≤ p ∧ p ≤ 512
    · rw [if_pos (flt20 hv.1 hv.2 hp), rndB_rnd hz hp.1 hp.2, show z.iv = x.iv + y.iv from by show z.dy.iv = _; rw [ez, sumD_iv]; rfl]
    · rw [flt2 hv.1 hv.2 hp, if_neg (by decide), rndB_bad hz.2 hp]
  · next hv => cases h
/-- the rounded product is the exact one, rounded -/
theorem mul_exact {w w' : World} {x y z : RD} (hx : x.rd w) (hy : y.rd w) (hz : z.ok w') (h : (mulX x y).2 = 0) (ez : z.dy = (mulX x y).1) (p : Int) (up : Bool) : mulB x y p up = rndB z p up := by
  have hok := mulX_ok x y
  unfold mulX at h ez hok
  split at h
  · next hv =>
    rw [if_pos hv] at ez hok
    rw [Bool.and_eq_true] at hv
    have hxo : x.ok w := ⟨hx, hv.1⟩
    have hyo : y.ok w := ⟨hy, hv.2⟩
    rw [chk0 h] at ez hok
    unfold mulB
    by_cases hp : 8 ≤ p ∧ p ≤ 512
    · rw [if_pos (flt20 hv.1 hv.2 hp), rndB_rnd hz hp.1 hp.2, show z.iv = (prodD x.dy y.dy).iv from by show z.dy.iv = _; rw [ez]]
      by_cases h0 : x.xs.length = 0 ∨ y.xs.length = 0
      · rw [if_pos h0]
        have hm : x.dy.m * y.dy.m = 0 := by
          rcases h0 with h0 | h0
          · rw [(rdok_zero hxo).1 h0, Nat.zero_mul]
          · rw [(rdok_zero hyo).1 h0, Nat.mul_zero]
        unfold prodD
        rw [hm, canon_zero, Dy.iv_zero, rnd_zero]; rfl
      · rw [if_neg h0]
        have hm : x.dy.m * y.dy.m ≠ 0 := Nat.mul_ne_zero (fun k => h0 (.inl ((rdok_zero hxo).2 k))) (fun k => h0 (.inr ((rdok_zero hyo).2 k)))
        exact congrArg rndE (canon_rnd hm hok)
    · rw [flt2 hv.1 hv.2 hp, if_neg (by decide), rndB_bad hz.2 hp]
  · next hv => cases h
/-- half of the least number -/
theorem tiny_rnd {p : Nat} (h0 : 8 ≤ p) (h1 : p ≤ 512) (s up : Bool) : rndS s 1 (-16385) false p up = some (if up != s then ⟨s, 1, -16384⟩ else .zero) := by
  have hb : bits 1 = 1 := by decide
  have hu : max ((-16385 : Int) + (1 : Nat) - p) (-16384) = -16384 := by omega
  have hl : rlost 1 (-16385) (-16384) = true := by decide
  have hw : rlow 1 (-16385) (-16384) = 0 := by decide
  have key : ∀ u : Bool, rcut 1 (-16385) false p u = some (if u then ⟨false, 1, -16384⟩ else .zero) := by
    intro u
    cases u with
    | false =>
      rw [rcut_at (q := 0) hb hu (by simp [hl, hw]) (by rw [bits_zero]; decide), canon_zero]; rfl
    | true =>
      rw [rcut_at (q := 1) hb hu (by simp [hl, hw]) (by rw [hb]; decide), canon_odd (by decide)]; rfl
  unfold rndS sgnR
  rw [key]
  cases s with
  | false => simp
  | true =>
    rw [if_pos rfl, Option.map_some]
    cases up with
    | false => rfl
    | true => show some (Dy.opp .zero) = _; rw [zero_opp]; rfl
/-- the greatest number of p bits -/
def topD (p : Nat) : Dy := ⟨false, 2 ^ p - 1, 16384 - p⟩
theorem odd_top {p : Nat} (h : 0 < p) : (2 ^ p - 1) % 2 = 1 := by
  have e : 2 ^ p = 2 ^ (p - 1) * 2 := by rw [← Nat.pow_succ]; congr 1; omega
  have := two_pow_pos (p - 1)
  omega
theorem topD_ok {p : Nat} (h0 : 8 ≤ p) (h1 : p ≤ 512) : (topD p).ok := by
  refine .inr ⟨odd_top (by omega), ?_, ?_, ?_, ?_⟩
  · show bits (2 ^ p - 1) ≤ 4096; rw [bits_two_pow_sub_one (by omega)]; omega
  · show -16384 ≤ (16384 : Int) - p; omega
  · show (16384 : Int) - p ≤ 16384; omega
  · show (bits (2 ^ p - 1) : Int) + (16384 - p) ≤ 16384; rw [bits_two_pow_sub_one (by omega)]; omega
theorem huge_rnd {p : Nat} (h0 : 8 ≤ p) (h1 : p ≤ 512) (up : Bool) : rndS false 1 16384 false p up = if up then none else some (topD p) := by
  have hb : bits 1 = 1 := by decide
  have hu : runit 1 16384 p = 16385 - p := by unfold runit; rw [hb]; omega
  have hq : rq 1 16384 false p up = 2 ^ (p - 1) := by
    unfold rq rlow rlost
    rw [hu, decide_eq_true (show (16385 : Int) - p ≤ 16384 by omega), if_pos (show (16385 : Int) - p ≤ 16384 by omega)]
    rw [show ((16384 : Int) - (16385 - p)).toNat = p - 1 by omega]
    simp
  have h2 : rcut 1 16384 false p up = if up then none else some (topD p) := by
    unfold rcut
    rw [hq, hu, bits_two_pow, if_pos (by omega), canon_odd (odd_top (by omega))]; rfl
  unfold rndS sgnR
  rw [Bool.bne_false, h2]; rfl
/-- a positive number, rounded down, is one of p bits, and not 0 -/
theorem pos_down {N p : Nat} {e : Int} {more : Bool} (hp : 8 ≤ p) (h1 : p ≤ 512) (hN : p ≤ bits N) (he : -16384 ≤ e) : ∃ d : Dy, rndS false N e more p false = some d ∧ isP p d ∧ d.neg = false ∧ d.m ≠ 0 := by
  have hne : N ≠ 0 := fun h => by rw [h, bits_zero] at hN; omega
  unfold rndS sgnR
  rw [Bool.bne_false, if_neg (by decide)]
  cases hr : rcut N e more p false with
  | none => unfold rcut at hr; split at hr <;> simp at hr
  | some d =>
    have hd := rcut_isP (by omega) (by omega) hr
    refine ⟨d, rfl, hd.1, hd.2, ?_⟩
    unfold rcut at hr
    split at hr
    · rw [if_neg (by decide)] at hr
      cases hr
      rw [canon_odd (odd_top (by omega))]
      exact Nat.ne_of_gt (by have := Nat.pow_le_pow_right (n := 2) (by decide) hp; show 0 < 2 ^ p - 1; omega)
    · cases hr
      have hq : rq N e more p false ≠ 0 := by
        unfold rq
        rw [Bool.false_and, if_neg (by decide)]
        unfold rlow runit
        split
        · exact Nat.mul_ne_zero hne (two_pow_ne _)
        · have h2 := two_pow_le_of_bits hne
          have h3 : (max (e + (bits N : Int) - p) (-16384) - e).toNat ≤ bits N - 1 := by omega
          exact Nat.ne_of_gt (Nat.div_pos (Nat.le_trans (Nat.pow_le_pow_right (by decide) h3) h2) (two_pow_pos _))
      unfold canon
      rw [if_neg hq]
      have ho := (oddp_spec hq).1
      show oddp _ ≠ 0
      intro h
      rw [h] at ho
      exact absurd ho (by decide)
/-- the quotient of the greatest number -/
theorem top_div {p M : Nat} (hp : 8 ≤ p) (h1 : p ≤ 512) (hM : M ≠ 0) (hM2 : bits M ≤ 32) {more : Bool} {e : Int} (he : e = 16384 - p - (3 + bits M : Nat) - -31) :
    ∃ d : Dy, rndS false ((2 ^ p - 1) * 2 ^ (3 + bits M) / M) e more p false = some d ∧ isP p d ∧ d.neg = false ∧ d.m ≠ 0 := by
  refine pos_down hp h1 ?_ (by omega)
  have hm := lt_two_pow_bits M
  have h2 : 2 ^ p ≤ (2 ^ p - 1) * 2 := by have := Nat.pow_le_pow_right (n := 2) (by decide) hp; omega
  have h3 : 2 ^ p ≤ (2 ^ p - 1) * 2 ^ (3 + bits M) / M := by
    rw [Nat.le_div_iff_mul_le (by omega)]
    calc 2 ^ p * M ≤ (2 ^ p - 1) * 2 * 2 ^ bits M := Nat.mul_le_mul h2 (by omega)
      _ = (2 ^ p - 1) * 2 ^ (1 + bits M) := by rw [Nat.mul_assoc, Nat.pow_add]
      _ ≤ _ := Nat.mul_le_mul_left _ (Nat.pow_le_pow_right (by decide) (by omega))
  have h4 := bits_ge_of h3
  omega
end Go.Proofs.YtndbnfeapdkoaaaDoor
end

section
namespace Go.Proofs.YtndbnfeapdkoaaaDoor
open Go.RowKit

set_option maxHeartbeats 1000000 in
theorem r2trim_any (a : Option Addr) (xs : List Nat) (c : Nat) (w : World) (h : Rd w a xs) (hc : xs.length ≤ c) (hm : c ≤ maxLen) (hl : xs.length ≤ 1100000) :
    Calls Tryd.prog 77 #[.slice a xs.length c] w (NatOut w (val xs)) := by
  have hend : ∀ (n : Nat) (W : World), n = (limbs (val xs)).length → Rd W a (limbs (val xs)) → Rd (W.alloc (.cells #[] 42)) a (limbs (val xs)) := fun n W _ hr => hr.kp ((Kp.refl W).alloc _)
  have hm' := hm
  unfold maxLen at hm
  have hll := limbs_len_le h.lt32
  go_enter Tryd.func77, Tryd.ntmps77
  go_wp2
  go_loop [3] (fun x => ∃ n : Nat, n ≤ xs.length ∧ x = .int .i64 n ∧ ∀ i, n ≤ i → i < xs.length → nth xs i = 0) (fun x => (intOf x).toNat)
  case atStart => exact ⟨xs.length, Nat.le_refl _, rfl, fun i h1 h2 => by omega⟩
  case round =>
    obtain ⟨n, hn, rfl, hz⟩ := hrel
    have Hz := Lib.hid hz; clear hz
    by_cases h0 : n = 0
    · have htop := trim_top h.lt32 hn Hz.out (by omega)
      have hlen : (limbs (val xs)).length = n := by rw [← htop, List.length_take, Nat.min_eq_left hn]
      have hr := h.limbs.kp ((Kp.refl w).alloc (.cells #[] 42))
      have Hlen := Lib.hid hlen
      clear htop hlen
      subst h0
      go_wp2_with (at_builtin; refine wpList_append_u32s rfl _ _ rfl w.heap.size _ [] rfl (Own.empty w _ (Nat.le_refl _)) a (limbs (val xs)) c (by rw [Hlen.out]; rfl) hr (by simp; omega) (by simp) ?_; intro a2 c2 w2 hown2 hb2)
      go_ret
      obtain ⟨h5, h6, h7, h8⟩ := hown2.rd
      rw [List.nil_append] at h6 h8
      exact ⟨a2, c2, by simp, h6, h7, h8, ((Kp.refl w).alloc _).below.trans hb2⟩
    · obtain ⟨b, o, rfl, hcell⟩ := h.some (i := n - 1) (by omega)
      have hk := hcell (n - 1) (by omega)
      clear hcell
      by_cases hx : nth xs (n - 1) = 0
      · have hx2 : ((nth xs (n - 1) : Int) == 0) = true := by simp [hx]
        have Hx := Lib.hid hx; clear hx
        go_wp2
        go_round
        case rel =>
          refine ⟨n - 1, by omega, by congr 1; omega, fun i h1 h2 => ?_⟩
          by_cases hi : i = n - 1
          · rw [hi]; exact Hx.out
          · exact Hz.out i (by omega) h2
        case measure => simp [intOf]; omega
      · have hx2 : ((nth xs (n - 1) : Int) == 0) = false := by simp; omega
        have htop := trim_top h.lt32 hn Hz.out (fun _ => hx)
        have hlen : (limbs (val xs)).length = n := by rw [← htop, List.length_take, Nat.min_eq_left hn]
        have hr := h.limbs.kp ((Kp.refl w).alloc (.cells #[] 42))
        have Hlen := Lib.hid hlen
        clear htop hlen
        go_wp2_with (at_builtin; refine wpList_append_u32s rfl _ _ rfl w.heap.size _ [] rfl (Own.empty w _ (Nat.le_refl _)) (some ⟨b, o, none⟩) (limbs (val xs)) c (by rw [Hlen.out]; rfl) hr (by simp; omega) (by simp) ?_; intro a2 c2 w2 hown2 hb2)
        go_ret
        obtain ⟨h5, h6, h7, h8⟩ := hown2.rd
        rw [List.nil_append] at h6 h8
        exact ⟨a2, c2, by simp, h6, h7, h8, ((Kp.refl w).alloc _).below.trans hb2⟩

/-- compare, of limbs as they come -/
def cmpL (xs ys : List Nat) : Int := if xs.length < ys.length then -1 else if ys.length < xs.length then 1 else cmpN (val xs) (val ys)
theorem cmpL_lt {xs ys : List Nat} (h : xs.length < ys.length) : cmpL xs ys = -1 := by unfold cmpL; rw [if_pos h]
theorem cmpL_gt {xs ys : List Nat} (h : ys.length < xs.length) : cmpL xs ys = 1 := by unfold cmpL; rw [if_neg (by omega), if_pos h]
theorem cmpL_eq {xs ys : List Nat} (h : xs.length = ys.length) : cmpL xs ys = cmpN (val xs) (val ys) := by unfold cmpL; rw [if_neg (by omega), if_neg (by omega)]
theorem val_inj {xs ys : List Nat} (hx : Lt32 xs) (hy : Lt32 ys) (hl : xs.length = ys.length) (h : val xs = val ys) : xs = ys := by
  induction xs generalizing ys with
  | nil => cases ys with
    | nil => rfl
    | cons y ys => simp at hl
  | cons x xs ih => cases ys with
    | nil => simp at hl
    | cons y ys =>
      rw [val_cons, val_cons] at h
      have h1 := hx x (by simp)
      have h2 := hy y (by simp)
      have e1 : x = y := by omega
      subst e1
      rw [ih (fun z hz => hx z (List.mem_cons_of_mem _ hz)) (fun z hz => hy z (List.mem_cons_of_mem _ hz)) (by simpa using hl) (by omega)]
/-- have two numbers equal fields? -/
def eqR (x y : RD) : Bool := decide (x.neg = y.neg) && (decide (x.e = y.e) && decide (x.xs = y.xs))
end Go.Proofs.YtndbnfeapdkoaaaDoor
end

section
namespace Go.Proofs.YtndbnfeapdkoaaaDoor
open Go.RowKit

/-- the bit n of a number -/
theorem bit_nth {xs : List Nat} (h : Lt32 xs) (n : Nat) : nth xs (n / 32) / 2 ^ (n % 32) % 2 = val xs / 2 ^ n % 2 := by
  have e : 2 ^ n = 4294967296 ^ (n / 32) * 2 ^ (n % 32) := by rw [pow32, ← Nat.pow_add]; congr 1; omega
  by_cases hl : n / 32 < xs.length
  · have e1 := val_take_drop xs (n / 32) (by omega)
    have e2 : xs.drop (n / 32) = nth xs (n / 32) :: xs.drop (n / 32 + 1) := drop_eq_nth hl
    have e3 : val xs / 4294967296 ^ (n / 32) = val (xs.drop (n / 32)) := by
      have h1 : val (xs.take (n / 32)) < 4294967296 ^ (n / 32) := by
        have := val_lt (h.take (n / 32))
        rwa [List.length_take, Nat.min_eq_left (by omega)] at this
      have hp : 0 < 4294967296 ^ (n / 32) := Nat.pow_pos (by decide)
      rw [e1, Nat.add_mul_div_left _ _ hp, Nat.div_eq_of_lt h1, Nat.zero_add]
    rw [e, ← Nat.div_div_eq_div_mul, e3, e2, val_cons]
    have hr : n % 32 < 32 := Nat.mod_lt _ (by decide)
    obtain ⟨d, hd⟩ : ∃ d, 4294967296 = 2 ^ (n % 32) * (2 * d) := ⟨2 ^ (31 - n % 32), by
      rw [show 2 * 2 ^ (31 - n % 32) = 2 ^ (31 - n % 32 + 1) from by rw [Nat.pow_succ]; omega, ← Nat.pow_add, show n % 32 + (31 - n % 32 + 1) = 32 from by omega]⟩
    have e4 : 4294967296 * val (xs.drop (n / 32 + 1)) = 2 ^ (n % 32) * (2 * (d * val (xs.drop (n / 32 + 1)))) := by
      conv => lhs; rw [hd]
      rw [Nat.mul_assoc, Nat.mul_assoc]
    rw [e4, Nat.add_mul_div_left _ _ (two_pow_pos _)]
    omega
  · rw [nth_ge (by omega), Nat.zero_div]
    have h1 : val xs < 2 ^ n := by
      refine Nat.lt_of_lt_of_le (val_lt h) ?_
      rw [pow32]
      exact Nat.pow_le_pow_right (by decide) (by omega)
    rw [Nat.div_eq_of_lt h1]
theorem tz_least {V n : Nat} (h0 : V ≠ 0) (hz : V % 2 ^ n = 0) : n ≤ tz V ∧ (V / 2 ^ n % 2 = 1 → n = tz V) := by
  obtain ⟨h1, h2⟩ := oddp_spec h0
  have hle : n ≤ tz V := by
    apply Classical.byContradiction; intro hn
    have hd : V = 2 ^ n * (V / 2 ^ n) := by have := Nat.div_add_mod V (2 ^ n); omega
    have e : 2 ^ n = 2 ^ tz V * (2 * 2 ^ (n - tz V - 1)) := by
      rw [show 2 * 2 ^ (n - tz V - 1) = 2 ^ (n - tz V - 1 + 1) from by rw [Nat.pow_succ]; omega, ← Nat.pow_add]; congr 1; omega
    have e2 : oddp V * 2 ^ tz V = 2 * (2 ^ (n - tz V - 1) * (V / 2 ^ n)) * 2 ^ tz V := by
      refine h2.symm.trans (hd.trans ?_)
      generalize V / 2 ^ n = q
      rw [e, Nat.mul_assoc, Nat.mul_comm (2 ^ tz V), Nat.mul_assoc 2]
    have := Nat.eq_of_mul_eq_mul_right (two_pow_pos _) e2
    omega
  refine ⟨hle, fun h => ?_⟩
  apply Classical.byContradiction; intro hn
  have e : V / 2 ^ n = 2 * (oddp V * 2 ^ (tz V - n - 1)) := by
    conv => lhs; rw [h2]
    rw [show 2 ^ tz V = 2 * 2 ^ (tz V - n - 1) * 2 ^ n from by rw [show 2 * 2 ^ (tz V - n - 1) = 2 ^ (tz V - n - 1 + 1) from by rw [Nat.pow_succ]; omega, ← Nat.pow_add]; congr 1; omega]
    rw [← Nat.mul_assoc, Nat.mul_div_cancel _ (two_pow_pos n), Nat.mul_left_comm]
  omega
theorem bit32 {x r : Nat} (hx : x < 4294967296) : Go.bits BinOp.and IntKind.u32 ((x : Int) / 2 ^ r) 1 = ((x / 2 ^ r % 2 : Nat) : Int) := by
  have e : ((x : Int) / 2 ^ r) = ((x / 2 ^ r : Nat) : Int) := by rw [Int.natCast_ediv, Int.natCast_pow]; rfl
  rw [e]
  have h1 := Nat.div_le_self x (2 ^ r)
  have h := Go.Proofs.bits_and_u32_nat (x / 2 ^ r) 1 (by omega) (by omega)
  rw [Nat.and_one_is_mod] at h
  exact h
theorem bits_of_nz {V : Nat} (h0 : V ≠ 0) : tz V < bits V := by
  have := bits_oddp h0
  have := bits_pos (oddp_ne_zero h0)
  omega
set_option maxRecDepth 100000 in
set_option maxHeartbeats 4000000 in
theorem r2zeros_any (a : Option Addr) (xs : List Nat) (c : Nat) (w : World) (h : Rd w a xs) (hl : xs.length ≤ 1100000) (h0 : val xs ≠ 0) :
    Calls Tryd.prog 78 #[.slice a xs.length c] w fun e w' => e = .returned (.int .i64 (tz (val xs))) ∧ w = w' := by
  have hbv := bits_val_le h.lt32
  have htz := bits_of_nz h0
  have H0 := Lib.hid h0
  clear h0
  go_enter Tryd.func78, Tryd.ntmps78
  go_wp2
  go_loop [3] (fun x => ∃ n : Nat, n ≤ tz (val xs) ∧ x = .int .i64 n ∧ val xs % 2 ^ n = 0) (fun x => tz (val xs) + 1 - (intOf x).toNat)
  case atStart => exact ⟨0, Nat.zero_le _, rfl, by simp [Nat.mod_one]⟩
  case round =>
    obtain ⟨n, hn, rfl, hz⟩ := hrel
    have Hz := Lib.hid hz; clear hz
    have hq : n / 32 < xs.length := by omega
    obtain ⟨b, o, rfl, hcell⟩ := h.some hq
    have hk := hcell (n / 32) hq
    have Hb := Lib.hid (bit_nth h.lt32 n)
    have hnb := h.lt32.nth (n / 32)
    have hi1 : (0 : Int) ≤ ((n / 32 : Nat) : Int) := by omega
    have hi2 : ((n / 32 : Nat) : Int) < (xs.length : Int) := by omega
    clear hcell
    have h32 := bit32 (r := n % 32) hnb
    have hle := (tz_least H0.out Hz.out)
    by_cases hbit : val xs / 2 ^ n % 2 = 1
    · have ht : (Go.bits BinOp.and IntKind.u32 ((nth xs (n / 32) : Int) / 2 ^ (n % 32)) 1 == 0) = false := beq_eq_false_iff_ne.2 (by rw [h32, Hb.out, hbit]; decide)
      have Hn := Lib.hid (hle.2 hbit)
      clear h32 hle hbit
      go_wp2_with fail
      go_ret
      exact ⟨by rw [← Hn.out]; rfl, rfl⟩
    · have ht : (Go.bits BinOp.and IntKind.u32 ((nth xs (n / 32) : Int) / 2 ^ (n % 32)) 1 == 0) = true := beq_iff_eq.2 (by rw [h32, Hb.out]; omega)
      have hz2 : val xs % 2 ^ (n + 1) = 0 := by
        rw [Nat.add_comm, mod_pow_add]
        exact ⟨Hz.out, by rw [Nat.pow_one]; omega⟩
      have Hz2 := Lib.hid hz2
      have Hle2 := Lib.hid (tz_least H0.out hz2).1
      clear h32 hle hbit hz2
      go_wp2_with fail
      go_round
      case rel => exact ⟨n + 1, Hle2.out, by go_num, Hz2.out⟩
      case measure => simp [intOf]; omega
end Go.Proofs.YtndbnfeapdkoaaaDoor
end

section
namespace Go.Proofs.YtndbnfeapdkoaaaDoor
open Go.RowKit

theorem right_step {zs vs : List Nat} {k r z t : Nat} (hk : zs.length = k) (h : val zs * 2 ^ r + t = val (vs.take k) + 4294967296 ^ k * (nth vs k % 2 ^ r))
    (hz : z * 2 ^ r + nth vs k % 2 ^ r = nth vs k + 4294967296 * (nth vs (k + 1) % 2 ^ r)) :
    val (zs ++ [z]) * 2 ^ r + t = val (vs.take (k + 1)) + 4294967296 ^ (k + 1) * (nth vs (k + 1) % 2 ^ r) := by
  rw [val_snoc, hk, val_take_step vs, Nat.pow_succ, Nat.mul_assoc, Nat.add_mul, Nat.mul_assoc]
  generalize 4294967296 ^ k = P at *
  have e : P * (z * 2 ^ r + nth vs k % 2 ^ r) = P * (z * 2 ^ r) + P * (nth vs k % 2 ^ r) := Nat.mul_add _ _ _
  rw [hz, Nat.mul_add] at e
  omega
theorem and_low {s : Nat} (hs : s < 18446744073709551616) : Go.bits BinOp.and IntKind.u64 (s : Int) 4294967295 = ((s % 4294967296 : Nat) : Int) := by
  have h := bits_and_u64_nat s 4294967295 hs (by omega)
  rw [show s &&& 4294967295 = s % 4294967296 from Nat.and_two_pow_sub_one_eq_mod s 32] at h
  exact h
theorem cell_low {x y r : Nat} (hx : x < 4294967296) (hy : y < 4294967296) : (Go.bits BinOp.and IntKind.u64 (((x : Int) + 4294967296 * y) / 2 ^ r) 4294967295) % 4294967296 = (((x + 4294967296 * y) / 2 ^ r % 4294967296 : Nat) : Int) := by
  have e : (((x : Int) + 4294967296 * y) / 2 ^ r) = (((x + 4294967296 * y) / 2 ^ r : Nat) : Int) := by
    rw [Int.natCast_ediv, Int.natCast_add, Int.natCast_mul, Int.natCast_pow]; rfl
  have h1 := Nat.div_le_self (x + 4294967296 * y) (2 ^ r)
  rw [e, and_low (by omega)]
  omega
theorem cell_low0 {x r : Nat} (hx : x < 4294967296) : (Go.bits BinOp.and IntKind.u64 ((x : Int) / 2 ^ r) 4294967295) % 4294967296 = ((x / 2 ^ r % 4294967296 : Nat) : Int) := by
  have := @cell_low x 0 r hx (by decide)
  simpa using this
set_option maxHeartbeats 2000000 in
set_option maxRecDepth 100000 in
theorem r2right_any (a : Option Addr) (xs : List Nat) (c n : Nat) (w : World) (h1 : Rd w a xs) (hxc : xs.length ≤ c) (hc : c ≤ maxLen) (hxl : xs.length ≤ 1100000) (hn : n ≤ 40000000) :
    Calls Tryd.prog 79 #[.slice a xs.length c, .int .i64 n] w (NatOut w (val xs / 2 ^ n)) := by
  have hc' := hc
  by_cases hq : xs.length ≤ n / 32
  · have hq2 : (xs.length : Int) ≤ (n : Int) / 32 := by omega
    have h2 := val_lt h1.lt32
    rw [pow32] at h2
    have hz : val xs / 2 ^ n = 0 := Nat.div_eq_of_lt (Nat.lt_of_lt_of_le h2 (Nat.pow_le_pow_right (by decide) (by omega)))
    rw [hz]
    clear hz h2
    go_enter Tryd.func79, Tryd.ntmps79
    go_wp2_with fail
    go_ret
    exact ⟨none, 0, by rw [limbs_zero]; rfl, by rw [limbs_zero]; exact Nat.le_refl _, by unfold maxLen; omega, by rw [limbs_zero]; exact .nil _ _, .refl _⟩
  · have hq2 : ¬ (xs.length : Int) ≤ (n : Int) / 32 := by omega
    obtain ⟨b1, o1, rfl, _⟩ := h1.some (i := 0) (by omega)
    have h2 := h1.drop (n / 32)
    have hq3 : (n : Int) / 32 < xs.length := by omega
    have hvl : (xs.drop (n / 32)).length = xs.length - n / 32 := List.length_drop
    have hval : val (xs.drop (n / 32)) = val xs / 4294967296 ^ (n / 32) := by
      have e := val_take_drop xs (n / 32) (by omega)
      have b := val_lt (h1.lt32.take (n / 32))
      rw [List.length_take, Nat.min_eq_left (by omega)] at b
      rw [e, Nat.add_mul_div_left _ _ (Nat.pow_pos (by decide)), Nat.div_eq_of_lt b, Nat.zero_add]
    have hfin : val xs / 2 ^ n = val (xs.drop (n / 32)) / 2 ^ (n % 32) := by rw [hval, Nat.div_div_eq_div_mul, pow_split]
    rw [hfin]
    clear hval hfin
    generalize xs.drop (n / 32) = vs at *
    have hr : n % 32 < 32 := Nat.mod_lt _ (by decide)
    have Hvl := Lib.hid hvl
    have hvl2 : xs.length - n / 32 ≤ vs.length := by omega
    clear hvl
    go_enter Tryd.func79, Tryd.ntmps79
    go_wp2_with fail
    go_loopw [5, 6] (fun v ix wr => ∃ (k : Nat) (zs : List Nat), k ≤ xs.length - n / 32 ∧ ix = .int .i64 k ∧ zs.length = k ∧ Own wr w.heap.size v zs ∧
      val zs * 2 ^ (n % 32) + nth vs 0 % 2 ^ (n % 32) = val (vs.take k) + 4294967296 ^ k * (nth vs k % 2 ^ (n % 32)) ∧ Kp w wr) (fun _ ix _ => (xs.length - n / 32) - (intOf ix).toNat)
    case atStart => exact ⟨0, [], Nat.zero_le _, rfl, rfl, Own.nil _ _, by simp [val], .refl _⟩
    case round =>
      obtain ⟨k, zs, hk, rfl, hzl, hown, hvz, hkp⟩ := hrel
      have Hvz := Lib.hid hvz
      have Hzl := Lib.hid hzl
      have hzl2 : zs.length + 1 ≤ 9000000 := by omega
      clear hvz hzl
      by_cases hlt : k < xs.length - n / 32
      · obtain ⟨b2, o2, e2, hcx⟩ := (h2.kp hkp).some (i := k) (by omega)
        cases e2
        have hx1 := hcx k (by omega)
        have bx := h2.lt32.nth k
        have bx2 := h2.lt32.nth (k + 1)
        have Hst := Lib.hid (fun z => right_step (z := z) Hzl.out Hvz.out)
        have Hl := Lib.hid (shr_limb (y := nth vs (k + 1)) bx hr)
        by_cases hlt2 : k + 1 < xs.length - n / 32
        · have hx2 := hcx (k + 1) (by omega)
          have hor := shr_or bx bx2
          clear hcx
          have hcl := Lib.hid (cell_low (r := n % 32) bx bx2)
          go_wp2_with (at_builtin; refine wpList_append_u32 rfl _ _ rfl w.heap.size _ _ rfl (hown.alloc _) _ _ rfl (World.cell?_alloc_new _ _ _ _) ((nth vs k + 4294967296 * nth vs (k + 1)) / 2 ^ (n % 32) % 4294967296) hcl.out (Nat.mod_lt _ (by decide)) hzl2 (by have := hkp.size; simp; omega) ?_; intro a2 c2 w2 hown2 hb2)
          go_roundw
          case rel => exact ⟨k + 1, _, by omega, by go_num, by simp [Hzl.out], hown2, Hst.out _ Hl.out, (hkp.alloc _).below.trans hb2⟩
          case measure => simp [intOf]; omega
        · have h0 : nth vs (k + 1) = 0 := nth_ge (by rw [Hvl.out]; omega)
          have H0 := Lib.hid h0
          have hcl := Lib.hid (cell_low0 (r := n % 32) bx)
          have hltt : ¬ ((k : Int) + 1 < ((xs.length - n / 32 : Nat) : Int)) := by omega
          clear hcx h0
          go_wp2_with (at_builtin; refine wpList_append_u32 rfl _ _ rfl w.heap.size _ _ rfl (hown.alloc _) _ _ rfl (World.cell?_alloc_new _ _ _ _) (nth vs k / 2 ^ (n % 32) % 4294967296) hcl.out (Nat.mod_lt _ (by decide)) hzl2 (by have := hkp.size; simp; omega) ?_; intro a2 c2 w2 hown2 hb2)
          go_roundw
          case rel =>
            have h3 := Hl.out
            rw [H0.out, Nat.mul_zero, Nat.add_zero] at h3
            exact ⟨k + 1, _, by omega, by go_num, by simp [Hzl.out], hown2, Hst.out _ (by rw [H0.out]; exact h3), (hkp.alloc _).below.trans hb2⟩
          case measure => simp [intOf]; omega
      · have hke : k = xs.length - n / 32 := by omega
        have e2 := Hvz.out
        have h0 : nth vs k = 0 := nth_ge (by rw [Hvl.out, hke]; omega)
        rw [h0, Nat.zero_mod, Nat.mul_zero, Nat.add_zero, hke, List.take_of_length_le (by rw [Hvl.out]; omega)] at e2
        have hlt3 := Nat.mod_lt (nth vs 0) (two_pow_pos (n % 32))
        have e3 : val zs = val vs / 2 ^ (n % 32) := by
          rw [← e2, Nat.mul_comm, Nat.mul_add_div (two_pow_pos _), Nat.div_eq_of_lt hlt3, Nat.add_zero]
        obtain ⟨a5, c5, e5, l5, m5, r5⟩ := hown.value
        subst e5
        have E3 := Lib.hid e3
        have hT := Lib.hid (r2trim_any a5 zs c5 wr r5 l5 m5 (by have := Hzl.out; omega))
        have hkk := Lib.hid hkp
        clear e2 e3 h0 hlt3 hkp hown
        go_wp2_with fail
        refine hT.out.mono ?_
        rintro e w7 ⟨a6, c6, rfl, l6, m6, r6, k6⟩
        go_wp2_with fail
        go_ret
        rw [← E3.out]
        exact ⟨a6, c6, rfl, l6, m6, r6, hkk.out.trans k6⟩
end Go.Proofs.YtndbnfeapdkoaaaDoor
end

section
namespace Go.Proofs.YtndbnfeapdkoaaaDoor
open Go.RowKit

theorem and_lowI {x : Int} {s : Nat} (h : x = s) (hs : s < 18446744073709551616) : Go.bits BinOp.and IntKind.u64 x 4294967295 % 4294967296 = ((s % 4294967296 : Nat) : Int) := by
  subst h
  rw [and_low hs]
  omega
theorem plus_step {zs xs ys : List Nat} {k c z c' : Nat} (hk : zs.length = k) (h : val zs + 4294967296 ^ k * c = val (xs.take k) + val (ys.take k)) (hz : z + 4294967296 * c' = c + nth xs k + nth ys k) :
    val (zs ++ [z]) + 4294967296 ^ (k + 1) * c' = val (xs.take (k + 1)) + val (ys.take (k + 1)) := by
  rw [val_snoc, hk, val_take_step xs, val_take_step ys, Nat.pow_succ, Nat.mul_assoc]
  generalize 4294967296 ^ k = P at *
  have e : P * (z + 4294967296 * c') = P * (c + nth xs k + nth ys k) := by rw [hz]
  rw [Nat.mul_add, Nat.mul_add, Nat.mul_add] at e
  omega
theorem minus_step {zs xs ys : List Nat} {k c z c' : Nat} (hk : zs.length = k) (h : val zs + val (ys.take k) = val (xs.take k) + 4294967296 ^ k * c) (hz : z + (c + nth ys k) = nth xs k + 4294967296 * c') :
    val (zs ++ [z]) + val (ys.take (k + 1)) = val (xs.take (k + 1)) + 4294967296 ^ (k + 1) * c' := by
  rw [val_snoc, hk, val_take_step xs, val_take_step ys, Nat.pow_succ, Nat.mul_assoc]
  generalize 4294967296 ^ k = P at *
  have e : P * (z + (c + nth ys k)) = P * (nth xs k + 4294967296 * c') := by rw [hz]
  rw [Nat.mul_add, Nat.mul_add, Nat.mul_add] at e
  omega
end Go.Proofs.YtndbnfeapdkoaaaDoor
end

section
namespace Go.Proofs.YtndbnfeapdkoaaaDoor
open Go.RowKit

theorem limbs_top_ne {n : Nat} (h : n ≠ 0) : nth (limbs n) ((limbs n).length - 1) ≠ 0 := by
  have hl : 0 < (limbs n).length := by
    rw [List.length_pos_iff, Ne, limbs_eq_nil]; exact h
  have ht := limbs_top n
  unfold Top at ht
  rw [List.getLast?_eq_getElem?, List.getElem?_eq_getElem (by omega)] at ht
  rw [nth_eq (by omega)]
  exact fun e => ht (congrArg some e)
theorem bits_top {n : Nat} (h : n ≠ 0) : bits n = 32 * ((limbs n).length - 1) + bits (nth (limbs n) ((limbs n).length - 1)) ∧ nth (limbs n) ((limbs n).length - 1) ≠ 0 := by
  have hl : 0 < (limbs n).length := by
    rw [List.length_pos_iff, Ne, limbs_eq_nil]; exact h
  have ht : nth (limbs n) ((limbs n).length - 1) ≠ 0 := limbs_top_ne h
  have h32 := limbs_lt32 n
  have hv := val_limbs n
  generalize limbs n = xs at *
  have e : xs = xs.take (xs.length - 1) ++ [nth xs (xs.length - 1)] := by
    rw [nth_eq (by omega), ← List.take_succ_eq_append_getElem (by omega), List.take_of_length_le (by omega)]
  have hb := bits_val_snoc (h32.take (xs.length - 1)) ht
  rw [← e, hv, List.length_take, Nat.min_eq_left (by omega)] at hb
  exact ⟨hb, ht⟩
set_option maxHeartbeats 1000000 in
theorem r2bits_any (a : Option Addr) (n : Nat) (c : Nat) (w : World) (h : Rd w a (limbs n)) (hl : (limbs n).length ≤ 1100000) :
    Calls Tryd.prog 75 #[.slice a (limbs n).length c] w fun e w' => e = .returned (.int .i64 (bits n)) ∧ w = w' := by
  by_cases h0 : n = 0
  · have hz := len_is0 h0
    have hb := Lib.hid (show bits n = 0 by rw [h0, bits_zero])
    clear h0
    go_enter Tryd.func75, Tryd.ntmps75
    go_wp2_with fail
    go_ret
    rw [hb.out]
    exact ⟨rfl, rfl⟩
  · have hz := len_ne h0
    obtain ⟨hb, ht⟩ := bits_top h0
    have hpos : 0 < (limbs n).length := by
      rw [List.length_pos_iff, Ne, limbs_eq_nil]; exact h0
    have hnt := (limbs_lt32 n).nth ((limbs n).length - 1)
    have hbt : bits (nth (limbs n) ((limbs n).length - 1)) ≤ 32 := bits_le.2 hnt
    obtain ⟨b, o, rfl, hcell⟩ := h.some hpos
    have hx := hcell ((limbs n).length - 1) (by omega)
    have Hb := Lib.hid hb
    clear hcell h hb h0
    generalize (limbs n).length = L at *
    generalize nth (limbs n) (L - 1) = t at *
    have hi1 : (0 : Int) ≤ ((L - 1 : Nat) : Int) := by omega
    have hi2 : ((L - 1 : Nat) : Int) < (L : Int) := by omega
    have hL1 : (L : Int) - 1 = ((L - 1 : Nat) : Int) := by omega
    go_enter Tryd.func75, Tryd.ntmps75
    go_wp2_with fail
    go_loop [3, 4] (fun v x => ∃ (y j : Nat), x = .int .u32 y ∧ v = .int .i64 ((32 * (L - 1) + j : Nat) : Int) ∧ j + bits y = bits t ∧ y < 4294967296) (fun _ x => (intOf x).toNat)
    case atStart => exact ⟨t, 0, rfl, by congr 1 <;> omega, by omega, hnt⟩
    case round =>
      obtain ⟨y, j, rfl, rfl, hj, hy⟩ := hrel
      by_cases hy0 : y = 0
      · subst hy0
        rw [bits_zero] at hj
        have HB := Lib.hid (show bits n = 32 * (L - 1) + j by rw [Hb.out]; omega)
        go_wp2_with fail
        go_ret
        rw [HB.out]
        exact ⟨rfl, rfl⟩
      · have h2 := bits_half hy0
        have h3 : 0 < y := by omega
        go_wp2_with fail
        go_round
        case rel => exact ⟨y / 2, j + 1, by go_num, by congr 1 <;> omega, by omega, by omega⟩
        case measure => simp [intOf]; omega
end Go.Proofs.YtndbnfeapdkoaaaDoor
end

section
namespace Go.Proofs.YtndbnfeapdkoaaaDoor
open Go.RowKit

end Go.Proofs.YtndbnfeapdkoaaaDoor
end
