/-
  Walks: the reference's trim, compare, Equal.
  Walks: the reference's zeros, right.
-/
import Derived.Test.YtkohlmlmoapedaaDoorMRoA
import Derived.Test.YtkohlmlmoapedaaDoorMBits
import Derived.Test.YtkohlmlmoapedaaDoorMShl
import Derived.Shelf.Spec.TrailingZeros
section
namespace Go.Proofs.YtkohlmlmoapedaaDoor
open Go.RowKit

set_option maxHeartbeats 1000000 in
theorem r2trim_any (a : Option Addr) (xs : List Nat) (c : Nat) (w : World) (h : Rd w a xs) (hc : xs.length ≤ c) (hm : c ≤ maxLen) (hl : xs.length ≤ 1100000) :
    Calls Tryd.prog 54 #[.slice a xs.length c] w (NatOut w (val xs)) := by
  have hend : ∀ (n : Nat) (W : World), n = (limbs (val xs)).length → Rd W a (limbs (val xs)) → Rd (W.alloc (.cells #[] 45)) a (limbs (val xs)) := fun n W _ hr => hr.kp ((Kp.refl W).alloc _)
  have hm' := hm
  unfold maxLen at hm
  have hll := limbs_len_le h.lt32
  go_enter Tryd.func54, Tryd.ntmps54
  go_wp2
  go_loop [3] (fun x => ∃ n : Nat, n ≤ xs.length ∧ x = .int .i64 n ∧ ∀ i, n ≤ i → i < xs.length → nth xs i = 0) (fun x => (intOf x).toNat)
  case atStart => exact ⟨xs.length, Nat.le_refl _, rfl, fun i h1 h2 => by omega⟩
  case round =>
    obtain ⟨n, hn, rfl, hz⟩ := hrel
    have Hz := Lib.hid hz; clear hz
    by_cases h0 : n = 0
    · have htop := trim_top h.lt32 hn Hz.out (by omega)
      have hlen : (limbs (val xs)).length = n := by rw [← htop, List.length_take, Nat.min_eq_left hn]
      have hr := h.limbs.kp ((Kp.refl w).alloc (.cells #[] 45))
      have Hlen := Lib.hid hlen
      clear htop hlen
      subst h0
      go_wp2_with (at_builtin; refine wpList_append_u32s rfl _ _ rfl w.heap.size _ [] rfl (Own.empty w _ (Nat.le_refl _)) a (limbs (val xs)) c (by rw [Hlen.out]; rfl) hr (by simp; omega) (by simp) ?_; intro a2 c2 w2 hown2 hb2)
      go_ret
      obtain ⟨h5, h6, h7, h8⟩ := hown2.rd
      rw [List.nil_append] at h6 h8
      exact ⟨a2, c2, by simp, h6, h7, h8, ((Kp.refl w).alloc _).below.trans hb2⟩
    · obtain ⟨b, o, rfl, hcell⟩ := h.some (i := n - 1) (by omega)
      have hk := hcell (n - 1) (by omega)
      clear hcell
      by_cases hx : nth xs (n - 1) = 0
      · have hx2 : ((nth xs (n - 1) : Int) == 0) = true := by simp [hx]
        have Hx := Lib.hid hx; clear hx
        go_wp2
        go_round
        case rel =>
          refine ⟨n - 1, by omega, by congr 1; omega, fun i h1 h2 => ?_⟩
          by_cases hi : i = n - 1
          · rw [hi]; exact Hx.out
          · exact Hz.out i (by omega) h2
        case measure => simp [intOf]; omega
      · have hx2 : ((nth xs (n - 1) : Int) == 0) = false := by simp; omega
        have htop := trim_top h.lt32 hn Hz.out (fun _ => hx)
        have hlen : (limbs (val xs)).length = n := by rw [← htop, List.length_take, Nat.min_eq_left hn]
        have hr := h.limbs.kp ((Kp.refl w).alloc (.cells #[] 45))
        have Hlen := Lib.hid hlen
        clear htop hlen
        go_wp2_with (at_builtin; refine wpList_append_u32s rfl _ _ rfl w.heap.size _ [] rfl (Own.empty w _ (Nat.le_refl _)) (some ⟨b, o, none⟩) (limbs (val xs)) c (by rw [Hlen.out]; rfl) hr (by simp; omega) (by simp) ?_; intro a2 c2 w2 hown2 hb2)
        go_ret
        obtain ⟨h5, h6, h7, h8⟩ := hown2.rd
        rw [List.nil_append] at h6 h8
        exact ⟨a2, c2, by simp, h6, h7, h8, ((Kp.refl w).alloc _).below.trans hb2⟩

/-- compare, of limbs as they come -/
def cmpL (xs ys : List Nat) : Int := if xs.length < ys.length then -1 else if ys.length < xs.length then 1 else cmpN (val xs) (val ys)
theorem cmpL_lt {xs ys : List Nat} (h : xs.length < ys.length) : cmpL xs ys = -1 := by unfold cmpL; rw [if_pos h]
theorem cmpL_gt {xs ys : List Nat} (h : ys.length < xs.length) : cmpL xs ys = 1 := by unfold cmpL; rw [if_neg (by omega), if_pos h]
theorem cmpL_eq {xs ys : List Nat} (h : xs.length = ys.length) : cmpL xs ys = cmpN (val xs) (val ys) := by unfold cmpL; rw [if_neg (by omega), if_neg (by omega)]
set_option maxHeartbeats 1000000 in
theorem r2compare_any (a b : Option Addr) (xs ys : List Nat) (c d : Nat) (w : World) (h1 : Rd w a xs) (h2 : Rd w b ys) (hxl : xs.length ≤ 1100000) (_hyl : ys.length ≤ 1100000) :
    Calls Tryd.prog 43 #[.slice a xs.length c, .slice b ys.length d] w fun e w' => e = .returned (.int .i64 (cmpL xs ys)) ∧ Kp w w' := by
  go_enter Tryd.func43, Tryd.ntmps43
  rcases Nat.lt_trichotomy xs.length ys.length with hlen | hlen | hlen
  · have hne : ((xs.length : Int) != ys.length) = true := by simp; omega
    go_wp2_with fail
    go_ret
    exact ⟨ret_int (cmpL_lt hlen).symm, .refl _⟩
  · have hne : ((xs.length : Int) != ys.length) = false := by simp; omega
    have Hlen := Lib.hid hlen
    have hle1 : xs.length ≤ ys.length := by omega
    have hle2 : ys.length ≤ xs.length := by omega
    clear hlen
    go_wp2_with fail
    go_loopw [5] (fun ix wr => ∃ k : Nat, k ≤ xs.length ∧ ix = .int .i64 ((k : Int) - 1) ∧ xs.drop k = ys.drop k ∧ Kp w wr) (fun ix _ => (intOf ix + 1).toNat)
    case atStart => exact ⟨xs.length, Nat.le_refl _, rfl, by rw [List.drop_of_length_le (Nat.le_refl _), List.drop_of_length_le (by omega)], .refl _⟩
    case round =>
      obtain ⟨k, hk, rfl, hdrop, hkp⟩ := hrel
      have Hdrop := Lib.hid hdrop
      clear hdrop
      rcases k with _ | j
      · rw [show (((0 : Nat) : Int) - 1) = -1 from rfl]
        go_wp2_with fail
        go_ret
        have : xs = ys := by have := Hdrop.out; rwa [List.drop_zero, List.drop_zero] at this
        exact ⟨ret_int ((cmpL_eq Hlen.out).trans (cmpN_eq (by rw [this]))).symm, hkp⟩
      · rw [show (((j + 1 : Nat) : Int) - 1) = (j : Int) from by omega]
        obtain ⟨b1, o1, rfl, hcx⟩ := (h1.kp hkp).some (i := j) (by omega)
        have hx1 := hcx j (by omega)
        obtain ⟨b2, o2, rfl, hcy⟩ := (h2.kp hkp).some (i := j) (by omega)
        have hy1 := hcy j (by omega)
        clear hcx hcy
        have bx := h1.lt32.nth j
        have by' := h2.lt32.nth j
        rcases Nat.lt_trichotomy (nth xs j) (nth ys j) with hd1 | hd1 | hd1
        · have Hr := Lib.hid (val_lt_of_top Hlen.out (by omega) h1.lt32 Hdrop.out hd1)
          go_wp2_with fail
          go_quiet (fail)
          go_wp2_with fail
          go_ret
          exact ⟨ret_int ((cmpL_eq Hlen.out).trans (cmpN_lt Hr.out)).symm, by first | exact hkp.drewN _ | exact (hkp.drewN _).drewN _⟩
        · have hd2 : ¬ nth xs j < nth ys j := by omega
          have hd3 : ¬ nth ys j < nth xs j := by omega
          have Hd1 := Lib.hid hd1
          clear hd1
          go_wp2_with fail
          go_quiet (fail)
          go_wp2_with fail
          go_quiet (fail)
          go_wp2_with fail
          go_roundw
          case rel =>
            refine ⟨j, by omega, rfl, ?_, hkp.drewN _⟩
            rw [drop_eq_nth (show j < xs.length by omega), drop_eq_nth (show j < ys.length by omega), Hdrop.out, Hd1.out]
          case measure => simp [intOf]
        · have hd2 : ¬ nth xs j < nth ys j := by omega
          have Hr := Lib.hid (val_lt_of_top (us := ys) (vs := xs) (k := j) Hlen.out.symm (by omega) h2.lt32 Hdrop.out.symm hd1)
          go_wp2_with fail
          go_quiet (fail)
          go_wp2_with fail
          go_quiet (fail)
          go_wp2_with fail
          go_ret
          exact ⟨ret_int ((cmpL_eq Hlen.out).trans (cmpN_gt Hr.out)).symm, by first | exact hkp.drewN _ | exact (hkp.drewN _).drewN _⟩
  · have hne : ((xs.length : Int) != ys.length) = true := by simp; omega
    go_wp2_with fail
    go_ret
    exact ⟨ret_int (cmpL_gt hlen).symm, .refl _⟩
theorem val_inj {xs ys : List Nat} (hx : Lt32 xs) (hy : Lt32 ys) (hl : xs.length = ys.length) (h : val xs = val ys) : xs = ys := by
  induction xs generalizing ys with
  | nil => cases ys with
    | nil => rfl
    | cons y ys => simp at hl
  | cons x xs ih => cases ys with
    | nil => simp at hl
    | cons y ys =>
      rw [val_cons, val_cons] at h
      have h1 := hx x (by simp)
      have h2 := hy y (by simp)
      have e1 : x = y := by omega
      subst e1
      rw [ih (fun z hz => hx z (List.mem_cons_of_mem _ hz)) (fun z hz => hy z (List.mem_cons_of_mem _ hz)) (by simpa using hl) (by omega)]
/-- have two numbers equal fields? -/
def eqR (x y : RD) : Bool := decide (x.neg = y.neg) && (decide (x.e = y.e) && decide (x.xs = y.xs))
set_option maxRecDepth 100000 in
set_option maxHeartbeats 4000000 in
theorem r2Equal_any (x y : RD) (w : World) (hx : x.rd w) (hy : y.rd w) :
    Calls Tryd.prog 20 #[.agg #[.bool x.neg, .slice x.a x.xs.length x.c, .int .i64 x.e], .agg #[.bool y.neg, .slice y.a y.xs.length y.c, .int .i64 y.e]] w fun e w' => e = .returned (.bool (eqR x y)) ∧ Kp w w' := by
  have H := Lib.hid (show eqR x y = (decide (x.neg = y.neg) && (decide (x.e = y.e) && decide (x.xs = y.xs))) from rfl)
  have hk : Kp w ((w.alloc (.cells #[.bool x.neg, .slice x.a x.xs.length x.c, .int .i64 x.e] 36)).alloc (.cells #[.bool y.neg, .slice y.a y.xs.length y.c, .int .i64 y.e] 36)) := ((Kp.refl w).alloc _).alloc _
  have hC := r2compare_any x.a y.a x.xs y.xs x.c y.c _ (hx.1.kp hk) (hy.1.kp hk) hx.2.2.2.1 hy.2.2.2.1
  have Hx := Lib.hid hx
  have Hy := Lib.hid hy
  have Hk := Lib.hid hk
  have HC := Lib.hid hC
  clear hx hy hk hC
  by_cases h1 : x.neg = y.neg
  · have e1 : (x.neg == y.neg) = true := beq_iff_eq.2 h1
    rw [decide_eq_true h1] at H
    have H1 := Lib.hid h1
    clear h1
    by_cases h2 : x.e = y.e
    · have e2 : (x.e == y.e) = true := beq_iff_eq.2 h2
      rw [decide_eq_true h2] at H
      have H2 := Lib.hid h2
      clear h2
      by_cases h3 : x.xs.length = y.xs.length
      · have e3 : ((x.xs.length : Int) == (y.xs.length : Int)) = true := beq_iff_eq.2 (by omega)
        have H3 := Lib.hid h3
        clear h3
        by_cases h4 : x.xs = y.xs
        · have e4 : (cmpL x.xs y.xs == 0) = true := beq_iff_eq.2 (by rw [cmpL_eq H3.out, cmpN_eq (by rw [h4])])
          rw [decide_eq_true h4] at H
          clear h4
          go_enter Tryd.func20, Tryd.ntmps20
          go_wp2_with fail
          refine HC.out.mono ?_
          rintro e w2 ⟨rfl, hk2⟩
          go_wp2_with fail
          go_ret
          exact ⟨ret_bool (by rw [H.out]; rfl), Hk.out.trans hk2⟩
        · have e4 : (cmpL x.xs y.xs == 0) = false := beq_eq_false_iff_ne.2 (fun e => by
            rw [cmpL_eq H3.out] at e
            refine h4 (val_inj Hx.out.1.lt32 Hy.out.1.lt32 H3.out ?_)
            unfold cmpN at e
            split at e
            · omega
            · split at e
              · assumption
              · omega)
          rw [decide_eq_false h4] at H
          clear h4
          go_enter Tryd.func20, Tryd.ntmps20
          go_wp2_with fail
          refine HC.out.mono ?_
          rintro e w2 ⟨rfl, hk2⟩
          go_wp2_with fail
          go_ret
          exact ⟨ret_bool (by rw [H.out]; rfl), Hk.out.trans hk2⟩
      · have e3 : ((x.xs.length : Int) == (y.xs.length : Int)) = false := beq_eq_false_iff_ne.2 (by omega)
        rw [decide_eq_false (fun e => h3 (by rw [e]))] at H
        clear h3
        go_enter Tryd.func20, Tryd.ntmps20
        go_wp2_with fail
        go_ret
        exact ⟨ret_bool (by rw [H.out]; rfl), Hk.out⟩
    · have e2 : (x.e == y.e) = false := beq_eq_false_iff_ne.2 h2
      rw [decide_eq_false h2] at H
      clear h2
      go_enter Tryd.func20, Tryd.ntmps20
      go_wp2_with fail
      go_ret
      exact ⟨ret_bool (by rw [H.out]; rfl), Hk.out⟩
  · have e1 : (x.neg == y.neg) = false := beq_eq_false_iff_ne.2 h1
    rw [decide_eq_false h1] at H
    clear h1
    go_enter Tryd.func20, Tryd.ntmps20
    go_wp2_with fail
    go_ret
    exact ⟨ret_bool (by rw [H.out]; rfl), Hk.out⟩
end Go.Proofs.YtkohlmlmoapedaaDoor
end

section
namespace Go.Proofs.YtkohlmlmoapedaaDoor
open Go.RowKit

/-- the bit n of a number -/
theorem bit_nth {xs : List Nat} (h : Lt32 xs) (n : Nat) : nth xs (n / 32) / 2 ^ (n % 32) % 2 = val xs / 2 ^ n % 2 := by
  have e : 2 ^ n = 4294967296 ^ (n / 32) * 2 ^ (n % 32) := by rw [pow32, ← Nat.pow_add]; congr 1; omega
  by_cases hl : n / 32 < xs.length
  · have e1 := val_take_drop xs (n / 32) (by omega)
    have e2 : xs.drop (n / 32) = nth xs (n / 32) :: xs.drop (n / 32 + 1) := drop_eq_nth hl
    have e3 : val xs / 4294967296 ^ (n / 32) = val (xs.drop (n / 32)) := by
      have h1 : val (xs.take (n / 32)) < 4294967296 ^ (n / 32) := by
        have := val_lt (h.take (n / 32))
        rwa [List.length_take, Nat.min_eq_left (by omega)] at this
      have hp : 0 < 4294967296 ^ (n / 32) := Nat.pow_pos (by decide)
      rw [e1, Nat.add_mul_div_left _ _ hp, Nat.div_eq_of_lt h1, Nat.zero_add]
    rw [e, ← Nat.div_div_eq_div_mul, e3, e2, val_cons]
    have hr : n % 32 < 32 := Nat.mod_lt _ (by decide)
    obtain ⟨d, hd⟩ : ∃ d, 4294967296 = 2 ^ (n % 32) * (2 * d) := ⟨2 ^ (31 - n % 32), by
      rw [show 2 * 2 ^ (31 - n % 32) = 2 ^ (31 - n % 32 + 1) from by rw [Nat.pow_succ]; omega, ← Nat.pow_add, show n % 32 + (31 - n % 32 + 1) = 32 from by omega]⟩
    have e4 : 4294967296 * val (xs.drop (n / 32 + 1)) = 2 ^ (n % 32) * (2 * (d * val (xs.drop (n / 32 + 1)))) := by
      conv => lhs; rw [hd]
      rw [Nat.mul_assoc, Nat.mul_assoc]
    rw [e4, Nat.add_mul_div_left _ _ (two_pow_pos _)]
    omega
  · rw [nth_ge (by omega), Nat.zero_div]
    have h1 : val xs < 2 ^ n := by
      refine Nat.lt_of_lt_of_le (val_lt h) ?_
      rw [pow32]
      exact Nat.pow_le_pow_right (by decide) (by omega)
    rw [Nat.div_eq_of_lt h1]
theorem tz_least {V n : Nat} (h0 : V ≠ 0) (hz : V % 2 ^ n = 0) : n ≤ tz V ∧ (V / 2 ^ n % 2 = 1 → n = tz V) := by
  obtain ⟨h1, h2⟩ := oddp_spec h0
  have hle : n ≤ tz V := by
    apply Classical.byContradiction; intro hn
    have hd : V = 2 ^ n * (V / 2 ^ n) := by have := Nat.div_add_mod V (2 ^ n); omega
    have e : 2 ^ n = 2 ^ tz V * (2 * 2 ^ (n - tz V - 1)) := by
      rw [show 2 * 2 ^ (n - tz V - 1) = 2 ^ (n - tz V - 1 + 1) from by rw [Nat.pow_succ]; omega, ← Nat.pow_add]; congr 1; omega
    have e2 : oddp V * 2 ^ tz V = 2 * (2 ^ (n - tz V - 1) * (V / 2 ^ n)) * 2 ^ tz V := by
      refine h2.symm.trans (hd.trans ?_)
      generalize V / 2 ^ n = q
      rw [e, Nat.mul_assoc, Nat.mul_comm (2 ^ tz V), Nat.mul_assoc 2]
    have := Nat.eq_of_mul_eq_mul_right (two_pow_pos _) e2
    omega
  refine ⟨hle, fun h => ?_⟩
  apply Classical.byContradiction; intro hn
  have e : V / 2 ^ n = 2 * (oddp V * 2 ^ (tz V - n - 1)) := by
    conv => lhs; rw [h2]
    rw [show 2 ^ tz V = 2 * 2 ^ (tz V - n - 1) * 2 ^ n from by rw [show 2 * 2 ^ (tz V - n - 1) = 2 ^ (tz V - n - 1 + 1) from by rw [Nat.pow_succ]; omega, ← Nat.pow_add]; congr 1; omega]
    rw [← Nat.mul_assoc, Nat.mul_div_cancel _ (two_pow_pos n), Nat.mul_left_comm]
  omega
theorem bit32 {x r : Nat} (hx : x < 4294967296) : Go.bits BinOp.and IntKind.u32 ((x : Int) / 2 ^ r) 1 = ((x / 2 ^ r % 2 : Nat) : Int) := by
  have e : ((x : Int) / 2 ^ r) = ((x / 2 ^ r : Nat) : Int) := by rw [Int.natCast_ediv, Int.natCast_pow]; rfl
  rw [e]
  have h1 := Nat.div_le_self x (2 ^ r)
  have h := Go.Proofs.bits_and_u32_nat (x / 2 ^ r) 1 (by omega) (by omega)
  rw [Nat.and_one_is_mod] at h
  exact h
theorem bits_of_nz {V : Nat} (h0 : V ≠ 0) : tz V < bits V := by
  have := bits_oddp h0
  have := bits_pos (oddp_ne_zero h0)
  omega
set_option maxRecDepth 100000 in
set_option maxHeartbeats 4000000 in
theorem r2zeros_any (a : Option Addr) (xs : List Nat) (c : Nat) (w : World) (h : Rd w a xs) (hl : xs.length ≤ 1100000) (h0 : val xs ≠ 0) :
    Calls Tryd.prog 55 #[.slice a xs.length c] w fun e w' => e = .returned (.int .i64 (tz (val xs))) ∧ w = w' := by
  have hbv := bits_val_le h.lt32
  have htz := bits_of_nz h0
  have H0 := Lib.hid h0
  clear h0
  go_enter Tryd.func55, Tryd.ntmps55
  go_wp2
  go_loop [3] (fun x => ∃ n : Nat, n ≤ tz (val xs) ∧ x = .int .i64 n ∧ val xs % 2 ^ n = 0) (fun x => tz (val xs) + 1 - (intOf x).toNat)
  case atStart => exact ⟨0, Nat.zero_le _, rfl, by simp [Nat.mod_one]⟩
  case round =>
    obtain ⟨n, hn, rfl, hz⟩ := hrel
    have Hz := Lib.hid hz; clear hz
    have hq : n / 32 < xs.length := by omega
    obtain ⟨b, o, rfl, hcell⟩ := h.some hq
    have hk := hcell (n / 32) hq
    have Hb := Lib.hid (bit_nth h.lt32 n)
    have hnb := h.lt32.nth (n / 32)
    have hi1 : (0 : Int) ≤ ((n / 32 : Nat) : Int) := by omega
    have hi2 : ((n / 32 : Nat) : Int) < (xs.length : Int) := by omega
    clear hcell
    have h32 := bit32 (r := n % 32) hnb
    have hle := (tz_least H0.out Hz.out)
    by_cases hbit : val xs / 2 ^ n % 2 = 1
    · have ht : (Go.bits BinOp.and IntKind.u32 ((nth xs (n / 32) : Int) / 2 ^ (n % 32)) 1 == 0) = false := beq_eq_false_iff_ne.2 (by rw [h32, Hb.out, hbit]; decide)
      have Hn := Lib.hid (hle.2 hbit)
      clear h32 hle hbit
      go_wp2_with fail
      go_ret
      exact ⟨by rw [← Hn.out]; rfl, rfl⟩
    · have ht : (Go.bits BinOp.and IntKind.u32 ((nth xs (n / 32) : Int) / 2 ^ (n % 32)) 1 == 0) = true := beq_iff_eq.2 (by rw [h32, Hb.out]; omega)
      have hz2 : val xs % 2 ^ (n + 1) = 0 := by
        rw [Nat.add_comm, mod_pow_add]
        exact ⟨Hz.out, by rw [Nat.pow_one]; omega⟩
      have Hz2 := Lib.hid hz2
      have Hle2 := Lib.hid (tz_least H0.out hz2).1
      clear h32 hle hbit hz2
      go_wp2_with fail
      go_round
      case rel => exact ⟨n + 1, Hle2.out, by go_num, Hz2.out⟩
      case measure => simp [intOf]; omega
end Go.Proofs.YtkohlmlmoapedaaDoor
end
