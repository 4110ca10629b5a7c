/-
  Walks: natural.long, done.
  Walks: bits.Add32, bits.Sub32, natural.add, natural.sub.
  Walks: bits.Sub32, natural.sub.
-/
import Derived.Test.YtkkiinbgjjjcoaaGreatDoorMBase
import Derived.Deep.DeepCutAuto
section
namespace Go.Proofs.YtkkiinbgjjjcoaaGreatDoor
open Go.RowKit

theorem enters149 : Enters Tryz.prog 98 := fun _ _ => by kernel_rfl

set_option maxHeartbeats 400000 in
theorem long1_any (a : Option Addr) (n c : Nat) (w : World) (hm : n ≤ maxLen) :
    Calls Tryz.prog 98 #[.slice a n c] w fun e w' => e = .returned (.bool (decide (256 < n))) ∧ w = w' := by
  unfold maxLen at hm
  go_enter Tryz.func98, Tryz.ntmps98
  go_wp2
  go_ret
  exact ⟨ret_bool (by simp; omega), rfl⟩

def lenBig (nv : Nat → Nat) (i : Nat) : Bool := decide (256 < nv i)

set_option maxHeartbeats 400000 in
theorem long_any (a : Option Addr) (n c : Nat) (av : Nat → Option Addr) (nv cv : Nat → Nat) (w : World) (hm : n ≤ maxLen) (hn : ∀ i, i < n → nv i ≤ maxLen)
    (hev : ∀ i, i < n → ∃ b o, a = some ⟨b, o, none⟩ ∧ w.cell? ⟨b, o + i, none⟩ = some (.slice (av i) (nv i) (cv i))) :
    Calls Tryz.prog 64 #[.slice a n c] w fun e w' => e = .returned (.bool (anyP (lenBig nv) n)) ∧ Kp w w' := by
  have Hc := Lib.hid (has_lists a n c 98 #[] w (fun i => .slice (av i) (nv i) (cv i)) (lenBig nv) hm hev
    ⟨enters149, fun i hi w1 _ => (long1_any (av i) (nv i) (cv i) w1 (hn i hi)).mono fun e w2 ⟨h1, h2⟩ => ⟨h1, h2 ▸ .refl _⟩⟩)
  clear hev hn hm
  go_enter Tryz.func64, Tryz.ntmps64
  go_wp2_with (refine Hc.out.mono ?_; rintro e w2 ⟨rfl, hk2⟩)
  go_ret
  exact ⟨rfl, hk2⟩


theorem anyP_one (p : Nat → Bool) : anyP p 1 = p 0 := by unfold anyP; simp [List.range_succ]
theorem anyP_two (p : Nat → Bool) : anyP p 2 = (p 0 || p 1) := by unfold anyP; simp [List.range_succ]

set_option maxHeartbeats 400000 in
theorem clip_any (a : Option Addr) (n c : Nat) (w : World) (hn : n ≤ c) (_hm : c ≤ maxLen) :
    Calls Tryz.prog 85 #[.slice a n c] w fun e w' => e = .returned (.slice a n n) ∧ w = w' := by
  go_enter Tryz.func85, Tryz.ntmps85
  go_wp2
  go_ret
  exact ⟨rfl, rfl⟩

/-- what natural hands back: the limbs of a number, or nothing and an error -/
def Nat2 (w : World) (v : Nat) (f : Int) (e : Ending) (w' : World) : Prop :=
  ∃ a c, e = .returned (.tuple #[.slice a (limbs v).length c, .int .i64 f]) ∧ (limbs v).length ≤ c ∧ c ≤ maxLen ∧ Rd w' a (limbs v) ∧ Kp w w'

theorem nat2_intro {w w' : World} {v : Nat} {f : Int} {e : Ending} (a : Option Addr) (n c : Nat) (he : e = .returned (.tuple #[.slice a n c, .int .i64 f])) (hn : n = (limbs v).length) (hc : n ≤ c) (hm : c ≤ maxLen) (hr : Rd w' a (limbs v)) (hk : Kp w w') : Nat2 w v f e w' := by
  subst hn; exact ⟨a, c, he, hc, hm, hr, hk⟩

set_option maxHeartbeats 400000 in
theorem long_one (a : Option Addr) (n c g : Nat) (w : World) (hn : n ≤ 256) (hcell : w.cell? ⟨g, 0, none⟩ = some (.slice a n c)) :
    Calls Tryz.prog 64 #[.slice (some ⟨g, 0, none⟩) 1 1] w fun e w' => e = .returned (.bool false) ∧ Kp w w' := by
  have h := long_any (some ⟨g, 0, none⟩) 1 1 (fun _ => a) (fun _ => n) (fun _ => c) w (by decide) (fun _ _ => by unfold maxLen; omega) (fun i hi => ⟨g, 0, rfl, by rw [show i = 0 by omega]; exact hcell⟩)
  refine h.mono fun e w' ⟨h1, h2⟩ => ⟨?_, h2⟩
  rw [h1, anyP_one]
  exact ret_bool (decide_eq_false (show ¬ 256 < n by omega))
set_option maxHeartbeats 400000 in
theorem long_two (a a2 : Option Addr) (n c n2 c2 g : Nat) (w : World) (hn : n ≤ 256) (hn2 : n2 ≤ 256) (hcell : w.cell? ⟨g, 0, none⟩ = some (.slice a n c)) (hcell2 : w.cell? ⟨g, 1, none⟩ = some (.slice a2 n2 c2)) :
    Calls Tryz.prog 64 #[.slice (some ⟨g, 0, none⟩) 2 2] w fun e w' => e = .returned (.bool false) ∧ Kp w w' := by
  have h := long_any (some ⟨g, 0, none⟩) 2 2 (fun i => if i = 0 then a else a2) (fun i => if i = 0 then n else n2) (fun i => if i = 0 then c else c2) w (by decide) (fun i _ => by unfold maxLen; split <;> omega) (fun i hi => ⟨g, 0, rfl, by
    rcases (show i = 0 ∨ i = 1 by omega) with rfl | rfl
    · exact hcell
    · exact hcell2⟩)
  refine h.mono fun e w' ⟨h1, h2⟩ => ⟨?_, h2⟩
  rw [h1, anyP_two]
  refine ret_bool ?_
  unfold lenBig
  simp; omega

set_option maxHeartbeats 400000 in
theorem done_ok (a : Option Addr) (xs : List Nat) (c : Nat) (w : World) (h : Rd w a xs) (hc : xs.length ≤ c) (hm : c ≤ maxLen) (hv : (limbs (val xs)).length ≤ 256) :
    Calls Tryz.prog 65 #[.slice a xs.length c] w (Nat2 w (val xs) 0) := by
  have H1 := Lib.hid (trim_any a xs c w h hc hm)
  have hl := limbs_len_le h.lt32
  have hr := h.limbs
  generalize hn : (limbs (val xs)).length = n at *
  have Hn := Lib.hid hn; clear hn
  go_enter Tryz.func65, Tryz.ntmps65
  go_wp2_with fail
  refine H1.out.mono ?_
  rintro e w2 ⟨rfl, rfl⟩
  go_wp2_with fail
  refine (long_one a n c _ _ hv (by simp)).mono ?_
  rintro e w3 ⟨rfl, hk⟩
  go_wp2_with fail
  refine (clip_any a n c _ (by omega) hm).mono ?_
  rintro e w4 ⟨rfl, rfl⟩
  go_wp2_with fail
  go_ret2
  have hk2 : Kp w w3 := ((Kp.refl w).alloc _).trans hk
  exact nat2_intro a n n rfl Hn.out.symm (Nat.le_refl _) (by omega) (hr.kp hk2) hk2
end Go.Proofs.YtkkiinbgjjjcoaaGreatDoor
end

section
namespace Go.Proofs.YtkkiinbgjjjcoaaGreatDoor
open Go.RowKit

theorem ret_two32 {a b c d : Int} (h : a = c) (h2 : b = d) : Ending.returned (.tuple #[.int .u32 a, .int .u32 b]) = .returned (.tuple #[.int .u32 c, .int .u32 d]) := by rw [h, h2]

set_option maxHeartbeats 400000 in
theorem add32_any (x y c : Int) (w : World) (hx0 : 0 ≤ x) (hx : x < 4294967296) (hy0 : 0 ≤ y) (hy : y < 4294967296) (hc0 : 0 ≤ c) (hc : c ≤ 1) :
    Calls Tryz.prog 107 #[.int .u32 x, .int .u32 y, .int .u32 c] w fun e w' =>
      e = .returned (.tuple #[.int .u32 ((x + y + c) % 4294967296), .int .u32 ((x + y + c) / 4294967296)]) ∧ w = w' := by
  go_enter Tryz.func107, Tryz.ntmps107
  go_wp2
  go_ret2
  exact ⟨rfl, rfl⟩

/-- a new slice that shows limbs of the number v, n of them -/
def MadeV (w : World) (v n : Nat) (e : Ending) (w' : World) : Prop :=
  ∃ g zs, e = .returned (.slice (some ⟨g, 0, none⟩) n n) ∧ zs.length = n ∧ val zs = v ∧ Rd w' (some ⟨g, 0, none⟩) zs ∧ Kp w w'

set_option maxHeartbeats 1000000 in
theorem add_any (a b : Option Addr) (xs ys : List Nat) (c d : Nat) (w : World) (hx : Rd w a xs) (hy : Rd w b ys) (hxl : xs.length ≤ 1000) (hyl : ys.length ≤ 1000) :
    Calls Tryz.prog 90 #[.slice a xs.length c, .slice b ys.length d] w (MadeV w (val xs + val ys) (max xs.length ys.length + 1)) := by
  go_enter Tryz.func90, Tryz.ntmps90
  go_upto_if 14 with fail
  go_cut [0, 1] (fun x y wx => wx = w ∧ ∃ a1 a2 xs1 xs2 c1 c2, x = .slice a1 xs1.length c1 ∧ y = .slice a2 xs2.length c2 ∧ Rd w a1 xs1 ∧ Rd w a2 xs2 ∧ xs2.length ≤ xs1.length ∧ xs1.length ≤ 1000 ∧ val xs1 + val xs2 = val xs + val ys ∧ max xs.length ys.length = xs1.length)
  case first =>
    go_wp2
    · go_meet
      case rel => exact ⟨rfl, b, a, ys, xs, d, c, rfl, rfl, hy, hx, by omega, hyl, by omega, by omega⟩
    · go_meet
      case rel => exact ⟨rfl, a, b, xs, ys, c, d, rfl, rfl, hx, hy, by omega, hxl, rfl, by omega⟩
  case rest =>
    obtain ⟨rfl, a1, a2, xs1, ys1, c1, c2, rfl, rfl, h1, h2, hle, hl, hv, hmax⟩ := hcut
    have Hv := Lib.hid hv
    have Hmax := Lib.hid hmax
    clear hv hmax hx hy hxl hyl
    have hmk := make_u32 ((xs1.length : Int) + 1) (xs1.length + 1) (by omega) (by omega)
    go_wp2
    clear hmk
    go_loopw [6, 23] (fun cy ix wr => ∃ (k c : Nat) (zs : List Nat), k ≤ xs1.length ∧ ix = .int .i64 k ∧ cy = .int .u32 c ∧ c ≤ 1 ∧ zs.length = xs1.length + 1 ∧ Blk wr wc.heap.size zs ∧ Lt32 zs ∧
      val (zs.take k) + 4294967296 ^ k * c = val (xs1.take k) + val (ys1.take k) ∧ Kp wc wr) (fun _ ix _ => xs1.length - (intOf ix).toNat)
    case atStart => exact ⟨0, 0, _, Nat.zero_le _, rfl, rfl, by omega, by simp, Blk.made _ _, .replicate _, by simp [val], (Kp.refl _).alloc _⟩
    case round =>
      obtain ⟨k, cy, zs, hk, rfl, rfl, hcy, hzl, hb, hz32, hvz, hkp⟩ := hrel
      have Hvz := Lib.hid hvz
      have Hzl := Lib.hid hzl
      clear hvz
      by_cases hlt : k < xs1.length
      · obtain ⟨b1, o1, rfl, hcx⟩ := (h1.kp hkp).some hlt
        have hx1 := hcx k hlt
        have bx := h1.lt32.nth k
        have by' := h2.lt32.nth k
        have hs1 := hb.cell (i := k) (by omega)
        have hs2 := hb.frozen k
        clear hcx
        by_cases hlt2 : k < ys1.length
        · obtain ⟨b2, o2, rfl, hcy2⟩ := (h2.kp hkp).some hlt2
          have hy1 := hcy2 k hlt2
          clear hcy2
          go_wp2_with fail
          refine (add32_any _ _ _ _ (by omega) (by omega) (by omega) (by omega) (by omega) (by omega)).mono ?_
          rintro e w2 ⟨rfl, rfl⟩
          go_wp2_with fail
          go_roundw
          case rel =>
            refine ⟨k + 1, (nth xs1 k + nth ys1 k + cy) / 4294967296, zs.set k ((nth xs1 k + nth ys1 k + cy) % 4294967296), by omega, by go_num, by congr 1, by omega, by simp [Hzl.out], hb.put (by omega), hz32.set _ _ (by omega), add_step (by omega) Hvz.out, hkp.set (Nat.le_refl _) _⟩
          case measure => simp [intOf]; omega
        · go_wp2_with fail
          refine (add32_any _ _ _ _ (by omega) (by omega) (by omega) (by omega) (by omega) (by omega)).mono ?_
          rintro e w2 ⟨rfl, rfl⟩
          go_wp2_with fail
          have hny : nth ys1 k = 0 := nth_ge (by omega)
          go_roundw
          case rel =>
            refine ⟨k + 1, (nth xs1 k + nth ys1 k + cy) / 4294967296, zs.set k ((nth xs1 k + nth ys1 k + cy) % 4294967296), by omega, by go_num, by congr 1; omega, by omega, by simp [Hzl.out], hb.put (by omega), hz32.set _ _ (by omega), add_step (by omega) Hvz.out, hkp.set (Nat.le_refl _) _⟩
          case measure => simp [intOf]; omega
      · have hs1 := hb.cell (i := xs1.length) (by omega)
        have hs2 := hb.frozen xs1.length
        go_wp2
        go_ret
        have hke : k = xs1.length := by omega
        have e1 := val_set_last (c := cy) Hzl.out
        have e2 := Hvz.out
        rw [hke, List.take_of_length_le (Nat.le_refl _), List.take_of_length_le hle, ← e1, Hv.out] at e2
        exact ⟨wc.heap.size, zs.set xs1.length cy, by rw [Hmax.out]; rfl, by simp [Hzl.out, Hmax.out], e2, (hb.put rfl).rd (hz32.set _ _ (by omega)), hkp.set (Nat.le_refl _) _⟩
end Go.Proofs.YtkkiinbgjjjcoaaGreatDoor
end

section
namespace Go.Proofs.YtkkiinbgjjjcoaaGreatDoor
open Go.RowKit

theorem div_or (a b k : Nat) : (a ||| b) / 2 ^ k = a / 2 ^ k ||| b / 2 ^ k := by
  rw [← Nat.shiftRight_eq_div_pow, ← Nat.shiftRight_eq_div_pow, ← Nat.shiftRight_eq_div_pow, Nat.shiftRight_or_distrib]
theorem div_and (a b k : Nat) : (a &&& b) / 2 ^ k = a / 2 ^ k &&& b / 2 ^ k := by
  rw [← Nat.shiftRight_eq_div_pow, ← Nat.shiftRight_eq_div_pow, ← Nat.shiftRight_eq_div_pow, Nat.shiftRight_and_distrib]
theorem div_xor (a b k : Nat) : (a ^^^ b) / 2 ^ k = a / 2 ^ k ^^^ b / 2 ^ k := by
  rw [← Nat.shiftRight_eq_div_pow, ← Nat.shiftRight_eq_div_pow, ← Nat.shiftRight_eq_div_pow, Nat.shiftRight_xor_distrib]
theorem lt_xor32 {a b : Nat} (ha : a < 4294967296) (hb : b < 4294967296) : a ^^^ b < 4294967296 := Nat.xor_lt_two_pow (n := 32) ha hb
theorem lt_and32 {a b : Nat} (hb : b < 4294967296) : a &&& b < 4294967296 := Nat.lt_of_le_of_lt Nat.and_le_right hb
theorem lt_or32 {a b : Nat} (ha : a < 4294967296) (hb : b < 4294967296) : a ||| b < 4294967296 := Nat.or_lt_two_pow (n := 32) ha hb

/-- the borrow -/
def bor (x y c : Int) : Int := if x < y + c then 1 else 0
theorem bor_val (x y c : Int) : 0 ≤ bor x y c ∧ bor x y c ≤ 1 := by unfold bor; split <;> omega
theorem bor_nat {x y c d : Nat} (hx : x < 4294967296) (hy : y < 4294967296) (hc : c ≤ 1) (_hd : d < 4294967296) (he : (d : Int) = ((x : Int) - y - c) % 4294967296) :
    ((((4294967295 ^^^ x) &&& y) ||| ((4294967295 ^^^ (x ^^^ y)) &&& d)) / 2147483648 : Nat) = if x < y + c then 1 else 0 := by
  rw [show (2147483648 : Nat) = 2 ^ 31 from rfl, div_or, div_and, div_and, div_xor, div_xor, div_xor]
  have ex : x / 2 ^ 31 = 0 ∨ x / 2 ^ 31 = 1 := by omega
  have ey : y / 2 ^ 31 = 0 ∨ y / 2 ^ 31 = 1 := by omega
  have ed : d / 2 ^ 31 = 0 ∨ d / 2 ^ 31 = 1 := by omega
  have em : 4294967295 / 2 ^ 31 = 1 := by decide
  rw [em]
  rcases ex with ex | ex <;> rcases ey with ey | ey <;> rcases ed with ed | ed <;> rw [ex, ey, ed] <;> simp <;> omega
theorem bor_bits (x y c d : Int) (hx0 : 0 ≤ x) (hx : x < 4294967296) (hy0 : 0 ≤ y) (hy : y < 4294967296) (hc0 : 0 ≤ c) (hc : c ≤ 1) (he : d = (x - y - c) % 4294967296) :
    Go.bits BinOp.or IntKind.u32 (Go.bits BinOp.and IntKind.u32 (Go.bits BinOp.xor IntKind.u32 IntKind.u32.max x) y)
      (Go.bits BinOp.and IntKind.u32 (Go.bits BinOp.xor IntKind.u32 IntKind.u32.max (Go.bits BinOp.xor IntKind.u32 x y)) d) / 2147483648 = bor x y c := by
  obtain ⟨x, rfl⟩ := Int.eq_ofNat_of_zero_le hx0
  obtain ⟨y, rfl⟩ := Int.eq_ofNat_of_zero_le hy0
  obtain ⟨c, rfl⟩ := Int.eq_ofNat_of_zero_le hc0
  obtain ⟨d, rfl⟩ : ∃ n : Nat, d = n := ⟨d.toNat, by omega⟩
  have hx' : x < 4294967296 := by omega
  have hy' : y < 4294967296 := by omega
  have hd' : d < 4294967296 := by omega
  have em : IntKind.u32.max = ((4294967295 : Nat) : Int) := by decide
  rw [em, u32_xor_nat _ _ (by decide) hx', u32_xor_nat _ _ hx' hy', u32_and_nat _ _ (lt_xor32 (by decide) hx') hy',
    u32_xor_nat _ _ (by decide) (lt_xor32 hx' hy'), u32_and_nat _ _ (lt_xor32 (by decide) (lt_xor32 hx' hy')) hd',
    u32_or_nat _ _ (lt_and32 hy') (lt_and32 hd')]
  have := bor_nat (c := c) hx' hy' (by omega) hd' he
  unfold bor
  rw [show (2147483648 : Int) = ((2147483648 : Nat) : Int) from rfl, ← Int.natCast_ediv, this]
  split <;> split <;> omega

set_option maxHeartbeats 400000 in
theorem sub32_any (x y c : Int) (w : World) (hx0 : 0 ≤ x) (hx : x < 4294967296) (hy0 : 0 ≤ y) (hy : y < 4294967296) (hc0 : 0 ≤ c) (hc : c ≤ 1) :
    Calls Tryz.prog 112 #[.int .u32 x, .int .u32 y, .int .u32 c] w fun e w' =>
      e = .returned (.tuple #[.int .u32 ((x - y - c) % 4294967296), .int .u32 (bor x y c)]) ∧ w = w' := by
  have Hb := Lib.hid (bor_bits x y c _ hx0 hx hy0 hy hc0 hc rfl)
  go_enter Tryz.func112, Tryz.ntmps112
  go_wp2
  all_goals go_ret2
  all_goals exact ⟨ret_two32 rfl Hb.out, rfl⟩

theorem bor_eq {x y c : Nat} {z : Nat} (hx : x < 4294967296) (hy : y < 4294967296) (hc : c ≤ 1) (hz : (z : Int) = ((x : Int) - y - c) % 4294967296) : z + y + c = x + 4294967296 * (bor x y c).toNat := by
  unfold bor; split <;> omega

set_option maxHeartbeats 1000000 in
theorem sub_any (a b : Option Addr) (xs ys : List Nat) (c d : Nat) (w : World) (hx : Rd w a xs) (hy : Rd w b ys) (hxl : xs.length ≤ 1000) (hxc : xs.length ≤ c) (hyc : ys.length ≤ d) (hc : c ≤ maxLen) (hd : d ≤ maxLen) (hle : val ys ≤ val xs) :
    Calls Tryz.prog 102 #[.slice a xs.length c, .slice b ys.length d] w (MadeV w (val xs - val ys) (limbs (val xs)).length) := by
  have H1 := Lib.hid (trim_any a xs c w hx hxc hc)
  have H2 := Lib.hid (trim_any b ys d w hy hyc hd)
  have h1 := hx.limbs
  have h2 := hy.limbs
  have hl1 := limbs_len_le hx.lt32
  have hl2 : (limbs (val ys)).length ≤ (limbs (val xs)).length := limbs_length_le.2 (Nat.lt_of_le_of_lt hle (by have := val_lt (limbs_lt32 (val xs)); rwa [val_limbs] at this))
  have hv1 := val_limbs (val xs)
  have hv2 := val_limbs (val ys)
  have Hle := Lib.hid hle
  go_enter Tryz.func102, Tryz.ntmps102
  go_wp2_with fail
  refine H1.out.mono ?_
  rintro e w2 ⟨rfl, rfl⟩
  go_wp2_with fail
  refine H2.out.mono ?_
  rintro e w2 ⟨rfl, rfl⟩
  clear H1 H2 hx hy hle hc hd hxc hyc
  generalize limbs (val xs) = us at *
  generalize limbs (val ys) = vs at *
  have Hv1 := Lib.hid hv1
  have Hv2 := Lib.hid hv2
  clear hv1 hv2
  have hmk := make_u32 (us.length : Int) us.length rfl (by omega)
  go_wp2
  clear hmk
  go_loopw [6, 19] (fun cy ix wr => ∃ (k c : Nat) (zs : List Nat), k ≤ us.length ∧ ix = .int .i64 k ∧ cy = .int .u32 c ∧ c ≤ 1 ∧ zs.length = us.length ∧ Blk wr w.heap.size zs ∧ Lt32 zs ∧
      val (zs.take k) + val (vs.take k) = val (us.take k) + 4294967296 ^ k * c ∧ Kp w wr) (fun _ ix _ => us.length - (intOf ix).toNat)
  case atStart => exact ⟨0, 0, _, Nat.zero_le _, rfl, rfl, by omega, by simp, Blk.made _ _, .replicate _, by simp [val], (Kp.refl _).alloc _⟩
  case round =>
    obtain ⟨k, cy, zs, hk, rfl, rfl, hcy, hzl, hb, hz32, hvz, hkp⟩ := hrel
    have Hvz := Lib.hid hvz
    have Hzl := Lib.hid hzl
    clear hvz
    by_cases hlt : k < us.length
    · obtain ⟨b1, o1, rfl, hcx⟩ := (h1.kp hkp).some hlt
      have hx1 := hcx k hlt
      have bx := h1.lt32.nth k
      have by' := h2.lt32.nth k
      have hs1 := hb.cell (i := k) (by omega)
      have hs2 := hb.frozen k
      have hbv := bor_val (nth us k) (nth vs k) cy
      have Heq := Lib.hid (fun z h => bor_eq (z := z) bx by' hcy h)
      clear hcx
      by_cases hlt2 : k < vs.length
      · obtain ⟨b2, o2, rfl, hcy2⟩ := (h2.kp hkp).some hlt2
        have hy1 := hcy2 k hlt2
        clear hcy2
        go_wp2_with fail
        refine (sub32_any _ _ _ _ (by omega) (by omega) (by omega) (by omega) (by omega) (by omega)).mono ?_
        rintro e w2 ⟨rfl, rfl⟩
        go_wp2_with fail
        go_roundw
        case rel =>
          refine ⟨k + 1, (bor (nth us k) (nth vs k) cy).toNat, zs.set k (((nth us k : Int) - nth vs k - cy) % 4294967296).toNat, by omega, by go_num, by congr 1; omega, by omega, by simp [Hzl.out], hb.put (by omega), hz32.set _ _ (by omega), sub_step (by omega) Hvz.out (Heq.out _ (by omega)), hkp.set (Nat.le_refl _) _⟩
        case measure => simp [intOf]; omega
      · have hny : nth vs k = 0 := nth_ge (by omega)
        have Hny := Lib.hid hny
        clear hny
        have hbv := bor_val (nth us k) 0 cy
        go_wp2_with fail
        refine (sub32_any _ _ _ _ (by omega) (by omega) (by omega) (by omega) (by omega) (by omega)).mono ?_
        rintro e w2 ⟨rfl, rfl⟩
        go_wp2_with fail
        go_roundw
        case rel =>
          have hny := Hny.out
          refine ⟨k + 1, (bor (nth us k) (nth vs k) cy).toNat, zs.set k (((nth us k : Int) - nth vs k - cy) % 4294967296).toNat, by omega, by go_num, by rw [hny]; congr 1; simp; omega, by omega, by simp [Hzl.out], hb.put (by rw [hny]; simp; omega), hz32.set _ _ (by omega), sub_step (by omega) Hvz.out (Heq.out _ (by omega)), hkp.set (Nat.le_refl _) _⟩
        case measure => simp [intOf]; omega
    · go_wp2
      go_ret
      have hke : k = us.length := by omega
      have e2 := Hvz.out
      rw [hke, List.take_of_length_le (Nat.le_refl _), List.take_of_length_le hl2, List.take_of_length_le (by omega), Hv1.out, Hv2.out] at e2
      have e3 := val_lt hz32
      rw [Hzl.out] at e3
      have e4 := Hle.out
      have hc0 : cy = 0 := by
        rcases (show cy = 0 ∨ cy = 1 by omega) with h | h
        · exact h
        · subst h; omega
      subst hc0
      exact ⟨w.heap.size, zs, rfl, Hzl.out, by omega, hb.rd hz32, hkp⟩
end Go.Proofs.YtkkiinbgjjjcoaaGreatDoor
end
