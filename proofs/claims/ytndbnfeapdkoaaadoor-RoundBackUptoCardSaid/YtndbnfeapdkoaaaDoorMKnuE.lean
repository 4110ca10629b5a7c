/-
  Walks: natural.divide, DivMod, of any numbers.
-/
import Derived.Test.YtndbnfeapdkoaaaDoorMKnuD
import Derived.Test.YtndbnfeapdkoaaaDoorMDivC
namespace Go.Proofs.YtndbnfeapdkoaaaDoor
open Go.RowKit

set_option maxRecDepth 100000 in
set_option maxHeartbeats 4000000 in
theorem divide0_any (a b : Option Addr) (xs ys : List Nat) (c d : Nat) (w : World) (hx : Rd w a xs) (hy : Rd w b ys) (hxl : xs.length ≤ 256) (hxc : xs.length ≤ c) (hyc : ys.length ≤ d) (hc : c ≤ maxLen) (hd : d ≤ maxLen) (hlt : val xs < val ys) :
    Calls Tryd.prog 72 #[.slice a xs.length c, .slice b ys.length d] w (DivOut w (val xs) (val ys) 256) := by
  have H1 := Lib.hid (trim_any a xs c w hx hxc hc)
  have H2 := Lib.hid (trim_any b ys d w hy hyc hd)
  have g1 := hx.limbs
  have g2 := hy.limbs
  have hl1 := limbs_len_le hx.lt32
  have hl2 := limbs_len_le hy.lt32
  have Hv1 := Lib.hid (val_limbs (val xs))
  have Hv2 := Lib.hid (val_limbs (val ys))
  have hcu : (limbs (val xs)).length ≤ c := by omega
  have hcv : (limbs (val ys)).length ≤ d := by omega
  go_enter Tryd.func72, Tryd.ntmps72
  go_wp2_with fail
  refine H1.out.mono ?_
  rintro e w2 ⟨rfl, rfl⟩
  go_wp2_with fail
  refine H2.out.mono ?_
  rintro e w2 ⟨rfl, rfl⟩
  clear H1 H2 hx hy
  generalize val xs = m at *
  generalize val ys = n at *
  generalize limbs m = us at *
  generalize limbs n = vs at *
  have hul : us.length ≤ 256 := by omega
  clear hxl hxc hyc hl1 hl2
  go_wp2_with fail
  refine (cmp_any a b us vs c d _ g1 g2 hcu hcv hc hd).mono ?_
  rw [Hv1.out, Hv2.out]
  rintro e w3 ⟨rfl, hk3⟩
  have hcm : cmpN m n < 0 := by rw [cmpN_lt hlt]; decide
  have Hlt := Lib.hid hlt
  clear hlt
  go_wp2_with fail
  refine (clone_any a us c _ (g1.kp hk3) (by omega)).mono ?_
  rintro e w4 ⟨a4, c4, rfl, r4, l4, m4, hk4⟩
  go_wp2_with fail
  refine bodyPost_ret (v := .tuple #[.slice none 0 0, .slice a4 us.length c4]) (by simp [results, Tryd.results72, go_sem]) rfl ?_
  exact ⟨none, 0, [], a4, c4, us, rfl, Nat.le_refl _, by decide, l4, m4, .nil _ _, r4, by rw [Nat.div_eq_of_lt Hlt.out]; rfl, by rw [Nat.mod_eq_of_lt Hlt.out]; exact Hv1.out, Nat.zero_le _, hul, hk3.trans hk4⟩
/-- the division of any numbers -/
theorem divide_any (a b : Option Addr) (xs ys : List Nat) (c d : Nat) (w : World) (hx : Rd w a xs) (hy : Rd w b ys) (hxl : xs.length ≤ 256) (hxc : xs.length ≤ c) (hyc : ys.length ≤ d) (hc : c ≤ maxLen) (hd : d ≤ maxLen) (h0 : val ys ≠ 0) :
    Calls Tryd.prog 72 #[.slice a xs.length c, .slice b ys.length d] w (DivOut w (val xs) (val ys) 256) := by
  rcases Nat.lt_or_ge (val xs) (val ys) with h | h
  · exact divide0_any a b xs ys c d w hx hy hxl hxc hyc hc hd h
  · have h1 : limbs (val ys) ≠ [] := fun h => h0 (limbs_eq_nil.1 h)
    have h2 := List.length_pos_iff.2 h1
    rcases (show (limbs (val ys)).length = 1 ∨ 2 ≤ (limbs (val ys)).length by omega) with h3 | h3
    · exact divide1_any a b xs ys c d w hx hy hxl hxc hyc hc hd h3
    · exact divide2_any a b xs ys c d w hx hy hxl hxc hyc hc hd h3 h
end Go.Proofs.YtndbnfeapdkoaaaDoor
