/-
  Walks: the reference's bits, Neg.
  Walks: the reference's Neg, Valid.
-/
import Derived.Test.YtkkiinbgjjjcoaaGreatDoorMR2B
import Derived.Test.YtkkiinbgjjjcoaaGreatDoorMSumH
section
namespace Go.Proofs.YtkkiinbgjjjcoaaGreatDoor
open Go.RowKit

theorem limbs_top_ne {n : Nat} (h : n ≠ 0) : nth (limbs n) ((limbs n).length - 1) ≠ 0 := by
  have hl : 0 < (limbs n).length := by
    rw [List.length_pos_iff, Ne, limbs_eq_nil]; exact h
  have ht := limbs_top n
  unfold Top at ht
  rw [List.getLast?_eq_getElem?, List.getElem?_eq_getElem (by omega)] at ht
  rw [nth_eq (by omega)]
  exact fun e => ht (congrArg some e)
theorem bits_top {n : Nat} (h : n ≠ 0) : bits n = 32 * ((limbs n).length - 1) + bits (nth (limbs n) ((limbs n).length - 1)) ∧ nth (limbs n) ((limbs n).length - 1) ≠ 0 := by
  have hl : 0 < (limbs n).length := by
    rw [List.length_pos_iff, Ne, limbs_eq_nil]; exact h
  have ht : nth (limbs n) ((limbs n).length - 1) ≠ 0 := limbs_top_ne h
  have h32 := limbs_lt32 n
  have hv := val_limbs n
  generalize limbs n = xs at *
  have e : xs = xs.take (xs.length - 1) ++ [nth xs (xs.length - 1)] := by
    rw [nth_eq (by omega), ← List.take_succ_eq_append_getElem (by omega), List.take_of_length_le (by omega)]
  have hb := bits_val_snoc (h32.take (xs.length - 1)) ht
  rw [← e, hv, List.length_take, Nat.min_eq_left (by omega)] at hb
  exact ⟨hb, ht⟩
set_option maxHeartbeats 1000000 in
theorem r2bits_any (a : Option Addr) (n : Nat) (c : Nat) (w : World) (h : Rd w a (limbs n)) (hl : (limbs n).length ≤ 1100000) :
    Calls Tryz.prog 68 #[.slice a (limbs n).length c] w fun e w' => e = .returned (.int .i64 (bits n)) ∧ w = w' := by
  by_cases h0 : n = 0
  · have hz := len_is0 h0
    have hb := Lib.hid (show bits n = 0 by rw [h0, bits_zero])
    clear h0
    go_enter Tryz.func68, Tryz.ntmps68
    go_wp2_with fail
    go_ret
    rw [hb.out]
    exact ⟨rfl, rfl⟩
  · have hz := len_ne h0
    obtain ⟨hb, ht⟩ := bits_top h0
    have hpos : 0 < (limbs n).length := by
      rw [List.length_pos_iff, Ne, limbs_eq_nil]; exact h0
    have hnt := (limbs_lt32 n).nth ((limbs n).length - 1)
    have hbt : bits (nth (limbs n) ((limbs n).length - 1)) ≤ 32 := bits_le.2 hnt
    obtain ⟨b, o, rfl, hcell⟩ := h.some hpos
    have hx := hcell ((limbs n).length - 1) (by omega)
    have Hb := Lib.hid hb
    clear hcell h hb h0
    generalize (limbs n).length = L at *
    generalize nth (limbs n) (L - 1) = t at *
    have hi1 : (0 : Int) ≤ ((L - 1 : Nat) : Int) := by omega
    have hi2 : ((L - 1 : Nat) : Int) < (L : Int) := by omega
    have hL1 : (L : Int) - 1 = ((L - 1 : Nat) : Int) := by omega
    go_enter Tryz.func68, Tryz.ntmps68
    go_wp2_with fail
    go_loop [3, 4] (fun v x => ∃ (y j : Nat), x = .int .u32 y ∧ v = .int .i64 ((32 * (L - 1) + j : Nat) : Int) ∧ j + bits y = bits t ∧ y < 4294967296) (fun _ x => (intOf x).toNat)
    case atStart => exact ⟨t, 0, rfl, by congr 1 <;> omega, by omega, hnt⟩
    case round =>
      obtain ⟨y, j, rfl, rfl, hj, hy⟩ := hrel
      by_cases hy0 : y = 0
      · subst hy0
        rw [bits_zero] at hj
        have HB := Lib.hid (show bits n = 32 * (L - 1) + j by rw [Hb.out]; omega)
        go_wp2_with fail
        go_ret
        rw [HB.out]
        exact ⟨rfl, rfl⟩
      · have h2 := bits_half hy0
        have h3 : 0 < y := by omega
        go_wp2_with fail
        go_round
        case rel => exact ⟨y / 2, j + 1, by go_num, by congr 1 <;> omega, by omega, by omega⟩
        case measure => simp [intOf]; omega
end Go.Proofs.YtkkiinbgjjjcoaaGreatDoor
end

section
namespace Go.Proofs.YtkkiinbgjjjcoaaGreatDoor
open Go.RowKit

end Go.Proofs.YtkkiinbgjjjcoaaGreatDoor
end
