/-
  Walks: dyadic.sum, whole; Add, Sub.
  Walks: dyadic.Add and Sub of valid numbers.
  Walks: slices.Equal of uint32; the law's own same, num, great; round.Is.
  Plain: division limb by limb; a square root by Newton's steps; no program in sight.
  Walks: bits.Div32, natural.short.
  Walks: natural.divide by one limb, DivMod from a contract of divide.
  Walks: natural.DivMod and Sqrt, from a contract of divide.
  Walks: round.add, AddDown, where the first number is 0; interval.permitted, Mid.
  Walks: round.div of numbers that are not 0, from a contract of divide.
-/
import Derived.Test.YtdidocdpjiiedaaGreatDoorMSumG
import Derived.Test.YtdidocdpjiiedaaGreatDoorMRoA
import Derived.Test.YtdidocdpjiiedaaGreatDoorMRoF
import Derived.Test.YtdidocdpjiiedaaGreatDoorMNum
import Derived.Test.YtdidocdpjiiedaaGreatDoorMMul
import Derived.Test.YtdidocdpjiiedaaGreatDoorMDyA
import Derived.Test.YtdidocdpjiiedaaGreatDoorMCmpD
section
namespace Go.Proofs.YtdidocdpjiiedaaGreatDoor
open Go.RowKit

theorem len_is0 {n : Nat} (h : n = 0) : (((limbs n).length : Int) == 0) = true := by subst h; rw [limbs_zero]; rfl
theorem rdok_at {w : World} {x : RD} (h : x.ok w) : DyAt w x.dy x.a x.c := ⟨rdok_dy h, by rw [rdok_limbs h]; exact h.1.1, by rw [rdok_limbs h]; exact h.1.2.1, h.1.2.2.1⟩
end Go.Proofs.YtdidocdpjiiedaaGreatDoor
end

section
namespace Go.Proofs.YtdidocdpjiiedaaGreatDoor
open Go.RowKit

theorem keepRR {w w' : World} (k : Kp w w') {g h : Nat} {x y : RD} (hS : w.cell? ⟨g, 0, none⟩ = some (.bool x.neg) ∧ w.cell? ⟨g, 1, none⟩ = some (.slice x.a x.xs.length x.c) ∧ w.cell? ⟨g, 2, none⟩ = some (.int .i64 x.e) ∧ w.cell? ⟨h, 0, none⟩ = some (.bool y.neg) ∧ w.cell? ⟨h, 1, none⟩ = some (.slice y.a y.xs.length y.c) ∧ w.cell? ⟨h, 2, none⟩ = some (.int .i64 y.e)) : w'.cell? ⟨g, 0, none⟩ = some (.bool x.neg) ∧ w'.cell? ⟨g, 1, none⟩ = some (.slice x.a x.xs.length x.c) ∧ w'.cell? ⟨g, 2, none⟩ = some (.int .i64 x.e) ∧ w'.cell? ⟨h, 0, none⟩ = some (.bool y.neg) ∧ w'.cell? ⟨h, 1, none⟩ = some (.slice y.a y.xs.length y.c) ∧ w'.cell? ⟨h, 2, none⟩ = some (.int .i64 y.e) := keep6 k hS
theorem setRR {w : World} {o g h : Nat} (n : g ≠ o) (n' : h ≠ o) {x y : RD} {v0 v1 v2 : Value} (hS : w.cell? ⟨g, 0, none⟩ = some (.bool x.neg) ∧ w.cell? ⟨g, 1, none⟩ = some (.slice x.a x.xs.length x.c) ∧ w.cell? ⟨g, 2, none⟩ = some (.int .i64 x.e) ∧ w.cell? ⟨h, 0, none⟩ = some (.bool y.neg) ∧ w.cell? ⟨h, 1, none⟩ = some (.slice y.a y.xs.length y.c) ∧ w.cell? ⟨h, 2, none⟩ = some (.int .i64 y.e)) :
    (((w.setCell ⟨o, 0, none⟩ v0).setCell ⟨o, 1, none⟩ v1).setCell ⟨o, 2, none⟩ v2).cell? ⟨g, 0, none⟩ = some (.bool x.neg) ∧ (((w.setCell ⟨o, 0, none⟩ v0).setCell ⟨o, 1, none⟩ v1).setCell ⟨o, 2, none⟩ v2).cell? ⟨g, 1, none⟩ = some (.slice x.a x.xs.length x.c) ∧ (((w.setCell ⟨o, 0, none⟩ v0).setCell ⟨o, 1, none⟩ v1).setCell ⟨o, 2, none⟩ v2).cell? ⟨g, 2, none⟩ = some (.int .i64 x.e) ∧ (((w.setCell ⟨o, 0, none⟩ v0).setCell ⟨o, 1, none⟩ v1).setCell ⟨o, 2, none⟩ v2).cell? ⟨h, 0, none⟩ = some (.bool y.neg) ∧ (((w.setCell ⟨o, 0, none⟩ v0).setCell ⟨o, 1, none⟩ v1).setCell ⟨o, 2, none⟩ v2).cell? ⟨h, 1, none⟩ = some (.slice y.a y.xs.length y.c) ∧ (((w.setCell ⟨o, 0, none⟩ v0).setCell ⟨o, 1, none⟩ v1).setCell ⟨o, 2, none⟩ v2).cell? ⟨h, 2, none⟩ = some (.int .i64 y.e) := by
  obtain ⟨a0, a1, a2, b0, b1, b2⟩ := hS
  obtain ⟨c0, c1, c2⟩ := set3x (x0 := v0) (x1 := v1) (x2 := v2) n ⟨a0, a1, a2⟩
  obtain ⟨d0, d1, d2⟩ := set3x (x0 := v0) (x1 := v1) (x2 := v2) n' ⟨b0, b1, b2⟩
  exact ⟨c0, c1, c2, d0, d1, d2⟩
end Go.Proofs.YtdidocdpjiiedaaGreatDoor
end

section
namespace Go.Proofs.YtdidocdpjiiedaaGreatDoor
open Go.RowKit

set_option maxHeartbeats 1000000 in
theorem eqU_any (a b : Option Addr) (xs ys : List Nat) (c d : Nat) (w : World) (h1 : Rd w a xs) (h2 : Rd w b ys) (hxl : xs.length ≤ 1100000) :
    Calls Tryz.prog 62 #[.slice a xs.length c, .slice b ys.length d] w fun e w' => e = .returned (.bool (decide (xs = ys))) ∧ Kp w w' := by
  by_cases hlen : xs.length = ys.length
  · have hne : ((xs.length : Int) != ys.length) = false := by simp; omega
    have Hlen := Lib.hid hlen
    have hle1 : xs.length ≤ ys.length := by omega
    clear hlen
    go_enter Tryz.func62, Tryz.ntmps62
    go_wp2_with fail
    go_loopw [13] (fun ix wr => ∃ k : Nat, k ≤ xs.length ∧ ix = .int .i64 k ∧ xs.take k = ys.take k ∧ Kp w wr) (fun ix _ => xs.length - (intOf ix).toNat)
    case atStart => exact ⟨0, Nat.zero_le _, rfl, rfl, .refl _⟩
    case round =>
      obtain ⟨k, hk, rfl, ht, hkp⟩ := hrel
      have Ht := Lib.hid ht
      clear ht
      by_cases hlt : k < xs.length
      · have hlt2 : k < ys.length := by omega
        obtain ⟨b1, o1, rfl, hcx⟩ := (h1.kp hkp).some hlt
        have hx1 := hcx k hlt
        obtain ⟨b2, o2, rfl, hcy⟩ := (h2.kp hkp).some hlt2
        have hy1 := hcy k hlt2
        have Hn := Lib.hid (And.intro (take_succ_nth hlt) (take_succ_nth hlt2))
        have He := Lib.hid (show xs = ys → nth xs k = nth ys k from fun h => by rw [h])
        clear hcx hcy
        have hi0 : (0 : Int) ≤ (k : Int) := by omega
        have hi1 : (k : Int) < (xs.length : Int) := by omega
        have hi2 : (k : Int) < (ys.length : Int) := by omega
        by_cases hq : nth xs k = nth ys k
        · have hq1 : ((nth xs k : Int) != (nth ys k : Int)) = false := by simp; omega
          have Hq := Lib.hid hq
          clear hq
          go_wp2_with fail
          go_quiet (fail)
          go_wp2_with fail
          go_roundw
          case rel => exact ⟨k + 1, by omega, by go_num, by rw [Hn.out.1, Hn.out.2, Ht.out, Hq.out], hkp.drewN _⟩
          all_goals (simp [intOf]; try omega)
        · have hq1 : ((nth xs k : Int) != (nth ys k : Int)) = true := by simp; omega
          have Hq := Lib.hid hq
          clear hq
          go_wp2_with fail
          go_quiet (fail)
          go_wp2_with fail
          go_ret
          exact ⟨ret_bool (decide_eq_false fun h => Hq.out (He.out h)).symm, hkp.drewN _⟩
      · have hke : k = xs.length := by omega
        have H := Lib.hid (show xs = ys by
          have := Ht.out
          rw [hke, List.take_of_length_le (Nat.le_refl _), List.take_of_length_le (by have := Hlen.out; omega)] at this
          exact this)
        clear hke
        go_wp2_with fail
        go_ret
        exact ⟨ret_bool (decide_eq_true H.out).symm, hkp⟩
  · have hne : ((xs.length : Int) != ys.length) = true := by simp; omega
    have H := Lib.hid (show ¬ xs = ys from fun h => hlen (by rw [h]))
    clear hlen
    go_enter Tryz.func62, Tryz.ntmps62
    go_wp2_with fail
    go_ret
    exact ⟨ret_bool (decide_eq_false H.out).symm, .refl _⟩

/-- equal fields -/
def sameR (x y : RD) : Bool := (x.neg == y.neg) && (decide (x.e = y.e) && decide (x.xs = y.xs))
theorem sameR_dy {w w' : World} {x y : RD} (hx : x.ok w) (hy : y.ok w') (h : x.dy = y.dy) : sameR x y = true := by
  have h1 := rdok_limbs hx
  have h2 := rdok_limbs hy
  have e1 : x.neg = y.neg := congrArg Dy.neg h
  have e2 : x.e = y.e := congrArg Dy.e h
  have e3 : x.xs = y.xs := by rw [← h1, ← h2, h]
  unfold sameR
  rw [e1, e2, e3]; simp
end Go.Proofs.YtdidocdpjiiedaaGreatDoor
end

section
namespace Go.Proofs.YtdidocdpjiiedaaGreatDoor

end Go.Proofs.YtdidocdpjiiedaaGreatDoor
end

section
namespace Go.Proofs.YtdidocdpjiiedaaGreatDoor
open Go.RowKit

end Go.Proofs.YtdidocdpjiiedaaGreatDoor
end

section
namespace Go.Proofs.YtdidocdpjiiedaaGreatDoor
open Go.RowKit

end Go.Proofs.YtdidocdpjiiedaaGreatDoor
end

section
namespace Go.Proofs.YtdidocdpjiiedaaGreatDoor
open Go.RowKit

end Go.Proofs.YtdidocdpjiiedaaGreatDoor
end

section
namespace Go.Proofs.YtdidocdpjiiedaaGreatDoor
open Go.RowKit

theorem fltB_ok {p : Nat} {ys : List RD} (h : ys.all RD.vl = true) (h0 : 8 ≤ p) (h1 : p ≤ 512) : fltB p ys = 0 := fltB_zero.2 ⟨h, by omega, by omega⟩
theorem permitted_any (p : Int) (w : World) :
    Calls Tryz.prog 122 #[.int .i64 p] w fun e w' => e = .returned (.bool (preB p)) ∧ w = w' := by
  by_cases h1 : 8 ≤ p
  · by_cases h2 : p ≤ 512
    · have H := Lib.hid (show preB p = true from decide_eq_true ⟨h1, h2⟩)
      go_enter Tryz.func122, Tryz.ntmps122
      go_wp2_with fail
      go_ret
      exact ⟨ret_bool (by first | exact H.out.symm | (rw [H.out]; simp; omega)), rfl⟩
    · have H := Lib.hid (show preB p = false from decide_eq_false (by omega))
      go_enter Tryz.func122, Tryz.ntmps122
      go_wp2_with fail
      go_ret
      exact ⟨ret_bool (by first | exact H.out.symm | (rw [H.out]; simp; omega)), rfl⟩
  · have H := Lib.hid (show preB p = false from decide_eq_false (by omega))
    go_enter Tryz.func122, Tryz.ntmps122
    go_wp2_with fail
    go_ret
    exact ⟨ret_bool (by first | exact H.out.symm | (rw [H.out]; simp; omega)), rfl⟩
end Go.Proofs.YtdidocdpjiiedaaGreatDoor
end

section
namespace Go.Proofs.YtdidocdpjiiedaaGreatDoor
open Go.RowKit

theorem limbs_of_bits {n k : Nat} (h : bits n ≤ 32 * k) : (limbs n).length ≤ k := limbs_length_le.2 (by rw [pow32]; exact bits_le.1 h)
theorem dok_bits {d : Dy} (h : d.ok) : bits d.m ≤ 4096 := by
  rcases h with ⟨h1, _⟩ | ⟨_, h1, _⟩
  · rw [h1, bits_zero]; omega
  · exact h1
end Go.Proofs.YtdidocdpjiiedaaGreatDoor
end
