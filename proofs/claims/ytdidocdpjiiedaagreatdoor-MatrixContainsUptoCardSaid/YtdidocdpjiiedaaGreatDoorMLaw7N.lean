/-
  Walks: the law MatrixNorms.
-/
import Derived.Test.YtdidocdpjiiedaaGreatDoorMAwk7
import Derived.Test.YtdidocdpjiiedaaGreatDoorMR7N
namespace Go.Proofs.YtdidocdpjiiedaaGreatDoor
open Go.RowKit

theorem rowT_one {w : World} {a : Option Addr} {m : List (List RI)} {c : Nat} (h : RowM w a m) (hl : m.length ≤ 1100000) (t : TypeId) : RowT (w.alloc (.cells #[.slice a m.length c] t)) (some ⟨w.heap.size, 0, none⟩) [m] := by
  intro i r hi
  match i with
  | 0 =>
    simp only [List.getElem?_cons_zero, Option.some.injEq] at hi
    subst hi
    exact ⟨_, 0, a, c, rfl, by simp, h.kp ((Kp.refl w).alloc _), hl⟩
  | i + 1 => simp at hi
set_option maxRecDepth 100000 in
set_option maxHeartbeats 4000000 in
theorem Norms_ok (a : Option Addr) (m : List (List RI)) (c : Nat) (p : Int) (w : World) (hm : RowM w a m) (hl : m.length ≤ 1100000) (hT : Tab w) :
    Calls Tryz.prog 3 #[.slice a m.length c, .int .i64 p] w fun e w' => e = .returned (.bool true) ∧ Kp w w' := by
  go_enter Tryz.func3, Tryz.ntmps3
  go_wp2_with fail
  go_fit (awake7_any _ hT)
  rintro e w1 ⟨rfl, k1⟩
  have hm1 := hm.kp k1
  have hT1 := hT.kp k1
  have HT := Lib.hid (rowT_one (c := c) hm1 hl 22)
  have hA := k1.alloc (.cells #[.slice a m.length c] 22)
  go_wp2_with fail
  go_fit (great7_any [m] _ 1 _ HT.out (by simp))
  rintro e w2 ⟨rfl, k2⟩
  have hk2 := hA.trans k2
  clear HT hA k1 hm1 hT1 k2
  cases hg : [m].any greatM with
  | true =>
    clear hg
    go_wp2_with fail
    go_ret
    exact ⟨rfl, hk2⟩
  | false =>
    clear hg
    go_wp2_with fail
    go_fit (fine7_any p _)
    rintro e w3 ⟨rfl, rfl⟩
    cases hf : fineP p with
    | false =>
      clear hf
      go_wp2_with fail
      go_ret
      exact ⟨rfl, hk2⟩
    | true =>
      clear hf
      obtain ⟨D, hD⟩ : ∃ D, D = (nrmO m p).getD .zero := ⟨_, rfl⟩
      obtain ⟨B, hB⟩ : ∃ B, B = (nrmO m p).isSome := ⟨_, rfl⟩
      have HN := mnorm_any a m c p w2 (hm.kp hk2) hl (hT.kp hk2)
      have HR := fun (W : World) (k : Kp w2 W) => r7norm_any a m c p W ((hm.kp hk2).kp k) hl
      rw [← hD, ← hB] at HN
      simp only [← hD, ← hB] at HR
      have HN := Lib.hid HN
      have HR := Lib.hid HR
      clear hD hB hm hT
      go_wp2_with fail
      go_fit HN.out
      rintro e w3 ⟨y1, rfl, r1, d1, v1, k3⟩
      have ka := (Kp.refl w3).alloc (.cells #[.bool y1.neg, .slice y1.a y1.xs.length y1.c, .int .i64 y1.e] 28)
      have O1 := Lib.hid (show y1.ok (w3.alloc (.cells #[.bool y1.neg, .slice y1.a y1.xs.length y1.c, .int .i64 y1.e] 28)) from ⟨r1.kp ka, v1⟩)
      have hk4 := hk2.trans (k3.trans ka)
      have ka2 := k3.trans ka
      clear r1 v1 k3 ka HN
      go_upto_region 6 with fail
      generalize hW4 : w3.alloc _ = W4 at *
      have hY1 : W4.cell? ⟨w3.heap.size, 0, none⟩ = some (.bool y1.neg) ∧ W4.cell? ⟨w3.heap.size, 1, none⟩ = some (.slice y1.a y1.xs.length y1.c) ∧ W4.cell? ⟨w3.heap.size, 2, none⟩ = some (.int .i64 y1.e) := by rw [← hW4]; simp
      clear hW4
      go_wp2_with fail
      go_fit (HR.out _ ka2)
      rintro e w5 ⟨y2, rfl, r2, d2, v2, k5⟩
      have kb := (Kp.refl w5).alloc (.cells #[.bool y2.neg, .slice y2.a y2.xs.length y2.c, .int .i64 y2.e] 28)
      have O2 := Lib.hid (show y2.ok (w5.alloc (.cells #[.bool y2.neg, .slice y2.a y2.xs.length y2.c, .int .i64 y2.e] 28)) from ⟨r2.kp kb, v2⟩)
      have O1b := Lib.hid (O1.out.kp (k5.trans kb))
      have HE := Lib.hid (sameR_dy O1b.out O2.out (d1.trans d2.symm))
      have hk6 := hk4.trans (k5.trans kb)
      have hY1b := keep3 (k5.trans kb) hY1
      clear r2 v2 d1 d2 k5 kb hY1 hk4 ka2
      go_upto_region 7 with fail
      generalize hW6 : w5.alloc _ = W6 at *
      have hY2 : W6.cell? ⟨w5.heap.size, 0, none⟩ = some (.bool y2.neg) ∧ W6.cell? ⟨w5.heap.size, 1, none⟩ = some (.slice y2.a y2.xs.length y2.c) ∧ W6.cell? ⟨w5.heap.size, 2, none⟩ = some (.int .i64 y2.e) := by rw [← hW6]; simp
      clear hW6
      obtain ⟨s0, s1, s2⟩ := hY1b
      obtain ⟨t0, t1, t2⟩ := hY2
      cases B
      all_goals
        go_wp2_with fail
        go_fit (number7_any y1 y2 _ O1b.out.1 O2.out.1)
        rw [HE.out]
        rintro e w7 ⟨rfl, k7⟩
        go_wp2_with fail
        go_ret
        exact ⟨rfl, hk6.trans k7⟩
end Go.Proofs.YtdidocdpjiiedaaGreatDoor
