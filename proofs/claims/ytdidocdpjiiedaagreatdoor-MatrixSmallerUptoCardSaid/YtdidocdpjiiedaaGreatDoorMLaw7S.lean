/-
  Walks: the law MatrixSums.
-/
import Derived.Test.YtdidocdpjiiedaaGreatDoorMLaw7N
import Derived.Test.YtdidocdpjiiedaaGreatDoorMEqfR
import Derived.Test.YtdidocdpjiiedaaGreatDoorMR7S
namespace Go.Proofs.YtdidocdpjiiedaaGreatDoor
open Go.RowKit

theorem rowT_two {w : World} {a b : Option Addr} {m n : List (List RI)} {c d : Nat} (h : RowM w a m) (h2 : RowM w b n) (hl : m.length ≤ 1100000) (hl2 : n.length ≤ 1100000) (t : TypeId) : RowT (w.alloc (.cells #[.slice a m.length c, .slice b n.length d] t)) (some ⟨w.heap.size, 0, none⟩) [m, n] := by
  intro i r hi
  match i with
  | 0 =>
    simp only [List.getElem?_cons_zero, Option.some.injEq] at hi
    subst hi
    exact ⟨_, 0, a, c, rfl, by simp, h.kp ((Kp.refl w).alloc _), hl⟩
  | 1 =>
    simp only [List.getElem?_cons_succ, List.getElem?_cons_zero, Option.some.injEq] at hi
    subst hi
    exact ⟨_, 0, b, d, rfl, by simp, h2.kp ((Kp.refl w).alloc _), hl2⟩
  | i + 2 => simp at hi
set_option maxRecDepth 100000 in
set_option maxHeartbeats 4000000 in
theorem Sums7_ok (a b : Option Addr) (m n : List (List RI)) (c d : Nat) (p : Int) (w : World) (hm : RowM w a m) (hn : RowM w b n) (hl : m.length ≤ 1100000) (hl2 : n.length ≤ 1100000) (hT : Tab w) :
    Calls Tryz.prog 6 #[.slice a m.length c, .slice b n.length d, .int .i64 p] w fun e w' => e = .returned (.bool true) ∧ Kp w w' := by
  go_enter Tryz.func6, Tryz.ntmps6
  go_wp2_with fail
  go_fit (awake7_any _ hT)
  rintro e w1 ⟨rfl, k1⟩
  have HT := Lib.hid (rowT_two (c := c) (d := d) (hm.kp k1) (hn.kp k1) hl hl2 22)
  have hA := k1.alloc (.cells #[.slice a m.length c, .slice b n.length d] 22)
  go_wp2_with fail
  go_fit (great7_any [m, n] _ 2 _ HT.out (by simp))
  rintro e w2 ⟨rfl, k2⟩
  have hk2 := hA.trans k2
  clear HT hA k1 k2
  cases hg : [m, n].any greatM with
  | true =>
    clear hg
    go_wp2_with fail
    go_ret
    exact ⟨rfl, hk2⟩
  | false =>
    clear hg
    go_wp2_with fail
    go_fit (fine7_any p _)
    rintro e w3 ⟨rfl, rfl⟩
    cases hf : fineP p with
    | false =>
      clear hf
      go_wp2_with fail
      go_ret
      exact ⟨rfl, hk2⟩
    | true =>
      clear hf
      obtain ⟨D, hD⟩ : ∃ D, D = entC (fun q X Y => pAdd X Y q) m n p := ⟨_, rfl⟩
      obtain ⟨E, hE⟩ : ∃ E, E = entC (fun q X Y => pSub X Y q) m n p := ⟨_, rfl⟩
      have H1 := fun (W : World) (k : Kp w2 W) => madd_any a b m n c d p W ((hm.kp hk2).kp k) ((hn.kp hk2).kp k) hl hl2 ((hT.kp hk2).kp k)
      have H2 := fun (W : World) (k : Kp w2 W) => r7add_any a b m n c d p W ((hm.kp hk2).kp k) ((hn.kp hk2).kp k) hl hl2 ((hT.kp hk2).kp k)
      have H3 := fun (W : World) (k : Kp w2 W) => msub_any a b m n c d p W ((hm.kp hk2).kp k) ((hn.kp hk2).kp k) hl hl2 ((hT.kp hk2).kp k)
      have H4 := fun (W : World) (k : Kp w2 W) => r7sub_any a b m n c d p W ((hm.kp hk2).kp k) ((hn.kp hk2).kp k) hl hl2 ((hT.kp hk2).kp k)
      simp only [← hD, ← hE] at H1 H2 H3 H4
      have H1 := Lib.hid H1
      have H2 := Lib.hid H2
      have H3 := Lib.hid H3
      have H4 := Lib.hid H4
      clear hD hE hm hn hT
      go_wp2_with fail
      go_fit (H1.out _ (Kp.refl _))
      rintro e w3 ⟨a1, z1, c1, rfl, r1, p1, o1, l1, k1⟩
      have R1 := Lib.hid (And.intro r1 (And.intro p1 o1))
      have K1 := Lib.hid k1
      clear r1 p1 o1 k1 H1
      go_wp2_with fail
      go_fit (H2.out _ K1.out)
      rintro e w4 ⟨a2, z2, c2, rfl, r2, p2, o2, l2, k2⟩
      have S1 := Lib.hid (sameM_pl R1.out.1 r2 R1.out.2.2 o2 (R1.out.2.1.trans p2.symm))
      have R2 := Lib.hid r2
      have K2 := Lib.hid k2
      clear r2 p2 o2 k2 H2
      go_wp2_with fail
      go_fit (H3.out _ (K1.out.trans K2.out))
      rintro e w5 ⟨a3, z3, c3, rfl, r3, p3, o3, l3, k3⟩
      have R3 := Lib.hid (And.intro r3 (And.intro p3 o3))
      have K3 := Lib.hid k3
      clear r3 p3 o3 k3 H3
      go_wp2_with fail
      go_fit (H4.out _ ((K1.out.trans K2.out).trans K3.out))
      rintro e w6 ⟨a4, z4, c4, rfl, r4, p4, o4, l4, k4⟩
      have S2 := Lib.hid (sameM_pl R3.out.1 r4 R3.out.2.2 o4 (R3.out.2.1.trans p4.symm))
      have R4 := Lib.hid r4
      have K4 := Lib.hid k4
      clear r4 p4 o4 k4 H4
      have HS1 := Lib.hid (same7mat_any z1 z2 a1 a2 c1 c2 w6 (((R1.out.1.kp K2.out).kp K3.out).kp K4.out) ((R2.out.kp K3.out).kp K4.out) l1)
      have HS2 := Lib.hid (fun (W : World) (k : Kp w6 W) => same7mat_any z3 z4 a3 a4 c3 c4 W ((R3.out.1.kp K4.out).kp k) (R4.out.kp k) l3)
      clear l1 l2 l3 l4
      go_wp2_with fail
      go_fit HS1.out
      rw [S1.out]
      rintro e w7 ⟨rfl, k7⟩
      go_wp2_with fail
      go_fit (HS2.out _ k7)
      rw [S2.out]
      rintro e w8 ⟨rfl, k8⟩
      have hkE := ((((((hk2.trans K1.out).trans K2.out).trans K3.out).trans K4.out).trans k7).trans k8)
      go_wp2_with fail
      go_ret
      exact ⟨rfl, hkE⟩
end Go.Proofs.YtdidocdpjiiedaaGreatDoor
