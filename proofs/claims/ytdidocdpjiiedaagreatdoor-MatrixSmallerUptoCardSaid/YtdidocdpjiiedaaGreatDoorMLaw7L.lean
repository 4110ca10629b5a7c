/-
  Walks: the law MatrixSmaller.
-/
import Derived.Deep.CutRange
import Derived.Test.YtdidocdpjiiedaaGreatDoorMLaw7S
import Derived.Test.YtdidocdpjiiedaaGreatDoorMInsM
import Derived.Test.YtdidocdpjiiedaaGreatDoorMSmlM
namespace Go.Proofs.YtdidocdpjiiedaaGreatDoor
open Go.RowKit

theorem colsM_inM {m Z : List (List RI)} (hm : vlM m = true) (h : inM Z m) : colsM Z = colsM m := by
  obtain ⟨h1, h2, _⟩ := vlM_iff.1 hm
  have h0 : 0 < Z.length := by rw [h.1]; omega
  have h0m : 0 < m.length := by omega
  rw [colsM_eq (List.getElem?_eq_getElem h0), (h.2 0 _ _ (List.getElem?_eq_getElem h0) (List.getElem?_eq_getElem h0m)).1, colsM_eq (List.getElem?_eq_getElem h0m)]
theorem atP_out {m : List (List RI)} (hm : vlM m = true) {i j : Nat} (h : m.length ≤ i ∨ colsM m ≤ j) : atP m i j = .whole := by
  unfold atP atR
  by_cases hi : i < m.length
  · have hl := (vlM_row hm (List.getElem?_eq_getElem hi)).1
    have hg : m.getD i [] = m[i] := by rw [List.getD_eq_getElem?_getD, List.getElem?_eq_getElem hi]; rfl
    rw [hg, List.getD_eq_getElem?_getD, List.getElem?_eq_none (by omega)]; rfl
  · have hg : m.getD i [] = [] := by rw [List.getD_eq_getElem?_getD, List.getElem?_eq_none (by omega)]; rfl
    rw [hg]; rfl
theorem atP_okA {w : World} {a : Option Addr} {m : List (List RI)} (h : RowM w a m) (hm : vlM m = true) (i j : Nat) : (atP m i j).ok := by
  by_cases hc : m.length ≤ i ∨ colsM m ≤ j
  · rw [atP_out hm hc]; exact PI.whole_ok
  · obtain ⟨r, x, hr, hx, hv, hat⟩ := vlM_get hm (show i < m.length by omega) (show j < colsM m by omega)
    obtain ⟨_, _, _, _, _, _, hrow, _⟩ := h i r hr
    rw [atP_eq hr hx]
    exact RI.pl_ok (hrow.rdI (List.mem_of_getElem? hx)) hv
theorem atP_insA {m Z : List (List RI)} (hm : vlM m = true) (h : inM Z m) (i j : Nat) : insP (atP Z i j) (atP m i j) := by
  by_cases hc : m.length ≤ i ∨ colsM m ≤ j
  · rw [atP_out hm hc]; exact insP.whole _
  · exact (inM_at hm h (by omega) (by omega)).2
/-- what is inside, behind an operation on all elements: sums -/
theorem codes_add {m n Z : List (List RI)} {P q : Nat} (vm : vlM m = true) (vn : vlM n = true) (vZ : vlM Z = true) (hin : inM Z m) (hQ : 8 ≤ P ∧ P ≤ 100 ∧ P ≤ q ∧ q ≤ 512) :
    (entC (fun q X Y => pAdd X Y q) Z n q).2 = (entC (fun q X Y => pAdd X Y q) m n P).2 ∧
    ((entC (fun q X Y => pAdd X Y q) m n P).2 = 0 → ∀ (s t : List (List RI)), plM s = (entC (fun q X Y => pAdd X Y q) m n P).1 → plM t = (entC (fun q X Y => pAdd X Y q) Z n q).1 → okM s → okM t → insXM t s = true ∧ vlM s = true ∧ vlM t = true) := by
  have p1 : preB (P : Int) = true := preB_iff.2 ⟨by omega, by omega⟩
  have p2 : preB (q : Int) = true := preB_iff.2 ⟨by omega, by omega⟩
  have hc := colsM_inM vm hin
  have hlz := hin.1
  have hml := (vlM_iff.1 vm).1
  have hmc := (vlM_iff.1 vm).2.1
  unfold entC
  rw [vm, vn, vZ, p1, p2, hc, hlz]
  by_cases hs : m.length ≠ n.length ∨ colsM m ≠ colsM n
  · simp only [if_pos hs]
    exact ⟨by first | rfl | trivial, fun h => by cases h⟩
  · simp only [if_neg hs]
    refine ⟨by first | rfl | trivial, fun _ s t h1 h2 o1 o2 => ?_⟩
    have e1 : plM s = tabM m.length (colsM m) (fun i j => pAdd (atP m i j) (atP n i j) P) := h1
    have e2 : plM t = tabM m.length (colsM m) (fun i j => pAdd (atP Z i j) (atP n i j) q) := h2
    exact ⟨insXM_tab e2 e1 fun i j _ _ => pAdd_inc hQ.1 hQ.2.2.1 hQ.2.2.2 (atP_insA vm hin i j) (insP.refl _), vlM_tab e1 o1 hml hmc, vlM_tab e2 o2 hml hmc⟩
/-- products -/
theorem codes_mul {m n Z : List (List RI)} {P q : Nat} (vm : vlM m = true) (vn : vlM n = true) (vZ : vlM Z = true) (hin : inM Z m) (hQ : 8 ≤ P ∧ P ≤ 100 ∧ P ≤ q ∧ q ≤ 512) (oZ : ∀ i j, (atP Z i j).ok) (on : ∀ i j, (atP n i j).ok) :
    (mulC Z n q).2 = (mulC m n P).2 ∧
    ((mulC m n P).2 = 0 → ∀ (s t : List (List RI)), plM s = (mulC m n P).1 → plM t = (mulC Z n q).1 → okM s → okM t → insXM t s = true ∧ vlM s = true ∧ vlM t = true) := by
  have p1 : preB (P : Int) = true := preB_iff.2 ⟨by omega, by omega⟩
  have p2 : preB (q : Int) = true := preB_iff.2 ⟨by omega, by omega⟩
  have hc := colsM_inM vm hin
  have hlz := hin.1
  have hml := (vlM_iff.1 vm).1
  have hnc := (vlM_iff.1 vn).2.1
  unfold mulC
  rw [vm, vn, vZ, p1, p2, hc]
  by_cases hs : colsM m ≠ n.length
  · simp only [if_pos hs]
    exact ⟨by first | rfl | trivial, fun h => by cases h⟩
  · simp only [if_neg hs]
    refine ⟨by first | rfl | trivial, fun _ s t h1 h2 o1 o2 => ?_⟩
    have e1 : plM s = tabM m.length (colsM n) (fun i j => dotF P (atP m i) (fun t => atP n t j) (colsM m - 1)) := h1
    have e2 : plM t = tabM m.length (colsM n) (fun i j => dotF q (atP Z i) (fun t => atP n t j) (colsM m - 1)) := by
      have : plM t = tabM Z.length (colsM n) (fun i j => dotF q (atP Z i) (fun t => atP n t j) (colsM Z - 1)) := h2
      rw [hlz, hc] at this; exact this
    exact ⟨insXM_tab e2 e1 fun i j _ _ => dotF_inc hQ.1 hQ.2.2.1 hQ.2.2.2 (fun t => oZ i t) (fun t => on t j) (fun t => atP_insA vm hin i t) (fun t => insP.refl _) _, vlM_tab e1 o1 hml hnc, vlM_tab e2 o2 hml hnc⟩
set_option maxRecDepth 100000 in
set_option maxHeartbeats 8000000 in
theorem Smaller_ok (a b : Option Addr) (m n : List (List RI)) (c d : Nat) (p : Int) (wh mo : Nat) (w : World) (hm : RowM w a m) (hn : RowM w b n) (hl : m.length ≤ 1100000) (hl2 : n.length ≤ 1100000) (hmo : mo < 256) (hT : Tab w) :
    Calls Tryz.prog 7 #[.slice a m.length c, .slice b n.length d, .int .i64 p, .int .u64 (wh : Int), .int .u8 (mo : Int)] w fun e w' => e = .returned (.bool true) ∧ Kp w w' := by
  have HM := Lib.hid hm
  have HN := Lib.hid hn
  have HTb := Lib.hid hT
  clear hm hn hT
  go_enter Tryz.func7, Tryz.ntmps7
  go_wp2_with fail
  go_fit (awake7_any _ HTb.out)
  rintro e w1 ⟨rfl, k1⟩
  have HT := Lib.hid (rowT_two (c := c) (d := d) (HM.out.kp k1) (HN.out.kp k1) hl hl2 22)
  have hA := k1.alloc (.cells #[.slice a m.length c, .slice b n.length d] 22)
  go_wp2_with fail
  go_fit (great7_any [m, n] _ 2 _ HT.out (by simp))
  rintro e w2 ⟨rfl, k2⟩
  have hk2 := hA.trans k2
  clear HT hA k1 k2
  cases hg : [m, n].any greatM with
  | true =>
    clear hg
    go_wp2_with fail
    go_ret
    exact ⟨rfl, hk2⟩
  | false =>
    clear hg
    by_cases hp8 : p < 8
    · go_wp2_with fail
      go_ret
      exact ⟨rfl, hk2⟩
    · by_cases hp100 : 100 < p
      · go_wp2_with fail
        go_ret
        exact ⟨rfl, hk2⟩
      · go_wp2_with fail
        go_fit (mvalid_any a m c _ (HM.out.kp hk2) hl)
        rintro e w3 ⟨rfl, k3⟩
        cases hvm : vlM m with
        | false =>
          have hkE := hk2.trans k3
          clear hvm
          go_wp2_with fail
          go_ret
          exact ⟨rfl, hkE⟩
        | true =>
          have HVM := Lib.hid hvm
          have hk3 := hk2.trans k3
          clear hvm hk2 k3
          go_wp2_with fail
          go_fit (mvalid_any b n d _ (HN.out.kp hk3) hl2)
          rintro e w4 ⟨rfl, k4⟩
          have hk4 := hk3.trans k4
          cases hvn : vlM n with
          | false =>
            clear hvn
            go_wp2_with fail
            go_ret
            exact ⟨rfl, hk4⟩
          | true =>
            have HVN := Lib.hid hvn
            clear hvn hk3 k4
            obtain ⟨P, rfl⟩ : ∃ P : Nat, p = (P : Int) := ⟨p.toNat, by omega⟩
            obtain ⟨q, hq⟩ : ∃ q : Nat, q = P + mo % 20 := ⟨_, rfl⟩
            have hP0 : 8 ≤ P := by omega
            have hP1 : P ≤ 100 := by omega
            have hPq : P ≤ q := by omega
            have hq1 : q ≤ 512 := by omega
            have ht : Int.tmod ((mo : Nat) : Int) 20 = ((mo % 20 : Nat) : Int) := by rw [Int.tmod_eq_emod_of_nonneg (by omega)]; omega
            have hmo2 : (mo : Int) < 256 := by omega
            have hs20 : ((mo % 20 : Nat) : Int) < 20 := by omega
            have hsum : ((P : Nat) : Int) + (mo : Int) % 20 = (q : Int) := by omega
            have HQ := Lib.hid (And.intro hP0 (And.intro hP1 (And.intro hPq hq1)))
            clear hq
            have hP1i : (P : Int) ≤ 100 := by omega
            go_wp2_with fail
            go_fit (smaller_any a m c (wh : Int) _ (HM.out.kp hk4) HVM.out)
            rintro e w5 ⟨aZ, Z, cZ, rfl, hZ, vZ, hin, k5⟩
            have HZ := Lib.hid (And.intro hZ (And.intro vZ hin))
            have hZl : Z.length ≤ 1100000 := by rw [hin.1]; exact hl
            have hk5 := hk4.trans k5
            clear hZ vZ hin hk4 k5
            go_wp2_with fail
            have hqi : (q : Int) ≤ 512 := by omega
            clear ht hmo2 hs20 hsum
            have hxx := Lib.hid (insXM_of (m := Z) (n := m) HZ.out.2.2.1 (fun i r s hr hs => ⟨(HZ.out.2.2.2 i r s hr hs).1, fun j x y hx hy => ((HZ.out.2.2.2 i r s hr hs).2 j x y hx hy).2⟩))
            go_fit (minside_any Z m aZ a cZ c _ HZ.out.1 (HM.out.kp hk5) hZl hl HZ.out.2.1 HVM.out)
            rw [hxx.out]
            rintro e w6 ⟨rfl, k6⟩
            have haa := Lib.hid (insXM_of (m := m) (n := m) rfl (fun i r s hr hs => by rw [hr] at hs; cases hs; exact ⟨rfl, fun j x y hx hy => by rw [hx] at hy; cases hy; exact insP.refl _⟩))
            have hk6 := hk5.trans k6
            go_wp2_with fail
            go_fit (minside_any m m a a c c _ (HM.out.kp hk6) (HM.out.kp hk6) hl hl HVM.out HVM.out)
            rw [haa.out]
            rintro e w7 ⟨rfl, k7⟩
            have hk7 := hk6.trans k7
            have K57 := Lib.hid (k6.trans k7)
            clear hk5 hk6 k6 k7 hxx haa
            obtain ⟨X1, hX1⟩ : ∃ X, X = (entC (fun q X Y => pAdd X Y q) m n P).1 := ⟨_, rfl⟩
            obtain ⟨F, hF⟩ : ∃ F, F = (entC (fun q X Y => pAdd X Y q) m n P).2 := ⟨_, rfl⟩
            obtain ⟨X2, hX2⟩ : ∃ X, X = (entC (fun q X Y => pAdd X Y q) Z n q).1 := ⟨_, rfl⟩
            have hcd := codes_add HVM.out HVN.out HZ.out.2.1 HZ.out.2.2 HQ.out
            have H1 := fun (W : World) (k : Kp w W) => madd_any a b m n c d (P : Int) W (HM.out.kp k) (HN.out.kp k) hl hl2 (HTb.out.kp k)
            have H2 := fun (W : World) (k : Kp w W) (hZW : RowM W aZ Z) => madd_any aZ b Z n cZ d (q : Int) W hZW (HN.out.kp k) hZl hl2 (HTb.out.kp k)
            simp only [hcd.1, ← hX1, ← hF, ← hX2] at H1 H2
            have HIn := hcd.2
            simp only [← hX1, ← hF, ← hX2] at HIn
            replace HIn := Lib.hid HIn
            replace H1 := Lib.hid H1
            replace H2 := Lib.hid H2
            clear hcd hX1 hX2 hF
            go_wp2_with fail
            go_fit (H1.out _ hk7)
            rintro e w8 ⟨sa, s, sc, rfl, r1, p1, o1, l1, k1⟩
            have hkA := hk7.trans k1
            have KZA := Lib.hid (K57.out.trans k1)
            have R1 := Lib.hid (And.intro r1 (And.intro p1 o1))
            clear r1 p1 o1 k1 H1
            go_wp2_with fail
            go_fit (H2.out _ hkA (HZ.out.1.kp KZA.out))
            rintro e w9 ⟨ta, t, tc, rfl, r2, p2, o2, l2, k2⟩
            have hkB := hkA.trans k2
            have KZB := Lib.hid (KZA.out.trans k2)
            have R1b := Lib.hid (R1.out.1.kp k2)
            have HI2 := Lib.hid (fun h => HIn.out h s t R1.out.2.1 p2 R1.out.2.2 o2)
            have HIB := Lib.hid (fun (h : F = 0) => minside_any t s ta sa tc sc w9 r2 R1b.out l2 l1 (HI2.out h).2.2 (HI2.out h).2.1)
            clear r2 p2 o2 k2 H2 hkA hk7 R1 R1b KZA l1 l2 HIn
            go_upto_region 10 with fail
            go_cut [89] from 77 to 89 (fun s wx => s = .bool false ∧ Kp w9 wx)
            case first =>
              have hne : (F != F) = false := by simp
              by_cases hF0 : F = 0
              · have h0 : (F == 0) = true := beq_iff_eq.2 hF0
                have HIC := HIB.out hF0
                rw [(HI2.out hF0).1] at HIC
                have HIC := Lib.hid HIC
                clear hF0
                go_wp2_with fail
                go_fit HIC.out
                rintro e wy ⟨rfl, ky⟩
                go_wp2_with fail
                go_meet
                case rel => exact ⟨rfl, ky⟩
              · have h0 : (F == 0) = false := beq_eq_false_iff_ne.2 hF0
                clear hF0
                go_wp2_with fail
                go_meet
                case rel => exact ⟨rfl, .refl _⟩
            case rest =>
            obtain ⟨rfl, kc⟩ := hcut
            have hk9 := hkB.trans kc
            have K59 := Lib.hid (KZB.out.trans kc)
            clear hkB KZB HIB HI2 kc K57
            obtain ⟨W9, hWx⟩ : ∃ x : World, x = wc := ⟨_, rfl⟩
            subst hWx
            clear X1 X2
            obtain ⟨X1, hX1⟩ : ∃ X, X = (mulC m n P).1 := ⟨_, rfl⟩
            obtain ⟨F, hF⟩ : ∃ F, F = (mulC m n P).2 := ⟨_, rfl⟩
            obtain ⟨X2, hX2⟩ : ∃ X, X = (mulC Z n q).1 := ⟨_, rfl⟩
            have hcd := codes_mul HVM.out HVN.out HZ.out.2.1 HZ.out.2.2 HQ.out (atP_okA HZ.out.1 HZ.out.2.1) (atP_okA HN.out HVN.out)
            have H1 := fun (W : World) (k : Kp w W) => mmul_any a b m n c d (P : Int) W (HM.out.kp k) (HN.out.kp k) hl hl2 (HTb.out.kp k)
            have H2 := fun (W : World) (k : Kp w W) (hZW : RowM W aZ Z) => mmul_any aZ b Z n cZ d (q : Int) W hZW (HN.out.kp k) hZl hl2 (HTb.out.kp k)
            simp only [hcd.1, ← hX1, ← hF, ← hX2] at H1 H2
            have HIn := hcd.2
            simp only [← hX1, ← hF, ← hX2] at HIn
            replace HIn := Lib.hid HIn
            replace H1 := Lib.hid H1
            replace H2 := Lib.hid H2
            clear hcd hX1 hX2 hF
            go_wp2_with fail
            go_fit (H1.out _ hk9)
            rintro e w10 ⟨s2a, s2, s2c, rfl, r1, p1, o1, l1, k1⟩
            have hkA := hk9.trans k1
            have KZA := Lib.hid (K59.out.trans k1)
            have R1 := Lib.hid (And.intro r1 (And.intro p1 o1))
            clear r1 p1 o1 k1 H1
            go_wp2_with fail
            go_fit (H2.out _ hkA (HZ.out.1.kp KZA.out))
            rintro e w11 ⟨t2a, t2, t2c, rfl, r2, p2, o2, l2, k2⟩
            have hkB := hkA.trans k2
            have KZB := Lib.hid (KZA.out.trans k2)
            have R1b := Lib.hid (R1.out.1.kp k2)
            have HI2 := Lib.hid (fun h => HIn.out h s2 t2 R1.out.2.1 p2 R1.out.2.2 o2)
            have HIB := Lib.hid (fun (h : F = 0) => minside_any t2 s2 t2a s2a t2c s2c w11 r2 R1b.out l2 l1 (HI2.out h).2.2 (HI2.out h).2.1)
            clear r2 p2 o2 k2 H2 hkA hk9 R1 R1b KZA l1 l2 HIn
            go_upto_region 14 with fail
            go_cut [116] from 104 to 116 (fun s wx => s = .bool false ∧ Kp w11 wx)
            case first =>
              have hne : (F != F) = false := by simp
              by_cases hF0 : F = 0
              · have h0 : (F == 0) = true := beq_iff_eq.2 hF0
                have HIC := HIB.out hF0
                rw [(HI2.out hF0).1] at HIC
                have HIC := Lib.hid HIC
                clear hF0
                go_wp2_with fail
                go_fit HIC.out
                rintro e wy ⟨rfl, ky⟩
                go_wp2_with fail
                go_meet
                case rel => exact ⟨rfl, ky⟩
              · have h0 : (F == 0) = false := beq_eq_false_iff_ne.2 hF0
                clear hF0
                go_wp2_with fail
                go_meet
                case rel => exact ⟨rfl, .refl _⟩
            case rest =>
            obtain ⟨rfl, kc⟩ := hcut
            have hk11 := hkB.trans kc
            have K511 := Lib.hid (KZB.out.trans kc)
            clear hkB KZB HIB HI2 kc K59
            obtain ⟨W11, hWx⟩ : ∃ x : World, x = wc := ⟨_, rfl⟩
            subst hWx
            clear X1 X2
            have HNo := Lib.hid (fun t ht => nrmO_inc (t := t) HQ.out.1 HQ.out.2.2.1 HQ.out.2.2.2 HVM.out HZ.out.2.1 HZ.out.2.2 ht)
            have N1 := mnorm_any a m c (P : Int) W11 (HM.out.kp hk11) hl (HTb.out.kp hk11)
            have N2 := fun (W : World) (k : Kp W11 W) => mnorm_any aZ Z cZ (q : Int) W ((HZ.out.1.kp K511.out).kp k) hZl ((HTb.out.kp hk11).kp k)
            cases hO : nrmO m (P : Int) with
            | none =>
              rw [hO] at N1
              replace N1 := Lib.hid N1
              replace N2 := Lib.hid N2
              clear HNo hO
              go_wp2_with fail
              go_fit N1.out
              rintro e w12 ⟨y1, rfl, r1, d1, v1, k1⟩
              have ka := k1.alloc (.cells #[.bool y1.neg, .slice y1.a y1.xs.length y1.c, .int .i64 y1.e] 28)
              have hkA := hk11.trans ka
              clear r1 d1 v1 k1
              go_upto_region 17 with fail
              generalize hW12 : w12.alloc _ = W12 at *
              clear hW12
              go_wp2_with fail
              go_fit (N2.out _ ka)
              rintro e w13 ⟨y2, rfl, r2, d2, v2, k2⟩
              have hkB := hkA.trans (k2.alloc (.cells #[.bool y2.neg, .slice y2.a y2.xs.length y2.c, .int .i64 y2.e] 28))
              clear r2 d2 v2 k2 N1 N2
              go_wp2_with fail
              go_ret
              exact ⟨rfl, hkB⟩
            | some u =>
              obtain ⟨u', hu', hle⟩ := HNo.out u hO
              rw [hO] at N1
              simp only [hu'] at N2
              replace N1 := Lib.hid N1
              replace N2 := Lib.hid N2
              have HLE := Lib.hid hle
              clear HNo hO hu' hle
              go_wp2_with fail
              go_fit N1.out
              rintro e w12 ⟨y1, rfl, r1, d1, v1, k1⟩
              have ka := k1.alloc (.cells #[.bool y1.neg, .slice y1.a y1.xs.length y1.c, .int .i64 y1.e] 28)
              have hkA := hk11.trans ka
              have O1 := Lib.hid (show y1.ok (w12.alloc (.cells #[.bool y1.neg, .slice y1.a y1.xs.length y1.c, .int .i64 y1.e] 28)) from ⟨r1.kp ((Kp.refl _).alloc _), v1⟩)
              have D1 := Lib.hid (show y1.dy = u from d1)
              clear r1 d1 v1 k1
              go_upto_region 17 with fail
              generalize hW12 : w12.alloc _ = W12 at *
              have hY1 : W12.cell? ⟨w12.heap.size, 0, none⟩ = some (.bool y1.neg) ∧ W12.cell? ⟨w12.heap.size, 1, none⟩ = some (.slice y1.a y1.xs.length y1.c) ∧ W12.cell? ⟨w12.heap.size, 2, none⟩ = some (.int .i64 y1.e) := by rw [← hW12]; simp
              clear hW12
              go_wp2_with fail
              go_fit (N2.out _ ka)
              rintro e w13 ⟨y2, rfl, r2, d2, v2, k2⟩
              have kb := k2.alloc (.cells #[.bool y2.neg, .slice y2.a y2.xs.length y2.c, .int .i64 y2.e] 28)
              have hkB := hkA.trans kb
              have O2 := Lib.hid (show y2.ok (w13.alloc (.cells #[.bool y2.neg, .slice y2.a y2.xs.length y2.c, .int .i64 y2.e] 28)) from ⟨r2.kp ((Kp.refl _).alloc _), v2⟩)
              have O1b := Lib.hid (O1.out.kp kb)
              have hY1b := keep3 kb hY1
              have D2 := Lib.hid (show y2.dy = u' from d2)
              clear r2 d2 v2 k2 N1 N2 hY1
              go_upto_region 18 with fail
              generalize hW13 : w13.alloc _ = W13 at *
              have hY2 : W13.cell? ⟨w13.heap.size, 0, none⟩ = some (.bool y2.neg) ∧ W13.cell? ⟨w13.heap.size, 1, none⟩ = some (.slice y2.a y2.xs.length y2.c) ∧ W13.cell? ⟨w13.heap.size, 2, none⟩ = some (.int .i64 y2.e) := by rw [← hW13]; simp
              clear hW13
              obtain ⟨s0, s1, s2⟩ := hY1b
              obtain ⟨t0, t1, t2⟩ := hY2
              have hd := decide_eq_true (show cmpZ y2.iv y1.iv ≤ 0 by
                have h1 : y2.iv ≤ y1.iv := by show y2.dy.iv ≤ y1.dy.iv; rw [D1.out, D2.out]; exact HLE.out
                have := @cmpZ_gt y2.iv y1.iv
                omega)
              go_wp2_with fail
              go_fit (Cmp_raw y2 y1 _ O2.out.1 O1b.out.1 O2.out.2 O1b.out.2)
              rintro e w14 ⟨rfl, k14⟩
              have hkC := hkB.trans k14
              go_wp2_with fail
              go_ret
              exact ⟨rfl, hkC⟩
end Go.Proofs.YtdidocdpjiiedaaGreatDoor
