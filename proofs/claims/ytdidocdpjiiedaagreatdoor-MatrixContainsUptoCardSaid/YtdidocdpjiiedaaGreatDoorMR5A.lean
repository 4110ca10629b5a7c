/-
  Walks: the fifth reference's zero, Valid, known, Prec, Whole.
  Walks: the seventh reference's Valid.
-/
import Derived.Test.YtdidocdpjiiedaaGreatDoorMR2I
import Derived.Test.YtdidocdpjiiedaaGreatDoorMSign
import Derived.Test.YtdidocdpjiiedaaGreatDoorMNum7
import Derived.Deep.LoopGhost
import Derived.Test.YtdidocdpjiiedaaGreatDoorMRectM
section
namespace Go.Proofs.YtdidocdpjiiedaaGreatDoor
open Go.RowKit

theorem r2Valid_raw (x : RD) (w : World) (h : x.rd w) :
    Calls Tryz.prog 120 #[.agg #[.bool x.neg, .slice x.a x.xs.length x.c, .int .i64 x.e]] w fun e w' => e = .returned (.bool x.vl) ∧ Kp w w' :=
  r2Valid_any x.neg x.a x.xs x.c x.e w h.1 h.2.2.2.1 h.2.2.2.2
theorem r2cmp_raw (x y : RD) (w : World) (hx : x.rd w) (hy : y.rd w) (vx : x.vl = true) (vy : y.vl = true) :
    Calls Tryz.prog 61 #[.agg #[.bool x.neg, .slice x.a x.xs.length x.c, .int .i64 x.e], .agg #[.bool y.neg, .slice y.a y.xs.length y.c, .int .i64 y.e]] w fun e w' => e = .returned (.int .i64 (cmpZ x.iv y.iv)) ∧ Kp w w' := r2cmp_rok x y w ⟨hx, vx⟩ ⟨hy, vy⟩
set_option maxHeartbeats 2000000 in
theorem r5zero_raw (x : RD) (w : World) :
    Calls Tryz.prog 119 #[.agg #[.bool x.neg, .slice x.a x.xs.length x.c, .int .i64 x.e]] w fun e w' => e = .returned (.bool x.zr) ∧ Kp w w' := by
  have H := Lib.hid (show x.zr = (!x.neg && (decide (x.xs.length = 0) && decide (x.e = 0))) from rfl)
  go_enter Tryz.func119, Tryz.ntmps119
  cases hn : x.neg with
  | true =>
    rw [hn] at H
    clear hn
    go_wp2_with fail
    go_ret
    exact ⟨ret_bool H.out.symm, ((Kp.refl w).alloc _)⟩
  | false =>
    rw [hn] at H
    clear hn
    by_cases h0 : x.xs.length = 0
    · have hz : ((x.xs.length : Int) == 0) = true := beq_iff_eq.2 (by omega)
      rw [decide_eq_true h0] at H
      clear h0
      go_wp2_with fail
      go_ret
      exact ⟨ret_bool (by rw [H.out]; exact Bool.eq_iff_iff.2 (by simp)), ((Kp.refl w).alloc _)⟩
    · have hz : ((x.xs.length : Int) == 0) = false := beq_eq_false_iff_ne.2 (by omega)
      rw [decide_eq_false h0] at H
      clear h0
      go_wp2_with fail
      go_ret
      exact ⟨ret_bool (by rw [H.out]; simp), ((Kp.refl w).alloc _)⟩
set_option maxHeartbeats 4000000 in
theorem r5Valid_raw (x : RI) (w : World) (h : x.rd w) :
    Calls Tryz.prog 75 #[.agg #[.bool x.lo.neg, .slice x.lo.a x.lo.xs.length x.lo.c, .int .i64 x.lo.e, .bool x.hi.neg, .slice x.hi.a x.hi.xs.length x.hi.c, .int .i64 x.hi.e, .bool x.all]] w fun e w' => e = .returned (.bool x.vl) ∧ Kp w w' := by
  have H := Lib.hid (show x.vl = if x.all then x.lo.zr && x.hi.zr else x.lo.vl && (x.hi.vl && decide (cmpZ x.lo.iv x.hi.iv ≤ 0)) from rfl)
  go_enter Tryz.func75, Tryz.ntmps75
  cases ha : x.all with
  | true =>
    rw [ha] at H
    clear ha
    go_wp2_with fail
    refine (r5zero_raw x.lo _).mono ?_
    rintro e w1 ⟨rfl, hk1⟩
    have hS := keep7 hk1 (show (w.alloc (.cells #[.bool x.lo.neg, .slice x.lo.a x.lo.xs.length x.lo.c, .int .i64 x.lo.e, .bool x.hi.neg, .slice x.hi.a x.hi.xs.length x.hi.c, .int .i64 x.hi.e, .bool true] 43)).cell? ⟨w.heap.size, 0, none⟩ = some (.bool x.lo.neg) ∧ (w.alloc (.cells #[.bool x.lo.neg, .slice x.lo.a x.lo.xs.length x.lo.c, .int .i64 x.lo.e, .bool x.hi.neg, .slice x.hi.a x.hi.xs.length x.hi.c, .int .i64 x.hi.e, .bool true] 43)).cell? ⟨w.heap.size, 1, none⟩ = some (.slice x.lo.a x.lo.xs.length x.lo.c) ∧ (w.alloc (.cells #[.bool x.lo.neg, .slice x.lo.a x.lo.xs.length x.lo.c, .int .i64 x.lo.e, .bool x.hi.neg, .slice x.hi.a x.hi.xs.length x.hi.c, .int .i64 x.hi.e, .bool true] 43)).cell? ⟨w.heap.size, 2, none⟩ = some (.int .i64 x.lo.e) ∧ (w.alloc (.cells #[.bool x.lo.neg, .slice x.lo.a x.lo.xs.length x.lo.c, .int .i64 x.lo.e, .bool x.hi.neg, .slice x.hi.a x.hi.xs.length x.hi.c, .int .i64 x.hi.e, .bool true] 43)).cell? ⟨w.heap.size, 3, none⟩ = some (.bool x.hi.neg) ∧ (w.alloc (.cells #[.bool x.lo.neg, .slice x.lo.a x.lo.xs.length x.lo.c, .int .i64 x.lo.e, .bool x.hi.neg, .slice x.hi.a x.hi.xs.length x.hi.c, .int .i64 x.hi.e, .bool true] 43)).cell? ⟨w.heap.size, 4, none⟩ = some (.slice x.hi.a x.hi.xs.length x.hi.c) ∧ (w.alloc (.cells #[.bool x.lo.neg, .slice x.lo.a x.lo.xs.length x.lo.c, .int .i64 x.lo.e, .bool x.hi.neg, .slice x.hi.a x.hi.xs.length x.hi.c, .int .i64 x.hi.e, .bool true] 43)).cell? ⟨w.heap.size, 5, none⟩ = some (.int .i64 x.hi.e) ∧ (w.alloc (.cells #[.bool x.lo.neg, .slice x.lo.a x.lo.xs.length x.lo.c, .int .i64 x.lo.e, .bool x.hi.neg, .slice x.hi.a x.hi.xs.length x.hi.c, .int .i64 x.hi.e, .bool true] 43)).cell? ⟨w.heap.size, 6, none⟩ = some (.bool true) by simp)
    have hk2 := ((Kp.refl w).alloc _).trans hk1
    clear hk1
    cases hz : x.lo.zr with
    | false =>
      rw [hz] at H
      clear hz
      go_wp2_with fail
      go_ret
      exact ⟨ret_bool H.out.symm, hk2⟩
    | true =>
      rw [hz] at H
      clear hz
      go_wp2_with fail
      refine (r5zero_raw x.hi _).mono ?_
      rintro e w3 ⟨rfl, hk3⟩
      go_wp2_with fail
      go_ret
      exact ⟨ret_bool (by rw [H.out]; simp), hk2.trans hk3⟩
  | false =>
    rw [ha] at H
    clear ha
    go_wp2_with fail
    have hk0 := ((Kp.refl w).alloc (.cells #[.bool x.lo.neg, .slice x.lo.a x.lo.xs.length x.lo.c, .int .i64 x.lo.e, .bool x.hi.neg, .slice x.hi.a x.hi.xs.length x.hi.c, .int .i64 x.hi.e, .bool false] 43))
    refine (r2Valid_raw x.lo _ (h.1.kp hk0)).mono ?_
    rintro e w1 ⟨rfl, hk1⟩
    have hS := keep7 hk1 (show (w.alloc (.cells #[.bool x.lo.neg, .slice x.lo.a x.lo.xs.length x.lo.c, .int .i64 x.lo.e, .bool x.hi.neg, .slice x.hi.a x.hi.xs.length x.hi.c, .int .i64 x.hi.e, .bool false] 43)).cell? ⟨w.heap.size, 0, none⟩ = some (.bool x.lo.neg) ∧ (w.alloc (.cells #[.bool x.lo.neg, .slice x.lo.a x.lo.xs.length x.lo.c, .int .i64 x.lo.e, .bool x.hi.neg, .slice x.hi.a x.hi.xs.length x.hi.c, .int .i64 x.hi.e, .bool false] 43)).cell? ⟨w.heap.size, 1, none⟩ = some (.slice x.lo.a x.lo.xs.length x.lo.c) ∧ (w.alloc (.cells #[.bool x.lo.neg, .slice x.lo.a x.lo.xs.length x.lo.c, .int .i64 x.lo.e, .bool x.hi.neg, .slice x.hi.a x.hi.xs.length x.hi.c, .int .i64 x.hi.e, .bool false] 43)).cell? ⟨w.heap.size, 2, none⟩ = some (.int .i64 x.lo.e) ∧ (w.alloc (.cells #[.bool x.lo.neg, .slice x.lo.a x.lo.xs.length x.lo.c, .int .i64 x.lo.e, .bool x.hi.neg, .slice x.hi.a x.hi.xs.length x.hi.c, .int .i64 x.hi.e, .bool false] 43)).cell? ⟨w.heap.size, 3, none⟩ = some (.bool x.hi.neg) ∧ (w.alloc (.cells #[.bool x.lo.neg, .slice x.lo.a x.lo.xs.length x.lo.c, .int .i64 x.lo.e, .bool x.hi.neg, .slice x.hi.a x.hi.xs.length x.hi.c, .int .i64 x.hi.e, .bool false] 43)).cell? ⟨w.heap.size, 4, none⟩ = some (.slice x.hi.a x.hi.xs.length x.hi.c) ∧ (w.alloc (.cells #[.bool x.lo.neg, .slice x.lo.a x.lo.xs.length x.lo.c, .int .i64 x.lo.e, .bool x.hi.neg, .slice x.hi.a x.hi.xs.length x.hi.c, .int .i64 x.hi.e, .bool false] 43)).cell? ⟨w.heap.size, 5, none⟩ = some (.int .i64 x.hi.e) ∧ (w.alloc (.cells #[.bool x.lo.neg, .slice x.lo.a x.lo.xs.length x.lo.c, .int .i64 x.lo.e, .bool x.hi.neg, .slice x.hi.a x.hi.xs.length x.hi.c, .int .i64 x.hi.e, .bool false] 43)).cell? ⟨w.heap.size, 6, none⟩ = some (.bool false) by simp)
    have hk2 := hk0.trans hk1
    clear hk0 hk1
    cases hz : x.lo.vl with
    | false =>
      rw [hz] at H
      clear hz
      go_wp2_with fail
      go_ret
      exact ⟨ret_bool H.out.symm, hk2⟩
    | true =>
      rw [hz] at H
      have Hz := Lib.hid hz
      clear hz
      go_wp2_with fail
      refine (r2Valid_raw x.hi _ (h.2.kp hk2)).mono ?_
      rintro e w3 ⟨rfl, hk3⟩
      have hS2 := keep7 hk3 hS
      have hk4 := hk2.trans hk3
      clear hk2 hk3 hS
      cases hy : x.hi.vl with
      | false =>
        rw [hy] at H
        clear hy
        go_wp2_with fail
        go_ret
        exact ⟨ret_bool H.out.symm, hk4⟩
      | true =>
        rw [hy] at H
        have Hy := Lib.hid hy
        clear hy
        go_wp2_with fail
        refine (r2cmp_raw x.lo x.hi _ (h.1.kp hk4) (h.2.kp hk4) Hz.out Hy.out).mono ?_
        rintro e w5 ⟨rfl, hk5⟩
        go_wp2_with fail
        go_ret
        exact ⟨ret_bool H.out.symm, hk4.trans hk5⟩
end Go.Proofs.YtdidocdpjiiedaaGreatDoor
end

section
namespace Go.Proofs.YtdidocdpjiiedaaGreatDoor
open Go.RowKit

theorem vlM_bad {m : List (List RI)} {i : Nat} {r : List RI} (h : m[i]? = some r) (hb : badR m r = true) : vlM m = false := by
  rw [vlM_any]
  have : m.any (badR m) = true := List.any_eq_true.2 ⟨r, List.mem_of_getElem? h, hb⟩
  rw [this]; simp
theorem vlM_good {m : List (List RI)} (h1 : 1 ≤ m.length ∧ m.length ≤ 8) (h2 : 1 ≤ colsM m ∧ colsM m ≤ 8) (h : ∀ (i : Nat) r, m[i]? = some r → badR m r = false) : vlM m = true := by
  rw [vlM_any]
  have : m.any (badR m) = false := by
    rw [List.any_eq_false]
    intro r hr
    obtain ⟨i, hi⟩ := List.getElem?_of_mem hr
    rw [h i r hi]; decide
  rw [this, decide_eq_true h1, decide_eq_true h2]; rfl
theorem colsM_eq {m : List (List RI)} {r0 : List RI} (h : m[0]? = some r0) : colsM m = r0.length := by
  unfold colsM
  cases m with
  | nil => simp at h
  | cons x t => simp at h; subst h; rfl
set_option maxHeartbeats 4000000 in
theorem r7valid_any (a : Option Addr) (m : List (List RI)) (c : Nat) (w : World) (hm : RowM w a m) (hl : m.length ≤ 1100000) :
    Calls Tryz.prog 33 #[.slice a m.length c] w fun e w' => e = .returned (.bool (vlM m)) ∧ Kp w w' := by
  have HV := Lib.hid (vlM_any m)
  rcases Nat.eq_zero_or_pos m.length with hz | hpos
  · have H := Lib.hid (show vlM m = false by rw [HV.out, hz]; rfl)
    rw [hz]
    clear hz HV
    go_enter Tryz.func33, Tryz.ntmps33
    go_wp2_with fail
    go_ret
    exact ⟨ret_bool H.out.symm, .refl _⟩
  · have hn1 : ¬ (m.length : Int) < 1 := by omega
    by_cases h8 : 8 < m.length
    · have H := Lib.hid (show vlM m = false by rw [HV.out, decide_eq_false (by omega)]; rfl)
      have hn2 : (8 : Int) < (m.length : Int) := by omega
      clear h8 HV hpos
      go_enter Tryz.func33, Tryz.ntmps33
      go_wp2_with fail
      go_ret
      exact ⟨ret_bool H.out.symm, .refl _⟩
    · have hn2 : ¬ (8 : Int) < (m.length : Int) := by omega
      have hn3 : (0 : Int) < (m.length : Int) := by omega
      obtain ⟨r0, h0⟩ : ∃ r0, m[0]? = some r0 := ⟨_, List.getElem?_eq_getElem hpos⟩
      have hc0 := colsM_eq h0
      obtain ⟨b, o, ra0, rc0, rfl, hcell, _, hl0⟩ := hm 0 r0 h0
      rw [Nat.add_zero] at hcell
      have HV1 := Lib.hid (show vlM m = (decide (1 ≤ r0.length ∧ r0.length ≤ 8) && !m.any (badR m)) by rw [HV.out, hc0, decide_eq_true (by omega)]; rfl)
      by_cases hz : r0.length = 0
      · have H := Lib.hid (show vlM m = false by rw [HV1.out, decide_eq_false (by omega)]; rfl)
        have g1 : (r0.length : Int) < 1 := by omega
        clear HV HV1 h0 hc0 hm hpos h8 hz
        go_enter Tryz.func33, Tryz.ntmps33
        go_wp2_with fail
        go_ret
        exact ⟨ret_bool H.out.symm, .refl _⟩
      · have g1 : ¬ (r0.length : Int) < 1 := by omega
        by_cases h9 : 8 < r0.length
        · have H := Lib.hid (show vlM m = false by rw [HV1.out, decide_eq_false (by omega)]; rfl)
          have g2 : (8 : Int) < (r0.length : Int) := by omega
          clear HV HV1 h0 hc0 hm hpos h8 hz h9
          go_enter Tryz.func33, Tryz.ntmps33
          go_wp2_with fail
          go_ret
          exact ⟨ret_bool H.out.symm, .refl _⟩
        · have g2 : ¬ (8 : Int) < (r0.length : Int) := by omega
          have HB := Lib.hid (And.intro (show 1 ≤ m.length ∧ m.length ≤ 8 by omega) (show 1 ≤ colsM m ∧ colsM m ≤ 8 by omega))
          have HC0 := Lib.hid hc0
          have HM := Lib.hid hm
          clear HV HV1 h0 hc0 h8 hz h9 hm
          go_enter Tryz.func33, Tryz.ntmps33
          go_wp2_with fail
          clear g1 g2 hn1 hn2
          go_loopg [3] m.length (fun q v wr => ∃ i : Nat, i + q = m.length ∧ v = .int .i64 i ∧ (∀ (j : Nat) r, m[j]? = some r → j < i → badR m r = false) ∧ Kp w wr)
          case atStart => exact ⟨0, by omega, rfl, fun j r _ h => by omega, .refl _⟩
          case round =>
            obtain ⟨i, hiq, rfl, hbad, hk⟩ := hrel
            have Hbad := Lib.hid hbad
            have hcellr := hk.cell hcell
            clear hbad
            by_cases hlt : i < m.length
            · obtain ⟨r, hr⟩ : ∃ r, m[i]? = some r := ⟨_, List.getElem?_eq_getElem hlt⟩
              obtain ⟨b2, o2, ra, rc, e2, hrc, hrow, hrl⟩ := HM.out i r hr
              cases e2
              have hrc1 := hk.cell hrc
              have Hr := Lib.hid hr
              have hi1 : (0 : Int) ≤ (i : Int) := by omega
              have hi2 : (i : Int) < (m.length : Int) := by omega
              clear hr
              by_cases hlen : r.length = r0.length
              · have hne : ((r.length : Int) != (r0.length : Int)) = false := by rw [hlen]; simp
                have Hlen := Lib.hid hlen
                clear hlen
                have kd := (Kp.refl wr).drew
                have hSd : wr.drew.cell? ⟨b, o + i, none⟩ = some (.slice ra r.length rc) ∧ wr.drew.cell? ⟨b, o, none⟩ = some (.slice ra0 r0.length rc0) := ⟨kd.cell hrc1, kd.cell hcellr⟩
                replace hk := hk.trans kd
                clear kd
                go_upto_region 6 with fail
                go_region_held3 (fun w' => w'.cell? ⟨b, o + i, none⟩ = some (.slice ra r.length rc) ∧ w'.cell? ⟨b, o, none⟩ = some (.slice ra0 r0.length rc0)) (with_reducible assumption) (fail)
                go_wp2_with fail
                clear hrc1 hcellr hSd
                have HW := Lib.hid hk
                have HRow := Lib.hid hrow
                clear hk hrow
                obtain ⟨W1, hW1⟩ : ∃ x : World, x = wr := ⟨_, rfl⟩
                subst hW1
                generalize W1.drew = W2 at *
                obtain ⟨gk1, hgk1⟩ : ∃ x : Nat, x = gk := ⟨_, rfl⟩
                subst hgk1
                go_loopg [4] r.length (fun q v wr => ∃ k : Nat, k + q = r.length ∧ v = .int .i64 k ∧ (∀ (j : Nat) x, r[j]? = some x → j < k → x.vl = true) ∧ Kp w wr)
                case atStart => exact ⟨0, by omega, rfl, fun j x _ h => by omega, HW.out⟩
                case round =>
                  obtain ⟨k, hkq, rfl, hgood, hk⟩ := hrel
                  have Hgood := Lib.hid hgood
                  have hrc1 := hk.cell hrc
                  clear hgood
                  by_cases hlt2 : k < r.length
                  · obtain ⟨x, hx⟩ : ∃ x, r[k]? = some x := ⟨_, List.getElem?_eq_getElem hlt2⟩
                    obtain ⟨b3, o3, e3, hrd, s0, s1, s2, s3, s4, s5, s6⟩ := (HRow.out.kp hk) k x hx
                    subst e3
                    have Hx := Lib.hid hx
                    have HRD := Lib.hid hrd
                    have hj1 : (0 : Int) ≤ (k : Int) := by omega
                    have hj2 : (k : Int) < (r.length : Int) := by omega
                    clear hx hrd
                    go_wp2_with fail
                    go_fit (r5Valid_raw x _ HRD.out)
                    rintro e w2 ⟨rfl, k2⟩
                    cases hv : x.vl with
                    | true =>
                      have Hv := Lib.hid hv
                      have hkk := hk.trans k2
                      clear hv s0 s1 s2 s3 s4 s5 s6 hrc1
                      go_wp2_with fail
                      go_roundg (gk - 1)
                      case measure => omega
                      case rel =>
                        refine ⟨k + 1, by omega, by go_num, fun j y hy hj => ?_, hkk⟩
                        by_cases h : j = k
                        · subst h; rw [Hx.out] at hy; cases hy; exact Hv.out
                        · exact Hgood.out j y hy (by omega)
                    | false =>
                      have HE := Lib.hid (vlM_bad Hr.out (show badR m r = true by
                        unfold badR
                        rw [Bool.or_eq_true]
                        exact .inr (List.any_eq_true.2 ⟨x, List.mem_of_getElem? Hx.out, by rw [hv]; rfl⟩)))
                      have hkk := hk.trans k2
                      clear hv s0 s1 s2 s3 s4 s5 s6 hrc1
                      go_wp2_with fail
                      go_ret
                      exact ⟨ret_bool HE.out.symm, hkk⟩
                  · have HG := Lib.hid (show badR m r = false by
                      unfold badR
                      rw [Bool.or_eq_false_iff]
                      refine ⟨decide_eq_false (by have := Hlen.out; have := HC0.out; omega), List.any_eq_false.2 fun x hx => ?_⟩
                      obtain ⟨j, hj⟩ := List.getElem?_of_mem hx
                      rw [Hgood.out j x hj (by have := (List.getElem?_eq_some_iff.1 hj).1; omega)]; decide)
                    go_wp2_with fail
                    go_roundg (gk1 - 1)
                    case measure => omega
                    case rel =>
                      refine ⟨i + 1, by omega, by go_num, fun j y hy hj => ?_, hk⟩
                      by_cases h : j = i
                      · subst h; rw [Hr.out] at hy; cases hy; exact HG.out
                      · exact Hbad.out j y hy (by omega)
              · have hne : ((r.length : Int) != (r0.length : Int)) = true := by simpa using (by omega : ¬ (r.length : Int) = (r0.length : Int))
                have HE := Lib.hid (vlM_bad Hr.out (show badR m r = true by
                  unfold badR
                  rw [Bool.or_eq_true]
                  exact .inl (decide_eq_true (by have := HC0.out; omega))))
                clear hlen
                have kd := (Kp.refl wr).drew
                have hSd : wr.drew.cell? ⟨b, o + i, none⟩ = some (.slice ra r.length rc) ∧ wr.drew.cell? ⟨b, o, none⟩ = some (.slice ra0 r0.length rc0) := ⟨kd.cell hrc1, kd.cell hcellr⟩
                replace hk := hk.trans kd
                clear kd
                go_upto_region 6 with fail
                go_region_held3 (fun w' => w'.cell? ⟨b, o + i, none⟩ = some (.slice ra r.length rc) ∧ w'.cell? ⟨b, o, none⟩ = some (.slice ra0 r0.length rc0)) (with_reducible assumption) (fail)
                go_wp2_with fail
                go_ret
                exact ⟨ret_bool HE.out.symm, hk⟩
            · have HE := Lib.hid (vlM_good HB.out.1 HB.out.2 (fun j y hy => Hbad.out j y hy (by have := (List.getElem?_eq_some_iff.1 hy).1; omega)))
              go_wp2_with fail
              go_ret
              exact ⟨ret_bool HE.out.symm, hk⟩
end Go.Proofs.YtdidocdpjiiedaaGreatDoor
end
