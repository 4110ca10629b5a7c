/-
  Walks: the seventh reference's Valid.
-/
import Derived.Deep.LoopGhost
import Derived.Test.YtdidocdpjiiedaaGreatDoorMRectM
import Derived.Test.YtdidocdpjiiedaaGreatDoorMR2I
namespace Go.Proofs.YtdidocdpjiiedaaGreatDoor
open Go.RowKit

theorem vlM_bad {m : List (List RI)} {i : Nat} {r : List RI} (h : m[i]? = some r) (hb : badR m r = true) : vlM m = false := by
  rw [vlM_any]
  have : m.any (badR m) = true := List.any_eq_true.2 ⟨r, List.mem_of_getElem? h, hb⟩
  rw [this]; simp
theorem vlM_good {m : List (List RI)} (h1 : 1 ≤ m.length ∧ m.length ≤ 8) (h2 : 1 ≤ colsM m ∧ colsM m ≤ 8) (h : ∀ (i : Nat) r, m[i]? = some r → badR m r = false) : vlM m = true := by
  rw [vlM_any]
  have : m.any (badR m) = false := by
    rw [List.any_eq_false]
    intro r hr
    obtain ⟨i, hi⟩ := List.getElem?_of_mem hr
    rw [h i r hi]; decide
  rw [this, decide_eq_true h1, decide_eq_true h2]; rfl
theorem colsM_eq {m : List (List RI)} {r0 : List RI} (h : m[0]? = some r0) : colsM m = r0.length := by
  unfold colsM
  cases m with
  | nil => simp at h
  | cons x t => simp at h; subst h; rfl
set_option maxHeartbeats 4000000 in
theorem r7valid_any (a : Option Addr) (m : List (List RI)) (c : Nat) (w : World) (hm : RowM w a m) (hl : m.length ≤ 1100000) :
    Calls Tryz.prog 33 #[.slice a m.length c] w fun e w' => e = .returned (.bool (vlM m)) ∧ Kp w w' := by
  have HV := Lib.hid (vlM_any m)
  rcases Nat.eq_zero_or_pos m.length with hz | hpos
  · have H := Lib.hid (show vlM m = false by rw [HV.out, hz]; rfl)
    rw [hz]
    clear hz HV
    go_enter Tryz.func33, Tryz.ntmps33
    go_wp2_with fail
    go_ret
    exact ⟨ret_bool H.out.symm, .refl _⟩
  · have hn1 : ¬ (m.length : Int) < 1 := by omega
    by_cases h8 : 8 < m.length
    · have H := Lib.hid (show vlM m = false by rw [HV.out, decide_eq_false (by omega)]; rfl)
      have hn2 : (8 : Int) < (m.length : Int) := by omega
      clear h8 HV hpos
      go_enter Tryz.func33, Tryz.ntmps33
      go_wp2_with fail
      go_ret
      exact ⟨ret_bool H.out.symm, .refl _⟩
    · have hn2 : ¬ (8 : Int) < (m.length : Int) := by omega
      have hn3 : (0 : Int) < (m.length : Int) := by omega
      obtain ⟨r0, h0⟩ : ∃ r0, m[0]? = some r0 := ⟨_, List.getElem?_eq_getElem hpos⟩
      have hc0 := colsM_eq h0
      obtain ⟨b, o, ra0, rc0, rfl, hcell, _, hl0⟩ := hm 0 r0 h0
      rw [Nat.add_zero] at hcell
      have HV1 := Lib.hid (show vlM m = (decide (1 ≤ r0.length ∧ r0.length ≤ 8) && !m.any (badR m)) by rw [HV.out, hc0, decide_eq_true (by omega)]; rfl)
      by_cases hz : r0.length = 0
      · have H := Lib.hid (show vlM m = false by rw [HV1.out, decide_eq_false (by omega)]; rfl)
        have g1 : (r0.length : Int) < 1 := by omega
        clear HV HV1 h0 hc0 hm hpos h8 hz
        go_enter Tryz.func33, Tryz.ntmps33
        go_wp2_with fail
        go_ret
        exact ⟨ret_bool H.out.symm, .refl _⟩
      · have g1 : ¬ (r0.length : Int) < 1 := by omega
        by_cases h9 : 8 < r0.length
        · have H := Lib.hid (show vlM m = false by rw [HV1.out, decide_eq_false (by omega)]; rfl)
          have g2 : (8 : Int) < (r0.length : Int) := by omega
          clear HV HV1 h0 hc0 hm hpos h8 hz h9
          go_enter Tryz.func33, Tryz.ntmps33
          go_wp2_with fail
          go_ret
          exact ⟨ret_bool H.out.symm, .refl _⟩
        · have g2 : ¬ (8 : Int) < (r0.length : Int) := by omega
          have HB := Lib.hid (And.intro (show 1 ≤ m.length ∧ m.length ≤ 8 by omega) (show 1 ≤ colsM m ∧ colsM m ≤ 8 by omega))
          have HC0 := Lib.hid hc0
          have HM := Lib.hid hm
          clear HV HV1 h0 hc0 h8 hz h9 hm
          go_enter Tryz.func33, Tryz.ntmps33
          go_wp2_with fail
          clear g1 g2 hn1 hn2
          go_loopg [3] m.length (fun q v wr => ∃ i : Nat, i + q = m.length ∧ v = .int .i64 i ∧ (∀ (j : Nat) r, m[j]? = some r → j < i → badR m r = false) ∧ Kp w wr)
          case atStart => exact ⟨0, by omega, rfl, fun j r _ h => by omega, .refl _⟩
          case round =>
            obtain ⟨i, hiq, rfl, hbad, hk⟩ := hrel
            have Hbad := Lib.hid hbad
            have hcellr := hk.cell hcell
            clear hbad
            by_cases hlt : i < m.length
            · obtain ⟨r, hr⟩ : ∃ r, m[i]? = some r := ⟨_, List.getElem?_eq_getElem hlt⟩
              obtain ⟨b2, o2, ra, rc, e2, hrc, hrow, hrl⟩ := HM.out i r hr
              cases e2
              have hrc1 := hk.cell hrc
              have Hr := Lib.hid hr
              have hi1 : (0 : Int) ≤ (i : Int) := by omega
              have hi2 : (i : Int) < (m.length : Int) := by omega
              clear hr
              by_cases hlen : r.length = r0.length
              · have hne : ((r.length : Int) != (r0.length : Int)) = false := by rw [hlen]; simp
                have Hlen := Lib.hid hlen
                clear hlen
                have kd := (Kp.refl wr).drew
                have hSd : wr.drew.cell? ⟨b, o + i, none⟩ = some (.slice ra r.length rc) ∧ wr.drew.cell? ⟨b, o, none⟩ = some (.slice ra0 r0.length rc0) := ⟨kd.cell hrc1, kd.cell hcellr⟩
                replace hk := hk.trans kd
                clear kd
                go_upto_region 6 with fail
                go_region_held3 (fun w' => w'.cell? ⟨b, o + i, none⟩ = some (.slice ra r.length rc) ∧ w'.cell? ⟨b, o, none⟩ = some (.slice ra0 r0.length rc0)) (with_reducible assumption) (fail)
                go_wp2_with fail
                clear hrc1 hcellr hSd
                have HW := Lib.hid hk
                have HRow := Lib.hid hrow
                clear hk hrow
                obtain ⟨W1, hW1⟩ : ∃ x : World, x = wr := ⟨_, rfl⟩
                subst hW1
                generalize W1.drew = W2 at *
                obtain ⟨gk1, hgk1⟩ : ∃ x : Nat, x = gk := ⟨_, rfl⟩
                subst hgk1
                go_loopg [4] r.length (fun q v wr => ∃ k : Nat, k + q = r.length ∧ v = .int .i64 k ∧ (∀ (j : Nat) x, r[j]? = some x → j < k → x.vl = true) ∧ Kp w wr)
                case atStart => exact ⟨0, by omega, rfl, fun j x _ h => by omega, HW.out⟩
                case round =>
                  obtain ⟨k, hkq, rfl, hgood, hk⟩ := hrel
                  have Hgood := Lib.hid hgood
                  have hrc1 := hk.cell hrc
                  clear hgood
                  by_cases hlt2 : k < r.length
                  · obtain ⟨x, hx⟩ : ∃ x, r[k]? = some x := ⟨_, List.getElem?_eq_getElem hlt2⟩
                    obtain ⟨b3, o3, e3, hrd, s0, s1, s2, s3, s4, s5, s6⟩ := (HRow.out.kp hk) k x hx
                    subst e3
                    have Hx := Lib.hid hx
                    have HRD := Lib.hid hrd
                    have hj1 : (0 : Int) ≤ (k : Int) := by omega
                    have hj2 : (k : Int) < (r.length : Int) := by omega
                    clear hx hrd
                    go_wp2_with fail
                    go_fit (r5Valid_raw x _ HRD.out)
                    rintro e w2 ⟨rfl, k2⟩
                    cases hv : x.vl with
                    | true =>
                      have Hv := Lib.hid hv
                      have hkk := hk.trans k2
                      clear hv s0 s1 s2 s3 s4 s5 s6 hrc1
                      go_wp2_with fail
                      go_roundg (gk - 1)
                      case measure => omega
                      case rel =>
                        refine ⟨k + 1, by omega, by go_num, fun j y hy hj => ?_, hkk⟩
                        by_cases h : j = k
                        · subst h; rw [Hx.out] at hy; cases hy; exact Hv.out
                        · exact Hgood.out j y hy (by omega)
                    | false =>
                      have HE := Lib.hid (vlM_bad Hr.out (show badR m r = true by
                        unfold badR
                        rw [Bool.or_eq_true]
                        exact .inr (List.any_eq_true.2 ⟨x, List.mem_of_getElem? Hx.out, by rw [hv]; rfl⟩)))
                      have hkk := hk.trans k2
                      clear hv s0 s1 s2 s3 s4 s5 s6 hrc1
                      go_wp2_with fail
                      go_ret
                      exact ⟨ret_bool HE.out.symm, hkk⟩
                  · have HG := Lib.hid (show badR m r = false by
                      unfold badR
                      rw [Bool.or_eq_false_iff]
                      refine ⟨decide_eq_false (by have := Hlen.out; have := HC0.out; omega), List.any_eq_false.2 fun x hx => ?_⟩
                      obtain ⟨j, hj⟩ := List.getElem?_of_mem hx
                      rw [Hgood.out j x hj (by have := (List.getElem?_eq_some_iff.1 hj).1; omega)]; decide)
                    go_wp2_with fail
                    go_roundg (gk1 - 1)
                    case measure => omega
                    case rel =>
                      refine ⟨i + 1, by omega, by go_num, fun j y hy hj => ?_, hk⟩
                      by_cases h : j = i
                      · subst h; rw [Hr.out] at hy; cases hy; exact HG.out
                      · exact Hbad.out j y hy (by omega)
              · have hne : ((r.length : Int) != (r0.length : Int)) = true := by simpa using (by omega : ¬ (r.length : Int) = (r0.length : Int))
                have HE := Lib.hid (vlM_bad Hr.out (show badR m r = true by
                  unfold badR
                  rw [Bool.or_eq_true]
                  exact .inl (decide_eq_true (by have := HC0.out; omega))))
                clear hlen
                have kd := (Kp.refl wr).drew
                have hSd : wr.drew.cell? ⟨b, o + i, none⟩ = some (.slice ra r.length rc) ∧ wr.drew.cell? ⟨b, o, none⟩ = some (.slice ra0 r0.length rc0) := ⟨kd.cell hrc1, kd.cell hcellr⟩
                replace hk := hk.trans kd
                clear kd
                go_upto_region 6 with fail
                go_region_held3 (fun w' => w'.cell? ⟨b, o + i, none⟩ = some (.slice ra r.length rc) ∧ w'.cell? ⟨b, o, none⟩ = some (.slice ra0 r0.length rc0)) (with_reducible assumption) (fail)
                go_wp2_with fail
                go_ret
                exact ⟨ret_bool HE.out.symm, hk⟩
            · have HE := Lib.hid (vlM_good HB.out.1 HB.out.2 (fun j y hy => Hbad.out j y hy (by have := (List.getElem?_eq_some_iff.1 hy).1; omega)))
              go_wp2_with fail
              go_ret
              exact ⟨ret_bool HE.out.symm, hk⟩
end Go.Proofs.YtdidocdpjiiedaaGreatDoor
