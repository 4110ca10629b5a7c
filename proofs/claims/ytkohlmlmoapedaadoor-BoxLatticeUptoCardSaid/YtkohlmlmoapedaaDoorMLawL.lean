/-
  Walks: the law BoxLattice.
-/
import Derived.Test.YtkohlmlmoapedaaDoorMLawP
namespace Go.Proofs.YtkohlmlmoapedaaDoor
open Go.RowKit

/-- does the law BoxLattice look? -/
def goL (zs ys cs : List RI) : Bool := !lrg zs [] && (!lrg ys [] && (!lrg cs [] && (vlB zs && (vlB ys && decide (zs.length = ys.length)))))
theorem goL_all {zs ys cs : List RI} (h : goL zs ys cs = true) : lrg zs [] = false ∧ lrg ys [] = false ∧ lrg cs [] = false ∧ vlB zs = true ∧ vlB ys = true ∧ zs.length = ys.length := by
  unfold goL at h
  simp only [Bool.and_eq_true, Bool.not_eq_true', decide_eq_true_eq] at h
  exact h
theorem goL_true {zs ys cs : List RI} (h : goL zs ys cs = true) : vlB zs = true ∧ vlB ys = true ∧ zs.length = ys.length := by
  unfold goL at h
  simp only [Bool.and_eq_true, Bool.not_eq_true', decide_eq_true_eq] at h
  exact h.2.2.2
set_option maxRecDepth 100000 in
set_option maxHeartbeats 32000000 in
theorem Lattice_out (a b d : Option Addr) (zs ys cs : List RI) (ca cb cd : Nat) (w : World) (hz : RowI w a zs) (hzl : zs.length ≤ 1100000) (hy : RowI w b ys) (hyl : ys.length ≤ 1100000) (hc : RowI w d cs) (hcl : cs.length ≤ 1100000) (hT : Tab w) (hg : goL zs ys cs = false) :
    Calls Tryd.prog 3 #[.slice a zs.length ca, .slice b ys.length cb, .slice d cs.length cd] w fun e w' => e = .returned (.bool true) ∧ Kp w w' := by
  have Hgf := Lib.hid hg
  clear hg
  go_enter Tryd.func3, Tryd.ntmps3
  go_upto_region 1 with fail
  go_cut [40] from 10 (fun s wx => s = .bool (!goL zs ys cs) ∧ Kp w wx)
  case first =>
    go_wp2_with fail
    refine (awake_ok _ hT).mono ?_
    rintro e w1 ⟨rfl, k1⟩
    have h1 := (Kp.refl w).trans k1
    clear k1
    go_wp2_with fail
    refine (large_any a none zs [] ca 0 _ (hz.kp h1) hzl (fun i x h => by simp at h) (by simp)).mono ?_
    rintro e w2 ⟨rfl, k2⟩
    have h2 := h1.trans k2
    clear k2
    cases e0 : lrg zs [] with
    | true =>
      have Hg := Lib.hid (show goL zs ys cs = false by unfold goL; simp [e0])
      clear e0
      go_wp2_with fail
      go_meet
      case rel => exact ⟨by rw [Hg.out]; rfl, h2⟩
    | false =>
      go_wp2_with fail
      refine (large_any b none ys [] cb 0 _ (hy.kp h2) hyl (fun i x h => by simp at h) (by simp)).mono ?_
      rintro e w3 ⟨rfl, k3⟩
      have h3 := h2.trans k3
      clear k3
      cases e1 : lrg ys [] with
      | true =>
        have Hg := Lib.hid (show goL zs ys cs = false by unfold goL; simp [e1])
        clear e0 e1
        go_wp2_with fail
        go_meet
        case rel => exact ⟨by rw [Hg.out]; rfl, h3⟩
      | false =>
        go_wp2_with fail
        refine (large_any d none cs [] cd 0 _ (hc.kp h3) hcl (fun i x h => by simp at h) (by simp)).mono ?_
        rintro e w4 ⟨rfl, k4⟩
        have h4 := h3.trans k4
        clear k4
        cases e2 : lrg cs [] with
        | true =>
          have Hg := Lib.hid (show goL zs ys cs = false by unfold goL; simp [e2])
          clear e0 e1 e2
          go_wp2_with fail
          go_meet
          case rel => exact ⟨by rw [Hg.out]; rfl, h4⟩
        | false =>
          go_wp2_with fail
          refine (BValid_any a zs ca _ (hz.kp h4) hzl).mono ?_
          rintro e w5 ⟨rfl, k5⟩
          have h5 := h4.trans k5
          clear k5
          cases e3 : vlB zs with
          | true =>
            go_wp2_with fail
            refine (BValid_any b ys cb _ (hy.kp h5) hyl).mono ?_
            rintro e w6 ⟨rfl, k6⟩
            have h6 := h5.trans k6
            clear k6
            cases e4 : vlB ys with
            | true =>
              by_cases hl : zs.length = ys.length
              · have hb : ((zs.length : Int) != (ys.length : Int)) = false := by simp; omega
                have Hg := Lib.hid (show goL zs ys cs = true by unfold goL; simp [e0, e1, e2, e3, e4, hl])
                clear hl e0 e1 e2 e3 e4
                go_wp2_with fail
                go_meet
                case rel => exact ⟨by rw [Hg.out]; rfl, h6⟩
              · have hb : ((zs.length : Int) != (ys.length : Int)) = true := by simp; omega
                have Hg := Lib.hid (show goL zs ys cs = false by unfold goL; simp [hl])
                clear hl e0 e1 e2 e3 e4
                go_wp2_with fail
                go_meet
                case rel => exact ⟨by rw [Hg.out]; rfl, h6⟩
            | false =>
              have Hg := Lib.hid (show goL zs ys cs = false by unfold goL; simp [e4])
              clear e0 e1 e2 e3 e4
              go_wp2_with fail
              go_meet
              case rel => exact ⟨by rw [Hg.out]; rfl, h6⟩
          | false =>
            have Hg := Lib.hid (show goL zs ys cs = false by unfold goL; simp [e3])
            clear e0 e1 e2 e3
            go_wp2_with fail
            go_meet
            case rel => exact ⟨by rw [Hg.out]; rfl, h5⟩
  case rest =>
    obtain ⟨rfl, h9⟩ := hcut
    rw [Hgf.out, Bool.not_false]
    go_wp2_with fail
    refine (awake_ok _ (hT.kp h9)).mono ?_
    rintro e w10 ⟨rfl, k10⟩
    go_wp2_with fail
    go_ret
    exact ⟨rfl, h9.trans k10⟩
end Go.Proofs.YtkohlmlmoapedaaDoor
