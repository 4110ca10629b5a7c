/-
  Walks: the law FrameOf.
-/
import Derived.Deep.DeepFit
import Derived.Deep.RegionHeld3
import Derived.Deep.RegionWith
import Derived.Test.YtdlpiblgkpgplaaGreatDoorMAwkF
import Derived.Test.YtdlpiblgkpgplaaGreatDoorMSmF
import Derived.Test.YtdlpiblgkpgplaaGreatDoorMFOf
import Derived.Test.YtdlpiblgkpgplaaGreatDoorMR31Of
namespace Go.Proofs.YtdlpiblgkpgplaaGreatDoor
open Go.RowKit

theorem sameD_of {w w' : World} {zs ys : List RD} (hz : ∀ x ∈ zs, x.ok w) (hy : ∀ x ∈ ys, x.ok w') (h : zs.map RD.dy = ys.map RD.dy) : allDD sameR zs ys = true := by
  refine allDD_true.2 ⟨by have := congrArg List.length h; simpa using this, fun i x y hx hy2 => ?_⟩
  have e : (zs.map RD.dy)[i]? = (ys.map RD.dy)[i]? := by rw [h]
  rw [List.getElem?_map, List.getElem?_map, hx, hy2] at e
  exact sameR_dy (hz x (List.mem_of_getElem? hx)) (hy y (List.mem_of_getElem? hy2)) (by simpa using e)
theorem sameI_of {w w' : World} {zs ys : List RI} (hz : ∀ x ∈ zs, x.rd w) (hy : ∀ x ∈ ys, x.rd w') (vz : ∀ x ∈ zs, x.vl = true) (vy : ∀ x ∈ ys, x.vl = true) (h : plR zs = plR ys) : allII oneR zs ys = true := by
  unfold plR at h
  refine allII_true.2 ⟨by have := congrArg List.length h; simpa using this, fun i x y hx hy2 => ?_⟩
  have e : (zs.map RI.pl)[i]? = (ys.map RI.pl)[i]? := by rw [h]
  rw [List.getElem?_map, List.getElem?_map, hx, hy2] at e
  have m1 := List.mem_of_getElem? hx
  have m2 := List.mem_of_getElem? hy2
  exact oneR_pl (hz x m1) (hy y m2) (vz x m1) (vy y m2) (by simpa using e)
theorem rowN_rd {w : World} {a : Option Addr} {m : List (List RD)} (h : RowN w a m) {i : Nat} {r : List RD} (hr : m[i]? = some r) : ∀ x ∈ r, x.rd w := by
  obtain ⟨_, _, _, _, _, _, hrow, _⟩ := h i r hr
  exact fun x hx => hrow.rd hx
theorem rowU_vl {n : Nat} {m : List (List RD)} (h : RowU n m) {i : Nat} {r : List RD} (hr : m[i]? = some r) : ∀ x ∈ r, x.vl = true := by
  intro x hx
  obtain ⟨y, e, _, hy⟩ := h i r hr
  subst e
  obtain ⟨j, hj⟩ := List.getElem?_of_mem hx
  obtain ⟨_, ⟨_, e⟩ | ⟨_, e⟩⟩ := unitN_at hj
  · rw [e]; exact hy
  · rw [e]; exact rdZero_vl
theorem sameU_of {n : Nat} {w w' : World} {a b : Option Addr} {m k : List (List RD)} (hm : RowN w a m) (hk : RowN w' b k) (um : RowU n m) (uk : RowU n k) (h : m.length = k.length) : allNN (allDD sameR) m k = true := by
  refine allNN_true.2 ⟨h, fun i x y hx hy => ?_⟩
  refine sameD_of (w := w) (w' := w') (fun z hz => ⟨rowN_rd hm hx z hz, rowU_vl um hx z hz⟩) (fun z hz => ⟨rowN_rd hk hy z hz, rowU_vl uk hy z hz⟩) ?_
  obtain ⟨y1, e1, d1, _⟩ := um i x hx
  obtain ⟨y2, e2, d2, _⟩ := uk i y hy
  rw [e1, e2, unitN_dy d1, unitN_dy d2]
theorem ofV_good {xs : List RI} {p : Int} (h : (ofV xs p).1 = 0) : vlB xs = true ∧ preB p = true ∧ xs.all (ofB p.toNat) = true ∧ ofV xs p = (0, xs.map (ofM p.toNat), xs.map (ofR p.toNat)) := by
  unfold ofV at h ⊢
  cases h1 : vlB xs with
  | false => rw [if_pos h1] at h; exact absurd h (by decide)
  | true =>
    rw [if_neg (by rw [h1]; decide)] at h
    cases h2 : preB p with
    | false => rw [if_pos h2] at h; exact absurd h (by decide)
    | true =>
      rw [if_neg (by rw [h2]; decide)] at h
      by_cases h3 : xs.all (ofB p.toNat) = true
      · exact ⟨rfl, rfl, h3, by rw [if_neg (by decide), if_neg (by decide), if_pos h3]⟩
      · rw [if_neg h3] at h; exact absurd h (by decide)
set_option maxRecDepth 100000 in
set_option maxHeartbeats 8000000 in
theorem FOf_ok (a : Option Addr) (xs : List RI) (c : Nat) (p : Int) (w : World) (hx : RowI w a xs) (hl : xs.length ≤ 1100000) (hT : Tab w) :
    Calls Tryz.prog 5 #[.slice a xs.length c, .int .i64 p] w fun e w' => e = .returned (.bool true) ∧ Kp w w' := by
  have HX := Lib.hid hx
  have HT := Lib.hid hT
  clear hx hT
  go_enter Tryz.func5, Tryz.ntmps5
  go_wp2_with fail
  go_fit (awakeF_any _ HT.out)
  rintro e w1 ⟨rfl, k1⟩
  have HK1 := Lib.hid k1
  clear k1
  cases hw : widF xs with
  | true =>
    have HW := Lib.hid (widF_any xs a c _ (HX.out.kp HK1.out) hl)
    rw [hw] at HW
    clear hw
    go_wp2_with fail
    go_fit HW.out
    rintro e w2 ⟨rfl, k2⟩
    go_wp2_with fail
    go_ret
    exact ⟨rfl, HK1.out.trans k2⟩
  | false =>
    have HW := Lib.hid (widF_any xs a c _ (HX.out.kp HK1.out) hl)
    rw [hw] at HW
    clear hw
    go_wp2_with fail
    go_fit HW.out
    rintro e w2 ⟨rfl, k2⟩
    have HK2 := Lib.hid (HK1.out.trans k2)
    clear HW k2
    by_cases hn : 4 < xs.length ∧ xs.length ≤ 8
    · have e1 : (4 : Int) < (xs.length : Int) := by omega
      have e2 : (xs.length : Int) ≤ 8 := by omega
      clear hn
      go_wp2_with fail
      go_ret
      exact ⟨rfl, HK2.out⟩
    · obtain ⟨b1, b2, hb1, hb2, hb⟩ : ∃ b1 b2 : Bool, decide ((4 : Int) < (xs.length : Int)) = b1 ∧ decide ((xs.length : Int) ≤ 8) = b2 ∧ (b1 && b2) = false := by
        refine ⟨_, _, rfl, rfl, ?_⟩
        rw [Bool.and_eq_false_iff, decide_eq_false_iff_not, decide_eq_false_iff_not]
        omega
      have hcase : ¬ ((4 : Int) < (xs.length : Int)) ∨ ((4 : Int) < (xs.length : Int) ∧ ¬ ((xs.length : Int) ≤ 8)) := by omega
      clear hb hb1 hb2 hn b1 b2
      have HV := Lib.hid (fun (W : World) (k : Kp w W) => fof_any a xs c p W (HX.out.kp k) hl (HT.out.kp k))
      have HR := Lib.hid (fun (W : World) (k : Kp w W) => r31of_any a xs c p W (HX.out.kp k) hl)
      obtain ⟨D, hD⟩ : ∃ D, D = ofV xs p := ⟨_, rfl⟩
      have HD := Lib.hid hD
      rw [← hD] at HV HR
      clear hD
      rcases hcase with h4 | ⟨h4, h8⟩
      all_goals
        go_wp2_with fail
        go_fit (fineF_any p _)
        rintro e w3 ⟨rfl, rfl⟩
        cases hf : fineF p with
        | false =>
          clear hf
          go_wp2_with fail
          go_ret
          exact ⟨rfl, HK2.out⟩
        | true =>
          clear hf
          go_wp2_with fail
          go_fit (HV.out _ HK2.out)
          rintro e w4 ⟨f, rfl, rf, fC, fR, vC, vR, fl, fu, k4⟩
          have kA := (Kp.refl w4).alloc (.cells #[.slice f.ca f.cs.length f.cc, .slice f.aa f.ms.length f.ac, .slice f.ra f.rs.length f.rc] 26)
          have HK4 := Lib.hid ((HK2.out.trans k4).trans kA)
          have HF := Lib.hid (rf.kp kA)
          have HFv := Lib.hid (And.intro fC (And.intro fR (And.intro vC (And.intro vR (And.intro fl fu)))))
          have HS := Lib.hid (show (w4.alloc (.cells #[.slice f.ca f.cs.length f.cc, .slice f.aa f.ms.length f.ac, .slice f.ra f.rs.length f.rc] 26)).cell? ⟨w4.heap.size, 0, none⟩ = some (.slice f.ca f.cs.length f.cc) ∧ (w4.alloc (.cells #[.slice f.ca f.cs.length f.cc, .slice f.aa f.ms.length f.ac, .slice f.ra f.rs.length f.rc] 26)).cell? ⟨w4.heap.size, 1, none⟩ = some (.slice f.aa f.ms.length f.ac) ∧ (w4.alloc (.cells #[.slice f.ca f.cs.length f.cc, .slice f.aa f.ms.length f.ac, .slice f.ra f.rs.length f.rc] 26)).cell? ⟨w4.heap.size, 2, none⟩ = some (.slice f.ra f.rs.length f.rc) by simp)
          clear k4 kA rf fC fR vC vR fl fu
          go_upto_region 6 with fail
          generalize w4.alloc _ = W4 at *
          go_wp2_with fail
          go_fit (HR.out _ HK4.out)
          rintro e w5 ⟨g, rfl, rg, gC, gR, uC, uR, gl, gu, k5⟩
          have kA := k5.alloc (.cells #[.slice g.ca g.cs.length g.cc, .slice g.aa g.ms.length g.ac, .slice g.ra g.rs.length g.rc] 26)
          have HK6 := Lib.hid (HK4.out.trans kA)
          have HF6 := Lib.hid (HF.out.kp kA)
          have HG6 := Lib.hid (rg.kp ((Kp.refl w5).alloc (.cells #[.slice g.ca g.cs.length g.cc, .slice g.aa g.ms.length g.ac, .slice g.ra g.rs.length g.rc] 26)))
          have HGv := Lib.hid (And.intro gC (And.intro gR (And.intro uC (And.intro uR (And.intro gl gu)))))
          have HS6 := Lib.hid (And.intro (keepF kA HS.out) (show (w5.alloc (.cells #[.slice g.ca g.cs.length g.cc, .slice g.aa g.ms.length g.ac, .slice g.ra g.rs.length g.rc] 26)).cell? ⟨w5.heap.size, 0, none⟩ = some (.slice g.ca g.cs.length g.cc) ∧ (w5.alloc (.cells #[.slice g.ca g.cs.length g.cc, .slice g.aa g.ms.length g.ac, .slice g.ra g.rs.length g.rc] 26)).cell? ⟨w5.heap.size, 1, none⟩ = some (.slice g.aa g.ms.length g.ac) ∧ (w5.alloc (.cells #[.slice g.ca g.cs.length g.cc, .slice g.aa g.ms.length g.ac, .slice g.ra g.rs.length g.rc] 26)).cell? ⟨w5.heap.size, 2, none⟩ = some (.slice g.ra g.rs.length g.rc) by simp))
          clear k5 kA rg gC gR uC uR gl gu HF HS
          go_upto_region 7 with fail
          generalize w5.alloc _ = W6 at *
          have hne : (D.1 != D.1) = false := by simp
          have hml : f.ms.length = g.ms.length := by
            have h1 := congrArg List.length HFv.out.1
            have h2 := congrArg List.length HGv.out.1
            simp only [List.length_map] at h1 h2
            rw [HFv.out.2.2.2.2.1, HGv.out.2.2.2.2.1, h1, h2]
          have s1 := sameD_of (w := W6) (w' := W6) (fun x hx => ⟨HF6.out.1.1.rd hx, HFv.out.2.2.1 x hx⟩) (fun x hx => ⟨HG6.out.1.1.rd hx, HGv.out.2.2.1 x hx⟩) (HFv.out.1.trans HGv.out.1.symm)
          have s2 := sameI_of (w := W6) (w' := W6) (fun x hx => HF6.out.2.2.1.rdI hx) (fun x hx => HG6.out.2.2.1.rdI hx) HFv.out.2.2.2.1 HGv.out.2.2.2.1 (HFv.out.2.1.trans HGv.out.2.1.symm)
          have s3 := sameU_of HF6.out.2.1.1 HG6.out.2.1.1 HFv.out.2.2.2.2.2 HGv.out.2.2.2.2.2 hml
          have HSM := Lib.hid (sameF_ok f g W6 HF6.out HG6.out s1 s2 s3)
          clear s1 s2 s3 hml
          obtain ⟨⟨s0, s1, s2⟩, t0, t1, t2⟩ := id HS6.out
          go_wp2_with fail
          go_fit HSM.out
          rintro e w7 ⟨rfl, k7⟩
          have HK7 := Lib.hid (HK6.out.trans k7)
          have HF7 := Lib.hid (HF6.out.kp k7)
          have HS7 := Lib.hid (keepF k7 HS6.out.1)
          clear HSM s0 s1 s2 t0 t1 t2 k7 hne
          by_cases he : D.1 = 0
          · have hve : vlF f = true := by
              have hD := HD.out
              obtain ⟨h1, h2, h3, h5⟩ := ofV_good (hD ▸ he)
              have hp := preB_iff.1 h2
              obtain ⟨n1, n2, hg⟩ := vlB_iff.1 h1
              refine vlF_of (w := w) (p := p.toNat) (fun x hx => (goodI_ok (HX.out.rd hx)).1 ((List.all_eq_true.1 hg) x hx)) (by omega) (by omega) ⟨n1, n2⟩ h3 ?_ ?_ HFv.out.2.2.1 HFv.out.2.2.2.1 HFv.out.2.2.2.2.1 HFv.out.2.2.2.2.2
              · rw [HFv.out.1, hD, h5]
              · rw [HFv.out.2.1, hD, h5]
            have HVF := Lib.hid (fval_any f _ HF7.out)
            rw [hve] at HVF
            have hez : (D.1 != 0) = false := by rw [he]; rfl
            obtain ⟨s0, s1, s2⟩ := id HS7.out
            clear hve he
            go_wp2_with fail
            go_fit HVF.out
            rintro e w8 ⟨rfl, k8⟩
            go_wp2_with fail
            go_ret
            exact ⟨rfl, HK7.out.trans k8⟩
          · have hez : (D.1 != 0) = true := by rw [bne, beq_eq_false_iff_ne.2 he]; rfl
            clear he
            go_wp2_with fail
            go_ret
            exact ⟨rfl, HK7.out⟩
end Go.Proofs.YtdlpiblgkpgplaaGreatDoor
