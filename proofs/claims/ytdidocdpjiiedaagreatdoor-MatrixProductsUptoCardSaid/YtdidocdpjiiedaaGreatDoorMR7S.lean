/-
  Walks: the seventh reference's fault and Add.
-/
import Derived.Deep.RegionHeld3
import Derived.Test.YtdidocdpjiiedaaGreatDoorMEntN
import Derived.Test.YtdidocdpjiiedaaGreatDoorMR5C
import Derived.Test.YtdidocdpjiiedaaGreatDoorMR5D
import Derived.Test.YtdidocdpjiiedaaGreatDoorMR5B
namespace Go.Proofs.YtdidocdpjiiedaaGreatDoor
open Go.RowKit

/-- the error of two matrices and a precision -/
def faultN (m n : List (List RI)) (p : Int) : Int := if (!vlM m || !vlM n) = true then 1 else if preB p = false then 2 else 0
set_option maxHeartbeats 4000000 in
theorem r7fault_any (a b : Option Addr) (m n : List (List RI)) (c d : Nat) (p : Int) (w : World) (hm : RowM w a m) (hn : RowM w b n) (hl : m.length ≤ 1100000) (hl2 : n.length ≤ 1100000) :
    Calls Tryz.prog 65 #[.slice a m.length c, .slice b n.length d, .int .i64 p] w fun e w' => e = .returned (.int .i64 (faultN m n p)) ∧ Kp w w' := by
  have HM := Lib.hid hm
  have HN := Lib.hid hn
  clear hm hn
  go_enter Tryz.func65, Tryz.ntmps65
  go_wp2_with fail
  go_fit (r7valid_any a m c _ HM.out hl)
  rintro e w1 ⟨rfl, k1⟩
  cases hvm : vlM m with
  | false =>
    have H := Lib.hid (show faultN m n p = 1 by unfold faultN; rw [hvm]; rfl)
    clear hvm
    go_wp2_with fail
    go_ret
    exact ⟨ret_int H.out.symm, k1⟩
  | true =>
    have HVM := Lib.hid hvm
    clear hvm
    go_wp2_with fail
    go_fit (r7valid_any b n d _ (HN.out.kp k1) hl2)
    rintro e w2 ⟨rfl, k2⟩
    have hk2 := k1.trans k2
    cases hvn : vlM n with
    | false =>
      have H := Lib.hid (show faultN m n p = 1 by unfold faultN; rw [HVM.out, hvn]; rfl)
      clear hvn
      go_wp2_with fail
      go_ret
      exact ⟨ret_int H.out.symm, hk2⟩
    | true =>
      have HVN := Lib.hid hvn
      clear hvn
      go_wp2_with fail
      go_fit (r3prec_any p _)
      rintro e w3 ⟨rfl, rfl⟩
      cases hp : preB p with
      | false =>
        have H := Lib.hid (show faultN m n p = 2 by unfold faultN; rw [HVM.out, HVN.out, hp]; rfl)
        clear hp
        go_wp2_with fail
        go_ret
        exact ⟨ret_int H.out.symm, hk2⟩
      | true =>
        have H := Lib.hid (show faultN m n p = 0 by unfold faultN; rw [HVM.out, HVN.out, hp]; rfl)
        clear hp
        go_wp2_with fail
        go_ret
        exact ⟨ret_int H.out.symm, hk2⟩
theorem OwnN.base {wb w : World} {v : Value} {zs : List RI} (h : OwnN wb w v zs) : Kp wb w := h.1
theorem keep16 {w w' : World} (k : Kp w w') {p q : Addr} {bx by9 ox oy : Nat} {vp vq x0 x1 x2 x3 x4 x5 x6 y0 y1 y2 y3 y4 y5 y6 : Value} (h : w.cell? p = some vp ∧ w.cell? q = some vq ∧ w.cell? ⟨bx, ox, none⟩ = some x0 ∧ w.cell? ⟨bx, ox + 1, none⟩ = some x1 ∧ w.cell? ⟨bx, ox + 2, none⟩ = some x2 ∧ w.cell? ⟨bx, ox + 3, none⟩ = some x3 ∧ w.cell? ⟨bx, ox + 4, none⟩ = some x4 ∧ w.cell? ⟨bx, ox + 5, none⟩ = some x5 ∧ w.cell? ⟨bx, ox + 6, none⟩ = some x6 ∧ w.cell? ⟨by9, oy, none⟩ = some y0 ∧ w.cell? ⟨by9, oy + 1, none⟩ = some y1 ∧ w.cell? ⟨by9, oy + 2, none⟩ = some y2 ∧ w.cell? ⟨by9, oy + 3, none⟩ = some y3 ∧ w.cell? ⟨by9, oy + 4, none⟩ = some y4 ∧ w.cell? ⟨by9, oy + 5, none⟩ = some y5 ∧ w.cell? ⟨by9, oy + 6, none⟩ = some y6) : w'.cell? p = some vp ∧ w'.cell? q = some vq ∧ w'.cell? ⟨bx, ox, none⟩ = some x0 ∧ w'.cell? ⟨bx, ox + 1, none⟩ = some x1 ∧ w'.cell? ⟨bx, ox + 2, none⟩ = some x2 ∧ w'.cell? ⟨bx, ox + 3, none⟩ = some x3 ∧ w'.cell? ⟨bx, ox + 4, none⟩ = some x4 ∧ w'.cell? ⟨bx, ox + 5, none⟩ = some x5 ∧ w'.cell? ⟨bx, ox + 6, none⟩ = some x6 ∧ w'.cell? ⟨by9, oy, none⟩ = some y0 ∧ w'.cell? ⟨by9, oy + 1, none⟩ = some y1 ∧ w'.cell? ⟨by9, oy + 2, none⟩ = some y2 ∧ w'.cell? ⟨by9, oy + 3, none⟩ = some y3 ∧ w'.cell? ⟨by9, oy + 4, none⟩ = some y4 ∧ w'.cell? ⟨by9, oy + 5, none⟩ = some y5 ∧ w'.cell? ⟨by9, oy + 6, none⟩ = some y6 := by
  obtain ⟨h0, h1, h2, h3, h4, h5, h6, h7, h8, h9, h10, h11, h12, h13, h14, h15⟩ := h
  exact ⟨k.cell h0, k.cell h1, k.cell h2, k.cell h3, k.cell h4, k.cell h5, k.cell h6, k.cell h7, k.cell h8, k.cell h9, k.cell h10, k.cell h11, k.cell h12, k.cell h13, k.cell h14, k.cell h15⟩
set_option maxRecDepth 100000 in
set_option maxHeartbeats 8000000 in
theorem r7add_any (a b : Option Addr) (m n : List (List RI)) (c d : Nat) (p : Int) (w : World) (hm : RowM w a m) (hn : RowM w b n) (hl : m.length ≤ 1100000) (hl2 : n.length ≤ 1100000) (hT : Tab w) :
    Calls Tryz.prog 27 #[.slice a m.length c, .slice b n.length d, .int .i64 p, .bool false] w (MatE w (entC (fun q X Y => pAdd X Y q) m n p).1 (entC (fun q X Y => pAdd X Y q) m n p).2) := by
  have HM := Lib.hid hm
  have HN := Lib.hid hn
  have HT := Lib.hid hT
  obtain ⟨D, hD⟩ : ∃ D, D = entC (fun q X Y => pAdd X Y q) m n p := ⟨_, rfl⟩
  have HD := Lib.hid hD
  rw [← hD]
  clear hm hn hT hD
  go_enter Tryz.func27, Tryz.ntmps27
  go_wp2_with fail
  go_fit (r7fault_any a b m n c d p _ HM.out HN.out hl hl2)
  rintro e w1 ⟨rfl, hk2⟩
  by_cases hv : (!vlM m || !vlM n) = true
  · have HE := Lib.hid (show D = ([], 1) by rw [HD.out]; unfold entC; rw [if_pos hv])
    rw [show faultN m n p = 1 by unfold faultN; rw [if_pos hv]]
    clear hv
    go_wp2_with fail
    rw [HE.out]
    refine bodyPost_ret (v := .tuple #[.slice none 0 0, .int .i64 1]) (by simp [results, Tryz.results27, go_sem]) rfl ?_
    exact matE_nil rfl hk2
  · by_cases hp : preB p = false
    · have HE := Lib.hid (show D = ([], 2) by rw [HD.out]; unfold entC; rw [if_neg hv, if_pos hp])
      rw [show faultN m n p = 2 by unfold faultN; rw [if_neg hv, if_pos hp]]
      clear hv hp
      go_wp2_with fail
      rw [HE.out]
      refine bodyPost_ret (v := .tuple #[.slice none 0 0, .int .i64 2]) (by simp [results, Tryz.results27, go_sem]) rfl ?_
      exact matE_nil rfl hk2
    · have hvm : vlM m = true := by cases h : vlM m <;> simp_all
      have hvn : vlM n = true := by cases h : vlM n <;> simp_all
      have hp2 : preB p = true := by cases h : preB p <;> simp_all
      rw [show faultN m n p = 0 by unfold faultN; rw [if_neg hv, if_neg hp]]
      have HVM := Lib.hid hvm
      have HVN := Lib.hid hvn
      have HP := Lib.hid hp2
      clear hv hp hvm hvn hp2
      obtain ⟨r0, hr0, hc0⟩ := vlM_row0 HVM.out
      obtain ⟨s0, hs0, hd0⟩ := vlM_row0 HVN.out
      have hml := (vlM_iff.1 HVM.out).1
      have hmc := (vlM_iff.1 HVM.out).2.1
      have hnl := (vlM_iff.1 HVN.out).1
      have hnc := (vlM_iff.1 HVN.out).2.1
      obtain ⟨ba, oa, ra, rc, rfl, hrow, _⟩ := HM.out 0 r0 hr0
      obtain ⟨bb, ob, rb, rd, rfl, hrowb, _⟩ := HN.out 0 s0 hs0
      rw [Nat.add_zero] at hrow hrowb
      have hi1 : (0 : Int) < (m.length : Int) := by omega
      have hi2 : (0 : Int) < (n.length : Int) := by omega
      have HC0 := Lib.hid (And.intro hc0 hd0)
      have kd := (Kp.refl w1).drew
      have hk3 := hk2.trans kd
      have g1 := hk3.cell hrow
      have g2 := hk3.cell hrowb
      have hlr : r0.length ≤ 8 := by omega
      have hls : s0.length ≤ 8 := by omega
      have hlm : m.length ≤ 8 := by omega
      have hln : n.length ≤ 8 := by omega
      have HML := Lib.hid (And.intro hml (And.intro hmc (And.intro hnl hnc)))
      clear hr0 hs0 hrow hrowb hc0 hd0 kd hk2 hml hmc hnl hnc
      go_upto_region 4 with fail
      by_cases hne : m.length = n.length
      · have hne1 : ((m.length : Int) != (n.length : Int)) = false := by rw [hne]; simp
        by_cases hnc : r0.length = s0.length
        · have hnc1 : ((r0.length : Int) != (s0.length : Int)) = false := by rw [hnc]; simp
          go_region
          generalize w1.drew = W0 at *
          obtain ⟨q, hq⟩ : ∃ q : Nat, q = p.toNat := ⟨_, rfl⟩
          have hpq : p = (q : Int) := by have := preB_iff.1 HP.out; omega
          have hq0 : 8 ≤ q := by have := preB_iff.1 HP.out; omega
          have hq1 : q ≤ 512 := by have := preB_iff.1 HP.out; omega
          obtain ⟨F, hF⟩ : ∃ F : Nat → Nat → PI, F = fun i j => pAdd (atP m i j) (atP n i j) q := ⟨_, rfl⟩
          have HDm := Lib.hid (show D = (tabM m.length (colsM m) F, 0) by
            rw [HD.out]; unfold entC
            rw [HVM.out, HVN.out, HP.out, if_neg (by decide), if_neg (by decide), if_neg (by have := HC0.out; omega), hF, hq])
          have HF := Lib.hid hF
          have HNE := Lib.hid (And.intro hne hnc)
          have HK3 := Lib.hid hk3
          rw [hpq]
          try rw [hne1]
          try rw [hnc1]
          clear g1 g2 hne hnc hpq hq hF hk3 hne1 hnc1
          go_wp2_with fail
          go_loopg [11, 12] m.length (fun z v x wr => ∃ (R : List (List RI)) (us : List Value), R.length + z = m.length ∧ x = .int .i64 (R.length : Int) ∧ OwnM W0 wr v us R ∧ plM R = tabM R.length (colsM m) F ∧ okM R)
          case atStart => exact ⟨[], [], by simp, rfl, OwnM.nil (Kp.refl _), rfl, fun r h => by simp at h⟩
          case round =>
            obtain ⟨R, us, hRq, rfl, hO, hpl, hok⟩ := hrel
            have HH := Lib.hid (And.intro hpl hok)
            have HO := Lib.hid hO
            have hkr := hO.1
            clear hpl hok hO
            by_cases hlt : R.length < m.length
            · obtain ⟨r, hr⟩ : ∃ r, m[R.length]? = some r := ⟨_, List.getElem?_eq_getElem hlt⟩
              obtain ⟨s, hs⟩ : ∃ s, n[R.length]? = some s := ⟨_, List.getElem?_eq_getElem (by have := HNE.out.1; omega)⟩
              obtain ⟨b2, o2, ra2, rc, e2, hrc, hrow, hrl⟩ := HM.out R.length r hr
              cases e2
              obtain ⟨b2, o2, sa2, sc, e2, hsc, hsow, hsl⟩ := HN.out R.length s hs
              cases e2
              have HRW := Lib.hid (And.intro hr (And.intro hrc (And.intro hrow (vlM_row HVM.out hr))))
              have HSW := Lib.hid (And.intro hs (And.intro hsc (And.intro hsow (vlM_row HVN.out hs))))
              have Hlt := Lib.hid (And.intro hlt hRq)
              have hr8 : r.length ≤ 8 := by have := (vlM_row HVM.out hr).1; have := HML.out.2; omega
              have hs8 : s.length = r.length := by have := (vlM_row HVM.out hr).1; have := (vlM_row HVN.out hs).1; have := HNE.out.2; have := HC0.out; omega
              have hS8 := Lib.hid hs8
              have hs9 : s.length ≤ 8 := by omega
              clear hr hrc hrow hrl hRq hs hsc hsow hsl hs8
              have hk1 : (0 : Int) ≤ (R.length : Int) := by omega
              have hk2 : (R.length : Int) < (m.length : Int) := by omega
              have hk2n : (R.length : Int) < (n.length : Int) := by have := HNE.out.1; omega
              go_wp2_with fail
              obtain ⟨gk1, hgk1⟩ : ∃ x : Nat, x = gk := ⟨_, rfl⟩
              subst hgk1
              obtain ⟨wi, hwi⟩ : ∃ x : World, x = wr := ⟨_, rfl⟩
              subst hwi
              have HKI := Lib.hid (HK3.out.trans hkr)
              clear hkr
              go_loopg [13, 14] r.length (fun z u x wr => ∃ cur : List RI, cur.length + z = r.length ∧ x = .int .i64 (cur.length : Int) ∧ OwnN wi wr u cur ∧ plR cur = rowF cur.length (F R.length) ∧ ∀ x ∈ cur, x.vl = true)
              case atStart => exact ⟨[], by simp, rfl, OwnN.nil (Kp.refl _), rfl, fun x h => by simp at h⟩
              case round =>
                obtain ⟨cur, hcq, rfl, hown0, hpc, hvc⟩ := hrel
                have hki := HKI.out.trans hown0.1
                have hrcr := hki.cell HRW.out.2.1
                by_cases hlt2 : cur.length < r.length
                · obtain ⟨x, hx⟩ : ∃ x, r[cur.length]? = some x := ⟨_, List.getElem?_eq_getElem hlt2⟩
                  obtain ⟨y, hy⟩ : ∃ y, s[cur.length]? = some y := ⟨_, List.getElem?_eq_getElem (by have := hS8.out; omega)⟩
                  obtain ⟨b3, o3, e3, hxr, hxS⟩ := (HRW.out.2.2.1.kp HKI.out) cur.length x hx
                  subst e3
                  obtain ⟨b4, o4, e4, hyr, hyS⟩ := (HSW.out.2.2.1.kp HKI.out) cur.length y hy
                  subst e4
                  have HPC := Lib.hid (And.intro hpc (And.intro hvc (And.intro hcq hlt2)))
                  have hj1 : (0 : Int) ≤ (cur.length : Int) := by omega
                  have hj2 : (cur.length : Int) < (r.length : Int) := by omega
                  have hj3 : (cur.length : Int) < (s.length : Int) := by have := hS8.out; omega
                  have hcl : cur.length + 1 ≤ 9000000 := by omega
                  have kd := (Kp.refl wr).drew
                  have kid := hown0.1.trans kd
                  have HS := Lib.hid (show wi.cell? ⟨ba, oa + R.length, none⟩ = some (.slice (some ⟨b3, o3, none⟩) r.length rc) ∧ wi.cell? ⟨bb, ob + R.length, none⟩ = some (.slice (some ⟨b4, o4, none⟩) s.length sc) ∧ wi.cell? ⟨b3, o3 + cur.length * 7, none⟩ = some (.bool x.lo.neg) ∧ wi.cell? ⟨b3, o3 + cur.length * 7 + 1, none⟩ = some (.slice x.lo.a x.lo.xs.length x.lo.c) ∧ wi.cell? ⟨b3, o3 + cur.length * 7 + 2, none⟩ = some (.int .i64 x.lo.e) ∧ wi.cell? ⟨b3, o3 + cur.length * 7 + 3, none⟩ = some (.bool x.hi.neg) ∧ wi.cell? ⟨b3, o3 + cur.length * 7 + 4, none⟩ = some (.slice x.hi.a x.hi.xs.length x.hi.c) ∧ wi.cell? ⟨b3, o3 + cur.length * 7 + 5, none⟩ = some (.int .i64 x.hi.e) ∧ wi.cell? ⟨b3, o3 + cur.length * 7 + 6, none⟩ = some (.bool x.all) ∧ wi.cell? ⟨b4, o4 + cur.length * 7, none⟩ = some (.bool y.lo.neg) ∧ wi.cell? ⟨b4, o4 + cur.length * 7 + 1, none⟩ = some (.slice y.lo.a y.lo.xs.length y.lo.c) ∧ wi.cell? ⟨b4, o4 + cur.length * 7 + 2, none⟩ = some (.int .i64 y.lo.e) ∧ wi.cell? ⟨b4, o4 + cur.length * 7 + 3, none⟩ = some (.bool y.hi.neg) ∧ wi.cell? ⟨b4, o4 + cur.length * 7 + 4, none⟩ = some (.slice y.hi.a y.hi.xs.length y.hi.c) ∧ wi.cell? ⟨b4, o4 + cur.length * 7 + 5, none⟩ = some (.int .i64 y.hi.e) ∧ wi.cell? ⟨b4, o4 + cur.length * 7 + 6, none⟩ = some (.bool y.all) from ⟨HKI.out.cell HRW.out.2.1, HKI.out.cell HSW.out.2.1, hxS.1, hxS.2.1, hxS.2.2.1, hxS.2.2.2.1, hxS.2.2.2.2.1, hxS.2.2.2.2.2.1, hxS.2.2.2.2.2.2, hyS⟩)
                  have HSd := Lib.hid (keep16 kid HS.out)
                  have HZ := Lib.hid (show pAdd x.pl y.pl q = F R.length cur.length by
                    rw [HF.out]; show _ = pAdd (atP m R.length cur.length) (atP n R.length cur.length) q
                    rw [atP_eq HRW.out.1 hx, atP_eq HSW.out.1 hy])
                  have HC := Lib.hid (r5add_any x y q wr.drew (hxr.kp kid) (hyr.kp kid) (HRW.out.2.2.2.2 x (List.mem_of_getElem? hx)) (HSW.out.2.2.2.2 y (List.mem_of_getElem? hy)) hq0 hq1 (HT.out.kp (HKI.out.trans kid)))
                  have HW := Lib.hid (hown0.kp kd)
                  clear hx hy hxr hyr hxS hyS hpc hvc hcq kd kid hown0 hki
                  go_upto_region 16 with fail
                  clear hrcr
                  go_region_held3 (fun w' => w'.cell? ⟨ba, oa + R.length, none⟩ = some (.slice (some ⟨b3, o3, none⟩) r.length rc) ∧ w'.cell? ⟨bb, ob + R.length, none⟩ = some (.slice (some ⟨b4, o4, none⟩) s.length sc) ∧ w'.cell? ⟨b3, o3 + cur.length * 7, none⟩ = some (.bool x.lo.neg) ∧ w'.cell? ⟨b3, o3 + cur.length * 7 + 1, none⟩ = some (.slice x.lo.a x.lo.xs.length x.lo.c) ∧ w'.cell? ⟨b3, o3 + cur.length * 7 + 2, none⟩ = some (.int .i64 x.lo.e) ∧ w'.cell? ⟨b3, o3 + cur.length * 7 + 3, none⟩ = some (.bool x.hi.neg) ∧ w'.cell? ⟨b3, o3 + cur.length * 7 + 4, none⟩ = some (.slice x.hi.a x.hi.xs.length x.hi.c) ∧ w'.cell? ⟨b3, o3 + cur.length * 7 + 5, none⟩ = some (.int .i64 x.hi.e) ∧ w'.cell? ⟨b3, o3 + cur.length * 7 + 6, none⟩ = some (.bool x.all) ∧ w'.cell? ⟨b4, o4 + cur.length * 7, none⟩ = some (.bool y.lo.neg) ∧ w'.cell? ⟨b4, o4 + cur.length * 7 + 1, none⟩ = some (.slice y.lo.a y.lo.xs.length y.lo.c) ∧ w'.cell? ⟨b4, o4 + cur.length * 7 + 2, none⟩ = some (.int .i64 y.lo.e) ∧ w'.cell? ⟨b4, o4 + cur.length * 7 + 3, none⟩ = some (.bool y.hi.neg) ∧ w'.cell? ⟨b4, o4 + cur.length * 7 + 4, none⟩ = some (.slice y.hi.a y.hi.xs.length y.hi.c) ∧ w'.cell? ⟨b4, o4 + cur.length * 7 + 5, none⟩ = some (.int .i64 y.hi.e) ∧ w'.cell? ⟨b4, o4 + cur.length * 7 + 6, none⟩ = some (.bool y.all)) (first | with_reducible exact HSd.out | with_reducible assumption | with_reducible exact keep16 (by assumption) (by assumption) | with_reducible exact keep16 hk9 HS.out | with_reducible exact keep16 hkA HS.out | fail)
                    (first
                      | (go_at_call 79; (with_reducible refine HC.out.mono ?_); rintro e v1 ⟨z, rfl, hz, hzp, hzv, j1⟩
                         have hownA := HW.out.kp (j1.alloc (.cells #[.bool z.lo.neg, .slice z.lo.a z.lo.xs.length z.lo.c, .int .i64 z.lo.e, .bool z.hi.neg, .slice z.hi.a z.hi.xs.length z.hi.c, .int .i64 z.hi.e, .bool z.all] 43))
                         have hkA := OwnN.base hownA
                         have hzA := hz.kp ((Kp.refl v1).alloc (.cells #[.bool z.lo.neg, .slice z.lo.a z.lo.xs.length z.lo.c, .int .i64 z.lo.e, .bool z.hi.neg, .slice z.hi.a z.hi.xs.length z.hi.c, .int .i64 z.hi.e, .bool z.all] 43))
                         have ZP := Lib.hid (And.intro (hzp.trans HZ.out) hzv)
                         clear hz hzp hzv)
                      | (refine step_append_ivg (by rfl) _ _ (by rfl) wi _ cur (by rfl) hownA _ _ (by rfl) z hzA (by simp) hcl ?_; intro a' c' w9 hown9 hgrow hblk; have hk9 := OwnN.base hown9)
                      | fail)
                  go_wp2_with fail
                  go_roundg (gk - 1)
                  case measure => have := HPC.out.2.2; omega
                  case rel =>
                    refine ⟨cur ++ [z], by have := HPC.out.2.2; rw [List.length_append, List.length_singleton]; omega, by rw [List.length_append, List.length_singleton]; go_num, by simpa using hown9, ?_, ok_snoc HPC.out.2.1 ZP.out.2⟩
                    rw [plR_snoc, HPC.out.1, List.length_append, List.length_singleton, rowF_snoc, ZP.out.1]
                · have hce : cur.length = r.length := by omega
                  obtain ⟨ua, uc, rfl, huc, hum, hurow⟩ := hown0.value
                  have kA := (Kp.refl wr).alloc (.cells #[.slice ua cur.length uc] 40)
                  have HOA := HO.out.kp (hown0.1.trans kA)
                  have hoff := OwnN.off (w' := wr.alloc (.cells #[.slice ua cur.length uc] 40)) hown0 rfl HO.out.new kA.size
                  have hrowA := hurow.kp kA
                  have HPC := Lib.hid (And.intro hpc (And.intro hvc hce))
                  have hcl2 : cur.length ≤ 1100000 := by omega
                  have hRl : R.length + 1 ≤ 9000000 := by omega
                  clear hpc hvc hcq hown0 huc hum hurow hki kA hce
                  go_wp2_with (at_builtin; refine wpList_append_rowi rfl _ _ rfl W0 _ us R rfl HOA _ _ rfl ua uc cur hrowA hoff hcl2 (by simp) hRl ?_; intro v' us' w9 hM9)
                  go_roundg (gk1 - 1)
                  case measure => have := Hlt.out; omega
                  case rel =>
                    refine ⟨R ++ [cur], us', by have := Hlt.out; rw [List.length_append, List.length_singleton]; omega, by rw [List.length_append, List.length_singleton]; go_num, hM9, ?_, okM_snoc HH.out.2 HPC.out.2.1⟩
                    rw [plM_snoc, HH.out.1, List.length_append, List.length_singleton, tabM_snoc, HPC.out.1, HPC.out.2.2, HRW.out.2.2.2.1]
            · have hRe : R.length = m.length := by omega
              obtain ⟨va, vc, rfl, hvc1, hvc2, hrm⟩ := HO.out.value
              have HRe := Lib.hid (And.intro hRe hrm)
              clear hRe hRq hrm
              go_wp2_with fail
              rw [HDm.out]
              refine bodyPost_ret (v := .tuple #[.slice va R.length vc, .int .i64 0]) (by simp [results, Tryz.results27, go_sem]) rfl ?_
              refine ⟨va, R, vc, rfl, HRe.out.2, ?_, HH.out.2, by have := HML.out; have := HRe.out.1; omega, HK3.out.trans hkr⟩
              rw [HH.out.1, HRe.out.1]
        · have hnc1 : ((r0.length : Int) != (s0.length : Int)) = true := by simpa using (by omega : ¬ (r0.length : Int) = (s0.length : Int))
          have HE := Lib.hid (show D = ([], 3) by
            rw [HD.out]; unfold entC
            rw [HVM.out, HVN.out, HP.out, if_neg (by decide), if_neg (by decide), if_pos (by have := HC0.out; omega)])
          clear hne hnc
          go_region
          generalize w1.drew = W0 at *
          go_wp2_with fail
          rw [HE.out]
          refine bodyPost_ret (v := .tuple #[.slice none 0 0, .int .i64 3]) (by simp [results, Tryz.results27, go_sem]) rfl ?_
          exact matE_nil rfl hk3
      · have hne1 : ((m.length : Int) != (n.length : Int)) = true := by simpa using (by omega : ¬ (m.length : Int) = (n.length : Int))
        have HE := Lib.hid (show D = ([], 3) by
          rw [HD.out]; unfold entC
          rw [HVM.out, HVN.out, HP.out, if_neg (by decide), if_neg (by decide), if_pos (.inl hne)])
        clear hne
        go_region
        generalize w1.drew = W0 at *
        go_wp2_with fail
        rw [HE.out]
        refine bodyPost_ret (v := .tuple #[.slice none 0 0, .int .i64 3]) (by simp [results, Tryz.results27, go_sem]) rfl ?_
        exact matE_nil rfl hk3
set_option maxRecDepth 100000 in
set_option maxHeartbeats 8000000 in
theorem r7sub_any (a b : Option Addr) (m n : List (List RI)) (c d : Nat) (p : Int) (w : World) (hm : RowM w a m) (hn : RowM w b n) (hl : m.length ≤ 1100000) (hl2 : n.length ≤ 1100000) (hT : Tab w) :
    Calls Tryz.prog 27 #[.slice a m.length c, .slice b n.length d, .int .i64 p, .bool true] w (MatE w (entC (fun q X Y => pSub X Y q) m n p).1 (entC (fun q X Y => pSub X Y q) m n p).2) := by
  have HM := Lib.hid hm
  have HN := Lib.hid hn
  have HT := Lib.hid hT
  obtain ⟨D, hD⟩ : ∃ D, D = entC (fun q X Y => pSub X Y q) m n p := ⟨_, rfl⟩
  have HD := Lib.hid hD
  rw [← hD]
  clear hm hn hT hD
  go_enter Tryz.func27, Tryz.ntmps27
  go_wp2_with fail
  go_fit (r7fault_any a b m n c d p _ HM.out HN.out hl hl2)
  rintro e w1 ⟨rfl, hk2⟩
  by_cases hv : (!vlM m || !vlM n) = true
  · have HE := Lib.hid (show D = ([], 1) by rw [HD.out]; unfold entC; rw [if_pos hv])
    rw [show faultN m n p = 1 by unfold faultN; rw [if_pos hv]]
    clear hv
    go_wp2_with fail
    rw [HE.out]
    refine bodyPost_ret (v := .tuple #[.slice none 0 0, .int .i64 1]) (by simp [results, Tryz.results27, go_sem]) rfl ?_
    exact matE_nil rfl hk2
  · by_cases hp : preB p = false
    · have HE := Lib.hid (show D = ([], 2) by rw [HD.out]; unfold entC; rw [if_neg hv, if_pos hp])
      rw [show faultN m n p = 2 by unfold faultN; rw [if_neg hv, if_pos hp]]
      clear hv hp
      go_wp2_with fail
      rw [HE.out]
      refine bodyPost_ret (v := .tuple #[.slice none 0 0, .int .i64 2]) (by simp [results, Tryz.results27, go_sem]) rfl ?_
      exact matE_nil rfl hk2
    · have hvm : vlM m = true := by cases h : vlM m <;> simp_all
      have hvn : vlM n = true := by cases h : vlM n <;> simp_all
      have hp2 : preB p = true := by cases h : preB p <;> simp_all
      rw [show faultN m n p = 0 by unfold faultN; rw [if_neg hv, if_neg hp]]
      have HVM := Lib.hid hvm
      have HVN := Lib.hid hvn
      have HP := Lib.hid hp2
      clear hv hp hvm hvn hp2
      obtain ⟨r0, hr0, hc0⟩ := vlM_row0 HVM.out
      obtain ⟨s0, hs0, hd0⟩ := vlM_row0 HVN.out
      have hml := (vlM_iff.1 HVM.out).1
      have hmc := (vlM_iff.1 HVM.out).2.1
      have hnl := (vlM_iff.1 HVN.out).1
      have hnc := (vlM_iff.1 HVN.out).2.1
      obtain ⟨ba, oa, ra, rc, rfl, hrow, _⟩ := HM.out 0 r0 hr0
      obtain ⟨bb, ob, rb, rd, rfl, hrowb, _⟩ := HN.out 0 s0 hs0
      rw [Nat.add_zero] at hrow hrowb
      have hi1 : (0 : Int) < (m.length : Int) := by omega
      have hi2 : (0 : Int) < (n.length : Int) := by omega
      have HC0 := Lib.hid (And.intro hc0 hd0)
      have kd := (Kp.refl w1).drew
      have hk3 := hk2.trans kd
      have g1 := hk3.cell hrow
      have g2 := hk3.cell hrowb
      have hlr : r0.length ≤ 8 := by omega
      have hls : s0.length ≤ 8 := by omega
      have hlm : m.length ≤ 8 := by omega
      have hln : n.length ≤ 8 := by omega
      have HML := Lib.hid (And.intro hml (And.intro hmc (And.intro hnl hnc)))
      clear hr0 hs0 hrow hrowb hc0 hd0 kd hk2 hml hmc hnl hnc
      go_upto_region 4 with fail
      by_cases hne : m.length = n.length
      · have hne1 : ((m.length : Int) != (n.length : Int)) = false := by rw [hne]; simp
        by_cases hnc : r0.length = s0.length
        · have hnc1 : ((r0.length : Int) != (s0.length : Int)) = false := by rw [hnc]; simp
          go_region
          generalize w1.drew = W0 at *
          obtain ⟨q, hq⟩ : ∃ q : Nat, q = p.toNat := ⟨_, rfl⟩
          have hpq : p = (q : Int) := by have := preB_iff.1 HP.out; omega
          have hq0 : 8 ≤ q := by have := preB_iff.1 HP.out; omega
          have hq1 : q ≤ 512 := by have := preB_iff.1 HP.out; omega
          obtain ⟨F, hF⟩ : ∃ F : Nat → Nat → PI, F = fun i j => pSub (atP m i j) (atP n i j) q := ⟨_, rfl⟩
          have HDm := Lib.hid (show D = (tabM m.length (colsM m) F, 0) by
            rw [HD.out]; unfold entC
            rw [HVM.out, HVN.out, HP.out, if_neg (by decide), if_neg (by decide), if_neg (by have := HC0.out; omega), hF, hq])
          have HF := Lib.hid hF
          have HNE := Lib.hid (And.intro hne hnc)
          have HK3 := Lib.hid hk3
          rw [hpq]
          try rw [hne1]
          try rw [hnc1]
          clear g1 g2 hne hnc hpq hq hF hk3 hne1 hnc1
          go_wp2_with fail
          go_loopg [11, 12] m.length (fun z v x wr => ∃ (R : List (List RI)) (us : List Value), R.length + z = m.length ∧ x = .int .i64 (R.length : Int) ∧ OwnM W0 wr v us R ∧ plM R = tabM R.length (colsM m) F ∧ okM R)
          case atStart => exact ⟨[], [], by simp, rfl, OwnM.nil (Kp.refl _), rfl, fun r h => by simp at h⟩
          case round =>
            obtain ⟨R, us, hRq, rfl, hO, hpl, hok⟩ := hrel
            have HH := Lib.hid (And.intro hpl hok)
            have HO := Lib.hid hO
            have hkr := hO.1
            clear hpl hok hO
            by_cases hlt : R.length < m.length
            · obtain ⟨r, hr⟩ : ∃ r, m[R.length]? = some r := ⟨_, List.getElem?_eq_getElem hlt⟩
              obtain ⟨s, hs⟩ : ∃ s, n[R.length]? = some s := ⟨_, List.getElem?_eq_getElem (by have := HNE.out.1; omega)⟩
              obtain ⟨b2, o2, ra2, rc, e2, hrc, hrow, hrl⟩ := HM.out R.length r hr
              cases e2
              obtain ⟨b2, o2, sa2, sc, e2, hsc, hsow, hsl⟩ := HN.out R.length s hs
              cases e2
              have HRW := Lib.hid (And.intro hr (And.intro hrc (And.intro hrow (vlM_row HVM.out hr))))
              have HSW := Lib.hid (And.intro hs (And.intro hsc (And.intro hsow (vlM_row HVN.out hs))))
              have Hlt := Lib.hid (And.intro hlt hRq)
              have hr8 : r.length ≤ 8 := by have := (vlM_row HVM.out hr).1; have := HML.out.2; omega
              have hs8 : s.length = r.length := by have := (vlM_row HVM.out hr).1; have := (vlM_row HVN.out hs).1; have := HNE.out.2; have := HC0.out; omega
              have hS8 := Lib.hid hs8
              have hs9 : s.length ≤ 8 := by omega
              clear hr hrc hrow hrl hRq hs hsc hsow hsl hs8
              have hk1 : (0 : Int) ≤ (R.length : Int) := by omega
              have hk2 : (R.length : Int) < (m.length : Int) := by omega
              have hk2n : (R.length : Int) < (n.length : Int) := by have := HNE.out.1; omega
              go_wp2_with fail
              obtain ⟨gk1, hgk1⟩ : ∃ x : Nat, x = gk := ⟨_, rfl⟩
              subst hgk1
              obtain ⟨wi, hwi⟩ : ∃ x : World, x = wr := ⟨_, rfl⟩
              subst hwi
              have HKI := Lib.hid (HK3.out.trans hkr)
              clear hkr
              go_loopg [13, 14] r.length (fun z u x wr => ∃ cur : List RI, cur.length + z = r.length ∧ x = .int .i64 (cur.length : Int) ∧ OwnN wi wr u cur ∧ plR cur = rowF cur.length (F R.length) ∧ ∀ x ∈ cur, x.vl = true)
              case atStart => exact ⟨[], by simp, rfl, OwnN.nil (Kp.refl _), rfl, fun x h => by simp at h⟩
              case round =>
                obtain ⟨cur, hcq, rfl, hown0, hpc, hvc⟩ := hrel
                have hki := HKI.out.trans hown0.1
                have hrcr := hki.cell HRW.out.2.1
                by_cases hlt2 : cur.length < r.length
                · obtain ⟨x, hx⟩ : ∃ x, r[cur.length]? = some x := ⟨_, List.getElem?_eq_getElem hlt2⟩
                  obtain ⟨y, hy⟩ : ∃ y, s[cur.length]? = some y := ⟨_, List.getElem?_eq_getElem (by have := hS8.out; omega)⟩
                  obtain ⟨b3, o3, e3, hxr, hxS⟩ := (HRW.out.2.2.1.kp HKI.out) cur.length x hx
                  subst e3
                  obtain ⟨b4, o4, e4, hyr, hyS⟩ := (HSW.out.2.2.1.kp HKI.out) cur.length y hy
                  subst e4
                  have HPC := Lib.hid (And.intro hpc (And.intro hvc (And.intro hcq hlt2)))
                  have hj1 : (0 : Int) ≤ (cur.length : Int) := by omega
                  have hj2 : (cur.length : Int) < (r.length : Int) := by omega
                  have hj3 : (cur.length : Int) < (s.length : Int) := by have := hS8.out; omega
                  have hcl : cur.length + 1 ≤ 9000000 := by omega
                  have kd := (Kp.refl wr).drew
                  have kid := hown0.1.trans kd
                  have HS := Lib.hid (show wi.cell? ⟨ba, oa + R.length, none⟩ = some (.slice (some ⟨b3, o3, none⟩) r.length rc) ∧ wi.cell? ⟨bb, ob + R.length, none⟩ = some (.slice (some ⟨b4, o4, none⟩) s.length sc) ∧ wi.cell? ⟨b3, o3 + cur.length * 7, none⟩ = some (.bool x.lo.neg) ∧ wi.cell? ⟨b3, o3 + cur.length * 7 + 1, none⟩ = some (.slice x.lo.a x.lo.xs.length x.lo.c) ∧ wi.cell? ⟨b3, o3 + cur.length * 7 + 2, none⟩ = some (.int .i64 x.lo.e) ∧ wi.cell? ⟨b3, o3 + cur.length * 7 + 3, none⟩ = some (.bool x.hi.neg) ∧ wi.cell? ⟨b3, o3 + cur.length * 7 + 4, none⟩ = some (.slice x.hi.a x.hi.xs.length x.hi.c) ∧ wi.cell? ⟨b3, o3 + cur.length * 7 + 5, none⟩ = some (.int .i64 x.hi.e) ∧ wi.cell? ⟨b3, o3 + cur.length * 7 + 6, none⟩ = some (.bool x.all) ∧ wi.cell? ⟨b4, o4 + cur.length * 7, none⟩ = some (.bool y.lo.neg) ∧ wi.cell? ⟨b4, o4 + cur.length * 7 + 1, none⟩ = some (.slice y.lo.a y.lo.xs.length y.lo.c) ∧ wi.cell? ⟨b4, o4 + cur.length * 7 + 2, none⟩ = some (.int .i64 y.lo.e) ∧ wi.cell? ⟨b4, o4 + cur.length * 7 + 3, none⟩ = some (.bool y.hi.neg) ∧ wi.cell? ⟨b4, o4 + cur.length * 7 + 4, none⟩ = some (.slice y.hi.a y.hi.xs.length y.hi.c) ∧ wi.cell? ⟨b4, o4 + cur.length * 7 + 5, none⟩ = some (.int .i64 y.hi.e) ∧ wi.cell? ⟨b4, o4 + cur.length * 7 + 6, none⟩ = some (.bool y.all) from ⟨HKI.out.cell HRW.out.2.1, HKI.out.cell HSW.out.2.1, hxS.1, hxS.2.1, hxS.2.2.1, hxS.2.2.2.1, hxS.2.2.2.2.1, hxS.2.2.2.2.2.1, hxS.2.2.2.2.2.2, hyS⟩)
                  have HSd := Lib.hid (keep16 kid HS.out)
                  have HZ := Lib.hid (show pSub x.pl y.pl q = F R.length cur.length by
                    rw [HF.out]; show _ = pSub (atP m R.length cur.length) (atP n R.length cur.length) q
                    rw [atP_eq HRW.out.1 hx, atP_eq HSW.out.1 hy])
                  have HC := Lib.hid (r5sub_any x y q wr.drew (hxr.kp kid) (hyr.kp kid) (HRW.out.2.2.2.2 x (List.mem_of_getElem? hx)) (HSW.out.2.2.2.2 y (List.mem_of_getElem? hy)) hq0 hq1 (HT.out.kp (HKI.out.trans kid)))
                  have HW := Lib.hid (hown0.kp kd)
                  clear hx hy hxr hyr hxS hyS hpc hvc hcq kd kid hown0 hki
                  go_upto_region 15 with fail
                  clear hrcr
                  go_region_held3 (fun w' => w'.cell? ⟨ba, oa + R.length, none⟩ = some (.slice (some ⟨b3, o3, none⟩) r.length rc) ∧ w'.cell? ⟨bb, ob + R.length, none⟩ = some (.slice (some ⟨b4, o4, none⟩) s.length sc) ∧ w'.cell? ⟨b3, o3 + cur.length * 7, none⟩ = some (.bool x.lo.neg) ∧ w'.cell? ⟨b3, o3 + cur.length * 7 + 1, none⟩ = some (.slice x.lo.a x.lo.xs.length x.lo.c) ∧ w'.cell? ⟨b3, o3 + cur.length * 7 + 2, none⟩ = some (.int .i64 x.lo.e) ∧ w'.cell? ⟨b3, o3 + cur.length * 7 + 3, none⟩ = some (.bool x.hi.neg) ∧ w'.cell? ⟨b3, o3 + cur.length * 7 + 4, none⟩ = some (.slice x.hi.a x.hi.xs.length x.hi.c) ∧ w'.cell? ⟨b3, o3 + cur.length * 7 + 5, none⟩ = some (.int .i64 x.hi.e) ∧ w'.cell? ⟨b3, o3 + cur.length * 7 + 6, none⟩ = some (.bool x.all) ∧ w'.cell? ⟨b4, o4 + cur.length * 7, none⟩ = some (.bool y.lo.neg) ∧ w'.cell? ⟨b4, o4 + cur.length * 7 + 1, none⟩ = some (.slice y.lo.a y.lo.xs.length y.lo.c) ∧ w'.cell? ⟨b4, o4 + cur.length * 7 + 2, none⟩ = some (.int .i64 y.lo.e) ∧ w'.cell? ⟨b4, o4 + cur.length * 7 + 3, none⟩ = some (.bool y.hi.neg) ∧ w'.cell? ⟨b4, o4 + cur.length * 7 + 4, none⟩ = some (.slice y.hi.a y.hi.xs.length y.hi.c) ∧ w'.cell? ⟨b4, o4 + cur.length * 7 + 5, none⟩ = some (.int .i64 y.hi.e) ∧ w'.cell? ⟨b4, o4 + cur.length * 7 + 6, none⟩ = some (.bool y.all)) (first | with_reducible exact HSd.out | with_reducible assumption | with_reducible exact keep16 (by assumption) (by assumption) | with_reducible exact keep16 hk9 HS.out | with_reducible exact keep16 hkA HS.out | fail)
                    (first
                      | (go_at_call 78; (with_reducible refine HC.out.mono ?_); rintro e v1 ⟨z, rfl, hz, hzp, hzv, j1⟩
                         have hownA := HW.out.kp (j1.alloc (.cells #[.bool z.lo.neg, .slice z.lo.a z.lo.xs.length z.lo.c, .int .i64 z.lo.e, .bool z.hi.neg, .slice z.hi.a z.hi.xs.length z.hi.c, .int .i64 z.hi.e, .bool z.all] 43))
                         have hkA := OwnN.base hownA
                         have hzA := hz.kp ((Kp.refl v1).alloc (.cells #[.bool z.lo.neg, .slice z.lo.a z.lo.xs.length z.lo.c, .int .i64 z.lo.e, .bool z.hi.neg, .slice z.hi.a z.hi.xs.length z.hi.c, .int .i64 z.hi.e, .bool z.all] 43))
                         have ZP := Lib.hid (And.intro (hzp.trans HZ.out) hzv)
                         clear hz hzp hzv)
                      | (refine step_append_ivg (by rfl) _ _ (by rfl) wi _ cur (by rfl) hownA _ _ (by rfl) z hzA (by simp) hcl ?_; intro a' c' w9 hown9 hgrow hblk; have hk9 := OwnN.base hown9)
                      | fail)
                  go_wp2_with fail
                  go_roundg (gk - 1)
                  case measure => have := HPC.out.2.2; omega
                  case rel =>
                    refine ⟨cur ++ [z], by have := HPC.out.2.2; rw [List.length_append, List.length_singleton]; omega, by rw [List.length_append, List.length_singleton]; go_num, by simpa using hown9, ?_, ok_snoc HPC.out.2.1 ZP.out.2⟩
                    rw [plR_snoc, HPC.out.1, List.length_append, List.length_singleton, rowF_snoc, ZP.out.1]
                · have hce : cur.length = r.length := by omega
                  obtain ⟨ua, uc, rfl, huc, hum, hurow⟩ := hown0.value
                  have kA := (Kp.refl wr).alloc (.cells #[.slice ua cur.length uc] 40)
                  have HOA := HO.out.kp (hown0.1.trans kA)
                  have hoff := OwnN.off (w' := wr.alloc (.cells #[.slice ua cur.length uc] 40)) hown0 rfl HO.out.new kA.size
                  have hrowA := hurow.kp kA
                  have HPC := Lib.hid (And.intro hpc (And.intro hvc hce))
                  have hcl2 : cur.length ≤ 1100000 := by omega
                  have hRl : R.length + 1 ≤ 9000000 := by omega
                  clear hpc hvc hcq hown0 huc hum hurow hki kA hce
                  go_wp2_with (at_builtin; refine wpList_append_rowi rfl _ _ rfl W0 _ us R rfl HOA _ _ rfl ua uc cur hrowA hoff hcl2 (by simp) hRl ?_; intro v' us' w9 hM9)
                  go_roundg (gk1 - 1)
                  case measure => have := Hlt.out; omega
                  case rel =>
                    refine ⟨R ++ [cur], us', by have := Hlt.out; rw [List.length_append, List.length_singleton]; omega, by rw [List.length_append, List.length_singleton]; go_num, hM9, ?_, okM_snoc HH.out.2 HPC.out.2.1⟩
                    rw [plM_snoc, HH.out.1, List.length_append, List.length_singleton, tabM_snoc, HPC.out.1, HPC.out.2.2, HRW.out.2.2.2.1]
            · have hRe : R.length = m.length := by omega
              obtain ⟨va, vc, rfl, hvc1, hvc2, hrm⟩ := HO.out.value
              have HRe := Lib.hid (And.intro hRe hrm)
              clear hRe hRq hrm
              go_wp2_with fail
              rw [HDm.out]
              refine bodyPost_ret (v := .tuple #[.slice va R.length vc, .int .i64 0]) (by simp [results, Tryz.results27, go_sem]) rfl ?_
              refine ⟨va, R, vc, rfl, HRe.out.2, ?_, HH.out.2, by have := HML.out; have := HRe.out.1; omega, HK3.out.trans hkr⟩
              rw [HH.out.1, HRe.out.1]
        · have hnc1 : ((r0.length : Int) != (s0.length : Int)) = true := by simpa using (by omega : ¬ (r0.length : Int) = (s0.length : Int))
          have HE := Lib.hid (show D = ([], 3) by
            rw [HD.out]; unfold entC
            rw [HVM.out, HVN.out, HP.out, if_neg (by decide), if_neg (by decide), if_pos (by have := HC0.out; omega)])
          clear hne hnc
          go_region
          generalize w1.drew = W0 at *
          go_wp2_with fail
          rw [HE.out]
          refine bodyPost_ret (v := .tuple #[.slice none 0 0, .int .i64 3]) (by simp [results, Tryz.results27, go_sem]) rfl ?_
          exact matE_nil rfl hk3
      · have hne1 : ((m.length : Int) != (n.length : Int)) = true := by simpa using (by omega : ¬ (m.length : Int) = (n.length : Int))
        have HE := Lib.hid (show D = ([], 3) by
          rw [HD.out]; unfold entC
          rw [HVM.out, HVN.out, HP.out, if_neg (by decide), if_neg (by decide), if_pos (.inl hne)])
        clear hne
        go_region
        generalize w1.drew = W0 at *
        go_wp2_with fail
        rw [HE.out]
        refine bodyPost_ret (v := .tuple #[.slice none 0 0, .int .i64 3]) (by simp [results, Tryz.results27, go_sem]) rfl ?_
        exact matE_nil rfl hk3
end Go.Proofs.YtdidocdpjiiedaaGreatDoor
