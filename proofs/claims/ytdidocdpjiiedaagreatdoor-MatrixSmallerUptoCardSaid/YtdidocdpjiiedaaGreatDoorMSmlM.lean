/-
  Walks: the law's smaller.
-/
import Derived.Deep.LoopGhost
import Derived.Deep.CutRange
import Derived.Test.YtdidocdpjiiedaaGreatDoorMSmlP
import Derived.Test.YtdidocdpjiiedaaGreatDoorMMulN
import Derived.Test.YtdidocdpjiiedaaGreatDoorMF4P
namespace Go.Proofs.YtdidocdpjiiedaaGreatDoor
open Go.RowKit

/-- the end of an interval as a point -/
theorem vl_lo {w : World} {x : RI} (h : x.rd w) (v : x.vl = true) : RI.vl ⟨x.lo, x.lo, x.all⟩ = true ∧ insP (RI.pl ⟨x.lo, x.lo, x.all⟩) x.pl := by
  cases ha : x.all with
  | true =>
    unfold RI.vl at v ⊢
    rw [ha, if_pos rfl, Bool.and_eq_true] at v
    exact ⟨by simp [v.1], .inl ha⟩
  | false =>
    have ox : x.ok w := ok_of h v ha
    exact ⟨vl_mk2 ox.lo.2 ox.lo.2 (Int.le_refl _), .inr ⟨rfl, ha, Int.le_refl _, ox.parts.2.2⟩⟩
theorem vl_hi {w : World} {x : RI} (h : x.rd w) (v : x.vl = true) : RI.vl ⟨x.hi, x.hi, x.all⟩ = true ∧ insP (RI.pl ⟨x.hi, x.hi, x.all⟩) x.pl := by
  cases ha : x.all with
  | true =>
    unfold RI.vl at v ⊢
    rw [ha, if_pos rfl, Bool.and_eq_true] at v
    exact ⟨by simp [v.2], .inl ha⟩
  | false =>
    have ox : x.ok w := ok_of h v ha
    exact ⟨vl_mk2 ox.hi.2 ox.hi.2 (Int.le_refl _), .inr ⟨rfl, ha, ox.parts.2.2, Int.le_refl _⟩⟩
/-- the first rows, made smaller -/
def SmT (m R : List (List RI)) : Prop := okM R ∧ ∀ (i : Nat) (r' r : List RI), R[i]? = some r' → m[i]? = some r → inR r' r
def SmC (r cur : List RI) : Prop := (∀ x ∈ cur, x.vl = true) ∧ ∀ (j : Nat) (x' x : RI), cur[j]? = some x' → r[j]? = some x → x'.pl.ok ∧ insP x'.pl x.pl
theorem SmC.snoc {w : World} {r cur : List RI} (h : SmC r cur) {x z : RI} (hx : r[cur.length]? = some x) (hz : z.rd w) (v : z.vl = true) (hi : insP z.pl x.pl) : SmC r (cur ++ [z]) := by
  refine ⟨ok_snoc h.1 v, fun j x' y hj hy => ?_⟩
  by_cases hjl : j < cur.length
  · rw [List.getElem?_append_left hjl] at hj
    exact h.2 j x' y hj hy
  · rw [List.getElem?_append_right (by omega)] at hj
    have hjj : j = cur.length := by
      have := (List.getElem?_eq_some_iff.1 hj).1
      simp at this; omega
    subst hjj
    simp at hj; subst hj
    rw [hx] at hy; cases hy
    exact ⟨RI.pl_ok hz v, hi⟩
theorem SmT.snoc {m R : List (List RI)} (h : SmT m R) {r cur : List RI} (hr : m[R.length]? = some r) (hc : SmC r cur) (hl : cur.length = r.length) : SmT m (R ++ [cur]) := by
  refine ⟨okM_snoc h.1 hc.1, fun i r' q hi hq => ?_⟩
  by_cases hil : i < R.length
  · rw [List.getElem?_append_left hil] at hi
    exact h.2 i r' q hi hq
  · rw [List.getElem?_append_right (by omega)] at hi
    have hii : i = R.length := by
      have := (List.getElem?_eq_some_iff.1 hi).1
      simp at this; omega
    subst hii
    simp at hi; subst hi
    rw [hr] at hq; cases hq
    exact ⟨hl, hc.2⟩
theorem OwnN.store3 {wb w : World} {v : Value} {zs : List RI} (h : OwnN wb w v zs) {g i j k : Nat} (hg : wb.heap.size ≤ g) (hv : v.ownBlock ≠ some g) (hij : i ≠ j) (hik : i ≠ k) (hjk : j ≠ k) {u0 u1 u2 : Value}
    (c0 : w.cell? ⟨g, i, none⟩ = some u0) (n0 : NoU u0) (c1 : w.cell? ⟨g, j, none⟩ = some u1) (n1 : NoU u1) (c2 : w.cell? ⟨g, k, none⟩ = some u2) (n2 : NoU u2) (y0 y1 y2 : Value) :
    OwnN wb (((w.setCell ⟨g, i, none⟩ y0).setCell ⟨g, j, none⟩ y1).setCell ⟨g, k, none⟩ y2) v zs :=
  ((h.store hg c0 n0 hv y0).store hg (set_at hij c1) n1 hv y1).store hg (set_at hjk (set_at hik c2)) n2 hv y2
theorem vlM_inM {m Z : List (List RI)} (hm : vlM m = true) (h : inM Z m) (ho : okM Z) : vlM Z = true := by
  obtain ⟨h1, h2, _⟩ := vlM_iff.1 hm
  have key : ∀ (i : Nat) r', Z[i]? = some r' → r'.length = colsM m := fun i r' hi => by
    have hil := (List.getElem?_eq_some_iff.1 hi).1
    have hil2 : i < m.length := by rw [← h.1]; exact hil
    rw [(h.2 i r' _ hi (List.getElem?_eq_getElem hil2)).1]
    exact (vlM_row hm (List.getElem?_eq_getElem hil2)).1
  have h0 : 0 < Z.length := by rw [h.1]; omega
  have hc : colsM Z = colsM m := by
    rw [colsM_eq (List.getElem?_eq_getElem h0)]
    exact key 0 _ (List.getElem?_eq_getElem h0)
  rw [vlM_iff, hc, h.1]
  refine ⟨h1, h2, fun r hr => ?_⟩
  obtain ⟨i, hi⟩ := List.getElem?_of_mem hr
  exact ⟨key i r hi, ho r hr⟩
set_option maxRecDepth 100000 in
set_option maxHeartbeats 8000000 in
theorem smaller_any (a : Option Addr) (m : List (List RI)) (c : Nat) (n0 : Int) (w : World) (hm : RowM w a m) (hv : vlM m = true) :
    Calls Tryz.prog 30 #[.slice a m.length c, .int .u64 n0] w fun e w' => ∃ (aZ : Option Addr) (Z : List (List RI)) (cZ : Nat), e = .returned (.slice aZ Z.length cZ) ∧ RowM w' aZ Z ∧ vlM Z = true ∧ inM Z m ∧ Kp w w' := by
  have HM := Lib.hid hm
  have HVM := Lib.hid hv
  have hml := (vlM_iff.1 hv).1
  have hmc := (vlM_iff.1 hv).2.1
  have hm8 : m.length ≤ 8 := hml.2
  obtain ⟨r0, hr0, hc0⟩ := vlM_row0 hv
  obtain ⟨ba, oa, _, _, rfl, _⟩ := hm 0 r0 hr0
  have HML := Lib.hid (And.intro hml hmc)
  clear hm hv hml hmc hr0 hc0
  go_enter Tryz.func30, Tryz.ntmps30
  go_wp2_with fail
  go_loopg [1, 5, 13] m.length (fun q nv v x wr => ∃ (n1 : Int) (R : List (List RI)) (us : List Value), nv = .int .u64 n1 ∧ R.length + q = m.length ∧ x = .int .i64 (R.length : Int) ∧ OwnM w wr v us R ∧ SmT m R)
  case atStart => exact ⟨n0, [], [], rfl, by simp, rfl, OwnM.nil (Kp.refl _), fun r h => by simp at h, fun i r' r h => by simp at h⟩
  case round =>
    obtain ⟨n1, R, us, rfl, hRq, rfl, hO, hS⟩ := hrel
    have HS := Lib.hid hS
    have HO := Lib.hid hO
    have hkr := hO.1
    clear hS hO
    by_cases hlt : R.length < m.length
    · obtain ⟨r, hr⟩ : ∃ r, m[R.length]? = some r := ⟨_, List.getElem?_eq_getElem hlt⟩
      obtain ⟨b2, o2, ra2, rc2, e2, hrc, hrow, hrl⟩ := HM.out R.length r hr
      cases e2
      have hrc1 := hkr.cell hrc
      have HRW := Lib.hid (And.intro hr (And.intro hrow (vlM_row HVM.out hr)))
      have Hlt := Lib.hid (And.intro hlt hRq)
      have hr8 : r.length ≤ 8 := by have := (vlM_row HVM.out hr).1; have := HML.out.2; omega
      clear hr hrc hrow hrl hRq
      have hk1 : (0 : Int) ≤ (R.length : Int) := by omega
      have hk2 : (R.length : Int) < (m.length : Int) := by omega
      go_wp2_with fail
      clear hrc1
      obtain ⟨gk1, hgk1⟩ : ∃ x : Nat, x = gk := ⟨_, rfl⟩
      subst hgk1
      obtain ⟨wi, hwi⟩ : ∃ x : World, x = wr := ⟨_, rfl⟩
      subst hwi
      go_loopg [1, 8, 19] r.length (fun z nv u x wr => ∃ (n1 : Int) (cur : List RI), nv = .int .u64 n1 ∧ cur.length + z = r.length ∧ x = .int .i64 (cur.length : Int) ∧ OwnN wi wr u cur ∧ SmC r cur)
      case atStart => exact ⟨n1, [], rfl, by simp, rfl, OwnN.nil (Kp.refl _), fun x h => by simp at h, fun j x' x h => by simp at h⟩
      case round =>
        obtain ⟨n2, cur, rfl, hcq, rfl, hown0, hC⟩ := hrel
        have hki := hkr.trans hown0.1
        by_cases hlt2 : cur.length < r.length
        · obtain ⟨x, hx⟩ : ∃ x, r[cur.length]? = some x := ⟨_, List.getElem?_eq_getElem hlt2⟩
          obtain ⟨b3, o3, e3, hxr, s0, s1, s2, s3, s4, s5, s6⟩ := (HRW.out.2.1.kp hki) cur.length x hx
          subst e3
          have kA := (Kp.refl wr).alloc (.cells #[.bool x.lo.neg, .slice x.lo.a x.lo.xs.length x.lo.c, .int .i64 x.lo.e, .bool x.hi.neg, .slice x.hi.a x.hi.xs.length x.hi.c, .int .i64 x.hi.e, .bool x.all] 43)
          have HX := Lib.hid (And.intro hx (And.intro (hxr.kp kA) (HRW.out.2.2.2 x (List.mem_of_getElem? hx))))
          have HC := Lib.hid (And.intro hC (And.intro hcq hlt2))
          have hj1 : (0 : Int) ≤ (cur.length : Int) := by omega
          have hj2 : (cur.length : Int) < (r.length : Int) := by omega
          have hcl : cur.length + 1 ≤ 9000000 := by omega
          have hownA := hown0.kp kA
          have hgwi : wi.heap.size ≤ wr.heap.size := hown0.1.size
          have hub : ∀ g, u8.ownBlock = some g → g < wr.heap.size := hown0.new
          clear hx hxr hC hcq hown0 hki
          go_upto_region 9 with fail
          clear s0 s1 s2 s3 s4 s5 s6
          generalize hW3 : wr.alloc _ = W3 at *
          have hxb : Box7 W3 wr.heap.size (.bool x.lo.neg) (.slice x.lo.a x.lo.xs.length x.lo.c) (.int .i64 x.lo.e) (.bool x.hi.neg) (.slice x.hi.a x.hi.xs.length x.hi.c) (.int .i64 x.hi.e) (.bool x.all) := by rw [← hW3]; exact Box7.new _ _ _ _ _ _ _ _ _
          have hxf : Frz W3 wr.heap.size := by rw [← hW3]; exact Frz.new _ _ _ _ _ _ _ _ _
          clear hW3 kA
          go_cut [1] from 23 to 25 (fun s wx => (∃ n : Int, s = .int .u64 n) ∧ wx = W3)
          case first =>
            go_wp2_with fail
            go_meet
            case rel => exact ⟨⟨_, rfl⟩, rfl⟩
          case rest =>
          obtain ⟨⟨n3, rfl⟩, rfl⟩ := hcut
          go_upto_region 10 with fail
          go_cut [27] from 26 to 27 (fun s wx => (∃ k : Int, s = .int .u64 k) ∧ wx = wc)
          case first =>
            go_wp2_with fail
            go_meet
            case rel => exact ⟨⟨_, rfl⟩, rfl⟩
          case rest =>
          obtain ⟨⟨k9, rfl⟩, hwc⟩ := hcut
          subst hwc
          obtain ⟨W3, hW3⟩ : ∃ x : World, x = wc := ⟨_, rfl⟩
          subst hW3
          have hne : u8.ownBlock ≠ some wr.heap.size := fun e => by have := hub _ e; omega
          have Hgn := Lib.hid (And.intro hne hgwi)
          clear hub hne hgwi
          obtain ⟨q0, q1, q2, q3, q4, q5, q6⟩ := id hxb
          obtain ⟨f0, f1, f2, f3, f4, f5, f6⟩ := id hxf
          by_cases hz0 : k9 = 0
          · have hz : (k9 == 0) = true := beq_iff_eq.2 hz0
            have hz1 : (k9 == 1) = false := beq_eq_false_iff_ne.2 (by omega)
            clear hz0
            go_upto_region 15 with fail
            generalize hW4 : (((W3.setCell _ _).setCell _ _).setCell _ _) = W4
            obtain ⟨hB, hU⟩ := stored73 hxb (fun _ h => by cases h) (fun _ h => by cases h) (fun _ h => by cases h) _ _ _ _ hW4
            have hownW : OwnN wi W4 u8 cur := by rw [← hW4]; exact hownA.store3 Hgn.out.2 Hgn.out.1 (by decide) (by decide) (by decide) q3 (fun _ h => by cases h) q4 (fun _ h => by cases h) q5 (fun _ h => by cases h) _ _ _
            have hrdW := hU.rdI (show RI.rd W3 ⟨x.lo, x.lo, x.all⟩ from ⟨HX.out.2.1.1, HX.out.2.1.1⟩)
            clear hW4 hownA hxb hxf q0 q1 q2 q3 q4 q5 q6 f0 f1 f2 f3 f4 f5 f6 hU
            have hB9 := Lib.hid hB
            have kZ := (Kp.refl W4).alloc (.cells #[.bool (RI.mk x.lo x.lo x.all).lo.neg, .slice (RI.mk x.lo x.lo x.all).lo.a (RI.mk x.lo x.lo x.all).lo.xs.length (RI.mk x.lo x.lo x.all).lo.c, .int .i64 (RI.mk x.lo x.lo x.all).lo.e, .bool (RI.mk x.lo x.lo x.all).hi.neg, .slice (RI.mk x.lo x.lo x.all).hi.a (RI.mk x.lo x.lo x.all).hi.xs.length (RI.mk x.lo x.lo x.all).hi.c, .int .i64 (RI.mk x.lo x.lo x.all).hi.e, .bool (RI.mk x.lo x.lo x.all).all] 43)
            have hown9 := hownW.kp kZ
            have hrd9 := hrdW.kp kZ
            have HV9 := Lib.hid (vl_lo HX.out.2.1 HX.out.2.2)
            obtain ⟨s0, s1, s2, s3, s4, s5, s6⟩ := id hB
            clear hB
            go_wp2_with (at_builtin; refine wpList_append_ivg rfl _ _ rfl wi _ cur rfl hown9 _ _ rfl (RI.mk x.lo x.lo x.all) hrd9 (by simp) hcl ?_; intro a' c' w9 hown8 hgrow hblk)
            go_roundg (gk - 1)
            case measure => have := HC.out.2; omega
            case rel => exact ⟨_, cur ++ [(RI.mk x.lo x.lo x.all)], rfl, by have := HC.out.2; rw [List.length_append, List.length_singleton]; omega, by rw [List.length_append, List.length_singleton]; go_num, by simpa using hown8, HC.out.1.snoc HX.out.1 hrdW HV9.out.1 HV9.out.2⟩
          · have hz : (k9 == 0) = false := beq_eq_false_iff_ne.2 hz0
            by_cases hz1 : k9 = 1
            · have hz2 : (k9 == 1) = true := beq_iff_eq.2 hz1
              clear hz0 hz1
              go_upto_region 15 with fail
              generalize hW4 : (((W3.setCell _ _).setCell _ _).setCell _ _) = W4
              obtain ⟨hB, hU⟩ := stored70 hxb (fun _ h => by cases h) (fun _ h => by cases h) (fun _ h => by cases h) _ _ _ _ hW4
              have hownW : OwnN wi W4 u8 cur := by rw [← hW4]; exact hownA.store3 Hgn.out.2 Hgn.out.1 (by decide) (by decide) (by decide) q0 (fun _ h => by cases h) q1 (fun _ h => by cases h) q2 (fun _ h => by cases h) _ _ _
              have hrdW := hU.rdI (show RI.rd W3 ⟨x.hi, x.hi, x.all⟩ from ⟨HX.out.2.1.2, HX.out.2.1.2⟩)
              clear hW4 hownA hxb hxf q0 q1 q2 q3 q4 q5 q6 f0 f1 f2 f3 f4 f5 f6 hU
              have hB9 := Lib.hid hB
              have kZ := (Kp.refl W4).alloc (.cells #[.bool (RI.mk x.hi x.hi x.all).lo.neg, .slice (RI.mk x.hi x.hi x.all).lo.a (RI.mk x.hi x.hi x.all).lo.xs.length (RI.mk x.hi x.hi x.all).lo.c, .int .i64 (RI.mk x.hi x.hi x.all).lo.e, .bool (RI.mk x.hi x.hi x.all).hi.neg, .slice (RI.mk x.hi x.hi x.all).hi.a (RI.mk x.hi x.hi x.all).hi.xs.length (RI.mk x.hi x.hi x.all).hi.c, .int .i64 (RI.mk x.hi x.hi x.all).hi.e, .bool (RI.mk x.hi x.hi x.all).all] 43)
              have hown9 := hownW.kp kZ
              have hrd9 := hrdW.kp kZ
              have HV9 := Lib.hid (vl_hi HX.out.2.1 HX.out.2.2)
              obtain ⟨s0, s1, s2, s3, s4, s5, s6⟩ := id hB
              clear hB
              go_wp2_with (at_builtin; refine wpList_append_ivg rfl _ _ rfl wi _ cur rfl hown9 _ _ rfl (RI.mk x.hi x.hi x.all) hrd9 (by simp) hcl ?_; intro a' c' w9 hown8 hgrow hblk)
              go_roundg (gk - 1)
              case measure => have := HC.out.2; omega
              case rel => exact ⟨_, cur ++ [(RI.mk x.hi x.hi x.all)], rfl, by have := HC.out.2; rw [List.length_append, List.length_singleton]; omega, by rw [List.length_append, List.length_singleton]; go_num, by simpa using hown8, HC.out.1.snoc HX.out.1 hrdW HV9.out.1 HV9.out.2⟩
            · have hz2 : (k9 == 1) = false := beq_eq_false_iff_ne.2 hz1
              clear hz0 hz1
              go_upto_region 15 with fail
              have hB := hxb
              have hownW := hownA
              have hrdW := HX.out.2.1
              clear hownA hxb hxf q0 q1 q2 q3 q4 q5 q6 f0 f1 f2 f3 f4 f5 f6
              have hB9 := Lib.hid hB
              have kZ := (Kp.refl W3).alloc (.cells #[.bool x.lo.neg, .slice x.lo.a x.lo.xs.length x.lo.c, .int .i64 x.lo.e, .bool x.hi.neg, .slice x.hi.a x.hi.xs.length x.hi.c, .int .i64 x.hi.e, .bool x.all] 43)
              have hown9 := hownW.kp kZ
              have hrd9 := hrdW.kp kZ
              have HV9 := Lib.hid (And.intro HX.out.2.2 (insP.refl x.pl))
              obtain ⟨s0, s1, s2, s3, s4, s5, s6⟩ := id hB
              clear hB
              go_wp2_with (at_builtin; refine wpList_append_ivg rfl _ _ rfl wi _ cur rfl hown9 _ _ rfl x hrd9 (by simp) hcl ?_; intro a' c' w9 hown8 hgrow hblk)
              go_roundg (gk - 1)
              case measure => have := HC.out.2; omega
              case rel => exact ⟨_, cur ++ [x], rfl, by have := HC.out.2; rw [List.length_append, List.length_singleton]; omega, by rw [List.length_append, List.length_singleton]; go_num, by simpa using hown8, HC.out.1.snoc HX.out.1 hrdW HV9.out.1 HV9.out.2⟩
        · have hce : cur.length = r.length := by omega
          obtain ⟨ua, uc, rfl, huc, hum, hurow⟩ := hown0.value
          have kA := (Kp.refl wr).alloc (.cells #[.slice ua cur.length uc] 40)
          have HOA := HO.out.kp (hown0.1.trans kA)
          have hoff := OwnN.off (w' := wr.alloc (.cells #[.slice ua cur.length uc] 40)) hown0 rfl HO.out.new kA.size
          have hrowA := hurow.kp kA
          have HPC := Lib.hid (And.intro hC hce)
          have hcl2 : cur.length ≤ 1100000 := by omega
          have hRl : R.length + 1 ≤ 9000000 := by omega
          clear hC hcq hown0 huc hum hurow hki kA hce
          go_wp2_with (at_builtin; refine wpList_append_rowi rfl _ _ rfl w _ us R rfl HOA _ _ rfl ua uc cur hrowA hoff hcl2 (by simp) hRl ?_; intro v' us' w9 hM9)
          go_roundg (gk1 - 1)
          case measure => have := Hlt.out; omega
          case rel => exact ⟨_, R ++ [cur], us', rfl, by have := Hlt.out; rw [List.length_append, List.length_singleton]; omega, by rw [List.length_append, List.length_singleton]; go_num, hM9, HS.out.snoc HRW.out.1 HPC.out.1 HPC.out.2⟩
    · have hRe : R.length = m.length := by omega
      obtain ⟨va, vc, rfl, hvc1, hvc2, hrm⟩ := HO.out.value
      have HRe := Lib.hid (And.intro hRe hrm)
      clear hRe hRq hrm
      go_wp2_with fail
      refine bodyPost_ret (v := .slice va R.length vc) (by simp [results, Tryz.results30, go_sem]) rfl ?_
      have hin : inM R m := ⟨HRe.out.1, HS.out.2⟩
      exact ⟨va, R, vc, rfl, HRe.out.2, vlM_inM HVM.out hin HS.out.1, hin, hkr⟩
end Go.Proofs.YtdidocdpjiiedaaGreatDoor
