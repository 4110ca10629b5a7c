/-
  Walks: the law FrameContains.
-/
import Derived.Deep.LoopGhost
import Derived.Deep.CutRange
import Derived.Deep.DeepFit
import Derived.Deep.RegionHeld3
import Derived.Test.YtdlpiblgkpgplaaGreatDoorMAwkF
import Derived.Test.YtdlpiblgkpgplaaGreatDoorMSmF
import Derived.Test.YtdlpiblgkpgplaaGreatDoorMEqfN
namespace Go.Proofs.YtdlpiblgkpgplaaGreatDoor
open Go.RowKit

theorem boxF_len (f : RF) (p : Nat) : (boxF f p).length = f.cs.length := by unfold boxF rowF; simp
theorem ptM_at {r : List RD} : ∀ {m : List (RD × List RD)} {l : List Dy} {i : Nat} {t : Dy}, ptM r m = some l → l[i]? = some t → ∃ c row, m[i]? = some (c, row) ∧ ptR row r c.dy = some t
  | [], l, i, t, h, hi => by unfold ptM at h; cases h; simp at hi
  | (c, row) :: m, l, i, t, h, hi => by
    unfold ptM at h
    cases hs : ptR row r c.dy with
    | none => rw [hs] at h; cases h
    | some s =>
      rw [hs] at h
      have h : (match ptM r m with | none => none | some l => some (s :: l)) = some l := h
      cases hm : ptM r m with
      | none => rw [hm] at h; cases h
      | some l' =>
        rw [hm] at h
        have h : some (s :: l') = some l := h
        cases h
        cases i with
        | zero => simp at hi; subst hi; exact ⟨c, row, rfl, hs⟩
        | succ i =>
          rw [List.getElem?_cons_succ] at hi
          obtain ⟨c', row', h1, h2⟩ := ptM_at hm hi
          exact ⟨c', row', by rw [List.getElem?_cons_succ]; exact h1, h2⟩
theorem ptC_cases (f : RF) (r : List RD) : (ptC f r).2 ≠ 0 ∨ ∃ l, ptC f r = (l, 0) ∧ ptM r (f.cs.zip f.ms) = some l := by
  unfold ptC
  split
  · exact .inl (by decide)
  · split
    · exact .inl (by decide)
    · split
      · exact .inl (by decide)
      · cases h : ptM r (f.cs.zip f.ms) with
        | none => exact .inl (by decide)
        | some l => exact .inr ⟨l, rfl, rfl⟩
/-- each component of a point is in the box -/
theorem pt_in {w w' w'' : World} {f : RF} {p : Int} (hp : preB p = true) (hv : vlF f = true) (rr : ∀ u ∈ f.rs, u.rd w) (ra : ∀ r ∈ f.ms, ∀ u ∈ r, u.rd w') (rc : ∀ u ∈ f.cs, u.rd w'') {z : List RD} (ez : endsR f.rs z) {l : List Dy} (hl : ptM z (f.cs.zip f.ms) = some l) {Y : List RI} (hY : plR Y = boxF f p.toNat) {i : Nat} {t : Dy} {I : RI} (ht : l[i]? = some t) (hI : Y[i]? = some I) : hasX I.pl t.iv = true := by
  obtain ⟨c, row, h1, h2⟩ := ptM_at hl ht
  obtain ⟨hc, hr⟩ := List.getElem?_zip_eq_some.1 h1
  have hil := (List.getElem?_eq_some_iff.1 hc).1
  have h3 := preB_iff.1 hp
  have := pt_box (p := p.toNat) (by omega) (by omega) hv rr ra ez hc hr (rc c (List.mem_of_getElem? hc)) h2
  have h4 : (plR Y)[i]? = some I.pl := by simp [plR, hI]
  rw [hY] at h4
  unfold boxF rowF at h4
  rw [List.getElem?_map, List.getElem?_range hil] at h4
  have e := Option.some.inj h4
  rw [← e]
  exact hasX_of this
set_option maxRecDepth 100000 in
set_option maxHeartbeats 16000000 in
theorem FContains_ok (f : RF) (p : Int) (w : World) (hf : f.rd w) (hT : Tab w) :
    Calls Tryz.prog 4 #[.agg #[.slice f.ca f.cs.length f.cc, .slice f.aa f.ms.length f.ac, .slice f.ra f.rs.length f.rc], .int .i64 p] w fun e w' => e = .returned (.bool true) ∧ Kp w w' := by
  have kk := (Kp.refl w).alloc (.cells #[.slice f.ca f.cs.length f.cc, .slice f.aa f.ms.length f.ac, .slice f.ra f.rs.length f.rc] 26)
  have HF := Lib.hid hf
  have HT := Lib.hid hT
  clear hf hT
  go_enter Tryz.func4, Tryz.ntmps4
  go_upto_region 1 with fail
  generalize hW : w.alloc _ = W at *
  have HS := Lib.hid (show W.cell? ⟨w.heap.size, 0, none⟩ = some (.slice f.ca f.cs.length f.cc) ∧ W.cell? ⟨w.heap.size, 1, none⟩ = some (.slice f.aa f.ms.length f.ac) ∧ W.cell? ⟨w.heap.size, 2, none⟩ = some (.slice f.ra f.rs.length f.rc) by rw [← hW]; simp)
  clear hW
  go_wp2_with fail
  go_fit (awakeF_any _ (HT.out.kp kk))
  rintro e w1 ⟨rfl, k1⟩
  have HK1 := Lib.hid (kk.trans k1)
  have HS1 := Lib.hid (keepF k1 HS.out)
  obtain ⟨s0, s1, s2⟩ := id HS1.out
  clear kk k1
  go_wp2_with fail
  go_fit (greatF_any f _ (HF.out.kp HK1.out))
  rintro e w2 ⟨rfl, k2⟩
  have HK2 := Lib.hid (HK1.out.trans k2)
  have HS2 := Lib.hid (keepF k2 HS1.out)
  clear s0 s1 s2 k2
  cases hg : greatF f with
  | true =>
    clear hg
    go_wp2_with fail
    go_ret
    exact ⟨rfl, HK2.out⟩
  | false =>
  clear hg
  go_wp2_with fail
  go_fit (fineF_any p _)
  rintro e w3 ⟨rfl, rfl⟩
  cases hfi : fineF p with
  | false =>
    clear hfi
    go_wp2_with fail
    go_ret
    exact ⟨rfl, HK2.out⟩
  | true =>
  clear hfi
  obtain ⟨s0, s1, s2⟩ := id HS2.out
  go_wp2_with fail
  go_fit (fval_any f _ (HF.out.kp HK2.out))
  rintro e w4 ⟨rfl, k4⟩
  have HK4 := Lib.hid (HK2.out.trans k4)
  have HS4 := Lib.hid (keepF k4 HS2.out)
  clear s0 s1 s2 k4
  cases hv : vlF f with
  | false =>
    clear hv
    go_wp2_with fail
    go_ret
    exact ⟨rfl, HK4.out⟩
  | true =>
  have HV := Lib.hid hv
  have HL := Lib.hid (vlF_iff.1 hv)
  obtain ⟨s0, s1, s2⟩ := id HS4.out
  clear hv
  go_wp2_with fail
  go_fit (fbox_any f p _ (HF.out.kp HK4.out) (HT.out.kp HK4.out))
  rintro e w5 ⟨aY, Y, cY, rfl, rY, pY, vY, lY, k5⟩
  have HY := Lib.hid (And.intro rY (And.intro pY vY))
  have HK5 := Lib.hid (HK4.out.trans k5)
  have HS5 := Lib.hid (keepF k5 HS4.out)
  have HYl := Lib.hid (show Y.length = (boxC f p).length by have := congrArg List.length pY; simpa [plR] using this)
  clear s0 s1 s2 k5 rY pY vY lY
  cases hp : preB p with
  | false =>
    have hz := Lib.hid (show Y.length = 0 by rw [HYl.out]; unfold boxC; rw [hp]; simp)
    rw [hz.out]
    by_cases h8 : p < 8
    · clear hp
      go_wp2_with fail
      go_ret
      exact ⟨rfl, HK5.out⟩
    · have h512 : 512 < p := by
        rcases Int.lt_or_le 512 p with h | h
        · exact h
        · have := preB_iff.2 ⟨by omega, h⟩
          rw [hp] at this; cases this
      clear hp
      go_wp2_with fail
      go_ret
      exact ⟨rfl, HK5.out⟩
  | true =>
  have HP := Lib.hid hp
  have h8 : ¬ p < 8 := by have := preB_iff.1 hp; omega
  have h512 : ¬ 512 < p := by have := preB_iff.1 hp; omega
  have HPB := Lib.hid (show plR Y = boxF f p.toNat by rw [HY.out.2.1]; unfold boxC; rw [HV.out, hp]; rfl)
  have hYl : Y.length = f.cs.length := by rw [HYl.out]; unfold boxC; rw [HV.out, hp]; exact boxF_len _ _
  have HYn := Lib.hid hYl
  have hne : ((Y.length : Int) != (f.cs.length : Int)) = false := by rw [hYl]; simp
  obtain ⟨s0, s1, s2⟩ := id HS5.out
  clear hp hYl
  go_upto_region 10 with fail
  have hn8 : f.cs.length ≤ 8 := HL.out.1.2
  go_cut [49, 50] from 46 to 50 (fun s t wx => (∃ K : Nat, s = .int .i64 (K : Int) ∧ K ≤ 256) ∧ t = .int .i64 0 ∧ wx = w5)
  case first =>
    have hn0 : (0 : Int) ≤ (f.cs.length : Int) := by omega
    go_wp2_with fail
    go_meet
    case rel =>
      refine ⟨⟨2 ^ f.cs.length, ?_, ?_⟩, rfl, rfl⟩
      · have h1 : 2 ^ f.cs.length ≤ 2 ^ 8 := Nat.pow_le_pow_right (by decide) hn8
        have h2 : (2 : Int) ^ f.cs.length = ((2 ^ f.cs.length : Nat) : Int) := by rw [Int.natCast_pow]; rfl
        rw [h2]
        generalize 2 ^ f.cs.length = M at *
        rw [IntWalk.wrap64_in _ ⟨by omega, by omega⟩]
      · exact Nat.le_trans (Nat.pow_le_pow_right (by decide) hn8) (by decide)
  case rest =>
  obtain ⟨⟨K, rfl, hK⟩, rfl, hwc⟩ := hcut
  subst hwc
  obtain ⟨W5, hW5⟩ : ∃ x : World, x = wc := ⟨_, rfl⟩
  subst hW5
  clear s0 s1 s2 hne h8 h512
  obtain ⟨x00, hx00⟩ : ∃ x, f.rs[0]? = some x := ⟨_, List.getElem?_eq_getElem (by have := HL.out; omega)⟩
  obtain ⟨br, orr, er, _⟩ := HF.out.2.2.1 0 x00 hx00
  have ER := Lib.hid er
  clear er hx00
  go_wp2_with fail
  go_loopg [50] K (fun q v wr => ∃ t : Nat, t + q = K ∧ v = .int .i64 (t : Int) ∧ Kp W5 wr)
  case atStart => exact ⟨0, by omega, rfl, .refl _⟩
  case round =>
    obtain ⟨t, htq, rfl, hkr⟩ := hrel
    have HKR := Lib.hid hkr
    have HSR := Lib.hid (keepF hkr HS5.out)
    clear hkr
    by_cases hlt : t < K
    · have Hlt := Lib.hid (And.intro hlt htq)
      have ht0 : (0 : Int) ≤ (t : Int) := by omega
      have ht1 : (t : Int) < (K : Int) := by omega
      obtain ⟨s0, s1, s2⟩ := id HSR.out
      clear hlt htq
      go_upto_region 14 with fail
      go_cut [54, 55, 56] from 53 to 56 (fun s t u wx => s = .slice (some ⟨br, orr, none⟩) f.rs.length f.rc ∧ t = .int .i64 (f.rs.length : Int) ∧ u = .int .i64 0 ∧ wx = wr)
      case first =>
        go_wp2_with fail
        go_meet
        case rel => exact ⟨by rw [ER.out], rfl, rfl, rfl⟩
      case rest =>
      obtain ⟨rfl, rfl, rfl, hwc⟩ := hcut
      subst hwc
      obtain ⟨V, hV⟩ : ∃ x : World, x = wc := ⟨_, rfl⟩
      subst hV
      obtain ⟨gk1, hgk1⟩ : ∃ x : Nat, x = gk := ⟨_, rfl⟩
      subst hgk1
      clear s0 s1 s2
      go_wp2_with fail
      go_loopg [7, 56] f.rs.length (fun q v x wr => ∃ z : List RD, z.length + q = f.rs.length ∧ x = .int .i64 (z.length : Int) ∧ OwnE V wr v z ∧ endsP f.rs z)
      case atStart => exact ⟨[], by simp, rfl, OwnE.nil (Kp.refl _), fun j x d _ h => by simp at h⟩
      case round =>
        obtain ⟨z, hzq, rfl, hown, hE⟩ := hrel
        have HOW := Lib.hid hown
        have HE := Lib.hid hE
        have HKZ := Lib.hid ((HK5.out.trans HKR.out).trans hown.1)
        clear hown hE
        by_cases hlt2 : z.length < f.rs.length
        · obtain ⟨x, hx⟩ : ∃ x, f.rs[z.length]? = some x := ⟨_, List.getElem?_eq_getElem hlt2⟩
          obtain ⟨b3, o3, e3, hxr, x0, x1, x2, x3, x4, x5, x6⟩ := (HF.out.2.2.1.kp HKZ.out) z.length x hx
          have kA := (Kp.refl wr).alloc (.cells #[.bool x.lo.neg, .slice x.lo.a x.lo.xs.length x.lo.c, .int .i64 x.lo.e, .bool x.hi.neg, .slice x.hi.a x.hi.xs.length x.hi.c, .int .i64 x.hi.e, .bool x.all] 35)
          have HX := Lib.hid (And.intro hx (And.intro (hxr.kp kA) hxr))
          have HOWA := Lib.hid (HOW.out.kp kA)
          have hj1 : (0 : Int) ≤ (z.length : Int) := by omega
          have hj2 : (z.length : Int) < (f.rs.length : Int) := by omega
          have Hzq := Lib.hid (And.intro hzq hlt2)
          have hcl : z.length + 1 ≤ 9000000 := by have := HL.out; omega
          have hz8 : z.length ≤ 8 := by have := HL.out; omega
          cases ER.out.symm.trans e3
          clear e3 hx hxr hzq hlt2
          go_upto_region 17 with fail
          clear x0 x1 x2 x3 x4 x5 x6
          generalize hW4 : wr.alloc _ = W4 at *
          have HXB := Lib.hid (show W4.cell? ⟨wr.heap.size, 0, none⟩ = some (.bool x.lo.neg) ∧ W4.cell? ⟨wr.heap.size, 1, none⟩ = some (.slice x.lo.a x.lo.xs.length x.lo.c) ∧ W4.cell? ⟨wr.heap.size, 2, none⟩ = some (.int .i64 x.lo.e) ∧ W4.cell? ⟨wr.heap.size, 3, none⟩ = some (.bool x.hi.neg) ∧ W4.cell? ⟨wr.heap.size, 4, none⟩ = some (.slice x.hi.a x.hi.xs.length x.hi.c) ∧ W4.cell? ⟨wr.heap.size, 5, none⟩ = some (.int .i64 x.hi.e) ∧ W4.cell? ⟨wr.heap.size, 6, none⟩ = some (.bool x.all) by rw [← hW4]; simp)
          clear hW4 kA
          go_cut [65] from 61 to 65 (fun s wx => (∃ bb : Bool, s = .bool bb) ∧ wx = W4)
          case first =>
            go_wp2_with fail
            go_meet
            case rel => exact ⟨⟨_, rfl⟩, rfl⟩
          case rest =>
          obtain ⟨⟨bb, rfl⟩, hwc⟩ := hcut
          subst hwc
          obtain ⟨W4, hW4⟩ : ∃ x : World, x = wc := ⟨_, rfl⟩
          subst hW4
          obtain ⟨x0, x1, x2, x3, x4, x5, x6⟩ := HXB.out
          cases bb with
          | true =>
            have kB := (Kp.refl W4).alloc (.cells #[.bool x.lo.neg, .slice x.lo.a x.lo.xs.length x.lo.c, .int .i64 x.lo.e] 33)
            have hownB := HOWA.out.kp kB
            have hdB := HX.out.2.1.1.kp kB
            go_wp2_with (at_builtin; refine wpList_append_dyn rfl _ _ rfl V _ z rfl hownB _ _ rfl x.lo hdB (by simp) hcl ?_; intro a' c' w9 hown9 hbel hgrow)
            go_roundg (gk - 1)
            case measure => have := Hzq.out; omega
            case rel => exact ⟨z ++ [x.lo], by have := Hzq.out; rw [List.length_append, List.length_singleton]; omega, by rw [List.length_append, List.length_singleton]; go_num, by simpa using hown9, HE.out.snoc HX.out.1 (.inl rfl)⟩
          | false =>
            have kB := (Kp.refl W4).alloc (.cells #[.bool x.hi.neg, .slice x.hi.a x.hi.xs.length x.hi.c, .int .i64 x.hi.e] 33)
            have hownB := HOWA.out.kp kB
            have hdB := HX.out.2.1.2.kp kB
            go_wp2_with (at_builtin; refine wpList_append_dyn rfl _ _ rfl V _ z rfl hownB _ _ rfl x.hi hdB (by simp) hcl ?_; intro a' c' w9 hown9 hbel hgrow)
            go_roundg (gk - 1)
            case measure => have := Hzq.out; omega
            case rel => exact ⟨z ++ [x.hi], by have := Hzq.out; rw [List.length_append, List.length_singleton]; omega, by rw [List.length_append, List.length_singleton]; go_num, by simpa using hown9, HE.out.snoc HX.out.1 (.inr rfl)⟩
        · have hze : z.length = f.rs.length := by omega
          obtain ⟨aZ, cZ, rfl, hvc1, hvc2, hrz⟩ := HOW.out.value
          have HEZ := Lib.hid (show endsR f.rs z from ⟨hze, HE.out⟩)
          have HSZ := Lib.hid (keepF HOW.out.1 HSR.out)
          have hlZ : z.length ≤ 1100000 := by have := HL.out; omega
          have HRZ := Lib.hid hrz
          obtain ⟨s0, s1, s2⟩ := id HSZ.out
          clear hze hvc1 hvc2 hrz hzq
          go_wp2_with fail
          go_fit (fpoint_any f aZ z cZ _ (HF.out.kp HKZ.out) HRZ.out hlZ (HT.out.kp HKZ.out))
          rintro e v1 ⟨aP, P, cP, rfl, rP, pP, vP, lP, j1⟩
          have HJ1 := Lib.hid (HKZ.out.trans j1)
          have HP1 := Lib.hid (And.intro rP (And.intro pP vP))
          have HKV := Lib.hid (HOW.out.1.trans j1)
          clear rP pP vP j1 s0 s1 s2
          by_cases he : (ptC f z).2 = 0
          case neg =>
            have g1 : ((ptC f z).2 != 0) = true := by rw [bne, beq_eq_false_iff_ne.2 he]; rfl
            have g3 : ((ptC f z).2 == 0) = false := beq_eq_false_iff_ne.2 he
            clear he lP
            go_wp2_with fail
            go_roundg (gk1 - 1)
            case measure => have := Hlt.out; omega
            case rel => exact ⟨t + 1, by have := Hlt.out; omega, by go_num, HKR.out.trans HKV.out⟩
          obtain ⟨l, hl1, hl2⟩ := (ptC_cases f z).resolve_left (fun h => h he)
          have HPL := Lib.hid (show P.map RD.dy = l by rw [HP1.out.2.1, hl1])
          have HML := Lib.hid hl2
          have hPlen := Lib.hid (show P.length ≤ f.cs.length by
            have h1 : P.length = l.length := by rw [← HPL.out]; simp
            rcases Nat.lt_or_ge f.cs.length P.length with h | h
            · obtain ⟨y, hy⟩ : ∃ y, l[f.cs.length]? = some y := ⟨_, List.getElem?_eq_getElem (by omega)⟩
              obtain ⟨c, row, h2, _⟩ := ptM_at hl2 hy
              have := (List.getElem?_eq_some_iff.1 (List.getElem?_zip_eq_some.1 h2).1).1
              exact absurd this (Nat.lt_irrefl _)
            · exact h)
          rw [he]
          clear he hl1 hl2 lP
          go_wp2_with fail
          obtain ⟨V1, hV1⟩ : ∃ x : World, x = v1 := ⟨_, rfl⟩
          subst hV1
          go_loopg [87] P.length (fun q v wr => ∃ i : Nat, i + q = P.length ∧ v = .int .i64 (i : Int) ∧ Kp V1 wr)
          case atStart => exact ⟨0, by omega, rfl, .refl _⟩
          case round =>
            obtain ⟨i, hiq, rfl, hkp⟩ := hrel
            have HKP := Lib.hid hkp
            clear hkp
            by_cases hlt3 : i < P.length
            · obtain ⟨d, hd⟩ : ∃ y, P[i]? = some y := ⟨_, List.getElem?_eq_getElem hlt3⟩
              obtain ⟨I, hI⟩ : ∃ y, Y[i]? = some y := ⟨_, List.getElem?_eq_getElem (by have := hPlen.out; have := HYn.out; omega)⟩
              obtain ⟨bP, oP, eP, hdr, d0, d1, d2⟩ := (HP1.out.1.kp HKP.out) i d hd
              have kA := (Kp.refl wr).alloc (.cells #[.bool d.neg, .slice d.a d.xs.length d.c, .int .i64 d.e] 33)
              obtain ⟨bY, oY, eY, hIr, y0, y1, y2, y3, y4, y5, y6⟩ := ((HY.out.1.kp ((HKR.out.trans HKV.out).trans HKP.out)).kp kA) i I hI
              have HIN := Lib.hid (pt_in HP.out HV.out (fun u hu => HF.out.2.2.1.rdI hu) (fun r hr u hu => by
                obtain ⟨j, hj⟩ := List.getElem?_of_mem hr
                obtain ⟨_, _, _, _, _, _, hrow, _⟩ := HF.out.2.1.1 j r hj
                exact hrow.rd hu) (fun u hu => HF.out.1.1.rd hu) HEZ.out HML.out HPB.out (t := d.dy) (by rw [← HPL.out, List.getElem?_map, hd]; rfl) hI)
              have HDI := Lib.hid (And.intro (And.intro (hdr.kp kA) (HP1.out.2.2 d (List.mem_of_getElem? hd))) (And.intro hIr (HY.out.2.2 I (List.mem_of_getElem? hI))))
              have HKA := Lib.hid (HKP.out.trans kA)
              have Hiq := Lib.hid (And.intro hiq hlt3)
              have hi1 : (0 : Int) ≤ (i : Int) := by omega
              have hi2 : (i : Int) < (P.length : Int) := by omega
              have hi3 : (i : Int) < (Y.length : Int) := by have := hPlen.out; have := HYn.out; omega
              have hi9 : i < 8 := by have := hPlen.out; omega
              cases eP
              cases eY
              clear hd hI hdr hIr hiq hlt3
              go_upto_region 26 with fail
              clear d0 d1 d2
              have hdB : (wr.alloc (.cells #[.bool d.neg, .slice d.a d.xs.length d.c, .int .i64 d.e] 33)).cell? ⟨wr.heap.size, 0, none⟩ = some (.bool d.neg) ∧ (wr.alloc (.cells #[.bool d.neg, .slice d.a d.xs.length d.c, .int .i64 d.e] 33)).cell? ⟨wr.heap.size, 1, none⟩ = some (.slice d.a d.xs.length d.c) ∧ (wr.alloc (.cells #[.bool d.neg, .slice d.a d.xs.length d.c, .int .i64 d.e] 33)).cell? ⟨wr.heap.size, 2, none⟩ = some (.int .i64 d.e) := by simp
              generalize hW6 : wr.alloc _ = W6 at *
              clear hW6
              have kd := (Kp.refl W6).drew
              have hSS : (W6.drew.cell? ⟨bY, oY + i * 7, none⟩ = some (.bool I.lo.neg) ∧ W6.drew.cell? ⟨bY, oY + i * 7 + 1, none⟩ = some (.slice I.lo.a I.lo.xs.length I.lo.c) ∧ W6.drew.cell? ⟨bY, oY + i * 7 + 2, none⟩ = some (.int .i64 I.lo.e) ∧ W6.drew.cell? ⟨bY, oY + i * 7 + 3, none⟩ = some (.bool I.hi.neg) ∧ W6.drew.cell? ⟨bY, oY + i * 7 + 4, none⟩ = some (.slice I.hi.a I.hi.xs.length I.hi.c) ∧ W6.drew.cell? ⟨bY, oY + i * 7 + 5, none⟩ = some (.int .i64 I.hi.e) ∧ W6.drew.cell? ⟨bY, oY + i * 7 + 6, none⟩ = some (.bool I.all)) ∧ W6.drew.cell? ⟨wr.heap.size, 0, none⟩ = some (.bool d.neg) ∧ W6.drew.cell? ⟨wr.heap.size, 1, none⟩ = some (.slice d.a d.xs.length d.c) ∧ W6.drew.cell? ⟨wr.heap.size, 2, none⟩ = some (.int .i64 d.e) := keep73 kd ⟨⟨y0, y1, y2, y3, y4, y5, y6⟩, hdB⟩
              have HC := Lib.hid (IHas_vl I d W6.drew (HDI.out.2.1.kp kd) (HDI.out.1.1.kp kd) HDI.out.2.2 HDI.out.1.2)
              rw [show hasX I.pl d.iv = true from HIN.out] at HC
              have HKD := Lib.hid (HKA.out.trans kd)
              clear y0 y1 y2 y3 y4 y5 y6 hdB kd kA
              go_region_held3 (fun w' => (w'.cell? ⟨bY, oY + i * 7, none⟩ = some (.bool I.lo.neg) ∧ w'.cell? ⟨bY, oY + i * 7 + 1, none⟩ = some (.slice I.lo.a I.lo.xs.length I.lo.c) ∧ w'.cell? ⟨bY, oY + i * 7 + 2, none⟩ = some (.int .i64 I.lo.e) ∧ w'.cell? ⟨bY, oY + i * 7 + 3, none⟩ = some (.bool I.hi.neg) ∧ w'.cell? ⟨bY, oY + i * 7 + 4, none⟩ = some (.slice I.hi.a I.hi.xs.length I.hi.c) ∧ w'.cell? ⟨bY, oY + i * 7 + 5, none⟩ = some (.int .i64 I.hi.e) ∧ w'.cell? ⟨bY, oY + i * 7 + 6, none⟩ = some (.bool I.all)) ∧ w'.cell? ⟨wr.heap.size, 0, none⟩ = some (.bool d.neg) ∧ w'.cell? ⟨wr.heap.size, 1, none⟩ = some (.slice d.a d.xs.length d.c) ∧ w'.cell? ⟨wr.heap.size, 2, none⟩ = some (.int .i64 d.e)) (first | with_reducible assumption | with_reducible exact keep73 (by assumption) (by assumption) | fail)
                (first
                  | (go_at_call 13; (with_reducible refine HC.out.mono ?_); rintro e v2 ⟨rfl, j2⟩
                     have HJ2 := Lib.hid (HKD.out.trans j2))
                  | fail)
              all_goals
                go_wp2_with fail
                go_roundg (gk - 1)
                case measure => have := Hiq.out; omega
                case rel => exact ⟨i + 1, by have := Hiq.out; omega, by go_num, HJ2.out⟩
            · have HKE := Lib.hid (HKR.out.trans (HKV.out.trans HKP.out))
              go_wp2_with fail
              go_roundg (gk1 - 1)
              case measure => have := Hlt.out; omega
              case rel => exact ⟨t + 1, by have := Hlt.out; omega, by go_num, HKE.out⟩
    · go_wp2_with fail
      go_ret
      exact ⟨rfl, HK5.out.trans HKR.out⟩
end Go.Proofs.YtdlpiblgkpgplaaGreatDoor
