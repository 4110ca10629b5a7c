/-
  Walks: the 31st reference's Of.
-/
import Derived.Deep.LoopGhost
import Derived.Deep.DeepFit
import Derived.Deep.RegionLaw
import Derived.Deep.RegionHeld3
import Derived.Test.YtdlpiblgkpgplaaGreatDoorMOfX
import Derived.Test.YtdlpiblgkpgplaaGreatDoorMMidR
import Derived.Test.YtdlpiblgkpgplaaGreatDoorMOwnX
import Derived.Test.YtdlpiblgkpgplaaGreatDoorMR3C
import Derived.Test.YtdlpiblgkpgplaaGreatDoorMR2B
namespace Go.Proofs.YtdlpiblgkpgplaaGreatDoor
open Go.RowKit

theorem all_snoc {xs : List RI} {i : Nat} {x : RI} {f : RI → Bool} (h : xs[i]? = some x) (ha : (xs.take i).all f = true) (hx : f x = true) : (xs.take (i + 1)).all f = true := by
  rw [take_snoc h, List.all_append, ha, List.all_cons, hx]; rfl
theorem ofV_bad {xs : List RI} {p : Int} {i : Nat} {x : RI} (h : xs[i]? = some x) (hg : goodI x = false) : ofV xs p = (1, [], []) := by
  unfold ofV
  rw [if_pos]
  unfold vlB
  have : xs.all goodI = false := by
    rw [List.all_eq_false]
    exact ⟨x, List.mem_of_getElem? h, by rw [hg]; decide⟩
  rw [this]; simp
set_option maxRecDepth 100000 in
set_option maxHeartbeats 8000000 in
theorem r31of_any (a : Option Addr) (xs : List RI) (c : Nat) (p : Int) (w : World) (hx : RowI w a xs) (hl : xs.length ≤ 1100000) :
    Calls Tryz.prog 16 #[.slice a xs.length c, .int .i64 p] w (FrO xs.length (ofV xs p) w) := by
  have HX := Lib.hid hx
  obtain ⟨D, hD⟩ : ∃ D, D = ofV xs p := ⟨_, rfl⟩
  have HD := Lib.hid hD
  rw [← hD]
  have hB := Box3.new w (.slice none 0 0) (.slice none 0 0) (.slice none 0 0) 26
  have HK := Lib.hid ((Kp.refl w).alloc (.cells #[.slice none 0 0, .slice none 0 0, .slice none 0 0] 26))
  clear hx hD
  by_cases hn : 1 ≤ xs.length ∧ xs.length ≤ 8
  case neg =>
    have HE := Lib.hid (show D = (1, [], []) by
      rw [HD.out]; unfold ofV; rw [if_pos]; unfold vlB
      by_cases h1 : 1 ≤ xs.length
      · rw [decide_eq_false (show ¬ xs.length ≤ 8 by omega)]; simp
      · rw [decide_eq_false h1]; rfl)
    by_cases h1 : 1 ≤ xs.length
    · have e1 : ¬ ((xs.length : Int) < 1) := by omega
      have e2 : (8 : Int) < (xs.length : Int) := by omega
      clear h1 hn
      go_enter Tryz.func16, Tryz.ntmps16
      go_upto_region 1 with fail
      generalize hW0 : w.alloc _ = W0 at *
      clear hW0
      obtain ⟨q0, q1, q2, f0, f1, f2⟩ := id hB
      go_wp2_with fail
      rw [HE.out]
      generalize hW9 : (((W0.setCell _ _).setCell _ _).setCell _ _) = W9
      obtain ⟨⟨r0, r1, r2, _⟩, hU⟩ := stored3 hB (fun _ h => by cases h) (fun _ h => by cases h) (fun _ h => by cases h) _ _ _ hW9
      clear hW9 q0 q1 q2 f0 f1 f2
      refine bodyPost_ret (v := .tuple #[.agg #[.slice rfNil.ca rfNil.cs.length rfNil.cc, .slice rfNil.aa rfNil.ms.length rfNil.ac, .slice rfNil.ra rfNil.rs.length rfNil.rc], .int .i64 1]) (by simp [results, Tryz.results16, go_sem, r0, r1, r2, rfNil]) rfl ?_
      exact FrO.err rfl (hU.2.2.1 _ HK.out (Nat.le_refl _))
    · have e1 : ((xs.length : Int) < 1) := by omega
      clear h1 hn
      go_enter Tryz.func16, Tryz.ntmps16
      go_upto_region 1 with fail
      generalize hW0 : w.alloc _ = W0 at *
      clear hW0
      obtain ⟨q0, q1, q2, f0, f1, f2⟩ := id hB
      go_wp2_with fail
      rw [HE.out]
      generalize hW9 : (((W0.setCell _ _).setCell _ _).setCell _ _) = W9
      obtain ⟨⟨r0, r1, r2, _⟩, hU⟩ := stored3 hB (fun _ h => by cases h) (fun _ h => by cases h) (fun _ h => by cases h) _ _ _ hW9
      clear hW9 q0 q1 q2 f0 f1 f2
      refine bodyPost_ret (v := .tuple #[.agg #[.slice rfNil.ca rfNil.cs.length rfNil.cc, .slice rfNil.aa rfNil.ms.length rfNil.ac, .slice rfNil.ra rfNil.rs.length rfNil.rc], .int .i64 1]) (by simp [results, Tryz.results16, go_sem, r0, r1, r2, rfNil]) rfl ?_
      exact FrO.err rfl (hU.2.2.1 _ HK.out (Nat.le_refl _))
  case pos =>
    have hn8 := hn.2
    have e1 : ¬ ((xs.length : Int) < 1) := by omega
    have e2 : ¬ ((8 : Int) < (xs.length : Int)) := by omega
    have HN := Lib.hid hn
    clear hn
    go_enter Tryz.func16, Tryz.ntmps16
    go_upto_region 1 with fail
    generalize hW0 : w.alloc _ = W0 at *
    clear hW0
    have HB := Lib.hid hB
    clear hB
    go_wp2_with fail
    clear e1 e2
    go_loopg [6] xs.length (fun q v wr => ∃ i : Nat, i + q = xs.length ∧ v = .int .i64 i ∧ (xs.take i).all goodI = true ∧ Kp W0 wr)
    case atStart => exact ⟨0, by omega, rfl, rfl, .refl _⟩
    case round =>
      obtain ⟨i, hiq, rfl, hall, hk⟩ := hrel
      have HA := Lib.hid hall
      have HKW := Lib.hid hk
      clear hall hk
      by_cases hlt : i < xs.length
      · obtain ⟨x, hx⟩ : ∃ x, xs[i]? = some x := ⟨_, List.getElem?_eq_getElem hlt⟩
        obtain ⟨bx, ox, rfl, hxr, c0, c1, c2, c3, c4, c5, c6⟩ := (HX.out.kp (HK.out.trans HKW.out)) i x hx
        have Hx := Lib.hid (And.intro hx hxr)
        have hi1 : (0 : Int) ≤ (i : Int) := by omega
        have hi2 : (i : Int) < (xs.length : Int) := by omega
        have hB1 := HB.out.kp HKW.out
        clear hx hxr
        go_wp2_with fail
        go_fit (r5Valid_raw x _ Hx.out.2)
        rintro e w1 ⟨rfl, k1⟩
        have HK1 := Lib.hid (HKW.out.trans k1)
        have hB1 := HB.out.kp HK1.out
        have c6b := k1.cell c6
        clear c0 c1 c2 c3 c4 c5 c6 k1
        cases hv : x.vl with
        | false =>
          have HE := Lib.hid (show D = (1, [], []) by rw [HD.out]; exact ofV_bad Hx.out.1 (by unfold goodI; rw [hv]; simp))
          obtain ⟨q0, q1, q2, f0, f1, f2⟩ := id hB1
          clear hv
          go_wp2_with fail
          rw [HE.out]
          generalize hW9 : (((w1.setCell _ _).setCell _ _).setCell _ _) = W9
          obtain ⟨⟨r0, r1, r2, _⟩, hU⟩ := stored3 hB1 (fun _ h => by cases h) (fun _ h => by cases h) (fun _ h => by cases h) _ _ _ hW9
          clear hW9 q0 q1 q2 f0 f1 f2
          refine bodyPost_ret (v := .tuple #[.agg #[.slice rfNil.ca rfNil.cs.length rfNil.cc, .slice rfNil.aa rfNil.ms.length rfNil.ac, .slice rfNil.ra rfNil.rs.length rfNil.rc], .int .i64 1]) (by simp [results, Tryz.results16, go_sem, r0, r1, r2, rfNil]) rfl ?_
          exact FrO.err rfl (hU.2.2.1 _ (HK.out.trans HK1.out) (Nat.le_refl _))
        | true =>
          cases ha : x.all with
          | true =>
            have HE := Lib.hid (show D = (1, [], []) by rw [HD.out]; exact ofV_bad Hx.out.1 (by unfold goodI; rw [ha]; rfl))
            obtain ⟨q0, q1, q2, f0, f1, f2⟩ := id hB1
            rw [ha] at c6b
            clear hv ha
            go_wp2_with fail
            rw [HE.out]
            generalize hW9 : (((w1.setCell _ _).setCell _ _).setCell _ _) = W9
            obtain ⟨⟨r0, r1, r2, _⟩, hU⟩ := stored3 hB1 (fun _ h => by cases h) (fun _ h => by cases h) (fun _ h => by cases h) _ _ _ hW9
            clear hW9 q0 q1 q2 f0 f1 f2
            refine bodyPost_ret (v := .tuple #[.agg #[.slice rfNil.ca rfNil.cs.length rfNil.cc, .slice rfNil.aa rfNil.ms.length rfNil.ac, .slice rfNil.ra rfNil.rs.length rfNil.rc], .int .i64 1]) (by simp [results, Tryz.results16, go_sem, r0, r1, r2, rfNil]) rfl ?_
            exact FrO.err rfl (hU.2.2.1 _ (HK.out.trans HK1.out) (Nat.le_refl _))
          | false =>
            have HG := Lib.hid (show goodI x = true by unfold goodI; rw [ha, hv]; rfl)
            rw [ha] at c6b
            clear hv ha hB1
            go_wp2_with fail
            go_roundg (gk - 1)
            case measure => omega
            case rel => exact ⟨i + 1, by omega, by go_num, all_snoc Hx.out.1 HA.out HG.out, HK1.out⟩
      · have hie : i = xs.length := by omega
        subst hie
        have hall := HA.out
        rw [List.take_length] at hall
        have HG := Lib.hid hall
        have HV := Lib.hid (show vlB xs = true from vlB_iff.2 ⟨HN.out.1, HN.out.2, hall⟩)
        clear HA hall hiq
        obtain ⟨w2, hw2⟩ : ∃ x : World, x = wr := ⟨_, rfl⟩
        subst hw2
        obtain ⟨gk1, hgk1⟩ : ∃ x : Nat, x = gk := ⟨_, rfl⟩
        subst hgk1
        have HK2 := Lib.hid (HK.out.trans HKW.out)
        have hB2 := HB.out.kp HKW.out
        clear HB HKW HK
        go_wp2_with fail
        go_fit (r3prec_any p _)
        rintro e w3 ⟨rfl, rfl⟩
        cases hq : preB p with
        | false =>
          have HE := Lib.hid (show D = (2, [], []) by rw [HD.out]; unfold ofV; rw [if_neg (by rw [HV.out]; decide), if_pos hq])
          clear hq
          obtain ⟨q0, q1, q2, f0, f1, f2⟩ := id hB2
          go_wp2_with fail
          rw [HE.out]
          generalize hW9 : (((w2.setCell _ _).setCell _ _).setCell _ _) = W9
          obtain ⟨⟨r0, r1, r2, _⟩, hU⟩ := stored3 hB2 (fun _ h => by cases h) (fun _ h => by cases h) (fun _ h => by cases h) _ _ _ hW9
          clear hW9 q0 q1 q2 f0 f1 f2
          refine bodyPost_ret (v := .tuple #[.agg #[.slice rfNil.ca rfNil.cs.length rfNil.cc, .slice rfNil.aa rfNil.ms.length rfNil.ac, .slice rfNil.ra rfNil.rs.length rfNil.rc], .int .i64 2]) (by simp [results, Tryz.results16, go_sem, r0, r1, r2, rfNil]) rfl ?_
          exact FrO.err rfl (hU.2.2.1 _ HK2.out (Nat.le_refl _))
        | true =>
          have HQ := Lib.hid (preB_iff.1 hq)
          obtain ⟨P, hP⟩ : ∃ P : Nat, (P : Int) = p := ⟨p.toNat, by have := HQ.out; omega⟩
          subst hP
          have HP := Lib.hid (show 8 ≤ P ∧ P ≤ 512 by have := HQ.out; omega)
          have HE := Lib.hid (show D = if xs.all (ofB P) = true then (0, xs.map (ofM P), xs.map (ofR P)) else (9, [], []) by rw [HD.out]; unfold ofV; rw [if_neg (by rw [HV.out]; decide), if_neg (by rw [hq]; decide)]; rfl)
          clear hq
          have HW4 := Lib.hid (show w.heap.size + 1 ≤ w2.heap.size from World.block_lt_of_cell? _ _ hB2.1)
          have hS := OfX.new (w.heap.size + 1) w2 26 HW4.out
          have HB4 := Lib.hid hB2
          clear hB2
          go_upto_region 11 with fail
          generalize hW5 : w2.alloc _ = W5 at *
          have HS := Lib.hid hS
          clear hW5 hS
          go_wp2_with fail
          go_loopg [8] xs.length (fun q v wr => ∃ (C : List RD) (A : List (List RD)) (us : List Value) (R : List RI) (v1 va v2 : Value), C.length + q = xs.length ∧ v = .int .i64 (C.length : Int) ∧ OfX (w.heap.size + 1) w2 wr v1 va v2 C us A R ∧ C.map RD.dy = (xs.take C.length).map (ofM P) ∧ plR R = (xs.take C.length).map (ofR P) ∧ (∀ y ∈ C, y.vl = true) ∧ (∀ z ∈ R, z.vl = true) ∧ (xs.take C.length).all (ofB P) = true ∧ A.length = C.length ∧ RowU xs.length A)
          case atStart => exact ⟨[], [], [], [], _, _, _, by simp, rfl, HS.out, rfl, rfl, fun y h => by simp at h, fun y h => by simp at h, rfl, rfl, fun i r h => by simp at h⟩
          case round =>
            obtain ⟨C, A, us, R, v1, va, v2, hCq, rfl, hS, hC, hR, hvC, hvR, hall, hAl, hAu⟩ := hrel
            clear HS
            have HI := Lib.hid (And.intro hC (And.intro hR (And.intro hvC (And.intro hvR hall))))
            have HIA := Lib.hid (And.intro hAl hAu)
            have HS := Lib.hid hS
            clear hC hR hvC hvR hall hS hAl hAu
            by_cases hlt : C.length < xs.length
            · obtain ⟨x, hx⟩ : ∃ x, xs[C.length]? = some x := ⟨_, List.getElem?_eq_getElem hlt⟩
              have kwr := HK2.out.trans HS.out.oc.1
              have HXR := Lib.hid (show RowI wr a xs from HX.out.kp kwr)
              obtain ⟨bx, ox, rfl, hxr, c0, c1, c2, c3, c4, c5, c6⟩ := HXR.out C.length x hx
              have hgx := (List.all_eq_true.1 HG.out) x (List.mem_of_getElem? hx)
              have hxo := (goodI_ok hxr).1 hgx
              have hxa := hxo.2.1
              have Hx := Lib.hid hx
              have Hlt := Lib.hid (And.intro hlt hCq)
              have hi1 : (0 : Int) ≤ (C.length : Int) := by omega
              have hi2 : (C.length : Int) < (xs.length : Int) := by omega
              have HKR := Lib.hid kwr
              rw [hxa] at c6
              have OX := Lib.hid hxo
              have hbxw := World.block_lt_of_cell? _ _ c0
              have HPX := Lib.hid (And.intro c0 (And.intro c1 (And.intro c2 (And.intro c3 (And.intro c4 (And.intro c5 c6))))))
              have Hnew := Lib.hid (And.intro HS.out.oc.new (And.intro HS.out.oi.new (And.intro HS.out.oa.new HS.out.lt)))
              clear hx hxr hgx hxo hxa hCq kwr hlt
              go_wp2_with fail
              go_fit (r5Mid_any x P _ OX.out HP.out.1 HP.out.2)
              rintro e w5 ⟨m, rfl, rm, dm, vm, k5⟩
              have kA := k5.alloc (.cells #[.bool m.neg, .slice m.a m.xs.length m.c, .int .i64 m.e] 33)
              have OM := Lib.hid (show m.ok w5 from ⟨rm, vm (ofM_ok OX.out)⟩)
              have hb9 : w5.heap.size < (w5.alloc (.cells #[.bool m.neg, .slice m.a m.xs.length m.c, .int .i64 m.e] 33)).heap.size := by simp
              have hPm : (w5.alloc (.cells #[.bool m.neg, .slice m.a m.xs.length m.c, .int .i64 m.e] 33)).cell? ⟨w5.heap.size, 0, none⟩ = some (.bool m.neg) ∧ (w5.alloc (.cells #[.bool m.neg, .slice m.a m.xs.length m.c, .int .i64 m.e] 33)).cell? ⟨w5.heap.size, 1, none⟩ = some (.slice m.a m.xs.length m.c) ∧ (w5.alloc (.cells #[.bool m.neg, .slice m.a m.xs.length m.c, .int .i64 m.e] 33)).cell? ⟨w5.heap.size, 2, none⟩ = some (.int .i64 m.e) := by simp
              have hwr5 : wr.heap.size ≤ w5.heap.size := k5.size
              clear c0 c1 c2 c3 c4 c5 c6 rm vm k5
              go_upto_region 15 with fail
              generalize hW4 : w5.alloc _ = W4 at *
              have OM4 := Lib.hid (show m.ok W4 from OM.out.kp (by rw [← hW4]; exact (Kp.refl _).alloc _))
              have DM := Lib.hid (show m.dy = ofM P x from dm)
              clear hW4 OM dm
              have HS4 := Lib.hid (HS.out.kp kA)
              have HKR4 := Lib.hid (HKR.out.trans kA)
              have OX4 := Lib.hid (OX.out.kp kA)
              have HPX4 := Lib.hid (keep7 kA HPX.out)
              have HPM4 := Lib.hid hPm
              have hbxb : bx < W4.heap.size := by have := kA.size; omega
              clear kA HS HKR OX HPX hPm HXR
              have HAD := Lib.hid (fun (W : World) (n : RD) (dn : n.dy = (ofM P x).opp) (on : n.ok W) (k : Kp W4 W) => show Calls Tryz.prog 55 #[.agg #[.bool x.lo.neg, .slice x.lo.a x.lo.xs.length x.lo.c, .int .i64 x.lo.e], .agg #[.bool n.neg, .slice n.a n.xs.length n.c, .int .i64 n.e], .int .i64 (P : Int), .bool false] W (NumE W (ofL P x).1 (ofL P x).2) by
                have h := r3add_any x.lo n P false W (OX4.out.lo.1.kp k) on.1
                rw [addB_dy (OX4.out.lo.kp k) on HP.out.1 HP.out.2, dn] at h
                exact h)
              have HAU := Lib.hid (fun (W : World) (n : RD) (dn : n.dy = (ofM P x).opp) (on : n.ok W) (k : Kp W4 W) => show Calls Tryz.prog 55 #[.agg #[.bool x.hi.neg, .slice x.hi.a x.hi.xs.length x.hi.c, .int .i64 x.hi.e], .agg #[.bool n.neg, .slice n.a n.xs.length n.c, .int .i64 n.e], .int .i64 (P : Int), .bool true] W (NumE W (ofH P x).1 (ofH P x).2) by
                have h := r3add_any x.hi n P true W (OX4.out.hi.1.kp k) on.1
                rw [addB_dy (OX4.out.hi.kp k) on HP.out.1 HP.out.2, dn] at h
                exact h)
              go_cut [10, 11] from 59 to 70 (fun s t wx => ∃ (b1 : Nat) (q : RD), s = .pointer (some ⟨b1, 0, none⟩) ∧ t = .int .i64 (ofL P x).2 ∧ HasD W4 wx b1 q (ofL P x).1)
              case first =>
                have hPC : (W4.cell? ⟨bx, ox + C.length * 7, none⟩ = some (.bool x.lo.neg) ∧ W4.cell? ⟨bx, ox + C.length * 7 + 1, none⟩ = some (.slice x.lo.a x.lo.xs.length x.lo.c) ∧ W4.cell? ⟨bx, ox + C.length * 7 + 2, none⟩ = some (.int .i64 x.lo.e)) ∧ W4.cell? ⟨w5.heap.size, 0, none⟩ = some (.bool m.neg) ∧ W4.cell? ⟨w5.heap.size, 1, none⟩ = some (.slice m.a m.xs.length m.c) ∧ W4.cell? ⟨w5.heap.size, 2, none⟩ = some (.int .i64 m.e) := by
                  obtain ⟨x0, x1, x2, x3, x4, x5, x6⟩ := HPX4.out
                  obtain ⟨y0, y1, y2⟩ := HPM4.out
                  exact ⟨⟨x0, x1, x2⟩, y0, y1, y2⟩
                have HOK := Lib.hid (ofL_ok P x HP.out.1 HP.out.2)
                have kd := Lib.hid (Kp.refl W4).drew
                have hSd := keep33v kd.out hPC
                have HS0 := Lib.hid hPC
                have KZ := Lib.hid (show Kp W4 (W4.alloc (.cells #[.bool false, .slice none 0 0, .int .i64 0] 33)).drew from kd.out.trans ((Kp.refl W4.drew).alloc _))
                have HSZ := Lib.hid (keep33v KZ.out hPC)
                have BZ := Lib.hid (show Box3 (W4.alloc (.cells #[.bool false, .slice none 0 0, .int .i64 0] 33)).drew W4.heap.size _ _ _ from Box3.new W4.drew _ _ _ _)
                have n1 : bx ≠ W4.heap.size := Nat.ne_of_lt hbxb
                have n2 : w5.heap.size ≠ W4.heap.size := Nat.ne_of_lt hb9
                have HB8 := Lib.hid (And.intro hbxb hb9)
                clear hPC
                go_region_held3 (fun w' => (w'.cell? ⟨bx, ox + C.length * 7, none⟩ = some (.bool x.lo.neg) ∧ w'.cell? ⟨bx, ox + C.length * 7 + 1, none⟩ = some (.slice x.lo.a x.lo.xs.length x.lo.c) ∧ w'.cell? ⟨bx, ox + C.length * 7 + 2, none⟩ = some (.int .i64 x.lo.e)) ∧ w'.cell? ⟨w5.heap.size, 0, none⟩ = some (.bool m.neg) ∧ w'.cell? ⟨w5.heap.size, 1, none⟩ = some (.slice m.a m.xs.length m.c) ∧ w'.cell? ⟨w5.heap.size, 2, none⟩ = some (.int .i64 m.e)) (first | with_reducible assumption | with_reducible exact keep33v (by assumption) (by assumption) | with_reducible exact keep33v ((Kp.refl _).alloc _) (by assumption) | with_reducible exact set33y (by assumption) (by assumption) (by assumption) | with_reducible exact HSZ.out | fail)
                  (first
                    | (go_at_call 56; (with_reducible refine (r2Neg_ok m _ (OM4.out.kp kd.out)).mono ?_); rintro e v1 ⟨n, rfl, rn, dn, vn, j1⟩
                       have KJ := Lib.hid (kd.out.trans j1)
                       have hS1 := keep33v KJ.out HS0.out
                       have ON := Lib.hid (And.intro (show n.ok v1 from ⟨rn, vn (Dy.opp_ok2 (rdok_dy OM4.out))⟩) (show n.dy = (ofM P x).opp by rw [dn, DM.out]))
                       clear rn dn vn)
                    | (go_at_call 56; (with_reducible refine (r2Neg_ok m _ (OM4.out.kp KZ.out)).mono ?_); rintro e v1 ⟨n, rfl, rn, dn, vn, j1⟩
                       have KJ := Lib.hid (KZ.out.trans j1)
                       have hS1 := keep33v KJ.out HS0.out
                       have BV := Lib.hid (BZ.out.kp j1)
                       have ON := Lib.hid (And.intro (show n.ok v1 from ⟨rn, vn (Dy.opp_ok2 (rdok_dy OM4.out))⟩) (show n.dy = (ofM P x).opp by rw [dn, DM.out]))
                       clear rn dn vn)
                    | (go_at_call 55; (with_reducible refine (HAD.out _ n ON.out.2 ON.out.1 KJ.out).mono ?_); rintro e v2 ⟨z, rfl, zr, zd, zv, j2⟩
                       have hS2 := keep33v j2 hS1
                       have OZ := Lib.hid (And.intro (show z.ok v2 from ⟨zr, zv HOK.out⟩) (show z.dy = _ from zd))
                       have KF := Lib.hid (KJ.out.trans j2)
                       clear zr zd zv
                       first
                         | (have BF := Lib.hid (BV.out.kp j2)
                            obtain ⟨q0, q1, q2, f0, f1, f2⟩ := id BF.out
                            have GF := Lib.hid (Nat.le_refl W4.heap.size))
                         | skip)
                    | (go_at_call 55; (with_reducible refine (HAD.out _ n ON.out.2 (ON.out.1.kp ((Kp.refl _).alloc _)) (KJ.out.alloc _)).mono ?_); rintro e v2 ⟨z, rfl, zr, zd, zv, j2⟩
                       have hS2 := keep33v (((Kp.refl _).alloc _).trans j2) hS1
                       have OZ := Lib.hid (And.intro (show z.ok v2 from ⟨zr, zv HOK.out⟩) (show z.dy = _ from zd))
                       have KF := Lib.hid ((KJ.out.alloc _).trans j2)
                       have GF := Lib.hid KJ.out.size
                       have n3 : bx ≠ v1.heap.size := by have := GF.out; have := HB8.out; omega
                       have n4 : w5.heap.size ≠ v1.heap.size := by have := GF.out; have := HB8.out; omega
                       have BF := Lib.hid ((Box3.new v1 (.bool false) (.slice none 0 0) (.int .i64 0) 33).kp j2)
                       clear zr zd zv
                       obtain ⟨q0, q1, q2, f0, f1, f2⟩ := id BF.out)
                    | fail)
                all_goals
                  go_wp2_with fail
                  go_meet
                  case rel => first
                    | exact ⟨_, z, rfl, rfl, hasD_store BF.out (fun _ h => by cases h) (fun _ h => by cases h) (fun _ h => by cases h) OZ.out.1 OZ.out.2 KF.out GF.out⟩
                    | exact ⟨_, z, rfl, rfl, hasD_alloc OZ.out.1 OZ.out.2 KF.out _⟩
              case rest =>
              obtain ⟨b1, q, rfl, rfl, hD1⟩ := hcut
              obtain ⟨W8, hW8⟩ : ∃ x : World, x = wc := ⟨_, rfl⟩
              subst hW8
              have k8 := hD1.2.2.2.1
              have HD1 := Lib.hid hD1
              have OM8 := Lib.hid (OM4.out.kp k8)
              have HPX8 := Lib.hid (keep7 k8 HPX4.out)
              have HPM8 := Lib.hid (keep3 k8 HPM4.out)
              have hbxc : bx < W8.heap.size := by have := k8.size; omega
              have hb9c : w5.heap.size < W8.heap.size := by have := k8.size; omega
              have HAU8 := Lib.hid (fun (W : World) (n : RD) (dn : n.dy = (ofM P x).opp) (on : n.ok W) (k : Kp W8 W) => HAU.out W n dn on (k8.trans k))
              have HS8 := Lib.hid (HS4.out.kp k8)
              have HKR8 := Lib.hid (HKR4.out.trans k8)
              have OX8 := Lib.hid (OX4.out.kp k8)
              have hb19 : w5.heap.size < b1 := by have := hD1.2.2.2.2; omega
              clear hD1 k8 hbxb hb9 HAD HAU OM4 HPX4 HPM4 HS4 HKR4 OX4
              have herr : ∀ (_ : ofB P x = false), D = (9, [], []) := fun hb => by
                rw [HE.out, if_neg]
                intro h
                have := (List.all_eq_true.1 h) x (List.mem_of_getElem? Hx.out)
                rw [hb] at this; cases this
              have HERR := Lib.hid herr
              clear herr
              rcases ofL_f P x with hf | hf
              rotate_left
              · have HD9 := Lib.hid (HERR.out (by unfold ofB; rw [hf]; rfl))
                rw [hf]
                have hB9 := HB4.out.kp HS8.out.oc.1
                obtain ⟨q0, q1, q2, f0, f1, f2⟩ := id hB9
                clear hf
                go_wp2_with fail
                rw [HD9.out]
                generalize hW9 : (((W8.setCell _ _).setCell _ _).setCell _ _) = W12
                obtain ⟨⟨r0, r1, r2, _⟩, hU⟩ := stored3 hB9 (fun _ h => by cases h) (fun _ h => by cases h) (fun _ h => by cases h) _ _ _ hW9
                clear hW9 q0 q1 q2 f0 f1 f2
                refine bodyPost_ret (v := .tuple #[.agg #[.slice rfNil.ca rfNil.cs.length rfNil.cc, .slice rfNil.aa rfNil.ms.length rfNil.ac, .slice rfNil.ra rfNil.rs.length rfNil.rc], .int .i64 9]) (by simp [results, Tryz.results16, go_sem, r0, r1, r2, rfNil]) rfl ?_
                exact FrO.err rfl (hU.2.2.1 _ HKR8.out (Nat.le_refl _))
              · rw [hf]
                have Hf := Lib.hid hf
                clear hf
                go_upto_region 18 with fail
                go_cut [12, 11] from 75 to 86 (fun s t wx => ∃ (b2 : Nat) (q : RD), s = .pointer (some ⟨b2, 0, none⟩) ∧ t = .int .i64 (ofH P x).2 ∧ HasD W8 wx b2 q (ofH P x).1)
                case first =>
                  have hPC : (W8.cell? ⟨bx, ox + C.length * 7 + 3, none⟩ = some (.bool x.hi.neg) ∧ W8.cell? ⟨bx, ox + C.length * 7 + 4, none⟩ = some (.slice x.hi.a x.hi.xs.length x.hi.c) ∧ W8.cell? ⟨bx, ox + C.length * 7 + 5, none⟩ = some (.int .i64 x.hi.e)) ∧ W8.cell? ⟨w5.heap.size, 0, none⟩ = some (.bool m.neg) ∧ W8.cell? ⟨w5.heap.size, 1, none⟩ = some (.slice m.a m.xs.length m.c) ∧ W8.cell? ⟨w5.heap.size, 2, none⟩ = some (.int .i64 m.e) := by
                    obtain ⟨x0, x1, x2, x3, x4, x5, x6⟩ := HPX8.out
                    obtain ⟨y0, y1, y2⟩ := HPM8.out
                    exact ⟨⟨x3, x4, x5⟩, y0, y1, y2⟩
                  have HOK := Lib.hid (ofH_ok P x HP.out.1 HP.out.2)
                  have kd := Lib.hid (Kp.refl W8).drew
                  have hSd := keep33v kd.out hPC
                  have HS0 := Lib.hid hPC
                  have KZ := Lib.hid (show Kp W8 (W8.alloc (.cells #[.bool false, .slice none 0 0, .int .i64 0] 33)).drew from kd.out.trans ((Kp.refl W8.drew).alloc _))
                  have HSZ := Lib.hid (keep33v KZ.out hPC)
                  have BZ := Lib.hid (show Box3 (W8.alloc (.cells #[.bool false, .slice none 0 0, .int .i64 0] 33)).drew W8.heap.size _ _ _ from Box3.new W8.drew _ _ _ _)
                  have n1 : bx ≠ W8.heap.size := Nat.ne_of_lt hbxc
                  have n2 : w5.heap.size ≠ W8.heap.size := Nat.ne_of_lt hb9c
                  have HB8 := Lib.hid (And.intro hbxc hb9c)
                  clear hPC
                  go_region_held3 (fun w' => (w'.cell? ⟨bx, ox + C.length * 7 + 3, none⟩ = some (.bool x.hi.neg) ∧ w'.cell? ⟨bx, ox + C.length * 7 + 4, none⟩ = some (.slice x.hi.a x.hi.xs.length x.hi.c) ∧ w'.cell? ⟨bx, ox + C.length * 7 + 5, none⟩ = some (.int .i64 x.hi.e)) ∧ w'.cell? ⟨w5.heap.size, 0, none⟩ = some (.bool m.neg) ∧ w'.cell? ⟨w5.heap.size, 1, none⟩ = some (.slice m.a m.xs.length m.c) ∧ w'.cell? ⟨w5.heap.size, 2, none⟩ = some (.int .i64 m.e)) (first | with_reducible assumption | with_reducible exact keep33v (by assumption) (by assumption) | with_reducible exact keep33v ((Kp.refl _).alloc _) (by assumption) | with_reducible exact set33y (by assumption) (by assumption) (by assumption) | with_reducible exact HSZ.out | fail)
                    (first
                      | (go_at_call 56; (with_reducible refine (r2Neg_ok m _ (OM8.out.kp kd.out)).mono ?_); rintro e v1 ⟨n, rfl, rn, dn, vn, j1⟩
                         have KJ := Lib.hid (kd.out.trans j1)
                         have hS1 := keep33v KJ.out HS0.out
                         have ON := Lib.hid (And.intro (show n.ok v1 from ⟨rn, vn (Dy.opp_ok2 (rdok_dy OM8.out))⟩) (show n.dy = (ofM P x).opp by rw [dn, DM.out]))
                         clear rn dn vn)
                      | (go_at_call 56; (with_reducible refine (r2Neg_ok m _ (OM8.out.kp KZ.out)).mono ?_); rintro e v1 ⟨n, rfl, rn, dn, vn, j1⟩
                         have KJ := Lib.hid (KZ.out.trans j1)
                         have hS1 := keep33v KJ.out HS0.out
                         have BV := Lib.hid (BZ.out.kp j1)
                         have ON := Lib.hid (And.intro (show n.ok v1 from ⟨rn, vn (Dy.opp_ok2 (rdok_dy OM8.out))⟩) (show n.dy = (ofM P x).opp by rw [dn, DM.out]))
                         clear rn dn vn)
                      | (go_at_call 55; (with_reducible refine (HAU8.out _ n ON.out.2 ON.out.1 KJ.out).mono ?_); rintro e v2 ⟨z, rfl, zr, zd, zv, j2⟩
                         have hS2 := keep33v j2 hS1
                         have OZ := Lib.hid (And.intro (show z.ok v2 from ⟨zr, zv HOK.out⟩) (show z.dy = _ from zd))
                         have KF := Lib.hid (KJ.out.trans j2)
                         clear zr zd zv
                         first
                           | (have BF := Lib.hid (BV.out.kp j2)
                              obtain ⟨q0, q1, q2, f0, f1, f2⟩ := id BF.out
                              have GF := Lib.hid (Nat.le_refl W8.heap.size))
                           | skip)
                      | (go_at_call 55; (with_reducible refine (HAU8.out _ n ON.out.2 (ON.out.1.kp ((Kp.refl _).alloc _)) (KJ.out.alloc _)).mono ?_); rintro e v2 ⟨z, rfl, zr, zd, zv, j2⟩
                         have hS2 := keep33v (((Kp.refl _).alloc _).trans j2) hS1
                         have OZ := Lib.hid (And.intro (show z.ok v2 from ⟨zr, zv HOK.out⟩) (show z.dy = _ from zd))
                         have KF := Lib.hid ((KJ.out.alloc _).trans j2)
                         have GF := Lib.hid KJ.out.size
                         have n3 : bx ≠ v1.heap.size := by have := GF.out; have := HB8.out; omega
                         have n4 : w5.heap.size ≠ v1.heap.size := by have := GF.out; have := HB8.out; omega
                         have BF := Lib.hid ((Box3.new v1 (.bool false) (.slice none 0 0) (.int .i64 0) 33).kp j2)
                         clear zr zd zv
                         obtain ⟨q0, q1, q2, f0, f1, f2⟩ := id BF.out)
                      | fail)
                  all_goals
                    go_wp2_with fail
                    go_meet
                    case rel => first
                      | exact ⟨_, z, rfl, rfl, hasD_store BF.out (fun _ h => by cases h) (fun _ h => by cases h) (fun _ h => by cases h) OZ.out.1 OZ.out.2 KF.out GF.out⟩
                      | exact ⟨_, z, rfl, rfl, hasD_alloc OZ.out.1 OZ.out.2 KF.out _⟩
                case rest =>
                obtain ⟨b2, r, rfl, rfl, hD2⟩ := hcut
                obtain ⟨W9, hW9⟩ : ∃ x : World, x = wc := ⟨_, rfl⟩
                subst hW9
                have k9 := hD2.2.2.2.1
                have HD1 := Lib.hid (HD1.out.kp k9)
                have HD2 := Lib.hid hD2
                have HPM9 := Lib.hid (keep3 k9 HPM8.out)
                have OM9 := Lib.hid (OM8.out.kp k9)
                have HS9 := Lib.hid (HS8.out.kp k9)
                have HKR9 := Lib.hid (HKR8.out.trans k9)
                have hb29 : w5.heap.size < b2 := by have := hD2.2.2.2.2; omega
                have hsz9 : wr.heap.size ≤ W9.heap.size := by have := k9.size; omega
                clear hD2 k9 HAU8 OM8 HPX8 HPM8 HS8 HKR8 hbxc hb9c
                rcases ofH_f P x with hg | hg
                rotate_left
                · have HD9 := Lib.hid (HERR.out (by unfold ofB; rw [hg]; exact Bool.and_false _))
                  rw [hg]
                  have hB9 := HB4.out.kp HS9.out.oc.1
                  obtain ⟨q0, q1, q2, f0, f1, f2⟩ := id hB9
                  clear hg
                  go_wp2_with fail
                  rw [HD9.out]
                  generalize hW9 : (((W9.setCell _ _).setCell _ _).setCell _ _) = W12
                  obtain ⟨⟨r0, r1, r2, _⟩, hU⟩ := stored3 hB9 (fun _ h => by cases h) (fun _ h => by cases h) (fun _ h => by cases h) _ _ _ hW9
                  clear hW9 q0 q1 q2 f0 f1 f2
                  refine bodyPost_ret (v := .tuple #[.agg #[.slice rfNil.ca rfNil.cs.length rfNil.cc, .slice rfNil.aa rfNil.ms.length rfNil.ac, .slice rfNil.ra rfNil.rs.length rfNil.rc], .int .i64 9]) (by simp [results, Tryz.results16, go_sem, r0, r1, r2, rfNil]) rfl ?_
                  exact FrO.err rfl (hU.2.2.1 _ HKR9.out (Nat.le_refl _))
                · have HFB := Lib.hid (ofB_iff.2 ⟨Hf.out, hg⟩)
                  rw [hg]
                  clear hg
                  have hmk2 := make_nums (xs.length : Int) xs.length rfl (by omega)
                  have hNZ := NumZ.made W9 xs.length 33
                  have kZ := (Kp.refl W9).alloc (.cells (madeCells #[.bool false, .slice none 0 0, .int .i64 0] (xs.length * 3)) 33)
                  go_upto_region 22 with fail
                  generalize hWz : W9.alloc _ = Wz at *
                  clear hWz hmk2
                  have kU := (Kp.refl Wz).alloc (.cells #[.int .u32 1] 73)
                  have HNU := Lib.hid (hNZ.kp kU)
                  have hyU := oneU_rd Wz
                  have hz1 := (HNU.out.1 C.length Hlt.out.1).2.1
                  have hz2 := HNU.out.2.1 (C.length * 3 + 1)
                  have kZU := kZ.trans kU
                  clear kZ kU hNZ
                  go_upto_region 23 with fail
                  have hset : RowD ((Wz.alloc (.cells #[.int .u32 1] 73)).setCell ⟨W9.heap.size, C.length * 3 + 1, none⟩ (.slice (some ⟨Wz.heap.size, 0, none⟩) 1 1)) (some ⟨W9.heap.size, 0, none⟩) (unitN xs.length C.length (oneU Wz.heap.size)) ∧ Upd W9.heap.size (Wz.alloc (.cells #[.int .u32 1] 73)) ((Wz.alloc (.cells #[.int .u32 1] 73)).setCell ⟨W9.heap.size, C.length * 3 + 1, none⟩ (.slice (some ⟨Wz.heap.size, 0, none⟩) 1 1)) := HNU.out.setM Hlt.out.1 hyU
                  generalize hWr : World.setCell _ _ _ = Wr at *
                  obtain ⟨hrow, hUr⟩ := hset
                  have kr : Kp W9 Wr := hUr.2.2.1 _ kZU (Nat.le_refl _)
                  have hkz : W9.heap.size < Wr.heap.size := by rw [hUr.2.2.2.2]; exact HNU.out.2.2
                  have hgk : w2.heap.size < W9.heap.size := HS9.out.lt
                  have hSk : w.heap.size + 1 ≤ W9.heap.size := by have := HW4.out; omega
                  have HROW := Lib.hid (show RowDs (w.heap.size + 1) Wr (some ⟨W9.heap.size, 0, none⟩) (unitN xs.length C.length (oneU Wz.heap.size)) from ⟨hrow, fun p hp => by cases hp; exact hSk⟩)
                  have hv1n := own_ne Hnew.out.1 hsz9
                  have hv2n := own_ne Hnew.out.2.1 hsz9
                  have hvan := own_ne Hnew.out.2.2.1 hsz9
                  have kB := (Kp.refl Wr).alloc (.cells #[.bool m.neg, .slice m.a m.xs.length m.c, .int .i64 m.e] 33)
                  have kB9 := kr.trans kB
                  have HSr := Lib.hid (HS9.out.kp kr)
                  have HSB := Lib.hid (HS9.out.kp kB9)
                  have HD1B := Lib.hid (HD1.out.kp kB9)
                  have HD2B := Lib.hid (HD2.out.kp kB9)
                  have rmB := (OM9.out.kp kB9).1
                  have HROWB := Lib.hid (HROW.out.kp kB)
                  have hkzB : W9.heap.size < (Wr.alloc (.cells #[.bool m.neg, .slice m.a m.xs.length m.c, .int .i64 m.e] 33)).heap.size := by simp; omega
                  have HO1 := Lib.hid (show Off v1 (some ⟨W9.heap.size, 0, none⟩) (Wr.alloc (.cells #[.bool m.neg, .slice m.a m.xs.length m.c, .int .i64 m.e] 33)) from fun p hp => by cases hp; exact ⟨hv1n, hkzB⟩)
                  have HO2 := Lib.hid (show Off v2 (some ⟨W9.heap.size, 0, none⟩) (Wr.alloc (.cells #[.bool m.neg, .slice m.a m.xs.length m.c, .int .i64 m.e] 33)) from fun p hp => by cases hp; exact ⟨hv2n, hkzB⟩)
                  have HOA := Lib.hid (show Off va (some ⟨W9.heap.size, 0, none⟩) (Wr.alloc (.cells #[.bool m.neg, .slice m.a m.xs.length m.c, .int .i64 m.e] 33)) from fun p hp => by cases hp; exact ⟨hvan, hkzB⟩)
                  obtain ⟨g0, g1, g2, gf0, gf1, gf2⟩ := id HSr.out.box
                  obtain ⟨m0, m1, m2⟩ := keep3 kr HPM9.out
                  have hownB := HSB.out.oc
                  have hcl : C.length + 1 ≤ 9000000 := by have := Hlt.out; omega
                  clear kB kB9 hWr hrow hUr hz1 hz2 kZU hyU hkzB hkz
                  go_upto_region 24 with (at_builtin; refine wpList_append_dyg rfl _ _ rfl w2 v1 C rfl hownB _ _ rfl m rmB (by simp) hcl ?_; intro a1 d1 w10 hown1 hgrow1 hnew1; obtain ⟨g0, g1, g2, gf0, gf1, gf2⟩ := HSB.out.box.grown hgrow1 HSB.out.n1 HSB.out.lt)
                  have hb1w : wr.heap.size ≤ b1 := by omega
                  have hb2w : wr.heap.size ≤ b2 := by omega
                  have hw4r := Hnew.out.2.2.2
                  have hgz : (∀ p : Addr, some (⟨W9.heap.size, 0, none⟩ : Addr) = some p → p.block ≠ w2.heap.size) := fun p hp => by cases hp; show W9.heap.size ≠ _; omega
                  have HGZ := Lib.hid hgz
                  have hS11 := HSB.out.c hown1 hgrow1 hnew1
                  have hP1 := num_past (u := .slice a1 (C.length + 1) d1) HD1B.out.1 HD1B.out.2.1 hgrow1 hownB.2.2.1 (own_ne Hnew.out.1 hb1w) (show b1 ≠ w2.heap.size by omega) g0 hownB.noU
                  have hP2 := num_past (u := .slice a1 (C.length + 1) d1) HD2B.out.1 HD2B.out.2.1 hgrow1 hownB.2.2.1 (own_ne Hnew.out.1 hb2w) (show b2 ≠ w2.heap.size by omega) g0 hownB.noU
                  have hROW1 := (HROWB.out.far hgrow1 hownB.2.2.1 HO1.out).other (y := .slice a1 (C.length + 1) d1) hgz g0 hownB.noU
                  have hO1 := (HO1.out.far hgrow1.size hnew1).kp (w' := w10.setCell ⟨w2.heap.size, 0, none⟩ (.slice a1 (C.length + 1) d1)) (by simp)
                  have hO2 := (HO2.out.kp hgrow1.size).kp (w' := w10.setCell ⟨w2.heap.size, 0, none⟩ (.slice a1 (C.length + 1) d1)) (by simp)
                  have hOA := (HOA.out.kp hgrow1.size).kp (w' := w10.setCell ⟨w2.heap.size, 0, none⟩ (.slice a1 (C.length + 1) d1)) (by simp)
                  generalize hW11 : w10.setCell _ _ = W11 at *
                  clear hW11 hown1 hgrow1 hnew1 g0 g1 g2 gf0 gf1 gf2 m0 m1 m2 rmB hownB kr hgz
                  have kC := (Kp.refl W11).alloc (.cells #[.slice (some ⟨W9.heap.size, 0, none⟩) xs.length xs.length] 22)
                  have HSC := Lib.hid (hS11.kp kC)
                  have HD1C := Lib.hid (And.intro (keep3 kC hP1.1) (hP1.2.kp kC))
                  have HD2C := Lib.hid (And.intro (keep3 kC hP2.1) (hP2.2.kp kC))
                  have hROWC := hROW1.kp kC
                  have HO1C := Lib.hid (hO1.kp kC.size)
                  have HO2C := Lib.hid (hO2.kp kC.size)
                  have hOAC := hOA.kp kC.size
                  have hownA := HSC.out.oa
                  have hrl : (unitN xs.length C.length (oneU Wz.heap.size)).length ≤ 1100000 := by rw [unitN_len]; exact hl
                  have hclA : A.length + 1 ≤ 9000000 := by rw [HIA.out.1]; exact hcl
                  obtain ⟨g0, g1, g2, gf0, gf1, gf2⟩ := id hS11.box
                  clear kC hS11 hP1 hP2 hROW1 hO1 hO2 hOA
                  go_upto_region 25 with (at_builtin; refine wpList_append_rowg rfl _ _ rfl (w.heap.size + 1) w2 va us A rfl hownA _ _ rfl (some ⟨W9.heap.size, 0, none⟩) xs.length (unitN xs.length C.length (oneU Wz.heap.size)) hROWC hOAC hrl (by simp [unitN_len]) hclA ?_; intro va' w12 hown2 hgrow2 hnew2; obtain ⟨a3, d3, e3, -, -, -⟩ := hown2.value; rw [List.length_append, List.length_singleton] at e3; subst e3; obtain ⟨g0, g1, g2, gf0, gf1, gf2⟩ := HSC.out.box.grown hgrow2 HSC.out.na HSC.out.lt)
                  have hS14 := HSC.out.a hown2 hgrow2 hnew2 HO1C.out HO2C.out HGZ.out
                  have hP1 := num_past (u := .slice a3 (A.length + 1) d3) HD1C.out.1 HD1C.out.2 hgrow2 hownA.2.2.1 (own_ne Hnew.out.2.2.1 hb1w) (show b1 ≠ w2.heap.size by omega) g1 hownA.noU
                  have hP2 := num_past (u := .slice a3 (A.length + 1) d3) HD2C.out.1 HD2C.out.2 hgrow2 hownA.2.2.1 (own_ne Hnew.out.2.2.1 hb2w) (show b2 ≠ w2.heap.size by omega) g1 hownA.noU
                  generalize hW14 : w12.setCell _ _ = W14 at *
                  have HZ := Lib.hid (show (⟨q, r, false⟩ : RI).pl = ofR P x by show PI.mk q.dy r.dy false = _; rw [HD1.out.2.2.1, HD2.out.2.2.1]; rfl)
                  have HZV := Lib.hid (show (⟨q, r, false⟩ : RI).vl = true by
                    have hz := ofR_zero OX8.out HP.out.1 HP.out.2 HFB.out
                    have e1 : q.iv = (ofL P x).1.iv := by show q.dy.iv = _; rw [HD1.out.2.2.1]
                    have e2 : r.iv = (ofH P x).1.iv := by show r.dy.iv = _; rw [HD2.out.2.2.1]
                    unfold RI.vl
                    rw [if_neg (by simp), leZ]
                    simp only [HD1.out.2.1.2, HD2.out.2.1.2, Bool.true_and, decide_eq_true_eq]
                    rw [e1, e2]; omega)
                  have kD := (Kp.refl W14).alloc (.cells #[.bool (⟨q, r, false⟩ : RI).lo.neg, .slice (⟨q, r, false⟩ : RI).lo.a (⟨q, r, false⟩ : RI).lo.xs.length (⟨q, r, false⟩ : RI).lo.c, .int .i64 (⟨q, r, false⟩ : RI).lo.e, .bool (⟨q, r, false⟩ : RI).hi.neg, .slice (⟨q, r, false⟩ : RI).hi.a (⟨q, r, false⟩ : RI).hi.xs.length (⟨q, r, false⟩ : RI).hi.c, .int .i64 (⟨q, r, false⟩ : RI).hi.e, .bool (⟨q, r, false⟩ : RI).all] 35)
                  clear hW14 hown2 hgrow2 hnew2 g0 g1 g2 gf0 gf1 gf2 hownA hROWC hOAC
                  obtain ⟨g0, g1, g2, gf0, gf1, gf2⟩ := id hS14.box
                  obtain ⟨q0, q1, q2⟩ := id hP1.1
                  obtain ⟨r0, r1, r2⟩ := id hP2.1
                  have HSD := Lib.hid (hS14.kp kD)
                  have hownD := HSD.out.oi
                  have hrdD : (⟨q, r, false⟩ : RI).rd (W14.alloc (.cells #[.bool (⟨q, r, false⟩ : RI).lo.neg, .slice (⟨q, r, false⟩ : RI).lo.a (⟨q, r, false⟩ : RI).lo.xs.length (⟨q, r, false⟩ : RI).lo.c, .int .i64 (⟨q, r, false⟩ : RI).lo.e, .bool (⟨q, r, false⟩ : RI).hi.neg, .slice (⟨q, r, false⟩ : RI).hi.a (⟨q, r, false⟩ : RI).hi.xs.length (⟨q, r, false⟩ : RI).hi.c, .int .i64 (⟨q, r, false⟩ : RI).hi.e, .bool (⟨q, r, false⟩ : RI).all] 35)) := ⟨(hP1.2.kp kD).1, (hP2.2.kp kD).1⟩
                  have HRl := Lib.hid (show R.length = C.length by have := congrArg List.length HI.out.2.1; unfold plR at this; simp only [List.length_map, List.length_take] at this; have := Hlt.out; omega)
                  have hclR : R.length + 1 ≤ 9000000 := by rw [HRl.out]; exact hcl
                  clear kD hS14 hP1 hP2
                  go_wp2_with (at_builtin; refine wpList_append_ivg rfl _ _ rfl w2 v2 R rfl hownD _ _ rfl ⟨q, r, false⟩ hrdD (by simp) hclR ?_; intro a2 d2 w15 hown3 hgrow3 hnew3; obtain ⟨g0, g1, g2, gf0, gf1, gf2⟩ := HSD.out.box.grown hgrow3 HSD.out.n2 HSD.out.lt)
                  have hS17 := HSD.out.r hown3 hgrow3 hnew3
                  generalize hW17 : w15.setCell _ _ = W17 at *
                  have HS17 := Lib.hid hS17
                  clear hown3 hgrow3 hnew3 hS17 hW17 g0 g1 g2 gf0 gf1 gf2 q0 q1 q2 r0 r1 r2 hownD hrdD
                  go_roundg (gk - 1)
                  case measure => have := Hlt.out; omega
                  case rel =>
                    have hS := HS17.out
                    have hx := Hx.out
                    have hu := HIA.out.2.snoc (y := oneU Wz.heap.size) (oneU_dy _) (oneU_vl _)
                    rw [HIA.out.1] at hu
                    refine ⟨C ++ [m], A ++ [unitN xs.length C.length (oneU Wz.heap.size)], _, R ++ [⟨q, r, false⟩], _, _, _, by have := Hlt.out; rw [List.length_append, List.length_singleton]; omega, by rw [List.length_append, List.length_singleton]; go_num, hS, ?_, ?_, vl_snocD HI.out.2.2.1 OM9.out.2, ok_snoc HI.out.2.2.2.1 HZV.out, ?_, by rw [List.length_append, List.length_append, List.length_singleton, List.length_singleton, HIA.out.1], hu⟩
                    · rw [List.length_append, List.length_singleton, take_snoc hx, List.map_append, List.map_append, HI.out.1, List.map_singleton, List.map_singleton, DM.out]
                    · rw [List.length_append, List.length_singleton, take_snoc hx, plR_snoc, List.map_append, HI.out.2.1, List.map_singleton, HZ.out]
                    · rw [List.length_append, List.length_singleton, take_snoc hx, List.all_append, HI.out.2.2.2.2, List.all_cons, HFB.out]; rfl
            · have hCe : C.length = xs.length := by omega
              have hnl : ¬ ((C.length : Int) < (xs.length : Int)) := by omega
              have hS := HS.out
              have hHI := HI.out
              rw [hCe, List.take_length] at hHI
              have HF := Lib.hid (And.intro hCe hHI)
              have hRl : R.length = xs.length := by have := congrArg List.length hHI.2.1; unfold plR at this; simpa using this
              have HRl := Lib.hid hRl
              obtain ⟨a1, d1, e1, _, _, hr1⟩ := hS.oc.value
              obtain ⟨a2, d2, e2, _, _, hr2⟩ := hS.oi.value
              obtain ⟨a3, d3, e3, _, _, hr3⟩ := hS.oa.value
              subst e1
              subst e2
              subst e3
              have HRR := Lib.hid (And.intro (hS.oc.rows (S := w.heap.size + 1) HW4.out rfl hr1) (And.intro (hS.oi.rows (S := w.heap.size + 1) HW4.out rfl hr2) hr3))
              have HKF := Lib.hid hS.oc.1
              have hBF := HB4.out.kp HKF.out
              obtain ⟨g0, g1, g2, _, _, _⟩ := hS.box
              obtain ⟨q0, q1, q2, f0, f1, f2⟩ := id hBF
              have HED := Lib.hid (show D = (0, xs.map (ofM P), xs.map (ofR P)) by rw [HE.out, if_pos hHI.2.2.2.2])
              clear hS hHI hCe hRl hr1 hr2 hr3 HI
              clear hCq hlt HS
              go_wp2_with fail
              rw [HED.out]
              generalize hW9 : (((wr.setCell _ _).setCell _ _).setCell _ _) = W12
              obtain ⟨⟨r0, r1, r2, _⟩, hU⟩ := stored3 hBF (fun _ h => by cases h) (fun _ h => by cases h) (fun _ h => by cases h) _ _ _ hW9
              clear hW9 q0 q1 q2 f0 f1 f2 g0 g1 g2 hnl
              refine bodyPost_ret (v := .tuple #[.agg #[.slice a1 C.length d1, .slice a3 A.length d3, .slice a2 R.length d2], .int .i64 0]) (by simp [results, Tryz.results16, go_sem, r0, r1, r2]) rfl ?_
              refine ⟨⟨a1, C, d1, a3, A, d3, a2, R, d2⟩, rfl, ⟨⟨(HRR.out.1.upd hU (Nat.lt_succ_self _)).1, ?_⟩, ⟨(HRR.out.2.2.upd hU (Nat.lt_succ_self _)).row, ?_⟩, ⟨(HRR.out.2.1.upd hU (Nat.lt_succ_self _)).1, ?_⟩⟩, HF.out.2.1, HF.out.2.2.1, HF.out.2.2.2.1, HF.out.2.2.2.2.1, HIA.out.1, HIA.out.2, hU.2.2.1 _ (HK2.out.trans HKF.out) (Nat.le_refl _)⟩
              · show C.length ≤ _; have := HF.out.1; omega
              · show A.length ≤ _; have := HF.out.1; have := HIA.out.1; omega
              · show R.length ≤ _; have := HRl.out; omega
end Go.Proofs.YtdlpiblgkpgplaaGreatDoor
