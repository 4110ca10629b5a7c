/-
  Walks: frame.Of.
-/
import Derived.Deep.LoopGhost
import Derived.Deep.DeepFit
import Derived.Deep.RegionLaw
import Derived.Deep.RegionHeld3
import Derived.Test.YtdlpiblgkpgplaaGreatDoorMOfB
import Derived.Test.YtdlpiblgkpgplaaGreatDoorMOwnX
namespace Go.Proofs.YtdlpiblgkpgplaaGreatDoor
open Go.RowKit

theorem fofB_any (x : RI) (w : World) :
    Calls Tryz.prog 47 #[.agg #[.bool x.lo.neg, .slice x.lo.a x.lo.xs.length x.lo.c, .int .i64 x.lo.e, .bool x.hi.neg, .slice x.hi.a x.hi.xs.length x.hi.c, .int .i64 x.hi.e, .bool x.all]] w fun e w' => e = .returned (.bool x.all) ∧ Kp w w' := by
  go_enter Tryz.func47, Tryz.ntmps47
  go_wp2_with fail
  go_ret
  exact ⟨rfl, (Kp.refl w).alloc _⟩
set_option maxRecDepth 100000 in
set_option maxHeartbeats 8000000 in
theorem fof_any (a : Option Addr) (xs : List RI) (c : Nat) (p : Int) (w : World) (hx : RowI w a xs) (hl : xs.length ≤ 1100000) (hT : Tab w) :
    Calls Tryz.prog 15 #[.slice a xs.length c, .int .i64 p] w (FrO xs.length (ofV xs p) w) := by
  have HX := Lib.hid hx
  have HT := Lib.hid hT
  obtain ⟨D, hD⟩ : ∃ D, D = ofV xs p := ⟨_, rfl⟩
  have HD := Lib.hid hD
  rw [← hD]
  have hB := Box3.new w (.slice none 0 0) (.slice none 0 0) (.slice none 0 0) 26
  have HK := Lib.hid ((Kp.refl w).alloc (.cells #[.slice none 0 0, .slice none 0 0, .slice none 0 0] 26))
  clear hx hT hD
  go_enter Tryz.func15, Tryz.ntmps15
  go_upto_region 1 with fail
  generalize hW0 : w.alloc _ = W0 at *
  clear hW0
  go_wp2_with fail
  go_fit (BValid_any a xs c _ (HX.out.kp HK.out) hl)
  rintro e w1 ⟨rfl, k1⟩
  have hB1 := hB.kp k1
  have HK1 := Lib.hid (HK.out.trans k1)
  clear hB k1
  cases hv : vlB xs with
  | false =>
    have HE := Lib.hid (show D = (1, [], []) by rw [HD.out]; unfold ofV; rw [if_pos hv])
    clear hv
    obtain ⟨q0, q1, q2, f0, f1, f2⟩ := id hB1
    go_wp2_with fail
    rw [HE.out]
    generalize hW9 : (((w1.setCell _ _).setCell _ _).setCell _ _) = W9
    obtain ⟨⟨r0, r1, r2, _⟩, hU⟩ := stored3 hB1 (fun _ h => by cases h) (fun _ h => by cases h) (fun _ h => by cases h) _ _ _ hW9
    clear hW9 q0 q1 q2 f0 f1 f2
    refine bodyPost_ret (v := .tuple #[.agg #[.slice rfNil.ca rfNil.cs.length rfNil.cc, .slice rfNil.aa rfNil.ms.length rfNil.ac, .slice rfNil.ra rfNil.rs.length rfNil.rc], .int .i64 1]) (by simp [results, Tryz.results15, go_sem, r0, r1, r2, rfNil]) rfl ?_
    exact FrO.err rfl (hU.2.2.1 _ HK1.out (Nat.le_refl _))
  | true =>
    have hgood := (vlB_iff.1 hv)
    have HG := Lib.hid hgood
    have hp : AnsI Tryz.prog 47 #[] w1 xs (fun x => x.all) := ⟨fun _ _ => by kernel_rfl, fun x hx w1 k => fofB_any x w1⟩
    have hc := containsI a xs c _ _ w1 _ hl (HX.out.kp HK1.out) hp
    rw [show (xs.any fun x => x.all) = false by
      rw [List.any_eq_false]
      intro x hx
      have := (List.all_eq_true.1 hgood.2.2) x hx
      unfold goodI at this
      rw [Bool.and_eq_true, Bool.not_eq_true'] at this
      rw [this.1]; decide] at hc
    have HC := Lib.hid hc
    have HV := Lib.hid hv
    clear hc hp hgood hv
    go_wp2_with fail
    refine HC.out.mono ?_
    rintro e w2 ⟨rfl, k2⟩
    have hB2 := hB1.kp k2
    have HK2 := Lib.hid (HK1.out.trans k2)
    clear hB1 k2 HC
    go_wp2_with fail
    go_fit (fprecise_any p _)
    rintro e w3 ⟨rfl, rfl⟩
    cases hq : preB p with
    | false =>
      have HE := Lib.hid (show D = (2, [], []) by rw [HD.out]; unfold ofV; rw [if_neg (by rw [HV.out]; decide), if_pos hq])
      clear hq
      obtain ⟨q0, q1, q2, f0, f1, f2⟩ := id hB2
      go_wp2_with fail
      rw [HE.out]
      generalize hW9 : (((w2.setCell _ _).setCell _ _).setCell _ _) = W9
      obtain ⟨⟨r0, r1, r2, _⟩, hU⟩ := stored3 hB2 (fun _ h => by cases h) (fun _ h => by cases h) (fun _ h => by cases h) _ _ _ hW9
      clear hW9 q0 q1 q2 f0 f1 f2
      refine bodyPost_ret (v := .tuple #[.agg #[.slice rfNil.ca rfNil.cs.length rfNil.cc, .slice rfNil.aa rfNil.ms.length rfNil.ac, .slice rfNil.ra rfNil.rs.length rfNil.rc], .int .i64 2]) (by simp [results, Tryz.results15, go_sem, r0, r1, r2, rfNil]) rfl ?_
      exact FrO.err rfl (hU.2.2.1 _ HK2.out (Nat.le_refl _))
    | true =>
      have HQ := Lib.hid (preB_iff.1 hq)
      obtain ⟨P, hP⟩ : ∃ P : Nat, (P : Int) = p := ⟨p.toNat, by have := HQ.out; omega⟩
      subst hP
      have HP := Lib.hid (show 8 ≤ P ∧ P ≤ 512 by have := HQ.out; omega)
      have HE := Lib.hid (show D = if xs.all (ofB P) = true then (0, xs.map (ofM P), xs.map (ofR P)) else (9, [], []) by rw [HD.out]; unfold ofV; rw [if_neg (by rw [HV.out]; decide), if_neg (by rw [hq]; decide)]; rfl)
      clear hq
      go_wp2_with fail
      go_fit (fidentity_any xs.length _ HG.out.2.1 (HT.out.kp HK2.out))
      rintro e w4 ⟨ad, R0, rfl, hR0, hRN, hRU, k4⟩
      have hB4 := hB2.kp k4
      have HK4 := Lib.hid (HK2.out.trans k4)
      have HR := Lib.hid (And.intro hR0 (And.intro hRN hRU))
      have HSZ := Lib.hid (show w.heap.size < w2.heap.size from World.block_lt_of_cell? _ _ hB2.1)
      clear hB2 k4 hR0 hRN hRU
      go_upto_region 6 with fail
      have hS := OfS.new w4 (.slice (some ad) xs.length xs.length) 26
      have HRF := Lib.hid (show Box3 (w4.alloc (.cells #[.slice none 0 0, .slice (some ad) xs.length xs.length, .slice none 0 0] 26)) w.heap.size (.slice none 0 0) (.slice none 0 0) (.slice none 0 0) from hB4.kp ((Kp.refl w4).alloc _))
      generalize hW5 : w4.alloc _ = W5 at *
      have HB4 := Lib.hid hB4
      have HW4 := Lib.hid (show w.heap.size + 1 ≤ w4.heap.size from World.block_lt_of_cell? _ _ hB4.1)
      clear hW5 hB4
      have HS := Lib.hid hS
      clear hS
      go_wp2_with fail
      go_loopg [34] xs.length (fun q v wr => ∃ (C : List RD) (R : List RI) (v1 v2 : Value), C.length + q = xs.length ∧ v = .int .i64 (C.length : Int) ∧ OfS w4 wr (.slice (some ad) xs.length xs.length) v1 v2 C R ∧ Box3 wr w.heap.size (.slice none 0 0) (.slice none 0 0) (.slice none 0 0) ∧ C.map RD.dy = (xs.take C.length).map (ofM P) ∧ plR R = (xs.take C.length).map (ofR P) ∧ (∀ y ∈ C, y.vl = true) ∧ (∀ z ∈ R, z.vl = true) ∧ (xs.take C.length).all (ofB P) = true)
      case atStart => exact ⟨[], [], _, _, by simp, rfl, HS.out, HRF.out, rfl, rfl, fun y h => by simp at h, fun y h => by simp at h, rfl⟩
      case round =>
        obtain ⟨C, R, v1, v2, hCq, rfl, hS, hRF, hC, hR, hvC, hvR, hall⟩ := hrel
        clear HS HRF
        have HI := Lib.hid (And.intro hC (And.intro hR (And.intro hvC (And.intro hvR hall))))
        have HS := Lib.hid hS
        have HRF := Lib.hid hRF
        clear hC hR hvC hvR hall hS hRF
        by_cases hlt : C.length < xs.length
        · obtain ⟨x, hx⟩ : ∃ x, xs[C.length]? = some x := ⟨_, List.getElem?_eq_getElem hlt⟩
          have kwr := HK4.out.trans HS.out.2.2.1.1
          obtain ⟨bx, ox, rfl, hxr, c0, c1, c2, c3, c4, c5, c6⟩ := (HX.out.kp kwr) C.length x hx
          have hgx := (List.all_eq_true.1 HG.out.2.2) x (List.mem_of_getElem? hx)
          have hxo := (goodI_ok hxr).1 hgx
          have hxa := hxo.2.1
          have Hx := Lib.hid hx
          have Hlt := Lib.hid (And.intro hlt hCq)
          have hi1 : (0 : Int) ≤ (C.length : Int) := by omega
          have hi2 : (C.length : Int) < (xs.length : Int) := by omega
          have HKR := Lib.hid kwr
          rw [hxa] at c6
          have OX := Lib.hid hxo
          clear hx hxr hgx hxo hxa hCq kwr hlt
          go_upto_region 9 with fail
          have kA := (Kp.refl wr).alloc (.cells #[.bool x.lo.neg, .slice x.lo.a x.lo.xs.length x.lo.c, .int .i64 x.lo.e, .bool x.hi.neg, .slice x.hi.a x.hi.xs.length x.hi.c, .int .i64 x.hi.e, .bool false] 35)
          have HS1 := Lib.hid (HS.out.kp kA)
          have HRF1 := Lib.hid (HRF.out.kp kA)
          have HKR1 := Lib.hid (HKR.out.trans kA)
          have OX1 := Lib.hid (OX.out.kp kA)
          have HPX := Lib.hid (show (wr.alloc (.cells #[.bool x.lo.neg, .slice x.lo.a x.lo.xs.length x.lo.c, .int .i64 x.lo.e, .bool x.hi.neg, .slice x.hi.a x.hi.xs.length x.hi.c, .int .i64 x.hi.e, .bool false] 35)).cell? ⟨wr.heap.size, 0, none⟩ = some (.bool x.lo.neg) ∧ (wr.alloc (.cells #[.bool x.lo.neg, .slice x.lo.a x.lo.xs.length x.lo.c, .int .i64 x.lo.e, .bool x.hi.neg, .slice x.hi.a x.hi.xs.length x.hi.c, .int .i64 x.hi.e, .bool false] 35)).cell? ⟨wr.heap.size, 1, none⟩ = some (.slice x.lo.a x.lo.xs.length x.lo.c) ∧ (wr.alloc (.cells #[.bool x.lo.neg, .slice x.lo.a x.lo.xs.length x.lo.c, .int .i64 x.lo.e, .bool x.hi.neg, .slice x.hi.a x.hi.xs.length x.hi.c, .int .i64 x.hi.e, .bool false] 35)).cell? ⟨wr.heap.size, 2, none⟩ = some (.int .i64 x.lo.e) ∧ (wr.alloc (.cells #[.bool x.lo.neg, .slice x.lo.a x.lo.xs.length x.lo.c, .int .i64 x.lo.e, .bool x.hi.neg, .slice x.hi.a x.hi.xs.length x.hi.c, .int .i64 x.hi.e, .bool false] 35)).cell? ⟨wr.heap.size, 3, none⟩ = some (.bool x.hi.neg) ∧ (wr.alloc (.cells #[.bool x.lo.neg, .slice x.lo.a x.lo.xs.length x.lo.c, .int .i64 x.lo.e, .bool x.hi.neg, .slice x.hi.a x.hi.xs.length x.hi.c, .int .i64 x.hi.e, .bool false] 35)).cell? ⟨wr.heap.size, 4, none⟩ = some (.slice x.hi.a x.hi.xs.length x.hi.c) ∧ (wr.alloc (.cells #[.bool x.lo.neg, .slice x.lo.a x.lo.xs.length x.lo.c, .int .i64 x.lo.e, .bool x.hi.neg, .slice x.hi.a x.hi.xs.length x.hi.c, .int .i64 x.hi.e, .bool false] 35)).cell? ⟨wr.heap.size, 5, none⟩ = some (.int .i64 x.hi.e) ∧ (wr.alloc (.cells #[.bool x.lo.neg, .slice x.lo.a x.lo.xs.length x.lo.c, .int .i64 x.lo.e, .bool x.hi.neg, .slice x.hi.a x.hi.xs.length x.hi.c, .int .i64 x.hi.e, .bool false] 35)).cell? ⟨wr.heap.size, 6, none⟩ = some (.bool false) by simp)
          have hb8 : wr.heap.size < (wr.alloc (.cells #[.bool x.lo.neg, .slice x.lo.a x.lo.xs.length x.lo.c, .int .i64 x.lo.e, .bool x.hi.neg, .slice x.hi.a x.hi.xs.length x.hi.c, .int .i64 x.hi.e, .bool false] 35)).heap.size := by simp
          have Hnew := Lib.hid (And.intro HS.out.2.2.1.new (And.intro HS.out.2.2.2.1.new HS.out.2.1))
          generalize hW1 : wr.alloc _ = W1 at *
          clear hW1 kA HS HRF HKR OX c0 c1 c2 c3 c4 c5 c6
          obtain ⟨s0, s1, s2, s3, s4, s5, s6⟩ := id HPX.out
          go_wp2_with fail
          go_fit (Mid_any x P _ OX1.out HP.out.1 HP.out.2 (HT.out.kp HKR1.out))
          rintro e w5 ⟨m, rfl, rm, dm, vm, k5⟩
          have kA := k5.alloc (.cells #[.bool m.neg, .slice m.a m.xs.length m.c, .int .i64 m.e] 33)
          have OM := Lib.hid (show m.ok w5 from ⟨rm, vm (ofM_ok OX1.out)⟩)
          have hb9 : w5.heap.size < (w5.alloc (.cells #[.bool m.neg, .slice m.a m.xs.length m.c, .int .i64 m.e] 33)).heap.size := by simp
          have hPm : (w5.alloc (.cells #[.bool m.neg, .slice m.a m.xs.length m.c, .int .i64 m.e] 33)).cell? ⟨w5.heap.size, 0, none⟩ = some (.bool m.neg) ∧ (w5.alloc (.cells #[.bool m.neg, .slice m.a m.xs.length m.c, .int .i64 m.e] 33)).cell? ⟨w5.heap.size, 1, none⟩ = some (.slice m.a m.xs.length m.c) ∧ (w5.alloc (.cells #[.bool m.neg, .slice m.a m.xs.length m.c, .int .i64 m.e] 33)).cell? ⟨w5.heap.size, 2, none⟩ = some (.int .i64 m.e) := by simp
          have hb89 : wr.heap.size < w5.heap.size := by have := k5.size; omega
          clear s0 s1 s2 s3 s4 s5 s6 rm vm k5
          go_upto_region 10 with fail
          generalize hW4 : w5.alloc _ = W4 at *
          have OM4 := Lib.hid (show m.ok W4 from OM.out.kp (by rw [← hW4]; exact (Kp.refl _).alloc _))
          have DM := Lib.hid (show m.dy = ofM P x from dm)
          clear hW4 OM dm
          have HS4 := Lib.hid (HS1.out.kp kA)
          have HRF4 := Lib.hid (HRF1.out.kp kA)
          have HKR4 := Lib.hid (HKR1.out.trans kA)
          have OX4 := Lib.hid (OX1.out.kp kA)
          have HPX4 := Lib.hid (keep7 kA HPX.out)
          have HPM4 := Lib.hid hPm
          have hb8b : wr.heap.size < W4.heap.size := by omega
          have OXP := Lib.hid (And.intro OX4.out.1 OX4.out.2)
          clear kA HS1 HRF1 HKR1 OX1 HPX hPm hb8
          have HAD := Lib.hid (fun (W : World) (n : RD) (dn : n.dy = (ofM P x).opp) (on : n.ok W) (k : Kp W4 W) => rAddDown_of x.lo n (P : Int) (ofL P x).1 (ofL P x).2 W (fun W' k' => by
            have h := add_rd x.lo n P false W' ((OX4.out.lo.1.kp k).kp k') (on.1.kp k') (((HT.out.kp HKR4.out).kp k).kp k')
            rw [addB_dy (OX4.out.lo.kp k) on HP.out.1 HP.out.2, dn] at h
            exact h))
          have HAU := Lib.hid (fun (W : World) (n : RD) (dn : n.dy = (ofM P x).opp) (on : n.ok W) (k : Kp W4 W) => rAddUp_of x.hi n (P : Int) (ofH P x).1 (ofH P x).2 W (fun W' k' => by
            have h := add_rd x.hi n P true W' ((OX4.out.hi.1.kp k).kp k') (on.1.kp k') (((HT.out.kp HKR4.out).kp k).kp k')
            rw [addB_dy (OX4.out.hi.kp k) on HP.out.1 HP.out.2, dn] at h
            exact h))
          go_cut [10, 11] from 41 to 49 (fun s t wx => ∃ (b1 : Nat) (q : RD), s = .pointer (some ⟨b1, 0, none⟩) ∧ t = .int .i64 (ofL P x).2 ∧ HasD W4 wx b1 q (ofL P x).1)
          case first =>
            have hPC : (W4.cell? ⟨wr.heap.size, 0, none⟩ = some (.bool x.lo.neg) ∧ W4.cell? ⟨wr.heap.size, 0 + 1, none⟩ = some (.slice x.lo.a x.lo.xs.length x.lo.c) ∧ W4.cell? ⟨wr.heap.size, 0 + 2, none⟩ = some (.int .i64 x.lo.e)) ∧ W4.cell? ⟨w5.heap.size, 0, none⟩ = some (.bool m.neg) ∧ W4.cell? ⟨w5.heap.size, 0 + 1, none⟩ = some (.slice m.a m.xs.length m.c) ∧ W4.cell? ⟨w5.heap.size, 0 + 2, none⟩ = some (.int .i64 m.e) := by
              obtain ⟨x0, x1, x2, x3, x4, x5, x6⟩ := HPX4.out
              obtain ⟨y0, y1, y2⟩ := HPM4.out
              exact ⟨⟨x0, x1, x2⟩, y0, y1, y2⟩
            have HOK := Lib.hid (ofL_ok P x HP.out.1 HP.out.2)
            have kd := Lib.hid (Kp.refl W4).drew
            have hSd := keep33 kd.out hPC
            have HS0 := Lib.hid hPC
            have KZ := Lib.hid (show Kp W4 (W4.alloc (.cells #[.bool false, .slice none 0 0, .int .i64 0] 33)).drew from kd.out.trans ((Kp.refl W4.drew).alloc _))
            have HSZ := Lib.hid (keep33 KZ.out hPC)
            have BZ := Lib.hid (show Box3 (W4.alloc (.cells #[.bool false, .slice none 0 0, .int .i64 0] 33)).drew W4.heap.size _ _ _ from Box3.new W4.drew _ _ _ _)
            have n1 : wr.heap.size ≠ W4.heap.size := Nat.ne_of_lt hb8b
            have n2 : w5.heap.size ≠ W4.heap.size := Nat.ne_of_lt hb9
            have HB8 := Lib.hid (And.intro hb8b hb9)
            clear hPC
            go_region_held3 (fun w' => (w'.cell? ⟨wr.heap.size, 0, none⟩ = some (.bool x.lo.neg) ∧ w'.cell? ⟨wr.heap.size, 0 + 1, none⟩ = some (.slice x.lo.a x.lo.xs.length x.lo.c) ∧ w'.cell? ⟨wr.heap.size, 0 + 2, none⟩ = some (.int .i64 x.lo.e)) ∧ w'.cell? ⟨w5.heap.size, 0, none⟩ = some (.bool m.neg) ∧ w'.cell? ⟨w5.heap.size, 0 + 1, none⟩ = some (.slice m.a m.xs.length m.c) ∧ w'.cell? ⟨w5.heap.size, 0 + 2, none⟩ = some (.int .i64 m.e)) (first | with_reducible assumption | with_reducible exact keep33 (by assumption) (by assumption) | with_reducible exact keep33 ((Kp.refl _).alloc _) (by assumption) | with_reducible exact set33x (by assumption) (by assumption) (by assumption) | with_reducible exact HSZ.out | fail)
              (first
                | (go_at_call 51; (with_reducible refine (Neg_ok m _ (OM4.out.kp kd.out)).mono ?_); rintro e v1 ⟨n, rfl, rn, dn, vn, j1⟩
                   have KJ := Lib.hid (kd.out.trans j1)
                   have hS1 := keep33 KJ.out HS0.out
                   have ON := Lib.hid (And.intro (show n.ok v1 from ⟨rn, vn (Dy.opp_ok2 (rdok_dy OM4.out))⟩) (show n.dy = (ofM P x).opp by rw [dn, DM.out]))
                   clear rn dn vn)
                | (go_at_call 51; (with_reducible refine (Neg_ok m _ (OM4.out.kp KZ.out)).mono ?_); rintro e v1 ⟨n, rfl, rn, dn, vn, j1⟩
                   have KJ := Lib.hid (KZ.out.trans j1)
                   have hS1 := keep33 KJ.out HS0.out
                   have BV := Lib.hid (BZ.out.kp j1)
                   have ON := Lib.hid (And.intro (show n.ok v1 from ⟨rn, vn (Dy.opp_ok2 (rdok_dy OM4.out))⟩) (show n.dy = (ofM P x).opp by rw [dn, DM.out]))
                   clear rn dn vn)
                | (go_at_call 50; (with_reducible refine (HAD.out _ n ON.out.2 ON.out.1 KJ.out).mono ?_); rintro e v2 ⟨z, rfl, zr, zd, zv, j2⟩
                   have hS2 := keep33 j2 hS1
                   have OZ := Lib.hid (And.intro (show z.ok v2 from ⟨zr, zv HOK.out⟩) (show z.dy = _ from zd))
                   have KF := Lib.hid (KJ.out.trans j2)
                   clear zr zd zv
                   first
                     | (have BF := Lib.hid (BV.out.kp j2)
                        obtain ⟨q0, q1, q2, f0, f1, f2⟩ := id BF.out
                        have GF := Lib.hid (Nat.le_refl W4.heap.size))
                     | skip)
                | (go_at_call 50; (with_reducible refine (HAD.out _ n ON.out.2 (ON.out.1.kp ((Kp.refl _).alloc _)) (KJ.out.alloc _)).mono ?_); rintro e v2 ⟨z, rfl, zr, zd, zv, j2⟩
                   have hS2 := keep33 (((Kp.refl _).alloc _).trans j2) hS1
                   have OZ := Lib.hid (And.intro (show z.ok v2 from ⟨zr, zv HOK.out⟩) (show z.dy = _ from zd))
                   have KF := Lib.hid ((KJ.out.alloc _).trans j2)
                   have GF := Lib.hid KJ.out.size
                   have n3 : wr.heap.size ≠ v1.heap.size := by have := GF.out; have := HB8.out; omega
                   have n4 : w5.heap.size ≠ v1.heap.size := by have := GF.out; have := HB8.out; omega
                   have BF := Lib.hid ((Box3.new v1 (.bool false) (.slice none 0 0) (.int .i64 0) 33).kp j2)
                   clear zr zd zv
                   obtain ⟨q0, q1, q2, f0, f1, f2⟩ := id BF.out)
                | fail)
            all_goals
              go_wp2_with fail
              go_meet
              case rel => first
                | exact ⟨_, z, rfl, rfl, hasD_store BF.out (fun _ h => by cases h) (fun _ h => by cases h) (fun _ h => by cases h) OZ.out.1 OZ.out.2 KF.out GF.out⟩
                | exact ⟨_, z, rfl, rfl, hasD_alloc OZ.out.1 OZ.out.2 KF.out _⟩
          case rest =>
          obtain ⟨b1, q, rfl, rfl, hD1⟩ := hcut
          obtain ⟨W8, hW8⟩ : ∃ x : World, x = wc := ⟨_, rfl⟩
          subst hW8
          have k8 := hD1.2.2.2.1
          have HD1 := Lib.hid hD1
          have OM8 := Lib.hid (OM4.out.kp k8)
          have HPX8 := Lib.hid (keep7 k8 HPX4.out)
          have HPM8 := Lib.hid (keep3 k8 HPM4.out)
          have hb8c : wr.heap.size < W8.heap.size := by have := k8.size; omega
          have hb9c : w5.heap.size < W8.heap.size := by have := k8.size; omega
          have HAU8 := Lib.hid (fun (W : World) (n : RD) (dn : n.dy = (ofM P x).opp) (on : n.ok W) (k : Kp W8 W) => HAU.out W n dn on (k8.trans k))
          have HS8 := Lib.hid (HS4.out.kp k8)
          have HRF8 := Lib.hid (HRF4.out.kp k8)
          have HKR8 := Lib.hid (HKR4.out.trans k8)
          have hb19 : w5.heap.size < b1 := by have := hD1.2.2.2.2; omega
          clear hD1 k8 hb8b hb9 HAD HAU OM4 HPX4 HPM4 HS4 HRF4 HKR4 OXP
          go_upto_region 11 with fail
          go_cut [12, 13] from 51 to 58 (fun s t wx => ∃ (b2 : Nat) (q : RD), s = .pointer (some ⟨b2, 0, none⟩) ∧ t = .int .i64 (ofH P x).2 ∧ HasD W8 wx b2 q (ofH P x).1)
          case first =>
            have hPC : (W8.cell? ⟨wr.heap.size, 3, none⟩ = some (.bool x.hi.neg) ∧ W8.cell? ⟨wr.heap.size, 3 + 1, none⟩ = some (.slice x.hi.a x.hi.xs.length x.hi.c) ∧ W8.cell? ⟨wr.heap.size, 3 + 2, none⟩ = some (.int .i64 x.hi.e)) ∧ W8.cell? ⟨w5.heap.size, 0, none⟩ = some (.bool m.neg) ∧ W8.cell? ⟨w5.heap.size, 0 + 1, none⟩ = some (.slice m.a m.xs.length m.c) ∧ W8.cell? ⟨w5.heap.size, 0 + 2, none⟩ = some (.int .i64 m.e) := by
              obtain ⟨x0, x1, x2, x3, x4, x5, x6⟩ := HPX8.out
              obtain ⟨y0, y1, y2⟩ := HPM8.out
              exact ⟨⟨x3, x4, x5⟩, y0, y1, y2⟩
            have HOK := Lib.hid (ofH_ok P x HP.out.1 HP.out.2)
            have kd := Lib.hid (Kp.refl W8).drew
            have hSd := keep33 kd.out hPC
            have HS0 := Lib.hid hPC
            have KZ := Lib.hid (show Kp W8 (W8.alloc (.cells #[.bool false, .slice none 0 0, .int .i64 0] 33)).drew from kd.out.trans ((Kp.refl W8.drew).alloc _))
            have HSZ := Lib.hid (keep33 KZ.out hPC)
            have BZ := Lib.hid (show Box3 (W8.alloc (.cells #[.bool false, .slice none 0 0, .int .i64 0] 33)).drew W8.heap.size _ _ _ from Box3.new W8.drew _ _ _ _)
            have n1 : wr.heap.size ≠ W8.heap.size := Nat.ne_of_lt hb8c
            have n2 : w5.heap.size ≠ W8.heap.size := Nat.ne_of_lt hb9c
            have HB8 := Lib.hid (And.intro hb8c hb9c)
            clear hPC
            go_region_held3 (fun w' => (w'.cell? ⟨wr.heap.size, 3, none⟩ = some (.bool x.hi.neg) ∧ w'.cell? ⟨wr.heap.size, 3 + 1, none⟩ = some (.slice x.hi.a x.hi.xs.length x.hi.c) ∧ w'.cell? ⟨wr.heap.size, 3 + 2, none⟩ = some (.int .i64 x.hi.e)) ∧ w'.cell? ⟨w5.heap.size, 0, none⟩ = some (.bool m.neg) ∧ w'.cell? ⟨w5.heap.size, 0 + 1, none⟩ = some (.slice m.a m.xs.length m.c) ∧ w'.cell? ⟨w5.heap.size, 0 + 2, none⟩ = some (.int .i64 m.e)) (first | with_reducible assumption | with_reducible exact keep33 (by assumption) (by assumption) | with_reducible exact keep33 ((Kp.refl _).alloc _) (by assumption) | with_reducible exact set33x (by assumption) (by assumption) (by assumption) | with_reducible exact HSZ.out | fail)
              (first
                | (go_at_call 51; (with_reducible refine (Neg_ok m _ (OM8.out.kp kd.out)).mono ?_); rintro e v1 ⟨n, rfl, rn, dn, vn, j1⟩
                   have KJ := Lib.hid (kd.out.trans j1)
                   have hS1 := keep33 KJ.out HS0.out
                   have ON := Lib.hid (And.intro (show n.ok v1 from ⟨rn, vn (Dy.opp_ok2 (rdok_dy OM8.out))⟩) (show n.dy = (ofM P x).opp by rw [dn, DM.out]))
                   clear rn dn vn)
                | (go_at_call 51; (with_reducible refine (Neg_ok m _ (OM8.out.kp KZ.out)).mono ?_); rintro e v1 ⟨n, rfl, rn, dn, vn, j1⟩
                   have KJ := Lib.hid (KZ.out.trans j1)
                   have hS1 := keep33 KJ.out HS0.out
                   have BV := Lib.hid (BZ.out.kp j1)
                   have ON := Lib.hid (And.intro (show n.ok v1 from ⟨rn, vn (Dy.opp_ok2 (rdok_dy OM8.out))⟩) (show n.dy = (ofM P x).opp by rw [dn, DM.out]))
                   clear rn dn vn)
                | (go_at_call 52; (with_reducible refine (HAU8.out _ n ON.out.2 ON.out.1 KJ.out).mono ?_); rintro e v2 ⟨z, rfl, zr, zd, zv, j2⟩
                   have hS2 := keep33 j2 hS1
                   have OZ := Lib.hid (And.intro (show z.ok v2 from ⟨zr, zv HOK.out⟩) (show z.dy = _ from zd))
                   have KF := Lib.hid (KJ.out.trans j2)
                   clear zr zd zv
                   first
                     | (have BF := Lib.hid (BV.out.kp j2)
                        obtain ⟨q0, q1, q2, f0, f1, f2⟩ := id BF.out
                        have GF := Lib.hid (Nat.le_refl W8.heap.size))
                     | skip)
                | (go_at_call 52; (with_reducible refine (HAU8.out _ n ON.out.2 (ON.out.1.kp ((Kp.refl _).alloc _)) (KJ.out.alloc _)).mono ?_); rintro e v2 ⟨z, rfl, zr, zd, zv, j2⟩
                   have hS2 := keep33 (((Kp.refl _).alloc _).trans j2) hS1
                   have OZ := Lib.hid (And.intro (show z.ok v2 from ⟨zr, zv HOK.out⟩) (show z.dy = _ from zd))
                   have KF := Lib.hid ((KJ.out.alloc _).trans j2)
                   have GF := Lib.hid KJ.out.size
                   have n3 : wr.heap.size ≠ v1.heap.size := by have := GF.out; have := HB8.out; omega
                   have n4 : w5.heap.size ≠ v1.heap.size := by have := GF.out; have := HB8.out; omega
                   have BF := Lib.hid ((Box3.new v1 (.bool false) (.slice none 0 0) (.int .i64 0) 33).kp j2)
                   clear zr zd zv
                   obtain ⟨q0, q1, q2, f0, f1, f2⟩ := id BF.out)
                | fail)
            all_goals
              go_wp2_with fail
              go_meet
              case rel => first
                | exact ⟨_, z, rfl, rfl, hasD_store BF.out (fun _ h => by cases h) (fun _ h => by cases h) (fun _ h => by cases h) OZ.out.1 OZ.out.2 KF.out GF.out⟩
                | exact ⟨_, z, rfl, rfl, hasD_alloc OZ.out.1 OZ.out.2 KF.out _⟩
          case rest =>
          obtain ⟨b2, r, rfl, rfl, hD2⟩ := hcut
          obtain ⟨W9, hW9⟩ : ∃ x : World, x = wc := ⟨_, rfl⟩
          subst hW9
          have k9 := hD2.2.2.2.1
          have HD1 := Lib.hid (HD1.out.kp k9)
          have HD2 := Lib.hid hD2
          have HPM9 := Lib.hid (keep3 k9 HPM8.out)
          have OM9 := Lib.hid (OM8.out.kp k9)
          have HS9 := Lib.hid (HS8.out.kp k9)
          have HRF9 := Lib.hid (HRF8.out.kp k9)
          have HKR9 := Lib.hid (HKR8.out.trans k9)
          have hb29 : w5.heap.size < b2 := by have := hD2.2.2.2.2; omega
          clear hD2 k9 HAU8 OM8 HPX8 HPM8 HS8 HRF8 HKR8 hb8c hb9c
          have herr : ∀ (_ : ofB P x = false), D = (9, [], []) := fun hb => by
            rw [HE.out, if_neg]
            intro h
            have := (List.all_eq_true.1 h) x (List.mem_of_getElem? Hx.out)
            rw [hb] at this; cases this
          have HERR := Lib.hid herr
          clear herr
          rcases ofL_f P x with hf | hf
          rotate_left
          · have HD9 := Lib.hid (HERR.out (by unfold ofB; rw [hf]; rfl))
            rw [hf]
            have hB9 := HRF9.out
            obtain ⟨q0, q1, q2, f0, f1, f2⟩ := id hB9
            clear hf
            go_wp2_with fail
            rw [HD9.out]
            generalize hW9 : (((W9.setCell _ _).setCell _ _).setCell _ _) = W12
            obtain ⟨⟨r0, r1, r2, _⟩, hU⟩ := stored3 hB9 (fun _ h => by cases h) (fun _ h => by cases h) (fun _ h => by cases h) _ _ _ hW9
            clear hW9 q0 q1 q2 f0 f1 f2
            refine bodyPost_ret (v := .tuple #[.agg #[.slice rfNil.ca rfNil.cs.length rfNil.cc, .slice rfNil.aa rfNil.ms.length rfNil.ac, .slice rfNil.ra rfNil.rs.length rfNil.rc], .int .i64 9]) (by simp [results, Tryz.results15, go_sem, r0, r1, r2, rfNil]) rfl ?_
            exact FrO.err rfl (hU.2.2.1 _ HKR9.out (Nat.le_refl _))
          · rcases ofH_f P x with hg | hg
            rotate_left
            · have HD9 := Lib.hid (HERR.out (by unfold ofB; rw [hg]; exact Bool.and_false _))
              rw [hf, hg]
              have hB9 := HRF9.out
              obtain ⟨q0, q1, q2, f0, f1, f2⟩ := id hB9
              clear hf hg
              go_wp2_with fail
              rw [HD9.out]
              generalize hW9 : (((W9.setCell _ _).setCell _ _).setCell _ _) = W12
              obtain ⟨⟨r0, r1, r2, _⟩, hU⟩ := stored3 hB9 (fun _ h => by cases h) (fun _ h => by cases h) (fun _ h => by cases h) _ _ _ hW9
              clear hW9 q0 q1 q2 f0 f1 f2
              refine bodyPost_ret (v := .tuple #[.agg #[.slice rfNil.ca rfNil.cs.length rfNil.cc, .slice rfNil.aa rfNil.ms.length rfNil.ac, .slice rfNil.ra rfNil.rs.length rfNil.rc], .int .i64 9]) (by simp [results, Tryz.results15, go_sem, r0, r1, r2, rfNil]) rfl ?_
              exact FrO.err rfl (hU.2.2.1 _ HKR9.out (Nat.le_refl _))
            · have HFB := Lib.hid (ofB_iff.2 ⟨hf, hg⟩)
              rw [hf, hg]
              clear hf hg
              have kB := (Kp.refl W9).alloc (.cells #[.bool m.neg, .slice m.a m.xs.length m.c, .int .i64 m.e] 33)
              have HSB := Lib.hid (HS9.out.kp kB)
              have HD1B := Lib.hid (HD1.out.kp kB)
              have HD2B := Lib.hid (HD2.out.kp kB)
              have rmB := (OM9.out.kp kB).1
              obtain ⟨g0, g1, g2, gf0, gf1, gf2⟩ := id HS9.out.1
              obtain ⟨m0, m1, m2⟩ := id HPM9.out
              have hownB := HSB.out.2.2.1
              have hcl : C.length + 1 ≤ 9000000 := by have := Hlt.out; omega
              clear kB
              go_upto_region 15 with (at_builtin; refine wpList_append_dyg rfl _ _ rfl w4 v1 C rfl hownB _ _ rfl m rmB (by simp) hcl ?_; intro a1 d1 w10 hown1 hgrow1 hnew1; obtain ⟨g0, g1, g2, gf0, gf1, gf2⟩ := HSB.out.1.grown hgrow1 HSB.out.2.2.2.2.1 HSB.out.2.1)
              have hb1w : wr.heap.size ≤ b1 := by omega
              have hb2w : wr.heap.size ≤ b2 := by omega
              have hw4r := Hnew.out.2.2
              have hS11 := HSB.out.c hown1 hgrow1 hnew1
              have hP1 := num_past (u := .slice a1 (C.length + 1) d1) HD1B.out.1 HD1B.out.2.1 hgrow1 hownB.2.2.1 (own_ne Hnew.out.1 hb1w) (show b1 ≠ w4.heap.size by omega) g0 hownB.noU
              have hP2 := num_past (u := .slice a1 (C.length + 1) d1) HD2B.out.1 HD2B.out.2.1 hgrow1 hownB.2.2.1 (own_ne Hnew.out.1 hb2w) (show b2 ≠ w4.heap.size by omega) g0 hownB.noU
              generalize hW11 : w10.setCell _ _ = W11 at *
              have HZ := Lib.hid (show (⟨q, r, false⟩ : RI).pl = ofR P x by show PI.mk q.dy r.dy false = _; rw [HD1.out.2.2.1, HD2.out.2.2.1]; rfl)
              have HZV := Lib.hid (show (⟨q, r, false⟩ : RI).vl = true by
                have hz := ofR_zero OX4.out HP.out.1 HP.out.2 HFB.out
                have e1 : q.iv = (ofL P x).1.iv := by show q.dy.iv = _; rw [HD1.out.2.2.1]
                have e2 : r.iv = (ofH P x).1.iv := by show r.dy.iv = _; rw [HD2.out.2.2.1]
                unfold RI.vl
                rw [if_neg (by simp), leZ]
                simp only [HD1.out.2.1.2, HD2.out.2.1.2, Bool.true_and, decide_eq_true_eq]
                rw [e1, e2]; omega)
              have kC := (Kp.refl W11).alloc (.cells #[.bool (⟨q, r, false⟩ : RI).lo.neg, .slice (⟨q, r, false⟩ : RI).lo.a (⟨q, r, false⟩ : RI).lo.xs.length (⟨q, r, false⟩ : RI).lo.c, .int .i64 (⟨q, r, false⟩ : RI).lo.e, .bool (⟨q, r, false⟩ : RI).hi.neg, .slice (⟨q, r, false⟩ : RI).hi.a (⟨q, r, false⟩ : RI).hi.xs.length (⟨q, r, false⟩ : RI).hi.c, .int .i64 (⟨q, r, false⟩ : RI).hi.e, .bool (⟨q, r, false⟩ : RI).all] 35)
              clear hown1 hgrow1 hnew1 g0 g1 g2 gf0 gf1 gf2 m0 m1 m2 rmB hownB hW11
              obtain ⟨g0, g1, g2, gf0, gf1, gf2⟩ := id hS11.1
              obtain ⟨q0, q1, q2⟩ := id hP1.1
              obtain ⟨r0, r1, r2⟩ := id hP2.1
              have HSC := Lib.hid (hS11.kp kC)
              have hownC := HSC.out.2.2.2.1
              have hrdC : (⟨q, r, false⟩ : RI).rd (W11.alloc (.cells #[.bool (⟨q, r, false⟩ : RI).lo.neg, .slice (⟨q, r, false⟩ : RI).lo.a (⟨q, r, false⟩ : RI).lo.xs.length (⟨q, r, false⟩ : RI).lo.c, .int .i64 (⟨q, r, false⟩ : RI).lo.e, .bool (⟨q, r, false⟩ : RI).hi.neg, .slice (⟨q, r, false⟩ : RI).hi.a (⟨q, r, false⟩ : RI).hi.xs.length (⟨q, r, false⟩ : RI).hi.c, .int .i64 (⟨q, r, false⟩ : RI).hi.e, .bool (⟨q, r, false⟩ : RI).all] 35)) := ⟨(hP1.2.kp kC).1, (hP2.2.kp kC).1⟩
              have HRl := Lib.hid (show R.length = C.length by have := congrArg List.length HI.out.2.1; unfold plR at this; simp only [List.length_map, List.length_take] at this; have := Hlt.out; omega)
              have hclR : R.length + 1 ≤ 9000000 := by rw [HRl.out]; exact hcl
              clear kC hS11 hP1 hP2
              go_upto_region 16 with (at_builtin; refine wpList_append_ivg rfl _ _ rfl w4 v2 R rfl hownC _ _ rfl ⟨q, r, false⟩ hrdC (by simp) hclR ?_; intro a2 d2 w13 hown2 hgrow2 hnew2; obtain ⟨g0, g1, g2, gf0, gf1, gf2⟩ := HSC.out.1.grown hgrow2 HSC.out.2.2.2.2.2.1 HSC.out.2.1)
              have hS14 := HSC.out.r hown2 hgrow2 hnew2 hownC.noUv
              generalize hW14 : w13.setCell _ _ = W14 at *
              have HS14 := Lib.hid hS14
              clear hown2 hgrow2 hnew2 hS14 hW14 g0 g1 g2 gf0 gf1 gf2 q0 q1 q2 r0 r1 r2 hownC hrdC
              go_wp2_with fail
              go_roundg (gk - 1)
              case measure => have := Hlt.out; omega
              case rel =>
                have hS := HS14.out
                have hx := Hx.out
                refine ⟨C ++ [m], R ++ [⟨q, r, false⟩], _, _, by have := Hlt.out; rw [List.length_append, List.length_singleton]; omega, by rw [List.length_append, List.length_singleton]; go_num, hS, HB4.out.kp hS.2.2.1.1, ?_, ?_, vl_snocD HI.out.2.2.1 OM9.out.2, ok_snoc HI.out.2.2.2.1 HZV.out, ?_⟩
                · rw [List.length_append, List.length_singleton, take_snoc hx, List.map_append, List.map_append, HI.out.1, List.map_singleton, List.map_singleton, DM.out]
                · rw [List.length_append, List.length_singleton, take_snoc hx, plR_snoc, List.map_append, HI.out.2.1, List.map_singleton, HZ.out]
                · rw [List.length_append, List.length_singleton, take_snoc hx, List.all_append, HI.out.2.2.2.2, List.all_cons, HFB.out]; rfl
        · have hCe : C.length = xs.length := by omega
          have hnl : ¬ ((C.length : Int) < (xs.length : Int)) := by omega
          have hS := HS.out
          have hHI := HI.out
          rw [hCe, List.take_length] at hHI
          have HF := Lib.hid (And.intro hCe hHI)
          have hRl : R.length = xs.length := by have := congrArg List.length hHI.2.1; unfold plR at this; simpa using this
          have HRl := Lib.hid hRl
          obtain ⟨a1, d1, e1, _, _, hr1⟩ := hS.2.2.1.value
          obtain ⟨a2, d2, e2, _, _, hr2⟩ := hS.2.2.2.1.value
          subst e1
          subst e2
          have HRR := Lib.hid (And.intro (hS.2.2.1.rows (S := w.heap.size + 1) HW4.out rfl hr1) (hS.2.2.2.1.rows (S := w.heap.size + 1) HW4.out rfl hr2))
          have HKF := Lib.hid hS.2.2.1.1
          have hBF := HB4.out.kp HKF.out
          obtain ⟨g0, g1, g2, _, _, _⟩ := hS.1
          obtain ⟨q0, q1, q2, f0, f1, f2⟩ := id hBF
          have HED := Lib.hid (show D = (0, xs.map (ofM P), xs.map (ofR P)) by rw [HE.out, if_pos hHI.2.2.2.2])
          clear hS hHI hCe hRl hr1 hr2 HRF HI
          clear hCq hlt HS
          go_wp2_with fail
          rw [HED.out]
          generalize hW9 : (((wr.setCell _ _).setCell _ _).setCell _ _) = W12
          obtain ⟨⟨r0, r1, r2, _⟩, hU⟩ := stored3 hBF (fun _ h => by cases h) (fun _ h => by cases h) (fun _ h => by cases h) _ _ _ hW9
          clear hW9 q0 q1 q2 f0 f1 f2 g0 g1 g2 hnl
          refine bodyPost_ret (v := .tuple #[.agg #[.slice a1 C.length d1, .slice (some ad) xs.length xs.length, .slice a2 R.length d2], .int .i64 0]) (by simp [results, Tryz.results15, go_sem, r0, r1, r2]) rfl ?_
          refine ⟨⟨a1, C, d1, some ad, R0, xs.length, a2, R, d2⟩, by rw [HR.out.1], ⟨⟨(HRR.out.1.upd hU (Nat.lt_succ_self _)).1, ?_⟩, ⟨((HR.out.2.1.kp HKF.out).upd hU HSZ.out).row, ?_⟩, ⟨(HRR.out.2.upd hU (Nat.lt_succ_self _)).1, ?_⟩⟩, HF.out.2.1, HF.out.2.2.1, HF.out.2.2.2.1, HF.out.2.2.2.2.1, by show R0.length = C.length; rw [HR.out.1, HF.out.1], HR.out.2.2, hU.2.2.1 _ (HK4.out.trans HKF.out) (Nat.le_refl _)⟩
          · show C.length ≤ _; have := HF.out.1; omega
          · show R0.length ≤ _; have := HR.out.1; omega
          · show R.length ≤ _; have := HRl.out; omega
end Go.Proofs.YtdlpiblgkpgplaaGreatDoor
