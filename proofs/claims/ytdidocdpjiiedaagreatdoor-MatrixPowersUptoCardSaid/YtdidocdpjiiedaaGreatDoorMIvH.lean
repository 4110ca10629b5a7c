/-
  Walks: interval.Hull of any valid intervals.
  Walks: dyadic.Int of small naturals.
  Walks: matrix.Identity.
-/
import Derived.Test.YtdidocdpjiiedaaGreatDoorMIvS
import Derived.Test.YtdidocdpjiiedaaGreatDoorMRoAdd
import Derived.Test.YtdidocdpjiiedaaGreatDoorMR2I
import Derived.Test.YtdidocdpjiiedaaGreatDoorMRoSq
import Derived.Test.YtdidocdpjiiedaaGreatDoorMIvMl
import Derived.Test.YtdidocdpjiiedaaGreatDoorMEchM
import Derived.Test.YtdidocdpjiiedaaGreatDoorMMulN
import Derived.Test.YtdidocdpjiiedaaGreatDoorMIncP
import Derived.Deep.RegionLaw
section
namespace Go.Proofs.YtdidocdpjiiedaaGreatDoor
open Go.RowKit

/-- the hull, or All -/
def hullR (x y : RI) : RI := if (x.all || y.all) = true then wholeR else hullI x y
set_option maxRecDepth 100000 in
set_option maxHeartbeats 8000000 in
theorem IHull_any (x y : RI) (w : World) (hx : x.rd w) (hy : y.rd w) (vx : x.vl = true) (vy : y.vl = true) :
    Calls Tryz.prog 99 #[.agg #[.bool x.lo.neg, .slice x.lo.a x.lo.xs.length x.lo.c, .int .i64 x.lo.e, .bool x.hi.neg, .slice x.hi.a x.hi.xs.length x.hi.c, .int .i64 x.hi.e, .bool x.all], .agg #[.bool y.lo.neg, .slice y.lo.a y.lo.xs.length y.lo.c, .int .i64 y.lo.e, .bool y.hi.neg, .slice y.hi.a y.hi.xs.length y.hi.c, .int .i64 y.hi.e, .bool y.all]] w fun e w' => e = .returned (.agg #[.bool (hullR x y).lo.neg, .slice (hullR x y).lo.a (hullR x y).lo.xs.length (hullR x y).lo.c, .int .i64 (hullR x y).lo.e, .bool (hullR x y).hi.neg, .slice (hullR x y).hi.a (hullR x y).hi.xs.length (hullR x y).hi.c, .int .i64 (hullR x y).hi.e, .bool (hullR x y).all]) ∧ Kp w w' := by
  go_enter Tryz.func99, Tryz.ntmps99
  go_wp2_with fail
  generalize hW3 : (((w.alloc _).alloc _).alloc _) = W3 at *
  have hk3 : Kp w W3 := hW3 ▸ (((Kp.refl w).alloc _).alloc _).alloc _
  have hS3 : (W3.cell? ⟨w.heap.size, 0, none⟩ = some (.bool x.lo.neg) ∧ W3.cell? ⟨w.heap.size, 1, none⟩ = some (.slice x.lo.a x.lo.xs.length x.lo.c) ∧ W3.cell? ⟨w.heap.size, 2, none⟩ = some (.int .i64 x.lo.e) ∧ W3.cell? ⟨w.heap.size, 3, none⟩ = some (.bool x.hi.neg) ∧ W3.cell? ⟨w.heap.size, 4, none⟩ = some (.slice x.hi.a x.hi.xs.length x.hi.c) ∧ W3.cell? ⟨w.heap.size, 5, none⟩ = some (.int .i64 x.hi.e) ∧ W3.cell? ⟨w.heap.size, 6, none⟩ = some (.bool x.all)) ∧ W3.cell? ⟨w.heap.size + 1, 0, none⟩ = some (.bool y.lo.neg) ∧ W3.cell? ⟨w.heap.size + 1, 1, none⟩ = some (.slice y.lo.a y.lo.xs.length y.lo.c) ∧ W3.cell? ⟨w.heap.size + 1, 2, none⟩ = some (.int .i64 y.lo.e) ∧ W3.cell? ⟨w.heap.size + 1, 3, none⟩ = some (.bool y.hi.neg) ∧ W3.cell? ⟨w.heap.size + 1, 4, none⟩ = some (.slice y.hi.a y.hi.xs.length y.hi.c) ∧ W3.cell? ⟨w.heap.size + 1, 5, none⟩ = some (.int .i64 y.hi.e) ∧ W3.cell? ⟨w.heap.size + 1, 6, none⟩ = some (.bool y.all) := by rw [← hW3]; exact keep77 ((Kp.refl _).alloc _) (by simp)
  have hV3 : Var7 W3 (w.heap.size + 1 + 1) := hW3 ▸ Var7.new2 _ _ _ _
  have hsz : W3.heap.size = w.heap.size + 1 + 1 + 1 := by rw [← hW3]; simp
  have hR := rowI_twoR W3 x y (hx.kp hk3) (hy.kp hk3) 43
  rw [hsz] at hR
  have hk4 := (Kp.refl W3).alloc (.cells #[.bool x.lo.neg, .slice x.lo.a x.lo.xs.length x.lo.c, .int .i64 x.lo.e, .bool x.hi.neg, .slice x.hi.a x.hi.xs.length x.hi.c, .int .i64 x.hi.e, .bool x.all, .bool y.lo.neg, .slice y.lo.a y.lo.xs.length y.lo.c, .int .i64 y.lo.e, .bool y.hi.neg, .slice y.hi.a y.hi.xs.length y.hi.c, .int .i64 y.hi.e, .bool y.all] 43)
  generalize hW : W3.alloc _ = W at *
  have hS := keep77 hk4 hS3
  have hV := hV3.kp hk4
  have hk := hk3.trans hk4
  clear hW hW3 hS3 hV3 hk3 hk4 hsz
  refine (known_any _ [x, y] 2 _ hR (by simp)).mono ?_
  rintro e w1 ⟨rfl, hk1⟩
  have hS1 := keep77 hk1 hS
  have hV1 := hV.kp hk1
  have hk2 := (hk.trans hk1)
  have hx1 := hx.kp hk2
  have hy1 := hy.kp hk2
  clear hR hS hV hk hk1
  cases ha : x.all || y.all with
  | true =>
    have hg : [x, y].all goodI = false := by
      simp only [List.all_cons, List.all_nil, Bool.and_true]
      rw [goodI_vl vx, goodI_vl vy]
      cases hxa : x.all <;> cases hya : y.all <;> simp_all
    have HP := Lib.hid (show hullR x y = wholeR by unfold hullR; rw [if_pos ha])
    rw [hg]
    clear hg ha hS1
    go_wp2_with fail
    go_fit (Whole_any _)
    rintro e w2 ⟨rfl, hk3⟩
    have hk4 := hk2.trans hk3
    obtain ⟨⟨q0, q1, q2, q3, q4, q5, q6⟩, f0, f1, f2, f3, f4, f5, f6⟩ := hV1.kp hk3
    go_wp2_with fail
    generalize hW9 : ((((((w2.setCell _ _).setCell _ _).setCell _ _).setCell _ _).setCell _ _).setCell _ _).setCell _ _ = W9
    obtain ⟨⟨s0, s1, s2, s3, s4, s5, s6⟩, hU⟩ := stored7 (show Box7 w2 _ _ _ _ _ _ _ _ from ⟨q0, q1, q2, q3, q4, q5, q6⟩) (fun _ h => by cases h) (fun _ h => by cases h) (fun _ h => by cases h) (fun _ h => by cases h) (fun _ h => by cases h) (fun _ h => by cases h) (fun _ h => by cases h) _ _ _ _ _ _ _ hW9
    clear hW9 q0 q1 q2 q3 q4 q5 q6 f0 f1 f2 f3 f4 f5 f6
    refine bodyPost_ret (v := .agg #[.bool false, .slice none 0 0, .int .i64 0, .bool false, .slice none 0 0, .int .i64 0, .bool true]) (by simp [results, Tryz.results99, go_sem, s0, s1, s2, s3, s4, s5, s6]) rfl ?_
    rw [HP.out]
    exact ⟨rfl, hU.2.2.1 _ hk4 (by omega)⟩
  | false =>
    have hax : x.all = false := by cases hxa : x.all <;> simp_all
    have hay : y.all = false := by cases hya : y.all <;> simp_all
    have ox := ok_of hx1 vx hax
    have oy := ok_of hy1 vy hay
    have hg : [x, y].all goodI = true := by simp [(goodI_ok ox.1).2 ox, (goodI_ok oy.1).2 oy]
    have HP := Lib.hid (show hullR x y = hullI x y by unfold hullR; rw [if_neg (by rw [ha]; decide)])
    rw [hg]
    clear hg ha hax hay hx1 hy1
    obtain ⟨hB, hF⟩ := hV1
    have kd := (Kp.refl w1).drew
    have hB2 := hB.kp kd
    have hF2 := hF.kp hB kd
    have Ox := Lib.hid (ox.kp kd)
    have Oy := Lib.hid (oy.kp kd)
    have hk3 := hk2.trans kd
    have hS4 := keep77 kd hS1
    clear hB hF hS1 kd hk2 ox oy
    go_wp2_with fail
    go_region_held3 (fun w' => (w'.cell? ⟨w.heap.size, 0, none⟩ = some (.bool x.lo.neg) ∧ w'.cell? ⟨w.heap.size, 1, none⟩ = some (.slice x.lo.a x.lo.xs.length x.lo.c) ∧ w'.cell? ⟨w.heap.size, 2, none⟩ = some (.int .i64 x.lo.e) ∧ w'.cell? ⟨w.heap.size, 3, none⟩ = some (.bool x.hi.neg) ∧ w'.cell? ⟨w.heap.size, 4, none⟩ = some (.slice x.hi.a x.hi.xs.length x.hi.c) ∧ w'.cell? ⟨w.heap.size, 5, none⟩ = some (.int .i64 x.hi.e) ∧ w'.cell? ⟨w.heap.size, 6, none⟩ = some (.bool x.all)) ∧ w'.cell? ⟨w.heap.size + 1, 0, none⟩ = some (.bool y.lo.neg) ∧ w'.cell? ⟨w.heap.size + 1, 1, none⟩ = some (.slice y.lo.a y.lo.xs.length y.lo.c) ∧ w'.cell? ⟨w.heap.size + 1, 2, none⟩ = some (.int .i64 y.lo.e) ∧ w'.cell? ⟨w.heap.size + 1, 3, none⟩ = some (.bool y.hi.neg) ∧ w'.cell? ⟨w.heap.size + 1, 4, none⟩ = some (.slice y.hi.a y.hi.xs.length y.hi.c) ∧ w'.cell? ⟨w.heap.size + 1, 5, none⟩ = some (.int .i64 y.hi.e) ∧ w'.cell? ⟨w.heap.size + 1, 6, none⟩ = some (.bool y.all)) (first | with_reducible assumption | with_reducible exact keep77 (by assumption) (by assumption) | with_reducible exact set77 (by omega) (by omega) (by assumption))
      (first
        | (go_at_call 148; go_fit (less_ok x.lo y.lo _ Ox.out.lo Oy.out.lo); rintro e w4 ⟨rfl, hk4⟩)
        | (go_at_call 109; go_fit (more_ok x.hi y.hi _ (Ox.out.hi.kp hk4) (Oy.out.hi.kp hk4)); rintro e w5 ⟨rfl, hk5⟩; have hk6 := hk4.trans hk5; obtain ⟨q0, q1, q2, q3, q4, q5, q6⟩ := hB2.kp hk6; obtain ⟨f0, f1, f2, f3, f4, f5, f6⟩ := hF2.kp hB2 hk6)
        | fail)
    have hk7 := hk3.trans hk6
    clear hS4 hB2 hF2
    go_wp2_with fail
    generalize hW9 : ((((((w5.setCell _ _).setCell _ _).setCell _ _).setCell _ _).setCell _ _).setCell _ _).setCell _ _ = W9
    obtain ⟨⟨s0, s1, s2, s3, s4, s5, s6⟩, hU⟩ := stored7 (show Box7 w5 _ _ _ _ _ _ _ _ from ⟨q0, q1, q2, q3, q4, q5, q6⟩) (fun _ h => by cases h) (fun _ h => by cases h) (fun _ h => by cases h) (fun _ h => by cases h) (fun _ h => by cases h) (fun _ h => by cases h) (fun _ h => by cases h) _ _ _ _ _ _ _ hW9
    clear hW9 q0 q1 q2 q3 q4 q5 q6 f0 f1 f2 f3 f4 f5 f6
    refine bodyPost_ret (v := .agg #[.bool (hullI x y).lo.neg, .slice (hullI x y).lo.a (hullI x y).lo.xs.length (hullI x y).lo.c, .int .i64 (hullI x y).lo.e, .bool (hullI x y).hi.neg, .slice (hullI x y).hi.a (hullI x y).hi.xs.length (hullI x y).hi.c, .int .i64 (hullI x y).hi.e, .bool false]) (by simp [results, Tryz.results99, go_sem, s0, s1, s2, s3, s4, s5, s6, hullI]) rfl ?_
    rw [HP.out]
    exact ⟨rfl, hU.2.2.1 _ hk7 (by omega)⟩
end Go.Proofs.YtdidocdpjiiedaaGreatDoor
end

section
namespace Go.Proofs.YtdidocdpjiiedaaGreatDoor
open Go.RowKit

set_option maxRecDepth 100000 in
set_option maxHeartbeats 2000000 in
theorem pInt_any (n : Nat) (w : World) (hn : n ≤ 9000000) (hT : Tab w) :
    Calls Tryz.prog 98 #[.int .i64 n] w (DyOut w (canon false n 0)) := by
  have hB := Box3.new w (.bool false) (.slice none 0 0) (.int .i64 0) 28
  have k0 := (Kp.refl w).alloc (.cells #[.bool false, .slice none 0 0, .int .i64 0] 28)
  have hneg : decide ((n : Int) < 0) = false := decide_eq_false (by omega)
  have h1 : (n : Int) % 18446744073709551616 = n := by omega
  have h2 : (n : Int) % 4294967296 = n := by omega
  have h3 : (n : Int) / 4294967296 = 0 := by omega
  have hT1 := Lib.hid (hT.kp k0)
  have hR := rd_pair (w.alloc (.cells #[.bool false, .slice none 0 0, .int .i64 0] 28)) n 0 (by omega) (by decide) n 0 rfl rfl
  rw [World.size_alloc] at hR
  have hO := Lib.hid (canonical_any false _ [n, 0] 2 0 _ hR (by simp) (by unfold maxLen; omega) (by simp) (by decide) (by decide) (hT1.out.kp ((Kp.refl _).alloc _)))
  clear hR
  go_enter Tryz.func98, Tryz.ntmps98
  go_wp2_with fail
  refine hO.out.mono ?_
  rintro e w3 ⟨a3, c3, rfl, r3, l3, m3, k3⟩
  have hkb := ((Kp.refl _).alloc _).trans k3
  obtain ⟨q0, q1, q2, f0, f1, f2⟩ := hB.kp hkb
  have hk2 := k0.trans hkb
  rw [show val [n, 0] = n from by simp [val]] at r3 l3 ⊢
  generalize canon false n 0 = D at *
  have hst := stored q0 q1 q2 (fun _ h => by cases h) (fun _ h => by cases h) (fun _ h => by cases h) (.bool D.neg) (.slice a3 (limbs D.m).length c3) (.int .i64 D.e)
  go_wp2_with fail
  generalize (((w3.setCell _ _).setCell _ _).setCell _ _) = W at hst ⊢
  obtain ⟨s0, s1, s2, _, s4, s5, _, _⟩ := hst
  refine bodyPost_ret (v := .agg #[.bool D.neg, .slice a3 (limbs D.m).length c3, .int .i64 D.e]) (by simp [results, Tryz.results98, go_sem, s0, s1, s2]) rfl ?_
  exact ⟨a3, c3, rfl, s4 _ _ r3, l3, m3, s5 _ hk2 (by omega)⟩
theorem intD_nat (n : Nat) : intD (n : Int) = canon false n 0 := by unfold intD; rw [decide_eq_false (by omega)]; rfl
theorem pIntR_any (n : Nat) (w : World) (hn : n ≤ 1) (hT : Tab w) :
    Calls Tryz.prog 98 #[.int .i64 n] w fun e w' => ∃ y : RD, e = .returned (.agg #[.bool y.neg, .slice y.a y.xs.length y.c, .int .i64 y.e]) ∧ y.ok w' ∧ y.dy = intD n ∧ Kp w w' := by
  refine (pInt_any n w (by omega) hT).mono ?_
  rintro e w' ⟨a, c, rfl, r, l, m, k⟩
  have hd : (intD (n : Int)).ok := (intD_isP (p := 10) (by decide) (by decide) (by omega)).1
  rw [← intD_nat] at r l ⊢
  exact ⟨rdOf (intD n) a c, rfl, ⟨rdOf_rd hd r l m, rdOf_vl hd _ _⟩, rdOf_dy _ _ _, k⟩
end Go.Proofs.YtdidocdpjiiedaaGreatDoor
end

section
namespace Go.Proofs.YtdidocdpjiiedaaGreatDoor
open Go.RowKit

theorem pInt0_any (w : World) (hT : Tab w) : Calls Tryz.prog 98 #[.int .i64 0] w fun e w' => ∃ y : RD, e = .returned (.agg #[.bool y.neg, .slice y.a y.xs.length y.c, .int .i64 y.e]) ∧ y.ok w' ∧ y.dy = intD 0 ∧ Kp w w' := pIntR_any 0 w (by decide) hT
theorem pInt1_any (w : World) (hT : Tab w) : Calls Tryz.prog 98 #[.int .i64 1] w fun e w' => ∃ y : RD, e = .returned (.agg #[.bool y.neg, .slice y.a y.xs.length y.c, .int .i64 y.e]) ∧ y.ok w' ∧ y.dy = intD 1 ∧ Kp w w' := pIntR_any 1 w (by decide) hT
set_option maxRecDepth 100000 in
set_option maxHeartbeats 8000000 in
theorem midn_any (n : Nat) (w : World) (h1 : 1 ≤ n) (h8 : n ≤ 8) (hT : Tab w) :
    Calls Tryz.prog 41 #[.int .i64 n] w (MatV w (tabM n n idP)) := by
  have HT := Lib.hid hT
  have hn1 : ¬ ((n : Int) < 1) := by omega
  have hn8 : ¬ (8 < (n : Int)) := by omega
  obtain ⟨F, hF⟩ : ∃ F : Nat → Nat → PI, F = idP := ⟨_, rfl⟩
  have HF := Lib.hid hF
  rw [← hF]
  have hmk := make_rows (n : Int) n rfl (by omega)
  clear hT hF
  go_enter Tryz.func41, Tryz.ntmps41
  go_wp2_with fail
  have hO := OutH.made w n
  have hk1 := (Kp.refl w).alloc (.cells (madeCells #[.slice none 0 0] n) 40)
  generalize hW1 : w.alloc _ = W1 at *
  have HK := Lib.hid (Kp.refl w)
  have HO := Lib.hid hO
  clear hW1 hmk hk1 hO hn1 hn8
  go_loopg [17] n (fun q v wr => ∃ R : List (List RI), R.length + q = n ∧ v = .int .i64 (R.length : Int) ∧ OutH w wr w.heap.size n R ∧ plM R = tabM R.length n F ∧ okM R)
  case atStart => exact ⟨[], by simp, rfl, HO.out, rfl, fun r h => by simp at h⟩
  case round =>
    obtain ⟨R, hRq, rfl, hO, hpl, hok⟩ := hrel
    clear HO
    have HH := Lib.hid (And.intro hpl hok)
    have HOH := Lib.hid hO
    have hkr := hO.2.1
    clear hpl hok hO
    by_cases hlt : R.length < n
    · have HMO := Lib.hid (HOH.out.open hlt)
      have Hlt := Lib.hid (And.intro hlt hRq)
      clear hRq
      have hj1 : (0 : Int) ≤ (R.length : Int) := by omega
      have hj2 : (R.length : Int) < (n : Int) := by omega
      go_wp2_with fail
      clear HOH
      obtain ⟨gk1, hgk1⟩ : ∃ x : Nat, x = gk := ⟨_, rfl⟩
      subst hgk1
      obtain ⟨wr1, hwr1⟩ : ∃ x : World, x = wr := ⟨_, rfl⟩
      subst hwr1
      go_loopg [21] n (fun q v wr => ∃ (u : Value) (cur : List RI), cur.length + q = n ∧ v = .int .i64 (cur.length : Int) ∧ OutM w wr w.heap.size n R u cur ∧ plR cur = rowF cur.length (F R.length) ∧ ∀ x ∈ cur, x.vl = true)
      case atStart => exact ⟨_, [], by simp, rfl, HMO.out, rfl, fun x h => by simp at h⟩
      case round =>
        obtain ⟨u, cur, hcq, rfl, hM, hpc, hvc⟩ := hrel
        clear HMO
        by_cases hlt2 : cur.length < n
        · have HPC := Lib.hid (And.intro hpc (And.intro hvc (And.intro hcq hlt2)))
          clear hpc hvc hcq
          by_cases hij : R.length = cur.length
          · have heq : ((R.length : Int) == (cur.length : Int)) = true := by rw [hij]; simp
            have HIJ := Lib.hid hij
            clear hij
            have HP := Lib.hid (show pnI 1 1 = F R.length cur.length by rw [HF.out]; show _ = idP _ _; unfold idP; rw [if_pos HIJ.out])
            go_upto_region 13 with fail
            have kd := (Kp.refl wr).drew
            have kk := HK.out.trans hM.2.1.1
            have hM3 := hM.kp kd
            have hcell := hM3.cellF
            obtain ⟨hc1, hf1⟩ := id hcell
            have HM3 := Lib.hid hM3
            have HT3 := Lib.hid (HT.out.kp (kk.trans kd))
            have hcl : cur.length + 1 ≤ 9000000 := by omega
            clear hM hM3 kd hcell kk
            go_region_law (first
              | (go_simp; go_at_call 98; (with_reducible refine (pInt1_any _ HT3.out).mono ?_); rintro e v1 ⟨y, rfl, hy, hyd, j1⟩
                 have hM4 := HM3.out.kp j1
                 obtain ⟨hc1, hf1⟩ := hM4.cellF
                 have HY := Lib.hid (And.intro hy hyd)
                 clear hM4 hy hyd)
              | (go_simp; go_at_call 97; (with_reducible refine (IPoint_pt y _ HY.out.1).mono ?_); rintro e v2 ⟨rfl, j2⟩
                 have kY := j2.alloc (.cells #[.bool (ptI y).lo.neg, .slice (ptI y).lo.a (ptI y).lo.xs.length (ptI y).lo.c, .int .i64 (ptI y).lo.e, .bool (ptI y).hi.neg, .slice (ptI y).hi.a (ptI y).hi.xs.length (ptI y).hi.c, .int .i64 (ptI y).hi.e, .bool (ptI y).all] 43)
                 have hM4 := HM3.out.kp (j1.trans j2)
                 obtain ⟨hc1, hf1⟩ := hM4.cellF
                 have hM5 := HM3.out.kp (j1.trans kY)
                 obtain ⟨hc1, hf1⟩ := hM5.cellF
                 have hown := hM5.2.1
                 have hzO := ptI_ok (HY.out.1.kp kY)
                 have hzA := ptI_rd (HY.out.1.kp kY).1
                 have HZ := Lib.hid (And.intro (show (ptI y).pl = pnI 1 1 by show PI.mk y.dy y.dy false = _; rw [HY.out.2]; rfl) hzO.2.2)
                 have HM5 := Lib.hid hM5
                 clear kY hM5 hM4 hzO)
              | (refine step_append_ivg (by rfl) _ _ (by rfl) w u cur (by rfl) hown _ _ (by rfl) (ptI y) hzA (by simp) hcl ?_; intro a' c' w9 hown9 hgrow hblk
                 obtain ⟨hc1, hf1⟩ := HM5.out.cellG hgrow)
              | fail)
            all_goals
              have hst := OutM.step HM5.out hown9 hgrow hblk HM5.out.2.1.noU
              go_wp2_with fail
              go_roundg (gk - 1)
              case measure => have := HPC.out.2.2; omega
              case rel =>
                refine ⟨_, cur ++ [ptI y], by have := HPC.out.2.2; rw [List.length_append, List.length_singleton]; omega, by rw [List.length_append, List.length_singleton]; go_num, hst, ?_, ok_snoc HPC.out.2.1 HZ.out.2⟩
                rw [plR_snoc, HPC.out.1, List.length_append, List.length_singleton, rowF_snoc, HZ.out.1, HP.out]
          · have heq : ((R.length : Int) == (cur.length : Int)) = false := beq_eq_false_iff_ne.2 (by omega)
            have HIJ := Lib.hid hij
            clear hij
            have HP := Lib.hid (show pnI 0 0 = F R.length cur.length by rw [HF.out]; show _ = idP _ _; unfold idP; rw [if_neg HIJ.out])
            go_upto_region 13 with fail
            have kd := (Kp.refl wr).drew
            have kk := HK.out.trans hM.2.1.1
            have hM3 := hM.kp kd
            have hcell := hM3.cellF
            obtain ⟨hc1, hf1⟩ := id hcell
            have HM3 := Lib.hid hM3
            have HT3 := Lib.hid (HT.out.kp (kk.trans kd))
            have hcl : cur.length + 1 ≤ 9000000 := by omega
            clear hM hM3 kd hcell kk
            go_region_law (first
              | (go_simp; go_at_call 98; (with_reducible refine (pInt0_any _ HT3.out).mono ?_); rintro e v1 ⟨y, rfl, hy, hyd, j1⟩
                 have hM4 := HM3.out.kp j1
                 obtain ⟨hc1, hf1⟩ := hM4.cellF
                 have HY := Lib.hid (And.intro hy hyd)
                 clear hM4 hy hyd)
              | (go_simp; go_at_call 97; (with_reducible refine (IPoint_pt y _ HY.out.1).mono ?_); rintro e v2 ⟨rfl, j2⟩
                 have kY := j2.alloc (.cells #[.bool (ptI y).lo.neg, .slice (ptI y).lo.a (ptI y).lo.xs.length (ptI y).lo.c, .int .i64 (ptI y).lo.e, .bool (ptI y).hi.neg, .slice (ptI y).hi.a (ptI y).hi.xs.length (ptI y).hi.c, .int .i64 (ptI y).hi.e, .bool (ptI y).all] 43)
                 have hM4 := HM3.out.kp (j1.trans j2)
                 obtain ⟨hc1, hf1⟩ := hM4.cellF
                 have hM5 := HM3.out.kp (j1.trans kY)
                 obtain ⟨hc1, hf1⟩ := hM5.cellF
                 have hown := hM5.2.1
                 have hzO := ptI_ok (HY.out.1.kp kY)
                 have hzA := ptI_rd (HY.out.1.kp kY).1
                 have HZ := Lib.hid (And.intro (show (ptI y).pl = pnI 0 0 by show PI.mk y.dy y.dy false = _; rw [HY.out.2]; rfl) hzO.2.2)
                 have HM5 := Lib.hid hM5
                 clear kY hM5 hM4 hzO)
              | (refine step_append_ivg (by rfl) _ _ (by rfl) w u cur (by rfl) hown _ _ (by rfl) (ptI y) hzA (by simp) hcl ?_; intro a' c' w9 hown9 hgrow hblk
                 obtain ⟨hc1, hf1⟩ := HM5.out.cellG hgrow)
              | fail)
            all_goals
              have hst := OutM.step HM5.out hown9 hgrow hblk HM5.out.2.1.noU
              go_wp2_with fail
              go_roundg (gk - 1)
              case measure => have := HPC.out.2.2; omega
              case rel =>
                refine ⟨_, cur ++ [ptI y], by have := HPC.out.2.2; rw [List.length_append, List.length_singleton]; omega, by rw [List.length_append, List.length_singleton]; go_num, hst, ?_, ok_snoc HPC.out.2.1 HZ.out.2⟩
                rw [plR_snoc, HPC.out.1, List.length_append, List.length_singleton, rowF_snoc, HZ.out.1, HP.out]
        · have hce : cur.length = n := by omega
          have hcl : cur.length ≤ 1100000 := by omega
          have hcc := Lib.hid (hM.close hcl)
          have HPC := Lib.hid (And.intro hpc (And.intro hvc hce))
          clear hpc hvc hcq hM hce hcl
          go_wp2_with fail
          go_roundg (gk1 - 1)
          case measure => have := Hlt.out; omega
          case rel =>
            refine ⟨R ++ [cur], by have := Hlt.out; rw [List.length_append, List.length_singleton]; omega, by rw [List.length_append, List.length_singleton]; go_num, hcc.out, ?_, okM_snoc HH.out.2 HPC.out.2.1⟩
            rw [plM_snoc, HH.out.1, List.length_append, List.length_singleton, tabM_snoc, HPC.out.1, HPC.out.2.2]
    · have hRe : R.length = n := by omega
      have HRe := Lib.hid hRe
      clear hRe hRq
      go_wp2_with fail
      refine bodyPost_ret (v := .slice (some ⟨w.heap.size, 0, none⟩) n n) (by simp [results, Tryz.results41, go_sem]) rfl ?_
      refine ⟨_, R, n, by rw [HRe.out], HOH.out.rowM, ?_, HH.out.2, by have := HRe.out; omega, hkr⟩
      rw [HH.out.1, HRe.out]
end Go.Proofs.YtdidocdpjiiedaaGreatDoor
end
