/-
  Walks: round.Near.
-/
import Derived.Test.YtndbnfeapdkoaaaDoorMRoSq
namespace Go.Proofs.YtndbnfeapdkoaaaDoor
open Go.RowKit

/-- is the upper one nearer? -/
def nearB (lo hi b a : Dy) : Bool := if cmpZ b.iv a.iv = -1 then false else if cmpZ b.iv a.iv = 1 then true else decide (hi.m = 0) || (decide (lo.m ≠ 0) && decide (lo.e < hi.e))
/-- the difference, 0 if it is too big -/
def difD (x y : Dy) : Dy := (chk (sumD x y.opp)).1
theorem difD_ok (x y : Dy) : (difD x y).ok := sumD_chk_ok x y.opp
/-- Near's result -/
def nearR (x : RD) (p : Int) : Dy × Int :=
  if (rndB x p false).2 ≠ 0 then (.zero, (rndB x p false).2) else if (rndB x p true).2 ≠ 0 then (.zero, (rndB x p true).2)
  else (if nearB (rndB x p false).1 (rndB x p true).1 (difD x.dy (rndB x p false).1) (difD (rndB x p true).1 x.dy) then (rndB x p true).1 else (rndB x p false).1, 0)
theorem rndB_ok (x : RD) (p : Int) (up : Bool) : (rndB x p up).1.ok := by
  unfold rndB
  split
  · next h =>
    obtain ⟨_, h1, h2⟩ := fltB_zero.1 h
    exact rndS_ok (by omega) (by omega)
  · exact Dy.ok_zero
theorem rndB_valid {x : RD} {p : Int} {up : Bool} (h : (rndB x p up).2 = 0) : x.vl = true ∧ 8 ≤ p ∧ p ≤ 512 := by
  unfold rndB at h
  split at h
  · next h0 =>
    obtain ⟨h1, h2, h3⟩ := fltB_zero.1 h0
    exact ⟨by simpa using h1, h2, h3⟩
  · next h0 => exact absurd h h0
theorem cmpZ_cases (a b : Int) : cmpZ a b = -1 ∨ cmpZ a b = 0 ∨ cmpZ a b = 1 := by unfold cmpZ; split <;> (try split) <;> simp
set_option maxRecDepth 100000 in
set_option maxHeartbeats 8000000 in
theorem Near_any (x : RD) (p : Int) (w : World) (hx : x.rd w) (hT : Tab w) :
    Calls Tryd.prog 20 #[.agg #[.bool x.neg, .slice x.a x.xs.length x.c, .int .i64 x.e], .int .i64 p] w (NumE w (nearR x p).1 (nearR x p).2) := by
  obtain ⟨D, hD⟩ : ∃ D, D = nearR x p := ⟨_, rfl⟩
  have HD := Lib.hid hD
  rw [← hD]
  clear hD
  go_enter Tryd.func20, Tryd.ntmps20
  go_wp2_with fail
  generalize hW : ((w.alloc _).alloc _) = W at *
  have hk : Kp w W := hW ▸ ((Kp.refl w).alloc _).alloc _
  have hS : W.cell? ⟨w.heap.size, 0, none⟩ = some (.bool x.neg) ∧ W.cell? ⟨w.heap.size, 1, none⟩ = some (.slice x.a x.xs.length x.c) ∧ W.cell? ⟨w.heap.size, 2, none⟩ = some (.int .i64 x.e) := by rw [← hW]; simp
  have hB : Box3 W (w.heap.size + 1) (.bool false) (.slice none 0 0) (.int .i64 0) := hW ▸ Box3.new2 _ _ _ _ _ _
  clear hW
  refine (Down_rd x p _ (hx.kp hk) (hT.kp hk)).mono ?_
  rintro e w1 ⟨lo, rfl, rlo, dlo, vlo, hk1⟩
  have hka := hk1.alloc (.cells #[.bool lo.neg, .slice lo.a lo.xs.length lo.c, .int .i64 lo.e] 24)
  have hS1 := keep3 hka hS
  have hB1 := hB.kp hka
  have hk2 := hk.trans hka
  have rlo1 := rlo.kp ((Kp.refl w1).alloc (.cells #[.bool lo.neg, .slice lo.a lo.xs.length lo.c, .int .i64 lo.e] 24))
  by_cases hc1 : (rndB x p false).2 = 0
  · rw [hc1]
    obtain ⟨xv, hp0, hp1⟩ := rndB_valid hc1
    have lov := vlo (rndB_ok x p false)
    go_wp2_with fail
    generalize hW1 : w1.alloc _ = W1 at *
    have hL : W1.cell? ⟨w1.heap.size, 0, none⟩ = some (.bool lo.neg) ∧ W1.cell? ⟨w1.heap.size, 1, none⟩ = some (.slice lo.a lo.xs.length lo.c) ∧ W1.cell? ⟨w1.heap.size, 2, none⟩ = some (.int .i64 lo.e) := by rw [← hW1]; simp
    clear hW1
    have hx2 := hx.kp hk2
    have hT2 := hT.kp hk2
    refine (Up_rd x p _ hx2 hT2).mono ?_
    rintro e w3 ⟨hi, rfl, rhi, dhi, vhi, hk3⟩
    have hkb := hk3.alloc (.cells #[.bool hi.neg, .slice hi.a hi.xs.length hi.c, .int .i64 hi.e] 24)
    have hS3 := keep3 hkb hS1
    have hL3 := keep3 hkb hL
    have hB3 := hB1.kp hkb
    have hk4 := hk2.trans hkb
    have rhi3 := rhi.kp ((Kp.refl w3).alloc (.cells #[.bool hi.neg, .slice hi.a hi.xs.length hi.c, .int .i64 hi.e] 24))
    have rlo3 := rlo1.kp hkb
    clear hS hS1 hB hB1 hL hk hk1 hk2 hka
    by_cases hc2 : (rndB x p true).2 = 0
    · rw [hc2]
      have hiv := vhi (rndB_ok x p true)
      have HD2 := Lib.hid (show D = (if nearB (rndB x p false).1 (rndB x p true).1 (difD x.dy (rndB x p false).1) (difD (rndB x p true).1 x.dy) then (rndB x p true).1 else (rndB x p false).1, 0) by
        rw [HD.out]; unfold nearR; rw [if_neg (by rw [hc1]; simp), if_neg (by rw [hc2]; simp)])
      clear hc1 hc2
      go_wp2_with fail
      generalize hW3 : w3.alloc _ = W3 at *
      have hH : W3.cell? ⟨w3.heap.size, 0, none⟩ = some (.bool hi.neg) ∧ W3.cell? ⟨w3.heap.size, 1, none⟩ = some (.slice hi.a hi.xs.length hi.c) ∧ W3.cell? ⟨w3.heap.size, 2, none⟩ = some (.int .i64 hi.e) := by rw [← hW3]; simp
      clear hW3
      have hx4 : x.ok W3 := ⟨hx.kp hk4, xv⟩
      have hT4 := hT.kp hk4
      refine (Sub_rd x lo _ hx4 ⟨rlo3, lov⟩ hT4).mono ?_
      rw [dlo]
      rintro e w5 ⟨z1, rfl, rz1, dz1, vz1, hk5⟩
      have hkc := hk5.alloc (.cells #[.bool z1.neg, .slice z1.a z1.xs.length z1.c, .int .i64 z1.e] 24)
      have hS5 := keep3 hkc hS3
      have hL5 := keep3 hkc hL3
      have hH5 := keep3 hkc hH
      have hB5 := hB3.kp hkc
      have hk6 := hk4.trans hkc
      have rz1' := rz1.kp ((Kp.refl w5).alloc (.cells #[.bool z1.neg, .slice z1.a z1.xs.length z1.c, .int .i64 z1.e] 24))
      clear hS3 hL3 hH hB3 hk3 hk4 hkb
      go_wp2_with fail
      generalize hW5 : w5.alloc _ = W5 at *
      have hZ : W5.cell? ⟨w5.heap.size, 0, none⟩ = some (.bool z1.neg) ∧ W5.cell? ⟨w5.heap.size, 1, none⟩ = some (.slice z1.a z1.xs.length z1.c) ∧ W5.cell? ⟨w5.heap.size, 2, none⟩ = some (.int .i64 z1.e) := by rw [← hW5]; simp
      clear hW5
      have hx6 : x.ok W5 := hx4.kp hkc
      refine (Sub_rd hi x _ ⟨rhi3.kp hkc, hiv⟩ hx6 (hT4.kp hkc)).mono ?_
      rw [dhi]
      rintro e w7 ⟨z2, rfl, rz2, dz2, vz2, hk7⟩
      have hkd := hk7.alloc (.cells #[.bool z2.neg, .slice z2.a z2.xs.length z2.c, .int .i64 z2.e] 24)
      have hL7 := keep3 hkd hL5
      have hH7 := keep3 hkd hH5
      have hZ7 := keep3 hkd hZ
      have hB7 := hB5.kp hkd
      have hk8 := hk6.trans hkd
      have rz1v := vz1 (sumD_chk_ok _ _)
      have rz2v := vz2 (sumD_chk_ok _ _)
      have rz2' := rz2.kp ((Kp.refl w7).alloc (.cells #[.bool z2.neg, .slice z2.a z2.xs.length z2.c, .int .i64 z2.e] 24))
      have rlo7 := (rlo3.kp hkc).kp hkd
      have rhi7 := (rhi3.kp hkc).kp hkd
      have rz17 := rz1'.kp hkd
      clear hS5 hL5 hH5 hB5 hZ hk5 hk6 hkc rz1' rlo3 rhi3 hx4 hx6 hT4
      go_wp2_with fail
      generalize hW7 : w7.alloc _ = W7 at *
      clear hW7
      refine (Cmp_raw z1 z2 _ rz17 rz2' rz1v rz2v).mono ?_
      rw [show z1.iv = (difD x.dy (rndB x p false).1).iv from congrArg Dy.iv dz1, show z2.iv = (difD (rndB x p true).1 x.dy).iv from congrArg Dy.iv dz2]
      rintro e w9 ⟨rfl, hk9⟩
      have hL9 := keep3 hk9 hL7
      have hH9 := keep3 hk9 hH7
      have hk10 := hk8.trans hk9
      have rlo9 := rlo7.kp hk9
      have rhi9 := rhi7.kp hk9
      obtain ⟨q0, q1, q2, f0, f1, f2⟩ := hB7.kp hk9
      clear hL7 hH7 hZ7 hB7 hk7 hk8 hk9 hkd rz17 rz2' rlo7 rhi7
      have Hhz := Lib.hid (show (rndB x p true).1.m = 0 ↔ hi.xs.length = 0 by rw [← dhi]; exact (rdok_zero (w := w9) ⟨rhi9, hiv⟩).symm)
      have Hlz := Lib.hid (show (rndB x p false).1.m = 0 ↔ lo.xs.length = 0 by rw [← dlo]; exact (rdok_zero (w := w9) ⟨rlo9, lov⟩).symm)
      have Hle := Lib.hid (show (rndB x p false).1.e = lo.e ∧ (rndB x p true).1.e = hi.e by rw [← dlo, ← dhi]; exact ⟨rfl, rfl⟩)
      obtain ⟨A, hA⟩ : ∃ A, A = difD x.dy (rndB x p false).1 := ⟨_, rfl⟩
      obtain ⟨B, hB⟩ : ∃ B, B = difD (rndB x p true).1 x.dy := ⟨_, rfl⟩
      rw [← hA, ← hB] at HD2 ⊢
      clear hA hB dz1 dz2 vz1 vz2
      rcases cmpZ_cases A.iv B.iv with hC | hC | hC
      · have HN := Lib.hid (show nearB (rndB x p false).1 (rndB x p true).1 A B = false by unfold nearB; rw [hC]; rfl)
        rw [hC]
        clear hC
        have HD3 := Lib.hid (show D = ((rndB x p false).1, 0) by rw [HD2.out, HN.out]; rfl)
        clear HD2
        go_wp2_with fail
        have hst := stored q0 q1 q2 (fun _ h => by cases h) (fun _ h => by cases h) (fun _ h => by cases h) (.bool lo.neg) (.slice lo.a lo.xs.length lo.c) (.int .i64 lo.e)
        generalize (((w9.setCell _ _).setCell _ _).setCell _ _) = W9 at hst ⊢
        obtain ⟨s0, s1, s2, _, s4, s5, _, _⟩ := hst
        refine bodyPost_ret (v := .tuple #[.agg #[.bool lo.neg, .slice lo.a lo.xs.length lo.c, .int .i64 lo.e], .int .i64 0]) (by simp [results, Tryd.results20, go_sem, s0, s1, s2]) rfl ?_
        rw [HD3.out]
        exact ⟨lo, rfl, ⟨s4 _ _ rlo9.1, rlo9.2⟩, dlo, fun _ => lov, s5 _ hk10 (by omega)⟩
      · have HN := Lib.hid (show nearB (rndB x p false).1 (rndB x p true).1 A B = (decide ((rndB x p true).1.m = 0) || (decide ((rndB x p false).1.m ≠ 0) && decide ((rndB x p false).1.e < (rndB x p true).1.e))) by
          unfold nearB; rw [hC, if_neg (by decide), if_neg (by decide)])
        rw [hC]
        clear hC
        by_cases h1 : hi.xs.length = 0
        · have h1' : ((hi.xs.length : Int) == 0) = true := beq_iff_eq.2 (by omega)
          have HN2 := Lib.hid (show nearB (rndB x p false).1 (rndB x p true).1 A B = true by rw [HN.out, decide_eq_true (Hhz.out.2 h1)]; rfl)
          clear h1
          have HD3 := Lib.hid (show D = ((rndB x p true).1, 0) by rw [HD2.out, HN2.out]; rfl)
          clear HD2
          go_wp2_with fail
          have hst := stored q0 q1 q2 (fun _ h => by cases h) (fun _ h => by cases h) (fun _ h => by cases h) (.bool hi.neg) (.slice hi.a hi.xs.length hi.c) (.int .i64 hi.e)
          generalize (((w9.setCell _ _).setCell _ _).setCell _ _) = W9 at hst ⊢
          obtain ⟨s0, s1, s2, _, s4, s5, _, _⟩ := hst
          refine bodyPost_ret (v := .tuple #[.agg #[.bool hi.neg, .slice hi.a hi.xs.length hi.c, .int .i64 hi.e], .int .i64 0]) (by simp [results, Tryd.results20, go_sem, s0, s1, s2]) rfl ?_
          rw [HD3.out]
          exact ⟨hi, rfl, ⟨s4 _ _ rhi9.1, rhi9.2⟩, dhi, fun _ => hiv, s5 _ hk10 (by omega)⟩
        · have h1' : ((hi.xs.length : Int) == 0) = false := beq_eq_false_iff_ne.2 (by omega)
          have Hh1 := Lib.hid (fun k => h1 (Hhz.out.1 k))
          clear h1
          by_cases h2 : lo.xs.length = 0
          · have h2' : ¬ (0 : Int) < (lo.xs.length : Int) := by omega
            have HN2 := Lib.hid (show nearB (rndB x p false).1 (rndB x p true).1 A B = false by
              rw [HN.out, decide_eq_false Hh1.out]
              have := Hlz.out.2 h2
              simp [this])
            clear h2
            have HD3 := Lib.hid (show D = ((rndB x p false).1, 0) by rw [HD2.out, HN2.out]; rfl)
            clear HD2
            go_wp2_with fail
            have hst := stored q0 q1 q2 (fun _ h => by cases h) (fun _ h => by cases h) (fun _ h => by cases h) (.bool lo.neg) (.slice lo.a lo.xs.length lo.c) (.int .i64 lo.e)
            generalize (((w9.setCell _ _).setCell _ _).setCell _ _) = W9 at hst ⊢
            obtain ⟨s0, s1, s2, _, s4, s5, _, _⟩ := hst
            refine bodyPost_ret (v := .tuple #[.agg #[.bool lo.neg, .slice lo.a lo.xs.length lo.c, .int .i64 lo.e], .int .i64 0]) (by simp [results, Tryd.results20, go_sem, s0, s1, s2]) rfl ?_
            rw [HD3.out]
            exact ⟨lo, rfl, ⟨s4 _ _ rlo9.1, rlo9.2⟩, dlo, fun _ => lov, s5 _ hk10 (by omega)⟩
          · have h2' : (0 : Int) < (lo.xs.length : Int) := by omega
            have Hl2 := Lib.hid (fun k => h2 (Hlz.out.1 k))
            clear h2
            by_cases h3 : lo.e < hi.e
            · have HN2 := Lib.hid (show nearB (rndB x p false).1 (rndB x p true).1 A B = true by
                rw [HN.out, Hle.out.1, Hle.out.2]; simp [h3, show ¬ (rndB x p false).1.m = 0 from Hl2.out])
              have HD3 := Lib.hid (show D = ((rndB x p true).1, 0) by rw [HD2.out, HN2.out]; rfl)
              clear HD2
              go_wp2_with fail
              have hst := stored q0 q1 q2 (fun _ h => by cases h) (fun _ h => by cases h) (fun _ h => by cases h) (.bool hi.neg) (.slice hi.a hi.xs.length hi.c) (.int .i64 hi.e)
              generalize (((w9.setCell _ _).setCell _ _).setCell _ _) = W9 at hst ⊢
              obtain ⟨s0, s1, s2, _, s4, s5, _, _⟩ := hst
              refine bodyPost_ret (v := .tuple #[.agg #[.bool hi.neg, .slice hi.a hi.xs.length hi.c, .int .i64 hi.e], .int .i64 0]) (by simp [results, Tryd.results20, go_sem, s0, s1, s2]) rfl ?_
              rw [HD3.out]
              exact ⟨hi, rfl, ⟨s4 _ _ rhi9.1, rhi9.2⟩, dhi, fun _ => hiv, s5 _ hk10 (by omega)⟩
            · have HN2 := Lib.hid (show nearB (rndB x p false).1 (rndB x p true).1 A B = false by
                rw [HN.out, Hle.out.1, Hle.out.2, decide_eq_false h3, decide_eq_false Hh1.out]; simp)
              have HD3 := Lib.hid (show D = ((rndB x p false).1, 0) by rw [HD2.out, HN2.out]; rfl)
              clear HD2
              go_wp2_with fail
              have hst := stored q0 q1 q2 (fun _ h => by cases h) (fun _ h => by cases h) (fun _ h => by cases h) (.bool lo.neg) (.slice lo.a lo.xs.length lo.c) (.int .i64 lo.e)
              generalize (((w9.setCell _ _).setCell _ _).setCell _ _) = W9 at hst ⊢
              obtain ⟨s0, s1, s2, _, s4, s5, _, _⟩ := hst
              refine bodyPost_ret (v := .tuple #[.agg #[.bool lo.neg, .slice lo.a lo.xs.length lo.c, .int .i64 lo.e], .int .i64 0]) (by simp [results, Tryd.results20, go_sem, s0, s1, s2]) rfl ?_
              rw [HD3.out]
              exact ⟨lo, rfl, ⟨s4 _ _ rlo9.1, rlo9.2⟩, dlo, fun _ => lov, s5 _ hk10 (by omega)⟩
      · have HN := Lib.hid (show nearB (rndB x p false).1 (rndB x p true).1 A B = true by unfold nearB; rw [hC]; rfl)
        rw [hC]
        clear hC
        have HD3 := Lib.hid (show D = ((rndB x p true).1, 0) by rw [HD2.out, HN.out]; rfl)
        clear HD2
        go_wp2_with fail
        have hst := stored q0 q1 q2 (fun _ h => by cases h) (fun _ h => by cases h) (fun _ h => by cases h) (.bool hi.neg) (.slice hi.a hi.xs.length hi.c) (.int .i64 hi.e)
        generalize (((w9.setCell _ _).setCell _ _).setCell _ _) = W9 at hst ⊢
        obtain ⟨s0, s1, s2, _, s4, s5, _, _⟩ := hst
        refine bodyPost_ret (v := .tuple #[.agg #[.bool hi.neg, .slice hi.a hi.xs.length hi.c, .int .i64 hi.e], .int .i64 0]) (by simp [results, Tryd.results20, go_sem, s0, s1, s2]) rfl ?_
        rw [HD3.out]
        exact ⟨hi, rfl, ⟨s4 _ _ rhi9.1, rhi9.2⟩, dhi, fun _ => hiv, s5 _ hk10 (by omega)⟩
    · have hc : ((rndB x p true).2 == 0) = false := beq_eq_false_iff_ne.2 hc2
      have hc3 : ((rndB x p true).2 != 0) = true := by rw [bne, hc]; rfl
      have HD2 := Lib.hid (show D = (.zero, (rndB x p true).2) by rw [HD.out]; unfold nearR; rw [if_neg (by rw [hc1]; simp), if_pos hc2])
      obtain ⟨q0, q1, q2, f0, f1, f2⟩ := hB3
      clear hS3 hL3 hc2 hc1
      go_wp2_with fail
      generalize w3.alloc _ = W3 at *
      have hst := stored q0 q1 q2 (fun _ h => by cases h) (fun _ h => by cases h) (fun _ h => by cases h) (.bool false) (.slice none 0 0) (.int .i64 0)
      generalize (((W3.setCell _ _).setCell _ _).setCell _ _) = W9 at hst ⊢
      obtain ⟨s0, s1, s2, _, s4, s5, _, _⟩ := hst
      refine bodyPost_ret (v := .tuple #[.agg #[.bool false, .slice none 0 0, .int .i64 0], .int .i64 (rndB x p true).2]) (by simp [results, Tryd.results20, go_sem, s0, s1, s2]) rfl ?_
      rw [HD2.out]
      exact numE_zero rfl (s5 _ hk4 (by omega))
  · have hc : ((rndB x p false).2 == 0) = false := beq_eq_false_iff_ne.2 hc1
    have hc2 : ((rndB x p false).2 != 0) = true := by rw [bne, hc]; rfl
    have HD2 := Lib.hid (show D = (.zero, (rndB x p false).2) by rw [HD.out]; unfold nearR; rw [if_pos hc1])
    obtain ⟨q0, q1, q2, f0, f1, f2⟩ := hB1
    clear hS hS1 hB hc1
    go_wp2_with fail
    generalize w1.alloc _ = W1 at *
    have hst := stored q0 q1 q2 (fun _ h => by cases h) (fun _ h => by cases h) (fun _ h => by cases h) (.bool false) (.slice none 0 0) (.int .i64 0)
    generalize (((W1.setCell _ _).setCell _ _).setCell _ _) = W9 at hst ⊢
    obtain ⟨s0, s1, s2, _, s4, s5, _, _⟩ := hst
    refine bodyPost_ret (v := .tuple #[.agg #[.bool false, .slice none 0 0, .int .i64 0], .int .i64 (rndB x p false).2]) (by simp [results, Tryd.results20, go_sem, s0, s1, s2]) rfl ?_
    rw [HD2.out]
    exact numE_zero rfl (s5 _ hk2 (by omega))
end Go.Proofs.YtndbnfeapdkoaaaDoor
