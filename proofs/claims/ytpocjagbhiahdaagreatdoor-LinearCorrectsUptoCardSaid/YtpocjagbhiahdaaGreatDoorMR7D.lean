/-
  Walks: the seventh reference's Dot.
-/
import Derived.Deep.CutRange
import Derived.Deep.LoopGhost
import Derived.Test.YtpocjagbhiahdaaGreatDoorMDotM
import Derived.Test.YtpocjagbhiahdaaGreatDoorMR5N
import Derived.Test.YtpocjagbhiahdaaGreatDoorMR3C
import Derived.Deep.DeepFit
import Derived.Test.YtpocjagbhiahdaaGreatDoorMMulN
import Derived.Test.YtpocjagbhiahdaaGreatDoorMR2I
import Derived.Deep.RegionHeld3
import Derived.Test.YtpocjagbhiahdaaGreatDoorMTabP
import Derived.Test.YtpocjagbhiahdaaGreatDoorMOpenN
import Derived.Test.YtpocjagbhiahdaaGreatDoorMDscN
import Derived.Test.YtpocjagbhiahdaaGreatDoorMOwnX
import Derived.Test.YtpocjagbhiahdaaGreatDoorMDivR
namespace Go.Proofs.YtpocjagbhiahdaaGreatDoor
open Go.RowKit
theorem keep77o {w w' : World} (k : Kp w w') {p0 p1 p2 p3 p4 p5 p6 q0 q1 q2 q3 q4 q5 q6 r0 r1 r2 r3 r4 r5 r6 : Addr} {v0 v1 v2 v3 v4 v5 v6 u0 u1 u2 u3 u4 u5 u6 t0 t1 t2 t3 t4 t5 t6 : Value}
    (h : (w.cell? p0 = some v0 ∧ w.cell? p1 = some v1 ∧ w.cell? p2 = some v2 ∧ w.cell? p3 = some v3 ∧ w.cell? p4 = some v4 ∧ w.cell? p5 = some v5 ∧ w.cell? p6 = some v6) ∧ (w.cell? q0 = some u0 ∧ w.cell? q1 = some u1 ∧ w.cell? q2 = some u2 ∧ w.cell? q3 = some u3 ∧ w.cell? q4 = some u4 ∧ w.cell? q5 = some u5 ∧ w.cell? q6 = some u6) ∧ w.cell? r0 = some t0 ∧ w.cell? r1 = some t1 ∧ w.cell? r2 = some t2 ∧ w.cell? r3 = some t3 ∧ w.cell? r4 = some t4 ∧ w.cell? r5 = some t5 ∧ w.cell? r6 = some t6) :
    (w'.cell? p0 = some v0 ∧ w'.cell? p1 = some v1 ∧ w'.cell? p2 = some v2 ∧ w'.cell? p3 = some v3 ∧ w'.cell? p4 = some v4 ∧ w'.cell? p5 = some v5 ∧ w'.cell? p6 = some v6) ∧ (w'.cell? q0 = some u0 ∧ w'.cell? q1 = some u1 ∧ w'.cell? q2 = some u2 ∧ w'.cell? q3 = some u3 ∧ w'.cell? q4 = some u4 ∧ w'.cell? q5 = some u5 ∧ w'.cell? q6 = some u6) ∧ w'.cell? r0 = some t0 ∧ w'.cell? r1 = some t1 ∧ w'.cell? r2 = some t2 ∧ w'.cell? r3 = some t3 ∧ w'.cell? r4 = some t4 ∧ w'.cell? r5 = some t5 ∧ w'.cell? r6 = some t6 := ⟨keep7 k h.1, keep7 k h.2.1, keep7 k h.2.2⟩
theorem r5mul_rd (x y : RI) (p : Nat) (w : World) (hx : x.rd w ∧ x.vl = true) (hy : y.rd w ∧ y.vl = true) (h0 : 8 ≤ p) (h1 : p ≤ 512) :
    Calls Tryz.prog 129 #[.agg #[.bool x.lo.neg, .slice x.lo.a x.lo.xs.length x.lo.c, .int .i64 x.lo.e, .bool x.hi.neg, .slice x.hi.a x.hi.xs.length x.hi.c, .int .i64 x.hi.e, .bool x.all], .agg #[.bool y.lo.neg, .slice y.lo.a y.lo.xs.length y.lo.c, .int .i64 y.lo.e, .bool y.hi.neg, .slice y.hi.a y.hi.xs.length y.hi.c, .int .i64 y.hi.e, .bool y.all], .int .i64 p] w (IvOut w (pMul x.pl y.pl p)) := r5mul_any x y p w hx.1 hy.1 hx.2 hy.2 h0 h1
theorem r5add_rd (x y : RI) (p : Nat) (w : World) (hx : x.rd w ∧ x.vl = true) (hy : y.rd w ∧ y.vl = true) (h0 : 8 ≤ p) (h1 : p ≤ 512) (hT : Tab w) :
    Calls Tryz.prog 91 #[.agg #[.bool x.lo.neg, .slice x.lo.a x.lo.xs.length x.lo.c, .int .i64 x.lo.e, .bool x.hi.neg, .slice x.hi.a x.hi.xs.length x.hi.c, .int .i64 x.hi.e, .bool x.all], .agg #[.bool y.lo.neg, .slice y.lo.a y.lo.xs.length y.lo.c, .int .i64 y.lo.e, .bool y.hi.neg, .slice y.hi.a y.hi.xs.length y.hi.c, .int .i64 y.hi.e, .bool y.all], .int .i64 p] w (IvOut w (pAdd x.pl y.pl p)) := r5add_any x y p w hx.1 hy.1 hx.2 hy.2 h0 h1 hT

set_option maxRecDepth 100000 in
set_option maxHeartbeats 8000000 in
theorem r7dot_any (a a2 : Option Addr) (r s : List RI) (c c2 : Nat) (p : Nat) (w : World) (hr : RowI w a r) (hs : RowI w a2 s) (hv : ∀ x ∈ r, x.vl = true) (hv2 : ∀ x ∈ s, x.vl = true) (h0 : 0 < r.length) (h8 : r.length ≤ 8) (hrs : r.length ≤ s.length)
    (hp : 8 ≤ p) (hp2 : p ≤ 512) (hT : Tab w) :
    Calls Tryz.prog 89 #[.slice a r.length c, .slice a2 s.length c2, .int .i64 p] w (IvOut w (dotF p (rowG r) (rowG s) (r.length - 1))) := by
  obtain ⟨x0, hx0⟩ : ∃ x, r[0]? = some x := ⟨_, List.getElem?_eq_getElem h0⟩
  obtain ⟨y0, hy0⟩ : ∃ x, s[0]? = some x := ⟨_, List.getElem?_eq_getElem (by omega)⟩
  obtain ⟨b, o, rfl, _⟩ := hr 0 x0 hx0
  obtain ⟨b2, o2, rfl, _⟩ := hs 0 y0 hy0
  have Hx0 := Lib.hid (And.intro hx0 hy0)
  have HR := Lib.hid hr
  have HS := Lib.hid hs
  have HV := Lib.hid hv
  have HV2 := Lib.hid hv2
  have HT := Lib.hid hT
  clear hv hv2 hT
  go_enter Tryz.func89, Tryz.ntmps89
  go_upto_region 1 with fail
  generalize hW : w.alloc _ = W at *
  have hk : Kp w W := hW ▸ (Kp.refl w).alloc _
  have hV : Var7 W w.heap.size := by rw [← hW]; exact Var7.new _ _
  clear hW
  obtain ⟨b', o', e2, hrd, hS⟩ := (hr.kp hk) 0 x0 hx0
  cases e2
  rw [Nat.zero_mul, Nat.add_zero] at hS
  obtain ⟨b', o', e2, hrd2, hS2⟩ := (hs.kp hk) 0 y0 hy0
  cases e2
  rw [Nat.zero_mul, Nat.add_zero] at hS2
  have HK := Lib.hid hk
  have HVr := Lib.hid hV
  have X0 := Lib.hid (And.intro hrd (HV.out x0 (List.mem_of_getElem? hx0)))
  have Y0 := Lib.hid (And.intro hrd2 (HV2.out y0 (List.mem_of_getElem? hy0)))
  clear hr hs hx0 hy0 hk hV hrd hrd2
  have hb0 := World.block_lt_of_cell? W _ hS.1
  have hb2 := World.block_lt_of_cell? W _ hS2.1
  have hi0 : (0 : Int) < (r.length : Int) := by omega
  have hi2 : 0 < s.length := by omega
  go_cut [7] from 9 to 16 (fun s wx => ∃ b1 : Nat, s = .pointer (some ⟨b1, 0, none⟩) ∧ HasI W wx b1 (pMul x0.pl y0.pl p))
  case first =>
    have n1 : b ≠ W.heap.size := Nat.ne_of_lt hb0
    have n2 : b2 ≠ W.heap.size := Nat.ne_of_lt hb2
    have kd := Lib.hid (Kp.refl W).drew
    have hS0 := And.intro hS hS2
    have hSd := keep77 kd.out hS0
    have KZ := Lib.hid (show Kp W (W.alloc (.cells #[.bool false, .slice none 0 0, .int .i64 0, .bool false, .slice none 0 0, .int .i64 0, .bool false] 44)).drew from kd.out.trans ((Kp.refl W.drew).alloc _))
    have HSZ := Lib.hid (keep77 KZ.out hS0)
    have BZ := Lib.hid (show Var7 (W.alloc (.cells #[.bool false, .slice none 0 0, .int .i64 0, .bool false, .slice none 0 0, .int .i64 0, .bool false] 44)).drew W.heap.size from Var7.new W.drew _)
    have HS0 := Lib.hid hS0
    clear hS hS2 hS0
    go_region_held3 (fun w' => (w'.cell? ⟨b, o, none⟩ = some (.bool x0.lo.neg) ∧ w'.cell? ⟨b, o + 1, none⟩ = some (.slice x0.lo.a x0.lo.xs.length x0.lo.c) ∧ w'.cell? ⟨b, o + 2, none⟩ = some (.int .i64 x0.lo.e) ∧ w'.cell? ⟨b, o + 3, none⟩ = some (.bool x0.hi.neg) ∧ w'.cell? ⟨b, o + 4, none⟩ = some (.slice x0.hi.a x0.hi.xs.length x0.hi.c) ∧ w'.cell? ⟨b, o + 5, none⟩ = some (.int .i64 x0.hi.e) ∧ w'.cell? ⟨b, o + 6, none⟩ = some (.bool x0.all))
        ∧ w'.cell? ⟨b2, o2, none⟩ = some (.bool y0.lo.neg) ∧ w'.cell? ⟨b2, o2 + 1, none⟩ = some (.slice y0.lo.a y0.lo.xs.length y0.lo.c) ∧ w'.cell? ⟨b2, o2 + 2, none⟩ = some (.int .i64 y0.lo.e) ∧ w'.cell? ⟨b2, o2 + 3, none⟩ = some (.bool y0.hi.neg) ∧ w'.cell? ⟨b2, o2 + 4, none⟩ = some (.slice y0.hi.a y0.hi.xs.length y0.hi.c) ∧ w'.cell? ⟨b2, o2 + 5, none⟩ = some (.int .i64 y0.hi.e) ∧ w'.cell? ⟨b2, o2 + 6, none⟩ = some (.bool y0.all))
      (first | with_reducible assumption | with_reducible exact keep77 (by assumption) (by assumption) | with_reducible exact keep77 ((Kp.refl _).alloc _) (by assumption) | with_reducible exact ⟨set7o (by assumption) HSJ.out.1, set7o (by assumption) HSJ.out.2⟩ | with_reducible exact HSZ.out | fail)
      (first
        | ((with_reducible refine (r5mul_rd x0 y0 p _ (And.intro (X0.out.1.kp kd.out) X0.out.2) (And.intro (Y0.out.1.kp kd.out) Y0.out.2) hp hp2).mono ?_); rintro e v1 ⟨z1, rfl, r1, p1, q1, j1⟩
           have KJ := Lib.hid (kd.out.trans j1)
           have hS1 := keep77 KJ.out HS0.out
           have O1 := Lib.hid (And.intro r1 (And.intro p1 q1))
           clear r1 p1 q1)
        | ((with_reducible refine (r5mul_rd x0 y0 p _ (And.intro (X0.out.1.kp KZ.out) X0.out.2) (And.intro (Y0.out.1.kp KZ.out) Y0.out.2) hp hp2).mono ?_); rintro e v1 ⟨z1, rfl, r1, p1, q1, j1⟩
           have KJ := Lib.hid (KZ.out.trans j1)
           have HSJ := Lib.hid (keep77 KJ.out HS0.out)
           have BV := BZ.out.kp j1
           have O1 := Lib.hid (And.intro r1 (And.intro p1 q1))
           clear r1 p1 q1
           obtain ⟨⟨q0, q1, q2, q3, q4, q5, q6⟩, f0, f1, f2, f3, f4, f5, f6⟩ := id BV)
        | fail)
    all_goals
      go_wp2_with fail
      go_meet
      case rel => first
        | exact ⟨_, rfl, hasI_store BV.1 BV.2 (fun _ h => by cases h) (fun _ h => by cases h) (fun _ h => by cases h) (fun _ h => by cases h) (fun _ h => by cases h) (fun _ h => by cases h) (fun _ h => by cases h) O1.out.1 O1.out.2.1 O1.out.2.2 KJ.out (Nat.le_refl _)⟩
        | exact ⟨_, rfl, hasI_alloc O1.out.1 O1.out.2.1 O1.out.2.2 KJ.out _⟩
  case rest =>
  obtain ⟨b1, rfl, hI⟩ := hcut
  obtain ⟨W2, hW2⟩ : ∃ x : World, x = wc := ⟨_, rfl⟩
  subst hW2
  have HI := Lib.hid hI
  clear hI hS hS2
  go_wp2_with fail
  go_loopg [8] (r.length - 1) (fun q v wr => ∃ k : Nat, 1 ≤ k ∧ k + q = r.length ∧ v = .int .i64 k ∧ HasI W wr b1 (dotF p (rowG r) (rowG s) (k - 1)))
  case atStart => exact ⟨1, by omega, by omega, rfl, by have := HI.out; rw [← rowG_eq Hx0.out.1, ← rowG_eq Hx0.out.2] at this; exact this⟩
  case round =>
  obtain ⟨k, hk1, hkq, rfl, hI⟩ := hrel
  obtain ⟨z, hB, hz, hpz, hvz, hkw, hg1⟩ := hI
  clear HI hi0 hi2
  have n1 : b ≠ b1 := by have : b < W.heap.size := hb0; omega
  by_cases hlt : k < r.length
  rotate_left
  · have hkk : k = r.length := by omega
    obtain ⟨⟨q0, q1, q2, q3, q4, q5, q6⟩, _⟩ := id hB
    obtain ⟨⟨r0, r1, r2, r3, r4, r5, r6⟩, f0, f1, f2, f3, f4, f5, f6⟩ := HVr.out.kp hkw
    have HZ := Lib.hid (And.intro hz (And.intro (show z.pl = dotF p (rowG r) (rowG s) (r.length - 1) by rw [hpz, hkk]) hvz))
    have hkk := HK.out.trans hkw
    clear hkw hB hz hpz hvz
    go_wp2_with fail
    generalize hW9 : ((((((wr.setCell _ _).setCell _ _).setCell _ _).setCell _ _).setCell _ _).setCell _ _).setCell _ _ = W9
    obtain ⟨⟨s0, s1, s2, s3, s4, s5, s6⟩, hU⟩ := stored7 (show Box7 wr _ _ _ _ _ _ _ _ from ⟨r0, r1, r2, r3, r4, r5, r6⟩) (fun _ h => by cases h) (fun _ h => by cases h) (fun _ h => by cases h) (fun _ h => by cases h) (fun _ h => by cases h) (fun _ h => by cases h) (fun _ h => by cases h) _ _ _ _ _ _ _ hW9
    clear hW9 q0 q1 q2 q3 q4 q5 q6 r0 r1 r2 r3 r4 r5 r6 f0 f1 f2 f3 f4 f5 f6
    refine bodyPost_ret (v := .agg #[.bool z.lo.neg, .slice z.lo.a z.lo.xs.length z.lo.c, .int .i64 z.lo.e, .bool z.hi.neg, .slice z.hi.a z.hi.xs.length z.hi.c, .int .i64 z.hi.e, .bool z.all]) (by simp [results, Tryz.results89, go_sem, s0, s1, s2, s3, s4, s5, s6]) rfl ?_
    exact ⟨z, rfl, hU.rdI HZ.out.1, HZ.out.2.1, HZ.out.2.2, hU.2.2.1 _ hkk (by omega)⟩
  obtain ⟨x, hx⟩ : ∃ x, r[k]? = some x := ⟨_, List.getElem?_eq_getElem hlt⟩
  obtain ⟨y, hy⟩ : ∃ x, s[k]? = some x := ⟨_, List.getElem?_eq_getElem (by omega)⟩
  obtain ⟨b3, o3, e3, hrd, hS⟩ := (HR.out.kp (HK.out.trans hkw)) k x hx
  cases e3
  obtain ⟨b3, o3, e3, hrd2, hS2⟩ := (HS.out.kp (HK.out.trans hkw)) k y hy
  cases e3
  have kd := Lib.hid (Kp.refl wr).drew
  have hSd := keep77o kd.out ⟨hB.1, hS, hS2⟩
  have HSd := Lib.hid hSd
  have Ox := Lib.hid (And.intro (hrd.kp kd.out) (HV.out x (List.mem_of_getElem? hx)))
  have Oy := Lib.hid (And.intro (hrd2.kp kd.out) (HV2.out y (List.mem_of_getElem? hy)))
  have HX := Lib.hid (show dotF p (rowG r) (rowG s) (k + 1 - 1) = pAdd z.pl (pMul x.pl y.pl p) p by
    rw [hpz, ← rowG_eq hx, ← rowG_eq hy]
    obtain ⟨j, rfl⟩ : ∃ j, k = j + 1 := ⟨k - 1, by omega⟩
    rfl)
  have Oz := Lib.hid (And.intro (hz.kp kd.out) hvz)
  have HKW := Lib.hid (hkw.trans kd.out)
  have HB := Lib.hid (hB.kp kd.out)
  have hi1 : (0 : Int) ≤ (k : Int) := by omega
  have hi2 : (k : Int) < (r.length : Int) := by omega
  have hi3 : (k : Int) < (s.length : Int) := by omega
  have Hlt := Lib.hid hlt
  have HQ := Lib.hid (And.intro hk1 (And.intro hkq hg1))
  clear hS hS2 hrd hrd2 hx hy hz hpz hvz hB hkw hlt hk1 hkq hg1
  go_upto_region 5 with fail
  refine wp_region_last (S := fun w' => (w'.cell? ⟨b1, 0, none⟩ = some (.bool z.lo.neg) ∧ w'.cell? ⟨b1, 1, none⟩ = some (.slice z.lo.a z.lo.xs.length z.lo.c) ∧ w'.cell? ⟨b1, 2, none⟩ = some (.int .i64 z.lo.e) ∧ w'.cell? ⟨b1, 3, none⟩ = some (.bool z.hi.neg) ∧ w'.cell? ⟨b1, 4, none⟩ = some (.slice z.hi.a z.hi.xs.length z.hi.c) ∧ w'.cell? ⟨b1, 5, none⟩ = some (.int .i64 z.hi.e) ∧ w'.cell? ⟨b1, 6, none⟩ = some (.bool z.all)) ∧ (w'.cell? ⟨b, o + k * 7, none⟩ = some (.bool x.lo.neg) ∧ w'.cell? ⟨b, o + k * 7 + 1, none⟩ = some (.slice x.lo.a x.lo.xs.length x.lo.c) ∧ w'.cell? ⟨b, o + k * 7 + 2, none⟩ = some (.int .i64 x.lo.e) ∧ w'.cell? ⟨b, o + k * 7 + 3, none⟩ = some (.bool x.hi.neg) ∧ w'.cell? ⟨b, o + k * 7 + 4, none⟩ = some (.slice x.hi.a x.hi.xs.length x.hi.c) ∧ w'.cell? ⟨b, o + k * 7 + 5, none⟩ = some (.int .i64 x.hi.e) ∧ w'.cell? ⟨b, o + k * 7 + 6, none⟩ = some (.bool x.all))
    ∧ w'.cell? ⟨b2, o2 + k * 7, none⟩ = some (.bool y.lo.neg) ∧ w'.cell? ⟨b2, o2 + k * 7 + 1, none⟩ = some (.slice y.lo.a y.lo.xs.length y.lo.c) ∧ w'.cell? ⟨b2, o2 + k * 7 + 2, none⟩ = some (.int .i64 y.lo.e) ∧ w'.cell? ⟨b2, o2 + k * 7 + 3, none⟩ = some (.bool y.hi.neg) ∧ w'.cell? ⟨b2, o2 + k * 7 + 4, none⟩ = some (.slice y.hi.a y.hi.xs.length y.hi.c) ∧ w'.cell? ⟨b2, o2 + k * 7 + 5, none⟩ = some (.int .i64 y.hi.e) ∧ w'.cell? ⟨b2, o2 + k * 7 + 6, none⟩ = some (.bool y.all)) 13 (by kernel_rfl) (by kernel_rfl) hSd (fun hHeld => ?_)
  clear hSd
  (refine wpAnyH_take (i := 0) (v := ?_) rfl (by kernel_rfl) (by kernel_rfl) (by kernel_rfl) (fun _ _ _ h => h) (Or.inl ⟨by rfl, ?_⟩) (by assumption) ?_; rotate_left; focus ((intro w hSw; (try dsimp only at hSw); go_simp); (try with_reducible rfl)); (try simp only [Act.put, List.setIfInBounds_toArray, List.set_cons_zero, List.set_cons_succ]))
  (refine wpAnyH_take (i := 1) (v := ?_) rfl (by kernel_rfl) (by kernel_rfl) (by kernel_rfl) (fun _ _ _ h => h) (Or.inl ⟨by rfl, ?_⟩) (by assumption) ?_; rotate_left; focus ((intro w hSw; (try dsimp only at hSw); go_simp); (try with_reducible rfl)); (try simp only [Act.put, List.setIfInBounds_toArray, List.set_cons_zero, List.set_cons_succ]))
  (refine wpAnyH_take (i := 2) (v := ?_) rfl (by kernel_rfl) (by kernel_rfl) (by kernel_rfl) (fun _ _ _ h => h) (Or.inl ⟨by rfl, ?_⟩) (by assumption) ?_; rotate_left; focus ((intro w hSw; (try dsimp only at hSw); go_simp); (try with_reducible rfl)); (try simp only [Act.put, List.setIfInBounds_toArray, List.set_cons_zero, List.set_cons_succ]))
  (refine wpAnyH_take (i := 3) (v := ?_) rfl (by kernel_rfl) (by kernel_rfl) (by kernel_rfl) (fun _ _ _ h => h) (Or.inl ⟨by rfl, ?_⟩) (by assumption) ?_; rotate_left; focus ((intro w hSw; (try dsimp only at hSw); go_simp); (try with_reducible rfl)); (try simp only [Act.put, List.setIfInBounds_toArray, List.set_cons_zero, List.set_cons_succ]))
  (refine wpAnyH_take (i := 4) (v := ?_) rfl (by kernel_rfl) (by kernel_rfl) (by kernel_rfl) (fun _ _ _ h => h) (Or.inl ⟨by rfl, ?_⟩) (by assumption) ?_; rotate_left; focus ((intro w hSw; (try dsimp only at hSw); go_simp); (try with_reducible rfl)); (try simp only [Act.put, List.setIfInBounds_toArray, List.set_cons_zero, List.set_cons_succ]))
  (refine wpAnyH_take (i := 5) (v := ?_) rfl (by kernel_rfl) (by kernel_rfl) (by kernel_rfl) (fun _ _ _ h => h) (Or.inl ⟨by rfl, ?_⟩) (by assumption) ?_; rotate_left; focus ((intro w hSw; (try dsimp only at hSw); go_simp); (try with_reducible rfl)); (try simp only [Act.put, List.setIfInBounds_toArray, List.set_cons_zero, List.set_cons_succ]))
  (refine wpAnyH_take (i := 6) (v := ?_) rfl (by kernel_rfl) (by kernel_rfl) (by kernel_rfl) (fun _ _ _ h => h) (Or.inl ⟨by rfl, ?_⟩) (by assumption) ?_; rotate_left; focus ((intro w hSw; (try dsimp only at hSw); go_simp); (try with_reducible rfl)); (try simp only [Act.put, List.setIfInBounds_toArray, List.set_cons_zero, List.set_cons_succ]))
  (refine wpAnyH_take (i := 7) (v := ?_) rfl (by kernel_rfl) (by kernel_rfl) (by kernel_rfl) (fun _ _ _ h => h) (Or.inl ⟨by rfl, ?_⟩) (by assumption) ?_; rotate_left; focus ((intro w hSw; (try dsimp only at hSw); go_simp); (try with_reducible rfl)); (try simp only [Act.put, List.setIfInBounds_toArray, List.set_cons_zero, List.set_cons_succ]))
  (refine wpAnyH_take (i := 8) (v := ?_) rfl (by kernel_rfl) (by kernel_rfl) (by kernel_rfl) (fun _ _ _ h => h) (Or.inl ⟨by rfl, ?_⟩) (by assumption) ?_; rotate_left; focus ((intro w hSw; (try dsimp only at hSw); go_simp); (try with_reducible rfl)); (try simp only [Act.put, List.setIfInBounds_toArray, List.set_cons_zero, List.set_cons_succ]))
  (refine wpAnyH_take (i := 9) (v := ?_) rfl (by kernel_rfl) (by kernel_rfl) (by kernel_rfl) (fun _ _ _ h => h) (Or.inl ⟨by rfl, ?_⟩) (by assumption) ?_; rotate_left; focus ((intro w hSw; (try dsimp only at hSw); go_simp); (try with_reducible rfl)); (try simp only [Act.put, List.setIfInBounds_toArray, List.set_cons_zero, List.set_cons_succ]))
  (refine wpAnyH_take (i := 11) (v := ?_) rfl (by kernel_rfl) (by kernel_rfl) (by kernel_rfl) (fun _ _ _ h => h) (Or.inl ⟨by rfl, ?_⟩) (by assumption) ?_; rotate_left; focus ((intro w hSw; (try dsimp only at hSw); go_simp); (try with_reducible rfl)); (try simp only [Act.put, List.setIfInBounds_toArray, List.set_cons_zero, List.set_cons_succ]))
  (refine wpAnyH_ready (rs := [10]) (by kernel_rfl) (by simp) ?_; refine AllReadyH.cons rfl (fun K hK => ?_) ?_; rotate_left; focus (exact AllReadyH.nil))
  (go_simp; go_fit (r5mul_rd x y p _ Ox.out Oy.out hp hp2); rintro e v1 ⟨z1, rfl, r1, p1, q1, j1⟩)
  (refine hK.out _ _ (keep77o j1 HSd.out) (fun hHeld => ?_); clear hK K)
  have O1 := Lib.hid (And.intro r1 q1)
  have P1 := Lib.hid p1
  clear r1 p1 q1
  (refine wpAnyH_ready (rs := [12]) (by kernel_rfl) (by simp) ?_; refine AllReadyH.cons rfl (fun K hK => ?_) ?_; rotate_left; focus (exact AllReadyH.nil))
  (go_simp; go_fit (r5add_rd z z1 p _ (And.intro (Oz.out.1.kp j1) Oz.out.2) O1.out hp hp2 (HT.out.kp ((HK.out.trans HKW.out).trans j1))); rintro e v2 ⟨z2, rfl, r2, p2, q2, j2⟩)
  (refine hK.out _ _ (keep77o (j1.trans j2) HSd.out) (fun hHeld => ?_); clear hK K)
  have O2 := Lib.hid (And.intro r2 (And.intro (p2.trans ((congrArg (pAdd z.pl · p) P1.out).trans HX.out.symm)) q2))
  have hB3 := HB.out.kp (j1.trans j2)
  have HK3 := Lib.hid (HKW.out.trans (j1.trans j2))
  clear r2 p2 q2 HSd hHeld j1 j2
  refine wpAnyH_done (by kernel_rfl) ?_ _
  obtain ⟨⟨q0, q1, q2, q3, q4, q5, q6⟩, f0, f1, f2, f3, f4, f5, f6⟩ := id hB3
  refine LastQ_run rfl (fun K hK => ?_)
  go_simp
  refine hK.out _ _ ?_
  clear hK K
  go_wp2_with fail
  go_roundg (gk - 1)
  case rel => exact ⟨k + 1, by omega, by have := HQ.out; have := Hlt.out; omega, by go_num, hasI_store hB3.1 hB3.2 (fun _ h => by cases h) (fun _ h => by cases h) (fun _ h => by cases h) (fun _ h => by cases h) (fun _ h => by cases h) (fun _ h => by cases h) (fun _ h => by cases h) O2.out.1 O2.out.2.1 O2.out.2.2 HK3.out HQ.out.2.2⟩
  case measure => have := HQ.out; have := Hlt.out; omega
set_option maxRecDepth 100000 in
set_option maxHeartbeats 8000000 in
theorem r7trn_any (a : Option Addr) (m : List (List RI)) (c : Nat) (w : World) (hm : RowM w a m) (hl : m.length ≤ 1100000) (vm : vlM m = true) :
    Calls Tryz.prog 88 #[.slice a m.length c] w (MatV w (tabM (colsM m) m.length (fun j i => atP m i j))) := by
  have HM := Lib.hid hm
  have HVM := Lib.hid vm
  obtain ⟨F, hF⟩ : ∃ F : Nat → Nat → PI, F = fun j i => atP m i j := ⟨_, rfl⟩
  rw [← hF]
  have HF := Lib.hid hF
  clear hm vm hF
  go_enter Tryz.func88, Tryz.ntmps88
  go_wp2_with fail
  go_fit (r7valid_any a m c _ HM.out hl)
  rintro e w1 ⟨rfl, k1⟩
  rw [HVM.out]
  obtain ⟨r0, hr0, hc0⟩ := vlM_row0 HVM.out
  have hml := (vlM_iff.1 HVM.out).1
  have hmc := (vlM_iff.1 HVM.out).2.1
  obtain ⟨ba, oa, ra, rc, rfl, hrow, _⟩ := HM.out 0 r0 hr0
  rw [Nat.add_zero] at hrow
  have HROW := Lib.hid (k1.cell hrow)
  have HK := Lib.hid k1
  have HC0 := Lib.hid hc0
  have hr8 : r0.length ≤ 8 := by omega
  have hlm : m.length ≤ 8 := by omega
  have hi1 : (0 : Int) < (m.length : Int) := by omega
  have HML := Lib.hid (And.intro hml hmc)
  clear hr0 hrow hc0 hml hmc k1
  go_wp2_with fail
  go_loopg [3, 4] r0.length (fun z v x wr => ∃ (R : List (List RI)) (us : List Value), R.length + z = r0.length ∧ x = .int .i64 (R.length : Int) ∧ OwnM w1 wr v us R ∧ plM R = tabM R.length m.length F ∧ okM R)
  case atStart => exact ⟨[], [], by simp, rfl, OwnM.nil (Kp.refl _), rfl, fun r h => by simp at h⟩
  case round =>
  obtain ⟨R, us, hRq, rfl, hO, hpl, hok⟩ := hrel
  have HH := Lib.hid (And.intro hpl hok)
  have HO := Lib.hid hO
  have hkr := hO.1
  have hrowr := hkr.cell HROW.out
  clear hpl hok hO
  by_cases hlt : R.length < r0.length
  rotate_left
  · have hRe : R.length = r0.length := by omega
    obtain ⟨va, vc, rfl, hvc1, hvc2, hrm⟩ := HO.out.value
    have HRe := Lib.hid (And.intro hRe hrm)
    clear hRe hRq hrm
    go_wp2_with fail
    refine bodyPost_ret (v := .slice va R.length vc) (by simp [results, Tryz.results88, go_sem]) rfl ?_
    refine ⟨va, R, vc, rfl, HRe.out.2, ?_, HH.out.2, by have := HML.out; have := HRe.out.1; omega, HK.out.trans hkr⟩
    rw [HH.out.1, HRe.out.1, HC0.out]
  have Hlt := Lib.hid (And.intro hlt hRq)
  clear hRq
  have hk1 : (0 : Int) ≤ (R.length : Int) := by omega
  go_wp2_with fail
  obtain ⟨gk1, hgk1⟩ : ∃ x : Nat, x = gk := ⟨_, rfl⟩
  subst hgk1
  obtain ⟨wi, hwi⟩ : ∃ x : World, x = wr := ⟨_, rfl⟩
  subst hwi
  have HKI := Lib.hid (HK.out.trans hkr)
  clear hkr hrowr
  go_loopg [5, 6] m.length (fun z u x wr => ∃ cur : List RI, cur.length + z = m.length ∧ x = .int .i64 (cur.length : Int) ∧ OwnN wi wr u cur ∧ plR cur = rowF cur.length (F R.length) ∧ ∀ x ∈ cur, x.vl = true)
  case atStart => exact ⟨[], by simp, rfl, OwnN.nil (Kp.refl _), rfl, fun x h => by simp at h⟩
  case round =>
  obtain ⟨cur, hcq, rfl, hown0, hpc, hvc⟩ := hrel
  have hki := HKI.out.trans hown0.1
  by_cases hlt2 : cur.length < m.length
  rotate_left
  · have hce : cur.length = m.length := by omega
    obtain ⟨ua, uc, rfl, huc, hum, hurow⟩ := hown0.value
    have kA := (Kp.refl wr).alloc (.cells #[.slice ua cur.length uc] 34)
    have HOA := HO.out.kp (hown0.1.trans kA)
    have hoff := OwnN.off (w' := wr.alloc (.cells #[.slice ua cur.length uc] 34)) hown0 rfl HO.out.new kA.size
    have hrowA := hurow.kp kA
    have HPC := Lib.hid (And.intro hpc (And.intro hvc hce))
    have hcl2 : cur.length ≤ 1100000 := by omega
    have hRl : R.length + 1 ≤ 9000000 := by omega
    clear hpc hvc hcq hown0 huc hum hurow hki kA hce
    go_wp2_with (at_builtin; refine wpList_append_rowi rfl _ _ rfl w1 _ us R rfl HOA _ _ rfl ua uc cur hrowA hoff hcl2 (by simp) hRl ?_; intro v' us' w9 hM9)
    go_roundg (gk1 - 1)
    case measure => have := Hlt.out; omega
    case rel =>
    refine ⟨R ++ [cur], us', by have := Hlt.out; rw [List.length_append, List.length_singleton]; omega, by rw [List.length_append, List.length_singleton]; go_num, hM9, ?_, okM_snoc HH.out.2 HPC.out.2.1⟩
    rw [plM_snoc, HH.out.1, List.length_append, List.length_singleton, tabM_snoc, HPC.out.1, HPC.out.2.2]
  obtain ⟨r, hr⟩ : ∃ r, m[cur.length]? = some r := ⟨_, List.getElem?_eq_getElem hlt2⟩
  obtain ⟨b2, o2, ra2, rc2, e2, hrc, hrw, hrl⟩ := HM.out cur.length r hr
  cases e2
  have hrr := vlM_row HVM.out hr
  have hrlen : R.length < r.length := by have := hrr.1; have := HC0.out; omega
  obtain ⟨x, hx⟩ : ∃ x, r[R.length]? = some x := ⟨_, List.getElem?_eq_getElem hrlen⟩
  obtain ⟨b3, o3, e3, hxr, s0, s1, s2, s3, s4, s5, s6⟩ := (hrw.kp hki) R.length x hx
  subst e3
  have hrc1 := hki.cell hrc
  have HPC := Lib.hid (And.intro hpc (And.intro hvc (And.intro hcq hlt2)))
  have HXV := Lib.hid (And.intro (hrr.2 x (List.mem_of_getElem? hx)) (show x.pl = F R.length cur.length by rw [HF.out]; exact (atP_eq hr hx).symm))
  have hj1 : (0 : Int) ≤ (cur.length : Int) := by omega
  have hj2 : (cur.length : Int) < (m.length : Int) := by omega
  have hj3 : (R.length : Int) < (r.length : Int) := by omega
  have hcl : cur.length + 1 ≤ 9000000 := by omega
  have kA := (Kp.refl wr).alloc (.cells #[.bool x.lo.neg, .slice x.lo.a x.lo.xs.length x.lo.c, .int .i64 x.lo.e, .bool x.hi.neg, .slice x.hi.a x.hi.xs.length x.hi.c, .int .i64 x.hi.e, .bool x.all] 44)
  have hownA := hown0.kp kA
  have hxA := hxr.kp kA
  clear hr hrc hrw hrl hrr hx hxr hpc hvc hcq hown0 hki
  go_wp2_with (at_builtin; refine wpList_append_ivg rfl _ _ rfl wi _ cur rfl hownA _ _ rfl x hxA (by simp) hcl ?_; intro a' c' w9 hown9 hgrow hblk)
  go_roundg (gk - 1)
  case measure => have := HPC.out.2.2; omega
  case rel =>
  refine ⟨cur ++ [x], by have := HPC.out.2.2; rw [List.length_append, List.length_singleton]; omega, by rw [List.length_append, List.length_singleton]; go_num, by simpa using hown9, ?_, ok_snoc HPC.out.2.1 HXV.out.1⟩
  rw [plR_snoc, HPC.out.1, List.length_append, List.length_singleton, rowF_snoc, HXV.out.2]
theorem keep2c {w w' : World} (k : Kp w w') {p q : Addr} {v u : Value} (h : w.cell? p = some v ∧ w.cell? q = some u) : w'.cell? p = some v ∧ w'.cell? q = some u := ⟨k.cell h.1, k.cell h.2⟩
theorem dot_trn {m n T : List (List RI)} {q i j : Nat} {r s : List RI} (hr : m[i]? = some r) (hT : plM T = tabM (colsM n) n.length (fun j i => atP n i j)) (hs : T[j]? = some s) (hrn : r.length = n.length) (h0 : 0 < r.length) :
    dotF q (rowG r) (rowG s) (r.length - 1) = dotF q (atP m i) (fun t => atP n t j) (r.length - 1) := by
  have hj : j < colsM n := by have := (List.getElem?_eq_some_iff.1 hs).1; rw [tab_len hT] at this; exact this
  refine dotF_congr _ fun t ht => ⟨?_, ?_⟩
  · have e : m.getD i [] = r := by rw [List.getD_eq_getElem?_getD, hr]; rfl
    rw [← e]; rfl
  have e : T.getD j [] = s := by rw [List.getD_eq_getElem?_getD, hs]; rfl
  rw [← e]
  exact (rowG_at T j).symm ▸ atP_tab hT hj (by omega)
set_option maxRecDepth 100000 in
set_option maxHeartbeats 8000000 in
theorem r7mul_any (a b : Option Addr) (m n : List (List RI)) (c d : Nat) (p : Int) (w : World) (hm : RowM w a m) (hn : RowM w b n) (hl : m.length ≤ 1100000) (hl2 : n.length ≤ 1100000) (hT : Tab w) :
    Calls Tryz.prog 39 #[.slice a m.length c, .slice b n.length d, .int .i64 p] w (MatE w (mulC m n p).1 (mulC m n p).2) := by
  have HM := Lib.hid hm
  have HN := Lib.hid hn
  have HT := Lib.hid hT
  obtain ⟨D, hD⟩ : ∃ D, D = mulC m n p := ⟨_, rfl⟩
  have HD := Lib.hid hD
  rw [← hD]
  clear hm hn hT hD
  go_enter Tryz.func39, Tryz.ntmps39
  go_wp2_with fail
  go_fit (r7fault_any a b m n c d p _ HM.out HN.out hl hl2)
  rintro e w1 ⟨rfl, hk2⟩
  by_cases hv : (!vlM m || !vlM n) = true
  · have HE := Lib.hid (show D = ([], 1) by rw [HD.out]; unfold mulC; rw [if_pos hv])
    rw [show faultN m n p = 1 by unfold faultN; rw [if_pos hv]]
    clear hv
    go_wp2_with fail
    rw [HE.out]
    refine bodyPost_ret (v := .tuple #[.slice none 0 0, .int .i64 1]) (by simp [results, Tryz.results39, go_sem]) rfl ?_
    exact matE_nil rfl hk2
  by_cases hp : preB p = false
  · have HE := Lib.hid (show D = ([], 2) by rw [HD.out]; unfold mulC; rw [if_neg hv, if_pos hp])
    rw [show faultN m n p = 2 by unfold faultN; rw [if_neg hv, if_pos hp]]
    clear hv hp
    go_wp2_with fail
    rw [HE.out]
    refine bodyPost_ret (v := .tuple #[.slice none 0 0, .int .i64 2]) (by simp [results, Tryz.results39, go_sem]) rfl ?_
    exact matE_nil rfl hk2
  have hvm : vlM m = true := by cases h : vlM m <;> simp_all
  have hvn : vlM n = true := by cases h : vlM n <;> simp_all
  have hp2 : preB p = true := by cases h : preB p <;> simp_all
  rw [show faultN m n p = 0 by unfold faultN; rw [if_neg hv, if_neg hp]]
  have HVM := Lib.hid hvm
  have HVN := Lib.hid hvn
  have HP := Lib.hid hp2
  clear hv hp hvm hvn hp2
  obtain ⟨r0, hr0, hc0⟩ := vlM_row0 HVM.out
  have hml := (vlM_iff.1 HVM.out).1
  have hmc := (vlM_iff.1 HVM.out).2.1
  have hnl := (vlM_iff.1 HVN.out).1
  have hnc := (vlM_iff.1 HVN.out).2.1
  obtain ⟨ba, oa, ra, rc, rfl, hrow, _⟩ := HM.out 0 r0 hr0
  rw [Nat.add_zero] at hrow
  have hi1 : (0 : Int) < (m.length : Int) := by omega
  have HC0 := Lib.hid hc0
  have g1 := hk2.cell hrow
  have hlr : r0.length ≤ 8 := by omega
  have hlm : m.length ≤ 8 := by omega
  have hln : n.length ≤ 8 := by omega
  have HML := Lib.hid (And.intro hml (And.intro hmc (And.intro hnl hnc)))
  clear hr0 hrow hc0 hml hmc hnl hnc
  by_cases hne : r0.length = n.length
  rotate_left
  · have hne1 : ((r0.length : Int) != (n.length : Int)) = true := by simpa using (by omega : ¬ (r0.length : Int) = (n.length : Int))
    have HE := Lib.hid (show D = ([], 3) by
      rw [HD.out]; unfold mulC
      rw [HVM.out, HVN.out, HP.out, if_neg (by decide), if_neg (by decide), if_pos (by have := HC0.out; omega)])
    clear hne
    go_wp2_with fail
    rw [HE.out]
    refine bodyPost_ret (v := .tuple #[.slice none 0 0, .int .i64 3]) (by simp [results, Tryz.results39, go_sem]) rfl ?_
    exact matE_nil rfl hk2
  have hne1 : ((r0.length : Int) != (n.length : Int)) = false := by rw [hne]; simp
  have HNE := Lib.hid hne
  clear hne
  obtain ⟨q, hq⟩ : ∃ q : Nat, q = p.toNat := ⟨_, rfl⟩
  have hpq : p = (q : Int) := by have := preB_iff.1 HP.out; omega
  have hq0 : 8 ≤ q := by have := preB_iff.1 HP.out; omega
  have hq1 : q ≤ 512 := by have := preB_iff.1 HP.out; omega
  obtain ⟨F, hF⟩ : ∃ F : Nat → Nat → PI, F = fun i j => dotF q (atP m i) (fun t => atP n t j) (colsM m - 1) := ⟨_, rfl⟩
  have HDm := Lib.hid (show D = (tabM m.length (colsM n) F, 0) by
    rw [HD.out]; unfold mulC
    rw [HVM.out, HVN.out, HP.out, if_neg (by decide), if_neg (by decide), if_neg (by have := HC0.out; have := HNE.out; omega), hF, ← hq]; rfl)
  have HF := Lib.hid hF
  rw [hpq]
  clear hpq hq hF
  go_wp2_with fail
  go_fit (r7trn_any b n d _ (HN.out.kp hk2) hl2 HVN.out)
  rintro e w3 ⟨aT, T, cT, rfl, rT, pT, oT, lT, k3⟩
  have hTl := tab_len pT
  have HK3 := Lib.hid (hk2.trans k3)
  obtain ⟨t0, ht0⟩ : ∃ x, T[0]? = some x := ⟨_, List.getElem?_eq_getElem (by have := HML.out; omega)⟩
  obtain ⟨bt, ot, _, _, rfl, _⟩ := rT 0 t0 ht0
  have HRT := Lib.hid (And.intro rT (And.intro pT oT))
  have hlt8 : T.length ≤ 8 := by have := HML.out; omega
  have HTL := Lib.hid hTl
  clear g1 hne1 rT pT oT lT ht0 hTl k3 hk2
  go_wp2_with fail
  go_loopg [10, 11] m.length (fun z v x wr => ∃ (R : List (List RI)) (us : List Value), R.length + z = m.length ∧ x = .int .i64 (R.length : Int) ∧ OwnM w3 wr v us R ∧ plM R = tabM R.length (colsM n) F ∧ okM R)
  case atStart => exact ⟨[], [], by simp, rfl, OwnM.nil (Kp.refl _), rfl, fun r h => by simp at h⟩
  case round =>
  obtain ⟨R, us, hRq, rfl, hO, hpl, hok⟩ := hrel
  have HH := Lib.hid (And.intro hpl hok)
  have HO := Lib.hid hO
  have hkr := hO.1
  clear hpl hok hO
  by_cases hlt : R.length < m.length
  rotate_left
  · have hRe : R.length = m.length := by omega
    obtain ⟨va, vc, rfl, hvc1, hvc2, hrm⟩ := HO.out.value
    have HRe := Lib.hid (And.intro hRe hrm)
    clear hRe hRq hrm
    go_wp2_with fail
    rw [HDm.out]
    refine bodyPost_ret (v := .tuple #[.slice va R.length vc, .int .i64 0]) (by simp [results, Tryz.results39, go_sem]) rfl ?_
    refine ⟨va, R, vc, rfl, HRe.out.2, ?_, HH.out.2, by have := HML.out; have := HRe.out.1; omega, HK3.out.trans hkr⟩
    rw [HH.out.1, HRe.out.1]
  obtain ⟨r, hr⟩ : ∃ r, m[R.length]? = some r := ⟨_, List.getElem?_eq_getElem hlt⟩
  obtain ⟨b2, o2, ra2, rc, e2, hrc, hrow, hrl⟩ := HM.out R.length r hr
  cases e2
  have HRW := Lib.hid (And.intro hr (And.intro (HK3.out.cell hrc) (And.intro (hrow.kp HK3.out) (vlM_row HVM.out hr))))
  have Hlt := Lib.hid (And.intro hlt hRq)
  have HRN := Lib.hid (show r.length = n.length ∧ 0 < r.length ∧ r.length ≤ 8 by have := (vlM_row HVM.out hr).1; have := HC0.out; have := HNE.out; have := HML.out; omega)
  clear hr hrc hrow hrl hRq
  have hk1 : (0 : Int) ≤ (R.length : Int) := by omega
  have hk2 : (R.length : Int) < (m.length : Int) := by omega
  go_wp2_with fail
  obtain ⟨gk1, hgk1⟩ : ∃ x : Nat, x = gk := ⟨_, rfl⟩
  subst hgk1
  obtain ⟨wi, hwi⟩ : ∃ x : World, x = wr := ⟨_, rfl⟩
  subst hwi
  have HKI := Lib.hid hkr
  clear hkr
  go_loopg [12, 13] T.length (fun z u x wr => ∃ cur : List RI, cur.length + z = T.length ∧ x = .int .i64 (cur.length : Int) ∧ OwnN wi wr u cur ∧ plR cur = rowF cur.length (F R.length) ∧ ∀ x ∈ cur, x.vl = true)
  case atStart => exact ⟨[], by simp, rfl, OwnN.nil (Kp.refl _), rfl, fun x h => by simp at h⟩
  case round =>
  obtain ⟨cur, hcq, rfl, hown0, hpc, hvc⟩ := hrel
  by_cases hlt2 : cur.length < T.length
  rotate_left
  · have hce : cur.length = T.length := by omega
    obtain ⟨ua, uc, rfl, huc, hum, hurow⟩ := hown0.value
    have kA := (Kp.refl wr).alloc (.cells #[.slice ua cur.length uc] 34)
    have HOA := HO.out.kp (hown0.1.trans kA)
    have hoff := OwnN.off (w' := wr.alloc (.cells #[.slice ua cur.length uc] 34)) hown0 rfl HO.out.new kA.size
    have hrowA := hurow.kp kA
    have HPC := Lib.hid (And.intro hpc (And.intro hvc hce))
    have hcl2 : cur.length ≤ 1100000 := by omega
    have hRl : R.length + 1 ≤ 9000000 := by omega
    clear hpc hvc hcq hown0 huc hum hurow kA hce
    go_wp2_with (at_builtin; refine wpList_append_rowi rfl _ _ rfl w3 _ us R rfl HOA _ _ rfl ua uc cur hrowA hoff hcl2 (by simp) hRl ?_; intro v' us' w9 hM9)
    go_roundg (gk1 - 1)
    case measure => have := Hlt.out; omega
    case rel =>
    refine ⟨R ++ [cur], us', by have := Hlt.out; rw [List.length_append, List.length_singleton]; omega, by rw [List.length_append, List.length_singleton]; go_num, hM9, ?_, okM_snoc HH.out.2 HPC.out.2.1⟩
    rw [plM_snoc, HH.out.1, List.length_append, List.length_singleton, tabM_snoc, HPC.out.1, HPC.out.2.2, HTL.out]
  obtain ⟨s, hs⟩ : ∃ y, T[cur.length]? = some y := ⟨_, List.getElem?_eq_getElem hlt2⟩
  obtain ⟨b4, o4, sa, sc, e4, hsc, hsrow, hsl⟩ := HRT.out.1 cur.length s hs
  cases e4
  have HPC := Lib.hid (And.intro hpc (And.intro hvc (And.intro hcq hlt2)))
  have hj1 : (0 : Int) ≤ (cur.length : Int) := by omega
  have hj2 : (cur.length : Int) < (T.length : Int) := by omega
  have hcl : cur.length + 1 ≤ 9000000 := by omega
  have kd := (Kp.refl wr).drew
  have kid := HKI.out.trans (hown0.1.trans kd)
  have HS := Lib.hid (show w3.cell? ⟨ba, oa + R.length, none⟩ = some (.slice ra2 r.length rc) ∧ w3.cell? ⟨bt, ot + cur.length, none⟩ = some (.slice sa s.length sc) from ⟨HRW.out.2.1, hsc⟩)
  have HSd := Lib.hid (keep2c kid HS.out)
  have hsT : s.length = n.length := by
    obtain ⟨x', h1, h2⟩ := tab_row HRT.out.2.1 (i := cur.length) (by have := HTL.out; omega)
    rw [hs] at h1; cases h1
    have := congrArg List.length h2; simpa [plR, rowF] using this
  have HZ := Lib.hid (show dotF q (rowG r) (rowG s) (r.length - 1) = F R.length cur.length by
    rw [HF.out, dot_trn HRW.out.1 HRT.out.2.1 hs HRN.out.1 HRN.out.2.1, HRW.out.2.2.2.1])
  have HC := Lib.hid (r7dot_any ra2 sa r s rc sc q wr.drew (HRW.out.2.2.1.kp kid) (hsrow.kp kid) HRW.out.2.2.2.2 (HRT.out.2.2 s (List.mem_of_getElem? hs)) HRN.out.2.1 HRN.out.2.2 (by have := HRN.out.1; omega) hq0 hq1 (HT.out.kp (HK3.out.trans kid)))
  have HW := Lib.hid (hown0.kp kd)
  have HKD := Lib.hid kid
  clear hs hsc hsrow hsl hsT hpc hvc hcq kd kid hown0
  go_upto_region 15 with fail
  have hSd := HSd.out
  go_region_held3 (fun w' => w'.cell? ⟨ba, oa + R.length, none⟩ = some (.slice ra2 r.length rc) ∧ w'.cell? ⟨bt, ot + cur.length, none⟩ = some (.slice sa s.length sc))
    (first | with_reducible assumption | with_reducible exact keep2c hkA (by assumption) | with_reducible exact keep2c (by assumption) (by assumption) | with_reducible exact keep2c ((Kp.refl _).alloc _) (by assumption) | with_reducible exact keep2c (HKI.out.trans hk9) HS.out | fail)
    (first
      | (go_at_call 89; (with_reducible refine HC.out.mono ?_); rintro e v1 ⟨z, rfl, hz, hzp, hzv, j1⟩
         have hownA := HW.out.kp (j1.alloc (.cells #[.bool z.lo.neg, .slice z.lo.a z.lo.xs.length z.lo.c, .int .i64 z.lo.e, .bool z.hi.neg, .slice z.hi.a z.hi.xs.length z.hi.c, .int .i64 z.hi.e, .bool z.all] 44))
         have hkA := OwnN.base hownA
         have hzA := hz.kp ((Kp.refl v1).alloc (.cells #[.bool z.lo.neg, .slice z.lo.a z.lo.xs.length z.lo.c, .int .i64 z.lo.e, .bool z.hi.neg, .slice z.hi.a z.hi.xs.length z.hi.c, .int .i64 z.hi.e, .bool z.all] 44))
         have ZP := Lib.hid (And.intro (hzp.trans HZ.out) hzv)
         clear hz hzp hzv)
      | (refine step_append_ivg (by rfl) _ _ (by rfl) wi _ cur (by rfl) hownA _ _ (by rfl) z hzA (by simp) hcl ?_; intro a' c' w9 hown9 hgrow hblk; have hk9 := OwnN.base hown9)
      | fail)
  go_wp2_with fail
  go_roundg (gk - 1)
  case measure => have := HPC.out.2.2; omega
  case rel =>
  refine ⟨cur ++ [z], by have := HPC.out.2.2; rw [List.length_append, List.length_singleton]; omega, by rw [List.length_append, List.length_singleton]; go_num, by simpa using hown9, ?_, ok_snoc HPC.out.2.1 ZP.out.2⟩
  rw [plR_snoc, HPC.out.1, List.length_append, List.length_singleton, rowF_snoc, ZP.out.1]
theorem r1less_any (a b : Option Addr) (xs ys : List Nat) (c d : Nat) (w : World) (h1 : Rd w a xs) (h2 : Rd w b ys) (hxl : xs.length ≤ 1100000) (hyl : ys.length ≤ 1100000) :
    Calls Tryz.prog 143 #[.slice a xs.length c, .slice b ys.length d] w fun e w' => e = .returned (.bool (decide (val xs < val ys))) ∧ Kp w w' := by
  go_enter Tryz.func143, Tryz.ntmps143
  go_wp2_with fail
  refine (r1cmp_any a b xs ys c d w h1 h2 hxl hyl).mono ?_
  rintro e w2 ⟨rfl, rfl⟩
  have H := Lib.hid (show decide (cmpN (val xs) (val ys) < 0) = decide (val xs < val ys) by
    by_cases h : val xs < val ys
    · rw [cmpN_lt h, decide_eq_true h]; rfl
    · rw [decide_eq_false h]
      unfold cmpN
      rw [if_neg h]
      split <;> rfl)
  go_wp2_with fail
  go_ret
  exact ⟨ret_bool H.out, Kp.refl _⟩
theorem or_one {z cy : Nat} (hc : cy ≤ 1) : Go.bits BinOp.or IntKind.u32 ((z : Int) * 2 % 4294967296) (cy : Int) = (((2 * z + cy) % 4294967296 : Nat) : Int) := by
  have e : (z : Int) * 2 % 4294967296 = ((z * 2 % 4294967296 : Nat) : Int) := by omega
  rw [e, u32_or_nat _ _ (by omega) (by omega), nat_join 1 _ _ (by omega) (by omega)]
  congr 1; omega
theorem double_step {zs rs : List Nat} {t c b : Nat} (hk : t < zs.length) (h : val (zs.take t) + 4294967296 ^ t * c = 2 * val (rs.take t) + b) :
    val ((zs.set t ((2 * nth rs t + c) % 4294967296)).take (t + 1)) + 4294967296 ^ (t + 1) * ((2 * nth rs t + c) / 4294967296) = 2 * val (rs.take (t + 1)) + b := by
  rw [val_take_set hk, val_take_step rs, Nat.pow_succ, Nat.mul_assoc]
  generalize 4294967296 ^ t = P at *
  have e2 : P * (2 * nth rs t + c) = 2 * (P * nth rs t) + P * c := by rw [Nat.mul_add, Nat.mul_left_comm]
  generalize 2 * nth rs t + c = s at *
  have e : P * (s % 4294967296) + P * (4294967296 * (s / 4294967296)) = P * s := by
    rw [← Nat.mul_add]; congr 1; omega
  omega
theorem or_bit {o r : Nat} (h : o / 2 ^ r % 2 = 0) : o ||| 2 ^ r = o + 2 ^ r := by
  have h1 := Nat.div_add_mod o (2 ^ r)
  have h2 := Nat.mod_lt o (two_pow_pos r)
  have h3 : 2 ^ (r + 1) * (o / 2 ^ r / 2) + o % 2 ^ r = o := by
    rw [Nat.pow_succ, Nat.mul_assoc, show 2 * (o / 2 ^ r / 2) = o / 2 ^ r by omega]; exact h1
  have h4 : 2 ^ (r + 1) * (o / 2 ^ r / 2) ||| o % 2 ^ r = o := by
    rw [nat_join (r + 1) _ _ (Nat.mul_mod_right _ _) (by rw [Nat.pow_succ]; omega)]; exact h3
  have h5 : o % 2 ^ r ||| 2 ^ r = 2 ^ r + o % 2 ^ r := by
    rw [Nat.or_comm, nat_join r _ _ (Nat.mod_self _) h2]
  conv => lhs; rw [← h4]
  rw [Nat.or_assoc, h5, nat_join (r + 1) _ _ (Nat.mul_mod_right _ _) (by rw [Nat.pow_succ]; omega)]
  omega
theorem set_bit {os : List Nat} {i Q : Nat} (h32 : Lt32 os) (hl : i / 32 < os.length) (h : val os = 2 ^ (i + 1) * Q) :
    Go.bits BinOp.or IntKind.u32 (nth os (i / 32) : Int) ((2 : Int) ^ (i % 32) % 4294967296) = ((nth os (i / 32) + 2 ^ (i % 32) : Nat) : Int) ∧ nth os (i / 32) + 2 ^ (i % 32) < 4294967296 ∧ val (os.set (i / 32) (nth os (i / 32) + 2 ^ (i % 32))) = 2 ^ (i + 1) * Q + 2 ^ i := by
  have hb : nth os (i / 32) / 2 ^ (i % 32) % 2 = 0 := by
    rw [bit_nth h32, h, Nat.pow_succ, Nat.mul_assoc, Nat.mul_div_cancel_left _ (two_pow_pos i), Nat.mul_mod_right]
  have ho := h32.nth (i / 32)
  have hr : 2 ^ (i % 32) < 2 ^ 32 := Nat.pow_lt_pow_right (by decide) (Nat.mod_lt _ (by decide))
  have hor := or_bit hb
  have hlt : nth os (i / 32) ||| 2 ^ (i % 32) < 2 ^ 32 := Nat.or_lt_two_pow ho hr
  refine ⟨?_, by rw [← hor]; exact hlt, ?_⟩
  · have e : (2 : Int) ^ (i % 32) % 4294967296 = ((2 ^ (i % 32) : Nat) : Int) := by
      rw [show (2 : Int) ^ (i % 32) = ((2 ^ (i % 32) : Nat) : Int) from by push_cast; rfl]
      have hr' : 2 ^ (i % 32) < 4294967296 := hr
      clear hor hlt hr hb
      generalize 2 ^ (i % 32) = T at *
      omega
    rw [e, u32_or_nat _ _ ho hr, hor]
  have h1 := val_set (xs := os) (x := nth os (i / 32) + 2 ^ (i % 32)) hl
  rw [Nat.mul_add, pow_split, h] at h1
  omega
theorem double_end {zs rs : List Nat} {n c b A B k : Nat} (hz : zs.length = n) (hr : rs.length = n) (h : val (zs.take n) + 4294967296 ^ n * c = 2 * val (rs.take n) + b) (hB : 2 * B ≤ 4294967296 ^ n) (h0 : 0 < B)
    (hv : val rs = A / 2 ^ (k + 1) % B) (hb : b = A / 2 ^ k % 2) : val zs = 2 * (A / 2 ^ (k + 1) % B) + A / 2 ^ k % 2 := by
  rw [List.take_of_length_le (by omega), List.take_of_length_le (by omega), hv, hb] at h
  have h1 := Nat.mod_lt (A / 2 ^ (k + 1)) h0
  have h2 : A / 2 ^ k % 2 < 2 := Nat.mod_lt _ (by decide)
  generalize 4294967296 ^ n = P at *
  rcases Nat.eq_zero_or_pos c with h3 | h3
  · subst h3; omega
  have := Nat.le_mul_of_pos_right P h3
  omega
theorem next_bit (A k : Nat) : A / 2 ^ k = 2 * (A / 2 ^ (k + 1)) + A / 2 ^ k % 2 := by
  rw [Nat.pow_succ, ← Nat.div_div_eq_div_mul]; omega
theorem bit_less {A B k z : Nat} (h0 : 0 < B) (hz : z = 2 * (A / 2 ^ (k + 1) % B) + A / 2 ^ k % 2) (h : z < B) : z = A / 2 ^ k % B ∧ 2 ^ (k + 1) * (A / 2 ^ (k + 1) / B) = 2 ^ k * (A / 2 ^ k / B) := by
  have h1 := Nat.div_add_mod (A / 2 ^ (k + 1)) B
  have h2 := next_bit A k
  have h3 := (Nat.div_mod_unique (a := A / 2 ^ k) (c := z) (d := 2 * (A / 2 ^ (k + 1) / B)) h0).2 ⟨by rw [Nat.mul_left_comm]; omega, h⟩
  rw [h3.1, h3.2, Nat.pow_succ, Nat.mul_assoc]
  exact ⟨rfl, rfl⟩
theorem bit_more {A B k z y : Nat} (h0 : 0 < B) (hz : z = 2 * (A / 2 ^ (k + 1) % B) + A / 2 ^ k % 2) (hy : y + B = z) : y = A / 2 ^ k % B ∧ 2 ^ (k + 1) * (A / 2 ^ (k + 1) / B) + 2 ^ k = 2 ^ k * (A / 2 ^ k / B) := by
  have h1 := Nat.div_add_mod (A / 2 ^ (k + 1)) B
  have h2 := next_bit A k
  have h4 := Nat.mod_lt (A / 2 ^ (k + 1)) h0
  have h3 := (Nat.div_mod_unique (a := A / 2 ^ k) (c := y) (d := 2 * (A / 2 ^ (k + 1) / B) + 1) h0).2 ⟨by rw [Nat.mul_add, Nat.mul_left_comm]; omega, by omega⟩
  rw [h3.1, h3.2, Nat.pow_succ, Nat.mul_assoc, Nat.mul_add, Nat.mul_one]
  exact ⟨rfl, rfl⟩
theorem less_fin {y z B P bo : Nat} (h4 : y < P) (hbo : bo ≤ 1) (hle : ¬ z < B) (e : y + B = z + P * bo) : y + B = z := by
  rcases (show bo = 0 ∨ bo = 1 by omega) with h | h <;> subst h <;> omega
theorem val_lt_len {yl : List Nat} {n : Nat} (h1 : yl.length = n) (h32 : Lt32 yl) : val yl < 4294967296 ^ n := by
  have h4 := val_lt h32
  rw [h1] at h4
  exact h4
theorem less_end {yl zs vs : List Nat} {n bo B : Nat} (h1 : yl.length = n + 1) (h2 : zs.length = n + 1) (h3 : vs.length = n) (h32 : Lt32 yl) (hv : val vs = B) (hbo : bo ≤ 1) (hle : ¬ val zs < B) (e : val (yl.take (n + 1)) + val (vs.take (n + 1)) = val (zs.take (n + 1)) + 4294967296 ^ (n + 1) * bo) : val yl + B = val zs := by
  rw [List.take_of_length_le (Nat.le_of_eq h1), List.take_of_length_le (by omega), List.take_of_length_le (Nat.le_of_eq h2), hv] at e
  exact less_fin (val_lt_len h1 h32) hbo hle e
theorem twice_lt {vs : List Nat} {B : Nat} (h : Lt32 vs) (hv : val vs = B) : 2 * B ≤ 4294967296 ^ (vs.length + 1) := by
  have h1 := val_lt h
  rw [hv] at h1
  rw [Nat.pow_succ]
  generalize 4294967296 ^ vs.length = P at *
  omega
def DmR (w : World) (n m : Nat) (e : Ending) (w' : World) : Prop :=
  ∃ a1 c1 a2 c2, e = .returned (.tuple #[.slice a1 (limbs (n / m)).length c1, .slice a2 (limbs (n % m)).length c2]) ∧ (limbs (n / m)).length ≤ c1 ∧ c1 ≤ maxLen ∧ (limbs (n % m)).length ≤ c2 ∧ c2 ≤ maxLen ∧
    Rd w' a1 (limbs (n / m)) ∧ Rd w' a2 (limbs (n % m)) ∧ Kp w w'
set_option maxRecDepth 100000 in
set_option maxHeartbeats 8000000 in
theorem r1divmod_any (a b : Option Addr) (xs ys : List Nat) (c d : Nat) (w : World) (hx : Rd w a xs) (hy : Rd w b ys) (hxl : xs.length ≤ 1000) (hyl : ys.length ≤ 1000) (hyc : ys.length ≤ d) (hd : d ≤ maxLen) (h0 : val ys ≠ 0) :
    Calls Tryz.prog 101 #[.slice a xs.length c, .slice b ys.length d] w (DmR w (val xs) (val ys)) := by
  go_enter Tryz.func101, Tryz.ntmps101
  go_wp2_with fail
  refine (r1trim_any b ys d w hy hyc hd (by omega)).mono ?_
  rintro e w2 ⟨a2, c2, rfl, l2, m2, rd2, k2⟩
  have hbl := limbs_len_le hy.lt32
  generalize hvs : limbs (val ys) = vs at *
  have Hvs := Lib.hid hvs
  clear hvs
  have hvl : vs.length ≤ 1000 := by omega
  have hmk := make_u32 (xs.length : Int) xs.length rfl (by omega)
  have hmk2 := make_u32 ((vs.length : Int) + 1) (vs.length + 1) (by omega) (by omega)
  go_wp2_with fail
  clear hmk hmk2
  refine (r1bits_any a xs c _ ((hx.kp k2).kp (((Kp.refl _).alloc _).alloc _)) (by omega)).mono ?_
  rintro e w3 ⟨rfl, rfl⟩
  go_wp2_with fail
  have hbx : bits (val xs) ≤ 32 * xs.length := bits_le.2 (by rw [← pow32]; exact val_lt hx.lt32)
  rw [show wrap64 ((bits (val xs) : Int) - 1) = (bits (val xs) : Int) - 1 from IntWalk.wrap64_in _ ⟨by omega, by omega⟩]
  have hk0 : Kp w2 ((w2.alloc (.cells (madeCells #[.int .u32 0] xs.length) 103)).alloc (.cells (madeCells #[.int .u32 0] (vs.length + 1)) 103)) := ((Kp.refl w2).alloc _).alloc _
  have hB0 : Blk ((w2.alloc (.cells (madeCells #[.int .u32 0] xs.length) 103)).alloc (.cells (madeCells #[.int .u32 0] (vs.length + 1)) 103)) w2.heap.size (List.replicate xs.length 0) := (Blk.made w2 xs.length).kp ((Kp.refl _).alloc _)
  have hB1 : Blk ((w2.alloc (.cells (madeCells #[.int .u32 0] xs.length) 103)).alloc (.cells (madeCells #[.int .u32 0] (vs.length + 1)) 103)) (w2.heap.size + 1) (List.replicate (vs.length + 1) 0) := by
    have := Blk.made (w2.alloc (.cells (madeCells #[.int .u32 0] xs.length) 103)) (vs.length + 1)
    rwa [World.size_alloc] at this
  have hxw := hx.kp k2
  have hvv : val vs = val ys := by rw [← Hvs.out, val_limbs]
  have Hvv := Lib.hid hvv
  have HB := Lib.hid (twice_lt rd2.lt32 hvv)
  have hpos : 0 < val ys := by omega
  generalize World.alloc _ _ = W at *
  clear hx hy hvv h0
  go_loopw [8] (fun iv wr => ∃ (k : Nat) (os rs : List Nat), k ≤ bits (val xs) ∧ iv = .int .i64 ((k : Int) - 1) ∧ os.length = xs.length ∧ rs.length = vs.length + 1 ∧ Lt32 os ∧ Lt32 rs ∧ Blk wr w2.heap.size os ∧ Blk wr (w2.heap.size + 1) rs ∧ Kp w2 wr ∧
    val rs = val xs / 2 ^ k % val ys ∧ val os = 2 ^ k * (val xs / 2 ^ k / val ys)) (fun iv _ => (intOf iv + 1).toNat)
  case atStart => 
    have hz : val xs / 2 ^ bits (val xs) = 0 := Nat.div_eq_of_lt (lt_two_pow_bits _)
    refine ⟨bits (val xs), _, _, Nat.le_refl _, rfl, by simp, by simp, .replicate _, .replicate _, hB0, hB1, hk0, ?_, ?_⟩
    · rw [hz, val_replicate, Nat.zero_mod]
    rw [hz, val_replicate, Nat.zero_div, Nat.mul_zero]
  case round =>
  obtain ⟨k, os, rs, hk, rfl, hol, hrl, ho32, hr32, hbo, hbr, hkp, hv1, hv2⟩ := hrel
  have Hv := Lib.hid (And.intro hv1 hv2)
  have Hol := Lib.hid hol
  have Hrl := Lib.hid hrl
  clear hv1 hv2 hol hrl
  rcases k with _ | i
  · rw [show (((0 : Nat) : Int) - 1) = -1 from rfl]
    have hro := hbo.rd ho32
    have hrr := hbr.rd hr32
    have To := r1trim_any (some ⟨w2.heap.size, 0, none⟩) os os.length wr hro (Nat.le_refl _) (by rw [Hol.out]; unfold maxLen; omega) (by rw [Hol.out]; omega)
    have Tr := fun W (k : Kp wr W) => r1trim_any (some ⟨w2.heap.size + 1, 0, none⟩) rs rs.length W (hrr.kp k) (Nat.le_refl _) (by rw [Hrl.out]; unfold maxLen; omega) (by rw [Hrl.out]; omega)
    rw [Hol.out] at To
    rw [Hrl.out] at Tr
    have HTo := Lib.hid To
    have HTr := Lib.hid Tr
    clear To Tr
    go_wp2_with fail
    refine HTo.out.mono ?_
    rintro e w4 ⟨a4, c4, rfl, l4, m4, rd4, k4⟩
    go_wp2_with fail
    refine (HTr.out _ k4).mono ?_
    rintro e w5 ⟨a5, c5, rfl, l5, m5, rd5, k5⟩
    have Hvf := Lib.hid (show val os = val xs / val ys ∧ val rs = val xs % val ys by
      have h1 := Hv.out
      rw [Nat.pow_zero, Nat.div_one, Nat.one_mul] at h1
      exact ⟨h1.2, h1.1⟩)
    have hk25 := (k2.trans hkp).trans (k4.trans k5)
    have rd4' := rd4.kp k5
    rw [Hvf.out.1] at l4 rd4' ⊢
    rw [Hvf.out.2] at l5 rd5 ⊢
    clear HTo HTr
    go_wp2_with fail
    refine bodyPost_ret (v := .tuple #[.slice a4 (limbs (val xs / val ys)).length c4, .slice a5 (limbs (val xs % val ys)).length c5]) (by simp [results, Tryz.results101, go_sem]) rfl ?_
    exact ⟨a4, c4, a5, c5, rfl, l4, m4, l5, m5, rd4', rd5, hk25⟩
  rw [show (((i + 1 : Nat) : Int) - 1) = (i : Int) from by omega]
  have hil : i / 32 < xs.length := by omega
  have hxr := hxw.kp hkp
  obtain ⟨b1, o1, rfl, hcx⟩ := hxr.some hil
  have hx1 := hcx (i / 32) hil
  have bx := hxr.lt32.nth (i / 32)
  clear hcx
  go_wp2_with fail
  rw [bit32 bx]
  have Hbit := Lib.hid (bit_nth hxr.lt32 i)
  have hbl : nth xs (i / 32) / 2 ^ (i % 32) % 2 ≤ 1 := by omega
  generalize nth xs (i / 32) / 2 ^ (i % 32) % 2 = bt at *
  clear hx1 bx hxr
  go_loopw [9, 10] (fun cv tv wi => ∃ (t cy : Nat) (zs : List Nat), t ≤ vs.length + 1 ∧ tv = .int .i64 t ∧ cv = .int .u32 (cy : Nat) ∧ cy ≤ 1 ∧ zs.length = vs.length + 1 ∧ Lt32 zs ∧ (∀ j, t ≤ j → nth zs j = nth rs j) ∧
    val (zs.take t) + 4294967296 ^ t * cy = 2 * val (rs.take t) + bt ∧ Blk wi w2.heap.size os ∧ Blk wi (w2.heap.size + 1) zs ∧ Kp w2 wi) (fun _ tv _ => vs.length + 1 - (intOf tv).toNat)
  case atStart => exact ⟨0, bt, rs, Nat.zero_le _, rfl, rfl, hbl, Hrl.out, hr32, fun _ _ => rfl, by simp [val], hbo, hbr, hkp⟩
  case round =>
  obtain ⟨t, cy, zs, ht, rfl, rfl, hcy, hzl, hz32, hsame, hzv, hboi, hbri, hkpi⟩ := hrel
  have Hzl := Lib.hid hzl
  have Hsm := Lib.hid hsame
  have Hzv := Lib.hid hzv
  clear hzl hsame hzv hbo hbr hkp
  by_cases hlt : t < vs.length + 1
  · have hu1 := hbri.cell (i := t) (by rw [Hzl.out]; exact hlt)
    have hu2 := hbri.frozen t
    have bz := hz32.nth t
    have hor := or_one (z := nth zs t) hcy
    have hsm' := Hsm.out t (Nat.le_refl _)
    have Hst := Lib.hid (double_step (zs := zs) (rs := rs) (t := t) (c := cy) (b := bt) (by rw [Hzl.out]; exact hlt) Hzv.out)
    rw [← hsm'] at Hst
    clear hsm'
    go_wp2_with fail
    go_roundw
    case rel =>
      refine ⟨t + 1, (2 * nth zs t + cy) / 4294967296, zs.set t ((2 * nth zs t + cy) % 4294967296), by omega, by go_num, by congr 1; omega, by omega, by simp [Hzl.out], hz32.set _ _ (by omega), fun j hj => ?_, Hst.out, ((Mod.refl _ _).set _ _).blk (by omega) hboi, hbri.set _ _, hkpi.set (by omega) _⟩
      rw [nth_set_ne (by omega)]
      exact Hsm.out j (by omega)
    all_goals (simp [intOf]; try omega)
  have hte : t = vs.length + 1 := by omega
  have Hde := Lib.hid (double_end (zs := zs) (rs := rs) (n := vs.length + 1) (c := cy) (b := bt) (A := val xs) (B := val ys) (k := i) Hzl.out Hrl.out (by rw [← hte]; exact Hzv.out) HB.out hpos Hv.out.1 Hbit.out)
  have hls := r1less_any (some ⟨w2.heap.size + 1, 0, none⟩) a2 zs vs zs.length c2 wr (hbri.rd hz32) (rd2.kp hkpi) (by rw [Hzl.out]; omega) (by omega)
  rw [Hzl.out, Hvv.out] at hls
  have HL := Lib.hid hls
  clear hls hte
  go_wp2_with fail
  refine HL.out.mono ?_
  rintro e w6 ⟨rfl, hk6⟩
  have hbo6 := hboi.kp hk6
  have hbr6 := hbri.kp hk6
  have hkp6 := hkpi.trans hk6
  clear hboi hbri hkpi hk6 HL
  by_cases hless : val zs < val ys
  · rw [decide_eq_true hless]
    have Hbl := Lib.hid (bit_less hpos Hde.out hless)
    clear hless
    go_wp2_with fail
    go_roundw
    case rel => exact ⟨i, os, zs, by omega, rfl, Hol.out, Hzl.out, ho32, hz32, hbo6, hbr6, hkp6, Hbl.out.1, by rw [Hv.out.2]; exact Hbl.out.2⟩
    all_goals (simp [intOf]; try omega)
  rw [decide_eq_false hless]
  have Hle := Lib.hid hless
  clear hless
  go_wp2_with fail
  go_loopw [12, 13] (fun bv tv wi => ∃ (t bo : Nat) (yl : List Nat), t ≤ vs.length + 1 ∧ tv = .int .i64 t ∧ bv = .int .u64 (bo : Nat) ∧ bo ≤ 1 ∧ yl.length = vs.length + 1 ∧ Lt32 yl ∧ (∀ j, t ≤ j → nth yl j = nth zs j) ∧
    val (yl.take t) + val (vs.take t) = val (zs.take t) + 4294967296 ^ t * bo ∧ Blk wi w2.heap.size os ∧ Blk wi (w2.heap.size + 1) yl ∧ Kp w2 wi) (fun _ tv _ => vs.length + 1 - (intOf tv).toNat)
  case atStart => exact ⟨0, 0, zs, Nat.zero_le _, rfl, rfl, by decide, Hzl.out, hz32, fun _ _ => rfl, by simp [val], hbo6, hbr6, hkp6⟩
  case round =>
  obtain ⟨t2, bo, yl, ht2, rfl, rfl, hbo1, hyl2, hy32, hsame2, hyv, hboj, hbrj, hkpj⟩ := hrel
  have Hyl2 := Lib.hid hyl2
  have Hsm2 := Lib.hid hsame2
  have Hyv := Lib.hid hyv
  clear hyl2 hsame2 hyv hbo6 hbr6 hkp6
  by_cases hlt2 : t2 < vs.length + 1
  rotate_left
  · have hte : t2 = vs.length + 1 := by omega
    have hq1 := hboj.cell (i := i / 32) (by rw [Hol.out]; exact hil)
    have hq2 := hboj.frozen (i / 32)
    have l1 : (0 : Int) ≤ (i : Int) / 32 := by omega
    have l2 : (i : Int) / 32 < (xs.length : Int) := by omega
    have l3 : ((i : Int) / 32).toNat = i / 32 := by omega
    have l4 : (0 : Int) ≤ (i : Int) % 32 := by omega
    have l5 : (i : Int) % 32 < 32 := by omega
    have l6 : ((i : Int) % 32).toNat = i % 32 := by omega
    have hyb : val yl + val ys = val zs := less_end Hyl2.out Hzl.out rfl hy32 Hvv.out hbo1 Hle.out (by rw [← hte]; exact Hyv.out)
    have Hbm := Lib.hid (bit_more hpos Hde.out hyb)
    have Hsb := Lib.hid (set_bit (Q := val xs / 2 ^ (i + 1) / val ys) ho32 (by rw [Hol.out]; exact hil) Hv.out.2)
    clear hyb hte
    go_wp2_with fail
    go_region
    clear l1 l2 l3 l4 l5 l6
    go_wp2_with fail
    obtain ⟨f1, f2, f3⟩ := Hsb.out
    go_roundw
    case rel =>
      refine ⟨i, os.set (i / 32) (nth os (i / 32) + 2 ^ (i % 32)), yl, by omega, rfl, by simp [Hol.out], Hyl2.out, ho32.set _ _ f2, hy32, (hboj.put f1).kp (Kp.refl _).drew, (((Mod.refl _ _).set _ _).blk (by omega) hbrj).kp (Kp.refl _).drew, (hkpj.set (Nat.le_refl _) _).drew, Hbm.out.1, ?_⟩
      rw [f3]; exact Hbm.out.2
    all_goals (simp [intOf]; try omega)
  have hu1 := hbrj.cell (i := t2) (by rw [Hyl2.out]; exact hlt2)
  have bz2 := hy32.nth t2
  have by2 := rd2.lt32.nth t2
  have HAt := Lib.hid (fun n => show Calls Tryz.prog 144 #[.slice a2 vs.length c2, .int .i64 (t2 : Nat)] (wr.drewN n) (fun e w' => e = .returned (.int .u64 (nth vs t2 : Nat)) ∧ w' = wr.drewN n) from
    (r1at_any a2 vs c2 t2 (wr.drewN n) ((rd2.kp hkpj).kp ((Kp.refl wr).drewN n))).mono fun e w' ⟨h1, h2⟩ => ⟨h1, h2.symm⟩)
  have e1 : IntKind.u64.wrap ((nth yl t2 : Int) + 4294967296) = (nth yl t2 : Int) + 4294967296 := by rw [IntKind.wrap_u64]; exact Int.emod_eq_of_lt (by omega) (by omega)
  have e2 : IntKind.u64.wrap ((nth yl t2 : Int) + 4294967296 - (nth vs t2 : Int)) = (nth yl t2 : Int) + 4294967296 - (nth vs t2 : Int) := by rw [IntKind.wrap_u64]; exact Int.emod_eq_of_lt (by omega) (by omega)
  have e3 : IntKind.u64.wrap ((nth yl t2 : Int) + 4294967296 - (nth vs t2 : Int) - (bo : Int)) = (nth yl t2 : Int) + 4294967296 - (nth vs t2 : Int) - (bo : Int) := by rw [IntKind.wrap_u64]; exact Int.emod_eq_of_lt (by omega) (by omega)
  have l1 : (t2 : Int) < (vs.length : Int) + 1 := by omega
  have l2 : (0 : Int) ≤ (t2 : Int) := by omega
  go_wp2_with fail
  go_quiet ((go_at_call 144; exact Calls.quiet_of_same (HAt.out _)))
  clear e1 e2 e3 l1 l2
  have hkd := (Kp.refl wr).drewN nq
  have hbok := hboj.kp hkd
  have hbrk := hbrj.kp hkd
  have hkpk := hkpj.trans hkd
  have hu2 := hbrk.frozen t2
  have hu3 := hbrk.cell (i := t2) (by rw [Hyl2.out]; exact hlt2)
  clear hboj hbrj hkpj hkd hu1
  generalize wr.drewN nq = W2 at *
  go_wp2_with fail
  go_roundw
  case rel =>
    have hcl := and_lowI (x := (nth yl t2 : Int) + 4294967296 - (nth vs t2 : Int) - (bo : Int)) (s := nth yl t2 + 4294967296 - (bo + nth vs t2)) (by omega) (by omega)
    have hsm' := Hsm2.out t2 (Nat.le_refl _)
    refine ⟨t2 + 1, 1 - (nth yl t2 + 4294967296 - (bo + nth vs t2)) / 4294967296, yl.set t2 ((nth yl t2 + 4294967296 - (bo + nth vs t2)) % 4294967296), by omega, by go_num, by congr 1; omega, by omega, by simp [Hyl2.out], hy32.set _ _ (Nat.mod_lt _ (by decide)), fun j hj => ?_, ?_, ((Mod.refl _ _).set _ _).blk (by omega) hbok, hbrk.put hcl, hkpk.set (by omega) _⟩
    · rw [nth_set_ne (by omega)]
      exact Hsm2.out j (by omega)
    exact sub_step (by rw [Hyl2.out]; exact hlt2) Hyv.out (by rw [← hsm']; omega)
  all_goals (simp [intOf]; try omega)
end Go.Proofs.YtpocjagbhiahdaaGreatDoor
