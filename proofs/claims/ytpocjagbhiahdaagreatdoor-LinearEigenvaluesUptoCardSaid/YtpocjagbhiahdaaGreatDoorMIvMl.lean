/-
  Walks: interval.Mul of valid intervals.
-/
import Derived.Test.YtpocjagbhiahdaaGreatDoorMIvF4
import Derived.Deep.DeepFit
import Derived.Laws.EntriesVeiled
import Derived.Test.YtpocjagbhiahdaaGreatDoorMRoC
import Derived.Test.YtpocjagbhiahdaaGreatDoorMRoAdd
import Derived.Test.YtpocjagbhiahdaaGreatDoorMIdxI
namespace Go.Proofs.YtpocjagbhiahdaaGreatDoor
open Go.RowKit
set_option maxRecDepth 100000 in
set_option maxHeartbeats 8000000 in
theorem IMul_any (x y : RI) (p : Nat) (w : World) (hx : x.rd w) (hy : y.rd w) (vx : x.vl = true) (vy : y.vl = true) (h0 : 8 ≤ p) (h1 : p ≤ 512) (hT : Tab w) :
    Calls Tryz.prog 127 #[.agg #[.bool x.lo.neg, .slice x.lo.a x.lo.xs.length x.lo.c, .int .i64 x.lo.e, .bool x.hi.neg, .slice x.hi.a x.hi.xs.length x.hi.c, .int .i64 x.hi.e, .bool x.all], .agg #[.bool y.lo.neg, .slice y.lo.a y.lo.xs.length y.lo.c, .int .i64 y.lo.e, .bool y.hi.neg, .slice y.hi.a y.hi.xs.length y.hi.c, .int .i64 y.hi.e, .bool y.all], .int .i64 p] w (IvOut w (pMul x.pl y.pl p)) := by
  have Hp := Lib.hid (show preB (p : Int) = true from preB_iff.2 ⟨by omega, by omega⟩)
  go_enter Tryz.func127, Tryz.ntmps127
  go_wp2_with fail
  generalize hW3 : (((w.alloc _).alloc _).alloc _) = W3 at *
  have hk3 : Kp w W3 := hW3 ▸ (((Kp.refl w).alloc _).alloc _).alloc _
  have hS3 : (W3.cell? ⟨w.heap.size, 0, none⟩ = some (.bool x.lo.neg) ∧ W3.cell? ⟨w.heap.size, 1, none⟩ = some (.slice x.lo.a x.lo.xs.length x.lo.c) ∧ W3.cell? ⟨w.heap.size, 2, none⟩ = some (.int .i64 x.lo.e) ∧ W3.cell? ⟨w.heap.size, 3, none⟩ = some (.bool x.hi.neg) ∧ W3.cell? ⟨w.heap.size, 4, none⟩ = some (.slice x.hi.a x.hi.xs.length x.hi.c) ∧ W3.cell? ⟨w.heap.size, 5, none⟩ = some (.int .i64 x.hi.e) ∧ W3.cell? ⟨w.heap.size, 6, none⟩ = some (.bool x.all)) ∧ W3.cell? ⟨w.heap.size + 1, 0, none⟩ = some (.bool y.lo.neg) ∧ W3.cell? ⟨w.heap.size + 1, 1, none⟩ = some (.slice y.lo.a y.lo.xs.length y.lo.c) ∧ W3.cell? ⟨w.heap.size + 1, 2, none⟩ = some (.int .i64 y.lo.e) ∧ W3.cell? ⟨w.heap.size + 1, 3, none⟩ = some (.bool y.hi.neg) ∧ W3.cell? ⟨w.heap.size + 1, 4, none⟩ = some (.slice y.hi.a y.hi.xs.length y.hi.c) ∧ W3.cell? ⟨w.heap.size + 1, 5, none⟩ = some (.int .i64 y.hi.e) ∧ W3.cell? ⟨w.heap.size + 1, 6, none⟩ = some (.bool y.all) := by rw [← hW3]; exact keep77 ((Kp.refl _).alloc _) (by simp)
  have hV3 : Var7 W3 (w.heap.size + 1 + 1) := hW3 ▸ Var7.new2 _ _ _ _
  have hsz : W3.heap.size = w.heap.size + 1 + 1 + 1 := by rw [← hW3]; simp
  have hR := rowI_twoR W3 x y (hx.kp hk3) (hy.kp hk3) 44
  rw [hsz] at hR
  have hk4 := (Kp.refl W3).alloc (.cells #[.bool x.lo.neg, .slice x.lo.a x.lo.xs.length x.lo.c, .int .i64 x.lo.e, .bool x.hi.neg, .slice x.hi.a x.hi.xs.length x.hi.c, .int .i64 x.hi.e, .bool x.all, .bool y.lo.neg, .slice y.lo.a y.lo.xs.length y.lo.c, .int .i64 y.lo.e, .bool y.hi.neg, .slice y.hi.a y.hi.xs.length y.hi.c, .int .i64 y.hi.e, .bool y.all] 44)
  generalize hW : W3.alloc _ = W at *
  have hS := keep77 hk4 hS3
  have hV := hV3.kp hk4
  have hk := hk3.trans hk4
  clear hW hW3 hS3 hV3 hk3 hk4 hsz
  refine (known_any _ [x, y] 2 _ hR (by simp)).mono ?_
  rintro e w1 ⟨rfl, hk1⟩
  have hS1 := keep77 hk1 hS
  have hV1 := hV.kp hk1
  have hk2 := (hk.trans hk1)
  have hT1 := hT.kp hk2
  have hx1 := hx.kp hk2
  have hy1 := hy.kp hk2
  clear hR hS hV hk hk1
  cases ha : x.all || y.all with
  | true =>
    have hg : [x, y].all goodI = false := by
      simp only [List.all_cons, List.all_nil, Bool.and_true]
      rw [goodI_vl vx, goodI_vl vy]
      cases hxa : x.all <;> cases hya : y.all <;> simp_all
    have HP := Lib.hid (show pMul x.pl y.pl p = .whole by unfold pMul; rw [if_pos (by exact ha)])
    rw [hg]
    clear hg ha hS1
    go_wp2_with fail
    refine (Whole_any _).mono ?_
    rintro e w2 ⟨rfl, hk3⟩
    have hk4 := hk2.trans hk3
    obtain ⟨⟨q0, q1, q2, q3, q4, q5, q6⟩, f0, f1, f2, f3, f4, f5, f6⟩ := hV1.kp hk3
    go_wp2_with fail
    generalize hW9 : ((((((w2.setCell _ _).setCell _ _).setCell _ _).setCell _ _).setCell _ _).setCell _ _).setCell _ _ = W9
    obtain ⟨⟨s0, s1, s2, s3, s4, s5, s6⟩, hU⟩ := stored7 (show Box7 w2 _ _ _ _ _ _ _ _ from ⟨q0, q1, q2, q3, q4, q5, q6⟩) (fun _ h => by cases h) (fun _ h => by cases h) (fun _ h => by cases h) (fun _ h => by cases h) (fun _ h => by cases h) (fun _ h => by cases h) (fun _ h => by cases h) _ _ _ _ _ _ _ hW9
    clear hW9 q0 q1 q2 q3 q4 q5 q6 f0 f1 f2 f3 f4 f5 f6
    refine bodyPost_ret (v := .agg #[.bool false, .slice none 0 0, .int .i64 0, .bool false, .slice none 0 0, .int .i64 0, .bool true]) (by simp [results, Tryz.results127, go_sem, s0, s1, s2, s3, s4, s5, s6]) rfl ?_
    rw [HP.out]
    exact ⟨wholeR, rfl, wholeR_rd _, rfl, rfl, hU.2.2.1 _ hk4 (by omega)⟩
  | false =>
  have hax : x.all = false := by cases hxa : x.all <;> simp_all
  have hay : y.all = false := by cases hya : y.all <;> simp_all
  have ox := ok_of hx1 vx hax
  have oy := ok_of hy1 vy hay
  have hg : [x, y].all goodI = true := by simp [(goodI_ok ox.1).2 ox, (goodI_ok oy.1).2 oy]
  have HP := Lib.hid (show pMul x.pl y.pl p = fourP (opP p) (restP x y 0) none by unfold pMul; rw [if_neg (by show ¬ (x.all || y.all) = true; rw [ha]; decide)]; rfl)
  have C1 := Lib.hid (fun (W : World) (k : Kp w1 W) => four_any x y p W (ox.kp k) (oy.kp k) h0 h1 (hT1.kp k))
  rw [hax, hay] at hS1
  rw [hg]
  clear hg ha hax hay ox oy hx1 hy1
  go_wp2_with fail
  go_fit (permitted_any (p : Int) _)
  rintro e w2 ⟨rfl, rfl⟩
  rw [Hp.out]
  obtain ⟨⟨s0, s1, s2, s3, s4, s5, s6⟩, t0, t1, t2, t3, t4, t5, t6⟩ := id hS1
  go_wp2_with fail
  go_fit (C1.out _ (.refl _))
  rintro e w5 ⟨Z, rfl, R3, Zp, Zv, k5⟩
  have R3 := Lib.hid R3
  have Zpv := Lib.hid (And.intro Zp Zv)
  have hk5 := hk2.trans k5
  obtain ⟨⟨q0, q1, q2, q3, q4, q5, q6⟩, f0, f1, f2, f3, f4, f5, f6⟩ := hV1.kp k5
  clear Zp Zv hS1 s0 s1 s2 s3 s4 s5 s6 t0 t1 t2 t3 t4 t5 t6
  go_wp2_with fail
  generalize hW9 : ((((((w5.setCell _ _).setCell _ _).setCell _ _).setCell _ _).setCell _ _).setCell _ _).setCell _ _ = W9
  obtain ⟨⟨s0, s1, s2, s3, s4, s5, s6⟩, hU⟩ := stored7 (show Box7 w5 _ _ _ _ _ _ _ _ from ⟨q0, q1, q2, q3, q4, q5, q6⟩) (fun _ h => by cases h) (fun _ h => by cases h) (fun _ h => by cases h) (fun _ h => by cases h) (fun _ h => by cases h) (fun _ h => by cases h) (fun _ h => by cases h) _ _ _ _ _ _ _ hW9
  clear hW9 q0 q1 q2 q3 q4 q5 q6 f0 f1 f2 f3 f4 f5 f6
  refine bodyPost_ret (v := .agg #[.bool Z.lo.neg, .slice Z.lo.a Z.lo.xs.length Z.lo.c, .int .i64 Z.lo.e, .bool Z.hi.neg, .slice Z.hi.a Z.hi.xs.length Z.hi.c, .int .i64 Z.hi.e, .bool Z.all]) (by simp [results, Tryz.results127, go_sem, s0, s1, s2, s3, s4, s5, s6]) rfl ?_
  rw [HP.out]
  exact ⟨Z, rfl, hU.rdI R3.out, Zpv.out.1, Zpv.out.2, hU.2.2.1 _ hk5 (by omega)⟩
theorem mprecise_any (p : Int) (w : World) :
    Calls Tryz.prog 80 #[.int .i64 p] w fun e w' => e = .returned (.bool (preB p)) ∧ w = w' := by
  by_cases h1 : 8 ≤ p
  rotate_left
  · have H := Lib.hid (show preB p = false from decide_eq_false (by omega))
    go_enter Tryz.func80, Tryz.ntmps80
    go_wp2_with fail
    go_ret
    exact ⟨ret_bool (by first | exact H.out.symm | (rw [H.out]; simp; omega)), rfl⟩
  by_cases h2 : p ≤ 512
  · have H := Lib.hid (show preB p = true from decide_eq_true ⟨h1, h2⟩)
    go_enter Tryz.func80, Tryz.ntmps80
    go_wp2_with fail
    go_ret
    exact ⟨ret_bool (by first | exact H.out.symm | (rw [H.out]; simp; omega)), rfl⟩
  have H := Lib.hid (show preB p = false from decide_eq_false (by omega))
  go_enter Tryz.func80, Tryz.ntmps80
  go_wp2_with fail
  go_ret
  exact ⟨ret_bool (by first | exact H.out.symm | (rw [H.out]; simp; omega)), rfl⟩
theorem enters_IValid : Enters Tryz.prog 58 := fun _ _ => by kernel_rfl
theorem storeF (a : Addr) (f : Fn) (ts cap : Array Value) (m : Mode) (w : World) : (store a (.func f ts cap) m).run Tryz.prog w = Go.stored Tryz.prog w a (.func f ts cap) m := run_store _ w a _ m rfl
set_option maxHeartbeats 2000000 in
theorem rect11_any (x : RI) (b : Nat) (w : World) (hx : x.rd w) (hf : w.cell? ⟨b, 0, none⟩ = some (.func (.func 58) #[] #[])) :
    Calls Tryz.prog 171 #[.agg #[.bool x.lo.neg, .slice x.lo.a x.lo.xs.length x.lo.c, .int .i64 x.lo.e, .bool x.hi.neg, .slice x.hi.a x.hi.xs.length x.hi.c, .int .i64 x.hi.e, .bool x.all], .pointer (some ⟨b, 0, none⟩)] w fun e w' => e = .returned (.bool (!x.vl)) ∧ Kp w w' := by
  have hgo : ∀ args w, (callFunc 58 args).run Tryz.prog w = .ok (.enter 58 args) w := enters_IValid
  have k1 := (Kp.refl w).alloc (.cells #[.bool x.lo.neg, .slice x.lo.a x.lo.xs.length x.lo.c, .int .i64 x.lo.e, .bool x.hi.neg, .slice x.hi.a x.hi.xs.length x.hi.c, .int .i64 x.hi.e, .bool x.all] 44)
  have hf1 := k1.cell hf
  have hlt := World.block_lt_of_cell? w _ hf
  clear hf
  go_enter Tryz.func171, Tryz.ntmps171
  go_wp2_with fail
  go_fit (IValid_raw x _ (hx.kp k1))
  rintro e w1 ⟨rfl, k2⟩
  cases hv : x.vl with
  | false =>
    go_wp2_with fail
    go_ret
    exact ⟨ret_bool (by rw [hv]; rfl), k1.trans k2⟩
  | true =>
  go_wp2_with fail
  go_ret
  exact ⟨ret_bool (by rw [hv]; rfl), k1.trans k2⟩
def badR (m : List (List RI)) (r : List RI) : Bool := decide (r.length ≠ colsM m) || r.any fun x => !x.vl
theorem vlM_any (m : List (List RI)) : vlM m = (decide (1 ≤ m.length ∧ m.length ≤ 8) && (decide (1 ≤ colsM m ∧ colsM m ≤ 8) && !m.any (badR m))) := by
  unfold vlM
  congr 2
  rw [List.not_any_eq_all_not]
  congr 1
  funext r
  unfold badR
  rw [Bool.not_or, List.not_any_eq_all_not]
  simp
set_option maxHeartbeats 4000000 in
theorem rect1_any (m : List (List RI)) (r : List RI) (a ra : Option Addr) (c rc bm bo : Nat) (w : World) (hm : RowM w a m) (hm0 : 0 < m.length) (hl : m.length ≤ 1100000) (hr : RowI w ra r) (hrl : r.length ≤ 1100000)
    (h1 : w.cell? ⟨bm, 0, none⟩ = some (.slice a m.length c)) (h2 : w.cell? ⟨bo, 0, none⟩ = some (.func (.func 58) #[] #[])) :
    Calls Tryz.prog 170 #[.slice ra r.length rc, .pointer (some ⟨bm, 0, none⟩), .pointer (some ⟨bo, 0, none⟩)] w fun e w' => e = .returned (.bool (badR m r)) ∧ Kp w w' := by
  obtain ⟨r0, h0⟩ : ∃ r0, m[0]? = some r0 := ⟨_, List.getElem?_eq_getElem hm0⟩
  have hc0 : colsM m = r0.length := by
    unfold colsM
    cases m with
    | nil => simp at hm0
    | cons x t => simp at h0; subst h0; rfl
  obtain ⟨b, o, ra0, rc0, rfl, hcell, _, hl0⟩ := hm 0 r0 h0
  rw [Nat.add_zero] at hcell
  have HB := Lib.hid (show badR m r = (decide (r.length ≠ r0.length) || r.any fun x => !x.vl) by unfold badR; rw [hc0])
  have hp : AnsI Tryz.prog 171 #[.pointer (some ⟨bo, 0, none⟩)] w r (fun x => !x.vl) := ⟨fun _ _ => by kernel_rfl, fun x hx w1 k => rect11_any x bo w1 ((hr.rdI hx).kp k) (k.cell h2)⟩
  have hcn := containsI ra r rc _ _ w _ hrl hr hp
  have HC := Lib.hid hcn
  have hi0 : (0 : Int) < (m.length : Int) := by omega
  clear hm hm0 hc0 h0 hp hcn hr
  by_cases hlen : r.length = r0.length
  rotate_left
  · have hne : ((r.length : Int) != (r0.length : Int)) = true := by simpa using (by omega : ¬ (r.length : Int) = (r0.length : Int))
    have HB2 := Lib.hid (show badR m r = true by rw [HB.out, decide_eq_true (by simpa using hlen)]; rfl)
    clear hlen HB
    go_enter Tryz.func170, Tryz.ntmps170
    go_wp2_with fail
    go_ret
    exact ⟨ret_bool HB2.out.symm, .refl _⟩
  have hne : ((r.length : Int) != (r0.length : Int)) = false := by rw [hlen]; simp
  have HB2 := Lib.hid (show badR m r = r.any (fun x => !x.vl) by rw [HB.out, decide_eq_false (by simpa using hlen)]; rfl)
  clear hlen HB
  go_enter Tryz.func170, Tryz.ntmps170
  go_wp2_with fail
  go_fit HC.out
  rintro e w1 ⟨rfl, k1⟩
  go_wp2_with fail
  go_ret
  exact ⟨ret_bool HB2.out.symm, k1⟩
set_option maxHeartbeats 4000000 in
theorem rect_any (a : Option Addr) (m : List (List RI)) (c : Nat) (w : World) (hm : RowM w a m) (hl : m.length ≤ 1100000) :
    Calls Tryz.prog 126 #[.slice a m.length c, .func (.func 58) #[] #[]] w fun e w' => e = .returned (.bool (vlM m)) ∧ Kp w w' := by
  have HV := Lib.hid (vlM_any m)
  have hsf := storeF
  rcases Nat.eq_zero_or_pos m.length with hz | hpos
  · have H := Lib.hid (show vlM m = false by rw [HV.out, hz]; rfl)
    rw [hz]
    clear hz HV
    go_enter Tryz.func126, Tryz.ntmps126
    go_wp2_with fail
    go_ret
    exact ⟨ret_bool H.out.symm, ((Kp.refl w).alloc _).alloc _⟩
  have hn1 : ¬ (m.length : Int) < 1 := by omega
  by_cases h8 : 8 < m.length
  · have H := Lib.hid (show vlM m = false by rw [HV.out, decide_eq_false (by omega)]; rfl)
    have hn2 : (8 : Int) < (m.length : Int) := by omega
    clear h8 HV hpos
    go_enter Tryz.func126, Tryz.ntmps126
    go_wp2_with fail
    go_ret
    exact ⟨ret_bool H.out.symm, ((Kp.refl w).alloc _).alloc _⟩
  have hn2 : ¬ (8 : Int) < (m.length : Int) := by omega
  have hn3 : (0 : Int) < (m.length : Int) := by omega
  obtain ⟨r0, h0⟩ : ∃ r0, m[0]? = some r0 := ⟨_, List.getElem?_eq_getElem hpos⟩
  have hc0 : colsM m = r0.length := by
    unfold colsM
    cases m with
    | nil => simp at hpos
    | cons x t => simp at h0; subst h0; rfl
  obtain ⟨b, o, ra0, rc0, rfl, hcell, _, hl0⟩ := hm 0 r0 h0
  rw [Nat.add_zero] at hcell
  have HV1 := Lib.hid (show vlM m = (decide (1 ≤ r0.length ∧ r0.length ≤ 8) && !m.any (badR m)) by rw [HV.out, hc0, decide_eq_true (by omega)]; rfl)
  have hk2 := ((Kp.refl w).alloc (.cells #[.slice (some ⟨b, o, none⟩) m.length c] 25)).alloc (.cells #[.func (.func 58) #[] #[]] 57)
  have hcl := hk2.cell hcell
  have hlt := World.block_lt_of_cell? w _ hcell
  by_cases hz : r0.length = 0
  · have H := Lib.hid (show vlM m = false by rw [HV1.out, decide_eq_false (by omega)]; rfl)
    have g1 : (r0.length : Int) < 1 := by omega
    clear HV HV1 h0 hc0 hm hpos h8 hz
    go_enter Tryz.func126, Tryz.ntmps126
    go_wp2_with fail
    go_ret
    exact ⟨ret_bool H.out.symm, ((Kp.refl w).alloc _).alloc _⟩
  have g1 : ¬ (r0.length : Int) < 1 := by omega
  by_cases h9 : 8 < r0.length
  · have H := Lib.hid (show vlM m = false by rw [HV1.out, decide_eq_false (by omega)]; rfl)
    have g2 : (8 : Int) < (r0.length : Int) := by omega
    clear HV HV1 h0 hc0 hm hpos h8 hz h9
    go_enter Tryz.func126, Tryz.ntmps126
    go_wp2_with fail
    go_ret
    exact ⟨ret_bool H.out.symm, ((Kp.refl w).alloc _).alloc _⟩
  have g2 : ¬ (8 : Int) < (r0.length : Int) := by omega
  have H := Lib.hid (show vlM m = !m.any (badR m) by rw [HV1.out, decide_eq_true (by omega)]; rfl)
  have HM := Lib.hid hm
  have Hpos := Lib.hid hpos
  clear HV HV1 h0 hc0 hpos h8 hz h9 hm
  go_enter Tryz.func126, Tryz.ntmps126
  go_wp2_with fail
  have hA : AnsR Tryz.prog 170 #[.pointer (some ⟨w.heap.size, 0, none⟩), .pointer (some ⟨w.heap.size + 1, 0, none⟩)] ((w.alloc (.cells #[.slice (some ⟨b, o, none⟩) m.length c] 25)).alloc (.cells #[.func (.func 58) #[] #[]] 57)) m (badR m) := ⟨fun _ _ => by kernel_rfl, fun r hr ra rc w1 k hrow => rect1_any m r _ ra c rc _ _ w1 ((HM.out.kp hk2).kp k) Hpos.out hl hrow.1 hrow.2 (k.cell (by simp)) (k.cell (by simp))⟩
  go_fit (containsR _ m c _ _ _ (badR m) hl (HM.out.kp hk2) hA)
  rintro e w1 ⟨rfl, k1⟩
  go_wp2_with fail
  go_ret
  exact ⟨ret_bool H.out.symm, hk2.trans k1⟩
set_option maxHeartbeats 1000000 in
theorem mvalid_any (a : Option Addr) (m : List (List RI)) (c : Nat) (w : World) (hm : RowM w a m) (hl : m.length ≤ 1100000) :
    Calls Tryz.prog 79 #[.slice a m.length c] w fun e w' => e = .returned (.bool (vlM m)) ∧ Kp w w' := by
  have H := Lib.hid (rect_any a m c w hm hl)
  clear hm
  go_enter Tryz.func79, Tryz.ntmps79
  go_wp2_with fail
  go_fit H.out
  rintro e w1 ⟨rfl, k1⟩
  go_wp2_with fail
  go_ret
  exact ⟨rfl, k1⟩
end Go.Proofs.YtpocjagbhiahdaaGreatDoor
