/-
  Walks: tree.Same, ref13.Same.
-/
import Derived.Test.YthaphbbeiglolaaGreatMSamR
import Derived.Test.YthaphbbeiglolaaGreatMDeqN
namespace Go.Proofs.YthaphbbeiglolaaGreat
open Go.RowKit Go.Sort

/-- Same's answer -/
def sameO (a b : Pr) : Bool := probB a && (probB b && peqB a b)
set_option maxHeartbeats 8000000 in
set_option maxRecDepth 100000 in
theorem tsame_any (a b : Pr) (w : World) (B : Nat) (ha : a.at w B) (hb : b.at w B) (hB : B ≤ w.heap.size) : Calls Tryz.prog 12 #[.agg #[.slice a.sa a.ss.length a.sc, .slice a.pa a.ps.length a.pc, .slice a.ma a.ms.length a.mc, .int .i64 a.tn, .int .i64 a.td], .agg #[.slice b.sa b.ss.length b.sc, .slice b.pa b.ps.length b.pc, .slice b.ma b.ms.length b.mc, .int .i64 b.tn, .int .i64 b.td]] w fun e w' => e = .returned (.bool (sameO a b)) ∧ Kp w w' := by
  have hd : sameO a b = (probB a && (probB b && peqB a b)) := rfl
  generalize sameO a b = b0 at *
  have k1 : Kp w ((w.alloc (.cells #[.slice a.sa a.ss.length a.sc, .slice a.pa a.ps.length a.pc, .slice a.ma a.ms.length a.mc, .int .i64 a.tn, .int .i64 a.td] 30)).alloc (.cells #[.slice b.sa b.ss.length b.sc, .slice b.pa b.ps.length b.pc, .slice b.ma b.ms.length b.mc, .int .i64 b.tn, .int .i64 b.td] 30)) := ((Kp.refl w).alloc _).alloc _
  have h0 : CellsV ((w.alloc (.cells #[.slice a.sa a.ss.length a.sc, .slice a.pa a.ps.length a.pc, .slice a.ma a.ms.length a.mc, .int .i64 a.tn, .int .i64 a.td] 30)).alloc (.cells #[.slice b.sa b.ss.length b.sc, .slice b.pa b.ps.length b.pc, .slice b.ma b.ms.length b.mc, .int .i64 b.tn, .int .i64 b.td] 30)) w.heap.size 0 a.cells := (CellsV.new w a.cells _ _ rfl).kp ((Kp.refl _).alloc _)
  have h1 : CellsV ((w.alloc (.cells #[.slice a.sa a.ss.length a.sc, .slice a.pa a.ps.length a.pc, .slice a.ma a.ms.length a.mc, .int .i64 a.tn, .int .i64 a.td] 30)).alloc (.cells #[.slice b.sa b.ss.length b.sc, .slice b.pa b.ps.length b.pc, .slice b.ma b.ms.length b.mc, .int .i64 b.tn, .int .i64 b.td] 30)) (w.heap.size + 1) 0 b.cells := CellsV.new _ b.cells _ _ (by simp)
  have hsf := store_fn
  go_enter Tryz.func12, Tryz.ntmps12
  go_upto_region 1 with fail
  generalize World.alloc _ _ = W at *
  have HPA := Lib.hid (tproblem_any a W B (Pr.at_kp ha k1) (Nat.le_trans hB k1.size))
  have HPB := Lib.hid fun W' (k : Kp W W') => tproblem_any b W' B (Pr.at_kp hb (k1.trans k)) (Nat.le_trans hB (k1.trans k).size)
  have HA := Lib.hid (Pr.at_kp ha k1)
  have HB := Lib.hid (Pr.at_kp hb k1)
  obtain ⟨hl1, hl2, hl3⟩ := ha.1
  obtain ⟨hm1, hm2, hm3⟩ := hb.1
  have K1 := Lib.hid k1
  have H0 := Lib.hid h0
  have H1 := Lib.hid h1
  have q0 : W.cell? ⟨w.heap.size, 0, none⟩ = some (.slice a.sa a.ss.length a.sc) := h0 0 _ rfl; have q1 : W.cell? ⟨w.heap.size, 1, none⟩ = some (.slice a.pa a.ps.length a.pc) := h0 1 _ rfl; have q2 : W.cell? ⟨w.heap.size, 2, none⟩ = some (.slice a.ma a.ms.length a.mc) := h0 2 _ rfl; have q3 : W.cell? ⟨w.heap.size, 3, none⟩ = some (.int .i64 a.tn) := h0 3 _ rfl; have q4 : W.cell? ⟨w.heap.size, 4, none⟩ = some (.int .i64 a.td) := h0 4 _ rfl
  have p0 : W.cell? ⟨(w.heap.size + 1), 0, none⟩ = some (.slice b.sa b.ss.length b.sc) := h1 0 _ rfl; have p1 : W.cell? ⟨(w.heap.size + 1), 1, none⟩ = some (.slice b.pa b.ps.length b.pc) := h1 1 _ rfl; have p2 : W.cell? ⟨(w.heap.size + 1), 2, none⟩ = some (.slice b.ma b.ms.length b.mc) := h1 2 _ rfl; have p3 : W.cell? ⟨(w.heap.size + 1), 3, none⟩ = some (.int .i64 b.tn) := h1 3 _ rfl; have p4 : W.cell? ⟨(w.heap.size + 1), 4, none⟩ = some (.int .i64 b.td) := h1 4 _ rfl
  clear h0 h1 k1 ha hb
  cases c1 : probB a with
  | false =>
    rw [c1] at hd HPA
    have Hd := Lib.hid hd
    clear hd c1 hsf
    go_wp2_with (first | (go_at_call 8; go_fit HPA.out; rintro r w2 ⟨rfl, k2⟩) | fail)
    go_ret
    exact ⟨ret_bool (by rw [Hd.out]; rfl), K1.out.trans k2⟩
  | true =>
    rw [c1] at hd HPA
    cases c2 : probB b with
    | false =>
      rw [c2] at hd HPB
      have Hd := Lib.hid hd
      clear hd c1 c2 hsf
      go_wp2_with (first | (go_at_call 8; go_fit HPA.out; rintro r w2 ⟨rfl, k2⟩; have h1 := H1.out.kp k2; have t0 : w2.cell? ⟨(w.heap.size + 1), 0, none⟩ = some (.slice b.sa b.ss.length b.sc) := h1 0 _ rfl; have t1 : w2.cell? ⟨(w.heap.size + 1), 1, none⟩ = some (.slice b.pa b.ps.length b.pc) := h1 1 _ rfl; have t2 : w2.cell? ⟨(w.heap.size + 1), 2, none⟩ = some (.slice b.ma b.ms.length b.mc) := h1 2 _ rfl; have t3 : w2.cell? ⟨(w.heap.size + 1), 3, none⟩ = some (.int .i64 b.tn) := h1 3 _ rfl; have t4 : w2.cell? ⟨(w.heap.size + 1), 4, none⟩ = some (.int .i64 b.td) := h1 4 _ rfl; clear h1) | (go_at_call 8; go_fit (HPB.out _ k2); rintro r w3 ⟨rfl, k3⟩) | fail)
      go_ret
      exact ⟨ret_bool (by rw [Hd.out]; rfl), K1.out.trans (k2.trans k3)⟩
    | true =>
      rw [c2] at hd HPB
      clear c1 c2
      go_upto_region 6 with (first | (go_at_call 8; go_fit HPA.out; rintro r w2 ⟨rfl, k2⟩; have h1 := H1.out.kp k2; have t0 : w2.cell? ⟨(w.heap.size + 1), 0, none⟩ = some (.slice b.sa b.ss.length b.sc) := h1 0 _ rfl; have t1 : w2.cell? ⟨(w.heap.size + 1), 1, none⟩ = some (.slice b.pa b.ps.length b.pc) := h1 1 _ rfl; have t2 : w2.cell? ⟨(w.heap.size + 1), 2, none⟩ = some (.slice b.ma b.ms.length b.mc) := h1 2 _ rfl; have t3 : w2.cell? ⟨(w.heap.size + 1), 3, none⟩ = some (.int .i64 b.tn) := h1 3 _ rfl; have t4 : w2.cell? ⟨(w.heap.size + 1), 4, none⟩ = some (.int .i64 b.td) := h1 4 _ rfl; clear h1) | (go_at_call 8; go_fit (HPB.out _ k2); rintro r w3 ⟨rfl, k3⟩) | fail)
      have kS : Kp w3 (((w3.alloc (.cells #[.func (.func 33) #[] #[]] 67)).alloc (.cells #[.func (.func 34) #[] #[.pointer (some ⟨w3.heap.size, 0, none⟩)]] 72)).alloc (.cells #[.func (.func 36) #[] #[]] 74)) := (((Kp.refl w3).alloc _).alloc _).alloc _
      have hrb : (((w3.alloc (.cells #[.func (.func 33) #[] #[]] 67)).alloc (.cells #[.func (.func 34) #[] #[.pointer (some ⟨w3.heap.size, 0, none⟩)]] 72)).alloc (.cells #[.func (.func 36) #[] #[]] 74)).cell? ⟨w3.heap.size, 0, none⟩ = some (.func (.func 33) #[] #[]) := (((Kp.refl _).alloc _).alloc _).cell (new_cell _ _ _ _ rfl)
      have hxb : (((w3.alloc (.cells #[.func (.func 33) #[] #[]] 67)).alloc (.cells #[.func (.func 34) #[] #[.pointer (some ⟨w3.heap.size, 0, none⟩)]] 72)).alloc (.cells #[.func (.func 36) #[] #[]] 74)).cell? ⟨w3.heap.size + 1, 0, none⟩ = some (.func (.func 34) #[] #[.pointer (some ⟨w3.heap.size, 0, none⟩)]) := ((Kp.refl _).alloc _).cell (new_cell _ _ _ _ (by simp))
      have hfb : (((w3.alloc (.cells #[.func (.func 33) #[] #[]] 67)).alloc (.cells #[.func (.func 34) #[] #[.pointer (some ⟨w3.heap.size, 0, none⟩)]] 72)).alloc (.cells #[.func (.func 36) #[] #[]] 74)).cell? ⟨w3.heap.size + 1 + 1, 0, none⟩ = some (.func (.func 36) #[] #[]) := new_cell _ _ _ _ (by simp)
      have K3 := Lib.hid (k2.trans k3)
      generalize World.alloc _ _ = W4 at *
      have K4 := Lib.hid (K3.out.trans kS)
      have HA := Lib.hid (Pr.at_kp HA.out K4.out)
      have HB := Lib.hid (Pr.at_kp HB.out K4.out)
      have H0 := Lib.hid (H0.out.kp K4.out)
      have H1 := Lib.hid (H1.out.kp K4.out)
      have h0 := H0.out
      have h1 := H1.out
      clear q0 p0 t0 q1 p1 t1 q2 p2 t2 q3 p3 t3 q4 p4 t4
      have q0 : W4.cell? ⟨w.heap.size, 0, none⟩ = some (.slice a.sa a.ss.length a.sc) := h0 0 _ rfl; have q1 : W4.cell? ⟨w.heap.size, 1, none⟩ = some (.slice a.pa a.ps.length a.pc) := h0 1 _ rfl; have q2 : W4.cell? ⟨w.heap.size, 2, none⟩ = some (.slice a.ma a.ms.length a.mc) := h0 2 _ rfl; have q3 : W4.cell? ⟨w.heap.size, 3, none⟩ = some (.int .i64 a.tn) := h0 3 _ rfl; have q4 : W4.cell? ⟨w.heap.size, 4, none⟩ = some (.int .i64 a.td) := h0 4 _ rfl
      have p0 : W4.cell? ⟨(w.heap.size + 1), 0, none⟩ = some (.slice b.sa b.ss.length b.sc) := h1 0 _ rfl; have p1 : W4.cell? ⟨(w.heap.size + 1), 1, none⟩ = some (.slice b.pa b.ps.length b.pc) := h1 1 _ rfl; have p2 : W4.cell? ⟨(w.heap.size + 1), 2, none⟩ = some (.slice b.ma b.ms.length b.mc) := h1 2 _ rfl; have p3 : W4.cell? ⟨(w.heap.size + 1), 3, none⟩ = some (.int .i64 b.tn) := h1 3 _ rfl; have p4 : W4.cell? ⟨(w.heap.size + 1), 4, none⟩ = some (.int .i64 b.td) := h1 4 _ rfl
      have HS := Lib.hid fun W' (k : Kp W4 W') => eqdec_any a.sa b.sa a.ss b.ss a.sc b.sc B W' (by omega) (by omega) (HA.out.2.1.1.kp k) (HB.out.2.1.1.kp k)
      have HP := Lib.hid fun W' (k : Kp W4 W') => eqdec_any a.pa b.pa a.ps b.ps a.pc b.pc B W' (by omega) (by omega) (HA.out.2.2.1.1.kp k) (HB.out.2.2.1.1.kp k)
      have HM := Lib.hid fun W' (k : Kp W4 W') => eqwM a.ma b.ma a.ms b.ms a.mc b.mc B 39 #[.pointer (some ⟨w3.heap.size + 1 + 1, 0, none⟩), .pointer (some ⟨w3.heap.size + 1, 0, none⟩)] W' meqB (by omega) (HA.out.2.2.2.1.kp k) (HB.out.2.2.2.1.kp k) ⟨fun _ _ => by kernel_rfl, fun x hx y hy w1 h1 => same4_any x y w1 B _ _ w3.heap.size (Mo.at_kp (HA.out.2.2.2.2 x hx) (k.trans h1)) (Mo.at_kp (HB.out.2.2.2.2 y hy) (k.trans h1)) ((k.trans h1).cell hfb) ((k.trans h1).cell hxb) ((k.trans h1).cell hrb)⟩
      have hd : b0 = (decide (a.tn = b.tn ∧ a.td = b.td) && (allW deqB a.ss b.ss && (allW deqB a.ps b.ps && allW meqB a.ms b.ms))) := by rw [hd]; rfl
      clear h0 h1 hrb hxb hfb kS hsf k2 k3
      by_cases c1 : a.tn = b.tn
      rotate_left
      · rw [decide_eq_false (fun e => c1 e.1), Bool.false_and] at hd
        have e1 : (a.tn == b.tn) = false := beq_eq_false_iff_ne.2 c1
        have Hd := Lib.hid hd
        clear c1 hd HS HP HM HA HB H0 H1 HPA HPB
        go_wp2
        go_ret
        exact ⟨ret_bool Hd.out.symm, K1.out.trans K4.out⟩
      by_cases c2 : a.td = b.td
      rotate_left
      · rw [decide_eq_false (fun e => c2 e.2), Bool.false_and] at hd
        have e2 : (a.td == b.td) = false := beq_eq_false_iff_ne.2 c2
        rw [← c1] at p3
        have Hd := Lib.hid hd
        clear c1 c2 hd HS HP HM HA HB H0 H1 HPA HPB
        go_wp2
        go_ret
        exact ⟨ret_bool Hd.out.symm, K1.out.trans K4.out⟩
      rw [decide_eq_true ⟨c1, c2⟩, Bool.true_and] at hd
      rw [← c1] at p3
      rw [← c2] at p4
      clear c1 c2
      cases g1 : allW deqB a.ss b.ss with
      | false =>
        rw [g1] at hd HS
        have Hd := Lib.hid hd
        clear hd g1
        go_wp2_with (first | (go_at_call 37; go_fit (HS.out _ (Kp.refl _)); rintro r w5 ⟨rfl, k5⟩) | fail)
        go_ret
        exact ⟨ret_bool (by rw [Hd.out]; rfl), K1.out.trans (K4.out.trans k5)⟩
      | true =>
        rw [g1] at hd HS
        cases g2 : allW deqB a.ps b.ps with
        | false =>
          rw [g2] at hd HP
          have Hd := Lib.hid hd
          clear hd g1 g2
          go_wp2_with (first | (go_at_call 37; go_fit (HS.out _ (Kp.refl _)); rintro r w5 ⟨rfl, k5⟩; have h0 := H0.out.kp k5; have h1 := H1.out.kp k5; have s0 : w5.cell? ⟨w.heap.size, 0, none⟩ = some (.slice a.sa a.ss.length a.sc) := h0 0 _ rfl; have s1 : w5.cell? ⟨w.heap.size, 1, none⟩ = some (.slice a.pa a.ps.length a.pc) := h0 1 _ rfl; have s2 : w5.cell? ⟨w.heap.size, 2, none⟩ = some (.slice a.ma a.ms.length a.mc) := h0 2 _ rfl; have s3 : w5.cell? ⟨w.heap.size, 3, none⟩ = some (.int .i64 a.tn) := h0 3 _ rfl; have s4 : w5.cell? ⟨w.heap.size, 4, none⟩ = some (.int .i64 a.td) := h0 4 _ rfl; have u0 : w5.cell? ⟨(w.heap.size + 1), 0, none⟩ = some (.slice b.sa b.ss.length b.sc) := h1 0 _ rfl; have u1 : w5.cell? ⟨(w.heap.size + 1), 1, none⟩ = some (.slice b.pa b.ps.length b.pc) := h1 1 _ rfl; have u2 : w5.cell? ⟨(w.heap.size + 1), 2, none⟩ = some (.slice b.ma b.ms.length b.mc) := h1 2 _ rfl; have u3 : w5.cell? ⟨(w.heap.size + 1), 3, none⟩ = some (.int .i64 b.tn) := h1 3 _ rfl; have u4 : w5.cell? ⟨(w.heap.size + 1), 4, none⟩ = some (.int .i64 b.td) := h1 4 _ rfl; clear h0 h1) | (go_at_call 37; go_fit (HP.out _ k5); rintro r w6 ⟨rfl, k6⟩) | fail)
          go_ret
          exact ⟨ret_bool (by rw [Hd.out]; rfl), K1.out.trans (K4.out.trans (k5.trans k6))⟩
        | true =>
          rw [g2] at hd HP
          have Hd := Lib.hid hd
          clear hd g1 g2
          go_wp2_with (first | (go_at_call 37; go_fit (HS.out _ (Kp.refl _)); rintro r w5 ⟨rfl, k5⟩; have h0 := H0.out.kp k5; have h1 := H1.out.kp k5; have s0 : w5.cell? ⟨w.heap.size, 0, none⟩ = some (.slice a.sa a.ss.length a.sc) := h0 0 _ rfl; have s1 : w5.cell? ⟨w.heap.size, 1, none⟩ = some (.slice a.pa a.ps.length a.pc) := h0 1 _ rfl; have s2 : w5.cell? ⟨w.heap.size, 2, none⟩ = some (.slice a.ma a.ms.length a.mc) := h0 2 _ rfl; have s3 : w5.cell? ⟨w.heap.size, 3, none⟩ = some (.int .i64 a.tn) := h0 3 _ rfl; have s4 : w5.cell? ⟨w.heap.size, 4, none⟩ = some (.int .i64 a.td) := h0 4 _ rfl; have u0 : w5.cell? ⟨(w.heap.size + 1), 0, none⟩ = some (.slice b.sa b.ss.length b.sc) := h1 0 _ rfl; have u1 : w5.cell? ⟨(w.heap.size + 1), 1, none⟩ = some (.slice b.pa b.ps.length b.pc) := h1 1 _ rfl; have u2 : w5.cell? ⟨(w.heap.size + 1), 2, none⟩ = some (.slice b.ma b.ms.length b.mc) := h1 2 _ rfl; have u3 : w5.cell? ⟨(w.heap.size + 1), 3, none⟩ = some (.int .i64 b.tn) := h1 3 _ rfl; have u4 : w5.cell? ⟨(w.heap.size + 1), 4, none⟩ = some (.int .i64 b.td) := h1 4 _ rfl; clear h0 h1) | (go_at_call 37; go_fit (HP.out _ k5); rintro r w6 ⟨rfl, k6⟩; have h0 := H0.out.kp (k5.trans k6); have h1 := H1.out.kp (k5.trans k6); have x0 : w6.cell? ⟨w.heap.size, 0, none⟩ = some (.slice a.sa a.ss.length a.sc) := h0 0 _ rfl; have x1 : w6.cell? ⟨w.heap.size, 1, none⟩ = some (.slice a.pa a.ps.length a.pc) := h0 1 _ rfl; have x2 : w6.cell? ⟨w.heap.size, 2, none⟩ = some (.slice a.ma a.ms.length a.mc) := h0 2 _ rfl; have x3 : w6.cell? ⟨w.heap.size, 3, none⟩ = some (.int .i64 a.tn) := h0 3 _ rfl; have x4 : w6.cell? ⟨w.heap.size, 4, none⟩ = some (.int .i64 a.td) := h0 4 _ rfl; have y0 : w6.cell? ⟨(w.heap.size + 1), 0, none⟩ = some (.slice b.sa b.ss.length b.sc) := h1 0 _ rfl; have y1 : w6.cell? ⟨(w.heap.size + 1), 1, none⟩ = some (.slice b.pa b.ps.length b.pc) := h1 1 _ rfl; have y2 : w6.cell? ⟨(w.heap.size + 1), 2, none⟩ = some (.slice b.ma b.ms.length b.mc) := h1 2 _ rfl; have y3 : w6.cell? ⟨(w.heap.size + 1), 3, none⟩ = some (.int .i64 b.tn) := h1 3 _ rfl; have y4 : w6.cell? ⟨(w.heap.size + 1), 4, none⟩ = some (.int .i64 b.td) := h1 4 _ rfl; clear h0 h1) | (go_at_call 38; go_fit (HM.out _ (k5.trans k6)); rintro r w7 ⟨rfl, k7⟩) | fail)
          go_ret
          exact ⟨ret_bool (by rw [Hd.out]; rfl), K1.out.trans (K4.out.trans ((k5.trans k6).trans k7))⟩
set_option maxHeartbeats 8000000 in
set_option maxRecDepth 100000 in
theorem rsame_any (a c : Pr) (w : World) (B : Nat) (ha : a.at w B) (hc : c.at w B) : Calls Tryz.prog 13 #[.agg #[.slice a.sa a.ss.length a.sc, .slice a.pa a.ps.length a.pc, .slice a.ma a.ms.length a.mc, .int .i64 a.tn, .int .i64 a.td], .agg #[.slice c.sa c.ss.length c.sc, .slice c.pa c.ps.length c.pc, .slice c.ma c.ms.length c.mc, .int .i64 c.tn, .int .i64 c.td]] w fun e w' => e = .returned (.bool (peqB a c)) ∧ Kp w w' := by
  have hd : peqB a c = (decide (a.tn = c.tn ∧ a.td = c.td) && (allW deqB a.ss c.ss && (allW deqB a.ps c.ps && allW meqB a.ms c.ms))) := rfl
  generalize peqB a c = b0 at *
  have k1 : Kp w ((w.alloc (.cells #[.slice a.sa a.ss.length a.sc, .slice a.pa a.ps.length a.pc, .slice a.ma a.ms.length a.mc, .int .i64 a.tn, .int .i64 a.td] 30)).alloc (.cells #[.slice c.sa c.ss.length c.sc, .slice c.pa c.ps.length c.pc, .slice c.ma c.ms.length c.mc, .int .i64 c.tn, .int .i64 c.td] 30)) := ((Kp.refl w).alloc _).alloc _
  have h0 : CellsV ((w.alloc (.cells #[.slice a.sa a.ss.length a.sc, .slice a.pa a.ps.length a.pc, .slice a.ma a.ms.length a.mc, .int .i64 a.tn, .int .i64 a.td] 30)).alloc (.cells #[.slice c.sa c.ss.length c.sc, .slice c.pa c.ps.length c.pc, .slice c.ma c.ms.length c.mc, .int .i64 c.tn, .int .i64 c.td] 30)) w.heap.size 0 a.cells := (CellsV.new w a.cells _ _ rfl).kp ((Kp.refl _).alloc _)
  have h1 : CellsV ((w.alloc (.cells #[.slice a.sa a.ss.length a.sc, .slice a.pa a.ps.length a.pc, .slice a.ma a.ms.length a.mc, .int .i64 a.tn, .int .i64 a.td] 30)).alloc (.cells #[.slice c.sa c.ss.length c.sc, .slice c.pa c.ps.length c.pc, .slice c.ma c.ms.length c.mc, .int .i64 c.tn, .int .i64 c.td] 30)) (w.heap.size + 1) 0 c.cells := CellsV.new _ c.cells _ _ (by simp)
  go_enter Tryz.func13, Tryz.ntmps13
  go_upto_region 1 with fail
  generalize World.alloc _ _ = W at *
  obtain ⟨hl1, hl2, hl3⟩ := ha.1
  obtain ⟨hm1, hm2, hm3⟩ := hc.1
  have HR := Lib.hid (ha.2.2.2.1.kp k1)
  have HR' := Lib.hid (hc.2.2.2.1.kp k1)
  have HQA := Lib.hid fun q hq => Mo.at_kp (ha.2.2.2.2 q hq) k1
  have HQB := Lib.hid fun q hq => Mo.at_kp (hc.2.2.2.2 q hq) k1
  have HS := Lib.hid fun W' (k : Kp W W') => sdecls_any a.sa c.sa a.ss c.ss a.sc c.sc B W' (by omega) (by omega) (ha.2.1.1.kp (k1.trans k)) (hc.2.1.1.kp (k1.trans k))
  have HP := Lib.hid fun W' (k : Kp W W') => sdecls_any a.pa c.pa a.ps c.ps a.pc c.pc B W' (by omega) (by omega) (ha.2.2.1.1.kp (k1.trans k)) (hc.2.2.1.1.kp (k1.trans k))
  have K1 := Lib.hid k1
  have H0 := Lib.hid h0
  have H1 := Lib.hid h1
  clear h0 h1 k1 ha hc
  -- GEN2
  by_cases c3 : a.ms.length = c.ms.length
  · have e3 : ((a.ms.length : Int) == (c.ms.length : Int)) = true := by rw [c3]; exact beq_self_eq_true _
    obtain ⟨bq, hbq⟩ : ∃ bq, (a.ms.zip c.ms).all (fun z => meqB z.1 z.2) = bq := ⟨_, rfl⟩
    have hd2 : b0 = (bq && (decide (a.tn = c.tn ∧ a.td = c.td) && (allW deqB a.ss c.ss && allW deqB a.ps c.ps))) := by
      rw [hd, ← hbq, show allW meqB a.ms c.ms = (a.ms.zip c.ms).all (fun z => meqB z.1 z.2) by unfold allW; rw [decide_eq_true c3, Bool.true_and]]
      cases (a.ms.zip c.ms).all (fun z => meqB z.1 z.2) <;> simp
    have HDQ := Lib.hid hd2
    have HZQ := Lib.hid hbq
    have C6 := Lib.hid c3
    have hlenm := hl3
    generalize hn : a.ms.length = n at *
    generalize hn' : c.ms.length = n' at *
    have Hn := Lib.hid hn
    have Hn' := Lib.hid hn'
    have HST := Lib.hid (Kp.refl W)
    clear hd hd2 hbq c3 hn hn'
    go_wp2
    go_loopw [5] (fun v wr => ∃ i : Nat, i ≤ n ∧ v = .int .i64 (i : Int) ∧ (((a.ms).drop i).zip ((c.ms).drop i)).all (fun z => meqB z.1 z.2) = bq ∧ Kp W wr) (fun v _ => n - (intOf v).toNat)
    case atStart => exact ⟨0, by omega, rfl, HZQ.out, .refl _⟩
    case round =>
      obtain ⟨i, hi, rfl, hm, hkp⟩ := hrel
      have Hm := Lib.hid hm; clear hm
      have hb1 := H0.out.kp (HST.out.trans hkp)
      have hb2 := H1.out.kp (HST.out.trans hkp)
      have z5 : wr.cell? ⟨w.heap.size, 2, none⟩ = some (.slice a.ma (a.ms).length a.mc) := hb1 2 _ rfl
      have y5 : wr.cell? ⟨w.heap.size + 1, 2, none⟩ = some (.slice c.ma (c.ms).length c.mc) := hb2 2 _ rfl
      rw [Hn.out] at z5
      rw [Hn'.out] at y5
      clear hb1 hb2
      by_cases hlt : i < n
      · have hlt1 : i < (a.ms).length := by rw [Hn.out]; exact hlt
        have hlt2 : i < (c.ms).length := by rw [Hn'.out, ← C6.out]; exact hlt
        have hlt3 : i < n' := by rw [← C6.out]; exact hlt
        obtain ⟨x, hx⟩ : ∃ x, (a.ms)[i]? = some x := ⟨_, List.getElem?_eq_getElem hlt1⟩
        obtain ⟨y, hy⟩ : ∃ y, (c.ms)[i]? = some y := ⟨_, List.getElem?_eq_getElem hlt2⟩
        have Hd := Lib.hid (show (a.ms).drop i = x :: (a.ms).drop (i + 1) from (List.drop_eq_getElem_cons hlt1).trans (by rw [(List.getElem?_eq_some_iff.1 hx).2]))
        have Hd' := Lib.hid (show (c.ms).drop i = y :: (c.ms).drop (i + 1) from (List.drop_eq_getElem_cons hlt2).trans (by rw [(List.getElem?_eq_some_iff.1 hy).2]))
        have hxm := List.mem_of_getElem? hx
        have hym := List.mem_of_getElem? hy
        obtain ⟨b, o, ha, _, h0⟩ := (HR.out.kp (HST.out.trans hkp)) i x hx
        obtain ⟨b', o', ha', _, h1⟩ := (HR'.out.kp (HST.out.trans hkp)) i y hy
        have Hkp := Lib.hid hkp
        rw [ha] at z5
        rw [ha'] at y5
        have kd := (Kp.refl wr).drew
        have hSd : wr.drew.cell? ⟨w.heap.size, 2, none⟩ = some (.slice (some ⟨b, o, none⟩) n a.mc) ∧ wr.drew.cell? ⟨w.heap.size + 1, 2, none⟩ = some (.slice (some ⟨b', o', none⟩) n' c.mc) ∧ wr.drew.cell? ⟨b, o + i * 3, none⟩ = some (.string x.name) ∧ wr.drew.cell? ⟨b, o + i * 3 + 1, none⟩ = some (.slice x.fa x.fs.length x.fc) ∧ wr.drew.cell? ⟨b, o + i * 3 + 2, none⟩ = some (.slice x.ea x.es.length x.ec) ∧ wr.drew.cell? ⟨b', o' + i * 3, none⟩ = some (.string y.name) ∧ wr.drew.cell? ⟨b', o' + i * 3 + 1, none⟩ = some (.slice y.fa y.fs.length y.fc) ∧ wr.drew.cell? ⟨b', o' + i * 3 + 2, none⟩ = some (.slice y.ea y.es.length y.ec) := keepc8 kd ⟨z5, y5, h0 0 _ rfl, h0 1 _ rfl, h0 2 _ rfl, h1 0 _ rfl, h1 1 _ rfl, h1 2 _ rfl⟩
        have hm2 := Hm.out
        rw [Hd.out, Hd'.out, List.zip_cons_cons, List.all_cons] at hm2
        have Hm2 := Lib.hid hm2
        have HX2 := Lib.hid (smode_any x y B _ (Mo.at_kp (HQA.out x hxm) ((HST.out.trans hkp).trans kd)) (Mo.at_kp (HQB.out y hym) ((HST.out.trans hkp).trans kd)))
        have KD := Lib.hid kd
        clear hx hxm hkp hy hym hlt1 hlt2 hm2 kd h0 h1
        rw [ha, ha']
        go_upto_region 4 with fail
        clear z5
        go_region_held3 (fun w' => w'.cell? ⟨w.heap.size, 2, none⟩ = some (.slice (some ⟨b, o, none⟩) n a.mc) ∧ w'.cell? ⟨w.heap.size + 1, 2, none⟩ = some (.slice (some ⟨b', o', none⟩) n' c.mc) ∧ w'.cell? ⟨b, o + i * 3, none⟩ = some (.string x.name) ∧ w'.cell? ⟨b, o + i * 3 + 1, none⟩ = some (.slice x.fa x.fs.length x.fc) ∧ w'.cell? ⟨b, o + i * 3 + 2, none⟩ = some (.slice x.ea x.es.length x.ec) ∧ w'.cell? ⟨b', o' + i * 3, none⟩ = some (.string y.name) ∧ w'.cell? ⟨b', o' + i * 3 + 1, none⟩ = some (.slice y.fa y.fs.length y.fc) ∧ w'.cell? ⟨b', o' + i * 3 + 2, none⟩ = some (.slice y.ea y.es.length y.ec)) (first | with_reducible assumption | with_reducible exact keepc8 (by assumption) hSd | fail) (first
          | (go_at_call 42; go_fit HX2.out; rintro r w2 ⟨rfl, k2⟩)
          | fail)
        cases hq : meqB x y with
        | true =>
          have hm3 := Hm2.out
          rw [show meqB (x, y).1 (x, y).2 = true from hq, Bool.true_and] at hm3
          have Hm3 := Lib.hid hm3
          clear hq hm3
          go_wp2
          go_roundw
          case rel => exact ⟨i + 1, by omega, by go_num, Hm3.out, Hkp.out.trans (KD.out.trans k2)⟩
          case measure => simp [intOf]; omega
        | false =>
          have hm3 := Hm2.out
          rw [show meqB (x, y).1 (x, y).2 = false from hq, Bool.false_and] at hm3
          have Hm3 := Lib.hid hm3
          clear hq hm3
          go_wp2
          go_ret
          exact ⟨ret_bool (by rw [HDQ.out, ← Hm3.out]; simp), K1.out.trans (HST.out.trans (Hkp.out.trans (KD.out.trans k2)))⟩
      · obtain rfl : i = n := by omega
        have hf := Hm.out
        rw [show (a.ms).drop i = [] from List.drop_eq_nil_of_le (by rw [Hn.out]; omega), List.zip_nil_left] at hf
        have Hf := Lib.hid hf
        clear hf y5
        have h0 := H0.out.kp hkp
        have h1 := H1.out.kp hkp
        have q0 : wr.cell? ⟨w.heap.size, 0, none⟩ = some (.slice a.sa a.ss.length a.sc) := h0 0 _ rfl; have q1 : wr.cell? ⟨w.heap.size, 1, none⟩ = some (.slice a.pa a.ps.length a.pc) := h0 1 _ rfl; have q2 : wr.cell? ⟨w.heap.size, 2, none⟩ = some (.slice a.ma a.ms.length a.mc) := h0 2 _ rfl; have q3 : wr.cell? ⟨w.heap.size, 3, none⟩ = some (.int .i64 a.tn) := h0 3 _ rfl; have q4 : wr.cell? ⟨w.heap.size, 4, none⟩ = some (.int .i64 a.td) := h0 4 _ rfl
        have p0 : wr.cell? ⟨(w.heap.size + 1), 0, none⟩ = some (.slice c.sa c.ss.length c.sc) := h1 0 _ rfl; have p1 : wr.cell? ⟨(w.heap.size + 1), 1, none⟩ = some (.slice c.pa c.ps.length c.pc) := h1 1 _ rfl; have p2 : wr.cell? ⟨(w.heap.size + 1), 2, none⟩ = some (.slice c.ma c.ms.length c.mc) := h1 2 _ rfl; have p3 : wr.cell? ⟨(w.heap.size + 1), 3, none⟩ = some (.int .i64 c.tn) := h1 3 _ rfl; have p4 : wr.cell? ⟨(w.heap.size + 1), 4, none⟩ = some (.int .i64 c.td) := h1 4 _ rfl
        rw [Hn.out] at q2
        rw [Hn'.out] at p2
        have Hkp := Lib.hid hkp
        have hd := HDQ.out
        rw [← Hf.out] at hd
        have hd : b0 = (decide (a.tn = c.tn ∧ a.td = c.td) && (allW deqB a.ss c.ss && allW deqB a.ps c.ps)) := by rw [hd]; simp
        clear h0 h1 hkp z5 Hf
        cases g1 : allW deqB a.ss c.ss with
        | false =>
          rw [g1] at hd HS
          have Hd := Lib.hid hd
          clear hd g1
          go_wp2_with (first | (go_at_call 43; go_fit (HS.out _ Hkp.out); rintro r w5 ⟨rfl, k5⟩) | fail)
          go_ret
          exact ⟨ret_bool (by rw [Hd.out]; simp), K1.out.trans (Hkp.out.trans k5)⟩
        | true =>
          rw [g1] at hd HS
          cases g2 : allW deqB a.ps c.ps with
          | false =>
            rw [g2] at hd HP
            have Hd := Lib.hid hd
            clear hd g1 g2
            go_wp2_with (first | (go_at_call 43; go_fit (HS.out _ Hkp.out); rintro r w5 ⟨rfl, k5⟩; have h0 := H0.out.kp (Hkp.out.trans k5); have h1 := H1.out.kp (Hkp.out.trans k5); have s0 : w5.cell? ⟨w.heap.size, 0, none⟩ = some (.slice a.sa a.ss.length a.sc) := h0 0 _ rfl; have s1 : w5.cell? ⟨w.heap.size, 1, none⟩ = some (.slice a.pa a.ps.length a.pc) := h0 1 _ rfl; have s2 : w5.cell? ⟨w.heap.size, 2, none⟩ = some (.slice a.ma a.ms.length a.mc) := h0 2 _ rfl; have s3 : w5.cell? ⟨w.heap.size, 3, none⟩ = some (.int .i64 a.tn) := h0 3 _ rfl; have s4 : w5.cell? ⟨w.heap.size, 4, none⟩ = some (.int .i64 a.td) := h0 4 _ rfl; have u0 : w5.cell? ⟨(w.heap.size + 1), 0, none⟩ = some (.slice c.sa c.ss.length c.sc) := h1 0 _ rfl; have u1 : w5.cell? ⟨(w.heap.size + 1), 1, none⟩ = some (.slice c.pa c.ps.length c.pc) := h1 1 _ rfl; have u2 : w5.cell? ⟨(w.heap.size + 1), 2, none⟩ = some (.slice c.ma c.ms.length c.mc) := h1 2 _ rfl; have u3 : w5.cell? ⟨(w.heap.size + 1), 3, none⟩ = some (.int .i64 c.tn) := h1 3 _ rfl; have u4 : w5.cell? ⟨(w.heap.size + 1), 4, none⟩ = some (.int .i64 c.td) := h1 4 _ rfl; rw [Hn.out] at s2; rw [Hn'.out] at u2; clear h0 h1) | (go_at_call 43; go_fit (HP.out _ (Hkp.out.trans k5)); rintro r w6 ⟨rfl, k6⟩) | fail)
            go_ret
            exact ⟨ret_bool (by rw [Hd.out]; simp), K1.out.trans (Hkp.out.trans (k5.trans k6))⟩
          | true =>
            rw [g2] at hd HP
            clear g1 g2
            by_cases c1 : a.tn = c.tn
            rotate_left
            · rw [decide_eq_false (fun e => c1 e.1)] at hd
              have e1 : (a.tn == c.tn) = false := beq_eq_false_iff_ne.2 c1
              have Hd := Lib.hid hd
              clear hd c1
              go_wp2_with (first | (go_at_call 43; go_fit (HS.out _ Hkp.out); rintro r w5 ⟨rfl, k5⟩; have h0 := H0.out.kp (Hkp.out.trans k5); have h1 := H1.out.kp (Hkp.out.trans k5); have s0 : w5.cell? ⟨w.heap.size, 0, none⟩ = some (.slice a.sa a.ss.length a.sc) := h0 0 _ rfl; have s1 : w5.cell? ⟨w.heap.size, 1, none⟩ = some (.slice a.pa a.ps.length a.pc) := h0 1 _ rfl; have s2 : w5.cell? ⟨w.heap.size, 2, none⟩ = some (.slice a.ma a.ms.length a.mc) := h0 2 _ rfl; have s3 : w5.cell? ⟨w.heap.size, 3, none⟩ = some (.int .i64 a.tn) := h0 3 _ rfl; have s4 : w5.cell? ⟨w.heap.size, 4, none⟩ = some (.int .i64 a.td) := h0 4 _ rfl; have u0 : w5.cell? ⟨(w.heap.size + 1), 0, none⟩ = some (.slice c.sa c.ss.length c.sc) := h1 0 _ rfl; have u1 : w5.cell? ⟨(w.heap.size + 1), 1, none⟩ = some (.slice c.pa c.ps.length c.pc) := h1 1 _ rfl; have u2 : w5.cell? ⟨(w.heap.size + 1), 2, none⟩ = some (.slice c.ma c.ms.length c.mc) := h1 2 _ rfl; have u3 : w5.cell? ⟨(w.heap.size + 1), 3, none⟩ = some (.int .i64 c.tn) := h1 3 _ rfl; have u4 : w5.cell? ⟨(w.heap.size + 1), 4, none⟩ = some (.int .i64 c.td) := h1 4 _ rfl; rw [Hn.out] at s2; rw [Hn'.out] at u2; clear h0 h1) | (go_at_call 43; go_fit (HP.out _ (Hkp.out.trans k5)); rintro r w6 ⟨rfl, k6⟩; have h0 := H0.out.kp (Hkp.out.trans (k5.trans k6)); have h1 := H1.out.kp (Hkp.out.trans (k5.trans k6)); have x0 : w6.cell? ⟨w.heap.size, 0, none⟩ = some (.slice a.sa a.ss.length a.sc) := h0 0 _ rfl; have x1 : w6.cell? ⟨w.heap.size, 1, none⟩ = some (.slice a.pa a.ps.length a.pc) := h0 1 _ rfl; have x2 : w6.cell? ⟨w.heap.size, 2, none⟩ = some (.slice a.ma a.ms.length a.mc) := h0 2 _ rfl; have x3 : w6.cell? ⟨w.heap.size, 3, none⟩ = some (.int .i64 a.tn) := h0 3 _ rfl; have x4 : w6.cell? ⟨w.heap.size, 4, none⟩ = some (.int .i64 a.td) := h0 4 _ rfl; have y0 : w6.cell? ⟨(w.heap.size + 1), 0, none⟩ = some (.slice c.sa c.ss.length c.sc) := h1 0 _ rfl; have y1 : w6.cell? ⟨(w.heap.size + 1), 1, none⟩ = some (.slice c.pa c.ps.length c.pc) := h1 1 _ rfl; have y2 : w6.cell? ⟨(w.heap.size + 1), 2, none⟩ = some (.slice c.ma c.ms.length c.mc) := h1 2 _ rfl; have y3 : w6.cell? ⟨(w.heap.size + 1), 3, none⟩ = some (.int .i64 c.tn) := h1 3 _ rfl; have y4 : w6.cell? ⟨(w.heap.size + 1), 4, none⟩ = some (.int .i64 c.td) := h1 4 _ rfl; rw [Hn.out] at x2; rw [Hn'.out] at y2; clear h0 h1) | fail)
              go_ret
              exact ⟨ret_bool (by rw [Hd.out]; rfl), K1.out.trans (Hkp.out.trans (k5.trans k6))⟩
            by_cases c2 : a.td = c.td
            rotate_left
            · rw [decide_eq_false (fun e => c2 e.2)] at hd
              have e1 : (a.tn == c.tn) = true := by rw [c1]; exact beq_self_eq_true _
              have e2 : (a.td == c.td) = false := beq_eq_false_iff_ne.2 c2
              have Hd := Lib.hid hd
              clear hd c1 c2
              go_wp2_with (first | (go_at_call 43; go_fit (HS.out _ Hkp.out); rintro r w5 ⟨rfl, k5⟩; have h0 := H0.out.kp (Hkp.out.trans k5); have h1 := H1.out.kp (Hkp.out.trans k5); have s0 : w5.cell? ⟨w.heap.size, 0, none⟩ = some (.slice a.sa a.ss.length a.sc) := h0 0 _ rfl; have s1 : w5.cell? ⟨w.heap.size, 1, none⟩ = some (.slice a.pa a.ps.length a.pc) := h0 1 _ rfl; have s2 : w5.cell? ⟨w.heap.size, 2, none⟩ = some (.slice a.ma a.ms.length a.mc) := h0 2 _ rfl; have s3 : w5.cell? ⟨w.heap.size, 3, none⟩ = some (.int .i64 a.tn) := h0 3 _ rfl; have s4 : w5.cell? ⟨w.heap.size, 4, none⟩ = some (.int .i64 a.td) := h0 4 _ rfl; have u0 : w5.cell? ⟨(w.heap.size + 1), 0, none⟩ = some (.slice c.sa c.ss.length c.sc) := h1 0 _ rfl; have u1 : w5.cell? ⟨(w.heap.size + 1), 1, none⟩ = some (.slice c.pa c.ps.length c.pc) := h1 1 _ rfl; have u2 : w5.cell? ⟨(w.heap.size + 1), 2, none⟩ = some (.slice c.ma c.ms.length c.mc) := h1 2 _ rfl; have u3 : w5.cell? ⟨(w.heap.size + 1), 3, none⟩ = some (.int .i64 c.tn) := h1 3 _ rfl; have u4 : w5.cell? ⟨(w.heap.size + 1), 4, none⟩ = some (.int .i64 c.td) := h1 4 _ rfl; rw [Hn.out] at s2; rw [Hn'.out] at u2; clear h0 h1) | (go_at_call 43; go_fit (HP.out _ (Hkp.out.trans k5)); rintro r w6 ⟨rfl, k6⟩; have h0 := H0.out.kp (Hkp.out.trans (k5.trans k6)); have h1 := H1.out.kp (Hkp.out.trans (k5.trans k6)); have x0 : w6.cell? ⟨w.heap.size, 0, none⟩ = some (.slice a.sa a.ss.length a.sc) := h0 0 _ rfl; have x1 : w6.cell? ⟨w.heap.size, 1, none⟩ = some (.slice a.pa a.ps.length a.pc) := h0 1 _ rfl; have x2 : w6.cell? ⟨w.heap.size, 2, none⟩ = some (.slice a.ma a.ms.length a.mc) := h0 2 _ rfl; have x3 : w6.cell? ⟨w.heap.size, 3, none⟩ = some (.int .i64 a.tn) := h0 3 _ rfl; have x4 : w6.cell? ⟨w.heap.size, 4, none⟩ = some (.int .i64 a.td) := h0 4 _ rfl; have y0 : w6.cell? ⟨(w.heap.size + 1), 0, none⟩ = some (.slice c.sa c.ss.length c.sc) := h1 0 _ rfl; have y1 : w6.cell? ⟨(w.heap.size + 1), 1, none⟩ = some (.slice c.pa c.ps.length c.pc) := h1 1 _ rfl; have y2 : w6.cell? ⟨(w.heap.size + 1), 2, none⟩ = some (.slice c.ma c.ms.length c.mc) := h1 2 _ rfl; have y3 : w6.cell? ⟨(w.heap.size + 1), 3, none⟩ = some (.int .i64 c.tn) := h1 3 _ rfl; have y4 : w6.cell? ⟨(w.heap.size + 1), 4, none⟩ = some (.int .i64 c.td) := h1 4 _ rfl; rw [Hn.out] at x2; rw [Hn'.out] at y2; clear h0 h1) | fail)
              go_ret
              exact ⟨ret_bool (by rw [Hd.out]; rfl), K1.out.trans (Hkp.out.trans (k5.trans k6))⟩
            rw [decide_eq_true ⟨c1, c2⟩] at hd
            have e1 : (a.tn == c.tn) = true := by rw [c1]; exact beq_self_eq_true _
            have e2 : (a.td == c.td) = true := by rw [c2]; exact beq_self_eq_true _
            have Hd := Lib.hid hd
            clear hd c1 c2
            go_wp2_with (first | (go_at_call 43; go_fit (HS.out _ Hkp.out); rintro r w5 ⟨rfl, k5⟩; have h0 := H0.out.kp (Hkp.out.trans k5); have h1 := H1.out.kp (Hkp.out.trans k5); have s0 : w5.cell? ⟨w.heap.size, 0, none⟩ = some (.slice a.sa a.ss.length a.sc) := h0 0 _ rfl; have s1 : w5.cell? ⟨w.heap.size, 1, none⟩ = some (.slice a.pa a.ps.length a.pc) := h0 1 _ rfl; have s2 : w5.cell? ⟨w.heap.size, 2, none⟩ = some (.slice a.ma a.ms.length a.mc) := h0 2 _ rfl; have s3 : w5.cell? ⟨w.heap.size, 3, none⟩ = some (.int .i64 a.tn) := h0 3 _ rfl; have s4 : w5.cell? ⟨w.heap.size, 4, none⟩ = some (.int .i64 a.td) := h0 4 _ rfl; have u0 : w5.cell? ⟨(w.heap.size + 1), 0, none⟩ = some (.slice c.sa c.ss.length c.sc) := h1 0 _ rfl; have u1 : w5.cell? ⟨(w.heap.size + 1), 1, none⟩ = some (.slice c.pa c.ps.length c.pc) := h1 1 _ rfl; have u2 : w5.cell? ⟨(w.heap.size + 1), 2, none⟩ = some (.slice c.ma c.ms.length c.mc) := h1 2 _ rfl; have u3 : w5.cell? ⟨(w.heap.size + 1), 3, none⟩ = some (.int .i64 c.tn) := h1 3 _ rfl; have u4 : w5.cell? ⟨(w.heap.size + 1), 4, none⟩ = some (.int .i64 c.td) := h1 4 _ rfl; rw [Hn.out] at s2; rw [Hn'.out] at u2; clear h0 h1) | (go_at_call 43; go_fit (HP.out _ (Hkp.out.trans k5)); rintro r w6 ⟨rfl, k6⟩; have h0 := H0.out.kp (Hkp.out.trans (k5.trans k6)); have h1 := H1.out.kp (Hkp.out.trans (k5.trans k6)); have x0 : w6.cell? ⟨w.heap.size, 0, none⟩ = some (.slice a.sa a.ss.length a.sc) := h0 0 _ rfl; have x1 : w6.cell? ⟨w.heap.size, 1, none⟩ = some (.slice a.pa a.ps.length a.pc) := h0 1 _ rfl; have x2 : w6.cell? ⟨w.heap.size, 2, none⟩ = some (.slice a.ma a.ms.length a.mc) := h0 2 _ rfl; have x3 : w6.cell? ⟨w.heap.size, 3, none⟩ = some (.int .i64 a.tn) := h0 3 _ rfl; have x4 : w6.cell? ⟨w.heap.size, 4, none⟩ = some (.int .i64 a.td) := h0 4 _ rfl; have y0 : w6.cell? ⟨(w.heap.size + 1), 0, none⟩ = some (.slice c.sa c.ss.length c.sc) := h1 0 _ rfl; have y1 : w6.cell? ⟨(w.heap.size + 1), 1, none⟩ = some (.slice c.pa c.ps.length c.pc) := h1 1 _ rfl; have y2 : w6.cell? ⟨(w.heap.size + 1), 2, none⟩ = some (.slice c.ma c.ms.length c.mc) := h1 2 _ rfl; have y3 : w6.cell? ⟨(w.heap.size + 1), 3, none⟩ = some (.int .i64 c.tn) := h1 3 _ rfl; have y4 : w6.cell? ⟨(w.heap.size + 1), 4, none⟩ = some (.int .i64 c.td) := h1 4 _ rfl; rw [Hn.out] at x2; rw [Hn'.out] at y2; clear h0 h1) | fail)
            go_ret
            exact ⟨ret_bool (by rw [Hd.out]; rfl), K1.out.trans (Hkp.out.trans (k5.trans k6))⟩
  · have e3 : ((a.ms.length : Int) == (c.ms.length : Int)) = false := beq_eq_false_iff_ne.2 (by omega)
    rw [allW_len c3] at hd
    have Hd := Lib.hid hd
    have h0 := H0.out
    have h1 := H1.out
    have q0 : W.cell? ⟨w.heap.size, 0, none⟩ = some (.slice a.sa a.ss.length a.sc) := h0 0 _ rfl; have q1 : W.cell? ⟨w.heap.size, 1, none⟩ = some (.slice a.pa a.ps.length a.pc) := h0 1 _ rfl; have q2 : W.cell? ⟨w.heap.size, 2, none⟩ = some (.slice a.ma a.ms.length a.mc) := h0 2 _ rfl; have q3 : W.cell? ⟨w.heap.size, 3, none⟩ = some (.int .i64 a.tn) := h0 3 _ rfl; have q4 : W.cell? ⟨w.heap.size, 4, none⟩ = some (.int .i64 a.td) := h0 4 _ rfl
    have p0 : W.cell? ⟨(w.heap.size + 1), 0, none⟩ = some (.slice c.sa c.ss.length c.sc) := h1 0 _ rfl; have p1 : W.cell? ⟨(w.heap.size + 1), 1, none⟩ = some (.slice c.pa c.ps.length c.pc) := h1 1 _ rfl; have p2 : W.cell? ⟨(w.heap.size + 1), 2, none⟩ = some (.slice c.ma c.ms.length c.mc) := h1 2 _ rfl; have p3 : W.cell? ⟨(w.heap.size + 1), 3, none⟩ = some (.int .i64 c.tn) := h1 3 _ rfl; have p4 : W.cell? ⟨(w.heap.size + 1), 4, none⟩ = some (.int .i64 c.td) := h1 4 _ rfl
    clear hd c3 h0 h1 HR HR' HQA HQB HS HP
    go_wp2
    go_loopw [5] (fun x wr => x = .int .i64 0 ∧ wr = W) (fun _ _ => 0)
    case atStart => exact ⟨rfl, rfl⟩
    case round =>
      obtain ⟨rfl, rfl⟩ := hrel
      by_cases h0 : 0 < a.ms.length
      · go_wp2
        go_ret
        exact ⟨ret_bool (by rw [Hd.out]; simp), K1.out⟩
      · go_wp2
        go_ret
        exact ⟨ret_bool (by rw [Hd.out]; simp), K1.out⟩
end Go.Proofs.YthaphbbeiglolaaGreat
