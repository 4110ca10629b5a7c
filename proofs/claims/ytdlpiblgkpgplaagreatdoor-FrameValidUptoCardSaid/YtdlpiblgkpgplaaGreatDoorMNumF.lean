/-
  Walks: the law's num, number (frames).
-/
import Derived.Deep.LoopGhost
import Derived.Deep.RegionHeld3
import Derived.Deep.DeepFit
import Derived.Test.YtdlpiblgkpgplaaGreatDoorMIdxT
import Derived.Test.YtdlpiblgkpgplaaGreatDoorMApM
import Derived.Test.YtdlpiblgkpgplaaGreatDoorMNrmP
namespace Go.Proofs.YtdlpiblgkpgplaaGreatDoor
open Go.RowKit

set_option maxHeartbeats 4000000 in
theorem numF_any (n : Int) (w : World) (h0 : n ≠ 0) (hb : n.natAbs ≤ 1000) :
    Calls Tryz.prog 19 #[.int .i64 n] w fun e w' => ∃ y : RD, e = .returned (.agg #[.bool y.neg, .slice y.a y.xs.length y.c, .int .i64 y.e]) ∧ y.ok w' ∧ y.dy = intD n ∧ Kp w w' := by
  have hlo : -1000 ≤ n := by omega
  have hhi : n ≤ 1000 := by omega
  obtain ⟨N, hN⟩ : ∃ N : Nat, N = n.natAbs := ⟨_, rfl⟩
  have hmax : max n (-n) = (N : Int) := by omega
  have hz1 : ((N : Int) == 0) = false := beq_eq_false_iff_ne.2 (by omega)
  have HN := Lib.hid (And.intro hN (show 0 < N ∧ N ≤ 1000 by omega))
  obtain ⟨B, hB⟩ : ∃ B : Bool, B = decide (n < 0) := ⟨_, rfl⟩
  have HB := Lib.hid hB
  clear hN h0 hb
  go_enter Tryz.func19, Tryz.ntmps19
  go_upto_region 3 with fail
  rw [← hB]
  clear hB
  have hO : Box3 ((w.alloc (.cells #[.bool false, .slice none 0 0, .int .i64 0] 33)).alloc (.cells #[.bool B, .slice none 0 0, .int .i64 0] 33)) w.heap.size (.bool false) (.slice none 0 0) (.int .i64 0) := (Box3.new w _ _ _ _).kp ((Kp.refl _).alloc _)
  have hD : Box3 ((w.alloc (.cells #[.bool false, .slice none 0 0, .int .i64 0] 33)).alloc (.cells #[.bool B, .slice none 0 0, .int .i64 0] 33)) (w.heap.size + 1) (.bool B) (.slice none 0 0) (.int .i64 0) := by
    have := Box3.new (w.alloc (.cells #[.bool false, .slice none 0 0, .int .i64 0] 33)) (.bool B) (.slice none 0 0) (.int .i64 0) 33
    rwa [World.size_alloc] at this
  have hk : Kp w ((w.alloc (.cells #[.bool false, .slice none 0 0, .int .i64 0] 33)).alloc (.cells #[.bool B, .slice none 0 0, .int .i64 0] 33)) := ((Kp.refl w).alloc _).alloc _
  generalize ((w.alloc (.cells #[.bool false, .slice none 0 0, .int .i64 0] 33)).alloc (.cells #[.bool B, .slice none 0 0, .int .i64 0] 33)) = W at *
  go_wp2_with fail
  go_loopg [0] N (fun q v wr => ∃ e : Nat, v = .int .i64 q ∧ 0 < q ∧ q * 2 ^ e = N ∧ Kp w wr ∧ Box3 wr w.heap.size (.bool false) (.slice none 0 0) (.int .i64 0) ∧ Box3 wr (w.heap.size + 1) (.bool B) (.slice none 0 0) (.int .i64 e))
  case atStart => exact ⟨0, rfl, HN.out.2.1, by simp, hk, hO, hD⟩
  case round =>
    obtain ⟨e, rfl, hq0, hqe, hkr, hOr, hDr⟩ := hrel
    have HQ := Lib.hid (And.intro hq0 hqe)
    have he10 : e ≤ 10 := by
      have h1 : 2 ^ e ≤ N := by rw [← hqe]; exact Nat.le_mul_of_pos_left _ hq0
      have h2 := HN.out.2.2
      exact Classical.byContradiction fun h => by
        have : 2 ^ 11 ≤ 2 ^ e := Nat.pow_le_pow_right (by decide) (by omega)
        omega
    have hq9 : gk ≤ 1000 := by have h1 : gk ≤ N := by { rw [← hqe]; exact Nat.le_mul_of_pos_right _ (Nat.pow_pos (by decide)) }; have := HN.out.2.2; omega
    have hj9 : (gk : Int) ≤ 1000 := by omega
    clear hO hD hk hqe
    rcases Nat.mod_two_eq_zero_or_one gk with hm | hm
    · obtain ⟨j, rfl⟩ : ∃ j, gk = 2 * j := ⟨gk / 2, by omega⟩
      have hr : Int.tmod ((2 * j : Nat) : Int) 2 = 0 := by rw [Int.tmod_eq_emod_of_nonneg (by omega)]; omega
      have hd : Int.tdiv ((2 * j : Nat) : Int) 2 = (j : Int) := by rw [Int.tdiv_eq_ediv_of_nonneg (by omega)]; omega
      obtain ⟨q0, q1, q2, f0, f1, f2⟩ := id hDr
      go_upto_region 6 with fail
      have hj8 : (j : Int) ≤ 1000 := by omega
      go_region
      go_wp2_with fail
      go_roundg j
      case measure => omega
      case rel =>
        have hE := Box3.setN hDr (fun _ h => by cases h) (.int .i64 ((e : Int) + 1))
        exact ⟨e + 1, by go_num, by omega, by rw [Nat.pow_succ, Nat.mul_comm (2 ^ e) 2, ← Nat.mul_assoc, Nat.mul_comm j 2]; exact HQ.out.2, (hE.2.2.2.1 _ hkr (by omega)).drew, (hE.2.box3 (by omega) hOr).kp (Kp.refl _).drew, hE.1.kp (Kp.refl _).drew⟩
    · have hr : Int.tmod ((gk : Nat) : Int) 2 = 1 := by rw [Int.tmod_eq_emod_of_nonneg (by omega)]; omega
      have hA := (Kp.refl wr).alloc (.cells #[.int .u32 (gk : Int)] 73)
      have hDA := hDr.kp hA
      obtain ⟨q0, q1, q2, f0, f1, f2⟩ := id hDA
      go_upto_region 8 with fail
      obtain ⟨hM, hU⟩ := Box3.setM hDA (fun _ h => by cases h) (.slice (some ⟨wr.heap.size, 0, none⟩) 1 1)
      have hRd : Rd (wr.alloc (.cells #[.int .u32 (gk : Int)] 73)) (some ⟨wr.heap.size, 0, none⟩) [gk] := ⟨by intro x hx; simp at hx; omega, .inr ⟨_, _, rfl, fun i hi => by
        obtain rfl : i = 0 := by simp at hi; omega
        simp [nth]⟩⟩
      have hRd2 := hU.2.1 _ _ hRd
      have hO2 := hU.box3 (by omega) (hOr.kp hA)
      have hK2 := hU.2.2.1 _ (hkr.trans hA) (by omega)
      clear q0 q1 q2 f0 f1 f2 hDA hA hRd hU hOr hDr hkr
      generalize ((wr.alloc _).setCell _ _) = W9 at *
      obtain ⟨q0, q1, q2, _⟩ := id hM
      obtain ⟨r0, r1, r2, f0, f1, f2⟩ := id hO2
      go_wp2_with fail
      have hst := stored r0 r1 r2 (fun _ h => by cases h) (fun _ h => by cases h) (fun _ h => by cases h) (.bool B) (.slice (some ⟨wr.heap.size, 0, none⟩) 1 1) (.int .i64 e)
      generalize (((W9.setCell _ _).setCell _ _).setCell _ _) = W8 at hst ⊢
      obtain ⟨s0, s1, s2, _, s4, s5, _, _⟩ := hst
      have hok : (⟨B, gk, (e : Int)⟩ : Dy).ok := by
        have hb1 : bits gk ≤ 10 := bits_le.2 (by omega)
        exact .inr ⟨hm, by show bits gk ≤ 4096; omega, by show (-16384 : Int) ≤ e; omega, by show (e : Int) ≤ 16384; omega, by show (bits gk : Int) + e ≤ 16384; omega⟩
      have hdy : (⟨B, gk, (e : Int)⟩ : Dy) = intD n := by
        refine intD_eqs hok ?_ ?_
        · omega
        · rw [iv_sg]
          show sg B gk * 2 ^ ((e : Int) + 16384).toNat = _
          rw [show ((e : Int) + 16384).toNat = e + 16384 from by omega, Int.pow_add, ← Int.mul_assoc]
          congr 1
          have hN9 : ((gk * 2 ^ e : Nat) : Int) = (n.natAbs : Int) := by rw [HQ.out.2, HN.out.1]
          rw [Int.natCast_mul, Int.natCast_pow] at hN9
          have hBn := HB.out
          unfold sg
          cases B with
          | true =>
            have : n < 0 := by simpa using hBn.symm
            rw [if_pos rfl, Int.neg_mul]
            have e9 : ((2 : Nat) : Int) = 2 := rfl
            rw [e9] at hN9
            omega
          | false =>
            have : ¬ n < 0 := by simpa using hBn.symm
            rw [if_neg (by decide)]
            have e9 : ((2 : Nat) : Int) = 2 := rfl
            rw [e9] at hN9
            omega
      have hl1 : limbs gk = [gk] := limbs_one7 (by omega) (by omega)
      refine bodyPost_ret (v := .agg #[.bool B, .slice (some ⟨wr.heap.size, 0, none⟩) 1 1, .int .i64 e]) (by simp [results, Tryz.results19, go_sem, s0, s1, s2]) rfl ?_
      refine ⟨rdOf ⟨B, gk, e⟩ (some ⟨wr.heap.size, 0, none⟩) 1, ?_, rdOf_ok hok (by show Rd W8 _ (limbs gk); rw [hl1]; exact s4 _ _ hRd2) (by show (limbs gk).length ≤ 1; rw [hl1]; exact Nat.le_refl _) (by decide), by rw [rdOf_dy]; exact hdy, s5 _ hK2 (by omega)⟩
      unfold rdOf
      show Ending.returned (.agg #[.bool B, .slice (some ⟨wr.heap.size, 0, none⟩) 1 1, .int .i64 e]) = .returned (.agg #[.bool B, .slice (some ⟨wr.heap.size, 0, none⟩) (limbs gk).length 1, .int .i64 e])
      rw [hl1]; rfl
set_option maxHeartbeats 2000000 in
theorem numF_zero (w : World) :
    Calls Tryz.prog 19 #[.int .i64 0] w fun e w' => e = .returned (.agg #[.bool false, .slice none 0 0, .int .i64 0]) ∧ Kp w w' := by
  have kk := ((Kp.refl w).alloc (.cells #[.bool false, .slice none 0 0, .int .i64 0] 33)).alloc (.cells #[.bool false, .slice none 0 0, .int .i64 0] 33)
  have hB : Box3 ((w.alloc (.cells #[.bool false, .slice none 0 0, .int .i64 0] 33)).alloc (.cells #[.bool false, .slice none 0 0, .int .i64 0] 33)) w.heap.size (.bool false) (.slice none 0 0) (.int .i64 0) := (Box3.new w _ _ _ _).kp ((Kp.refl _).alloc _)
  go_enter Tryz.func19, Tryz.ntmps19
  go_upto_region 3 with fail
  generalize ((w.alloc _).alloc _) = W at *
  obtain ⟨q0, q1, q2, f0, f1, f2⟩ := id hB
  go_wp2_with fail
  generalize hW9 : (((W.setCell _ _).setCell _ _).setCell _ _) = W9
  obtain ⟨⟨s0, s1, s2, _⟩, hU⟩ := stored3 hB (fun _ h => by cases h) (fun _ h => by cases h) (fun _ h => by cases h) _ _ _ hW9
  clear hW9 q0 q1 q2 f0 f1 f2
  refine bodyPost_ret (v := .agg #[.bool false, .slice none 0 0, .int .i64 0]) (by simp [results, Tryz.results19, go_sem, s0, s1, s2]) rfl ?_
  exact ⟨rfl, hU.2.2.1 _ kk (Nat.le_refl _)⟩
set_option maxHeartbeats 1000000 in
theorem numberF_any (x y : RD) (w : World) (hx : x.rd w) (hy : y.rd w) :
    Calls Tryz.prog 20 #[.agg #[.bool x.neg, .slice x.a x.xs.length x.c, .int .i64 x.e], .agg #[.bool y.neg, .slice y.a y.xs.length y.c, .int .i64 y.e]] w fun e w' => e = .returned (.bool (sameR x y)) ∧ Kp w w' := by
  have H := Lib.hid (show sameR x y = ((x.neg == y.neg) && (decide (x.e = y.e) && decide (x.xs = y.xs))) from rfl)
  have hk := ((Kp.refl w).alloc (.cells #[.bool x.neg, .slice x.a x.xs.length x.c, .int .i64 x.e] 33)).alloc (.cells #[.bool y.neg, .slice y.a y.xs.length y.c, .int .i64 y.e] 33)
  have hxl := hx.2.2.2.1
  by_cases hn : x.neg = y.neg
  · have hn1 : (x.neg == y.neg) = true := by rw [hn]; cases y.neg <;> rfl
    by_cases he : x.e = y.e
    · have he1 : (x.e == y.e) = true := beq_iff_eq.2 he
      have Hn := Lib.hid (And.intro hn1 he)
      clear hn he
      go_enter Tryz.func20, Tryz.ntmps20
      go_wp2_with fail
      refine (eqU_any x.a y.a x.xs y.xs x.c y.c _ (hx.1.kp hk) (hy.1.kp hk) hxl).mono ?_
      rintro e w3 ⟨rfl, hk3⟩
      go_wp2_with fail
      go_ret
      exact ⟨ret_bool (by rw [H.out, Hn.out.1, Hn.out.2]; simp), hk.trans hk3⟩
    · have he1 : (x.e == y.e) = false := beq_eq_false_iff_ne.2 he
      have Hn := Lib.hid he
      clear hn he
      go_enter Tryz.func20, Tryz.ntmps20
      go_wp2_with fail
      go_ret
      exact ⟨ret_bool (by rw [H.out, decide_eq_false Hn.out]; simp), hk⟩
  · have hn1 : (x.neg == y.neg) = false := by cases h1 : x.neg <;> cases h2 : y.neg <;> simp_all
    clear hn
    go_enter Tryz.func20, Tryz.ntmps20
    go_wp2_with fail
    go_ret
    exact ⟨ret_bool (by rw [H.out, hn1]; simp), hk⟩
end Go.Proofs.YtdlpiblgkpgplaaGreatDoor
