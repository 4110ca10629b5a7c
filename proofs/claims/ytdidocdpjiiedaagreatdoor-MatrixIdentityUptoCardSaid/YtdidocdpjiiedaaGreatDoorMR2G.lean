/-
  Walks: the reference's Neg, Valid.
-/
import Derived.Test.YtdidocdpjiiedaaGreatDoorMEqfR
namespace Go.Proofs.YtdidocdpjiiedaaGreatDoor
open Go.RowKit

set_option maxHeartbeats 1000000 in
theorem r2Neg_ok (x : RD) (w : World) (h : x.ok w) :
    Calls Tryz.prog 115 #[.agg #[.bool x.neg, .slice x.a x.xs.length x.c, .int .i64 x.e]] w (NumOut w x.dy.opp) := by
  have hxd := rdok_dy h
  have hz := rdok_zero h
  have hlim := rdok_limbs h
  have Ho := Lib.hid (show x.dy.opp = (RD.mk (!x.neg && decide (0 < x.xs.length)) x.a x.xs x.c x.e).dy by
    unfold Dy.opp
    by_cases h0 : x.dy.m = 0
    · rw [if_pos h0]
      have e := x.dy.eq_zero hxd h0
      have hl := hz.2 h0
      have hs : x.xs = [] := List.eq_nil_of_length_eq_zero hl
      have he : x.e = 0 := congrArg Dy.e e
      unfold RD.dy
      simp only [hs, he, List.length_nil, Nat.lt_irrefl, decide_false, Bool.and_false]
      rfl
    · rw [if_neg h0]
      have hl : 0 < x.xs.length := Nat.pos_of_ne_zero (fun e => h0 (hz.1 e))
      unfold RD.dy
      simp only [hl, decide_true, Bool.and_true])
  have Hv := Lib.hid (show (x.dy.opp.ok → (RD.mk (!x.neg && decide (0 < x.xs.length)) x.a x.xs x.c x.e).vl = true) from fun hok => by
    have := ok_vld hok
    rw [Ho.out] at this
    rw [show limbs (RD.mk (!x.neg && decide (0 < x.xs.length)) x.a x.xs x.c x.e).dy.m = x.xs from hlim] at this
    exact this)
  have hrd := h.1
  clear hz hlim hxd
  obtain ⟨B, hB⟩ : ∃ B : Bool, B = (!x.neg && decide (0 < x.xs.length)) := ⟨_, rfl⟩
  rw [← hB] at Ho Hv
  have goal : ∀ W : World, Kp w W → x.rd W → NumOut w x.dy.opp (.returned (.agg #[.bool B, .slice x.a x.xs.length x.c, .int .i64 x.e])) W := fun W k r => ⟨RD.mk B x.a x.xs x.c x.e, rfl, ⟨r.1, r.2⟩, Ho.out.symm, Hv.out, k⟩
  have Goal := Lib.hid goal
  clear goal Ho Hv
  cases hn : x.neg with
  | true =>
    rw [hn] at hB
    simp only [Bool.not_true, Bool.false_and] at hB
    subst hB
    go_enter Tryz.func115, Tryz.ntmps115
    go_wp2_with fail
    generalize hW : ((w.alloc _).alloc _) = W at *
    have hk : Kp w W := hW ▸ ((Kp.refl w).alloc _).alloc _
    obtain ⟨q0, q1, q2, f0, f1, f2⟩ : Box3 W (w.heap.size + 1) (.bool false) (.slice x.a x.xs.length x.c) (.int .i64 x.e) := hW ▸ Box3.new2 _ _ _ _ _ _
    clear hW
    refine bodyPost_ret (v := .agg #[.bool false, .slice x.a x.xs.length x.c, .int .i64 x.e]) (by simp [results, Tryz.results115, go_sem, q0, q1, q2]) rfl ?_
    exact Goal.out _ hk (hrd.kp hk)
  | false =>
    rw [hn] at hB
    simp only [Bool.not_false, Bool.true_and] at hB
    subst hB
    go_enter Tryz.func115, Tryz.ntmps115
    go_wp2_with fail
    generalize hW : ((w.alloc _).alloc _) = W at *
    have hk : Kp w W := hW ▸ ((Kp.refl w).alloc _).alloc _
    obtain ⟨q0, q1, q2, f0, f1, f2⟩ : Box3 W (w.heap.size + 1) (.bool (decide (0 < x.xs.length))) (.slice x.a x.xs.length x.c) (.int .i64 x.e) := hW ▸ Box3.new2 _ _ _ _ _ _
    clear hW
    refine bodyPost_ret (v := .agg #[.bool (decide (0 < x.xs.length)), .slice x.a x.xs.length x.c, .int .i64 x.e]) (by simp [results, Tryz.results115, go_sem, q0, q1, q2]) rfl ?_
    exact Goal.out _ hk (hrd.kp hk)
end Go.Proofs.YtdidocdpjiiedaaGreatDoor
