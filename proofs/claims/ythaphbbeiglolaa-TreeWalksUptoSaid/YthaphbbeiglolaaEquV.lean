/-
  Walks: tree.Equal.
-/
import Derived.Test.YthaphbbeiglolaaEquT
namespace Go.Proofs.Ythaphbbeiglolaa
open Go.RowKit Go.Sort

/-- Equal's answer -/
def eqO (x y : Ex) : Bool := x.ok && (y.ok && x.eqv y)
set_option maxHeartbeats 4000000 in
set_option maxRecDepth 20000 in
theorem tequal_any (x y : Ex) (B : Nat) (w : World) (hx : x.at w B) (hy : y.at w B) (hB : B ≤ w.heap.size) : Calls Try.prog 35 #[.agg #[.int .i64 x.kind, .int .i64 x.rn, .int .i64 x.rd, .string x.name, .int .i64 x.pw, .slice x.a x.l.length x.c], .agg #[.int .i64 y.kind, .int .i64 y.rn, .int .i64 y.rd, .string y.name, .int .i64 y.pw, .slice y.a y.l.length y.c]] w fun r w' => r = .returned (.bool (eqO x y)) ∧ Kp w w' := by
  have k1 : Kp w ((w.alloc (.cells #[.int .i64 x.kind, .int .i64 x.rn, .int .i64 x.rd, .string x.name, .int .i64 x.pw, .slice x.a x.l.length x.c] 26)).alloc (.cells #[.int .i64 y.kind, .int .i64 y.rn, .int .i64 y.rd, .string y.name, .int .i64 y.pw, .slice y.a y.l.length y.c] 26)) := ((Kp.refl w).alloc _).alloc _
  have hB1 : BoxX ((w.alloc (.cells #[.int .i64 x.kind, .int .i64 x.rn, .int .i64 x.rd, .string x.name, .int .i64 x.pw, .slice x.a x.l.length x.c] 26)).alloc (.cells #[.int .i64 y.kind, .int .i64 y.rn, .int .i64 y.rd, .string y.name, .int .i64 y.pw, .slice y.a y.l.length y.c] 26)) w.heap.size x := (BoxX.new w x _ rfl).kp ((Kp.refl _).alloc _)
  have hB2 : BoxX ((w.alloc (.cells #[.int .i64 x.kind, .int .i64 x.rn, .int .i64 x.rd, .string x.name, .int .i64 x.pw, .slice x.a x.l.length x.c] 26)).alloc (.cells #[.int .i64 y.kind, .int .i64 y.rn, .int .i64 y.rd, .string y.name, .int .i64 y.pw, .slice y.a y.l.length y.c] 26)) (w.heap.size + 1) y := BoxX.new _ y _ (by simp)
  obtain ⟨b0, hb0⟩ : ∃ b0, eqO x y = b0 := ⟨_, rfl⟩
  rw [hb0]
  have HQ := Lib.hid (show b0 = (x.ok && (y.ok && x.eqv y)) from hb0.symm)
  clear hb0
  go_enter Try.func35, Try.ntmps35
  go_upto_region 1 with fail
  generalize World.alloc _ _ = W at *
  have hBW := Nat.le_trans hB k1.size
  have HX := Lib.hid (Ex.at_kp hx k1)
  have HY := Lib.hid (Ex.at_kp hy k1)
  have HV1 := Lib.hid (tvalid_any x B W HX.out hBW)
  have HV2 := Lib.hid fun W' (k : Kp W W') => tvalid_any y B W' (Ex.at_kp HY.out k) (Nat.le_trans hBW k.size)
  have HE := Lib.hid fun W' (k : Kp W W') => equal_any x y B W' (Ex.at_kp HX.out k) (Ex.at_kp HY.out k)
  have K1 := Lib.hid k1
  have HB1 := Lib.hid hB1
  have HB2 := Lib.hid hB2
  obtain ⟨⟨q0, q1, q2, q3, q4, q5⟩, _⟩ := hB1
  clear hB2 k1 hx hy
  rcases Bool.eq_false_or_eq_true x.ok with h1 | h1
  · rw [h1] at HV1
    rcases Bool.eq_false_or_eq_true y.ok with h2 | h2
    · rw [h2] at HV2
      have hz : x.eqv y = b0 := by rw [HQ.out, h1, h2]; rfl
      rw [hz] at HE
      clear HQ h1 h2 hz
      go_wp2_with (first
        | (go_at_call 31; go_fit HV1.out; rintro r w2 ⟨rfl, k2⟩; clear HV1; obtain ⟨⟨t0, t1, t2, t3, t4, t5⟩, _⟩ := HB2.out.kp k2)
        | (go_at_call 31; go_fit (HV2.out _ k2); rintro r w3 ⟨rfl, k3⟩; clear HV2; have kk := k2.trans k3; obtain ⟨⟨y0, y1, y2, y3, y4, y5⟩, _⟩ := HB2.out.kp kk; obtain ⟨⟨x0, x1, x2, x3, x4, x5⟩, _⟩ := HB1.out.kp kk)
        | (go_at_call 55; go_fit (HE.out _ kk); rintro r w4 ⟨rfl, k4⟩)
        | fail)
      go_ret
      exact ⟨rfl, K1.out.trans (kk.trans k4)⟩
    · rw [h2] at HV2
      have hz : false = b0 := by rw [HQ.out, h1, h2]; rfl
      subst hz
      clear HQ h1 h2 HE
      go_wp2_with (first
        | (go_at_call 31; go_fit HV1.out; rintro r w2 ⟨rfl, k2⟩; clear HV1; obtain ⟨⟨t0, t1, t2, t3, t4, t5⟩, _⟩ := HB2.out.kp k2)
        | (go_at_call 31; go_fit (HV2.out _ k2); rintro r w3 ⟨rfl, k3⟩; clear HV2)
        | fail)
      go_ret
      exact ⟨rfl, K1.out.trans (k2.trans k3)⟩
  · rw [h1] at HV1
    have hz : false = b0 := by rw [HQ.out, h1]; rfl
    subst hz
    clear HQ h1 HE HV2
    go_wp2_with (first
      | (go_at_call 31; go_fit HV1.out; rintro r w2 ⟨rfl, k2⟩; clear HV1)
      | fail)
    go_ret
    exact ⟨rfl, K1.out.trans k2⟩
end Go.Proofs.Ythaphbbeiglolaa
