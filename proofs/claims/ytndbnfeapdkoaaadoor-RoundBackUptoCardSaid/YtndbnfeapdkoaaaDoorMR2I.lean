/-
  Walks: the reference's Checked.
  Walks: the reference's left.
  Walks: the reference's Of, Int.
-/
import Derived.Test.YtndbnfeapdkoaaaDoorMR2H
import Derived.Test.YtndbnfeapdkoaaaDoorMProdP
import Derived.Test.YtndbnfeapdkoaaaDoorMMul
section
namespace Go.Proofs.YtndbnfeapdkoaaaDoor
open Go.RowKit

end Go.Proofs.YtndbnfeapdkoaaaDoor
end

section
namespace Go.Proofs.YtndbnfeapdkoaaaDoor
open Go.RowKit

end Go.Proofs.YtndbnfeapdkoaaaDoor
end

section
namespace Go.Proofs.YtndbnfeapdkoaaaDoor
open Go.RowKit

set_option maxRecDepth 100000 in
set_option maxHeartbeats 2000000 in
theorem r2Of_any (s : Bool) (a : Option Addr) (xs : List Nat) (c : Nat) (ex : Int) (w : World) (h : Rd w a xs) (hc : xs.length ≤ c) (hm : c ≤ maxLen) (hl : xs.length ≤ 1100000) (he0 : -1000000000 ≤ ex) (he1 : ex ≤ 1000000000) :
    Calls Tryd.prog 54 #[.bool s, .slice a xs.length c, .int .i64 ex] w (DyOut w (canon s (val xs) ex)) := by
  have hll := limbs_len_le h.lt32
  have hT := Lib.hid (r2trim_any a xs c (w.alloc (.cells #[.bool false, .slice none 0 0, .int .i64 0] 24)) (h.kp ((Kp.refl w).alloc _)) hc hm hl)
  have hB := Box3.new w (.bool false) (.slice none 0 0) (.int .i64 0) 24
  by_cases h0 : val xs = 0
  · have hn : (limbs (val xs)).length = 0 := by rw [h0, limbs_zero]; rfl
    have H0 := Lib.hid h0
    clear h0
    go_enter Tryd.func54, Tryd.ntmps54
    go_wp2_with fail
    refine hT.out.mono ?_
    rintro e w1 ⟨a1, c1, rfl, l1, m1, r1, k1⟩
    rw [hn]
    obtain ⟨q0, q1, q2, f0, f1, f2⟩ := hB.kp k1
    have hk2 := ((Kp.refl w).alloc _).trans k1
    have hst := stored q0 q1 q2 (fun _ h => by cases h) (fun _ h => by cases h) (fun _ h => by cases h) (.bool false) (.slice none 0 0) (.int .i64 0)
    clear hn
    go_wp2_with fail
    generalize (((w1.setCell _ _).setCell _ _).setCell _ _) = W at hst ⊢
    obtain ⟨s0, s1, s2, _, s4, s5, _, _⟩ := hst
    refine bodyPost_ret (v := .agg #[.bool false, .slice none 0 0, .int .i64 0]) (by simp [results, Tryd.results54, go_sem, s0, s1, s2]) rfl ?_
    rw [H0.out, canon_zero]
    exact dyOut_intro none 0 0 false 0 rfl rfl (by show 0 = (limbs 0).length; rw [limbs_zero]; rfl) rfl (by show Rd _ none (limbs 0); rw [limbs_zero]; exact .nil _ _) (Nat.le_refl _) (by unfold maxLen; omega) (s5 _ hk2 (by omega))
  · have hne : (((limbs (val xs)).length : Int) == 0) = false := beq_eq_false_iff_ne.2 (by
      have : (limbs (val xs)).length ≠ 0 := fun e => h0 (limbs_eq_nil.1 (List.length_eq_zero_iff.1 e))
      omega)
    have Hc := Lib.hid (show canon s (val xs) ex = ⟨s, oddp (val xs), ex + tz (val xs)⟩ by unfold canon; rw [if_neg h0])
    have Hodd := Lib.hid (show val xs / 2 ^ tz (val xs) = oddp (val xs) from rfl)
    have htz := bits_of_nz h0
    have hbv := bits_val_le h.lt32
    have hv0 : val (limbs (val xs)) ≠ 0 := by rw [val_limbs]; exact h0
    have Hv0 := Lib.hid hv0
    clear h0 hv0
    go_enter Tryd.func54, Tryd.ntmps54
    go_wp2_with fail
    refine hT.out.mono ?_
    rintro e w1 ⟨a1, c1, rfl, l1, m1, r1, k1⟩
    go_wp2_with fail
    have hz := r2zeros_any a1 _ c1 _ r1 (by omega) Hv0.out
    rw [val_limbs] at hz
    refine hz.mono ?_
    rintro e w2 ⟨rfl, rfl⟩
    clear hz
    have hr := r2right_any a1 _ c1 (tz (val xs)) _ r1 l1 m1 (by omega) (by omega)
    rw [val_limbs, Hodd.out] at hr
    go_wp2_with fail
    refine hr.mono ?_
    rintro e w3 ⟨a3, c3, rfl, l3, m3, r3, k3⟩
    clear hr
    have hkb := k1.trans k3
    obtain ⟨q0, q1, q2, f0, f1, f2⟩ := hB.kp hkb
    have hk2 := ((Kp.refl w).alloc _).trans hkb
    have hst := stored q0 q1 q2 (fun _ h => by cases h) (fun _ h => by cases h) (fun _ h => by cases h) (.bool s) (.slice a3 (limbs (oddp (val xs))).length c3) (.int .i64 (ex + tz (val xs)))
    go_wp2_with fail
    generalize (((w3.setCell _ _).setCell _ _).setCell _ _) = W at hst ⊢
    obtain ⟨s0, s1, s2, _, s4, s5, _, _⟩ := hst
    refine bodyPost_ret (v := .agg #[.bool s, .slice a3 (limbs (oddp (val xs))).length c3, .int .i64 (ex + tz (val xs))]) (by simp [results, Tryd.results54, go_sem, s0, s1, s2]) rfl ?_
    rw [Hc.out]
    exact dyOut_intro a3 _ c3 s _ rfl rfl rfl rfl (s4 _ _ r3) l3 m3 (s5 _ hk2 (by omega))

theorem rd_pair (w : World) (x y : Nat) (hx : x < 4294967296) (hy : y < 4294967296) (u v : Int) (hu : u = x) (hv : v = y) : Rd (w.alloc (.cells #[.int .u32 u, .int .u32 v] 42)) (some ⟨w.heap.size, 0, none⟩) [x, y] := by
  subst hu hv
  refine ⟨.cons hx (.cons hy .nil), .inr ⟨_, _, rfl, fun i hi => ?_⟩⟩
  match i, hi with
  | 0, _ => simp [nth]
  | 1, _ => simp [nth]
  | i + 2, hi => exact absurd hi (by simp)
end Go.Proofs.YtndbnfeapdkoaaaDoor
end
