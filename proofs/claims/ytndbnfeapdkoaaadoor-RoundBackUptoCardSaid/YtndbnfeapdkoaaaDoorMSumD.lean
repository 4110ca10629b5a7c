/-
  Walks: dyadic.sum of two numbers that are not 0: far apart; of the same sign.
-/
import Derived.Test.YtndbnfeapdkoaaaDoorMWrap
import Derived.Test.YtndbnfeapdkoaaaDoorMSign
import Derived.Test.YtndbnfeapdkoaaaDoorMIvC
import Derived.Test.YtndbnfeapdkoaaaDoorMPub
namespace Go.Proofs.YtndbnfeapdkoaaaDoor
open Go.RowKit

/-- the tops lie far above the lower exponent -/
def farB (d f : Dy) : Prop := 4097 < max (topI d) (topI f) - min d.e f.e ∧ (1 < topI d - topI f ∨ 1 < topI f - topI d)
instance (d f : Dy) : Decidable (farB d f) := by unfold farB; exact inferInstance
theorem topI_bounds {d : Dy} (h : d.ok) : -16384 ≤ topI d ∧ topI d ≤ 16384 := by
  unfold topI
  split
  · omega
  · next h0 => rcases h with ⟨h, _⟩ | ⟨_, h1, h2, h3, h4⟩; exact absurd h h0; omega
theorem near_len {d f : Dy} (hd : d.ok) (hf : f.ok) (hd0 : d.m ≠ 0) (hf0 : f.m ≠ 0) (h : ¬ farB d f) : bits (d.m * 2 ^ (d.e - min d.e f.e).toNat) ≤ 4098 ∧ bits (f.m * 2 ^ (f.e - min d.e f.e).toNat) ≤ 4098 := by
  have bd : (bits d.m : Int) ≤ 4096 := by rcases hd with ⟨h, _⟩ | ⟨_, h, _⟩; exact absurd h hd0; omega
  have bf : (bits f.m : Int) ≤ 4096 := by rcases hf with ⟨h, _⟩ | ⟨_, h, _⟩; exact absurd h hf0; omega
  have td : topI d = bits d.m + d.e := by unfold topI; rw [if_neg hd0]
  have tf : topI f = bits f.m + f.e := by unfold topI; rw [if_neg hf0]
  unfold farB at h
  rw [bits_mul_pow hd0, bits_mul_pow hf0]
  omega
set_option maxHeartbeats 2000000 in
theorem sum_farB (d f : Dy) (a b : Option Addr) (c k : Nat) (w : World) (hd : DyAt w d a c) (hf : DyAt w f b k) (hd0 : d.m ≠ 0) (hf0 : f.m ≠ 0) (hfar : farB d f) :
    Calls Tryd.prog 70 #[.agg #[.bool d.neg, .slice a (limbs d.m).length c, .int .i64 d.e], .agg #[.bool f.neg, .slice b (limbs f.m).length k, .int .i64 f.e]] w (DyE w (chk (sumD d f)).1 (chk (sumD d f)).2) := by
  rw [sum_out hd.1 hf.1 hd0 hf0 hfar.1 hfar.2]
  have td := topI_bounds hd.1
  have tf := topI_bounds hf.1
  have hed := ok_e hd.1
  have hef := ok_e hf.1
  have z1 := len_ne hd0
  have z2 := len_ne hf0
  obtain ⟨h1, h2⟩ := hfar
  go_enter Tryd.func70, Tryd.ntmps70
  go_wp2_with fail
  generalize hW : (((w.alloc _).alloc _).alloc _) = W at *
  have hk : Kp w W := hW ▸ (((Kp.refl w).alloc _).alloc _).alloc _
  have hd1 := (hd.kp hk).drew
  have hf1 := (hf.kp hk).drew
  have hS : W.cell? ⟨w.heap.size, 0, none⟩ = some (.bool d.neg) ∧ W.cell? ⟨w.heap.size, 1, none⟩ = some (.slice a (limbs d.m).length c) ∧ W.cell? ⟨w.heap.size, 2, none⟩ = some (.int .i64 d.e) ∧ W.cell? ⟨w.heap.size + 1, 0, none⟩ = some (.bool f.neg) ∧ W.cell? ⟨w.heap.size + 1, 1, none⟩ = some (.slice b (limbs f.m).length k) ∧ W.cell? ⟨w.heap.size + 1, 2, none⟩ = some (.int .i64 f.e) := by rw [← hW]; exact keep6 ((Kp.refl _).alloc _) (by simp)
  have hB : Box3 W (w.heap.size + 2) (.bool false) (.slice none 0 0) (.int .i64 0) := hW ▸ Box3.new3 _ _ _ _ _ _ _
  clear hW
  go_region_held3 (fun w' => w'.cell? ⟨w.heap.size, 0, none⟩ = some (.bool d.neg) ∧ w'.cell? ⟨w.heap.size, 1, none⟩ = some (.slice a (limbs d.m).length c) ∧ w'.cell? ⟨w.heap.size, 2, none⟩ = some (.int .i64 d.e) ∧ w'.cell? ⟨w.heap.size + 1, 0, none⟩ = some (.bool f.neg) ∧ w'.cell? ⟨w.heap.size + 1, 1, none⟩ = some (.slice b (limbs f.m).length k) ∧ w'.cell? ⟨w.heap.size + 1, 2, none⟩ = some (.int .i64 f.e)) (first | assumption | exact keep6 (by assumption) (by assumption))
    (first
      | (go_at_call_of 63 (Value.agg #[.bool d.neg, .slice a (limbs d.m).length c, .int .i64 d.e]); refine (Top_ok d a c _ hd1).mono ?_; rintro e w2 ⟨rfl, hk2⟩)
      | (go_at_call_of 63 (Value.agg #[.bool f.neg, .slice b (limbs f.m).length k, .int .i64 f.e]); refine (Top_ok f b k _ (hf1.kp (by assumption))).mono ?_; rintro e w3 ⟨rfl, hk3⟩))
  generalize topI d = x at *
  generalize topI f = y at *
  have e1 : IntKind.i64.wrap (max x y - min d.e f.e) = max x y - min d.e f.e := IntWalk.i64_in _ (by omega)
  have e2 : IntKind.i64.wrap (x - y) = x - y := IntWalk.i64_in _ (by omega)
  have e3 : IntKind.i64.wrap (y - x) = y - x := IntWalk.i64_in _ (by omega)
  have hk4 := (hk.drew.trans hk2).trans hk3
  obtain ⟨q0, q1, q2, f0, f1, f2⟩ := ((hB.kp (Kp.refl W).drew).kp hk2).kp hk3
  clear hS hB hd1 hf1
  by_cases h3 : 1 < x - y
  · go_wp2_with fail
    have hst := stored q0 q1 q2 (fun _ h => by cases h) (fun _ h => by cases h) (fun _ h => by cases h) (.bool false) (.slice none 0 0) (.int .i64 0)
    generalize (((w3.setCell _ _).setCell _ _).setCell _ _) = W2 at hst ⊢
    obtain ⟨s0, s1, s2, _, s4, s5, _, _⟩ := hst
    refine bodyPost_ret (v := .tuple #[.agg #[.bool false, .slice none 0 0, .int .i64 0], .int .i64 9]) (by simp [results, Tryd.results70, go_sem, s0, s1, s2]) rfl ?_
    exact dyE_zero rfl (s5 _ hk4 (by omega))
  · have h4 : 1 < y - x := by omega
    go_wp2_with fail
    have hst := stored q0 q1 q2 (fun _ h => by cases h) (fun _ h => by cases h) (fun _ h => by cases h) (.bool false) (.slice none 0 0) (.int .i64 0)
    generalize (((w3.setCell _ _).setCell _ _).setCell _ _) = W2 at hst ⊢
    obtain ⟨s0, s1, s2, _, s4, s5, _, _⟩ := hst
    refine bodyPost_ret (v := .tuple #[.agg #[.bool false, .slice none 0 0, .int .i64 0], .int .i64 9]) (by simp [results, Tryd.results70, go_sem, s0, s1, s2]) rfl ?_
    exact dyE_zero rfl (s5 _ hk4 (by omega))
end Go.Proofs.YtndbnfeapdkoaaaDoor
