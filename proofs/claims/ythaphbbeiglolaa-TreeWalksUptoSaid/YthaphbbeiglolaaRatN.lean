/-
  Walks: ratio.size, gcd, Valid.
-/
import Derived.Test.YthaphbbeiglolaaLexP
import Derived.Deep.CutRange
import Derived.Deep.DeepFit
import Derived.Deep.LoopGhost
import Derived.Deep.RegionWith
namespace Go.Proofs.Ythaphbbeiglolaa
open Go.RowKit

set_option maxHeartbeats 1000000 in
theorem rsize_any (n : Int) (w : World) (h0 : -1073741824 ≤ n) (h1 : n ≤ 1073741824) : Calls Try.prog 103 #[.int .i64 n] w fun e w' => e = .returned (.int .u64 (n.natAbs : Int)) ∧ w' = w := by
  go_enter Try.func103, Try.ntmps103
  by_cases hn : n < 0
  · go_wp2
    go_ret
    refine ⟨ret_int ?_, rfl⟩
    omega
  · go_wp2
    go_ret
    refine ⟨ret_int ?_, rfl⟩
    omega
set_option maxHeartbeats 1000000 in
theorem rgcd_any (a b : Nat) (w : World) (ha : a ≤ 1073741824) (hb : b ≤ 1073741824) : Calls Try.prog 102 #[.int .u64 (a : Int), .int .u64 (b : Int)] w fun e w' => e = .returned (.int .u64 ((Nat.gcd a b : Nat) : Int)) ∧ ∃ m, w' = w.drewN m := by
  go_enter Try.func102, Try.ntmps102
  go_wp2
  go_loopw [0, 1] (fun x y wr => ∃ c d : Nat, x = .int .u64 (c : Int) ∧ y = .int .u64 (d : Int) ∧ c ≤ 1073741824 ∧ d ≤ 1073741824 ∧ Nat.gcd c d = Nat.gcd a b ∧ ∃ m, wr = w.drewN m) (fun _ y _ => (intOf y).toNat)
  case atStart => exact ⟨a, b, rfl, rfl, ha, hb, rfl, 0, rfl⟩
  case round =>
    obtain ⟨c, d, rfl, rfl, hc, hd, hg, q, rfl⟩ := hrel
    have Hg := Lib.hid hg; clear hg
    by_cases h0 : d = 0
    · subst h0
      go_wp2
      go_ret
      exact ⟨ret_int (by rw [← Hg.out, Nat.gcd_zero_right]), q, rfl⟩
    · have h1 : ((d : Int) != 0) = true := by rw [bne_iff_ne]; omega
      have h2 : (d : Int) ≠ 0 := by omega
      have hm : ((c : Int) % (d : Int)) = ((c % d : Nat) : Int) := by omega
      have hlt : c % d < d := Nat.mod_lt _ (by omega)
      have hle : c % d ≤ 1073741824 := by omega
      have hgc : Nat.gcd d (c % d) = Nat.gcd c d := by rw [Nat.gcd_comm c d, Nat.gcd_rec d c, Nat.gcd_comm]
      have Hm := Lib.hid hm
      have Hc := Lib.hid hgc
      clear hm hgc h0
      go_wp2
      go_region
      go_wp2
      go_roundw
      case rel => exact ⟨d, c % d, rfl, by rw [Hm.out], hd, hle, by rw [Hc.out, Hg.out], q + 1, rfl⟩
      case measure => simp [intOf]; omega
theorem ratB_iff (n d : Int) : ratB n d = (decide (1 ≤ d ∧ d ≤ 1073741824) && (decide (-1073741824 ≤ n ∧ n ≤ 1073741824) && decide (Nat.gcd n.natAbs d.natAbs = 1))) := rfl
theorem intNat_one (k : Nat) : ((k : Int) == 1) = decide (k = 1) := by
  by_cases h : k = 1
  · subst h; rfl
  · rw [decide_eq_false h]; exact beq_eq_false_iff_ne.2 (by omega)
set_option maxHeartbeats 2000000 in
set_option maxRecDepth 20000 in
/-- ratio.Valid -/
theorem rvalid_any (n d : Int) (w : World) : Calls Try.prog 90 #[.agg #[.int .i64 n, .int .i64 d]] w fun e w' => e = .returned (.bool (ratB n d)) ∧ Kp w w' := by
  have Hr := Lib.hid (ratB_iff n d)
  have k1 : Kp w (w.alloc (.cells #[.int .i64 n, .int .i64 d] 23)) := (Kp.refl w).alloc _
  have hS : (w.alloc (.cells #[.int .i64 n, .int .i64 d] 23)).cell? ⟨w.heap.size, 0, none⟩ = some (.int .i64 n) ∧ (w.alloc (.cells #[.int .i64 n, .int .i64 d] 23)).cell? ⟨w.heap.size, 1, none⟩ = some (.int .i64 d) := by simp
  go_enter Try.func90, Try.ntmps90
  go_upto_region 1 with fail
  generalize w.alloc _ = W at *
  have kd := (Kp.refl W).drew
  obtain ⟨s0, s1⟩ := hS
  have e0 := kd.cell s0
  have e1 := kd.cell s1
  have HK := Lib.hid (k1.trans kd)
  have HK1 := Lib.hid k1
  clear kd k1
  by_cases c0 : 1 ≤ d
  · by_cases c1 : d ≤ 1073741824
    · by_cases c2 : -1073741824 ≤ n
      · by_cases c3 : n ≤ 1073741824
        · have hg0 : n.natAbs ≤ 1073741824 := by omega
          have hg1 : d.natAbs ≤ 1073741824 := by omega
          have d0 : -1073741824 ≤ d := by omega
          have hr := Hr.out
          rw [decide_eq_true ⟨c0, c1⟩, decide_eq_true ⟨c2, c3⟩] at hr
          have Hr := Lib.hid hr
          clear hr e0 e1
          go_quiet (first
            | (go_at_call_of 103 n; exact Calls.quiet_of_same (rsize_any n _ c2 c3))
            | (go_at_call_of 103 d; exact Calls.quiet_of_same (rsize_any d _ d0 c1))
            | (go_at_call 102; exact Calls.quiet_of (rgcd_any n.natAbs d.natAbs _ hg0 hg1))
            | fail)
          all_goals
            go_wp2_with fail
            go_ret
            exact ⟨ret_bool (by rw [Hr.out, Bool.true_and, Bool.true_and]; exact intNat_one _), HK1.out.drewN _⟩
        · have hr := Hr.out
          rw [decide_eq_false (p := -1073741824 ≤ n ∧ n ≤ 1073741824) (by omega)] at hr
          have Hr := Lib.hid hr
          clear hr
          clear e0 e1
          go_quiet (fail)
          all_goals
            go_wp2_with fail
            go_ret
            exact ⟨ret_bool (by rw [Hr.out]; simp), HK1.out.drewN _⟩
      · have hr := Hr.out
        rw [decide_eq_false (p := -1073741824 ≤ n ∧ n ≤ 1073741824) (by omega)] at hr
        have Hr := Lib.hid hr
        clear hr
        clear e0 e1
        go_quiet (fail)
        all_goals
          go_wp2_with fail
          go_ret
          exact ⟨ret_bool (by rw [Hr.out]; simp), HK1.out.drewN _⟩
    · have hr := Hr.out
      rw [decide_eq_false (p := 1 ≤ d ∧ d ≤ 1073741824) (by omega)] at hr
      have Hr := Lib.hid hr
      clear hr
      clear e0 e1
      go_quiet (fail)
      all_goals
        go_wp2_with fail
        go_ret
        exact ⟨ret_bool (by rw [Hr.out]; simp), HK1.out.drewN _⟩
  · have hr := Hr.out
    rw [decide_eq_false (p := 1 ≤ d ∧ d ≤ 1073741824) (by omega)] at hr
    have Hr := Lib.hid hr
    clear hr
    clear e0 e1
    go_quiet (fail)
    all_goals
      go_wp2_with fail
      go_ret
      exact ⟨ret_bool (by rw [Hr.out]; simp), HK1.out.drewN _⟩
end Go.Proofs.Ythaphbbeiglolaa
