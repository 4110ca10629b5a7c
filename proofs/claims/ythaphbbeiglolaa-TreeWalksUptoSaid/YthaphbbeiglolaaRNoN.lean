/-
  Walks: ref04.size, gcd, Valid; ref13.Args.
-/
import Derived.Deep.RegionHeld3
import Derived.Test.YthaphbbeiglolaaRDeN
namespace Go.Proofs.Ythaphbbeiglolaa
open Go.RowKit Go.Sort

/-- how many elements a kind has, the leaves among them -/
def argsK (k : Int) : Int := if 1 ≤ k ∧ k ≤ 2 then 0 else opsK k
set_option maxHeartbeats 2000000 in
theorem args_any (k : Int) (w : World) : Calls Try.prog 73 #[.int .i64 k] w fun e w' => e = .returned (.int .i64 (argsK k)) ∧ w' = w := by
  have hk := Lib.hid (show argsK k = if 1 ≤ k ∧ k ≤ 2 then 0 else if 3 ≤ k ∧ k ≤ 6 then 2 else if 7 ≤ k ∧ k ≤ 13 then 1 else -1 from rfl)
  go_enter Try.func73, Try.ntmps73
  go_wp2
  all_goals go_ret
  all_goals refine ⟨ret_int ?_, rfl⟩
  all_goals rw [hk.out]
  all_goals simp only [beq_iff_eq, beq_eq_false_iff_ne, ne_eq] at *
  all_goals (split <;> (try split) <;> (try split) <;> omega)
set_option maxHeartbeats 1000000 in
theorem r4size_any (n : Int) (w : World) (h0 : -1073741824 ≤ n) (h1 : n ≤ 1073741824) : Calls Try.prog 95 #[.int .i64 n] w fun e w' => e = .returned (.int .u64 (n.natAbs : Int)) ∧ w' = w := by
  go_enter Try.func95, Try.ntmps95
  by_cases hn : n < 0
  · go_wp2
    go_ret
    refine ⟨ret_int ?_, rfl⟩
    omega
  · go_wp2
    go_ret
    refine ⟨ret_int ?_, rfl⟩
    omega
set_option maxHeartbeats 1000000 in
theorem r4gcd_any (a b : Nat) (w : World) (ha : a ≤ 1073741824) (hb : b ≤ 1073741824) : Calls Try.prog 94 #[.int .u64 (a : Int), .int .u64 (b : Int)] w fun e w' => e = .returned (.int .u64 ((Nat.gcd a b : Nat) : Int)) ∧ ∃ m, w' = w.drewN m := by
  go_enter Try.func94, Try.ntmps94
  go_wp2
  go_loopw [0, 1] (fun x y wr => ∃ c d : Nat, x = .int .u64 (c : Int) ∧ y = .int .u64 (d : Int) ∧ c ≤ 1073741824 ∧ d ≤ 1073741824 ∧ Nat.gcd c d = Nat.gcd a b ∧ ∃ m, wr = w.drewN m) (fun _ y _ => (intOf y).toNat)
  case atStart => exact ⟨a, b, rfl, rfl, ha, hb, rfl, 0, rfl⟩
  case round =>
    obtain ⟨c, d, rfl, rfl, hc, hd, hg, q, rfl⟩ := hrel
    have Hg := Lib.hid hg; clear hg
    by_cases h0 : d = 0
    · subst h0
      go_wp2
      go_ret
      exact ⟨ret_int (by rw [← Hg.out, Nat.gcd_zero_right]), q, rfl⟩
    · have h1 : ((d : Int) != 0) = true := by rw [bne_iff_ne]; omega
      have h2 : (d : Int) ≠ 0 := by omega
      have hm : ((c : Int) % (d : Int)) = ((c % d : Nat) : Int) := by omega
      have hlt : c % d < d := Nat.mod_lt _ (by omega)
      have hle : c % d ≤ 1073741824 := by omega
      have hgc : Nat.gcd d (c % d) = Nat.gcd c d := by rw [Nat.gcd_comm c d, Nat.gcd_rec d c, Nat.gcd_comm]
      have Hm := Lib.hid hm
      have Hc := Lib.hid hgc
      clear hm hgc h0
      go_wp2
      go_region
      go_wp2
      go_roundw
      case rel => exact ⟨d, c % d, rfl, by rw [Hm.out], hd, hle, by rw [Hc.out, Hg.out], q + 1, rfl⟩
      case measure => simp [intOf]; omega
theorem kp_drewN {w w' : World} (h : ∃ m, w' = w.drewN m) : Kp w w' := by
  obtain ⟨m, rfl⟩ := h
  exact (Kp.refl w).drewN m
set_option maxHeartbeats 2000000 in
set_option maxRecDepth 20000 in
/-- ref04.Valid -/
theorem r4valid_any (n d : Int) (w : World) : Calls Try.prog 74 #[.agg #[.int .i64 n, .int .i64 d]] w fun e w' => e = .returned (.bool (ratB n d)) ∧ Kp w w' := by
  have Hr := Lib.hid (ratB_iff n d)
  have k1 : Kp w (w.alloc (.cells #[.int .i64 n, .int .i64 d] 23)) := (Kp.refl w).alloc _
  have hS : (w.alloc (.cells #[.int .i64 n, .int .i64 d] 23)).cell? ⟨w.heap.size, 0, none⟩ = some (.int .i64 n) ∧ (w.alloc (.cells #[.int .i64 n, .int .i64 d] 23)).cell? ⟨w.heap.size, 1, none⟩ = some (.int .i64 d) := by simp
  go_enter Try.func74, Try.ntmps74
  go_upto_region 1 with fail
  generalize w.alloc _ = W at *
  have kd := (Kp.refl W).drew
  obtain ⟨s0, s1⟩ := hS
  have e0 := kd.cell s0
  have e1 := kd.cell s1
  have HK := Lib.hid (k1.trans kd)
  have HK1 := Lib.hid k1
  clear kd k1
  by_cases c0 : 1 ≤ d
  · by_cases c1 : d ≤ 1073741824
    · by_cases c2 : -1073741824 ≤ n
      · by_cases c3 : n ≤ 1073741824
        · have hg0 : n.natAbs ≤ 1073741824 := by omega
          have hg1 : d.natAbs ≤ 1073741824 := by omega
          have d0 : -1073741824 ≤ d := by omega
          have hr := Hr.out
          rw [decide_eq_true ⟨c0, c1⟩, decide_eq_true ⟨c2, c3⟩] at hr
          have Hr := Lib.hid hr
          clear hr
          obtain ⟨d', hd'⟩ : ∃ d' : Nat, d = d' := ⟨d.toNat, by omega⟩
          subst hd'
          have hd1 : d' ≤ 1073741824 := by omega
          have hw : IntKind.u64.wrap (d' : Int) = (d' : Int) := IntWalk.u64_in _ (by omega)
          have G1 : decide ((1 : Int) ≤ d') = true := decide_eq_true c0
          have G2 : decide ((d' : Int) ≤ 1073741824) = true := decide_eq_true c1
          have G3 : decide (-1073741824 ≤ n) = true := decide_eq_true c2
          have G4 : decide (n ≤ 1073741824) = true := decide_eq_true c3
          have HW := Lib.hid (Kp.refl W.drew)
          have hSd : W.drew.cell? ⟨w.heap.size, 0, none⟩ = some (.int .i64 n) ∧ W.drew.cell? ⟨w.heap.size, 1, none⟩ = some (.int .i64 (d' : Int)) := ⟨e0, e1⟩
          clear s0 s1 e0 e1
          go_region_held3 (fun w' => w'.cell? ⟨w.heap.size, 0, none⟩ = some (.int .i64 n) ∧ w'.cell? ⟨w.heap.size, 1, none⟩ = some (.int .i64 (d' : Int))) (first | with_reducible assumption | with_reducible exact ⟨Kp.cell (by assumption) hSd.1, Kp.cell (by assumption) hSd.2⟩ | fail) (first
            | (go_at_call 95; go_fit (r4size_any n _ c2 c3); rintro r w4 ⟨rfl, rfl⟩)
            | (go_at_call 94; go_fit (r4gcd_any n.natAbs d' _ hg0 hd1); rintro r w5 ⟨rfl, hm5⟩; have k5 := kp_drewN hm5; clear hm5)
            | fail)
          go_wp2_with fail
          go_ret
          exact ⟨ret_bool (by rw [Hr.out, Bool.true_and, Bool.true_and]; exact intNat_one _), HK.out.trans k5⟩
        · have hr := Hr.out
          rw [decide_eq_false (p := -1073741824 ≤ n ∧ n ≤ 1073741824) (by omega)] at hr
          have Hr := Lib.hid hr
          clear hr
          clear e0 e1
          go_quiet (fail)
          all_goals
            go_wp2_with fail
            go_ret
            exact ⟨ret_bool (by rw [Hr.out]; simp), HK1.out.drewN _⟩
      · have hr := Hr.out
        rw [decide_eq_false (p := -1073741824 ≤ n ∧ n ≤ 1073741824) (by omega)] at hr
        have Hr := Lib.hid hr
        clear hr
        clear e0 e1
        go_quiet (fail)
        all_goals
          go_wp2_with fail
          go_ret
          exact ⟨ret_bool (by rw [Hr.out]; simp), HK1.out.drewN _⟩
    · have hr := Hr.out
      rw [decide_eq_false (p := 1 ≤ d ∧ d ≤ 1073741824) (by omega)] at hr
      have Hr := Lib.hid hr
      clear hr
      clear e0 e1
      go_quiet (fail)
      all_goals
        go_wp2_with fail
        go_ret
        exact ⟨ret_bool (by rw [Hr.out]; simp), HK1.out.drewN _⟩
  · have hr := Hr.out
    rw [decide_eq_false (p := 1 ≤ d ∧ d ≤ 1073741824) (by omega)] at hr
    have Hr := Lib.hid hr
    clear hr
    clear e0 e1
    go_quiet (fail)
    all_goals
      go_wp2_with fail
      go_ret
      exact ⟨ret_bool (by rw [Hr.out]; simp), HK1.out.drewN _⟩
end Go.Proofs.Ythaphbbeiglolaa
