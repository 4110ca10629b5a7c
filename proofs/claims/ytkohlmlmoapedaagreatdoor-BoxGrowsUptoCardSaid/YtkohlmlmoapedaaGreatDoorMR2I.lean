/-
  Walks: the reference's Checked.
  Walks: the reference's left.
-/
import Derived.Test.YtkohlmlmoapedaaGreatDoorMR2H
import Derived.Test.YtkohlmlmoapedaaGreatDoorMR2E
import Derived.Test.YtkohlmlmoapedaaGreatDoorMCmp
section
namespace Go.Proofs.YtkohlmlmoapedaaGreatDoor
open Go.RowKit

set_option maxHeartbeats 2000000 in
theorem r2Checked_any (x : RD) (w : World) (h : x.rd w) :
    Calls Tryz.prog 34 #[.agg #[.bool x.neg, .slice x.a x.xs.length x.c, .int .i64 x.e]] w (NumE w (if x.vl then x.dy else .zero) (if x.vl then 0 else 9)) := by
  cases hv : x.vl with
  | false =>
    go_enter Tryz.func34, Tryz.ntmps34
    go_wp2_with fail
    generalize hW : ((w.alloc _).alloc _) = W at *
    have hk : Kp w W := hW ▸ ((Kp.refl w).alloc _).alloc _
    have hS : W.cell? ⟨w.heap.size, 0, none⟩ = some (.bool x.neg) ∧ W.cell? ⟨w.heap.size, 1, none⟩ = some (.slice x.a x.xs.length x.c) ∧ W.cell? ⟨w.heap.size, 2, none⟩ = some (.int .i64 x.e) := by rw [← hW]; simp
    have hB : Box3 W (w.heap.size + 1) (.bool false) (.slice none 0 0) (.int .i64 0) := hW ▸ Box3.new2 _ _ _ _ _ _
    clear hW
    have hr := h.kp hk
    refine (r2Valid_any x.neg x.a x.xs x.c x.e W hr.1 hr.2.2.2.1 hr.2.2.2.2).mono ?_
    rw [show vld x.neg x.xs x.e = false from hv]
    rintro e w1 ⟨rfl, hk1⟩
    obtain ⟨q0, q1, q2, f0, f1, f2⟩ := hB.kp hk1
    have hk2 := hk.trans hk1
    clear hS hk hk1 hB
    go_wp2_with fail
    have hst := stored q0 q1 q2 (fun _ h => by cases h) (fun _ h => by cases h) (fun _ h => by cases h) (.bool false) (.slice none 0 0) (.int .i64 0)
    generalize (((w1.setCell _ _).setCell _ _).setCell _ _) = W2 at hst ⊢
    obtain ⟨s0, s1, s2, _, s4, s5, _, _⟩ := hst
    refine bodyPost_ret (v := .tuple #[.agg #[.bool false, .slice none 0 0, .int .i64 0], .int .i64 9]) (by simp [results, Tryz.results34, go_sem, s0, s1, s2]) rfl ?_
    exact numE_zero rfl (s5 _ hk2 (by omega))
  | true =>
    go_enter Tryz.func34, Tryz.ntmps34
    go_wp2_with fail
    generalize hW : ((w.alloc _).alloc _) = W at *
    have hk : Kp w W := hW ▸ ((Kp.refl w).alloc _).alloc _
    have hS : W.cell? ⟨w.heap.size, 0, none⟩ = some (.bool x.neg) ∧ W.cell? ⟨w.heap.size, 1, none⟩ = some (.slice x.a x.xs.length x.c) ∧ W.cell? ⟨w.heap.size, 2, none⟩ = some (.int .i64 x.e) := by rw [← hW]; simp
    have hB : Box3 W (w.heap.size + 1) (.bool false) (.slice none 0 0) (.int .i64 0) := hW ▸ Box3.new2 _ _ _ _ _ _
    clear hW
    have hr := h.kp hk
    refine (r2Valid_any x.neg x.a x.xs x.c x.e W hr.1 hr.2.2.2.1 hr.2.2.2.2).mono ?_
    rw [show vld x.neg x.xs x.e = true from hv]
    rintro e w1 ⟨rfl, hk1⟩
    have hS1 := keep3 hk1 hS
    obtain ⟨q0, q1, q2, f0, f1, f2⟩ := hB.kp hk1
    have hk2 := hk.trans hk1
    have hr1 := hr.kp hk1
    clear hS hk hk1 hB
    go_wp2_with fail
    have hst := stored q0 q1 q2 (fun _ h => by cases h) (fun _ h => by cases h) (fun _ h => by cases h) (.bool x.neg) (.slice x.a x.xs.length x.c) (.int .i64 x.e)
    generalize (((w1.setCell _ _).setCell _ _).setCell _ _) = W2 at hst ⊢
    obtain ⟨s0, s1, s2, _, s4, s5, _, _⟩ := hst
    refine bodyPost_ret (v := .tuple #[.agg #[.bool x.neg, .slice x.a x.xs.length x.c, .int .i64 x.e], .int .i64 0]) (by simp [results, Tryz.results34, go_sem, s0, s1, s2]) rfl ?_
    exact ⟨x, rfl, ⟨s4 _ _ hr1.1, hr1.2⟩, rfl, fun _ => hv, s5 _ hk2 (by omega)⟩
end Go.Proofs.YtkohlmlmoapedaaGreatDoor
end

section
namespace Go.Proofs.YtkohlmlmoapedaaGreatDoor
open Go.RowKit

set_option maxHeartbeats 2000000 in
set_option maxRecDepth 100000 in
theorem r2left_any (a : Option Addr) (xs : List Nat) (c n : Nat) (w : World) (h1 : Rd w a xs) (hxl : xs.length ≤ 100000) (hn : n ≤ 65536) :
    Calls Tryz.prog 56 #[.slice a xs.length c, .int .i64 n] w (NatOut w (val xs * 2 ^ n)) := by
  have hmk := make_u32 ((n : Int) / 32) (n / 32) (by omega) (by omega)
  go_enter Tryz.func56, Tryz.ntmps56
  go_wp2_with fail
  clear hmk
  have hr : n % 32 < 32 := Nat.mod_lt _ (by decide)
  go_loopw [5, 6, 7] (fun v cy ix wr => ∃ (k cr : Nat) (a' : Option Addr) (c' : Nat) (zs : List Nat), k ≤ xs.length ∧ ix = .int .i64 k ∧ cy = .int .u64 cr ∧ v = .slice a' zs.length c' ∧ cr < 2 ^ (n % 32) ∧
      zs.length = n / 32 + k ∧ Own wr w.heap.size (.slice a' zs.length c') zs ∧ val zs + 4294967296 ^ (n / 32 + k) * cr = 4294967296 ^ (n / 32) * (2 ^ (n % 32) * val (xs.take k)) ∧ Kp w wr) (fun _ _ ix _ => xs.length - (intOf ix).toNat)
  case atStart =>
    refine ⟨0, 0, _, _, List.replicate (n / 32) 0, Nat.zero_le _, rfl, rfl, by rw [List.length_replicate], two_pow_pos _, by simp, ?_, by simp [val, val_replicate], (Kp.refl _).alloc _⟩
    rw [List.length_replicate]
    exact Own.made _ _ _ (by omega) (by omega) _ (Nat.le_refl _)
  case round =>
    obtain ⟨k, cr, a', c', zs, hk, rfl, rfl, rfl, hcr, hzl, hown, hvz, hkp⟩ := hrel
    have Hvz := Lib.hid hvz
    have Hzl := Lib.hid hzl
    have hzl1 : zs.length ≤ n / 32 + k := by omega
    have Hcr := Lib.hid hcr
    clear hvz hzl hcr
    by_cases hlt : k < xs.length
    · obtain ⟨b1, o1, rfl, hcx⟩ := (h1.kp hkp).some hlt
      have hx1 := hcx k hlt
      have bx := h1.lt32.nth k
      obtain ⟨s, hor, hs, hs2, hs3⟩ := shl_or bx hr Hcr.out
      have Hst := Lib.hid (shl_step (zs := zs) (q := n / 32) (k := k) Hzl.out Hvz.out hs)
      have Hs2 := Lib.hid hs2
      have hcl := Lib.hid (and_lowI (x := (s : Int)) (s := s) rfl (by omega))
      clear hcx hs hs2
      go_wp2_with (at_builtin; refine wpList_append_u32 rfl _ _ rfl w.heap.size _ _ rfl (hown.alloc _) _ _ rfl (World.cell?_alloc_new _ _ _ _) (s % 4294967296) hcl.out (by omega) (by omega) (by have := hkp.size; simp; omega) ?_; intro a2 c2 w2 hown2 hb2)
      go_roundw
      case rel =>
        refine ⟨k + 1, s / 4294967296, a2, c2, zs ++ [s % 4294967296], by omega, by go_num, by congr 1 <;> omega, by simp, Hs2.out, by simp [Hzl.out]; omega, by simpa using hown2, ?_, ((hkp.alloc _).below.trans hb2)⟩
        rw [val_take_step]; exact Hst.out
      case measure => simp [intOf]; omega
    · have hke : k = xs.length := by omega
      have hcr3 : cr < 4294967296 := by
        have := Nat.lt_of_lt_of_le Hcr.out (Nat.pow_le_pow_right (by decide) (show n % 32 ≤ 31 by omega))
        omega
      have e3 := Lib.hid (show val (zs ++ [cr]) = val xs * 2 ^ n by
        have e2 := Hvz.out
        rw [hke, List.take_of_length_le (Nat.le_refl _), ← Nat.mul_assoc, pow_split] at e2
        rw [val_snoc, Hzl.out, hke, e2, Nat.mul_comm])
      clear hke
      have hkk := Lib.hid hkp
      go_wp2_with (at_builtin; refine wpList_append_u32 rfl _ _ rfl w.heap.size _ _ rfl (hown.alloc _) _ _ rfl (World.cell?_alloc_new _ _ _ _) cr (by omega) (by omega) (by omega) (by have := hkp.size; simp; omega) ?_; intro a2 c2 w2 hown2 hb2)
      obtain ⟨l5, m5, r5, r6⟩ := hown2.rd
      have hT := r2trim_any a2 (zs ++ [cr]) c2 w2 r6 m5 r5 (by rw [List.length_append, List.length_singleton]; omega)
      rw [List.length_append, List.length_singleton] at hT
      have HT := Lib.hid hT
      have hkw := Lib.hid (show Kp w w2 from (hkk.out.alloc _).below.trans hb2)
      clear hown2 r6 hT hb2 hown hkp l5 m5 r5
      refine HT.out.mono ?_
      rintro e w7 ⟨a6, c6, rfl, l6, m6, r6, k6⟩
      go_wp2_with fail
      go_ret
      rw [← e3.out]
      exact ⟨a6, c6, rfl, l6, m6, r6, hkw.out.trans k6⟩
end Go.Proofs.YtkohlmlmoapedaaGreatDoor
end
