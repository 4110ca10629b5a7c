/-
  Walks: the first reference's Cmp; the second one's times.
  Walks: the first reference's Add, Sub.
-/
import Derived.Test.YtkkiinbgjjjcoaaGreatDoorMR1A
import Derived.Test.YtkkiinbgjjjcoaaGreatDoorMMul
section
namespace Go.Proofs.YtkkiinbgjjjcoaaGreatDoor
open Go.RowKit

theorem val_ext {xs ys : List Nat} (h : ∀ i, nth xs i = nth ys i) : val xs = val ys := by
  induction xs generalizing ys with
  | nil =>
    induction ys with
    | nil => rfl
    | cons y ys ih =>
      have h0 := h 0
      rw [nth_cons_zero] at h0
      have h1 : val ([] : List Nat) = val ys := ih (fun i => by
        have := h (i + 1)
        rw [nth_cons_succ] at this
        rw [← this, nth_ge (by simp), nth_ge (by simp)])
      rw [val_cons, ← h1, ← h0]; rfl
  | cons x xs ih =>
    cases ys with
    | nil =>
      have h0 := h 0
      rw [nth_cons_zero] at h0
      have h1 : val xs = val ([] : List Nat) := ih (fun i => by
        have := h (i + 1)
        rw [nth_cons_succ] at this
        rw [this, nth_ge (by simp), nth_ge (by simp)])
      rw [val_cons, h1, h0]; rfl
    | cons y ys =>
      have h0 := h 0
      rw [nth_cons_zero, nth_cons_zero] at h0
      have h1 : val xs = val ys := ih (fun i => by
        have := h (i + 1)
        rwa [nth_cons_succ, nth_cons_succ] at this)
      rw [val_cons, val_cons, h1, h0]
theorem val_low_lt {xs : List Nat} (h : Lt32 xs) (j : Nat) : val (xs.take j) < 4294967296 ^ j := by
  have := val_lt (h.take j)
  refine Nat.lt_of_lt_of_le this (Nat.pow_le_pow_right (by decide) ?_)
  rw [List.length_take]; omega
theorem val_split (xs : List Nat) (j : Nat) : val xs = val (xs.take j) + 4294967296 ^ j * nth xs j + 4294967296 ^ (j + 1) * val (xs.drop (j + 1)) := by
  have h1 := val_take_step xs j
  by_cases h : j + 1 ≤ xs.length
  · have h2 := val_take_drop xs (j + 1) h
    rw [h1] at h2
    exact h2
  · have e1 : xs.take (j + 1) = xs := List.take_of_length_le (by omega)
    have e2 : xs.drop (j + 1) = [] := List.drop_of_length_le (by omega)
    rw [e1] at h1
    have e3 : val ([] : List Nat) = 0 := rfl
    rw [e2, e3, Nat.mul_zero, Nat.add_zero]
    exact h1
theorem val_lt_nth {xs ys : List Nat} {j : Nat} (hx : Lt32 xs) (he : ∀ i, j < i → nth xs i = nth ys i) (hlt : nth xs j < nth ys j) : val xs < val ys := by
  rw [val_split xs j, val_split ys j]
  have h1 : val (xs.drop (j + 1)) = val (ys.drop (j + 1)) := val_ext fun i => by rw [nth_drp, nth_drp]; exact he _ (by omega)
  have h2 := val_low_lt hx j
  rw [h1]
  have h3 : 4294967296 ^ j * (nth xs j + 1) ≤ 4294967296 ^ j * nth ys j := Nat.mul_le_mul_left _ hlt
  rw [Nat.mul_add, Nat.mul_one] at h3
  omega
set_option maxHeartbeats 2000000 in
theorem r1cmp_any (a b : Option Addr) (xs ys : List Nat) (c d : Nat) (w : World) (h1 : Rd w a xs) (h2 : Rd w b ys) (hxl : xs.length ≤ 1100000) (hyl : ys.length ≤ 1100000) :
    Calls Tryz.prog 72 #[.slice a xs.length c, .slice b ys.length d] w fun e w' => e = .returned (.int .i64 (cmpN (val xs) (val ys))) ∧ w = w' := by
  obtain ⟨L, hL⟩ : ∃ L : Nat, (L : Int) = max (xs.length : Int) ys.length := ⟨max xs.length ys.length, by omega⟩
  have hL2 : xs.length ≤ L ∧ ys.length ≤ L ∧ L ≤ 1100000 := by omega
  obtain ⟨hL3, hL4, hL5⟩ := hL2
  have hst : max (xs.length : Int) ys.length - 1 = (L : Int) - 1 := by omega
  go_enter Tryz.func72, Tryz.ntmps72
  go_wp2_with fail
  go_loopw [5] (fun ix wr => ∃ k : Nat, k ≤ L ∧ ix = .int .i64 ((k : Int) - 1) ∧ (∀ i, k ≤ i → nth xs i = nth ys i) ∧ w = wr) (fun ix _ => (intOf ix + 1).toNat)
  case atStart => exact ⟨L, Nat.le_refl _, by congr 1 <;> omega, fun i hi => by rw [nth_ge (by omega), nth_ge (by omega)], rfl⟩
  case round =>
    obtain ⟨k, hk, rfl, hz, rfl⟩ := hrel
    have Hz := Lib.hid hz
    clear hz
    rcases k with _ | j
    · rw [show (((0 : Nat) : Int) - 1) = -1 from rfl]
      have HE := Lib.hid (cmpN_eq (val_ext (fun i => Hz.out i (Nat.zero_le _))))
      go_wp2_with fail
      go_ret
      exact ⟨ret_int HE.out.symm, rfl⟩
    · rw [show (((j + 1 : Nat) : Int) - 1) = (j : Int) from by omega]
      rcases Nat.lt_trichotomy (nth xs j) (nth ys j) with hd1 | hd1 | hd1
      · have HR := Lib.hid (cmpN_lt (val_lt_nth h1.lt32 (fun i hi => Hz.out i hi) hd1))
        go_wp2_with fail
        refine (r1at_any a xs c j _ h1).mono ?_
        rintro e w1 ⟨rfl, rfl⟩
        go_wp2_with fail
        refine (r1at_any b ys d j _ h2).mono ?_
        rintro e w1 ⟨rfl, rfl⟩
        go_wp2_with fail
        go_ret
        exact ⟨ret_int HR.out.symm, rfl⟩
      · have hd2 : ¬ nth xs j < nth ys j := by omega
        have hd3 : ¬ nth ys j < nth xs j := by omega
        have Hd1 := Lib.hid hd1
        clear hd1
        go_wp2_with fail
        refine (r1at_any a xs c j _ h1).mono ?_
        rintro e w1 ⟨rfl, rfl⟩
        go_wp2_with fail
        refine (r1at_any b ys d j _ h2).mono ?_
        rintro e w1 ⟨rfl, rfl⟩
        go_wp2_with fail
        refine (r1at_any a xs c j _ h1).mono ?_
        rintro e w1 ⟨rfl, rfl⟩
        go_wp2_with fail
        refine (r1at_any b ys d j _ h2).mono ?_
        rintro e w1 ⟨rfl, rfl⟩
        go_wp2_with fail
        go_roundw
        case rel =>
          refine ⟨j, by omega, rfl, fun i hi => ?_, by first | rfl | trivial⟩
          by_cases hij : i = j
          · rw [hij]; exact Hd1.out
          · exact Hz.out i (by omega)
        case measure => simp [intOf]
      · have hd2 : ¬ nth xs j < nth ys j := by omega
        have HR := Lib.hid (cmpN_gt (val_lt_nth h2.lt32 (fun i hi => (Hz.out i hi).symm) hd1))
        go_wp2_with fail
        refine (r1at_any a xs c j _ h1).mono ?_
        rintro e w1 ⟨rfl, rfl⟩
        go_wp2_with fail
        refine (r1at_any b ys d j _ h2).mono ?_
        rintro e w1 ⟨rfl, rfl⟩
        go_wp2_with fail
        refine (r1at_any a xs c j _ h1).mono ?_
        rintro e w1 ⟨rfl, rfl⟩
        go_wp2_with fail
        refine (r1at_any b ys d j _ h2).mono ?_
        rintro e w1 ⟨rfl, rfl⟩
        go_wp2_with fail
        go_ret
        exact ⟨ret_int HR.out.symm, rfl⟩
end Go.Proofs.YtkkiinbgjjjcoaaGreatDoor
end

section
namespace Go.Proofs.YtkkiinbgjjjcoaaGreatDoor
open Go.RowKit

set_option maxHeartbeats 2000000 in
set_option maxRecDepth 100000 in
theorem r1add_any (a b : Option Addr) (xs ys : List Nat) (c d : Nat) (w : World) (h1 : Rd w a xs) (h2 : Rd w b ys) (hxl : xs.length ≤ 1000000) (hyl : ys.length ≤ 1000000) :
    Calls Tryz.prog 74 #[.slice a xs.length c, .slice b ys.length d] w (NatOut w (val xs + val ys)) := by
  obtain ⟨L, hL⟩ : ∃ L : Nat, (L : Int) = max (xs.length : Int) ys.length := ⟨max xs.length ys.length, by omega⟩
  have hL2 : xs.length ≤ L ∧ ys.length ≤ L ∧ L ≤ 1000000 := by omega
  obtain ⟨hL3, hL4, hL5⟩ := hL2
  go_enter Tryz.func74, Tryz.ntmps74
  go_wp2_with fail
  go_loopw [5, 6, 7] (fun v cy ix wr => ∃ (k q : Nat) (zs : List Nat), k ≤ L + 1 ∧ q ≤ 1 ∧ (k = L + 1 → q = 0) ∧ cy = .int .u64 q ∧ ix = .int .i64 k ∧ zs.length = k ∧ Own wr w.heap.size v zs ∧
      val zs + 4294967296 ^ k * q = val (xs.take k) + val (ys.take k) ∧ Kp w wr) (fun _ _ ix _ => L + 1 - (intOf ix).toNat)
  case atStart => exact ⟨0, 0, [], by omega, by decide, fun _ => rfl, rfl, rfl, rfl, Own.nil _ _, by simp [val], .refl _⟩
  case round =>
    obtain ⟨k, q, zs, hk, hq, hkq, rfl, rfl, hzl, hown, hvz, hkp⟩ := hrel
    have Hvz := Lib.hid hvz
    have Hzl := Lib.hid hzl
    have Hkq := Lib.hid hkq
    have hzl2 : zs.length + 1 ≤ 9000000 := by omega
    clear hvz hkq
    rcases (show k < L ∨ (L ≤ k ∧ q = 1) ∨ (L ≤ k ∧ q = 0) by omega) with hlt | ⟨hge, hq1⟩ | ⟨hge, hq0⟩
    · have ht : (k : Int) < max (xs.length : Int) ys.length := by omega
      clear hzl
      have Hst := Lib.hid (fun z c' => plus_step (z := z) (c' := c') Hzl.out Hvz.out)
      have bx := h1.lt32.nth k
      have by' := h2.lt32.nth k
      have hcl := Lib.hid (and_lowI (x := (nth xs k : Int) + nth ys k + q) (s := nth xs k + nth ys k + q) (by omega) (by omega))
      go_wp2_with fail
      refine (r1at_any a xs c k _ (h1.kp hkp)).mono ?_
      rintro e w1 ⟨rfl, rfl⟩
      go_wp2_with fail
      refine (r1at_any b ys d k _ (h2.kp hkp)).mono ?_
      rintro e w1 ⟨rfl, rfl⟩
      go_wp2_with (at_builtin; refine wpList_append_u32 rfl _ _ rfl w.heap.size _ _ rfl (hown.alloc _) _ _ rfl (World.cell?_alloc_new _ _ _ _) ((nth xs k + nth ys k + q) % 4294967296) hcl.out (Nat.mod_lt _ (by decide)) hzl2 (by have := hkp.size; simp; omega) ?_; intro a2 c2 w2 hown2 hb2)
      go_roundw
      case rel => exact ⟨k + 1, (nth xs k + nth ys k + q) / 4294967296, _, by omega, by omega, (fun h => absurd h (by omega)), by go_num, by go_num, by simp [Hzl.out], hown2, Hst.out _ _ (by omega), (hkp.alloc _).below.trans hb2⟩
      case measure => simp [intOf]; omega
    · have ht : ¬ (k : Int) < max (xs.length : Int) ys.length := by omega
      have hk' : k = L := by
        have := Hkq.out
        rcases Nat.lt_or_ge L k with h | h
        · exact absurd (this (by omega)) (by omega)
        · omega
      have hq2 : (0 : Int) < (q : Int) := by omega
      have hX0 := Lib.hid (nth_ge (xs := xs) (i := k) (by omega))
      have hY0 := Lib.hid (nth_ge (xs := ys) (i := k) (by omega))
      have Hq1 := Lib.hid hq1
      have Hk := Lib.hid hk'
      clear hzl hge hq1 hk'
      have Hst := Lib.hid (fun z c' => plus_step (z := z) (c' := c') Hzl.out Hvz.out)
      have bx := h1.lt32.nth k
      have by' := h2.lt32.nth k
      have hcl := Lib.hid (and_lowI (x := (nth xs k : Int) + nth ys k + q) (s := nth xs k + nth ys k + q) (by omega) (by omega))
      go_wp2_with fail
      refine (r1at_any a xs c k _ (h1.kp hkp)).mono ?_
      rintro e w1 ⟨rfl, rfl⟩
      go_wp2_with fail
      refine (r1at_any b ys d k _ (h2.kp hkp)).mono ?_
      rintro e w1 ⟨rfl, rfl⟩
      go_wp2_with (at_builtin; refine wpList_append_u32 rfl _ _ rfl w.heap.size _ _ rfl (hown.alloc _) _ _ rfl (World.cell?_alloc_new _ _ _ _) ((nth xs k + nth ys k + q) % 4294967296) hcl.out (Nat.mod_lt _ (by decide)) hzl2 (by have := hkp.size; simp; omega) ?_; intro a2 c2 w2 hown2 hb2)
      go_roundw
      case rel => exact ⟨k + 1, (nth xs k + nth ys k + q) / 4294967296, _, by have := Hk.out; omega, by omega, fun _ => by have := Hq1.out; rw [hX0.out, hY0.out]; omega, by go_num, by go_num, by simp [Hzl.out], hown2, Hst.out _ _ (by omega), (hkp.alloc _).below.trans hb2⟩
      case measure => have := Hk.out; simp [intOf]; omega
    · have ht : ¬ (k : Int) < max (xs.length : Int) ys.length := by omega
      have hq2 : ¬ (0 : Int) < (q : Int) := by omega
      obtain ⟨a5, c5, e5, l5, m5, r5⟩ := hown.value
      subst e5
      have e3 := Lib.hid (show val zs = val xs + val ys by
        have e := Hvz.out
        rw [List.take_of_length_le (by omega), List.take_of_length_le (by omega), hq0, Nat.mul_zero, Nat.add_zero] at e
        exact e)
      have hT := Lib.hid (r1trim_any a5 zs c5 wr r5 l5 m5 (by omega))
      have hkk := Lib.hid hkp
      clear hkp hown hzl hq0 hge
      go_wp2_with fail
      refine hT.out.mono ?_
      rintro e w7 ⟨a6, c6, rfl, l6, m6, r6, k6⟩
      go_wp2_with fail
      go_ret
      rw [← e3.out]
      exact ⟨a6, c6, rfl, l6, m6, r6, hkk.out.trans k6⟩
set_option maxHeartbeats 2000000 in
set_option maxRecDepth 100000 in
theorem r1sub_any (a b : Option Addr) (xs ys : List Nat) (c d : Nat) (w : World) (h1 : Rd w a xs) (h2 : Rd w b ys) (hxl : xs.length ≤ 1000000) (hyl : ys.length ≤ xs.length) (hle : val ys ≤ val xs) :
    Calls Tryz.prog 100 #[.slice a xs.length c, .slice b ys.length d] w (NatOut w (val xs - val ys)) := by
  have Hle := Lib.hid hle
  clear hle
  go_enter Tryz.func100, Tryz.ntmps100
  go_wp2_with fail
  go_loopw [5, 6, 7] (fun v cy ix wr => ∃ (k q : Nat) (zs : List Nat), k ≤ xs.length ∧ q ≤ 1 ∧ cy = .int .u64 q ∧ ix = .int .i64 k ∧ zs.length = k ∧ Own wr w.heap.size v zs ∧
      val zs + val (ys.take k) = val (xs.take k) + 4294967296 ^ k * q ∧ Kp w wr) (fun _ _ ix _ => xs.length - (intOf ix).toNat)
  case atStart => exact ⟨0, 0, [], Nat.zero_le _, by decide, rfl, rfl, rfl, Own.nil _ _, by simp [val], .refl _⟩
  case round =>
    obtain ⟨k, q, zs, hk, hq, rfl, rfl, hzl, hown, hvz, hkp⟩ := hrel
    have Hvz := Lib.hid hvz
    have Hzl := Lib.hid hzl
    have hzl2 : zs.length + 1 ≤ 9000000 := by omega
    clear hvz
    by_cases hlx : k < xs.length
    · have bx := h1.lt32.nth k
      have by' := h2.lt32.nth k
      clear hzl
      have Hst := Lib.hid (fun z c' => minus_step (z := z) (c' := c') Hzl.out Hvz.out)
      have hcl := Lib.hid (and_lowI (x := (nth xs k : Int) + 4294967296 - (nth ys k : Int) - (q : Int)) (s := nth xs k + 4294967296 - (q + nth ys k)) (by omega) (by omega))
      go_wp2_with fail
      refine (r1at_any a xs c k _ (h1.kp hkp)).mono ?_
      rintro e w1 ⟨rfl, rfl⟩
      go_wp2_with fail
      refine (r1at_any b ys d k _ (h2.kp hkp)).mono ?_
      rintro e w1 ⟨rfl, rfl⟩
      go_wp2_with (at_builtin; refine wpList_append_u32 rfl _ _ rfl w.heap.size _ _ rfl (hown.alloc _) _ _ rfl (World.cell?_alloc_new _ _ _ _) ((nth xs k + 4294967296 - (q + nth ys k)) % 4294967296) hcl.out (Nat.mod_lt _ (by decide)) hzl2 (by have := hkp.size; simp; omega) ?_; intro a2 c2 w2 hown2 hb2)
      go_roundw
      case rel => exact ⟨k + 1, 1 - (nth xs k + 4294967296 - (q + nth ys k)) / 4294967296, _, by omega, by omega, by congr 1; omega, by go_num, by simp [Hzl.out], hown2, Hst.out _ _ (by omega), (hkp.alloc _).below.trans hb2⟩
      case measure => simp [intOf]; omega
    · obtain ⟨a5, c5, e5, l5, m5, r5⟩ := hown.value
      subst e5
      have e3 := Lib.hid (show val zs = val xs - val ys by
        have e := Hvz.out
        have hl := Hle.out
        have hb := val_lt r5.lt32
        rw [hzl] at hb
        rw [List.take_of_length_le (by omega), List.take_of_length_le (by omega)] at e
        generalize 4294967296 ^ k = P at *
        have hq2 : q = 0 ∨ q = 1 := by omega
        rcases hq2 with rfl | rfl <;> omega)
      have hT := Lib.hid (r1trim_any a5 zs c5 wr r5 l5 m5 (by omega))
      have hkk := Lib.hid hkp
      clear hkp hown hzl
      go_wp2_with fail
      refine hT.out.mono ?_
      rintro e w7 ⟨a6, c6, rfl, l6, m6, r6, k6⟩
      go_wp2_with fail
      go_ret
      rw [← e3.out]
      exact ⟨a6, c6, rfl, l6, m6, r6, hkk.out.trans k6⟩
end Go.Proofs.YtkkiinbgjjjcoaaGreatDoor
end
