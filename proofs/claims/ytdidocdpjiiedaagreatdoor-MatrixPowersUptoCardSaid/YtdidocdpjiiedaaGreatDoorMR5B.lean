/-
  Walks: the fifth reference's Prec, Whole, made, known.
  Walks: the first reference's Trim, at, Bits.
  Walks: the first reference's Shr, Shl.
  Walks: the first reference's Cmp; the second one's times.
  Walks: the first reference's Add, Sub.
  Walks: the third reference's Prec, fault, greatest; plain: what Cut computes.
-/
import Derived.Test.YtdidocdpjiiedaaGreatDoorMR2I
import Derived.Test.YtdidocdpjiiedaaGreatDoorMNrmP
import Derived.Test.YtdidocdpjiiedaaGreatDoorMMul
import Derived.Test.YtdidocdpjiiedaaGreatDoorMRoAdd
import Derived.Test.YtdidocdpjiiedaaGreatDoorMR2H
section
namespace Go.Proofs.YtdidocdpjiiedaaGreatDoor
open Go.RowKit

theorem r5prec_any (p : Int) (w : World) :
    Calls Tryz.prog 127 #[.int .i64 p] w fun e w' => e = .returned (.bool (preB p)) ∧ w = w' := by
  by_cases h1 : 8 ≤ p
  · by_cases h2 : p ≤ 512
    · have H := Lib.hid (show preB p = true from decide_eq_true ⟨h1, h2⟩)
      go_enter Tryz.func127, Tryz.ntmps127
      go_wp2_with fail
      go_ret
      exact ⟨ret_bool (by first | exact H.out.symm | (rw [H.out]; simp; omega)), rfl⟩
    · have H := Lib.hid (show preB p = false from decide_eq_false (by omega))
      go_enter Tryz.func127, Tryz.ntmps127
      go_wp2_with fail
      go_ret
      exact ⟨ret_bool (by first | exact H.out.symm | (rw [H.out]; simp; omega)), rfl⟩
  · have H := Lib.hid (show preB p = false from decide_eq_false (by omega))
    go_enter Tryz.func127, Tryz.ntmps127
    go_wp2_with fail
    go_ret
    exact ⟨ret_bool (by first | exact H.out.symm | (rw [H.out]; simp; omega)), rfl⟩
set_option maxHeartbeats 4000000 in
theorem r5Whole_any (w : World) :
    Calls Tryz.prog 129 #[] w fun e w' => e = .returned (.agg #[.bool false, .slice none 0 0, .int .i64 0, .bool false, .slice none 0 0, .int .i64 0, .bool true]) ∧ Kp w w' := by
  go_enter Tryz.func129, Tryz.ntmps129
  go_wp2_with fail
  refine bodyPost_ret (v := .agg #[.bool false, .slice none 0 0, .int .i64 0, .bool false, .slice none 0 0, .int .i64 0, .bool true]) (by simp [results, Tryz.results129, go_sem]) rfl ?_
  exact ⟨rfl, (Kp.refl w).alloc _⟩
set_option maxRecDepth 100000 in
set_option maxHeartbeats 4000000 in
theorem r5made_any (x y : RD) (e f : Int) (w : World) :
    Calls Tryz.prog 130 #[.agg #[.bool x.neg, .slice x.a x.xs.length x.c, .int .i64 x.e], .int .i64 e, .agg #[.bool y.neg, .slice y.a y.xs.length y.c, .int .i64 y.e], .int .i64 f] w fun r w' => r = .returned (.agg #[.bool (madeR x y e f).lo.neg, .slice (madeR x y e f).lo.a (madeR x y e f).lo.xs.length (madeR x y e f).lo.c, .int .i64 (madeR x y e f).lo.e, .bool (madeR x y e f).hi.neg, .slice (madeR x y e f).hi.a (madeR x y e f).hi.xs.length (madeR x y e f).hi.c, .int .i64 (madeR x y e f).hi.e, .bool (madeR x y e f).all]) ∧ Kp w w' := by
  by_cases h : e ≠ 0 ∨ f ≠ 0
  · have HM := Lib.hid (show madeR x y e f = wholeR by unfold madeR; rw [if_pos h])
    by_cases he : e = 0
    · have hf : f ≠ 0 := h.resolve_left (fun k => k he)
      have g2 : (f != 0) = true := by rw [bne, beq_eq_false_iff_ne.2 hf]; rfl
      have g3 : (f == 0) = false := beq_eq_false_iff_ne.2 hf
      clear h hf
      subst he
      go_enter Tryz.func130, Tryz.ntmps130
      go_wp2_with fail
      generalize hW : (((w.alloc _).alloc _).alloc _) = W at *
      have hk : Kp w W := hW ▸ (((Kp.refl w).alloc _).alloc _).alloc _
      have hV : Var7 W (w.heap.size + 1 + 1) := by rw [← hW]; exact Var7.new2 _ _ _ _
      clear hW
      go_fit (r5Whole_any _)
      rintro r w1 ⟨rfl, hk1⟩
      have hk2 := hk.trans hk1
      obtain ⟨⟨q0, q1, q2, q3, q4, q5, q6⟩, f0, f1, f2, f3, f4, f5, f6⟩ := hV.kp hk1
      go_wp2_with fail
      generalize hW9 : ((((((w1.setCell _ _).setCell _ _).setCell _ _).setCell _ _).setCell _ _).setCell _ _).setCell _ _ = W9
      obtain ⟨⟨s0, s1, s2, s3, s4, s5, s6⟩, hU⟩ := stored7 (show Box7 w1 _ _ _ _ _ _ _ _ from ⟨q0, q1, q2, q3, q4, q5, q6⟩) (fun _ h => by cases h) (fun _ h => by cases h) (fun _ h => by cases h) (fun _ h => by cases h) (fun _ h => by cases h) (fun _ h => by cases h) (fun _ h => by cases h) _ _ _ _ _ _ _ hW9
      clear hW9 q0 q1 q2 q3 q4 q5 q6 f0 f1 f2 f3 f4 f5 f6
      refine bodyPost_ret (v := .agg #[.bool false, .slice none 0 0, .int .i64 0, .bool false, .slice none 0 0, .int .i64 0, .bool true]) (by simp [results, Tryz.results130, go_sem, s0, s1, s2, s3, s4, s5, s6]) rfl ?_
      rw [HM.out]
      exact ⟨rfl, hU.2.2.1 _ hk2 (by omega)⟩
    · have g1 : (e != 0) = true := by rw [bne, beq_eq_false_iff_ne.2 he]; rfl
      have g3 : (e == 0) = false := beq_eq_false_iff_ne.2 he
      clear h he
      go_enter Tryz.func130, Tryz.ntmps130
      go_wp2_with fail
      generalize hW : (((w.alloc _).alloc _).alloc _) = W at *
      have hk : Kp w W := hW ▸ (((Kp.refl w).alloc _).alloc _).alloc _
      have hV : Var7 W (w.heap.size + 1 + 1) := by rw [← hW]; exact Var7.new2 _ _ _ _
      clear hW
      go_fit (r5Whole_any _)
      rintro r w1 ⟨rfl, hk1⟩
      have hk2 := hk.trans hk1
      obtain ⟨⟨q0, q1, q2, q3, q4, q5, q6⟩, f0, f1, f2, f3, f4, f5, f6⟩ := hV.kp hk1
      go_wp2_with fail
      generalize hW9 : ((((((w1.setCell _ _).setCell _ _).setCell _ _).setCell _ _).setCell _ _).setCell _ _).setCell _ _ = W9
      obtain ⟨⟨s0, s1, s2, s3, s4, s5, s6⟩, hU⟩ := stored7 (show Box7 w1 _ _ _ _ _ _ _ _ from ⟨q0, q1, q2, q3, q4, q5, q6⟩) (fun _ h => by cases h) (fun _ h => by cases h) (fun _ h => by cases h) (fun _ h => by cases h) (fun _ h => by cases h) (fun _ h => by cases h) (fun _ h => by cases h) _ _ _ _ _ _ _ hW9
      clear hW9 q0 q1 q2 q3 q4 q5 q6 f0 f1 f2 f3 f4 f5 f6
      refine bodyPost_ret (v := .agg #[.bool false, .slice none 0 0, .int .i64 0, .bool false, .slice none 0 0, .int .i64 0, .bool true]) (by simp [results, Tryz.results130, go_sem, s0, s1, s2, s3, s4, s5, s6]) rfl ?_
      rw [HM.out]
      exact ⟨rfl, hU.2.2.1 _ hk2 (by omega)⟩
  · have HM := Lib.hid (show madeR x y e f = ⟨x, y, false⟩ by unfold madeR; rw [if_neg h])
    have he : e = 0 := Classical.byContradiction fun k => h (.inl k)
    have hf : f = 0 := Classical.byContradiction fun k => h (.inr k)
    clear h
    subst he
    subst hf
    go_enter Tryz.func130, Tryz.ntmps130
    go_wp2_with fail
    refine bodyPost_ret (v := .agg #[.bool (RI.mk x y false).lo.neg, .slice (RI.mk x y false).lo.a (RI.mk x y false).lo.xs.length (RI.mk x y false).lo.c, .int .i64 (RI.mk x y false).lo.e, .bool (RI.mk x y false).hi.neg, .slice (RI.mk x y false).hi.a (RI.mk x y false).hi.xs.length (RI.mk x y false).hi.c, .int .i64 (RI.mk x y false).hi.e, .bool (RI.mk x y false).all]) (by simp [results, Tryz.results130, go_sem]) rfl ?_
    rw [HM.out]
    exact ⟨rfl, (((Kp.refl w).alloc _).alloc _).alloc _⟩
set_option maxHeartbeats 2000000 in
theorem r5known_any (x : RI) (w : World) (hx : x.rd w) :
    Calls Tryz.prog 128 #[.agg #[.bool x.lo.neg, .slice x.lo.a x.lo.xs.length x.lo.c, .int .i64 x.lo.e, .bool x.hi.neg, .slice x.hi.a x.hi.xs.length x.hi.c, .int .i64 x.hi.e, .bool x.all]] w fun e w' => e = .returned (.bool (goodI x)) ∧ Kp w w' := by
  have H := Lib.hid (show goodI x = (!x.all && x.vl) from rfl)
  go_enter Tryz.func128, Tryz.ntmps128
  go_wp2_with fail
  generalize hW : (w.alloc _) = W at *
  have hk : Kp w W := hW ▸ (Kp.refl w).alloc _
  have hS : W.cell? ⟨w.heap.size, 0, none⟩ = some (.bool x.lo.neg) ∧ W.cell? ⟨w.heap.size, 1, none⟩ = some (.slice x.lo.a x.lo.xs.length x.lo.c) ∧ W.cell? ⟨w.heap.size, 2, none⟩ = some (.int .i64 x.lo.e) ∧ W.cell? ⟨w.heap.size, 3, none⟩ = some (.bool x.hi.neg) ∧ W.cell? ⟨w.heap.size, 4, none⟩ = some (.slice x.hi.a x.hi.xs.length x.hi.c) ∧ W.cell? ⟨w.heap.size, 5, none⟩ = some (.int .i64 x.hi.e) ∧ W.cell? ⟨w.heap.size, 6, none⟩ = some (.bool x.all) := by rw [← hW]; simp
  clear hW
  go_fit (r5Valid_raw x _ (hx.kp hk))
  rintro e w1 ⟨rfl, hk1⟩
  obtain ⟨s0, s1, s2, s3, s4, s5, s6⟩ := keep7 hk1 hS
  cases hv : x.vl with
  | false =>
    go_wp2_with fail
    go_ret
    exact ⟨ret_bool (by rw [H.out, hv]; simp), hk.trans hk1⟩
  | true =>
    go_wp2_with fail
    go_ret
    exact ⟨ret_bool (by rw [H.out, hv]; simp), hk.trans hk1⟩
end Go.Proofs.YtdidocdpjiiedaaGreatDoor
end

section
namespace Go.Proofs.YtdidocdpjiiedaaGreatDoor
open Go.RowKit

set_option maxHeartbeats 1000000 in
theorem r1trim_any (a : Option Addr) (xs : List Nat) (c : Nat) (w : World) (h : Rd w a xs) (hc : xs.length ≤ c) (hm : c ≤ maxLen) (hl : xs.length ≤ 1100000) :
    Calls Tryz.prog 183 #[.slice a xs.length c] w (NatOut w (val xs)) := by
  have hm' := hm
  unfold maxLen at hm
  have hll := limbs_len_le h.lt32
  go_enter Tryz.func183, Tryz.ntmps183
  go_wp2
  go_loop [3] (fun x => ∃ n : Nat, n ≤ xs.length ∧ x = .int .i64 n ∧ ∀ i, n ≤ i → i < xs.length → nth xs i = 0) (fun x => (intOf x).toNat)
  case atStart => exact ⟨xs.length, Nat.le_refl _, rfl, fun i h1 h2 => by omega⟩
  case round =>
    obtain ⟨n, hn, rfl, hz⟩ := hrel
    have Hz := Lib.hid hz; clear hz
    by_cases h0 : n = 0
    · have htop := trim_top h.lt32 hn Hz.out (by omega)
      have hlen : (limbs (val xs)).length = n := by rw [← htop, List.length_take, Nat.min_eq_left hn]
      have hr := h.limbs.kp ((Kp.refl w).alloc (.cells #[] 88))
      have Hlen := Lib.hid hlen
      clear htop hlen
      subst h0
      go_wp2_with (at_builtin; refine wpList_append_u32s rfl _ _ rfl w.heap.size _ [] rfl (Own.empty w _ (Nat.le_refl _)) a (limbs (val xs)) c (by rw [Hlen.out]; rfl) hr (by simp; omega) (by simp) ?_; intro a2 c2 w2 hown2 hb2)
      go_ret
      obtain ⟨h5, h6, h7, h8⟩ := hown2.rd
      rw [List.nil_append] at h6 h8
      exact ⟨a2, c2, by simp, h6, h7, h8, ((Kp.refl w).alloc _).below.trans hb2⟩
    · obtain ⟨b, o, rfl, hcell⟩ := h.some (i := n - 1) (by omega)
      have hk := hcell (n - 1) (by omega)
      clear hcell
      by_cases hx : nth xs (n - 1) = 0
      · have hx2 : ((nth xs (n - 1) : Int) == 0) = true := by simp [hx]
        have Hx := Lib.hid hx; clear hx
        go_wp2
        go_round
        case rel =>
          refine ⟨n - 1, by omega, by congr 1; omega, fun i h1 h2 => ?_⟩
          by_cases hi : i = n - 1
          · rw [hi]; exact Hx.out
          · exact Hz.out i (by omega) h2
        case measure => simp [intOf]; omega
      · have hx2 : ((nth xs (n - 1) : Int) == 0) = false := by simp; omega
        have htop := trim_top h.lt32 hn Hz.out (fun _ => hx)
        have hlen : (limbs (val xs)).length = n := by rw [← htop, List.length_take, Nat.min_eq_left hn]
        have hr := h.limbs.kp ((Kp.refl w).alloc (.cells #[] 88))
        have Hlen := Lib.hid hlen
        clear htop hlen
        go_wp2_with (at_builtin; refine wpList_append_u32s rfl _ _ rfl w.heap.size _ [] rfl (Own.empty w _ (Nat.le_refl _)) (some ⟨b, o, none⟩) (limbs (val xs)) c (by rw [Hlen.out]; rfl) hr (by simp; omega) (by simp) ?_; intro a2 c2 w2 hown2 hb2)
        go_ret
        obtain ⟨h5, h6, h7, h8⟩ := hown2.rd
        rw [List.nil_append] at h6 h8
        exact ⟨a2, c2, by simp, h6, h7, h8, ((Kp.refl w).alloc _).below.trans hb2⟩
theorem r1at_any (a : Option Addr) (xs : List Nat) (c i : Nat) (w : World) (h : Rd w a xs) :
    Calls Tryz.prog 199 #[.slice a xs.length c, .int .i64 (i : Nat)] w fun e w' => e = .returned (.int .u64 (nth xs i : Nat)) ∧ w = w' := by
  by_cases hi : i < xs.length
  · obtain ⟨b, o, rfl, hc⟩ := h.some hi
    have hx := hc i hi
    have hb := h.lt32.nth i
    have hi0 : (0 : Int) ≤ (i : Int) := by omega
    have hi1 : (i : Int) < (xs.length : Int) := by omega
    clear hc
    go_enter Tryz.func199, Tryz.ntmps199
    go_wp2_with fail
    go_ret
    exact ⟨rfl, rfl⟩
  · have H0 := Lib.hid (nth_ge (xs := xs) (i := i) (by omega))
    have hi1 : ¬ (i : Int) < (xs.length : Int) := by omega
    clear hi
    go_enter Tryz.func199, Tryz.ntmps199
    go_wp2_with fail
    go_ret
    exact ⟨by rw [H0.out]; rfl, rfl⟩
theorem bits_at {xs : List Nat} {n : Nat} (h : Lt32 xs) (hn : n < xs.length) (hz : ∀ i, n + 1 ≤ i → i < xs.length → nth xs i = 0) (h0 : nth xs n ≠ 0) : bits (val xs) = 32 * n + bits (nth xs n) := by
  have ht := trim_top h (show n + 1 ≤ xs.length from hn) hz (fun _ => h0)
  have hlen : (limbs (val xs)).length = n + 1 := by rw [← ht, List.length_take, Nat.min_eq_left hn]
  have hv : val xs ≠ 0 := fun k => by rw [k, limbs_zero] at hlen; cases hlen
  obtain ⟨hb, _⟩ := bits_top hv
  rw [hlen, Nat.add_sub_cancel, ← ht] at hb
  rw [hb]
  congr 2
  rw [nth_eq (by rw [List.length_take]; omega), nth_eq hn, List.getElem_take]
theorem val_zero_of {xs : List Nat} (h : Lt32 xs) (hz : ∀ i, 0 ≤ i → i < xs.length → nth xs i = 0) : val xs = 0 := by
  have ht := trim_top h (Nat.zero_le xs.length) hz (fun k => absurd k (by omega))
  rw [List.take_zero] at ht
  have := val_limbs (val xs)
  rw [← ht] at this
  exact this.symm
set_option maxHeartbeats 2000000 in
theorem r1bits_any (a : Option Addr) (xs : List Nat) (c : Nat) (w : World) (h : Rd w a xs) (hl : xs.length ≤ 1100000) :
    Calls Tryz.prog 184 #[.slice a xs.length c] w fun e w' => e = .returned (.int .i64 (bits (val xs))) ∧ w = w' := by
  go_enter Tryz.func184, Tryz.ntmps184
  go_wp2_with fail
  go_loop [3] (fun x => ∃ n : Nat, n ≤ xs.length ∧ x = .int .i64 ((n : Int) - 1) ∧ ∀ i, n ≤ i → i < xs.length → nth xs i = 0) (fun x => (intOf x + 1).toNat)
  case atStart => exact ⟨xs.length, Nat.le_refl _, rfl, fun i h1 h2 => by omega⟩
  case round =>
    obtain ⟨n, hn, rfl, hz⟩ := hrel
    have Hz := Lib.hid hz; clear hz
    rcases n with _ | k
    · rw [show (((0 : Nat) : Int) - 1) = -1 from rfl]
      have HB := Lib.hid (show bits (val xs) = 0 by rw [val_zero_of h.lt32 Hz.out, bits_zero])
      go_wp2_with fail
      go_ret
      rw [HB.out]
      exact ⟨rfl, rfl⟩
    · rw [show (((k + 1 : Nat) : Int) - 1) = (k : Int) from by omega]
      obtain ⟨b, o, rfl, hcell⟩ := h.some (i := k) (by omega)
      have hx := hcell k (by omega)
      have hnt := h.lt32.nth k
      clear hcell
      by_cases h0 : nth xs k = 0
      · have hx2 : ((nth xs k : Int) != 0) = false := by simp [h0]
        have H0 := Lib.hid h0
        clear h0
        go_wp2_with fail
        go_round
        case rel =>
          refine ⟨k, by omega, rfl, fun i h1 h2 => ?_⟩
          by_cases hi : i = k
          · rw [hi]; exact H0.out
          · exact Hz.out i (by omega) h2
        case measure => simp [intOf]
      · have hx2 : ((nth xs k : Int) != 0) = true := by simp [h0]
        have HB := Lib.hid (bits_at h.lt32 (show k < xs.length by omega) Hz.out h0)
        have hbt : bits (nth xs k) ≤ 32 := bits_le.2 hnt
        clear h0
        go_wp2_with fail
        go_loop [4, 5] (fun v x => ∃ (y j : Nat), x = .int .u32 y ∧ v = .int .i64 ((32 * k + j : Nat) : Int) ∧ j + bits y = bits (nth xs k) ∧ y < 4294967296) (fun _ x => (intOf x).toNat)
        case atStart => exact ⟨nth xs k, 0, rfl, by congr 1 <;> omega, by omega, hnt⟩
        case round =>
          obtain ⟨y, j, rfl, rfl, hj, hy⟩ := hrel
          by_cases hy0 : y = 0
          · subst hy0
            rw [bits_zero] at hj
            have HB2 := Lib.hid (show bits (val xs) = 32 * k + j by rw [HB.out]; omega)
            go_wp2_with fail
            go_ret
            rw [HB2.out]
            exact ⟨rfl, rfl⟩
          · have h2 := bits_half hy0
            have h3 : 0 < y := by omega
            go_wp2_with fail
            go_round
            case rel => exact ⟨y / 2, j + 1, by go_num, by congr 1 <;> omega, by omega, by omega⟩
            case measure => simp [intOf]; omega
end Go.Proofs.YtdidocdpjiiedaaGreatDoor
end

section
namespace Go.Proofs.YtdidocdpjiiedaaGreatDoor
open Go.RowKit

theorem r1at_int (a : Option Addr) (xs : List Nat) (c : Nat) (j : Int) (i : Nat) (w : World) (h : Rd w a xs) (hj : j = i) :
    Calls Tryz.prog 199 #[.slice a xs.length c, .int .i64 j] w fun e w' => e = .returned (.int .u64 (nth xs i : Nat)) ∧ w = w' := by
  subst hj; exact r1at_any a xs c i w h
theorem nth_drp (xs : List Nat) (q k : Nat) : nth (xs.drop q) k = nth xs (q + k) := by
  unfold nth; rw [List.getD_eq_getElem?_getD, List.getD_eq_getElem?_getD, List.getElem?_drop]
theorem val_drop (xs : List Nat) (q : Nat) (h : Lt32 xs) : val (xs.drop q) = val xs / 4294967296 ^ q := by
  by_cases hq : q ≤ xs.length
  · have e := val_take_drop xs q hq
    have b := val_lt (h.take q)
    rw [List.length_take, Nat.min_eq_left hq] at b
    rw [e, Nat.add_mul_div_left _ _ (Nat.pow_pos (by decide)), Nat.div_eq_of_lt b, Nat.zero_add]
  · rw [List.drop_of_length_le (by omega), Nat.div_eq_of_lt]
    · rfl
    · exact Nat.lt_of_lt_of_le (val_lt h) (Nat.pow_le_pow_right (by decide) (by omega))
set_option maxHeartbeats 2000000 in
set_option maxRecDepth 100000 in
theorem r1shr_any (a : Option Addr) (xs : List Nat) (c n : Nat) (w : World) (h1 : Rd w a xs) (hxl : xs.length ≤ 1000000) (hn : n ≤ 40000000) :
    Calls Tryz.prog 185 #[.slice a xs.length c, .int .i64 (n : Nat)] w (NatOut w (val xs / 2 ^ n)) := by
  have hfin : val xs / 2 ^ n = val (xs.drop (n / 32)) / 2 ^ (n % 32) := by rw [val_drop _ _ h1.lt32, Nat.div_div_eq_div_mul, pow_split]
  rw [hfin]
  clear hfin
  have hvl : (xs.drop (n / 32)).length = xs.length - n / 32 := List.length_drop
  have hnth := nth_drp xs (n / 32)
  have hv32 : Lt32 (xs.drop (n / 32)) := h1.lt32.drop _
  generalize xs.drop (n / 32) = vs at *
  have hr : n % 32 < 32 := Nat.mod_lt _ (by decide)
  have Hvl := Lib.hid hvl
  have Hnth := Lib.hid hnth
  have H32 := Lib.hid hv32
  clear hvl hnth hv32
  go_enter Tryz.func185, Tryz.ntmps185
  go_wp2_with fail
  go_loopw [5, 6] (fun v ix wr => ∃ (k : Nat) (zs : List Nat), k ≤ xs.length - n / 32 ∧ ix = .int .i64 ((n / 32 + k : Nat) : Int) ∧ zs.length = k ∧ Own wr w.heap.size v zs ∧
    val zs * 2 ^ (n % 32) + nth vs 0 % 2 ^ (n % 32) = val (vs.take k) + 4294967296 ^ k * (nth vs k % 2 ^ (n % 32)) ∧ Kp w wr) (fun _ ix _ => xs.length - (intOf ix).toNat)
  case atStart => exact ⟨0, [], Nat.zero_le _, by go_num, rfl, Own.nil _ _, by simp [val], .refl _⟩
  case round =>
    obtain ⟨k, zs, hk, rfl, hzl, hown, hvz, hkp⟩ := hrel
    have Hvz := Lib.hid hvz
    have Hzl := Lib.hid hzl
    have hzl2 : zs.length + 1 ≤ 9000000 := by omega
    clear hvz
    by_cases hlt : n / 32 + k < xs.length
    · have bx := h1.lt32.nth (n / 32 + k)
      have bx2 := h1.lt32.nth (n / 32 + k + 1)
      have Hst := Lib.hid (fun z => right_step (z := z) Hzl.out Hvz.out)
      have Hl := Lib.hid (shr_limb (y := nth xs (n / 32 + k + 1)) bx hr)
      have hcl := Lib.hid (show Go.bits BinOp.and IntKind.u64 (((nth xs (n / 32 + k) : Int) + (nth xs (n / 32 + k + 1) : Int) * 4294967296) / 2 ^ (n % 32)) 4294967295 % 4294967296 = (((nth xs (n / 32 + k) + 4294967296 * nth xs (n / 32 + k + 1)) / 2 ^ (n % 32) % 4294967296 : Nat) : Int) by
        have := cell_low (r := n % 32) bx bx2
        rwa [Int.mul_comm 4294967296] at this)
      clear hzl
      go_wp2_with fail
      refine (r1at_int a xs c _ (n / 32 + k) _ (h1.kp hkp) (by omega)).mono ?_
      rintro e w1 ⟨rfl, rfl⟩
      go_wp2_with fail
      refine (r1at_int a xs c _ (n / 32 + k + 1) _ (h1.kp hkp) (by omega)).mono ?_
      rintro e w1 ⟨rfl, rfl⟩
      go_wp2_with (at_builtin; refine wpList_append_u32 rfl _ _ rfl w.heap.size _ _ rfl (hown.alloc _) _ _ rfl (World.cell?_alloc_new _ _ _ _) ((nth xs (n / 32 + k) + 4294967296 * nth xs (n / 32 + k + 1)) / 2 ^ (n % 32) % 4294967296) hcl.out (Nat.mod_lt _ (by decide)) hzl2 (by have := hkp.size; simp; omega) ?_; intro a2 c2 w2 hown2 hb2)
      go_roundw
      case rel => exact ⟨k + 1, _, by omega, by go_num, by simp [Hzl.out], hown2, Hst.out _ (by rw [Hnth.out, Hnth.out]; exact Hl.out), (hkp.alloc _).below.trans hb2⟩
      case measure => simp [intOf]; omega
    · have e2 := Hvz.out
      have h0 : nth vs k = 0 := nth_ge (by rw [Hvl.out]; omega)
      rw [h0, Nat.zero_mod, Nat.mul_zero, Nat.add_zero, List.take_of_length_le (by rw [Hvl.out]; omega)] at e2
      have hlt3 := Nat.mod_lt (nth vs 0) (two_pow_pos (n % 32))
      have e3 : val zs = val vs / 2 ^ (n % 32) := by
        rw [← e2, Nat.mul_comm, Nat.mul_add_div (two_pow_pos _), Nat.div_eq_of_lt hlt3, Nat.add_zero]
      obtain ⟨a5, c5, e5, l5, m5, r5⟩ := hown.value
      subst e5
      have E3 := Lib.hid e3
      have hT := Lib.hid (r1trim_any a5 zs c5 wr r5 l5 m5 (by have := Hzl.out; omega))
      have hkk := Lib.hid hkp
      clear e2 e3 h0 hlt3 hkp hown hzl
      go_wp2_with fail
      refine hT.out.mono ?_
      rintro e w7 ⟨a6, c6, rfl, l6, m6, r6, k6⟩
      go_wp2_with fail
      go_ret
      rw [← E3.out]
      exact ⟨a6, c6, rfl, l6, m6, r6, hkk.out.trans k6⟩
theorem lshl_step {zs : List Nat} {j x r : Nat} (hj : j + 1 < zs.length) (h0 : nth zs (j + 1) = 0) :
    val ((zs.set j (nth zs j + x * 2 ^ r % 4294967296)).set (j + 1) (x * 2 ^ r / 4294967296)) = val zs + 4294967296 ^ j * (x * 2 ^ r) := by
  have h1 := val_set (xs := zs) (i := j) (x := nth zs j + x * 2 ^ r % 4294967296) (by omega)
  have h2 := val_set (xs := zs.set j (nth zs j + x * 2 ^ r % 4294967296)) (i := j + 1) (x := x * 2 ^ r / 4294967296) (by simpa using hj)
  rw [nth_set_ne (by omega), h0, Nat.mul_zero, Nat.add_zero] at h2
  rw [Nat.pow_succ, Nat.mul_assoc] at h2
  rw [h2]
  generalize 4294967296 ^ j = P at *
  generalize x * 2 ^ r = s at *
  have e : P * (s % 4294967296) + P * (4294967296 * (s / 4294967296)) = P * s := by
    rw [← Nat.mul_add]; congr 1; omega
  rw [Nat.mul_add] at h1
  omega
theorem lshl_or {x r o : Nat} (hx : x < 4294967296) (hr : r < 32) (ho : o < 2 ^ r) :
    IntKind.u64.wrap ((x : Int) * 2 ^ r) = ((x * 2 ^ r : Nat) : Int) ∧ Go.bits BinOp.and IntKind.u64 ((x * 2 ^ r : Nat) : Int) 4294967295 % 4294967296 = ((x * 2 ^ r % 4294967296 : Nat) : Int) ∧
    Go.bits BinOp.or IntKind.u32 (o : Int) ((x * 2 ^ r % 4294967296 : Nat) : Int) = ((o + x * 2 ^ r % 4294967296 : Nat) : Int) ∧ o + x * 2 ^ r % 4294967296 < 4294967296 ∧ x * 2 ^ r / 4294967296 < 2 ^ r ∧ x * 2 ^ r < 9223372036854775808 := by
  have h1 : 2 ^ r ≤ 2 ^ 31 := Nat.pow_le_pow_right (by decide) (by omega)
  have h2 : x * 2 ^ r ≤ 4294967295 * 2 ^ r := Nat.mul_le_mul_right _ (by omega)
  obtain ⟨C, hC⟩ : ∃ C, 4294967296 = 2 ^ r * C := ⟨2 ^ (32 - r), by rw [← Nat.pow_add, show r + (32 - r) = 32 from by omega]⟩
  have hm : x * 2 ^ r % 4294967296 % 2 ^ r = 0 := by
    conv => lhs; lhs; rw [hC]
    rw [Nat.mod_mul_right_mod, Nat.mul_mod_left]
  have hlt : x * 2 ^ r % 4294967296 < 4294967296 := Nat.mod_lt _ (by decide)
  have hor : o ||| x * 2 ^ r % 4294967296 = o + x * 2 ^ r % 4294967296 := by rw [Nat.or_comm, nat_join r _ _ hm ho, Nat.add_comm]
  refine ⟨?_, and_lowI rfl (by omega), ?_, ?_, ?_, by omega⟩
  · rw [show (x : Int) * 2 ^ r = ((x * 2 ^ r : Nat) : Int) from by push_cast; rfl, IntKind.wrap_u64]
    omega
  · rw [u32_or_nat _ _ (by omega) hlt, hor]
  · rw [← hor]; exact lt_or32 (by omega) hlt
  · exact (Nat.div_lt_iff_lt_mul (by decide)).2 (by rw [Nat.mul_comm (2 ^ r)]; exact Nat.mul_lt_mul_of_pos_right hx (two_pow_pos r))
set_option maxHeartbeats 2000000 in
set_option maxRecDepth 100000 in
theorem r1shl_any (a : Option Addr) (xs : List Nat) (c n : Nat) (w : World) (h1 : Rd w a xs) (hxc : xs.length ≤ c) (hc : c ≤ maxLen) (hxl : xs.length ≤ 100000) (hn : n ≤ 20000000) :
    Calls Tryz.prog 187 #[.slice a xs.length c, .int .i64 (n : Nat)] w (NatOut w (val xs * 2 ^ n)) := by
  have hll := limbs_len_le h1.lt32
  have HT := Lib.hid (r1trim_any a xs c w h1 hxc hc (by omega))
  have Hfin := Lib.hid (show val xs * 2 ^ n = 4294967296 ^ (n / 32) * (val (limbs (val xs)) * 2 ^ (n % 32)) by rw [val_limbs, ← pow_split n, Nat.mul_left_comm])
  clear h1
  go_enter Tryz.func187, Tryz.ntmps187
  go_wp2_with fail
  refine HT.out.mono ?_
  rintro e w1 ⟨a1, c1, rfl, l1, m1, r1, k1⟩
  clear HT
  have h32 := limbs_lt32 (val xs)
  generalize limbs (val xs) = ls at *
  have hr : n % 32 < 32 := Nat.mod_lt _ (by decide)
  have hmk := make_u32 ((n : Int) / 32 + ls.length + 1) (n / 32 + ls.length + 1) (by omega) (by omega)
  go_wp2_with fail
  clear hmk
  go_loopw [6] (fun ix wr => ∃ (i : Nat) (zs : List Nat), i ≤ ls.length ∧ ix = .int .i64 i ∧ zs.length = n / 32 + ls.length + 1 ∧ Blk wr w1.heap.size zs ∧ Lt32 zs ∧
    val zs = 4294967296 ^ (n / 32) * (val (ls.take i) * 2 ^ (n % 32)) ∧ nth zs (i + n / 32) < 2 ^ (n % 32) ∧ (∀ j, i + n / 32 < j → nth zs j = 0) ∧ Kp w1 wr) (fun ix _ => ls.length - (intOf ix).toNat)
  case atStart => exact ⟨0, _, Nat.zero_le _, rfl, by simp, Blk.made _ _, .replicate _, by simp [val, val_replicate], by rw [nth_replicate]; exact two_pow_pos _, fun j _ => nth_replicate _ _, (Kp.refl _).alloc _⟩
  case round =>
    obtain ⟨i, zs, hi, rfl, hzl, hb, hz32, hvz, hzt, hz0, hkp⟩ := hrel
    have Hvz := Lib.hid hvz
    have Hzl := Lib.hid hzl
    have Hz0 := Lib.hid hz0
    have Hzt := Lib.hid hzt
    clear hvz hz0 hzt
    by_cases hlt : i < ls.length
    · obtain ⟨b1, o1, rfl, hcx⟩ := (r1.kp hkp).some hlt
      have hx1 := hcx i hlt
      have bx := h32.nth i
      clear hcx
      obtain ⟨q1, q2, q3, q4, q5, q6⟩ := lshl_or bx hr Hzt.out
      have hs1 := hb.cell (i := i + n / 32) (by omega)
      have hs2 := hb.frozen (i + n / 32)
      have hs3 := hb.cell (i := i + n / 32 + 1) (by omega)
      have hs4 := hb.frozen (i + n / 32 + 1)
      have HQ := Lib.hid (And.intro q2 q3)
      have HC := Lib.hid (show ((nth ls i : Nat) : Int) * 2 ^ (n % 32) = ((nth ls i * 2 ^ (n % 32) : Nat) : Int) by push_cast; rfl)
      have HF1 := Lib.hid q4
      have HF2 := Lib.hid q5
      have HST := Lib.hid (lshl_step (zs := zs) (j := i + n / 32) (x := nth ls i) (r := n % 32) (by omega) (Hz0.out _ (by omega)))
      have hne1 : (⟨w1.heap.size, i + n / 32, none⟩ : Addr) ≠ ⟨w1.heap.size, i + n / 32 + 1, none⟩ := fun e => by injection e with _ e2; omega
      clear q2 q3 q4 q5
      go_wp2_with fail
      go_roundw
      case rel =>
        refine ⟨i + 1, (zs.set (i + n / 32) (nth zs (i + n / 32) + nth ls i * 2 ^ (n % 32) % 4294967296)).set (i + n / 32 + 1) (nth ls i * 2 ^ (n % 32) / 4294967296), by omega, by go_num, by simp [Hzl.out], (hb.put ?_).put ?_, (hz32.set _ _ HF1.out).set _ _ (Nat.lt_of_lt_of_le HF2.out (Nat.le_trans (Nat.pow_le_pow_right (by decide) (by omega : n % 32 ≤ 31)) (by decide))), ?_, ?_, fun j hj => ?_, (hkp.set (Nat.le_refl _) _).set (Nat.le_refl _) _⟩
        · rw [HC.out, HQ.out.1, HQ.out.2]
        · rw [HC.out]
          have := HF2.out
          have h2 : 2 ^ (n % 32) ≤ 2 ^ 31 := Nat.pow_le_pow_right (by decide) (by omega)
          omega
        · rw [HST.out, Hvz.out, val_take_step ls, Nat.add_mul, Nat.mul_add, Nat.add_comm i, Nat.pow_add, Nat.mul_assoc, Nat.mul_assoc]
        · rw [show i + 1 + n / 32 = i + n / 32 + 1 by omega, nth_set_eq (by simp; omega)]; exact HF2.out
        · rw [nth_set_ne (by omega), nth_set_ne (by omega)]; exact Hz0.out j (by omega)
      case measure => simp [intOf]; omega
    · have e2 := Hvz.out
      rw [List.take_of_length_le (by omega)] at e2
      have E2 := Lib.hid e2
      have HT := Lib.hid (r1trim_any (some ⟨w1.heap.size, 0, none⟩) zs (n / 32 + ls.length + 1) wr (hb.rd hz32) (by omega) (by unfold maxLen; omega) (by omega))
      rw [hzl] at HT
      have hkk := Lib.hid (k1.trans hkp)
      clear e2 hb hkp
      go_wp2_with fail
      with_reducible refine HT.out.mono ?_
      rintro e w7 ⟨a6, c6, rfl, l6, m6, r6, k6⟩
      go_wp2_with fail
      go_ret
      rw [Hfin.out.trans E2.out.symm]
      exact ⟨a6, c6, rfl, l6, m6, r6, hkk.out.trans k6⟩
end Go.Proofs.YtdidocdpjiiedaaGreatDoor
end

section
namespace Go.Proofs.YtdidocdpjiiedaaGreatDoor
open Go.RowKit

theorem val_ext {xs ys : List Nat} (h : ∀ i, nth xs i = nth ys i) : val xs = val ys := by
  induction xs generalizing ys with
  | nil =>
    induction ys with
    | nil => rfl
    | cons y ys ih =>
      have h0 := h 0
      rw [nth_cons_zero] at h0
      have h1 : val ([] : List Nat) = val ys := ih (fun i => by
        have := h (i + 1)
        rw [nth_cons_succ] at this
        rw [← this, nth_ge (by simp), nth_ge (by simp)])
      rw [val_cons, ← h1, ← h0]; rfl
  | cons x xs ih =>
    cases ys with
    | nil =>
      have h0 := h 0
      rw [nth_cons_zero] at h0
      have h1 : val xs = val ([] : List Nat) := ih (fun i => by
        have := h (i + 1)
        rw [nth_cons_succ] at this
        rw [this, nth_ge (by simp), nth_ge (by simp)])
      rw [val_cons, h1, h0]; rfl
    | cons y ys =>
      have h0 := h 0
      rw [nth_cons_zero, nth_cons_zero] at h0
      have h1 : val xs = val ys := ih (fun i => by
        have := h (i + 1)
        rwa [nth_cons_succ, nth_cons_succ] at this)
      rw [val_cons, val_cons, h1, h0]
theorem val_low_lt {xs : List Nat} (h : Lt32 xs) (j : Nat) : val (xs.take j) < 4294967296 ^ j := by
  have := val_lt (h.take j)
  refine Nat.lt_of_lt_of_le this (Nat.pow_le_pow_right (by decide) ?_)
  rw [List.length_take]; omega
theorem val_split (xs : List Nat) (j : Nat) : val xs = val (xs.take j) + 4294967296 ^ j * nth xs j + 4294967296 ^ (j + 1) * val (xs.drop (j + 1)) := by
  have h1 := val_take_step xs j
  by_cases h : j + 1 ≤ xs.length
  · have h2 := val_take_drop xs (j + 1) h
    rw [h1] at h2
    exact h2
  · have e1 : xs.take (j + 1) = xs := List.take_of_length_le (by omega)
    have e2 : xs.drop (j + 1) = [] := List.drop_of_length_le (by omega)
    rw [e1] at h1
    have e3 : val ([] : List Nat) = 0 := rfl
    rw [e2, e3, Nat.mul_zero, Nat.add_zero]
    exact h1
theorem val_lt_nth {xs ys : List Nat} {j : Nat} (hx : Lt32 xs) (he : ∀ i, j < i → nth xs i = nth ys i) (hlt : nth xs j < nth ys j) : val xs < val ys := by
  rw [val_split xs j, val_split ys j]
  have h1 : val (xs.drop (j + 1)) = val (ys.drop (j + 1)) := val_ext fun i => by rw [nth_drp, nth_drp]; exact he _ (by omega)
  have h2 := val_low_lt hx j
  rw [h1]
  have h3 : 4294967296 ^ j * (nth xs j + 1) ≤ 4294967296 ^ j * nth ys j := Nat.mul_le_mul_left _ hlt
  rw [Nat.mul_add, Nat.mul_one] at h3
  omega
set_option maxHeartbeats 2000000 in
theorem r1cmp_any (a b : Option Addr) (xs ys : List Nat) (c d : Nat) (w : World) (h1 : Rd w a xs) (h2 : Rd w b ys) (hxl : xs.length ≤ 1100000) (hyl : ys.length ≤ 1100000) :
    Calls Tryz.prog 186 #[.slice a xs.length c, .slice b ys.length d] w fun e w' => e = .returned (.int .i64 (cmpN (val xs) (val ys))) ∧ w = w' := by
  obtain ⟨L, hL⟩ : ∃ L : Nat, (L : Int) = max (xs.length : Int) ys.length := ⟨max xs.length ys.length, by omega⟩
  have hL2 : xs.length ≤ L ∧ ys.length ≤ L ∧ L ≤ 1100000 := by omega
  obtain ⟨hL3, hL4, hL5⟩ := hL2
  have hst : max (xs.length : Int) ys.length - 1 = (L : Int) - 1 := by omega
  go_enter Tryz.func186, Tryz.ntmps186
  go_wp2_with fail
  go_loopw [5] (fun ix wr => ∃ k : Nat, k ≤ L ∧ ix = .int .i64 ((k : Int) - 1) ∧ (∀ i, k ≤ i → nth xs i = nth ys i) ∧ w = wr) (fun ix _ => (intOf ix + 1).toNat)
  case atStart => exact ⟨L, Nat.le_refl _, by congr 1 <;> omega, fun i hi => by rw [nth_ge (by omega), nth_ge (by omega)], rfl⟩
  case round =>
    obtain ⟨k, hk, rfl, hz, rfl⟩ := hrel
    have Hz := Lib.hid hz
    clear hz
    rcases k with _ | j
    · rw [show (((0 : Nat) : Int) - 1) = -1 from rfl]
      have HE := Lib.hid (cmpN_eq (val_ext (fun i => Hz.out i (Nat.zero_le _))))
      go_wp2_with fail
      go_ret
      exact ⟨ret_int HE.out.symm, rfl⟩
    · rw [show (((j + 1 : Nat) : Int) - 1) = (j : Int) from by omega]
      rcases Nat.lt_trichotomy (nth xs j) (nth ys j) with hd1 | hd1 | hd1
      · have HR := Lib.hid (cmpN_lt (val_lt_nth h1.lt32 (fun i hi => Hz.out i hi) hd1))
        go_wp2_with fail
        refine (r1at_any a xs c j _ h1).mono ?_
        rintro e w1 ⟨rfl, rfl⟩
        go_wp2_with fail
        refine (r1at_any b ys d j _ h2).mono ?_
        rintro e w1 ⟨rfl, rfl⟩
        go_wp2_with fail
        go_ret
        exact ⟨ret_int HR.out.symm, rfl⟩
      · have hd2 : ¬ nth xs j < nth ys j := by omega
        have hd3 : ¬ nth ys j < nth xs j := by omega
        have Hd1 := Lib.hid hd1
        clear hd1
        go_wp2_with fail
        refine (r1at_any a xs c j _ h1).mono ?_
        rintro e w1 ⟨rfl, rfl⟩
        go_wp2_with fail
        refine (r1at_any b ys d j _ h2).mono ?_
        rintro e w1 ⟨rfl, rfl⟩
        go_wp2_with fail
        refine (r1at_any a xs c j _ h1).mono ?_
        rintro e w1 ⟨rfl, rfl⟩
        go_wp2_with fail
        refine (r1at_any b ys d j _ h2).mono ?_
        rintro e w1 ⟨rfl, rfl⟩
        go_wp2_with fail
        go_roundw
        case rel =>
          refine ⟨j, by omega, rfl, fun i hi => ?_, by first | rfl | trivial⟩
          by_cases hij : i = j
          · rw [hij]; exact Hd1.out
          · exact Hz.out i (by omega)
        case measure => simp [intOf]
      · have hd2 : ¬ nth xs j < nth ys j := by omega
        have HR := Lib.hid (cmpN_gt (val_lt_nth h2.lt32 (fun i hi => (Hz.out i hi).symm) hd1))
        go_wp2_with fail
        refine (r1at_any a xs c j _ h1).mono ?_
        rintro e w1 ⟨rfl, rfl⟩
        go_wp2_with fail
        refine (r1at_any b ys d j _ h2).mono ?_
        rintro e w1 ⟨rfl, rfl⟩
        go_wp2_with fail
        refine (r1at_any a xs c j _ h1).mono ?_
        rintro e w1 ⟨rfl, rfl⟩
        go_wp2_with fail
        refine (r1at_any b ys d j _ h2).mono ?_
        rintro e w1 ⟨rfl, rfl⟩
        go_wp2_with fail
        go_ret
        exact ⟨ret_int HR.out.symm, rfl⟩
end Go.Proofs.YtdidocdpjiiedaaGreatDoor
end

section
namespace Go.Proofs.YtdidocdpjiiedaaGreatDoor
open Go.RowKit

set_option maxHeartbeats 2000000 in
set_option maxRecDepth 100000 in
theorem r1add_any (a b : Option Addr) (xs ys : List Nat) (c d : Nat) (w : World) (h1 : Rd w a xs) (h2 : Rd w b ys) (hxl : xs.length ≤ 1000000) (hyl : ys.length ≤ 1000000) :
    Calls Tryz.prog 188 #[.slice a xs.length c, .slice b ys.length d] w (NatOut w (val xs + val ys)) := by
  obtain ⟨L, hL⟩ : ∃ L : Nat, (L : Int) = max (xs.length : Int) ys.length := ⟨max xs.length ys.length, by omega⟩
  have hL2 : xs.length ≤ L ∧ ys.length ≤ L ∧ L ≤ 1000000 := by omega
  obtain ⟨hL3, hL4, hL5⟩ := hL2
  go_enter Tryz.func188, Tryz.ntmps188
  go_wp2_with fail
  go_loopw [5, 6, 7] (fun v cy ix wr => ∃ (k q : Nat) (zs : List Nat), k ≤ L + 1 ∧ q ≤ 1 ∧ (k = L + 1 → q = 0) ∧ cy = .int .u64 q ∧ ix = .int .i64 k ∧ zs.length = k ∧ Own wr w.heap.size v zs ∧
      val zs + 4294967296 ^ k * q = val (xs.take k) + val (ys.take k) ∧ Kp w wr) (fun _ _ ix _ => L + 1 - (intOf ix).toNat)
  case atStart => exact ⟨0, 0, [], by omega, by decide, fun _ => rfl, rfl, rfl, rfl, Own.nil _ _, by simp [val], .refl _⟩
  case round =>
    obtain ⟨k, q, zs, hk, hq, hkq, rfl, rfl, hzl, hown, hvz, hkp⟩ := hrel
    have Hvz := Lib.hid hvz
    have Hzl := Lib.hid hzl
    have Hkq := Lib.hid hkq
    have hzl2 : zs.length + 1 ≤ 9000000 := by omega
    clear hvz hkq
    rcases (show k < L ∨ (L ≤ k ∧ q = 1) ∨ (L ≤ k ∧ q = 0) by omega) with hlt | ⟨hge, hq1⟩ | ⟨hge, hq0⟩
    · have ht : (k : Int) < max (xs.length : Int) ys.length := by omega
      clear hzl
      have Hst := Lib.hid (fun z c' => plus_step (z := z) (c' := c') Hzl.out Hvz.out)
      have bx := h1.lt32.nth k
      have by' := h2.lt32.nth k
      have hcl := Lib.hid (and_lowI (x := (nth xs k : Int) + nth ys k + q) (s := nth xs k + nth ys k + q) (by omega) (by omega))
      go_wp2_with fail
      refine (r1at_any a xs c k _ (h1.kp hkp)).mono ?_
      rintro e w1 ⟨rfl, rfl⟩
      go_wp2_with fail
      refine (r1at_any b ys d k _ (h2.kp hkp)).mono ?_
      rintro e w1 ⟨rfl, rfl⟩
      go_wp2_with (at_builtin; refine wpList_append_u32 rfl _ _ rfl w.heap.size _ _ rfl (hown.alloc _) _ _ rfl (World.cell?_alloc_new _ _ _ _) ((nth xs k + nth ys k + q) % 4294967296) hcl.out (Nat.mod_lt _ (by decide)) hzl2 (by have := hkp.size; simp; omega) ?_; intro a2 c2 w2 hown2 hb2)
      go_roundw
      case rel => exact ⟨k + 1, (nth xs k + nth ys k + q) / 4294967296, _, by omega, by omega, (fun h => absurd h (by omega)), by go_num, by go_num, by simp [Hzl.out], hown2, Hst.out _ _ (by omega), (hkp.alloc _).below.trans hb2⟩
      case measure => simp [intOf]; omega
    · have ht : ¬ (k : Int) < max (xs.length : Int) ys.length := by omega
      have hk' : k = L := by
        have := Hkq.out
        rcases Nat.lt_or_ge L k with h | h
        · exact absurd (this (by omega)) (by omega)
        · omega
      have hq2 : (0 : Int) < (q : Int) := by omega
      have hX0 := Lib.hid (nth_ge (xs := xs) (i := k) (by omega))
      have hY0 := Lib.hid (nth_ge (xs := ys) (i := k) (by omega))
      have Hq1 := Lib.hid hq1
      have Hk := Lib.hid hk'
      clear hzl hge hq1 hk'
      have Hst := Lib.hid (fun z c' => plus_step (z := z) (c' := c') Hzl.out Hvz.out)
      have bx := h1.lt32.nth k
      have by' := h2.lt32.nth k
      have hcl := Lib.hid (and_lowI (x := (nth xs k : Int) + nth ys k + q) (s := nth xs k + nth ys k + q) (by omega) (by omega))
      go_wp2_with fail
      refine (r1at_any a xs c k _ (h1.kp hkp)).mono ?_
      rintro e w1 ⟨rfl, rfl⟩
      go_wp2_with fail
      refine (r1at_any b ys d k _ (h2.kp hkp)).mono ?_
      rintro e w1 ⟨rfl, rfl⟩
      go_wp2_with (at_builtin; refine wpList_append_u32 rfl _ _ rfl w.heap.size _ _ rfl (hown.alloc _) _ _ rfl (World.cell?_alloc_new _ _ _ _) ((nth xs k + nth ys k + q) % 4294967296) hcl.out (Nat.mod_lt _ (by decide)) hzl2 (by have := hkp.size; simp; omega) ?_; intro a2 c2 w2 hown2 hb2)
      go_roundw
      case rel => exact ⟨k + 1, (nth xs k + nth ys k + q) / 4294967296, _, by have := Hk.out; omega, by omega, fun _ => by have := Hq1.out; rw [hX0.out, hY0.out]; omega, by go_num, by go_num, by simp [Hzl.out], hown2, Hst.out _ _ (by omega), (hkp.alloc _).below.trans hb2⟩
      case measure => have := Hk.out; simp [intOf]; omega
    · have ht : ¬ (k : Int) < max (xs.length : Int) ys.length := by omega
      have hq2 : ¬ (0 : Int) < (q : Int) := by omega
      obtain ⟨a5, c5, e5, l5, m5, r5⟩ := hown.value
      subst e5
      have e3 := Lib.hid (show val zs = val xs + val ys by
        have e := Hvz.out
        rw [List.take_of_length_le (by omega), List.take_of_length_le (by omega), hq0, Nat.mul_zero, Nat.add_zero] at e
        exact e)
      have hT := Lib.hid (r1trim_any a5 zs c5 wr r5 l5 m5 (by omega))
      have hkk := Lib.hid hkp
      clear hkp hown hzl hq0 hge
      go_wp2_with fail
      refine hT.out.mono ?_
      rintro e w7 ⟨a6, c6, rfl, l6, m6, r6, k6⟩
      go_wp2_with fail
      go_ret
      rw [← e3.out]
      exact ⟨a6, c6, rfl, l6, m6, r6, hkk.out.trans k6⟩
set_option maxHeartbeats 2000000 in
set_option maxRecDepth 100000 in
theorem r1sub_any (a b : Option Addr) (xs ys : List Nat) (c d : Nat) (w : World) (h1 : Rd w a xs) (h2 : Rd w b ys) (hxl : xs.length ≤ 1000000) (hyl : ys.length ≤ xs.length) (hle : val ys ≤ val xs) :
    Calls Tryz.prog 200 #[.slice a xs.length c, .slice b ys.length d] w (NatOut w (val xs - val ys)) := by
  have Hle := Lib.hid hle
  clear hle
  go_enter Tryz.func200, Tryz.ntmps200
  go_wp2_with fail
  go_loopw [5, 6, 7] (fun v cy ix wr => ∃ (k q : Nat) (zs : List Nat), k ≤ xs.length ∧ q ≤ 1 ∧ cy = .int .u64 q ∧ ix = .int .i64 k ∧ zs.length = k ∧ Own wr w.heap.size v zs ∧
      val zs + val (ys.take k) = val (xs.take k) + 4294967296 ^ k * q ∧ Kp w wr) (fun _ _ ix _ => xs.length - (intOf ix).toNat)
  case atStart => exact ⟨0, 0, [], Nat.zero_le _, by decide, rfl, rfl, rfl, Own.nil _ _, by simp [val], .refl _⟩
  case round =>
    obtain ⟨k, q, zs, hk, hq, rfl, rfl, hzl, hown, hvz, hkp⟩ := hrel
    have Hvz := Lib.hid hvz
    have Hzl := Lib.hid hzl
    have hzl2 : zs.length + 1 ≤ 9000000 := by omega
    clear hvz
    by_cases hlx : k < xs.length
    · have bx := h1.lt32.nth k
      have by' := h2.lt32.nth k
      clear hzl
      have Hst := Lib.hid (fun z c' => minus_step (z := z) (c' := c') Hzl.out Hvz.out)
      have hcl := Lib.hid (and_lowI (x := (nth xs k : Int) + 4294967296 - (nth ys k : Int) - (q : Int)) (s := nth xs k + 4294967296 - (q + nth ys k)) (by omega) (by omega))
      go_wp2_with fail
      refine (r1at_any a xs c k _ (h1.kp hkp)).mono ?_
      rintro e w1 ⟨rfl, rfl⟩
      go_wp2_with fail
      refine (r1at_any b ys d k _ (h2.kp hkp)).mono ?_
      rintro e w1 ⟨rfl, rfl⟩
      go_wp2_with (at_builtin; refine wpList_append_u32 rfl _ _ rfl w.heap.size _ _ rfl (hown.alloc _) _ _ rfl (World.cell?_alloc_new _ _ _ _) ((nth xs k + 4294967296 - (q + nth ys k)) % 4294967296) hcl.out (Nat.mod_lt _ (by decide)) hzl2 (by have := hkp.size; simp; omega) ?_; intro a2 c2 w2 hown2 hb2)
      go_roundw
      case rel => exact ⟨k + 1, 1 - (nth xs k + 4294967296 - (q + nth ys k)) / 4294967296, _, by omega, by omega, by congr 1; omega, by go_num, by simp [Hzl.out], hown2, Hst.out _ _ (by omega), (hkp.alloc _).below.trans hb2⟩
      case measure => simp [intOf]; omega
    · obtain ⟨a5, c5, e5, l5, m5, r5⟩ := hown.value
      subst e5
      have e3 := Lib.hid (show val zs = val xs - val ys by
        have e := Hvz.out
        have hl := Hle.out
        have hb := val_lt r5.lt32
        rw [hzl] at hb
        rw [List.take_of_length_le (by omega), List.take_of_length_le (by omega)] at e
        generalize 4294967296 ^ k = P at *
        have hq2 : q = 0 ∨ q = 1 := by omega
        rcases hq2 with rfl | rfl <;> omega)
      have hT := Lib.hid (r1trim_any a5 zs c5 wr r5 l5 m5 (by omega))
      have hkk := Lib.hid hkp
      clear hkp hown hzl
      go_wp2_with fail
      refine hT.out.mono ?_
      rintro e w7 ⟨a6, c6, rfl, l6, m6, r6, k6⟩
      go_wp2_with fail
      go_ret
      rw [← e3.out]
      exact ⟨a6, c6, rfl, l6, m6, r6, hkk.out.trans k6⟩
end Go.Proofs.YtdidocdpjiiedaaGreatDoor
end

section
namespace Go.Proofs.YtdidocdpjiiedaaGreatDoor
open Go.RowKit

theorem r3prec_any (p : Int) (w : World) :
    Calls Tryz.prog 58 #[.int .i64 p] w fun e w' => e = .returned (.bool (preB p)) ∧ w = w' := by
  by_cases h1 : 8 ≤ p
  · by_cases h2 : p ≤ 512
    · have H := Lib.hid (show preB p = true from decide_eq_true ⟨h1, h2⟩)
      go_enter Tryz.func58, Tryz.ntmps58
      go_wp2_with fail
      go_ret
      exact ⟨ret_bool H.out.symm, rfl⟩
    · have H := Lib.hid (show preB p = false from decide_eq_false (fun h => h2 h.2))
      go_enter Tryz.func58, Tryz.ntmps58
      go_wp2_with fail
      go_ret
      exact ⟨ret_bool H.out.symm, rfl⟩
  · have H := Lib.hid (show preB p = false from decide_eq_false (fun h => h1 h.1))
    go_enter Tryz.func58, Tryz.ntmps58
    go_wp2_with fail
    go_ret
    exact ⟨ret_bool H.out.symm, rfl⟩
theorem r2Valid_rd (x : RD) (w : World) (h : x.rd w) :
    Calls Tryz.prog 120 #[.agg #[.bool x.neg, .slice x.a x.xs.length x.c, .int .i64 x.e]] w fun e w' => e = .returned (.bool x.vl) ∧ Kp w w' := r2Valid_any x.neg x.a x.xs x.c x.e w h.1 h.2.2.2.1 h.2.2.2.2
set_option maxHeartbeats 2000000 in
theorem r3fault_any (x y : RD) (p : Int) (w : World) (hx : x.rd w) (hy : y.rd w) :
    Calls Tryz.prog 111 #[.agg #[.bool x.neg, .slice x.a x.xs.length x.c, .int .i64 x.e], .agg #[.bool y.neg, .slice y.a y.xs.length y.c, .int .i64 y.e], .int .i64 p] w fun e w' => e = .returned (.int .i64 (fltB p [x, y])) ∧ Kp w w' := by
  have H := Lib.hid (show fltB p [x, y] = if ([x, y] : List RD).all RD.vl then (if preB p then 0 else 2) else 1 from rfl)
  go_enter Tryz.func111, Tryz.ntmps111
  go_wp2_with fail
  generalize hW : ((w.alloc _).alloc _) = W at *
  have hk : Kp w W := hW ▸ ((Kp.refl w).alloc _).alloc _
  have hS : W.cell? ⟨w.heap.size, 0, none⟩ = some (.bool x.neg) ∧ W.cell? ⟨w.heap.size, 1, none⟩ = some (.slice x.a x.xs.length x.c) ∧ W.cell? ⟨w.heap.size, 2, none⟩ = some (.int .i64 x.e) ∧ W.cell? ⟨w.heap.size + 1, 0, none⟩ = some (.bool y.neg) ∧ W.cell? ⟨w.heap.size + 1, 1, none⟩ = some (.slice y.a y.xs.length y.c) ∧ W.cell? ⟨w.heap.size + 1, 2, none⟩ = some (.int .i64 y.e) := by rw [← hW]; simp
  clear hW
  refine (r2Valid_rd x _ (hx.kp hk)).mono ?_
  rintro e w1 ⟨rfl, k1⟩
  have h1 := hk.trans k1
  obtain ⟨s0, s1, s2, t0, t1, t2⟩ := keepRR k1 hS
  clear hS hk k1
  cases hvx : x.vl with
  | false =>
    have HH := Lib.hid (show fltB p [x, y] = 1 by rw [H.out]; simp [hvx])
    clear H hvx
    go_wp2_with fail
    go_ret
    exact ⟨ret_int HH.out.symm, h1⟩
  | true =>
    go_wp2_with fail
    refine (r2Valid_rd y _ (hy.kp h1)).mono ?_
    rintro e w2 ⟨rfl, k2⟩
    have h2 := h1.trans k2
    clear s0 s1 s2 t0 t1 t2 h1 k2
    cases hvy : y.vl with
    | false =>
      have HH := Lib.hid (show fltB p [x, y] = 1 by rw [H.out]; simp [hvy])
      clear H hvx hvy
      go_wp2_with fail
      go_ret
      exact ⟨ret_int HH.out.symm, h2⟩
    | true =>
      have H2 := Lib.hid (show fltB p [x, y] = if preB p then 0 else 2 by rw [H.out]; simp [hvx, hvy])
      clear H hvx hvy
      go_wp2_with fail
      refine (r3prec_any p _).mono ?_
      rintro e w3 ⟨rfl, rfl⟩
      cases hp : preB p with
      | true =>
        rw [hp] at H2
        clear hp
        go_wp2_with fail
        go_ret
        exact ⟨ret_int H2.out.symm, h2⟩
      | false =>
        rw [hp] at H2
        clear hp
        go_wp2_with fail
        go_ret
        exact ⟨ret_int H2.out.symm, h2⟩
theorem r1shl_int (a : Option Addr) (xs : List Nat) (c : Nat) (j : Int) (n : Nat) (w : World) (h1 : Rd w a xs) (hxc : xs.length ≤ c) (hc : c ≤ maxLen) (hxl : xs.length ≤ 100000) (hn : n ≤ 20000000) (hj : j = n) :
    Calls Tryz.prog 187 #[.slice a xs.length c, .int .i64 j] w (NatOut w (val xs * 2 ^ n)) := by subst hj; exact r1shl_any a xs c n w h1 hxc hc hxl hn
theorem r1shr_int (a : Option Addr) (xs : List Nat) (c : Nat) (j : Int) (n : Nat) (w : World) (h1 : Rd w a xs) (hxl : xs.length ≤ 1000000) (hn : n ≤ 40000000) (hj : j = n) :
    Calls Tryz.prog 185 #[.slice a xs.length c, .int .i64 j] w (NatOut w (val xs / 2 ^ n)) := by subst hj; exact r1shr_any a xs c n w h1 hxl hn
theorem rd_new1 (w : World) (x : Nat) (hx : x < 4294967296) (t : TypeId) : Rd (w.alloc (.cells #[.int .u32 (x : Int)] t)) (some ⟨w.heap.size, 0, none⟩) [x] :=
  ⟨.cons hx .nil, .inr ⟨_, 0, rfl, fun i hi => by
    have : i = 0 := by simpa using hi
    subst this
    simp [nth_cons_zero]⟩⟩
set_option maxRecDepth 100000 in
set_option maxHeartbeats 2000000 in
theorem r3greatest_any (s : Bool) (p : Nat) (w : World) (h0 : 8 ≤ p) (h1 : p ≤ 512) :
    Calls Tryz.prog 189 #[.bool s, .int .i64 (p : Nat)] w (DyOut w (canon s (2 ^ p - 1) (16384 - p))) := by
  have hlen : (limbs (2 ^ p)).length ≤ 17 := limbs_of_bits (by rw [bits_two_pow]; omega)
  have hlen2 : (limbs (2 ^ p - 1)).length ≤ 17 := Nat.le_trans (limbs_length_mono (Nat.sub_le _ _)) hlen
  have hpos : 1 ≤ 2 ^ p := two_pow_pos p
  have hl1 : 1 ≤ (limbs (2 ^ p)).length := by
    have := limbs_length_mono hpos
    rwa [limbs_single (by decide) (by decide)] at this
  have hv1 : val [1] = 1 := by simp [val]
  have HS := Lib.hid (fun (W : World) => show Calls Tryz.prog 187 #[.slice (some ⟨W.heap.size, 0, none⟩) 1 1, .int .i64 (p : Nat)] (W.alloc (.cells #[.int .u32 1] 88)) (NatOut (W.alloc (.cells #[.int .u32 1] 88)) (2 ^ p)) by
    have := r1shl_any (some ⟨W.heap.size, 0, none⟩) [1] 1 p _ (rd_new1 W 1 (by decide) 88) (by simp) (by unfold maxLen; omega) (by simp) (by omega)
    rw [hv1, Nat.one_mul] at this
    exact this)
  have HU := Lib.hid (fun (W : World) (a : Option Addr) (c : Nat) (hr : Rd W a (limbs (2 ^ p))) => show Calls Tryz.prog 200 #[.slice a (limbs (2 ^ p)).length c, .slice (some ⟨W.heap.size, 0, none⟩) 1 1] (W.alloc (.cells #[.int .u32 1] 88)) (NatOut (W.alloc (.cells #[.int .u32 1] 88)) (2 ^ p - 1)) by
    have := r1sub_any a (some ⟨W.heap.size, 0, none⟩) (limbs (2 ^ p)) [1] c 1 _ (hr.kp ((Kp.refl W).alloc _)) (rd_new1 W 1 (by decide) 88) (by omega) (by simpa using hl1) (by rw [val_limbs, hv1]; exact hpos)
    rw [hv1, val_limbs] at this
    exact this)
  have Hlen := Lib.hid hlen2
  clear hlen hlen2 hl1 hpos hv1
  have hB := Box3.new w (.bool false) (.slice none 0 0) (.int .i64 0) 28
  have HB := Lib.hid hB
  clear hB
  generalize 2 ^ p = T at *
  have HS1 := HS.out (w.alloc (.cells #[.bool false, .slice none 0 0, .int .i64 0] 28))
  rw [World.size_alloc] at HS1
  have HS2 := Lib.hid HS1
  clear HS HS1
  go_enter Tryz.func189, Tryz.ntmps189
  go_wp2_with fail
  with_reducible refine HS2.out.mono ?_
  rintro e w2 ⟨a2, c2, rfl, l2, m2, r2, k2⟩
  go_wp2_with fail
  with_reducible refine (HU.out _ _ _ r2).mono ?_
  rintro e w3 ⟨a3, c3, rfl, l3, m3, r3, k3⟩
  go_wp2_with fail
  refine (r2Of_lim s a3 (T - 1) c3 _ _ r3 l3 m3 (by have := Hlen.out; omega) (by omega) (by omega)).mono ?_
  rintro e w4 ⟨a4, c4, rfl, r4, l4, m4, k4⟩
  have hk2 := ((((Kp.refl (w.alloc (.cells #[.bool false, .slice none 0 0, .int .i64 0] 28))).alloc _).trans k2).alloc _).trans (k3.trans k4)
  obtain ⟨q0, q1, q2, f0, f1, f2⟩ := HB.out.kp hk2
  have hk := ((Kp.refl w).alloc _).trans hk2
  generalize canon s (T - 1) (16384 - (p : Int)) = D at *
  have hst := stored q0 q1 q2 (fun _ h => by cases h) (fun _ h => by cases h) (fun _ h => by cases h) (.bool D.neg) (.slice a4 (limbs D.m).length c4) (.int .i64 D.e)
  go_wp2_with fail
  generalize (((w4.setCell _ _).setCell _ _).setCell _ _) = W at hst ⊢
  obtain ⟨s0, s1, s2, _, s4, s5, _, _⟩ := hst
  refine bodyPost_ret (v := .agg #[.bool D.neg, .slice a4 (limbs D.m).length c4, .int .i64 D.e]) (by simp [results, Tryz.results189, go_sem, s0, s1, s2]) rfl ?_
  exact ⟨a4, c4, rfl, s4 _ _ r4, l4, m4, s5 _ hk (by omega)⟩
/-- what Cut computes: the unit, the mantissa -/
def cutQ (m K : Nat) (more out : Bool) : Nat := if (more || (decide (0 < K) && !decide (m / 2 ^ K * 2 ^ K = m))) && out then m / 2 ^ K + 1 else m / 2 ^ K
def cutX (neg : Bool) (m : Nat) (e : Int) (more : Bool) (p : Nat) (up : Bool) (K : Nat) : Dy × Int :=
  if 0 < bits (cutQ m K more (neg != up)) ∧ 16384 < (bits (cutQ m K more (neg != up)) : Int) + e + K then
    (if (neg != up) = true then (.zero, 9) else (canon neg (2 ^ p - 1) (16384 - p), 0))
  else (canon neg (cutQ m K more (neg != up)) (e + K), 0)
theorem canon_opp (q : Nat) (u : Int) : (canon false q u).opp = canon true q u := by
  unfold canon
  split
  · exact zero_opp
  · next h =>
    have := (oddp_spec h).1
    unfold Dy.opp
    rw [if_neg (show oddp q ≠ 0 by intro k; rw [k] at this; exact absurd this (by decide))]
    rfl
/-- Cut is the rounding -/
theorem cutX_rnd {neg more : Bool} {m p K : Nat} {e : Int} {up : Bool} (hp : 8 ≤ p) (hp2 : p ≤ 512) (hK : (K : Int) = max (max ((bits m : Int) - p) (-16384 - e)) 0) (hm : more = true → p < bits m) (h0 : m = 0 → e ≤ 16384) (he : e ≤ 100000) :
    cutX neg m e more p up K = rndE (rndS neg m e more p up) := by
  have hb1 : (neg != up) = (up != neg) := by cases neg <;> cases up <;> rfl
  have key : ∀ u : Bool, (if 0 < bits (cutQ m K more u) ∧ 16384 < (bits (cutQ m K more u) : Int) + e + K then (if u = true then none else some (canon false (2 ^ p - 1) (16384 - p))) else some (canon false (cutQ m K more u) (e + K))) = rcut m e more p u := by
    intro u
    have hu : runit m e p = max (e + bits m - p) (-16384) := rfl
    rcases Nat.eq_zero_or_pos K with hK0 | hK0
    · subst hK0
      have hle : runit m e p ≤ e := by rw [hu]; omega
      have hmf : more = false := by
        cases hmm : more with
        | false => rfl
        | true => have := hm hmm; omega
      have hQ : cutQ m 0 more u = m := by unfold cutQ; rw [hmf]; simp
      have hlost : rlost m e (runit m e p) = false := by unfold rlost; rw [decide_eq_true hle]; rfl
      have hrl : rlow m e (runit m e p) = m * 2 ^ (e - runit m e p).toNat := by unfold rlow; rw [if_pos hle]
      have hrq : rq m e more p u = m * 2 ^ (e - runit m e p).toNat := by unfold rq; rw [hlost, hmf, hrl]; simp
      unfold rcut
      rw [hrq, hQ]
      have hcan : canon false (m * 2 ^ (e - runit m e p).toNat) (runit m e p) = canon false m (e + (0 : Nat)) := by
        rw [canon_shift]; congr 1; omega
      rw [hcan]
      by_cases hm0 : m = 0
      · subst hm0
        rw [Nat.zero_mul, bits_zero, if_neg (by omega), if_neg (by have := h0 rfl; rw [hu, bits_zero]; omega)]
      · have hbp := bits_pos hm0
        rw [bits_mul_pow hm0]
        by_cases hov : 16384 < (bits m : Int) + e
        · rw [if_pos (show 0 < bits m ∧ 16384 < (bits m : Int) + e + (0 : Nat) from ⟨hbp, by omega⟩), if_pos (show ((bits m + (e - runit m e p).toNat : Nat) : Int) + runit m e p > 16384 by omega)]
        · rw [if_neg (show ¬ (0 < bits m ∧ 16384 < (bits m : Int) + e + (0 : Nat)) from fun h => hov (by have := h.2; omega)), if_neg (show ¬ ((bits m + (e - runit m e p).toNat : Nat) : Int) + runit m e p > 16384 by omega)]
    · have hKu : runit m e p = e + K := by rw [hu]; omega
      have hnle : ¬ runit m e p ≤ e := by omega
      have hKn : (runit m e p - e).toNat = K := by omega
      have hrl : rlow m e (runit m e p) = m / 2 ^ K := by unfold rlow; rw [if_neg hnle, hKn]
      have hdm := Nat.div_add_mod m (2 ^ K)
      have hlost : rlost m e (runit m e p) = !decide (m / 2 ^ K * 2 ^ K = m) := by
        unfold rlost
        rw [decide_eq_false hnle, hKn]
        have : (m % 2 ^ K = 0) ↔ (m / 2 ^ K * 2 ^ K = m) := by rw [Nat.mul_comm]; omega
        simp [this]
      have hrq : rq m e more p u = cutQ m K more u := by
        unfold rq cutQ
        rw [hlost, hrl, decide_eq_true hK0, Bool.true_and, Bool.and_comm]
      unfold rcut
      rw [hrq, hKu]
      by_cases hq0 : bits (cutQ m K more u) = 0
      · have hsmall : ¬ (bits (cutQ m K more u) : Int) + (e + K) > 16384 := by
          rw [hq0]
          have hq1 : cutQ m K more u = 0 := by
            rcases Nat.eq_zero_or_pos (cutQ m K more u) with h | h
            · exact h
            · have := bits_pos (Nat.ne_of_gt h); omega
          have hq2 : m / 2 ^ K = 0 := by
            unfold cutQ at hq1; split at hq1 <;> omega
          have hlt : m < 2 ^ K := by
            rcases Nat.lt_or_ge m (2 ^ K) with h | h
            · exact h
            · have := Nat.div_pos h (two_pow_pos K); omega
          have hbK := bits_le.2 hlt
          omega
        rw [if_neg (fun h => by have := h.1; omega), if_neg hsmall]
      · by_cases hov : 16384 < (bits (cutQ m K more u) : Int) + e + K
        · rw [if_pos ⟨by omega, hov⟩, if_pos (show (bits (cutQ m K more u) : Int) + (e + K) > 16384 by omega)]
        · rw [if_neg (fun h => hov h.2), if_neg (show ¬ (bits (cutQ m K more u) : Int) + (e + K) > 16384 by omega)]
  have e0 : ∀ R, sgnR false R = R := fun _ => rfl
  have e1 : ∀ R, sgnR true R = R.map Dy.opp := fun _ => rfl
  unfold rndS
  rw [← hb1, ← key (neg != up)]
  unfold cutX
  generalize cutQ m K more (neg != up) = Q
  by_cases hc : 0 < bits Q ∧ 16384 < (bits Q : Int) + e + K
  · rw [if_pos hc, if_pos hc]
    by_cases ho : (neg != up) = true
    · rw [if_pos ho, if_pos ho]
      cases neg with
      | false => rw [e0]; rfl
      | true => rw [e1]; rfl
    · rw [if_neg ho, if_neg ho]
      cases neg with
      | false => rw [e0]; rfl
      | true => rw [e1, Option.map_some, canon_opp]; rfl
  · rw [if_neg hc, if_neg hc]
    cases neg with
    | false => rw [e0]; rfl
    | true => rw [e1, Option.map_some, canon_opp]; rfl
end Go.Proofs.YtdidocdpjiiedaaGreatDoor
end
