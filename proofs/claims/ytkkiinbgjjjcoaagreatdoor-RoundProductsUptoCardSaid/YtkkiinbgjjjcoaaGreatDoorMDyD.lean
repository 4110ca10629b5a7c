/-
  Walks: dyadic.checked, Make.
  Walks: dyadic.Make.
  Walks: round.precise, shl, shr, of; dyadic.Neg, Scale.
-/
import Derived.Test.YtkkiinbgjjjcoaaGreatDoorMDyB
import Derived.Test.YtkkiinbgjjjcoaaGreatDoorMIvD
import Derived.Test.YtkkiinbgjjjcoaaGreatDoorMShr
section
namespace Go.Proofs.YtkkiinbgjjjcoaaGreatDoor
open Go.RowKit

/-- the result is the dyadic number d and the error f -/
def DyE (w : World) (d : Dy) (f : Int) (e : Ending) (w' : World) : Prop :=
  ∃ a c, e = .returned (.tuple #[.agg #[.bool d.neg, .slice a (limbs d.m).length c, .int .i64 d.e], .int .i64 f]) ∧ Rd w' a (limbs d.m) ∧ (limbs d.m).length ≤ c ∧ c ≤ maxLen ∧ Kp w w'
theorem dyE_zero {w w' : World} {f : Int} {e : Ending} (he : e = .returned (.tuple #[.agg #[.bool false, .slice none 0 0, .int .i64 0], .int .i64 f])) (hk : Kp w w') : DyE w .zero f e w' := by
  subst he
  refine ⟨none, 0, ?_, ?_, ?_, by unfold maxLen; omega, hk⟩
  · show _ = Ending.returned (.tuple #[.agg #[.bool false, .slice none (limbs 0).length 0, .int .i64 0], .int .i64 f])
    rw [limbs_zero]; rfl
  · show Rd w' none (limbs 0)
    rw [limbs_zero]; exact .nil _ _
  · show (limbs 0).length ≤ 0
    rw [limbs_zero]; exact Nat.le_refl _
/-- checked -/
def chk (d : Dy) : Dy × Int := if inrB d.m d.e then (d, 0) else (.zero, 9)

set_option maxHeartbeats 2000000 in
theorem checked_any (d : Dy) (a : Option Addr) (c : Nat) (w : World) (h : Rd w a (limbs d.m)) (hc : (limbs d.m).length ≤ c) (hm : c ≤ maxLen) (hl : (limbs d.m).length ≤ 1100000) (he : I64 d.e) :
    Calls Tryz.prog 95 #[.agg #[.bool d.neg, .slice a (limbs d.m).length c, .int .i64 d.e]] w (DyE w (chk d).1 (chk d).2) := by
  have hr := inRange_any d.neg a (limbs d.m) c d.e ((w.alloc (.cells #[.bool d.neg, .slice a (limbs d.m).length c, .int .i64 d.e] 24)).alloc (.cells #[.bool false, .slice none 0 0, .int .i64 0] 24)) (h.kp (((Kp.refl w).alloc _).alloc _)) hc hm hl he
  rw [val_limbs] at hr
  have Hr := Lib.hid hr
  clear hr
  cases hi : inrB d.m d.e with
  | true =>
    rw [hi] at Hr
    have Hd := Lib.hid (show chk d = (d, 0) by unfold chk; rw [hi]; rfl)
    clear hi
    go_enter Tryz.func95, Tryz.ntmps95
    go_wp2_with fail
    refine Hr.out.mono ?_
    rintro e w1 ⟨rfl, hk⟩
    obtain ⟨c0, c1, c2, _⟩ := (Box3.new1 w (.bool d.neg) (.slice a (limbs d.m).length c) (.int .i64 d.e) 24 (.cells #[.bool false, .slice none 0 0, .int .i64 0] 24)).kp hk
    obtain ⟨q0, q1, q2, f0, f1, f2⟩ := (Box3.new2 w (.bool false) (.slice none 0 0) (.int .i64 0) 24 (.cells #[.bool d.neg, .slice a (limbs d.m).length c, .int .i64 d.e] 24)).kp hk
    have hk2 := (((Kp.refl w).alloc _).alloc _).trans hk
    go_wp2_with fail
    have hst := stored q0 q1 q2 (fun _ h => by cases h) (fun _ h => by cases h) (fun _ h => by cases h) (.bool d.neg) (.slice a (limbs d.m).length c) (.int .i64 d.e)
    generalize (((w1.setCell _ _).setCell _ _).setCell _ _) = W at hst ⊢
    obtain ⟨s0, s1, s2, _, s4, s5, _, _⟩ := hst
    refine bodyPost_ret (v := .tuple #[.agg #[.bool d.neg, .slice a (limbs d.m).length c, .int .i64 d.e], .int .i64 0]) (by simp [results, Tryz.results95, go_sem, s0, s1, s2]) rfl ?_
    rw [Hd.out]
    exact ⟨a, c, rfl, s4 _ _ (h.kp hk2), hc, hm, s5 _ hk2 (by omega)⟩
  | false =>
    rw [hi] at Hr
    have Hd := Lib.hid (show chk d = (.zero, 9) by unfold chk; rw [hi]; rfl)
    clear hi
    go_enter Tryz.func95, Tryz.ntmps95
    go_wp2_with fail
    refine Hr.out.mono ?_
    rintro e w1 ⟨rfl, hk⟩
    obtain ⟨q0, q1, q2, f0, f1, f2⟩ := (Box3.new2 w (.bool false) (.slice none 0 0) (.int .i64 0) 24 (.cells #[.bool d.neg, .slice a (limbs d.m).length c, .int .i64 d.e] 24)).kp hk
    have hk2 := (((Kp.refl w).alloc _).alloc _).trans hk
    go_wp2_with fail
    have hst := stored q0 q1 q2 (fun _ h => by cases h) (fun _ h => by cases h) (fun _ h => by cases h) (.bool false) (.slice none 0 0) (.int .i64 0)
    generalize (((w1.setCell _ _).setCell _ _).setCell _ _) = W at hst ⊢
    obtain ⟨s0, s1, s2, _, s4, s5, _, _⟩ := hst
    refine bodyPost_ret (v := .tuple #[.agg #[.bool false, .slice none 0 0, .int .i64 0], .int .i64 9]) (by simp [results, Tryz.results95, go_sem, s0, s1, s2]) rfl ?_
    rw [Hd.out]
    exact dyE_zero rfl (s5 _ hk2 (by omega))
end Go.Proofs.YtkkiinbgjjjcoaaGreatDoor
end

section
namespace Go.Proofs.YtkkiinbgjjjcoaaGreatDoor
open Go.RowKit

theorem canon_len (s : Bool) (n : Nat) (e : Int) : (limbs (canon s n e).m).length ≤ (limbs n).length := by
  unfold canon
  split
  · show (limbs 0).length ≤ _; rw [limbs_zero]; exact Nat.zero_le _
  · exact limbs_length_mono (Nat.div_le_self _ _)
theorem canon_e (s : Bool) {n : Nat} {e : Int} (h0 : -1000000000 ≤ e) (h1 : e ≤ 1000000000) (hb : (limbs n).length ≤ 256) : -1000000000 ≤ (canon s n e).e ∧ (canon s n e).e ≤ 1000010000 := by
  unfold canon
  split
  · exact ⟨by decide, by decide⟩
  · next h =>
    have e1 := bits_oddp h
    obtain ⟨k, hk⟩ : ∃ k : Nat, k = 256 := ⟨_, rfl⟩
    rw [← hk] at hb
    have e2 : bits n ≤ 32 * k := bits_le.2 (by rw [← pow32]; exact limbs_length_le.1 hb)
    simp only []
    omega

set_option maxHeartbeats 2000000 in
theorem Make_any (s : Bool) (a : Option Addr) (xs : List Nat) (c : Nat) (ex : Int) (w : World) (h : Rd w a xs) (hc : xs.length ≤ c) (hm : c ≤ maxLen) (hl : xs.length ≤ 256) (he0 : -32768 ≤ ex) (he1 : ex ≤ 32768) (hT : Tab w) :
    Calls Tryz.prog 91 #[.bool s, .slice a xs.length c, .int .i64 ex] w (DyE w (chk (canon s (val xs) ex)).1 (chk (canon s (val xs) ex)).2) := by
  have hE := exponent_any ex (w.alloc (.cells #[.bool false, .slice none 0 0, .int .i64 0] 24)) ⟨by omega, by omega⟩
  rw [show expB ex = true from decide_eq_true ⟨he0, he1⟩] at hE
  have HE := Lib.hid hE
  have hll := limbs_len_le h.lt32
  have hlen := canon_len s (val xs) ex
  have hee := canon_e s (show -1000000000 ≤ ex by omega) (show ex ≤ 1000000000 by omega) (show (limbs (val xs)).length ≤ 256 by omega)
  clear hE
  go_enter Tryz.func91, Tryz.ntmps91
  go_wp2_with fail
  refine HE.out.mono ?_
  rintro e w1 ⟨rfl, rfl⟩
  go_wp2_with fail
  refine (canonical_any s a xs c ex _ (h.kp ((Kp.refl w).alloc _)) hc hm hl (by omega) (by omega) (hT.kp ((Kp.refl w).alloc _))).mono ?_
  rintro e w2 ⟨a2, c2, rfl, h2, h3, h4, h5⟩
  generalize canon s (val xs) ex = D at *
  go_wp2_with fail
  refine (checked_any D a2 c2 _ h2 h3 h4 (by omega) ⟨by omega, by omega⟩).mono ?_
  rintro e w3 ⟨a3, c3, rfl, h6, h7, h8, h9⟩
  generalize (chk D).1 = F at *
  generalize (chk D).2 = f at *
  have hk := h5.trans h9
  obtain ⟨q0, q1, q2, f0, f1, f2⟩ := (Box3.new w (.bool false) (.slice none 0 0) (.int .i64 0) 24).kp hk
  have hk2 := ((Kp.refl w).alloc _).trans hk
  go_wp2_with fail
  have hst := stored q0 q1 q2 (fun _ h => by cases h) (fun _ h => by cases h) (fun _ h => by cases h) (.bool F.neg) (.slice a3 (limbs F.m).length c3) (.int .i64 F.e)
  generalize (((w3.setCell _ _).setCell _ _).setCell _ _) = W at hst ⊢
  obtain ⟨s0, s1, s2, _, s4, s5, _, _⟩ := hst
  refine bodyPost_ret (v := .tuple #[.agg #[.bool F.neg, .slice a3 (limbs F.m).length c3, .int .i64 F.e], .int .i64 f]) (by simp [results, Tryz.results91, go_sem, s0, s1, s2]) rfl ?_
  exact ⟨a3, c3, rfl, s4 _ _ h6, h7, h8, s5 _ hk2 (by omega)⟩
end Go.Proofs.YtkkiinbgjjjcoaaGreatDoor
end

section
namespace Go.Proofs.YtkkiinbgjjjcoaaGreatDoor
open Go.RowKit

/-- is it a precision? -/
def preB (p : Int) : Bool := decide (8 ≤ p ∧ p ≤ 512)
theorem preB_iff {p : Int} : preB p = true ↔ 8 ≤ p ∧ p ≤ 512 := by unfold preB; simp
theorem precise_any (p : Int) (w : World) :
    Calls Tryz.prog 63 #[.int .i64 p] w fun e w' => e = .returned (.bool (preB p)) ∧ w = w' := by
  by_cases h1 : 8 ≤ p
  · by_cases h2 : p ≤ 512
    · have H := Lib.hid (show preB p = true from decide_eq_true ⟨h1, h2⟩)
      go_enter Tryz.func63, Tryz.ntmps63
      go_wp2_with fail
      go_ret
      exact ⟨ret_bool (by first | exact H.out.symm | (rw [H.out]; simp; omega)), rfl⟩
    · have H := Lib.hid (show preB p = false from decide_eq_false (by omega))
      go_enter Tryz.func63, Tryz.ntmps63
      go_wp2_with fail
      go_ret
      exact ⟨ret_bool (by first | exact H.out.symm | (rw [H.out]; simp; omega)), rfl⟩
  · have H := Lib.hid (show preB p = false from decide_eq_false (by omega))
    go_enter Tryz.func63, Tryz.ntmps63
    go_wp2_with fail
    go_ret
    exact ⟨ret_bool (by first | exact H.out.symm | (rw [H.out]; simp; omega)), rfl⟩

/-- the result is the limbs of a number -/
def NatOut (w : World) (v : Nat) (e : Ending) (w' : World) : Prop :=
  ∃ a c, e = .returned (.slice a (limbs v).length c) ∧ (limbs v).length ≤ c ∧ c ≤ maxLen ∧ Rd w' a (limbs v) ∧ Kp w w'
theorem roshl_any (a : Option Addr) (xs : List Nat) (c : Nat) (n : Int) (w : World) (hx : Rd w a xs) (hxl : xs.length ≤ 256) (hxc : xs.length ≤ c) (hc : c ≤ maxLen) (h0 : 0 ≤ n) (hn : n ≤ 65536) (hv : (limbs (val xs * 2 ^ n.toNat)).length ≤ 256) :
    Calls Tryz.prog 53 #[.slice a xs.length c, .int .i64 n] w (NatOut w (val xs * 2 ^ n.toNat)) := by
  have H := Lib.hid (Shl_any a xs c n w hx hxl hxc hc h0 hn hv)
  clear hv
  generalize val xs * 2 ^ n.toNat = V at *
  go_enter Tryz.func53, Tryz.ntmps53
  go_wp2_with fail
  refine H.out.mono ?_
  rintro e w2 ⟨a2, c2, rfl, h3, h4, h5, h6⟩
  go_wp2_with fail
  go_ret
  exact ⟨a2, c2, rfl, h3, h4, h5, h6⟩

/-- limbs, and a mark -/
def ShrOut (w : World) (v : Nat) (lost : Bool) (e : Ending) (w' : World) : Prop :=
  ∃ a c, e = .returned (.tuple #[.slice a (limbs v).length c, .bool lost]) ∧ (limbs v).length ≤ c ∧ c ≤ maxLen ∧ Rd w' a (limbs v) ∧ Kp w w'
theorem shr_low {V n b : Nat} (hb : bits V = b) (h : b < n) : V / 2 ^ n = V / 2 ^ b ∧ (decide (V % 2 ^ n = 0)) = decide (V % 2 ^ b = 0) := by
  have h1 : V < 2 ^ b := hb ▸ lt_two_pow_bits V
  have h2 : V < 2 ^ n := Nat.lt_of_lt_of_le h1 (Nat.pow_le_pow_right (by decide) (by omega))
  rw [Nat.div_eq_of_lt h1, Nat.div_eq_of_lt h2, Nat.mod_eq_of_lt h1, Nat.mod_eq_of_lt h2]
  exact ⟨rfl, rfl⟩
theorem cmp_lost {V m : Nat} : (cmpN (V / 2 ^ m * 2 ^ m) V != 0) = !decide (V % 2 ^ m = 0) := by
  have h := Nat.div_add_mod V (2 ^ m)
  rw [Nat.mul_comm] at h
  by_cases h0 : V % 2 ^ m = 0
  · rw [cmpN_eq (by omega)]; simp [h0]
  · rw [cmpN_lt (by omega)]; simp [h0]
set_option maxHeartbeats 2000000 in
theorem roshr_any (a : Option Addr) (xs : List Nat) (c n : Nat) (w : World) (hx : Rd w a xs) (hxl : xs.length ≤ 256) (hxc : xs.length ≤ c) (hc : c ≤ maxLen) (hn : n ≤ 9000000) :
    Calls Tryz.prog 81 #[.slice a xs.length c, .int .i64 n] w (ShrOut w (val xs / 2 ^ n) (!decide (val xs % 2 ^ n = 0))) := by
  have hb := bits_val_le hx.lt32
  have hll := limbs_len_le hx.lt32
  obtain ⟨m, hm, hm2⟩ : ∃ m : Nat, m = (if bits (val xs) < n then bits (val xs) else n) ∧ m ≤ bits (val xs) := ⟨_, rfl, by split <;> omega⟩
  have e1 : val xs / 2 ^ n = val xs / 2 ^ m ∧ (decide (val xs % 2 ^ n = 0)) = decide (val xs % 2 ^ m = 0) := by
    rw [hm]; split
    · next h => exact shr_low rfl h
    · exact ⟨rfl, rfl⟩
  rw [e1.1, e1.2, ← cmp_lost]
  clear e1
  have hB := Lib.hid (bits_any a xs c w hx hxc hc (by omega))
  have hS := Lib.hid (Shr_any a xs c m w hx hxl hxc hc (by omega) (by omega))
  rw [Int.toNat_natCast] at hS
  have hle := Nat.div_le_self (val xs) (2 ^ m)
  have hle2 := Nat.div_mul_le_self (val xs) (2 ^ m)
  have hq : (limbs (val xs / 2 ^ m)).length ≤ 256 := Nat.le_trans (limbs_length_mono hle) (by omega)
  have hq2 : (limbs (val (limbs (val xs / 2 ^ m)) * 2 ^ ((m : Int)).toNat)).length ≤ 256 := by
    rw [val_limbs, Int.toNat_natCast]; exact Nat.le_trans (limbs_length_mono hle2) (by omega)
  have Hq2 := Lib.hid hq2
  have hmb : (m : Int) ≤ 65536 := by omega
  clear hq2 hle hle2 hll
  by_cases hlt : bits (val xs) < n
  · have hme : m = bits (val xs) := by rw [hm, if_pos hlt]
    clear hm
    subst hme
    go_enter Tryz.func81, Tryz.ntmps81
    go_wp2_with fail
    refine hB.out.mono ?_
    rintro e w1 ⟨rfl, rfl⟩
    go_wp2_with fail
    refine hB.out.mono ?_
    rintro e w1 ⟨rfl, rfl⟩
    go_wp2_with fail
    refine hS.out.mono ?_
    rintro e w2 ⟨a2, c2, rfl, h3, h4, h5, h6⟩
    go_wp2_with fail
    refine (roshl_any a2 _ c2 _ _ h5 hq h3 h4 (by omega) hmb Hq2.out).mono ?_
    rintro e w3 ⟨a3, c3, rfl, k3, k4, k5, k6⟩
    rw [val_limbs, Int.toNat_natCast] at k3 k5 ⊢
    go_wp2_with fail
    refine (cmp_any a3 a _ xs c3 c _ k5 (hx.kp (h6.trans k6)) k3 hxc k4 hc).mono ?_
    rintro e w4 ⟨rfl, k7⟩
    rw [val_limbs]
    go_wp2_with fail
    go_ret2
    exact ⟨a2, c2, rfl, h3, h4, (h5.kp k6).kp k7, (h6.trans k6).trans k7⟩
  · have hme : m = n := by rw [hm, if_neg hlt]
    clear hm
    subst hme
    go_enter Tryz.func81, Tryz.ntmps81
    go_wp2_with fail
    refine hB.out.mono ?_
    rintro e w1 ⟨rfl, rfl⟩
    go_wp2_with fail
    refine hS.out.mono ?_
    rintro e w2 ⟨a2, c2, rfl, h3, h4, h5, h6⟩
    go_wp2_with fail
    refine (roshl_any a2 _ c2 _ _ h5 hq h3 h4 (by omega) hmb Hq2.out).mono ?_
    rintro e w3 ⟨a3, c3, rfl, k3, k4, k5, k6⟩
    rw [val_limbs, Int.toNat_natCast] at k3 k5 ⊢
    go_wp2_with fail
    refine (cmp_any a3 a _ xs c3 c _ k5 (hx.kp (h6.trans k6)) k3 hxc k4 hc).mono ?_
    rintro e w4 ⟨rfl, k7⟩
    rw [val_limbs]
    go_wp2_with fail
    go_ret2
    exact ⟨a2, c2, rfl, h3, h4, (h5.kp k6).kp k7, (h6.trans k6).trans k7⟩
end Go.Proofs.YtkkiinbgjjjcoaaGreatDoor
end
