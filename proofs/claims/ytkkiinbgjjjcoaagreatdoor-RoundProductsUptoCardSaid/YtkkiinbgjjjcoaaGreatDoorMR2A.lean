/-
  Walks: the reference's trim, compare, Equal.
-/
import Derived.Test.YtkkiinbgjjjcoaaGreatDoorMRoB
import Derived.Test.YtkkiinbgjjjcoaaGreatDoorMCmp
namespace Go.Proofs.YtkkiinbgjjjcoaaGreatDoor
open Go.RowKit

set_option maxHeartbeats 1000000 in
theorem r2trim_any (a : Option Addr) (xs : List Nat) (c : Nat) (w : World) (h : Rd w a xs) (hc : xs.length ≤ c) (hm : c ≤ maxLen) (hl : xs.length ≤ 1100000) :
    Calls Tryz.prog 76 #[.slice a xs.length c] w (NatOut w (val xs)) := by
  have hend : ∀ (n : Nat) (W : World), n = (limbs (val xs)).length → Rd W a (limbs (val xs)) → Rd (W.alloc (.cells #[] 35)) a (limbs (val xs)) := fun n W _ hr => hr.kp ((Kp.refl W).alloc _)
  have hm' := hm
  unfold maxLen at hm
  have hll := limbs_len_le h.lt32
  go_enter Tryz.func76, Tryz.ntmps76
  go_wp2
  go_loop [3] (fun x => ∃ n : Nat, n ≤ xs.length ∧ x = .int .i64 n ∧ ∀ i, n ≤ i → i < xs.length → nth xs i = 0) (fun x => (intOf x).toNat)
  case atStart => exact ⟨xs.length, Nat.le_refl _, rfl, fun i h1 h2 => by omega⟩
  case round =>
    obtain ⟨n, hn, rfl, hz⟩ := hrel
    have Hz := Lib.hid hz; clear hz
    by_cases h0 : n = 0
    · have htop := trim_top h.lt32 hn Hz.out (by omega)
      have hlen : (limbs (val xs)).length = n := by rw [← htop, List.length_take, Nat.min_eq_left hn]
      have hr := h.limbs.kp ((Kp.refl w).alloc (.cells #[] 35))
      have Hlen := Lib.hid hlen
      clear htop hlen
      subst h0
      go_wp2_with (at_builtin; refine wpList_append_u32s rfl _ _ rfl w.heap.size _ [] rfl (Own.empty w _ (Nat.le_refl _)) a (limbs (val xs)) c (by rw [Hlen.out]; rfl) hr (by simp; omega) (by simp) ?_; intro a2 c2 w2 hown2 hb2)
      go_ret
      obtain ⟨h5, h6, h7, h8⟩ := hown2.rd
      rw [List.nil_append] at h6 h8
      exact ⟨a2, c2, by simp, h6, h7, h8, ((Kp.refl w).alloc _).below.trans hb2⟩
    · obtain ⟨b, o, rfl, hcell⟩ := h.some (i := n - 1) (by omega)
      have hk := hcell (n - 1) (by omega)
      clear hcell
      by_cases hx : nth xs (n - 1) = 0
      · have hx2 : ((nth xs (n - 1) : Int) == 0) = true := by simp [hx]
        have Hx := Lib.hid hx; clear hx
        go_wp2
        go_round
        case rel =>
          refine ⟨n - 1, by omega, by congr 1; omega, fun i h1 h2 => ?_⟩
          by_cases hi : i = n - 1
          · rw [hi]; exact Hx.out
          · exact Hz.out i (by omega) h2
        case measure => simp [intOf]; omega
      · have hx2 : ((nth xs (n - 1) : Int) == 0) = false := by simp; omega
        have htop := trim_top h.lt32 hn Hz.out (fun _ => hx)
        have hlen : (limbs (val xs)).length = n := by rw [← htop, List.length_take, Nat.min_eq_left hn]
        have hr := h.limbs.kp ((Kp.refl w).alloc (.cells #[] 35))
        have Hlen := Lib.hid hlen
        clear htop hlen
        go_wp2_with (at_builtin; refine wpList_append_u32s rfl _ _ rfl w.heap.size _ [] rfl (Own.empty w _ (Nat.le_refl _)) (some ⟨b, o, none⟩) (limbs (val xs)) c (by rw [Hlen.out]; rfl) hr (by simp; omega) (by simp) ?_; intro a2 c2 w2 hown2 hb2)
        go_ret
        obtain ⟨h5, h6, h7, h8⟩ := hown2.rd
        rw [List.nil_append] at h6 h8
        exact ⟨a2, c2, by simp, h6, h7, h8, ((Kp.refl w).alloc _).below.trans hb2⟩

/-- compare, of limbs as they come -/
def cmpL (xs ys : List Nat) : Int := if xs.length < ys.length then -1 else if ys.length < xs.length then 1 else cmpN (val xs) (val ys)
theorem cmpL_lt {xs ys : List Nat} (h : xs.length < ys.length) : cmpL xs ys = -1 := by unfold cmpL; rw [if_pos h]
theorem cmpL_gt {xs ys : List Nat} (h : ys.length < xs.length) : cmpL xs ys = 1 := by unfold cmpL; rw [if_neg (by omega), if_pos h]
theorem cmpL_eq {xs ys : List Nat} (h : xs.length = ys.length) : cmpL xs ys = cmpN (val xs) (val ys) := by unfold cmpL; rw [if_neg (by omega), if_neg (by omega)]
set_option maxHeartbeats 1000000 in
theorem r2compare_any (a b : Option Addr) (xs ys : List Nat) (c d : Nat) (w : World) (h1 : Rd w a xs) (h2 : Rd w b ys) (hxl : xs.length ≤ 1100000) (_hyl : ys.length ≤ 1100000) :
    Calls Tryz.prog 49 #[.slice a xs.length c, .slice b ys.length d] w fun e w' => e = .returned (.int .i64 (cmpL xs ys)) ∧ Kp w w' := by
  go_enter Tryz.func49, Tryz.ntmps49
  rcases Nat.lt_trichotomy xs.length ys.length with hlen | hlen | hlen
  · have hne : ((xs.length : Int) != ys.length) = true := by simp; omega
    go_wp2_with fail
    go_ret
    exact ⟨ret_int (cmpL_lt hlen).symm, .refl _⟩
  · have hne : ((xs.length : Int) != ys.length) = false := by simp; omega
    have Hlen := Lib.hid hlen
    have hle1 : xs.length ≤ ys.length := by omega
    have hle2 : ys.length ≤ xs.length := by omega
    clear hlen
    go_wp2_with fail
    go_loopw [5] (fun ix wr => ∃ k : Nat, k ≤ xs.length ∧ ix = .int .i64 ((k : Int) - 1) ∧ xs.drop k = ys.drop k ∧ Kp w wr) (fun ix _ => (intOf ix + 1).toNat)
    case atStart => exact ⟨xs.length, Nat.le_refl _, rfl, by rw [List.drop_of_length_le (Nat.le_refl _), List.drop_of_length_le (by omega)], .refl _⟩
    case round =>
      obtain ⟨k, hk, rfl, hdrop, hkp⟩ := hrel
      have Hdrop := Lib.hid hdrop
      clear hdrop
      rcases k with _ | j
      · rw [show (((0 : Nat) : Int) - 1) = -1 from rfl]
        go_wp2_with fail
        go_ret
        have : xs = ys := by have := Hdrop.out; rwa [List.drop_zero, List.drop_zero] at this
        exact ⟨ret_int ((cmpL_eq Hlen.out).trans (cmpN_eq (by rw [this]))).symm, hkp⟩
      · rw [show (((j + 1 : Nat) : Int) - 1) = (j : Int) from by omega]
        obtain ⟨b1, o1, rfl, hcx⟩ := (h1.kp hkp).some (i := j) (by omega)
        have hx1 := hcx j (by omega)
        obtain ⟨b2, o2, rfl, hcy⟩ := (h2.kp hkp).some (i := j) (by omega)
        have hy1 := hcy j (by omega)
        clear hcx hcy
        have bx := h1.lt32.nth j
        have by' := h2.lt32.nth j
        rcases Nat.lt_trichotomy (nth xs j) (nth ys j) with hd1 | hd1 | hd1
        · have Hr := Lib.hid (val_lt_of_top Hlen.out (by omega) h1.lt32 Hdrop.out hd1)
          go_wp2_with fail
          go_quiet (fail)
          go_wp2_with fail
          go_ret
          exact ⟨ret_int ((cmpL_eq Hlen.out).trans (cmpN_lt Hr.out)).symm, by first | exact hkp.drewN _ | exact (hkp.drewN _).drewN _⟩
        · have hd2 : ¬ nth xs j < nth ys j := by omega
          have hd3 : ¬ nth ys j < nth xs j := by omega
          have Hd1 := Lib.hid hd1
          clear hd1
          go_wp2_with fail
          go_quiet (fail)
          go_wp2_with fail
          go_quiet (fail)
          go_wp2_with fail
          go_roundw
          case rel =>
            refine ⟨j, by omega, rfl, ?_, hkp.drewN _⟩
            rw [drop_eq_nth (show j < xs.length by omega), drop_eq_nth (show j < ys.length by omega), Hdrop.out, Hd1.out]
          case measure => simp [intOf]
        · have hd2 : ¬ nth xs j < nth ys j := by omega
          have Hr := Lib.hid (val_lt_of_top (us := ys) (vs := xs) (k := j) Hlen.out.symm (by omega) h2.lt32 Hdrop.out.symm hd1)
          go_wp2_with fail
          go_quiet (fail)
          go_wp2_with fail
          go_quiet (fail)
          go_wp2_with fail
          go_ret
          exact ⟨ret_int ((cmpL_eq Hlen.out).trans (cmpN_gt Hr.out)).symm, by first | exact hkp.drewN _ | exact (hkp.drewN _).drewN _⟩
  · have hne : ((xs.length : Int) != ys.length) = true := by simp; omega
    go_wp2_with fail
    go_ret
    exact ⟨ret_int (cmpL_gt hlen).symm, .refl _⟩
theorem val_inj {xs ys : List Nat} (hx : Lt32 xs) (hy : Lt32 ys) (hl : xs.length = ys.length) (h : val xs = val ys) : xs = ys := by
  induction xs generalizing ys with
  | nil => cases ys with
    | nil => rfl
    | cons y ys => simp at hl
  | cons x xs ih => cases ys with
    | nil => simp at hl
    | cons y ys =>
      rw [val_cons, val_cons] at h
      have h1 := hx x (by simp)
      have h2 := hy y (by simp)
      have e1 : x = y := by omega
      subst e1
      rw [ih (fun z hz => hx z (List.mem_cons_of_mem _ hz)) (fun z hz => hy z (List.mem_cons_of_mem _ hz)) (by simpa using hl) (by omega)]
/-- have two numbers equal fields? -/
def eqR (x y : RD) : Bool := decide (x.neg = y.neg) && (decide (x.e = y.e) && decide (x.xs = y.xs))
end Go.Proofs.YtkkiinbgjjjcoaaGreatDoor
