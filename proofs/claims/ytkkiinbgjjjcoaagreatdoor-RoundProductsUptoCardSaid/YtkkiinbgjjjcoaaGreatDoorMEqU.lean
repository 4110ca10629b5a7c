/-
  Walks: slices.Equal of uint32; the law's own same, num, great; round.Is.
-/
import Derived.Test.YtkkiinbgjjjcoaaGreatDoorMWrap
import Derived.Test.YtkkiinbgjjjcoaaGreatDoorMSumH
namespace Go.Proofs.YtkkiinbgjjjcoaaGreatDoor
open Go.RowKit

set_option maxHeartbeats 1000000 in
theorem eqU_any (a b : Option Addr) (xs ys : List Nat) (c d : Nat) (w : World) (h1 : Rd w a xs) (h2 : Rd w b ys) (hxl : xs.length ≤ 1100000) :
    Calls Tryz.prog 34 #[.slice a xs.length c, .slice b ys.length d] w fun e w' => e = .returned (.bool (decide (xs = ys))) ∧ Kp w w' := by
  by_cases hlen : xs.length = ys.length
  · have hne : ((xs.length : Int) != ys.length) = false := by simp; omega
    have Hlen := Lib.hid hlen
    have hle1 : xs.length ≤ ys.length := by omega
    clear hlen
    go_enter Tryz.func34, Tryz.ntmps34
    go_wp2_with fail
    go_loopw [13] (fun ix wr => ∃ k : Nat, k ≤ xs.length ∧ ix = .int .i64 k ∧ xs.take k = ys.take k ∧ Kp w wr) (fun ix _ => xs.length - (intOf ix).toNat)
    case atStart => exact ⟨0, Nat.zero_le _, rfl, rfl, .refl _⟩
    case round =>
      obtain ⟨k, hk, rfl, ht, hkp⟩ := hrel
      have Ht := Lib.hid ht
      clear ht
      by_cases hlt : k < xs.length
      · have hlt2 : k < ys.length := by omega
        obtain ⟨b1, o1, rfl, hcx⟩ := (h1.kp hkp).some hlt
        have hx1 := hcx k hlt
        obtain ⟨b2, o2, rfl, hcy⟩ := (h2.kp hkp).some hlt2
        have hy1 := hcy k hlt2
        have Hn := Lib.hid (And.intro (take_succ_nth hlt) (take_succ_nth hlt2))
        have He := Lib.hid (show xs = ys → nth xs k = nth ys k from fun h => by rw [h])
        clear hcx hcy
        have hi0 : (0 : Int) ≤ (k : Int) := by omega
        have hi1 : (k : Int) < (xs.length : Int) := by omega
        have hi2 : (k : Int) < (ys.length : Int) := by omega
        by_cases hq : nth xs k = nth ys k
        · have hq1 : ((nth xs k : Int) != (nth ys k : Int)) = false := by simp; omega
          have Hq := Lib.hid hq
          clear hq
          go_wp2_with fail
          go_quiet (fail)
          go_wp2_with fail
          go_roundw
          case rel => exact ⟨k + 1, by omega, by go_num, by rw [Hn.out.1, Hn.out.2, Ht.out, Hq.out], hkp.drewN _⟩
          all_goals (simp [intOf]; try omega)
        · have hq1 : ((nth xs k : Int) != (nth ys k : Int)) = true := by simp; omega
          have Hq := Lib.hid hq
          clear hq
          go_wp2_with fail
          go_quiet (fail)
          go_wp2_with fail
          go_ret
          exact ⟨ret_bool (decide_eq_false fun h => Hq.out (He.out h)).symm, hkp.drewN _⟩
      · have hke : k = xs.length := by omega
        have H := Lib.hid (show xs = ys by
          have := Ht.out
          rw [hke, List.take_of_length_le (Nat.le_refl _), List.take_of_length_le (by have := Hlen.out; omega)] at this
          exact this)
        clear hke
        go_wp2_with fail
        go_ret
        exact ⟨ret_bool (decide_eq_true H.out).symm, hkp⟩
  · have hne : ((xs.length : Int) != ys.length) = true := by simp; omega
    have H := Lib.hid (show ¬ xs = ys from fun h => hlen (by rw [h]))
    clear hlen
    go_enter Tryz.func34, Tryz.ntmps34
    go_wp2_with fail
    go_ret
    exact ⟨ret_bool (decide_eq_false H.out).symm, .refl _⟩

/-- equal fields -/
def sameR (x y : RD) : Bool := (x.neg == y.neg) && (decide (x.e = y.e) && decide (x.xs = y.xs))
theorem sameR_dy {w w' : World} {x y : RD} (hx : x.ok w) (hy : y.ok w') (h : x.dy = y.dy) : sameR x y = true := by
  have h1 := rdok_limbs hx
  have h2 := rdok_limbs hy
  have e1 : x.neg = y.neg := congrArg Dy.neg h
  have e2 : x.e = y.e := congrArg Dy.e h
  have e3 : x.xs = y.xs := by rw [← h1, ← h2, h]
  unfold sameR
  rw [e1, e2, e3]; simp
set_option maxHeartbeats 1000000 in
theorem same_any (x y : RD) (w : World) (hx : x.rd w) (hy : y.rd w) :
    Calls Tryz.prog 19 #[.agg #[.bool x.neg, .slice x.a x.xs.length x.c, .int .i64 x.e], .agg #[.bool y.neg, .slice y.a y.xs.length y.c, .int .i64 y.e]] w fun e w' => e = .returned (.bool (sameR x y)) ∧ Kp w w' := by
  have H := Lib.hid (show sameR x y = ((x.neg == y.neg) && (decide (x.e = y.e) && decide (x.xs = y.xs))) from rfl)
  have hk := ((Kp.refl w).alloc (.cells #[.bool x.neg, .slice x.a x.xs.length x.c, .int .i64 x.e] 24)).alloc (.cells #[.bool y.neg, .slice y.a y.xs.length y.c, .int .i64 y.e] 24)
  have hxl := hx.2.2.2.1
  by_cases hn : x.neg = y.neg
  · have hn1 : (x.neg == y.neg) = true := by rw [hn]; cases y.neg <;> rfl
    by_cases he : x.e = y.e
    · have he1 : (x.e == y.e) = true := beq_iff_eq.2 he
      have Hn := Lib.hid (And.intro hn1 he)
      clear hn he
      go_enter Tryz.func19, Tryz.ntmps19
      go_wp2_with fail
      refine (eqU_any x.a y.a x.xs y.xs x.c y.c _ (hx.1.kp hk) (hy.1.kp hk) hxl).mono ?_
      rintro e w3 ⟨rfl, hk3⟩
      go_wp2_with fail
      go_ret
      exact ⟨ret_bool (by rw [H.out, Hn.out.1, Hn.out.2]; simp), hk.trans hk3⟩
    · have he1 : (x.e == y.e) = false := beq_eq_false_iff_ne.2 he
      have Hn := Lib.hid he
      clear hn he
      go_enter Tryz.func19, Tryz.ntmps19
      go_wp2_with fail
      go_ret
      exact ⟨ret_bool (by rw [H.out, decide_eq_false Hn.out]; simp), hk⟩
  · have hn1 : (x.neg == y.neg) = false := by cases h1 : x.neg <;> cases h2 : y.neg <;> simp_all
    clear hn
    go_enter Tryz.func19, Tryz.ntmps19
    go_wp2_with fail
    go_ret
    exact ⟨ret_bool (by rw [H.out, hn1]; simp), hk⟩
theorem Bits_rok (x : RD) (w : World) (h : x.ok w) :
    Calls Tryz.prog 51 #[.agg #[.bool x.neg, .slice x.a x.xs.length x.c, .int .i64 x.e]] w fun e w' => e = .returned (.int .i64 (bits (val x.xs))) ∧ Kp w w' := by
  have H := Bits_ok x.dy x.a x.c w (rdok_at h)
  rw [rdok_limbs h] at H
  exact H
/-- is it a number of p bits? -/
def isB (x : RD) (p : Int) : Bool := decide (fltB p [x] = 0) && decide ((bits (val x.xs) : Int) ≤ p)
/-- a number of one limb -/
def LimbOut (w : World) (m : Nat) (ex : Int) (e : Ending) (w' : World) : Prop :=
  ∃ y : RD, e = .returned (.agg #[.bool y.neg, .slice y.a y.xs.length y.c, .int .i64 y.e]) ∧ y.rd w' ∧ y.neg = false ∧ y.xs = [m] ∧ y.e = ex ∧ Kp w w'
set_option maxHeartbeats 1000000 in
theorem num_any (m : Nat) (ex : Int) (w : World) (hm : m < 4294967296) (he : I64 ex) :
    Calls Tryz.prog 15 #[.int .u32 (m : Nat), .int .i64 ex] w (LimbOut w m ex) := by
  go_enter Tryz.func15, Tryz.ntmps15
  go_wp2_with fail
  generalize hW : (w.alloc _) = W at *
  have hk : Kp w W := hW ▸ (Kp.refl w).alloc _
  have hsz : W.heap.size = w.heap.size + 1 := by rw [← hW]; simp
  have hk2 := hk.alloc (.cells #[.int .u32 (m : Nat)] 35)
  obtain ⟨s0, s1, s2⟩ : (W.alloc (.cells #[.int .u32 (m : Nat)] 35)).cell? ⟨w.heap.size, 0, none⟩ = some (.bool false) ∧ (W.alloc (.cells #[.int .u32 (m : Nat)] 35)).cell? ⟨w.heap.size, 1, none⟩ = some (.slice (some ⟨w.heap.size + 1, 0, none⟩) 1 1) ∧ (W.alloc (.cells #[.int .u32 (m : Nat)] 35)).cell? ⟨w.heap.size, 2, none⟩ = some (.int .i64 ex) := by
    refine keep3 ((Kp.refl W).alloc _) ?_
    rw [← hW]; simp
  have hr : Rd (W.alloc (.cells #[.int .u32 (m : Nat)] 35)) (some ⟨w.heap.size + 1, 0, none⟩) [m] := ⟨.cons hm .nil, .inr ⟨_, 0, rfl, fun i hi => by
    have : i = 0 := by simpa using hi
    subst this
    rw [← hsz]
    simp [nth_cons_zero]⟩⟩
  clear hW
  refine bodyPost_ret (v := .agg #[.bool false, .slice (some ⟨w.heap.size + 1, 0, none⟩) 1 1, .int .i64 ex]) (by simp [results, Tryz.results15, go_sem, s0, s1, s2]) rfl ?_
  exact ⟨⟨false, some ⟨w.heap.size + 1, 0, none⟩, [m], 1, ex⟩, rfl, ⟨hr, by simp, (by decide : (1 : Nat) ≤ maxLen), by simp, he⟩, rfl, rfl, rfl, hk2⟩
/-- are there numbers of more than 200 limbs? -/
def lng2 (x : RD) : Bool := decide (200 < x.xs.length)
theorem enters_great1 : Enters Tryz.prog 21 := fun _ _ => by kernel_rfl
theorem great1_any (x : RD) (w : World) :
    Calls Tryz.prog 21 #[.agg #[.bool x.neg, .slice x.a x.xs.length x.c, .int .i64 x.e]] w fun e w' => e = .returned (.bool (lng2 x)) ∧ Kp w w' := by
  by_cases h : 200 < x.xs.length
  · have H := Lib.hid (show lng2 x = true from decide_eq_true h)
    have hi : (200 : Int) < (x.xs.length : Int) := by omega
    go_enter Tryz.func21, Tryz.ntmps21
    go_wp2_with fail
    go_ret
    exact ⟨ret_bool H.out.symm, (Kp.refl w).alloc _⟩
  · have H := Lib.hid (show lng2 x = false from decide_eq_false h)
    have hi : ¬ (200 : Int) < (x.xs.length : Int) := by omega
    go_enter Tryz.func21, Tryz.ntmps21
    go_wp2_with fail
    go_ret
    exact ⟨ret_bool H.out.symm, (Kp.refl w).alloc _⟩
theorem great_any (b : Option Addr) (ys : List RD) (c : Nat) (w : World) (h : RowD w b ys) (hl : ys.length ≤ 1100000) :
    Calls Tryz.prog 6 #[.slice b ys.length c] w fun e w' => e = .returned (.bool (ys.any lng2)) ∧ Kp w w' := by
  have hD := Lib.hid (containsD b ys c 21 #[] w lng2 hl h ⟨enters_great1, fun x hx w1 hk1 => great1_any x w1⟩)
  go_enter Tryz.func6, Tryz.ntmps6
  go_wp2_with fail
  refine hD.out.mono ?_
  rintro e w5 ⟨rfl, hk5⟩
  go_wp2_with fail
  go_ret
  exact ⟨rfl, hk5⟩
end Go.Proofs.YtkkiinbgjjjcoaaGreatDoor
