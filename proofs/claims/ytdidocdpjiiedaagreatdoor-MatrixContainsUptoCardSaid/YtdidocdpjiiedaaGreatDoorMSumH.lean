/-
  Walks: dyadic.sum, whole; Add, Sub.
  Walks: dyadic.Add and Sub of valid numbers.
  Walks: slices.Equal of uint32; the law's own same, num, great; round.Is.
  Plain: division limb by limb; a square root by Newton's steps; no program in sight.
  Walks: bits.Div32, natural.short.
  Walks: natural.divide by one limb, DivMod from a contract of divide.
  Walks: natural.DivMod and Sqrt, from a contract of divide.
  Walks: round.add, AddDown, where the first number is 0; interval.permitted, Mid.
  Walks: round.div of numbers that are not 0, from a contract of divide.
-/
import Derived.Test.YtdidocdpjiiedaaGreatDoorMSumG
import Derived.Test.YtdidocdpjiiedaaGreatDoorMOpenM
import Derived.Test.YtdidocdpjiiedaaGreatDoorMWrap
import Derived.Test.YtdidocdpjiiedaaGreatDoorMNum
import Derived.Test.YtdidocdpjiiedaaGreatDoorMPub
import Derived.Test.YtdidocdpjiiedaaGreatDoorMRoE
import Derived.Test.YtdidocdpjiiedaaGreatDoorMIvE
section
namespace Go.Proofs.YtdidocdpjiiedaaGreatDoor
open Go.RowKit

theorem len_is0 {n : Nat} (h : n = 0) : (((limbs n).length : Int) == 0) = true := by subst h; rw [limbs_zero]; rfl
set_option maxHeartbeats 2000000 in
theorem sum_z2_ok (d f : Dy) (a b : Option Addr) (c k : Nat) (w : World) (hd : DyAt w d a c) (hf : DyAt w f b k) (hd0 : d.m ≠ 0) (hf0 : f.m = 0) (hT : Tab w) :
    Calls Tryz.prog 138 #[.agg #[.bool d.neg, .slice a (limbs d.m).length c, .int .i64 d.e], .agg #[.bool f.neg, .slice b (limbs f.m).length k, .int .i64 f.e]] w (DyE w (chk (sumD d f)).1 (chk (sumD d f)).2) := by
  have Hs := Lib.hid (show chk (sumD d f) = (d, 0) by rw [f.eq_zero hf.1 hf0, sumD_zero' hd.1, chk_of_ok hd.1])
  have z1 := len_ne hd0
  have z2 := len_is0 hf0
  have hed := ok_e hd.1
  have hl := ok_len hd.1
  clear hd0 hf0
  go_enter Tryz.func138, Tryz.ntmps138
  go_wp2_with fail
  generalize hW : (((w.alloc _).alloc _).alloc _) = W at *
  have hk : Kp w W := hW ▸ (((Kp.refl w).alloc _).alloc _).alloc _
  have hB : Box3 W (w.heap.size + 2) (.bool false) (.slice none 0 0) (.int .i64 0) := hW ▸ Box3.new3 _ _ _ _ _ _ _
  clear hW
  have hd1 := hd.kp hk
  have HC := canonical_any d.neg a (limbs d.m) c d.e W hd1.2.1 hd1.2.2.1 hd1.2.2.2 (by omega) (by omega) (by omega) (hT.kp hk)
  rw [val_limbs, canon_ok hd.1] at HC
  refine HC.mono ?_
  rintro e w8 ⟨a8, c8, rfl, h2, h3', h4', k8⟩
  obtain ⟨q0, q1, q2, f0, f1, f2⟩ := hB.kp k8
  have hkk := hk.trans k8
  clear HC hd1 hd hf hT hB
  go_wp2_with fail
  have hst := stored q0 q1 q2 (fun _ h => by cases h) (fun _ h => by cases h) (fun _ h => by cases h) (.bool d.neg) (.slice a8 (limbs d.m).length c8) (.int .i64 d.e)
  generalize (((w8.setCell _ _).setCell _ _).setCell _ _) = W2 at hst ⊢
  obtain ⟨s0, s1, s2, _, s4, s5, _, _⟩ := hst
  refine bodyPost_ret (v := .tuple #[.agg #[.bool d.neg, .slice a8 (limbs d.m).length c8, .int .i64 d.e], .int .i64 0]) (by simp [results, Tryz.results138, go_sem, s0, s1, s2]) rfl ?_
  rw [Hs.out]
  exact ⟨a8, c8, rfl, s4 _ _ h2, h3', h4', s5 _ hkk (by omega)⟩
set_option maxHeartbeats 2000000 in
theorem sum_z1_ok (d f : Dy) (a b : Option Addr) (c k : Nat) (w : World) (hd : DyAt w d a c) (hf : DyAt w f b k) (hd0 : d.m = 0) (hT : Tab w) :
    Calls Tryz.prog 138 #[.agg #[.bool d.neg, .slice a (limbs d.m).length c, .int .i64 d.e], .agg #[.bool f.neg, .slice b (limbs f.m).length k, .int .i64 f.e]] w (DyE w (chk (sumD d f)).1 (chk (sumD d f)).2) := by
  have Hs := Lib.hid (show chk (sumD d f) = (f, 0) by rw [d.eq_zero hd.1 hd0, sumD_zero hf.1, chk_of_ok hf.1])
  have z1 := len_is0 hd0
  have hed := ok_e hf.1
  have hl := ok_len hf.1
  clear hd0
  go_enter Tryz.func138, Tryz.ntmps138
  go_wp2_with fail
  generalize hW : (((w.alloc _).alloc _).alloc _) = W at *
  have hk : Kp w W := hW ▸ (((Kp.refl w).alloc _).alloc _).alloc _
  have hB : Box3 W (w.heap.size + 2) (.bool false) (.slice none 0 0) (.int .i64 0) := hW ▸ Box3.new3 _ _ _ _ _ _ _
  clear hW
  have hd1 := hf.kp hk
  have HC := canonical_any f.neg b (limbs f.m) k f.e W hd1.2.1 hd1.2.2.1 hd1.2.2.2 (by omega) (by omega) (by omega) (hT.kp hk)
  rw [val_limbs, canon_ok hf.1] at HC
  refine HC.mono ?_
  rintro e w8 ⟨a8, c8, rfl, h2, h3', h4', k8⟩
  obtain ⟨q0, q1, q2, f0, f1, f2⟩ := hB.kp k8
  have hkk := hk.trans k8
  clear HC hd1 hd hf hT hB
  go_wp2_with fail
  have hst := stored q0 q1 q2 (fun _ h => by cases h) (fun _ h => by cases h) (fun _ h => by cases h) (.bool f.neg) (.slice a8 (limbs f.m).length c8) (.int .i64 f.e)
  generalize (((w8.setCell _ _).setCell _ _).setCell _ _) = W2 at hst ⊢
  obtain ⟨s0, s1, s2, _, s4, s5, _, _⟩ := hst
  refine bodyPost_ret (v := .tuple #[.agg #[.bool f.neg, .slice a8 (limbs f.m).length c8, .int .i64 f.e], .int .i64 0]) (by simp [results, Tryz.results138, go_sem, s0, s1, s2]) rfl ?_
  rw [Hs.out]
  exact ⟨a8, c8, rfl, s4 _ _ h2, h3', h4', s5 _ hkk (by omega)⟩
theorem sum_ok (d f : Dy) (a b : Option Addr) (c k : Nat) (w : World) (hd : DyAt w d a c) (hf : DyAt w f b k) (hT : Tab w) :
    Calls Tryz.prog 138 #[.agg #[.bool d.neg, .slice a (limbs d.m).length c, .int .i64 d.e], .agg #[.bool f.neg, .slice b (limbs f.m).length k, .int .i64 f.e]] w (DyE w (chk (sumD d f)).1 (chk (sumD d f)).2) := by
  by_cases hd0 : d.m = 0
  · exact sum_z1_ok d f a b c k w hd hf hd0 hT
  · by_cases hf0 : f.m = 0
    · exact sum_z2_ok d f a b c k w hd hf hd0 hf0 hT
    · by_cases hb : farB d f
      · exact sum_farB d f a b c k w hd hf hd0 hf0 hb
      · by_cases hs : d.neg = f.neg
        · exact sum_same_ok d f a b c k w hd hf hd0 hf0 hb hT hs
        · rcases Nat.lt_or_ge (d.m * 2 ^ (d.e - min d.e f.e).toNat) (f.m * 2 ^ (f.e - min d.e f.e).toNat) with h | h
          · exact sum_lt_ok d f a b c k w hd hf hd0 hf0 hb hT hs h
          · exact sum_ge_ok d f a b c k w hd hf hd0 hf0 hb hT hs h
theorem sumD_chk_ok (d f : Dy) : (chk (sumD d f)).1.ok := chk_canon_ok _ _ _
theorem rdok_at {w : World} {x : RD} (h : x.ok w) : DyAt w x.dy x.a x.c := ⟨rdok_dy h, by rw [rdok_limbs h]; exact h.1.1, by rw [rdok_limbs h]; exact h.1.2.1, h.1.2.2.1⟩
theorem sum_rd (x y : RD) (w : World) (hx : x.ok w) (hy : y.ok w) (hT : Tab w) :
    Calls Tryz.prog 138 #[.agg #[.bool x.neg, .slice x.a x.xs.length x.c, .int .i64 x.e], .agg #[.bool y.neg, .slice y.a y.xs.length y.c, .int .i64 y.e]] w (NumE w (chk (sumD x.dy y.dy)).1 (chk (sumD x.dy y.dy)).2) := by
  have H := sum_ok x.dy y.dy x.a y.a x.c y.c w (rdok_at hx) (rdok_at hy) hT
  rw [rdok_limbs hx, rdok_limbs hy] at H
  have hok := sumD_chk_ok x.dy y.dy
  have hl := ok_len hok
  exact H.mono fun e w' h => h.num (by omega) (ok_I64 hok)
end Go.Proofs.YtdidocdpjiiedaaGreatDoor
end

section
namespace Go.Proofs.YtdidocdpjiiedaaGreatDoor
open Go.RowKit

theorem keepRR {w w' : World} (k : Kp w w') {g h : Nat} {x y : RD} (hS : w.cell? ⟨g, 0, none⟩ = some (.bool x.neg) ∧ w.cell? ⟨g, 1, none⟩ = some (.slice x.a x.xs.length x.c) ∧ w.cell? ⟨g, 2, none⟩ = some (.int .i64 x.e) ∧ w.cell? ⟨h, 0, none⟩ = some (.bool y.neg) ∧ w.cell? ⟨h, 1, none⟩ = some (.slice y.a y.xs.length y.c) ∧ w.cell? ⟨h, 2, none⟩ = some (.int .i64 y.e)) : w'.cell? ⟨g, 0, none⟩ = some (.bool x.neg) ∧ w'.cell? ⟨g, 1, none⟩ = some (.slice x.a x.xs.length x.c) ∧ w'.cell? ⟨g, 2, none⟩ = some (.int .i64 x.e) ∧ w'.cell? ⟨h, 0, none⟩ = some (.bool y.neg) ∧ w'.cell? ⟨h, 1, none⟩ = some (.slice y.a y.xs.length y.c) ∧ w'.cell? ⟨h, 2, none⟩ = some (.int .i64 y.e) := keep6 k hS
theorem setRR {w : World} {o g h : Nat} (n : g ≠ o) (n' : h ≠ o) {x y : RD} {v0 v1 v2 : Value} (hS : w.cell? ⟨g, 0, none⟩ = some (.bool x.neg) ∧ w.cell? ⟨g, 1, none⟩ = some (.slice x.a x.xs.length x.c) ∧ w.cell? ⟨g, 2, none⟩ = some (.int .i64 x.e) ∧ w.cell? ⟨h, 0, none⟩ = some (.bool y.neg) ∧ w.cell? ⟨h, 1, none⟩ = some (.slice y.a y.xs.length y.c) ∧ w.cell? ⟨h, 2, none⟩ = some (.int .i64 y.e)) :
    (((w.setCell ⟨o, 0, none⟩ v0).setCell ⟨o, 1, none⟩ v1).setCell ⟨o, 2, none⟩ v2).cell? ⟨g, 0, none⟩ = some (.bool x.neg) ∧ (((w.setCell ⟨o, 0, none⟩ v0).setCell ⟨o, 1, none⟩ v1).setCell ⟨o, 2, none⟩ v2).cell? ⟨g, 1, none⟩ = some (.slice x.a x.xs.length x.c) ∧ (((w.setCell ⟨o, 0, none⟩ v0).setCell ⟨o, 1, none⟩ v1).setCell ⟨o, 2, none⟩ v2).cell? ⟨g, 2, none⟩ = some (.int .i64 x.e) ∧ (((w.setCell ⟨o, 0, none⟩ v0).setCell ⟨o, 1, none⟩ v1).setCell ⟨o, 2, none⟩ v2).cell? ⟨h, 0, none⟩ = some (.bool y.neg) ∧ (((w.setCell ⟨o, 0, none⟩ v0).setCell ⟨o, 1, none⟩ v1).setCell ⟨o, 2, none⟩ v2).cell? ⟨h, 1, none⟩ = some (.slice y.a y.xs.length y.c) ∧ (((w.setCell ⟨o, 0, none⟩ v0).setCell ⟨o, 1, none⟩ v1).setCell ⟨o, 2, none⟩ v2).cell? ⟨h, 2, none⟩ = some (.int .i64 y.e) := by
  obtain ⟨a0, a1, a2, b0, b1, b2⟩ := hS
  obtain ⟨c0, c1, c2⟩ := set3x (x0 := v0) (x1 := v1) (x2 := v2) n ⟨a0, a1, a2⟩
  obtain ⟨d0, d1, d2⟩ := set3x (x0 := v0) (x1 := v1) (x2 := v2) n' ⟨b0, b1, b2⟩
  exact ⟨c0, c1, c2, d0, d1, d2⟩
set_option maxHeartbeats 2000000 in
theorem Add_rd (x y : RD) (w : World) (hx : x.ok w) (hy : y.ok w) (hT : Tab w) :
    Calls Tryz.prog 88 #[.agg #[.bool x.neg, .slice x.a x.xs.length x.c, .int .i64 x.e], .agg #[.bool y.neg, .slice y.a y.xs.length y.c, .int .i64 y.e]] w (NumE w (chk (sumD x.dy y.dy)).1 (chk (sumD x.dy y.dy)).2) := by
  have hvx := hx.2
  have hvy := hy.2
  have hok := sumD_chk_ok x.dy y.dy
  go_enter Tryz.func88, Tryz.ntmps88
  go_wp2_with fail
  generalize hW : (((w.alloc _).alloc _).alloc _) = W at *
  have hk : Kp w W := hW ▸ (((Kp.refl w).alloc _).alloc _).alloc _
  have hS : W.cell? ⟨w.heap.size, 0, none⟩ = some (.bool x.neg) ∧ W.cell? ⟨w.heap.size, 1, none⟩ = some (.slice x.a x.xs.length x.c) ∧ W.cell? ⟨w.heap.size, 2, none⟩ = some (.int .i64 x.e) ∧ W.cell? ⟨w.heap.size + 1, 0, none⟩ = some (.bool y.neg) ∧ W.cell? ⟨w.heap.size + 1, 1, none⟩ = some (.slice y.a y.xs.length y.c) ∧ W.cell? ⟨w.heap.size + 1, 2, none⟩ = some (.int .i64 y.e) := by rw [← hW]; exact keep6 ((Kp.refl _).alloc _) (by simp)
  have hB : Box3 W (w.heap.size + 2) (.bool false) (.slice none 0 0) (.int .i64 0) := hW ▸ Box3.new3 _ _ _ _ _ _ _
  clear hW
  refine (Valid_rok x _ (hx.kp hk)).mono ?_
  rintro e w1 ⟨rfl, hk1⟩
  have hS1 := keepRR hk1 hS
  have hB1 := hB.kp hk1
  have hk2 := hk.trans hk1
  clear hS hk hk1 hB
  go_wp2_with fail
  refine (Valid_rok y _ (hy.kp hk2)).mono ?_
  rintro e w2 ⟨rfl, hk3⟩
  have hS2 := keepRR hk3 hS1
  have hB2 := hB1.kp hk3
  have hk4 := hk2.trans hk3
  clear hS1 hk2 hk3 hB1
  go_wp2_with fail
  refine (sum_rd x y _ (hx.kp hk4) (hy.kp hk4) (hT.kp hk4)).mono ?_
  generalize (chk (sumD x.dy y.dy)).1 = F at *
  generalize (chk (sumD x.dy y.dy)).2 = ff at *
  rintro e w3 ⟨z, rfl, rz, hz, vz, hk5⟩
  obtain ⟨q0, q1, q2, f0, f1, f2⟩ := hB2.kp hk5
  have hkk := hk4.trans hk5
  clear hS2 hB2 hk4 hk5
  go_wp2_with fail
  have hst := stored q0 q1 q2 (fun _ h => by cases h) (fun _ h => by cases h) (fun _ h => by cases h) (.bool z.neg) (.slice z.a z.xs.length z.c) (.int .i64 z.e)
  generalize (((w3.setCell _ _).setCell _ _).setCell _ _) = W2 at hst ⊢
  obtain ⟨s0, s1, s2, _, s4, s5, _, _⟩ := hst
  refine bodyPost_ret (v := .tuple #[.agg #[.bool z.neg, .slice z.a z.xs.length z.c, .int .i64 z.e], .int .i64 ff]) (by simp [results, Tryz.results88, go_sem, s0, s1, s2]) rfl ?_
  exact ⟨z, rfl, ⟨s4 _ _ rz.1, rz.2⟩, hz, vz, s5 _ hkk (by omega)⟩
end Go.Proofs.YtdidocdpjiiedaaGreatDoor
end

section
namespace Go.Proofs.YtdidocdpjiiedaaGreatDoor
open Go.RowKit

set_option maxHeartbeats 1000000 in
theorem eqU_any (a b : Option Addr) (xs ys : List Nat) (c d : Nat) (w : World) (h1 : Rd w a xs) (h2 : Rd w b ys) (hxl : xs.length ≤ 1100000) :
    Calls Tryz.prog 62 #[.slice a xs.length c, .slice b ys.length d] w fun e w' => e = .returned (.bool (decide (xs = ys))) ∧ Kp w w' := by
  by_cases hlen : xs.length = ys.length
  · have hne : ((xs.length : Int) != ys.length) = false := by simp; omega
    have Hlen := Lib.hid hlen
    have hle1 : xs.length ≤ ys.length := by omega
    clear hlen
    go_enter Tryz.func62, Tryz.ntmps62
    go_wp2_with fail
    go_loopw [13] (fun ix wr => ∃ k : Nat, k ≤ xs.length ∧ ix = .int .i64 k ∧ xs.take k = ys.take k ∧ Kp w wr) (fun ix _ => xs.length - (intOf ix).toNat)
    case atStart => exact ⟨0, Nat.zero_le _, rfl, rfl, .refl _⟩
    case round =>
      obtain ⟨k, hk, rfl, ht, hkp⟩ := hrel
      have Ht := Lib.hid ht
      clear ht
      by_cases hlt : k < xs.length
      · have hlt2 : k < ys.length := by omega
        obtain ⟨b1, o1, rfl, hcx⟩ := (h1.kp hkp).some hlt
        have hx1 := hcx k hlt
        obtain ⟨b2, o2, rfl, hcy⟩ := (h2.kp hkp).some hlt2
        have hy1 := hcy k hlt2
        have Hn := Lib.hid (And.intro (take_succ_nth hlt) (take_succ_nth hlt2))
        have He := Lib.hid (show xs = ys → nth xs k = nth ys k from fun h => by rw [h])
        clear hcx hcy
        have hi0 : (0 : Int) ≤ (k : Int) := by omega
        have hi1 : (k : Int) < (xs.length : Int) := by omega
        have hi2 : (k : Int) < (ys.length : Int) := by omega
        by_cases hq : nth xs k = nth ys k
        · have hq1 : ((nth xs k : Int) != (nth ys k : Int)) = false := by simp; omega
          have Hq := Lib.hid hq
          clear hq
          go_wp2_with fail
          go_quiet (fail)
          go_wp2_with fail
          go_roundw
          case rel => exact ⟨k + 1, by omega, by go_num, by rw [Hn.out.1, Hn.out.2, Ht.out, Hq.out], hkp.drewN _⟩
          all_goals (simp [intOf]; try omega)
        · have hq1 : ((nth xs k : Int) != (nth ys k : Int)) = true := by simp; omega
          have Hq := Lib.hid hq
          clear hq
          go_wp2_with fail
          go_quiet (fail)
          go_wp2_with fail
          go_ret
          exact ⟨ret_bool (decide_eq_false fun h => Hq.out (He.out h)).symm, hkp.drewN _⟩
      · have hke : k = xs.length := by omega
        have H := Lib.hid (show xs = ys by
          have := Ht.out
          rw [hke, List.take_of_length_le (Nat.le_refl _), List.take_of_length_le (by have := Hlen.out; omega)] at this
          exact this)
        clear hke
        go_wp2_with fail
        go_ret
        exact ⟨ret_bool (decide_eq_true H.out).symm, hkp⟩
  · have hne : ((xs.length : Int) != ys.length) = true := by simp; omega
    have H := Lib.hid (show ¬ xs = ys from fun h => hlen (by rw [h]))
    clear hlen
    go_enter Tryz.func62, Tryz.ntmps62
    go_wp2_with fail
    go_ret
    exact ⟨ret_bool (decide_eq_false H.out).symm, .refl _⟩

/-- equal fields -/
def sameR (x y : RD) : Bool := (x.neg == y.neg) && (decide (x.e = y.e) && decide (x.xs = y.xs))
theorem sameR_dy {w w' : World} {x y : RD} (hx : x.ok w) (hy : y.ok w') (h : x.dy = y.dy) : sameR x y = true := by
  have h1 := rdok_limbs hx
  have h2 := rdok_limbs hy
  have e1 : x.neg = y.neg := congrArg Dy.neg h
  have e2 : x.e = y.e := congrArg Dy.e h
  have e3 : x.xs = y.xs := by rw [← h1, ← h2, h]
  unfold sameR
  rw [e1, e2, e3]; simp
theorem Bits_rok (x : RD) (w : World) (h : x.ok w) :
    Calls Tryz.prog 46 #[.agg #[.bool x.neg, .slice x.a x.xs.length x.c, .int .i64 x.e]] w fun e w' => e = .returned (.int .i64 (bits (val x.xs))) ∧ Kp w w' := by
  have H := Bits_ok x.dy x.a x.c w (rdok_at h)
  rw [rdok_limbs h] at H
  exact H
/-- is it a number of p bits? -/
def isB (x : RD) (p : Int) : Bool := decide (fltB p [x] = 0) && decide ((bits (val x.xs) : Int) ≤ p)
/-- a number of one limb -/
def LimbOut (w : World) (m : Nat) (ex : Int) (e : Ending) (w' : World) : Prop :=
  ∃ y : RD, e = .returned (.agg #[.bool y.neg, .slice y.a y.xs.length y.c, .int .i64 y.e]) ∧ y.rd w' ∧ y.neg = false ∧ y.xs = [m] ∧ y.e = ex ∧ Kp w w'
/-- are there numbers of more than 200 limbs? -/
def lng2 (x : RD) : Bool := decide (200 < x.xs.length)
end Go.Proofs.YtdidocdpjiiedaaGreatDoor
end

section
namespace Go.Proofs.YtdidocdpjiiedaaGreatDoor

/-- one step of the division by a limb d, from the top down -/
theorem short_step {xs zs : List Nat} {d k r : Nat} (hk : k < xs.length) (hl : zs.length = xs.length) (_hr : r < d)
    (h : val (zs.drop (k + 1)) * d + r = val (xs.drop (k + 1))) :
    val ((zs.set k ((nth xs k + 4294967296 * r) / d)).drop k) * d + (nth xs k + 4294967296 * r) % d = val (xs.drop k) := by
  have e1 : (zs.set k ((nth xs k + 4294967296 * r) / d)).drop k = (nth xs k + 4294967296 * r) / d :: zs.drop (k + 1) := by
    rw [set_eq_take_drop (by omega), List.drop_append, List.drop_of_length_le (by simp; omega)]
    simp [Nat.min_eq_left (by omega : k ≤ zs.length)]
  rw [e1, drop_eq_nth hk, val_cons, val_cons, ← h]
  have h2 := Nat.div_add_mod (nth xs k + 4294967296 * r) d
  generalize (nth xs k + 4294967296 * r) / d = q at *
  generalize (nth xs k + 4294967296 * r) % d = s at *
  generalize val (zs.drop (k + 1)) = V at *
  rw [Nat.add_mul, Nat.mul_comm q d, Nat.mul_assoc, Nat.mul_add]
  omega
theorem short_digit {x d r : Nat} (hx : x < 4294967296) (hr : r < d) : (x + 4294967296 * r) / d < 4294967296 := by
  rw [Nat.div_lt_iff_lt_mul (by omega)]
  calc x + 4294967296 * r < 4294967296 + 4294967296 * r := by omega
    _ = 4294967296 * (r + 1) := by omega
    _ ≤ 4294967296 * d := Nat.mul_le_mul_left _ hr

/-- one step down to the root -/
def newt (n x : Nat) : Nat := (x + n / x) / 2
theorem newt_up {n x : Nat} (hx : 0 < x) : n < (newt n x + 1) * (newt n x + 1) := by
  unfold newt
  have h1 := Nat.div_add_mod n x
  have h2 := Nat.mod_lt n hx
  generalize n / x = q at *
  have h3 : x + q + 1 ≤ 2 * ((x + q) / 2 + 1) := by omega
  generalize (x + q) / 2 + 1 = y at *
  have h4 : (x + q + 1) * (x + q + 1) ≤ (2 * y) * (2 * y) := Nat.mul_le_mul h3 h3
  have h5 : (2 * y) * (2 * y) = 4 * (y * y) := by rw [Nat.mul_mul_mul_comm]
  have h6 : 4 * (x * (q + 1)) ≤ (x + q + 1) * (x + q + 1) := by
    rcases Nat.le_total x (q + 1) with h | h
    · obtain ⟨t, ht⟩ := Nat.exists_eq_add_of_le h
      rw [Nat.add_assoc, ht]
      have e : (x + (x + t)) * (x + (x + t)) = 4 * (x * (x + t)) + t * t := by
        simp only [Nat.mul_add, Nat.add_mul]
        have := Nat.mul_comm x t
        omega
      omega
    · obtain ⟨t, ht⟩ := Nat.exists_eq_add_of_le h
      rw [Nat.add_assoc, ht]
      generalize q + 1 = b at *
      have e : (b + t + b) * (b + t + b) = 4 * ((b + t) * b) + t * t := by
        simp only [Nat.mul_add, Nat.add_mul]
        have := Nat.mul_comm b t
        omega
      omega
  have h7 : n < x * (q + 1) := by rw [Nat.mul_add]; omega
  omega
theorem newt_done {n x : Nat} (h : x ≤ newt n x) : x * x ≤ n := by
  unfold newt at h
  have h1 : x ≤ n / x := by omega
  rcases Nat.eq_zero_or_pos x with h0 | h0
  · subst h0; simp
  exact (Nat.le_div_iff_mul_le h0).1 h1
/-- the root, rounded down -/
def isRt (n s : Nat) : Prop := s * s ≤ n ∧ n < (s + 1) * (s + 1)
theorem isRt.unique {n s t : Nat} (h : isRt n s) (h' : isRt n t) : s = t := by
  rcases Nat.lt_trichotomy s t with h1 | h1 | h1
  · have := Nat.mul_le_mul (show s + 1 ≤ t from h1) (show s + 1 ≤ t from h1)
    have := h.2; have := h'.1; omega
  · exact h1
  · have := Nat.mul_le_mul (show t + 1 ≤ s from h1) (show t + 1 ≤ s from h1)
    have := h'.2; have := h.1; omega
theorem newt_pos {n x : Nat} (hn : 0 < n) (hx : 0 < x) : 0 < newt n x := by
  have := newt_up (n := n) hx
  rcases Nat.eq_zero_or_pos (newt n x) with h | h
  · rw [h] at this; omega
  · exact h
theorem first_up (n : Nat) : n < (2 ^ ((bits n + 1) / 2) + 1) * (2 ^ ((bits n + 1) / 2) + 1) := by
  have h1 := lt_two_pow_bits n
  have h2 : 2 ^ bits n ≤ 2 ^ ((bits n + 1) / 2) * 2 ^ ((bits n + 1) / 2) := by
    rw [← Nat.pow_add]
    exact Nat.pow_le_pow_right (by decide) (by omega)
  have h3 := Nat.mul_le_mul (show 2 ^ ((bits n + 1) / 2) ≤ 2 ^ ((bits n + 1) / 2) + 1 from by omega) (show 2 ^ ((bits n + 1) / 2) ≤ 2 ^ ((bits n + 1) / 2) + 1 from by omega)
  omega
end Go.Proofs.YtdidocdpjiiedaaGreatDoor
end

section
namespace Go.Proofs.YtdidocdpjiiedaaGreatDoor
open Go.RowKit

theorem join64 {x y : Nat} (hx : x < 4294967296) (hy : y < 4294967296) :
    Go.bits BinOp.or IntKind.u64 ((y : Int) * 4294967296) (x : Int) = ((x + 4294967296 * y : Nat) : Int) := by
  rw [show (y : Int) * 4294967296 = ((y * 2 ^ 32 : Nat) : Int) from by rw [Int.natCast_mul]; rfl, u64_or_nat _ _ (by omega) (by omega), nat_join 32 _ _ (Nat.mul_mod_left _ _) hx]
  congr 1; omega
theorem ret_div32 {a b : Int} {c d : Nat} (h : a = c) (h' : b = d) : Ending.returned (.tuple #[.int .u32 a, .int .u32 b]) = .returned (.tuple #[.int .u32 (c : Int), .int .u32 (d : Int)]) := by rw [h, h']
/-- a division's result: quotient and rest, in slices that need not be trimmed -/
def ShortOut (w : World) (xs : List Nat) (d : Nat) (e : Ending) (w' : World) : Prop :=
  ∃ g zs r, e = .returned (.tuple #[.slice (some ⟨g, 0, none⟩) xs.length xs.length, .int .u32 (r : Nat)]) ∧ zs.length = xs.length ∧ val zs * d + r = val xs ∧ r < d ∧ Rd w' (some ⟨g, 0, none⟩) zs ∧ Kp w w'
end Go.Proofs.YtdidocdpjiiedaaGreatDoor
end

section
namespace Go.Proofs.YtdidocdpjiiedaaGreatDoor
open Go.RowKit

/-- quotient and rest of a division, in slices that need not be trimmed -/
def DivOut (w : World) (n m l : Nat) (e : Ending) (w' : World) : Prop :=
  ∃ a1 c1 qs a2 c2 rs, e = .returned (.tuple #[.slice a1 qs.length c1, .slice a2 rs.length c2]) ∧ qs.length ≤ c1 ∧ c1 ≤ maxLen ∧ rs.length ≤ c2 ∧ c2 ≤ maxLen ∧ Rd w' a1 qs ∧ Rd w' a2 rs ∧
    val qs = n / m ∧ val rs = n % m ∧ qs.length ≤ l ∧ rs.length ≤ l ∧ Kp w w'
theorem one_limb {n : Nat} (h : (limbs n).length = 1) : nth (limbs n) 0 = n ∧ 0 < n ∧ n < 4294967296 := by
  have h0 : n ≠ 0 := fun k => by subst k; rw [limbs_zero] at h; cases h
  have h1 : n < 4294967296 ^ 1 := limbs_length_le.1 (by omega)
  have h2 := val_limbs n
  match hl : limbs n, h with
  | [x], _ =>
    rw [hl] at h2
    refine ⟨?_, by omega, by simpa using h1⟩
    rw [nth_cons_zero]
    simpa [val] using h2
end Go.Proofs.YtdidocdpjiiedaaGreatDoor
end

section
namespace Go.Proofs.YtdidocdpjiiedaaGreatDoor
open Go.RowKit

/-- DivMod's result -/
def DmOut (w : World) (n m : Nat) (e : Ending) (w' : World) : Prop :=
  ∃ a1 c1 a2 c2, e = .returned (.tuple #[.slice a1 (limbs (n / m)).length c1, .slice a2 (limbs (n % m)).length c2, .int .i64 0]) ∧ (limbs (n / m)).length ≤ c1 ∧ c1 ≤ maxLen ∧ (limbs (n % m)).length ≤ c2 ∧ c2 ≤ maxLen ∧
    Rd w' a1 (limbs (n / m)) ∧ Rd w' a2 (limbs (n % m)) ∧ Kp w w'
theorem limbs_pow_len (k : Nat) : (limbs (2 ^ k)).length = k / 32 + 1 := by
  refine Nat.le_antisymm (limbs_length_le.2 ?_) ?_
  · rw [pow32]; exact Nat.pow_lt_pow_right (by decide) (by omega)
  · have h : ¬ (limbs (2 ^ k)).length ≤ k / 32 := fun h => by
      have := limbs_length_le.1 h
      rw [pow32] at this
      have := (Nat.pow_lt_pow_iff_right (by decide : 1 < 2)).1 this
      omega
    omega
/-- the number that a slice shows -/
def rdV (w : World) : Value → Nat
  | .slice (some ⟨b, o, none⟩) n _ => val ((List.range n).map fun i => match w.cell? ⟨b, o + i, none⟩ with | some (.int .u32 x) => x.toNat | _ => 0)
  | _ => 0
theorem rdV_eq {w : World} {a : Option Addr} {xs : List Nat} {c : Nat} (h : Rd w a xs) : rdV w (.slice a xs.length c) = val xs := by
  rcases h.2 with rfl | ⟨b, o, rfl, h2⟩
  · unfold rdV
    split
    · next e => cases e; simp [val]
    · rfl
  · show val _ = _
    congr 1
    refine List.ext_getElem (by simp) fun i h3 h4 => ?_
    simp only [List.getElem_map, List.getElem_range]
    rw [h2 i h4]
    simp [nth_eq h4]
end Go.Proofs.YtdidocdpjiiedaaGreatDoor
end

section
namespace Go.Proofs.YtdidocdpjiiedaaGreatDoor
open Go.RowKit

theorem keep36 {w w' : World} (k : Kp w w') {p0 p1 p2 q0 q1 q2 : Addr} {v0 v1 v2 u0 u1 u2 : Value}
    (h : (w.cell? p0 = some v0 ∧ w.cell? p1 = some v1 ∧ w.cell? p2 = some v2) ∧ w.cell? q0 = some u0 ∧ w.cell? q1 = some u1 ∧ w.cell? q2 = some u2) :
    (w'.cell? p0 = some v0 ∧ w'.cell? p1 = some v1 ∧ w'.cell? p2 = some v2) ∧ w'.cell? q0 = some u0 ∧ w'.cell? q1 = some u1 ∧ w'.cell? q2 = some u2 := ⟨keep3 k h.1, keep3 k h.2⟩
theorem fltB_ok {p : Nat} {ys : List RD} (h : ys.all RD.vl = true) (h0 : 8 ≤ p) (h1 : p ≤ 512) : fltB p ys = 0 := fltB_zero.2 ⟨h, by omega, by omega⟩
set_option maxRecDepth 100000 in
set_option maxHeartbeats 8000000 in
theorem addz_ok (x y : RD) (p : Nat) (up : Bool) (w : World) (hx : x.ok w) (hy : y.ok w) (hx0 : x.xs.length = 0) (hp0 : 8 ≤ p) (hp1 : p ≤ 512) (hT : Tab w) :
    Calls Tryz.prog 110 #[.agg #[.bool x.neg, .slice x.a x.xs.length x.c, .int .i64 x.e], .agg #[.bool y.neg, .slice y.a y.xs.length y.c, .int .i64 y.e], .int .i64 p, .bool up] w (NumE w (rndB y p up).1 (rndB y p up).2) := by
  have hz : ((x.xs.length : Int) == 0) = true := beq_iff_eq.2 (by omega)
  have Hz := Lib.hid hx0
  have hf : fltB p [x, y] = 0 := fltB_ok (by simp [hx.2, hy.2]) hp0 hp1
  have Hf := Lib.hid hf
  clear hf hx0
  go_enter Tryz.func110, Tryz.ntmps110
  go_wp2_with fail
  generalize hW : (((w.alloc _).alloc _).alloc _) = W at *
  have hk : Kp w W := hW ▸ (((Kp.refl w).alloc _).alloc _).alloc _
  have hS : (W.cell? ⟨w.heap.size, 0, none⟩ = some (.bool x.neg) ∧ W.cell? ⟨w.heap.size, 1, none⟩ = some (.slice x.a x.xs.length x.c) ∧ W.cell? ⟨w.heap.size, 2, none⟩ = some (.int .i64 x.e)) ∧ W.cell? ⟨w.heap.size + 1, 0, none⟩ = some (.bool y.neg) ∧ W.cell? ⟨w.heap.size + 1, 1, none⟩ = some (.slice y.a y.xs.length y.c) ∧ W.cell? ⟨w.heap.size + 1, 2, none⟩ = some (.int .i64 y.e) := by rw [← hW]; exact keep36 ((Kp.refl _).alloc _) (by simp)
  have hB : Box3 W (w.heap.size + 2) (.bool false) (.slice none 0 0) (.int .i64 0) := hW ▸ Box3.new3 _ _ _ _ _ _ _
  have hsz : W.heap.size = w.heap.size + 1 + 1 + 1 := by rw [← hW]; simp
  clear hW
  have hka := (Kp.refl W).alloc (.cells #[.bool x.neg, .slice x.a x.xs.length x.c, .int .i64 x.e, .bool y.neg, .slice y.a y.xs.length y.c, .int .i64 y.e] 28)
  have hRw := rowD_two W x y (hx.kp hk).1 (hy.kp hk).1 28
  rw [hsz] at hRw
  clear hsz
  refine (fault_any p _ [x, y] 2 _ hRw (by simp)).mono ?_
  rw [Hf.out]
  rintro e w1 ⟨rfl, hk1⟩
  have hS1 := keep36 (hka.trans hk1) hS
  have hB1 := hB.kp (hka.trans hk1)
  have hk2 := hk.trans (hka.trans hk1)
  clear hS hB hk hk1 hka hRw
  go_wp2_with fail
  refine (Round_any y p up _ (hy.kp hk2).1 (hT.kp hk2)).mono ?_
  rintro e w5 ⟨z, rfl, hzr, hzd, hzv, hk5⟩
  obtain ⟨q0, q1, q2, f0, f1, f2⟩ := hB1.kp hk5
  have hk6 := hk2.trans hk5
  clear hS1 hB1 hk5
  have hst := stored q0 q1 q2 (fun _ h => by cases h) (fun _ h => by cases h) (fun _ h => by cases h) (.bool z.neg) (.slice z.a z.xs.length z.c) (.int .i64 z.e)
  go_wp2_with fail
  generalize (((w5.setCell _ _).setCell _ _).setCell _ _) = W2 at hst ⊢
  obtain ⟨s0, s1, s2, _, s4, s5, _, _⟩ := hst
  refine bodyPost_ret (v := .tuple #[.agg #[.bool z.neg, .slice z.a z.xs.length z.c, .int .i64 z.e], .int .i64 (rndB y p up).2]) (by simp [results, Tryz.results110, go_sem, s0, s1, s2]) rfl ?_
  exact ⟨z, rfl, ⟨s4 _ _ hzr.1, hzr.2⟩, hzd, hzv, s5 _ hk6 (by omega)⟩

/-- a contract of AddDown, from one of add -/
theorem AddDown_of (x y : RD) (p : Nat) (D : Dy) (f : Int) (w : World) (hadd : ∀ W, Kp w W → Calls Tryz.prog 110 #[.agg #[.bool x.neg, .slice x.a x.xs.length x.c, .int .i64 x.e], .agg #[.bool y.neg, .slice y.a y.xs.length y.c, .int .i64 y.e], .int .i64 p, .bool false] W (NumE W D f)) :
    Calls Tryz.prog 124 #[.agg #[.bool x.neg, .slice x.a x.xs.length x.c, .int .i64 x.e], .agg #[.bool y.neg, .slice y.a y.xs.length y.c, .int .i64 y.e], .int .i64 p] w (NumE w D f) := by
  have Ha := Lib.hid hadd
  clear hadd
  go_enter Tryz.func124, Tryz.ntmps124
  go_wp2_with fail
  generalize hW : (((w.alloc _).alloc _).alloc _) = W at *
  have hk : Kp w W := hW ▸ (((Kp.refl w).alloc _).alloc _).alloc _
  have hB : Box3 W (w.heap.size + 2) (.bool false) (.slice none 0 0) (.int .i64 0) := hW ▸ Box3.new3 _ _ _ _ _ _ _
  clear hW
  refine (Ha.out _ hk).mono ?_
  rintro e w5 ⟨z, rfl, hzr, hzd, hzv, hk5⟩
  obtain ⟨q0, q1, q2, f0, f1, f2⟩ := hB.kp hk5
  have hk6 := hk.trans hk5
  clear hB hk5
  have hst := stored q0 q1 q2 (fun _ h => by cases h) (fun _ h => by cases h) (fun _ h => by cases h) (.bool z.neg) (.slice z.a z.xs.length z.c) (.int .i64 z.e)
  go_wp2_with fail
  generalize (((w5.setCell _ _).setCell _ _).setCell _ _) = W2 at hst ⊢
  obtain ⟨s0, s1, s2, _, s4, s5, _, _⟩ := hst
  refine bodyPost_ret (v := .tuple #[.agg #[.bool z.neg, .slice z.a z.xs.length z.c, .int .i64 z.e], .int .i64 f]) (by simp [results, Tryz.results124, go_sem, s0, s1, s2]) rfl ?_
  exact ⟨z, rfl, ⟨s4 _ _ hzr.1, hzr.2⟩, hzd, hzv, s5 _ hk6 (by omega)⟩

theorem permitted_any (p : Int) (w : World) :
    Calls Tryz.prog 122 #[.int .i64 p] w fun e w' => e = .returned (.bool (preB p)) ∧ w = w' := by
  by_cases h1 : 8 ≤ p
  · by_cases h2 : p ≤ 512
    · have H := Lib.hid (show preB p = true from decide_eq_true ⟨h1, h2⟩)
      go_enter Tryz.func122, Tryz.ntmps122
      go_wp2_with fail
      go_ret
      exact ⟨ret_bool (by first | exact H.out.symm | (rw [H.out]; simp; omega)), rfl⟩
    · have H := Lib.hid (show preB p = false from decide_eq_false (by omega))
      go_enter Tryz.func122, Tryz.ntmps122
      go_wp2_with fail
      go_ret
      exact ⟨ret_bool (by first | exact H.out.symm | (rw [H.out]; simp; omega)), rfl⟩
  · have H := Lib.hid (show preB p = false from decide_eq_false (by omega))
    go_enter Tryz.func122, Tryz.ntmps122
    go_wp2_with fail
    go_ret
    exact ⟨ret_bool (by first | exact H.out.symm | (rw [H.out]; simp; omega)), rfl⟩
theorem rowI_one (w : World) (x : RI) (hx : x.rd w) (hax : x.all = false) (t : TypeId) : RowI (w.alloc (.cells #[.bool x.lo.neg, .slice x.lo.a x.lo.xs.length x.lo.c, .int .i64 x.lo.e, .bool x.hi.neg, .slice x.hi.a x.hi.xs.length x.hi.c, .int .i64 x.hi.e, .bool false] t)) (some ⟨w.heap.size, 0, none⟩) [x] := by
  intro i z hi
  have hk := (Kp.refl w).alloc (.cells #[.bool x.lo.neg, .slice x.lo.a x.lo.xs.length x.lo.c, .int .i64 x.lo.e, .bool x.hi.neg, .slice x.hi.a x.hi.xs.length x.hi.c, .int .i64 x.hi.e, .bool false] t)
  match i with
  | 0 =>
    simp only [List.getElem?_cons_zero, Option.some.injEq] at hi
    subst hi
    refine ⟨_, 0, rfl, hx.kp hk, ?_, ?_, ?_, ?_, ?_, ?_, ?_⟩ <;> simp [hax]
  | i + 1 => simp at hi
/-- the halved sum is in the interval -/
def midOk (x : RI) (D : Dy) : Prop := (chk (canon D.neg D.m (D.e + -1))).2 = 0 ∧ hasI x (rdOf (chk (canon D.neg D.m (D.e + -1))).1 none 0) = true
end Go.Proofs.YtdidocdpjiiedaaGreatDoor
end

section
namespace Go.Proofs.YtdidocdpjiiedaaGreatDoor
open Go.RowKit

theorem limbs_of_bits {n k : Nat} (h : bits n ≤ 32 * k) : (limbs n).length ≤ k := limbs_length_le.2 (by rw [pow32]; exact bits_le.1 h)
theorem dok_bits {d : Dy} (h : d.ok) : bits d.m ≤ 4096 := by
  rcases h with ⟨h1, _⟩ | ⟨_, h1, _⟩
  · rw [h1, bits_zero]; omega
  · exact h1
end Go.Proofs.YtdidocdpjiiedaaGreatDoor
end
