/-
  Walks: dyadic.sum, whole; Add, Sub.
  Walks: dyadic.Add and Sub of valid numbers.
  Walks: slices.Equal of uint32; the law's own same, num, great; round.Is.
  Plain: division limb by limb; a square root by Newton's steps; no program in sight.
  Walks: bits.Div32, natural.short.
  Walks: natural.divide by one limb, DivMod from a contract of divide.
-/
import Derived.Test.YtndbnfeapdkoaaaDoorMSumG
import Derived.Test.YtndbnfeapdkoaaaDoorMRoA
import Derived.Test.YtndbnfeapdkoaaaDoorMWrap
import Derived.Test.YtndbnfeapdkoaaaDoorMNum
import Derived.Test.YtndbnfeapdkoaaaDoorMPub
section
namespace Go.Proofs.YtndbnfeapdkoaaaDoor
open Go.RowKit

theorem len_is0 {n : Nat} (h : n = 0) : (((limbs n).length : Int) == 0) = true := by subst h; rw [limbs_zero]; rfl
set_option maxHeartbeats 2000000 in
theorem sum_z2_ok (d f : Dy) (a b : Option Addr) (c k : Nat) (w : World) (hd : DyAt w d a c) (hf : DyAt w f b k) (hd0 : d.m ≠ 0) (hf0 : f.m = 0) (hT : Tab w) :
    Calls Tryd.prog 70 #[.agg #[.bool d.neg, .slice a (limbs d.m).length c, .int .i64 d.e], .agg #[.bool f.neg, .slice b (limbs f.m).length k, .int .i64 f.e]] w (DyE w (chk (sumD d f)).1 (chk (sumD d f)).2) := by
  have Hs := Lib.hid (show chk (sumD d f) = (d, 0) by rw [f.eq_zero hf.1 hf0, sumD_zero' hd.1, chk_of_ok hd.1])
  have z1 := len_ne hd0
  have z2 := len_is0 hf0
  have hed := ok_e hd.1
  have hl := ok_len hd.1
  clear hd0 hf0
  go_enter Tryd.func70, Tryd.ntmps70
  go_wp2_with fail
  generalize hW : (((w.alloc _).alloc _).alloc _) = W at *
  have hk : Kp w W := hW ▸ (((Kp.refl w).alloc _).alloc _).alloc _
  have hB : Box3 W (w.heap.size + 2) (.bool false) (.slice none 0 0) (.int .i64 0) := hW ▸ Box3.new3 _ _ _ _ _ _ _
  clear hW
  have hd1 := hd.kp hk
  have HC := canonical_any d.neg a (limbs d.m) c d.e W hd1.2.1 hd1.2.2.1 hd1.2.2.2 (by omega) (by omega) (by omega) (hT.kp hk)
  rw [val_limbs, canon_ok hd.1] at HC
  refine HC.mono ?_
  rintro e w8 ⟨a8, c8, rfl, h2, h3', h4', k8⟩
  obtain ⟨q0, q1, q2, f0, f1, f2⟩ := hB.kp k8
  have hkk := hk.trans k8
  clear HC hd1 hd hf hT hB
  go_wp2_with fail
  have hst := stored q0 q1 q2 (fun _ h => by cases h) (fun _ h => by cases h) (fun _ h => by cases h) (.bool d.neg) (.slice a8 (limbs d.m).length c8) (.int .i64 d.e)
  generalize (((w8.setCell _ _).setCell _ _).setCell _ _) = W2 at hst ⊢
  obtain ⟨s0, s1, s2, _, s4, s5, _, _⟩ := hst
  refine bodyPost_ret (v := .tuple #[.agg #[.bool d.neg, .slice a8 (limbs d.m).length c8, .int .i64 d.e], .int .i64 0]) (by simp [results, Tryd.results70, go_sem, s0, s1, s2]) rfl ?_
  rw [Hs.out]
  exact ⟨a8, c8, rfl, s4 _ _ h2, h3', h4', s5 _ hkk (by omega)⟩
set_option maxHeartbeats 2000000 in
theorem sum_z1_ok (d f : Dy) (a b : Option Addr) (c k : Nat) (w : World) (hd : DyAt w d a c) (hf : DyAt w f b k) (hd0 : d.m = 0) (hT : Tab w) :
    Calls Tryd.prog 70 #[.agg #[.bool d.neg, .slice a (limbs d.m).length c, .int .i64 d.e], .agg #[.bool f.neg, .slice b (limbs f.m).length k, .int .i64 f.e]] w (DyE w (chk (sumD d f)).1 (chk (sumD d f)).2) := by
  have Hs := Lib.hid (show chk (sumD d f) = (f, 0) by rw [d.eq_zero hd.1 hd0, sumD_zero hf.1, chk_of_ok hf.1])
  have z1 := len_is0 hd0
  have hed := ok_e hf.1
  have hl := ok_len hf.1
  clear hd0
  go_enter Tryd.func70, Tryd.ntmps70
  go_wp2_with fail
  generalize hW : (((w.alloc _).alloc _).alloc _) = W at *
  have hk : Kp w W := hW ▸ (((Kp.refl w).alloc _).alloc _).alloc _
  have hB : Box3 W (w.heap.size + 2) (.bool false) (.slice none 0 0) (.int .i64 0) := hW ▸ Box3.new3 _ _ _ _ _ _ _
  clear hW
  have hd1 := hf.kp hk
  have HC := canonical_any f.neg b (limbs f.m) k f.e W hd1.2.1 hd1.2.2.1 hd1.2.2.2 (by omega) (by omega) (by omega) (hT.kp hk)
  rw [val_limbs, canon_ok hf.1] at HC
  refine HC.mono ?_
  rintro e w8 ⟨a8, c8, rfl, h2, h3', h4', k8⟩
  obtain ⟨q0, q1, q2, f0, f1, f2⟩ := hB.kp k8
  have hkk := hk.trans k8
  clear HC hd1 hd hf hT hB
  go_wp2_with fail
  have hst := stored q0 q1 q2 (fun _ h => by cases h) (fun _ h => by cases h) (fun _ h => by cases h) (.bool f.neg) (.slice a8 (limbs f.m).length c8) (.int .i64 f.e)
  generalize (((w8.setCell _ _).setCell _ _).setCell _ _) = W2 at hst ⊢
  obtain ⟨s0, s1, s2, _, s4, s5, _, _⟩ := hst
  refine bodyPost_ret (v := .tuple #[.agg #[.bool f.neg, .slice a8 (limbs f.m).length c8, .int .i64 f.e], .int .i64 0]) (by simp [results, Tryd.results70, go_sem, s0, s1, s2]) rfl ?_
  rw [Hs.out]
  exact ⟨a8, c8, rfl, s4 _ _ h2, h3', h4', s5 _ hkk (by omega)⟩
theorem sum_ok (d f : Dy) (a b : Option Addr) (c k : Nat) (w : World) (hd : DyAt w d a c) (hf : DyAt w f b k) (hT : Tab w) :
    Calls Tryd.prog 70 #[.agg #[.bool d.neg, .slice a (limbs d.m).length c, .int .i64 d.e], .agg #[.bool f.neg, .slice b (limbs f.m).length k, .int .i64 f.e]] w (DyE w (chk (sumD d f)).1 (chk (sumD d f)).2) := by
  by_cases hd0 : d.m = 0
  · exact sum_z1_ok d f a b c k w hd hf hd0 hT
  · by_cases hf0 : f.m = 0
    · exact sum_z2_ok d f a b c k w hd hf hd0 hf0 hT
    · by_cases hb : farB d f
      · exact sum_farB d f a b c k w hd hf hd0 hf0 hb
      · by_cases hs : d.neg = f.neg
        · exact sum_same_ok d f a b c k w hd hf hd0 hf0 hb hT hs
        · rcases Nat.lt_or_ge (d.m * 2 ^ (d.e - min d.e f.e).toNat) (f.m * 2 ^ (f.e - min d.e f.e).toNat) with h | h
          · exact sum_lt_ok d f a b c k w hd hf hd0 hf0 hb hT hs h
          · exact sum_ge_ok d f a b c k w hd hf hd0 hf0 hb hT hs h
theorem sumD_chk_ok (d f : Dy) : (chk (sumD d f)).1.ok := chk_canon_ok _ _ _
theorem rdok_at {w : World} {x : RD} (h : x.ok w) : DyAt w x.dy x.a x.c := ⟨rdok_dy h, by rw [rdok_limbs h]; exact h.1.1, by rw [rdok_limbs h]; exact h.1.2.1, h.1.2.2.1⟩
theorem sum_rd (x y : RD) (w : World) (hx : x.ok w) (hy : y.ok w) (hT : Tab w) :
    Calls Tryd.prog 70 #[.agg #[.bool x.neg, .slice x.a x.xs.length x.c, .int .i64 x.e], .agg #[.bool y.neg, .slice y.a y.xs.length y.c, .int .i64 y.e]] w (NumE w (chk (sumD x.dy y.dy)).1 (chk (sumD x.dy y.dy)).2) := by
  have H := sum_ok x.dy y.dy x.a y.a x.c y.c w (rdok_at hx) (rdok_at hy) hT
  rw [rdok_limbs hx, rdok_limbs hy] at H
  have hok := sumD_chk_ok x.dy y.dy
  have hl := ok_len hok
  exact H.mono fun e w' h => h.num (by omega) (ok_I64 hok)
end Go.Proofs.YtndbnfeapdkoaaaDoor
end

section
namespace Go.Proofs.YtndbnfeapdkoaaaDoor
open Go.RowKit

theorem keepRR {w w' : World} (k : Kp w w') {g h : Nat} {x y : RD} (hS : w.cell? ⟨g, 0, none⟩ = some (.bool x.neg) ∧ w.cell? ⟨g, 1, none⟩ = some (.slice x.a x.xs.length x.c) ∧ w.cell? ⟨g, 2, none⟩ = some (.int .i64 x.e) ∧ w.cell? ⟨h, 0, none⟩ = some (.bool y.neg) ∧ w.cell? ⟨h, 1, none⟩ = some (.slice y.a y.xs.length y.c) ∧ w.cell? ⟨h, 2, none⟩ = some (.int .i64 y.e)) : w'.cell? ⟨g, 0, none⟩ = some (.bool x.neg) ∧ w'.cell? ⟨g, 1, none⟩ = some (.slice x.a x.xs.length x.c) ∧ w'.cell? ⟨g, 2, none⟩ = some (.int .i64 x.e) ∧ w'.cell? ⟨h, 0, none⟩ = some (.bool y.neg) ∧ w'.cell? ⟨h, 1, none⟩ = some (.slice y.a y.xs.length y.c) ∧ w'.cell? ⟨h, 2, none⟩ = some (.int .i64 y.e) := keep6 k hS
theorem setRR {w : World} {o g h : Nat} (n : g ≠ o) (n' : h ≠ o) {x y : RD} {v0 v1 v2 : Value} (hS : w.cell? ⟨g, 0, none⟩ = some (.bool x.neg) ∧ w.cell? ⟨g, 1, none⟩ = some (.slice x.a x.xs.length x.c) ∧ w.cell? ⟨g, 2, none⟩ = some (.int .i64 x.e) ∧ w.cell? ⟨h, 0, none⟩ = some (.bool y.neg) ∧ w.cell? ⟨h, 1, none⟩ = some (.slice y.a y.xs.length y.c) ∧ w.cell? ⟨h, 2, none⟩ = some (.int .i64 y.e)) :
    (((w.setCell ⟨o, 0, none⟩ v0).setCell ⟨o, 1, none⟩ v1).setCell ⟨o, 2, none⟩ v2).cell? ⟨g, 0, none⟩ = some (.bool x.neg) ∧ (((w.setCell ⟨o, 0, none⟩ v0).setCell ⟨o, 1, none⟩ v1).setCell ⟨o, 2, none⟩ v2).cell? ⟨g, 1, none⟩ = some (.slice x.a x.xs.length x.c) ∧ (((w.setCell ⟨o, 0, none⟩ v0).setCell ⟨o, 1, none⟩ v1).setCell ⟨o, 2, none⟩ v2).cell? ⟨g, 2, none⟩ = some (.int .i64 x.e) ∧ (((w.setCell ⟨o, 0, none⟩ v0).setCell ⟨o, 1, none⟩ v1).setCell ⟨o, 2, none⟩ v2).cell? ⟨h, 0, none⟩ = some (.bool y.neg) ∧ (((w.setCell ⟨o, 0, none⟩ v0).setCell ⟨o, 1, none⟩ v1).setCell ⟨o, 2, none⟩ v2).cell? ⟨h, 1, none⟩ = some (.slice y.a y.xs.length y.c) ∧ (((w.setCell ⟨o, 0, none⟩ v0).setCell ⟨o, 1, none⟩ v1).setCell ⟨o, 2, none⟩ v2).cell? ⟨h, 2, none⟩ = some (.int .i64 y.e) := by
  obtain ⟨a0, a1, a2, b0, b1, b2⟩ := hS
  obtain ⟨c0, c1, c2⟩ := set3x (x0 := v0) (x1 := v1) (x2 := v2) n ⟨a0, a1, a2⟩
  obtain ⟨d0, d1, d2⟩ := set3x (x0 := v0) (x1 := v1) (x2 := v2) n' ⟨b0, b1, b2⟩
  exact ⟨c0, c1, c2, d0, d1, d2⟩
set_option maxHeartbeats 2000000 in
theorem Sub_rd (x y : RD) (w : World) (hx : x.ok w) (hy : y.ok w) (hT : Tab w) :
    Calls Tryd.prog 40 #[.agg #[.bool x.neg, .slice x.a x.xs.length x.c, .int .i64 x.e], .agg #[.bool y.neg, .slice y.a y.xs.length y.c, .int .i64 y.e]] w (NumE w (chk (sumD x.dy y.dy.opp)).1 (chk (sumD x.dy y.dy.opp)).2) := by
  have hvx := hx.2
  have hvy := hy.2
  have hyd := rdok_dy hy
  go_enter Tryd.func40, Tryd.ntmps40
  go_wp2_with fail
  generalize hW : (((w.alloc _).alloc _).alloc _) = W at *
  have hk : Kp w W := hW ▸ (((Kp.refl w).alloc _).alloc _).alloc _
  have hS : W.cell? ⟨w.heap.size, 0, none⟩ = some (.bool x.neg) ∧ W.cell? ⟨w.heap.size, 1, none⟩ = some (.slice x.a x.xs.length x.c) ∧ W.cell? ⟨w.heap.size, 2, none⟩ = some (.int .i64 x.e) ∧ W.cell? ⟨w.heap.size + 1, 0, none⟩ = some (.bool y.neg) ∧ W.cell? ⟨w.heap.size + 1, 1, none⟩ = some (.slice y.a y.xs.length y.c) ∧ W.cell? ⟨w.heap.size + 1, 2, none⟩ = some (.int .i64 y.e) := by rw [← hW]; exact keep6 ((Kp.refl _).alloc _) (by simp)
  have hB : Box3 W (w.heap.size + 2) (.bool false) (.slice none 0 0) (.int .i64 0) := hW ▸ Box3.new3 _ _ _ _ _ _ _
  clear hW
  refine (Valid_rok x _ (hx.kp hk)).mono ?_
  rintro e w1 ⟨rfl, hk1⟩
  have hS1 := keepRR hk1 hS
  have hB1 := hB.kp hk1
  have hk2 := hk.trans hk1
  clear hS hk hk1 hB
  go_wp2_with fail
  refine (Valid_rok y _ (hy.kp hk2)).mono ?_
  rintro e w2 ⟨rfl, hk3⟩
  have hk4 := (hk2.trans hk3).drew
  have hS2 := keepRR (Kp.refl w2).drew (keepRR hk3 hS1)
  have hB2 := (hB1.kp hk3).kp (Kp.refl w2).drew
  have hx4 := hx.kp hk4
  have hy4 := hy.kp hk4
  have hT4 := hT.kp hk4
  clear hS1 hk2 hk3 hB1
  go_wp2_with fail
  go_region_held3 (fun w' => w'.cell? ⟨w.heap.size, 0, none⟩ = some (.bool x.neg) ∧ w'.cell? ⟨w.heap.size, 1, none⟩ = some (.slice x.a x.xs.length x.c) ∧ w'.cell? ⟨w.heap.size, 2, none⟩ = some (.int .i64 x.e) ∧ w'.cell? ⟨w.heap.size + 1, 0, none⟩ = some (.bool y.neg) ∧ w'.cell? ⟨w.heap.size + 1, 1, none⟩ = some (.slice y.a y.xs.length y.c) ∧ w'.cell? ⟨w.heap.size + 1, 2, none⟩ = some (.int .i64 y.e)) (first | with_reducible assumption | with_reducible exact keepRR (by assumption) (by assumption) | with_reducible exact setRR (by omega) (by omega) (by assumption))
    (first
      | (go_at_call 71; refine (Neg_ok y _ hy4).mono ?_; rintro e w5 ⟨v, rfl, rv, hv, vv, hk5⟩)
      | (go_at_call 70; refine (sum_rd x v _ (hx4.kp hk5) ⟨rv, vv (Dy.opp_ok hyd)⟩ (hT4.kp hk5)).mono ?_; rw [hv]; rintro e w6 ⟨z, rfl, rz, hz, vz, hk6⟩; obtain ⟨q0, q1, q2, f0, f1, f2⟩ := (hB2.kp hk5).kp hk6))
  have hkk := (hk4.trans hk5).trans hk6
  clear hS2 hB2 hk4 hk5 hk6
  have hst := stored q0 q1 q2 (fun _ h => by cases h) (fun _ h => by cases h) (fun _ h => by cases h) (.bool z.neg) (.slice z.a z.xs.length z.c) (.int .i64 z.e)
  go_wp2_with fail
  generalize (((w6.setCell _ _).setCell _ _).setCell _ _) = W2 at hst ⊢
  obtain ⟨s0, s1, s2, _, s4, s5, _, _⟩ := hst
  refine bodyPost_ret (v := .tuple #[.agg #[.bool z.neg, .slice z.a z.xs.length z.c, .int .i64 z.e], .int .i64 (chk (sumD x.dy y.dy.opp)).2]) (by simp [results, Tryd.results40, go_sem, s0, s1, s2]) rfl ?_
  exact ⟨z, rfl, ⟨s4 _ _ rz.1, rz.2⟩, hz, vz, s5 _ hkk (by omega)⟩
end Go.Proofs.YtndbnfeapdkoaaaDoor
end

section
namespace Go.Proofs.YtndbnfeapdkoaaaDoor
open Go.RowKit

set_option maxHeartbeats 1000000 in
theorem eqU_any (a b : Option Addr) (xs ys : List Nat) (c d : Nat) (w : World) (h1 : Rd w a xs) (h2 : Rd w b ys) (hxl : xs.length ≤ 1100000) :
    Calls Tryd.prog 34 #[.slice a xs.length c, .slice b ys.length d] w fun e w' => e = .returned (.bool (decide (xs = ys))) ∧ Kp w w' := by
  by_cases hlen : xs.length = ys.length
  · have hne : ((xs.length : Int) != ys.length) = false := by simp; omega
    have Hlen := Lib.hid hlen
    have hle1 : xs.length ≤ ys.length := by omega
    clear hlen
    go_enter Tryd.func34, Tryd.ntmps34
    go_wp2_with fail
    go_loopw [13] (fun ix wr => ∃ k : Nat, k ≤ xs.length ∧ ix = .int .i64 k ∧ xs.take k = ys.take k ∧ Kp w wr) (fun ix _ => xs.length - (intOf ix).toNat)
    case atStart => exact ⟨0, Nat.zero_le _, rfl, rfl, .refl _⟩
    case round =>
      obtain ⟨k, hk, rfl, ht, hkp⟩ := hrel
      have Ht := Lib.hid ht
      clear ht
      by_cases hlt : k < xs.length
      · have hlt2 : k < ys.length := by omega
        obtain ⟨b1, o1, rfl, hcx⟩ := (h1.kp hkp).some hlt
        have hx1 := hcx k hlt
        obtain ⟨b2, o2, rfl, hcy⟩ := (h2.kp hkp).some hlt2
        have hy1 := hcy k hlt2
        have Hn := Lib.hid (And.intro (take_succ_nth hlt) (take_succ_nth hlt2))
        have He := Lib.hid (show xs = ys → nth xs k = nth ys k from fun h => by rw [h])
        clear hcx hcy
        have hi0 : (0 : Int) ≤ (k : Int) := by omega
        have hi1 : (k : Int) < (xs.length : Int) := by omega
        have hi2 : (k : Int) < (ys.length : Int) := by omega
        by_cases hq : nth xs k = nth ys k
        · have hq1 : ((nth xs k : Int) != (nth ys k : Int)) = false := by simp; omega
          have Hq := Lib.hid hq
          clear hq
          go_wp2_with fail
          go_quiet (fail)
          go_wp2_with fail
          go_roundw
          case rel => exact ⟨k + 1, by omega, by go_num, by rw [Hn.out.1, Hn.out.2, Ht.out, Hq.out], hkp.drewN _⟩
          all_goals (simp [intOf]; try omega)
        · have hq1 : ((nth xs k : Int) != (nth ys k : Int)) = true := by simp; omega
          have Hq := Lib.hid hq
          clear hq
          go_wp2_with fail
          go_quiet (fail)
          go_wp2_with fail
          go_ret
          exact ⟨ret_bool (decide_eq_false fun h => Hq.out (He.out h)).symm, hkp.drewN _⟩
      · have hke : k = xs.length := by omega
        have H := Lib.hid (show xs = ys by
          have := Ht.out
          rw [hke, List.take_of_length_le (Nat.le_refl _), List.take_of_length_le (by have := Hlen.out; omega)] at this
          exact this)
        clear hke
        go_wp2_with fail
        go_ret
        exact ⟨ret_bool (decide_eq_true H.out).symm, hkp⟩
  · have hne : ((xs.length : Int) != ys.length) = true := by simp; omega
    have H := Lib.hid (show ¬ xs = ys from fun h => hlen (by rw [h]))
    clear hlen
    go_enter Tryd.func34, Tryd.ntmps34
    go_wp2_with fail
    go_ret
    exact ⟨ret_bool (decide_eq_false H.out).symm, .refl _⟩

/-- equal fields -/
def sameR (x y : RD) : Bool := (x.neg == y.neg) && (decide (x.e = y.e) && decide (x.xs = y.xs))
theorem sameR_dy {w w' : World} {x y : RD} (hx : x.ok w) (hy : y.ok w') (h : x.dy = y.dy) : sameR x y = true := by
  have h1 := rdok_limbs hx
  have h2 := rdok_limbs hy
  have e1 : x.neg = y.neg := congrArg Dy.neg h
  have e2 : x.e = y.e := congrArg Dy.e h
  have e3 : x.xs = y.xs := by rw [← h1, ← h2, h]
  unfold sameR
  rw [e1, e2, e3]; simp
set_option maxHeartbeats 1000000 in
theorem same_any (x y : RD) (w : World) (hx : x.rd w) (hy : y.rd w) :
    Calls Tryd.prog 14 #[.agg #[.bool x.neg, .slice x.a x.xs.length x.c, .int .i64 x.e], .agg #[.bool y.neg, .slice y.a y.xs.length y.c, .int .i64 y.e]] w fun e w' => e = .returned (.bool (sameR x y)) ∧ Kp w w' := by
  have H := Lib.hid (show sameR x y = ((x.neg == y.neg) && (decide (x.e = y.e) && decide (x.xs = y.xs))) from rfl)
  have hk := ((Kp.refl w).alloc (.cells #[.bool x.neg, .slice x.a x.xs.length x.c, .int .i64 x.e] 24)).alloc (.cells #[.bool y.neg, .slice y.a y.xs.length y.c, .int .i64 y.e] 24)
  have hxl := hx.2.2.2.1
  by_cases hn : x.neg = y.neg
  · have hn1 : (x.neg == y.neg) = true := by rw [hn]; cases y.neg <;> rfl
    by_cases he : x.e = y.e
    · have he1 : (x.e == y.e) = true := beq_iff_eq.2 he
      have Hn := Lib.hid (And.intro hn1 he)
      clear hn he
      go_enter Tryd.func14, Tryd.ntmps14
      go_wp2_with fail
      refine (eqU_any x.a y.a x.xs y.xs x.c y.c _ (hx.1.kp hk) (hy.1.kp hk) hxl).mono ?_
      rintro e w3 ⟨rfl, hk3⟩
      go_wp2_with fail
      go_ret
      exact ⟨ret_bool (by rw [H.out, Hn.out.1, Hn.out.2]; simp), hk.trans hk3⟩
    · have he1 : (x.e == y.e) = false := beq_eq_false_iff_ne.2 he
      have Hn := Lib.hid he
      clear hn he
      go_enter Tryd.func14, Tryd.ntmps14
      go_wp2_with fail
      go_ret
      exact ⟨ret_bool (by rw [H.out, decide_eq_false Hn.out]; simp), hk⟩
  · have hn1 : (x.neg == y.neg) = false := by cases h1 : x.neg <;> cases h2 : y.neg <;> simp_all
    clear hn
    go_enter Tryd.func14, Tryd.ntmps14
    go_wp2_with fail
    go_ret
    exact ⟨ret_bool (by rw [H.out, hn1]; simp), hk⟩
theorem Bits_rok (x : RD) (w : World) (h : x.ok w) :
    Calls Tryd.prog 33 #[.agg #[.bool x.neg, .slice x.a x.xs.length x.c, .int .i64 x.e]] w fun e w' => e = .returned (.int .i64 (bits (val x.xs))) ∧ Kp w w' := by
  have H := Bits_ok x.dy x.a x.c w (rdok_at h)
  rw [rdok_limbs h] at H
  exact H
/-- is it a number of p bits? -/
def isB (x : RD) (p : Int) : Bool := decide (fltB p [x] = 0) && decide ((bits (val x.xs) : Int) ≤ p)
set_option maxHeartbeats 1000000 in
theorem Is_any (x : RD) (p : Int) (w : World) (hx : x.rd w) :
    Calls Tryd.prog 13 #[.agg #[.bool x.neg, .slice x.a x.xs.length x.c, .int .i64 x.e], .int .i64 p] w fun e w' => e = .returned (.bool (isB x p)) ∧ Kp w w' := by
  have H := Lib.hid (show isB x p = (decide (fltB p [x] = 0) && decide ((bits (val x.xs) : Int) ≤ p)) from rfl)
  go_enter Tryd.func13, Tryd.ntmps13
  go_wp2_with fail
  generalize hW : w.alloc _ = W at *
  have hk : Kp w W := hW ▸ (Kp.refl w).alloc _
  have hS : W.cell? ⟨w.heap.size, 0, none⟩ = some (.bool x.neg) ∧ W.cell? ⟨w.heap.size, 1, none⟩ = some (.slice x.a x.xs.length x.c) ∧ W.cell? ⟨w.heap.size, 2, none⟩ = some (.int .i64 x.e) := by rw [← hW]; simp
  have hsz : W.heap.size = w.heap.size + 1 := by rw [← hW]; simp
  clear hW
  have hka := (Kp.refl W).alloc (.cells #[.bool x.neg, .slice x.a x.xs.length x.c, .int .i64 x.e] 24)
  have hRw := rowD_one W x (hx.kp hk) 24
  rw [hsz] at hRw
  clear hsz
  refine (fault_any p _ [x] 1 _ hRw (by simp)).mono ?_
  clear hRw
  rintro e w1 ⟨rfl, hk1⟩
  obtain ⟨s0, s1, s2⟩ := keep3 (hka.trans hk1) hS
  have hk2 := hk.trans (hka.trans hk1)
  clear hS hk hk1 hka
  by_cases h0 : fltB p [x] = 0
  · have hv : x.vl = true := by simpa using (fltB_zero.1 h0).1
    have h1 : (fltB p [x] == 0) = true := beq_iff_eq.2 h0
    have H0 := Lib.hid h0
    clear h0
    go_wp2_with fail
    refine (Bits_rok x _ ⟨hx.kp hk2, hv⟩).mono ?_
    rintro e w2 ⟨rfl, hk3⟩
    go_wp2_with fail
    go_ret
    exact ⟨ret_bool (by rw [H.out, decide_eq_true H0.out]; simp), hk2.trans hk3⟩
  · have h1 : (fltB p [x] == 0) = false := beq_eq_false_iff_ne.2 h0
    have H0 := Lib.hid h0
    clear h0
    go_wp2_with fail
    go_ret
    exact ⟨ret_bool (by rw [H.out, decide_eq_false H0.out]; simp), hk2⟩
/-- a number of one limb -/
def LimbOut (w : World) (m : Nat) (ex : Int) (e : Ending) (w' : World) : Prop :=
  ∃ y : RD, e = .returned (.agg #[.bool y.neg, .slice y.a y.xs.length y.c, .int .i64 y.e]) ∧ y.rd w' ∧ y.neg = false ∧ y.xs = [m] ∧ y.e = ex ∧ Kp w w'
set_option maxHeartbeats 1000000 in
theorem num_any (m : Nat) (ex : Int) (w : World) (hm : m < 4294967296) (he : I64 ex) :
    Calls Tryd.prog 19 #[.int .u32 (m : Nat), .int .i64 ex] w (LimbOut w m ex) := by
  go_enter Tryd.func19, Tryd.ntmps19
  go_wp2_with fail
  generalize hW : (w.alloc _) = W at *
  have hk : Kp w W := hW ▸ (Kp.refl w).alloc _
  have hsz : W.heap.size = w.heap.size + 1 := by rw [← hW]; simp
  have hk2 := hk.alloc (.cells #[.int .u32 (m : Nat)] 42)
  obtain ⟨s0, s1, s2⟩ : (W.alloc (.cells #[.int .u32 (m : Nat)] 42)).cell? ⟨w.heap.size, 0, none⟩ = some (.bool false) ∧ (W.alloc (.cells #[.int .u32 (m : Nat)] 42)).cell? ⟨w.heap.size, 1, none⟩ = some (.slice (some ⟨w.heap.size + 1, 0, none⟩) 1 1) ∧ (W.alloc (.cells #[.int .u32 (m : Nat)] 42)).cell? ⟨w.heap.size, 2, none⟩ = some (.int .i64 ex) := by
    refine keep3 ((Kp.refl W).alloc _) ?_
    rw [← hW]; simp
  have hr : Rd (W.alloc (.cells #[.int .u32 (m : Nat)] 42)) (some ⟨w.heap.size + 1, 0, none⟩) [m] := ⟨.cons hm .nil, .inr ⟨_, 0, rfl, fun i hi => by
    have : i = 0 := by simpa using hi
    subst this
    rw [← hsz]
    simp [nth_cons_zero]⟩⟩
  clear hW
  refine bodyPost_ret (v := .agg #[.bool false, .slice (some ⟨w.heap.size + 1, 0, none⟩) 1 1, .int .i64 ex]) (by simp [results, Tryd.results19, go_sem, s0, s1, s2]) rfl ?_
  exact ⟨⟨false, some ⟨w.heap.size + 1, 0, none⟩, [m], 1, ex⟩, rfl, ⟨hr, by simp, (by decide : (1 : Nat) ≤ maxLen), by simp, he⟩, rfl, rfl, rfl, hk2⟩
/-- are there numbers of more than 200 limbs? -/
def lng2 (x : RD) : Bool := decide (200 < x.xs.length)
end Go.Proofs.YtndbnfeapdkoaaaDoor
end

section
namespace Go.Proofs.YtndbnfeapdkoaaaDoor

/-- one step of the division by a limb d, from the top down -/
theorem short_step {xs zs : List Nat} {d k r : Nat} (hk : k < xs.length) (hl : zs.length = xs.length) (_hr : r < d)
    (h : val (zs.drop (k + 1)) * d + r = val (xs.drop (k + 1))) :
    val ((zs.set k ((nth xs k + 4294967296 * r) / d)).drop k) * d + (nth xs k + 4294967296 * r) % d = val (xs.drop k) := by
  have e1 : (zs.set k ((nth xs k + 4294967296 * r) / d)).drop k = (nth xs k + 4294967296 * r) / d :: zs.drop (k + 1) := by
    rw [set_eq_take_drop (by omega), List.drop_append, List.drop_of_length_le (by simp; omega)]
    simp [Nat.min_eq_left (by omega : k ≤ zs.length)]
  rw [e1, drop_eq_nth hk, val_cons, val_cons, ← h]
  have h2 := Nat.div_add_mod (nth xs k + 4294967296 * r) d
  generalize (nth xs k + 4294967296 * r) / d = q at *
  generalize (nth xs k + 4294967296 * r) % d = s at *
  generalize val (zs.drop (k + 1)) = V at *
  rw [Nat.add_mul, Nat.mul_comm q d, Nat.mul_assoc, Nat.mul_add]
  omega
theorem short_digit {x d r : Nat} (hx : x < 4294967296) (hr : r < d) : (x + 4294967296 * r) / d < 4294967296 := by
  rw [Nat.div_lt_iff_lt_mul (by omega)]
  calc x + 4294967296 * r < 4294967296 + 4294967296 * r := by omega
    _ = 4294967296 * (r + 1) := by omega
    _ ≤ 4294967296 * d := Nat.mul_le_mul_left _ hr

/-- one step down to the root -/
def newt (n x : Nat) : Nat := (x + n / x) / 2
theorem newt_up {n x : Nat} (hx : 0 < x) : n < (newt n x + 1) * (newt n x + 1) := by
  unfold newt
  have h1 := Nat.div_add_mod n x
  have h2 := Nat.mod_lt n hx
  generalize n / x = q at *
  have h3 : x + q + 1 ≤ 2 * ((x + q) / 2 + 1) := by omega
  generalize (x + q) / 2 + 1 = y at *
  have h4 : (x + q + 1) * (x + q + 1) ≤ (2 * y) * (2 * y) := Nat.mul_le_mul h3 h3
  have h5 : (2 * y) * (2 * y) = 4 * (y * y) := by rw [Nat.mul_mul_mul_comm]
  have h6 : 4 * (x * (q + 1)) ≤ (x + q + 1) * (x + q + 1) := by
    rcases Nat.le_total x (q + 1) with h | h
    · obtain ⟨t, ht⟩ := Nat.exists_eq_add_of_le h
      rw [Nat.add_assoc, ht]
      have e : (x + (x + t)) * (x + (x + t)) = 4 * (x * (x + t)) + t * t := by
        simp only [Nat.mul_add, Nat.add_mul]
        have := Nat.mul_comm x t
        omega
      omega
    · obtain ⟨t, ht⟩ := Nat.exists_eq_add_of_le h
      rw [Nat.add_assoc, ht]
      generalize q + 1 = b at *
      have e : (b + t + b) * (b + t + b) = 4 * ((b + t) * b) + t * t := by
        simp only [Nat.mul_add, Nat.add_mul]
        have := Nat.mul_comm b t
        omega
      omega
  have h7 : n < x * (q + 1) := by rw [Nat.mul_add]; omega
  omega
theorem newt_done {n x : Nat} (h : x ≤ newt n x) : x * x ≤ n := by
  unfold newt at h
  have h1 : x ≤ n / x := by omega
  rcases Nat.eq_zero_or_pos x with h0 | h0
  · subst h0; simp
  exact (Nat.le_div_iff_mul_le h0).1 h1
/-- the root, rounded down -/
def isRt (n s : Nat) : Prop := s * s ≤ n ∧ n < (s + 1) * (s + 1)
theorem isRt.unique {n s t : Nat} (h : isRt n s) (h' : isRt n t) : s = t := by
  rcases Nat.lt_trichotomy s t with h1 | h1 | h1
  · have := Nat.mul_le_mul (show s + 1 ≤ t from h1) (show s + 1 ≤ t from h1)
    have := h.2; have := h'.1; omega
  · exact h1
  · have := Nat.mul_le_mul (show t + 1 ≤ s from h1) (show t + 1 ≤ s from h1)
    have := h'.2; have := h.1; omega
theorem newt_pos {n x : Nat} (hn : 0 < n) (hx : 0 < x) : 0 < newt n x := by
  have := newt_up (n := n) hx
  rcases Nat.eq_zero_or_pos (newt n x) with h | h
  · rw [h] at this; omega
  · exact h
theorem first_up (n : Nat) : n < (2 ^ ((bits n + 1) / 2) + 1) * (2 ^ ((bits n + 1) / 2) + 1) := by
  have h1 := lt_two_pow_bits n
  have h2 : 2 ^ bits n ≤ 2 ^ ((bits n + 1) / 2) * 2 ^ ((bits n + 1) / 2) := by
    rw [← Nat.pow_add]
    exact Nat.pow_le_pow_right (by decide) (by omega)
  have h3 := Nat.mul_le_mul (show 2 ^ ((bits n + 1) / 2) ≤ 2 ^ ((bits n + 1) / 2) + 1 from by omega) (show 2 ^ ((bits n + 1) / 2) ≤ 2 ^ ((bits n + 1) / 2) + 1 from by omega)
  omega
end Go.Proofs.YtndbnfeapdkoaaaDoor
end

section
namespace Go.Proofs.YtndbnfeapdkoaaaDoor
open Go.RowKit

theorem join64 {x y : Nat} (hx : x < 4294967296) (hy : y < 4294967296) :
    Go.bits BinOp.or IntKind.u64 ((y : Int) * 4294967296) (x : Int) = ((x + 4294967296 * y : Nat) : Int) := by
  rw [show (y : Int) * 4294967296 = ((y * 2 ^ 32 : Nat) : Int) from by rw [Int.natCast_mul]; rfl, u64_or_nat _ _ (by omega) (by omega), nat_join 32 _ _ (Nat.mul_mod_left _ _) hx]
  congr 1; omega
theorem ret_div32 {a b : Int} {c d : Nat} (h : a = c) (h' : b = d) : Ending.returned (.tuple #[.int .u32 a, .int .u32 b]) = .returned (.tuple #[.int .u32 (c : Int), .int .u32 (d : Int)]) := by rw [h, h']
set_option maxHeartbeats 1000000 in
theorem div32_any (hi lo y : Nat) (w : World) (hlo : lo < 4294967296) (hy : y < 4294967296) (hlt : hi < y) :
    Calls Tryd.prog 99 #[.int .u32 hi, .int .u32 lo, .int .u32 y] w fun e w' =>
      e = .returned (.tuple #[.int .u32 ((lo + 4294967296 * hi) / y : Nat), .int .u32 ((lo + 4294967296 * hi) % y : Nat)]) ∧ Kp w w' := by
  have hor := join64 hlo (show hi < 4294967296 by omega)
  have Hq := Lib.hid (short_digit hlo hlt)
  have Hr := Lib.hid (Nat.lt_trans (Nat.mod_lt (lo + 4294967296 * hi) (by omega : y > 0)) hy)
  have hy0 : (y : Int) ≠ 0 := by omega
  have hy1 : ((y : Int) == 0) = false := beq_eq_false_iff_ne.2 hy0
  have hy2 : ((y : Int) != 0) = true := by rw [bne, hy1]; rfl
  have hle : ¬ (y : Int) ≤ (hi : Int) := by omega
  have hw : ((hi : Int) * 4294967296) % 18446744073709551616 = (hi : Int) * 4294967296 := by omega
  go_enter Tryd.func99, Tryd.ntmps99
  go_wp2_with fail
  go_quiet (fail)
  go_wp2_with fail
  refine bodyPost_ret (v := .tuple #[.int .u32 (((lo : Int) + 4294967296 * hi) / y % 4294967296), .int .u32 (((lo : Int) + 4294967296 * hi) % y % 4294967296)]) (by simp [results, Tryd.results99, go_sem]) rfl ?_
  have e1 : ((lo : Int) + 4294967296 * hi) / y = (((lo + 4294967296 * hi) / y : Nat) : Int) := by rw [Int.natCast_ediv, Int.natCast_add, Int.natCast_mul]; rfl
  have e2 : ((lo : Int) + 4294967296 * hi) % y = (((lo + 4294967296 * hi) % y : Nat) : Int) := by rw [Int.natCast_emod, Int.natCast_add, Int.natCast_mul]; rfl
  have hq := Hq.out
  have hr := Hr.out
  rw [e1, e2]
  generalize (lo + 4294967296 * hi) / y = q at *
  generalize (lo + 4294967296 * hi) % y = r at *
  exact ⟨ret_div32 (by omega) (by omega), (Kp.refl w).drewN _⟩

/-- a division's result: quotient and rest, in slices that need not be trimmed -/
def ShortOut (w : World) (xs : List Nat) (d : Nat) (e : Ending) (w' : World) : Prop :=
  ∃ g zs r, e = .returned (.tuple #[.slice (some ⟨g, 0, none⟩) xs.length xs.length, .int .u32 (r : Nat)]) ∧ zs.length = xs.length ∧ val zs * d + r = val xs ∧ r < d ∧ Rd w' (some ⟨g, 0, none⟩) zs ∧ Kp w w'
set_option maxHeartbeats 2000000 in
theorem short_any (a : Option Addr) (xs : List Nat) (c d : Nat) (w : World) (hx : Rd w a xs) (hxl : xs.length ≤ 1000) (hd0 : 0 < d) (hd : d < 4294967296) :
    Calls Tryd.prog 91 #[.slice a xs.length c, .int .u32 d] w (ShortOut w xs d) := by
  go_enter Tryd.func91, Tryd.ntmps91
  have hmk := make_u32 (xs.length : Int) xs.length rfl (by omega)
  go_wp2
  clear hmk
  go_loopw [7, 8] (fun cy ix wr => ∃ (k r : Nat) (zs : List Nat), k ≤ xs.length ∧ ix = .int .i64 ((k : Int) - 1) ∧ cy = .int .u32 (r : Nat) ∧ r < d ∧ zs.length = xs.length ∧ Blk wr w.heap.size zs ∧ Lt32 zs ∧
      val (zs.drop k) * d + r = val (xs.drop k) ∧ Kp w wr) (fun _ ix _ => (intOf ix + 1).toNat)
  case atStart => exact ⟨xs.length, 0, _, Nat.le_refl _, rfl, rfl, hd0, by simp, Blk.made _ _, .replicate _, by simp [val], (Kp.refl _).alloc _⟩
  case round =>
    obtain ⟨k, r, zs, hk, rfl, rfl, hr, hzl, hb, hz32, hvz, hkp⟩ := hrel
    have Hvz := Lib.hid hvz
    have Hzl := Lib.hid hzl
    clear hvz
    rcases k with _ | j
    · rw [show (((0 : Nat) : Int) - 1) = -1 from rfl]
      go_wp2_with fail
      go_ret2
      have e2 := Hvz.out
      rw [List.drop_zero, List.drop_zero] at e2
      exact ⟨_, zs, r, rfl, Hzl.out, e2, hr, hb.rd hz32, hkp⟩
    · rw [show (((j + 1 : Nat) : Int) - 1) = (j : Int) from by omega]
      obtain ⟨b1, o1, rfl, hcx⟩ := (hx.kp hkp).some (i := j) (by omega)
      have hx1 := hcx j (by omega)
      have bx := hx.lt32.nth j
      have hs1 := hb.cell (i := j) (by omega)
      have hs2 := hb.frozen j
      have Hd := Lib.hid (short_digit bx hr)
      have Hst := Lib.hid (short_step (by omega) Hzl.out hr Hvz.out)
      have Hm := Lib.hid (Nat.mod_lt (nth xs j + 4294967296 * r) hd0)
      clear hcx
      go_wp2_with fail
      refine (div32_any r (nth xs j) d _ bx hd hr).mono ?_
      rintro e w2 ⟨rfl, hk2⟩
      have hb2 := hb.kp hk2
      have hs3 := hb2.cell (i := j) (by omega)
      have hs4 := hb2.frozen j
      clear hs1 hs2
      go_wp2_with fail
      go_roundw
      case rel =>
        exact ⟨j, (nth xs j + 4294967296 * r) % d, zs.set j ((nth xs j + 4294967296 * r) / d), by omega, by go_num, rfl, Hm.out, by simp [Hzl.out], hb2.set _ _, hz32.set _ _ Hd.out, Hst.out, (hkp.trans hk2).set (Nat.le_refl _) _⟩
      all_goals (simp [intOf]; try omega)
end Go.Proofs.YtndbnfeapdkoaaaDoor
end

section
namespace Go.Proofs.YtndbnfeapdkoaaaDoor
open Go.RowKit

/-- quotient and rest of a division, in slices that need not be trimmed -/
def DivOut (w : World) (n m l : Nat) (e : Ending) (w' : World) : Prop :=
  ∃ a1 c1 qs a2 c2 rs, e = .returned (.tuple #[.slice a1 qs.length c1, .slice a2 rs.length c2]) ∧ qs.length ≤ c1 ∧ c1 ≤ maxLen ∧ rs.length ≤ c2 ∧ c2 ≤ maxLen ∧ Rd w' a1 qs ∧ Rd w' a2 rs ∧
    val qs = n / m ∧ val rs = n % m ∧ qs.length ≤ l ∧ rs.length ≤ l ∧ Kp w w'
theorem one_limb {n : Nat} (h : (limbs n).length = 1) : nth (limbs n) 0 = n ∧ 0 < n ∧ n < 4294967296 := by
  have h0 : n ≠ 0 := fun k => by subst k; rw [limbs_zero] at h; cases h
  have h1 : n < 4294967296 ^ 1 := limbs_length_le.1 (by omega)
  have h2 := val_limbs n
  match hl : limbs n, h with
  | [x], _ =>
    rw [hl] at h2
    refine ⟨?_, by omega, by simpa using h1⟩
    rw [nth_cons_zero]
    simpa [val] using h2
set_option maxRecDepth 100000 in
set_option maxHeartbeats 4000000 in
theorem divide1_any (a b : Option Addr) (xs ys : List Nat) (c d : Nat) (w : World) (hx : Rd w a xs) (hy : Rd w b ys) (hxl : xs.length ≤ 256) (hxc : xs.length ≤ c) (hyc : ys.length ≤ d) (hc : c ≤ maxLen) (hd : d ≤ maxLen) (h1 : (limbs (val ys)).length = 1) :
    Calls Tryd.prog 72 #[.slice a xs.length c, .slice b ys.length d] w (DivOut w (val xs) (val ys) 256) := by
  have H1 := Lib.hid (trim_any a xs c w hx hxc hc)
  have H2 := Lib.hid (trim_any b ys d w hy hyc hd)
  have g1 := hx.limbs
  have g2 := hy.limbs
  have hl1 := limbs_len_le hx.lt32
  have hl2 := limbs_len_le hy.lt32
  have Hv1 := Lib.hid (val_limbs (val xs))
  have Hv2 := Lib.hid (val_limbs (val ys))
  have Ho := Lib.hid (one_limb h1)
  have H11 := Lib.hid h1
  clear h1
  have hcu : (limbs (val xs)).length ≤ c := by omega
  have hcv : (limbs (val ys)).length ≤ d := by omega
  go_enter Tryd.func72, Tryd.ntmps72
  go_wp2_with fail
  refine H1.out.mono ?_
  rintro e w2 ⟨rfl, rfl⟩
  go_wp2_with fail
  refine H2.out.mono ?_
  rintro e w2 ⟨rfl, rfl⟩
  clear H1 H2 hx hy
  generalize val xs = m at *
  generalize val ys = n at *
  generalize limbs m = us at *
  generalize limbs n = vs at *
  have hul : us.length ≤ 256 := by omega
  clear hxl hxc hyc hl1 hl2
  go_wp2_with fail
  refine (cmp_any a b us vs c d _ g1 g2 hcu hcv hc hd).mono ?_
  rw [Hv1.out, Hv2.out]
  rintro e w3 ⟨rfl, hk3⟩
  by_cases hlt : m < n
  · have hcm : cmpN m n < 0 := by rw [cmpN_lt hlt]; decide
    have Hlt := Lib.hid hlt
    clear hlt
    go_wp2_with fail
    refine (clone_any a us c _ (g1.kp hk3) (by omega)).mono ?_
    rintro e w4 ⟨a4, c4, rfl, r4, l4, m4, hk4⟩
    go_wp2_with fail
    refine bodyPost_ret (v := .tuple #[.slice none 0 0, .slice a4 us.length c4]) (by simp [results, Tryd.results72, go_sem]) rfl ?_
    exact ⟨none, 0, [], a4, c4, us, rfl, Nat.le_refl _, by decide, l4, m4, .nil _ _, r4, by rw [Nat.div_eq_of_lt Hlt.out]; rfl, by rw [Nat.mod_eq_of_lt Hlt.out]; exact Hv1.out, Nat.zero_le _, hul, hk3.trans hk4⟩
  · have hcm : ¬ cmpN m n < 0 := by
      rcases Nat.lt_or_eq_of_le (Nat.le_of_not_lt hlt) with h | h
      · unfold cmpN; split <;> (try split) <;> omega
      · unfold cmpN; split <;> (try split) <;> omega
    clear hlt
    obtain ⟨b1, o1, rfl, hcx⟩ := (g2.kp hk3).some (i := 0) (by have := H11.out; omega)
    have hy0 := hcx 0 (by have := H11.out; omega)
    obtain ⟨e0, hn0, hn1⟩ := Ho.out
    rw [e0, Nat.add_zero] at hy0
    have hpos : (0 : Int) < (vs.length : Int) := by have := H11.out; omega
    have h1b : ((vs.length : Int) == 1) = true := by rw [H11.out]; rfl
    clear hcx e0
    go_wp2_with fail
    refine (short_any a us c n _ (g1.kp hk3) (by omega) hn0 hn1).mono ?_
    rintro e w4 ⟨g, zs, r, rfl, hzl, hzv, hr, hrd, hk4⟩
    rw [← hzl]
    have Hz := Lib.hid (show val zs = m / n ∧ r = m % n by
      rw [Hv1.out] at hzv
      have h2 := Nat.div_mod_unique hn0 (a := m) (c := r) (d := val zs)
      have h3 := h2.2 ⟨by rw [← hzv, Nat.mul_comm]; omega, hr⟩
      exact ⟨h3.1.symm, h3.2.symm⟩)
    have hzl2 : zs.length ≤ 256 := by omega
    have hrn : r < 4294967296 := by omega
    have hk5 := (hk3.trans hk4).alloc (.cells #[.int .u32 (r : Nat)] 42)
    have hrd5 := hrd.kp ((Kp.refl w4).alloc (.cells #[.int .u32 (r : Nat)] 42))
    have hr5 : Rd (w4.alloc (.cells #[.int .u32 (r : Nat)] 42)) (some ⟨w4.heap.size, 0, none⟩) [r] := ⟨.cons hrn .nil, .inr ⟨_, 0, rfl, fun i hi => by
      have : i = 0 := by simpa using hi
      subst this
      simp [nth_cons_zero]⟩⟩
    clear hzv hzl hrd
    go_wp2_with fail
    refine bodyPost_ret (v := .tuple #[.slice (some ⟨g, 0, none⟩) zs.length zs.length, .slice (some ⟨w4.heap.size, 0, none⟩) 1 1]) (by simp [results, Tryd.results72, go_sem]) rfl ?_
    exact ⟨_, _, zs, _, 1, [r], rfl, Nat.le_refl _, by unfold maxLen; omega, Nat.le_refl _, by decide, hrd5, hr5, Hz.out.1, by rw [← Hz.out.2]; simp [val], hzl2, by simp, hk5⟩
end Go.Proofs.YtndbnfeapdkoaaaDoor
end
