/-
  Walks: dyadic.sum, whole; Add, Sub.
  Walks: dyadic.Add and Sub of valid numbers.
  Walks: slices.Equal of uint32; the law's own same, num, great; round.Is.
  Plain: division limb by limb; a square root by Newton's steps; no program in sight.
  Walks: bits.Div32, natural.short.
  Walks: natural.divide by one limb, DivMod from a contract of divide.
  Walks: natural.DivMod and Sqrt, from a contract of divide.
  Walks: round.add, AddDown, where the first number is 0; interval.permitted, Mid.
  Walks: round.div of numbers that are not 0, from a contract of divide.
-/
import Derived.Test.YtdlpiblgkpgplaaGreatDoorMSumG
import Derived.Test.YtdlpiblgkpgplaaGreatDoorMDyD
import Derived.Test.YtdlpiblgkpgplaaGreatDoorMWrap
import Derived.Test.YtdlpiblgkpgplaaGreatDoorMNum
import Derived.Test.YtdlpiblgkpgplaaGreatDoorMMul
import Derived.Test.YtdlpiblgkpgplaaGreatDoorMDyA
import Derived.Test.YtdlpiblgkpgplaaGreatDoorMRoF
import Derived.Test.YtdlpiblgkpgplaaGreatDoorMCmpD
section
namespace Go.Proofs.YtdlpiblgkpgplaaGreatDoor
open Go.RowKit

theorem len_is0 {n : Nat} (h : n = 0) : (((limbs n).length : Int) == 0) = true := by subst h; rw [limbs_zero]; rfl
set_option maxHeartbeats 2000000 in
theorem sum_z2_ok (d f : Dy) (a b : Option Addr) (c k : Nat) (w : World) (hd : DyAt w d a c) (hf : DyAt w f b k) (hd0 : d.m ≠ 0) (hf0 : f.m = 0) (hT : Tab w) :
    Calls Tryz.prog 87 #[.agg #[.bool d.neg, .slice a (limbs d.m).length c, .int .i64 d.e], .agg #[.bool f.neg, .slice b (limbs f.m).length k, .int .i64 f.e]] w (DyE w (chk (sumD d f)).1 (chk (sumD d f)).2) := by
  have Hs := Lib.hid (show chk (sumD d f) = (d, 0) by rw [f.eq_zero hf.1 hf0, sumD_zero' hd.1, chk_of_ok hd.1])
  have z1 := len_ne hd0
  have z2 := len_is0 hf0
  have hed := ok_e hd.1
  have hl := ok_len hd.1
  clear hd0 hf0
  go_enter Tryz.func87, Tryz.ntmps87
  go_wp2_with fail
  generalize hW : (((w.alloc _).alloc _).alloc _) = W at *
  have hk : Kp w W := hW ▸ (((Kp.refl w).alloc _).alloc _).alloc _
  have hB : Box3 W (w.heap.size + 2) (.bool false) (.slice none 0 0) (.int .i64 0) := hW ▸ Box3.new3 _ _ _ _ _ _ _
  clear hW
  have hd1 := hd.kp hk
  have HC := canonical_any d.neg a (limbs d.m) c d.e W hd1.2.1 hd1.2.2.1 hd1.2.2.2 (by omega) (by omega) (by omega) (hT.kp hk)
  rw [val_limbs, canon_ok hd.1] at HC
  refine HC.mono ?_
  rintro e w8 ⟨a8, c8, rfl, h2, h3', h4', k8⟩
  obtain ⟨q0, q1, q2, f0, f1, f2⟩ := hB.kp k8
  have hkk := hk.trans k8
  clear HC hd1 hd hf hT hB
  go_wp2_with fail
  have hst := stored q0 q1 q2 (fun _ h => by cases h) (fun _ h => by cases h) (fun _ h => by cases h) (.bool d.neg) (.slice a8 (limbs d.m).length c8) (.int .i64 d.e)
  generalize (((w8.setCell _ _).setCell _ _).setCell _ _) = W2 at hst ⊢
  obtain ⟨s0, s1, s2, _, s4, s5, _, _⟩ := hst
  refine bodyPost_ret (v := .tuple #[.agg #[.bool d.neg, .slice a8 (limbs d.m).length c8, .int .i64 d.e], .int .i64 0]) (by simp [results, Tryz.results87, go_sem, s0, s1, s2]) rfl ?_
  rw [Hs.out]
  exact ⟨a8, c8, rfl, s4 _ _ h2, h3', h4', s5 _ hkk (by omega)⟩
set_option maxHeartbeats 2000000 in
theorem sum_z1_ok (d f : Dy) (a b : Option Addr) (c k : Nat) (w : World) (hd : DyAt w d a c) (hf : DyAt w f b k) (hd0 : d.m = 0) (hT : Tab w) :
    Calls Tryz.prog 87 #[.agg #[.bool d.neg, .slice a (limbs d.m).length c, .int .i64 d.e], .agg #[.bool f.neg, .slice b (limbs f.m).length k, .int .i64 f.e]] w (DyE w (chk (sumD d f)).1 (chk (sumD d f)).2) := by
  have Hs := Lib.hid (show chk (sumD d f) = (f, 0) by rw [d.eq_zero hd.1 hd0, sumD_zero hf.1, chk_of_ok hf.1])
  have z1 := len_is0 hd0
  have hed := ok_e hf.1
  have hl := ok_len hf.1
  clear hd0
  go_enter Tryz.func87, Tryz.ntmps87
  go_wp2_with fail
  generalize hW : (((w.alloc _).alloc _).alloc _) = W at *
  have hk : Kp w W := hW ▸ (((Kp.refl w).alloc _).alloc _).alloc _
  have hB : Box3 W (w.heap.size + 2) (.bool false) (.slice none 0 0) (.int .i64 0) := hW ▸ Box3.new3 _ _ _ _ _ _ _
  clear hW
  have hd1 := hf.kp hk
  have HC := canonical_any f.neg b (limbs f.m) k f.e W hd1.2.1 hd1.2.2.1 hd1.2.2.2 (by omega) (by omega) (by omega) (hT.kp hk)
  rw [val_limbs, canon_ok hf.1] at HC
  refine HC.mono ?_
  rintro e w8 ⟨a8, c8, rfl, h2, h3', h4', k8⟩
  obtain ⟨q0, q1, q2, f0, f1, f2⟩ := hB.kp k8
  have hkk := hk.trans k8
  clear HC hd1 hd hf hT hB
  go_wp2_with fail
  have hst := stored q0 q1 q2 (fun _ h => by cases h) (fun _ h => by cases h) (fun _ h => by cases h) (.bool f.neg) (.slice a8 (limbs f.m).length c8) (.int .i64 f.e)
  generalize (((w8.setCell _ _).setCell _ _).setCell _ _) = W2 at hst ⊢
  obtain ⟨s0, s1, s2, _, s4, s5, _, _⟩ := hst
  refine bodyPost_ret (v := .tuple #[.agg #[.bool f.neg, .slice a8 (limbs f.m).length c8, .int .i64 f.e], .int .i64 0]) (by simp [results, Tryz.results87, go_sem, s0, s1, s2]) rfl ?_
  rw [Hs.out]
  exact ⟨a8, c8, rfl, s4 _ _ h2, h3', h4', s5 _ hkk (by omega)⟩
theorem sum_ok (d f : Dy) (a b : Option Addr) (c k : Nat) (w : World) (hd : DyAt w d a c) (hf : DyAt w f b k) (hT : Tab w) :
    Calls Tryz.prog 87 #[.agg #[.bool d.neg, .slice a (limbs d.m).length c, .int .i64 d.e], .agg #[.bool f.neg, .slice b (limbs f.m).length k, .int .i64 f.e]] w (DyE w (chk (sumD d f)).1 (chk (sumD d f)).2) := by
  by_cases hd0 : d.m = 0
  · exact sum_z1_ok d f a b c k w hd hf hd0 hT
  · by_cases hf0 : f.m = 0
    · exact sum_z2_ok d f a b c k w hd hf hd0 hf0 hT
    · by_cases hb : farB d f
      · exact sum_farB d f a b c k w hd hf hd0 hf0 hb
      · by_cases hs : d.neg = f.neg
        · exact sum_same_ok d f a b c k w hd hf hd0 hf0 hb hT hs
        · rcases Nat.lt_or_ge (d.m * 2 ^ (d.e - min d.e f.e).toNat) (f.m * 2 ^ (f.e - min d.e f.e).toNat) with h | h
          · exact sum_lt_ok d f a b c k w hd hf hd0 hf0 hb hT hs h
          · exact sum_ge_ok d f a b c k w hd hf hd0 hf0 hb hT hs h
theorem sumD_chk_ok (d f : Dy) : (chk (sumD d f)).1.ok := chk_canon_ok _ _ _
theorem rdok_at {w : World} {x : RD} (h : x.ok w) : DyAt w x.dy x.a x.c := ⟨rdok_dy h, by rw [rdok_limbs h]; exact h.1.1, by rw [rdok_limbs h]; exact h.1.2.1, h.1.2.2.1⟩
theorem sum_rd (x y : RD) (w : World) (hx : x.ok w) (hy : y.ok w) (hT : Tab w) :
    Calls Tryz.prog 87 #[.agg #[.bool x.neg, .slice x.a x.xs.length x.c, .int .i64 x.e], .agg #[.bool y.neg, .slice y.a y.xs.length y.c, .int .i64 y.e]] w (NumE w (chk (sumD x.dy y.dy)).1 (chk (sumD x.dy y.dy)).2) := by
  have H := sum_ok x.dy y.dy x.a y.a x.c y.c w (rdok_at hx) (rdok_at hy) hT
  rw [rdok_limbs hx, rdok_limbs hy] at H
  have hok := sumD_chk_ok x.dy y.dy
  have hl := ok_len hok
  exact H.mono fun e w' h => h.num (by omega) (ok_I64 hok)
end Go.Proofs.YtdlpiblgkpgplaaGreatDoor
end

section
namespace Go.Proofs.YtdlpiblgkpgplaaGreatDoor
open Go.RowKit

theorem keepRR {w w' : World} (k : Kp w w') {g h : Nat} {x y : RD} (hS : w.cell? ⟨g, 0, none⟩ = some (.bool x.neg) ∧ w.cell? ⟨g, 1, none⟩ = some (.slice x.a x.xs.length x.c) ∧ w.cell? ⟨g, 2, none⟩ = some (.int .i64 x.e) ∧ w.cell? ⟨h, 0, none⟩ = some (.bool y.neg) ∧ w.cell? ⟨h, 1, none⟩ = some (.slice y.a y.xs.length y.c) ∧ w.cell? ⟨h, 2, none⟩ = some (.int .i64 y.e)) : w'.cell? ⟨g, 0, none⟩ = some (.bool x.neg) ∧ w'.cell? ⟨g, 1, none⟩ = some (.slice x.a x.xs.length x.c) ∧ w'.cell? ⟨g, 2, none⟩ = some (.int .i64 x.e) ∧ w'.cell? ⟨h, 0, none⟩ = some (.bool y.neg) ∧ w'.cell? ⟨h, 1, none⟩ = some (.slice y.a y.xs.length y.c) ∧ w'.cell? ⟨h, 2, none⟩ = some (.int .i64 y.e) := keep6 k hS
set_option maxHeartbeats 2000000 in
theorem Add_rd (x y : RD) (w : World) (hx : x.ok w) (hy : y.ok w) (hT : Tab w) :
    Calls Tryz.prog 42 #[.agg #[.bool x.neg, .slice x.a x.xs.length x.c, .int .i64 x.e], .agg #[.bool y.neg, .slice y.a y.xs.length y.c, .int .i64 y.e]] w (NumE w (chk (sumD x.dy y.dy)).1 (chk (sumD x.dy y.dy)).2) := by
  have hvx := hx.2
  have hvy := hy.2
  have hok := sumD_chk_ok x.dy y.dy
  go_enter Tryz.func42, Tryz.ntmps42
  go_wp2_with fail
  generalize hW : (((w.alloc _).alloc _).alloc _) = W at *
  have hk : Kp w W := hW ▸ (((Kp.refl w).alloc _).alloc _).alloc _
  have hS : W.cell? ⟨w.heap.size, 0, none⟩ = some (.bool x.neg) ∧ W.cell? ⟨w.heap.size, 1, none⟩ = some (.slice x.a x.xs.length x.c) ∧ W.cell? ⟨w.heap.size, 2, none⟩ = some (.int .i64 x.e) ∧ W.cell? ⟨w.heap.size + 1, 0, none⟩ = some (.bool y.neg) ∧ W.cell? ⟨w.heap.size + 1, 1, none⟩ = some (.slice y.a y.xs.length y.c) ∧ W.cell? ⟨w.heap.size + 1, 2, none⟩ = some (.int .i64 y.e) := by rw [← hW]; exact keep6 ((Kp.refl _).alloc _) (by simp)
  have hB : Box3 W (w.heap.size + 2) (.bool false) (.slice none 0 0) (.int .i64 0) := hW ▸ Box3.new3 _ _ _ _ _ _ _
  clear hW
  refine (Valid_rok x _ (hx.kp hk)).mono ?_
  rintro e w1 ⟨rfl, hk1⟩
  have hS1 := keepRR hk1 hS
  have hB1 := hB.kp hk1
  have hk2 := hk.trans hk1
  clear hS hk hk1 hB
  go_wp2_with fail
  refine (Valid_rok y _ (hy.kp hk2)).mono ?_
  rintro e w2 ⟨rfl, hk3⟩
  have hS2 := keepRR hk3 hS1
  have hB2 := hB1.kp hk3
  have hk4 := hk2.trans hk3
  clear hS1 hk2 hk3 hB1
  go_wp2_with fail
  refine (sum_rd x y _ (hx.kp hk4) (hy.kp hk4) (hT.kp hk4)).mono ?_
  generalize (chk (sumD x.dy y.dy)).1 = F at *
  generalize (chk (sumD x.dy y.dy)).2 = ff at *
  rintro e w3 ⟨z, rfl, rz, hz, vz, hk5⟩
  obtain ⟨q0, q1, q2, f0, f1, f2⟩ := hB2.kp hk5
  have hkk := hk4.trans hk5
  clear hS2 hB2 hk4 hk5
  go_wp2_with fail
  have hst := stored q0 q1 q2 (fun _ h => by cases h) (fun _ h => by cases h) (fun _ h => by cases h) (.bool z.neg) (.slice z.a z.xs.length z.c) (.int .i64 z.e)
  generalize (((w3.setCell _ _).setCell _ _).setCell _ _) = W2 at hst ⊢
  obtain ⟨s0, s1, s2, _, s4, s5, _, _⟩ := hst
  refine bodyPost_ret (v := .tuple #[.agg #[.bool z.neg, .slice z.a z.xs.length z.c, .int .i64 z.e], .int .i64 ff]) (by simp [results, Tryz.results42, go_sem, s0, s1, s2]) rfl ?_
  exact ⟨z, rfl, ⟨s4 _ _ rz.1, rz.2⟩, hz, vz, s5 _ hkk (by omega)⟩
end Go.Proofs.YtdlpiblgkpgplaaGreatDoor
end

section
namespace Go.Proofs.YtdlpiblgkpgplaaGreatDoor
open Go.RowKit

set_option maxHeartbeats 1000000 in
theorem eqU_any (a b : Option Addr) (xs ys : List Nat) (c d : Nat) (w : World) (h1 : Rd w a xs) (h2 : Rd w b ys) (hxl : xs.length ≤ 1100000) :
    Calls Tryz.prog 62 #[.slice a xs.length c, .slice b ys.length d] w fun e w' => e = .returned (.bool (decide (xs = ys))) ∧ Kp w w' := by
  by_cases hlen : xs.length = ys.length
  · have hne : ((xs.length : Int) != ys.length) = false := by simp; omega
    have Hlen := Lib.hid hlen
    have hle1 : xs.length ≤ ys.length := by omega
    clear hlen
    go_enter Tryz.func62, Tryz.ntmps62
    go_wp2_with fail
    go_loopw [13] (fun ix wr => ∃ k : Nat, k ≤ xs.length ∧ ix = .int .i64 k ∧ xs.take k = ys.take k ∧ Kp w wr) (fun ix _ => xs.length - (intOf ix).toNat)
    case atStart => exact ⟨0, Nat.zero_le _, rfl, rfl, .refl _⟩
    case round =>
      obtain ⟨k, hk, rfl, ht, hkp⟩ := hrel
      have Ht := Lib.hid ht
      clear ht
      by_cases hlt : k < xs.length
      · have hlt2 : k < ys.length := by omega
        obtain ⟨b1, o1, rfl, hcx⟩ := (h1.kp hkp).some hlt
        have hx1 := hcx k hlt
        obtain ⟨b2, o2, rfl, hcy⟩ := (h2.kp hkp).some hlt2
        have hy1 := hcy k hlt2
        have Hn := Lib.hid (And.intro (take_succ_nth hlt) (take_succ_nth hlt2))
        have He := Lib.hid (show xs = ys → nth xs k = nth ys k from fun h => by rw [h])
        clear hcx hcy
        have hi0 : (0 : Int) ≤ (k : Int) := by omega
        have hi1 : (k : Int) < (xs.length : Int) := by omega
        have hi2 : (k : Int) < (ys.length : Int) := by omega
        by_cases hq : nth xs k = nth ys k
        · have hq1 : ((nth xs k : Int) != (nth ys k : Int)) = false := by simp; omega
          have Hq := Lib.hid hq
          clear hq
          go_wp2_with fail
          go_quiet (fail)
          go_wp2_with fail
          go_roundw
          case rel => exact ⟨k + 1, by omega, by go_num, by rw [Hn.out.1, Hn.out.2, Ht.out, Hq.out], hkp.drewN _⟩
          all_goals (simp [intOf]; try omega)
        · have hq1 : ((nth xs k : Int) != (nth ys k : Int)) = true := by simp; omega
          have Hq := Lib.hid hq
          clear hq
          go_wp2_with fail
          go_quiet (fail)
          go_wp2_with fail
          go_ret
          exact ⟨ret_bool (decide_eq_false fun h => Hq.out (He.out h)).symm, hkp.drewN _⟩
      · have hke : k = xs.length := by omega
        have H := Lib.hid (show xs = ys by
          have := Ht.out
          rw [hke, List.take_of_length_le (Nat.le_refl _), List.take_of_length_le (by have := Hlen.out; omega)] at this
          exact this)
        clear hke
        go_wp2_with fail
        go_ret
        exact ⟨ret_bool (decide_eq_true H.out).symm, hkp⟩
  · have hne : ((xs.length : Int) != ys.length) = true := by simp; omega
    have H := Lib.hid (show ¬ xs = ys from fun h => hlen (by rw [h]))
    clear hlen
    go_enter Tryz.func62, Tryz.ntmps62
    go_wp2_with fail
    go_ret
    exact ⟨ret_bool (decide_eq_false H.out).symm, .refl _⟩

/-- equal fields -/
def sameR (x y : RD) : Bool := (x.neg == y.neg) && (decide (x.e = y.e) && decide (x.xs = y.xs))
theorem sameR_dy {w w' : World} {x y : RD} (hx : x.ok w) (hy : y.ok w') (h : x.dy = y.dy) : sameR x y = true := by
  have h1 := rdok_limbs hx
  have h2 := rdok_limbs hy
  have e1 : x.neg = y.neg := congrArg Dy.neg h
  have e2 : x.e = y.e := congrArg Dy.e h
  have e3 : x.xs = y.xs := by rw [← h1, ← h2, h]
  unfold sameR
  rw [e1, e2, e3]; simp
end Go.Proofs.YtdlpiblgkpgplaaGreatDoor
end

section
namespace Go.Proofs.YtdlpiblgkpgplaaGreatDoor

end Go.Proofs.YtdlpiblgkpgplaaGreatDoor
end

section
namespace Go.Proofs.YtdlpiblgkpgplaaGreatDoor
open Go.RowKit

end Go.Proofs.YtdlpiblgkpgplaaGreatDoor
end

section
namespace Go.Proofs.YtdlpiblgkpgplaaGreatDoor
open Go.RowKit

end Go.Proofs.YtdlpiblgkpgplaaGreatDoor
end

section
namespace Go.Proofs.YtdlpiblgkpgplaaGreatDoor
open Go.RowKit

end Go.Proofs.YtdlpiblgkpgplaaGreatDoor
end

section
namespace Go.Proofs.YtdlpiblgkpgplaaGreatDoor
open Go.RowKit

theorem fltB_ok {p : Nat} {ys : List RD} (h : ys.all RD.vl = true) (h0 : 8 ≤ p) (h1 : p ≤ 512) : fltB p ys = 0 := fltB_zero.2 ⟨h, by omega, by omega⟩
theorem permitted_any (p : Int) (w : World) :
    Calls Tryz.prog 94 #[.int .i64 p] w fun e w' => e = .returned (.bool (preB p)) ∧ w = w' := by
  by_cases h1 : 8 ≤ p
  · by_cases h2 : p ≤ 512
    · have H := Lib.hid (show preB p = true from decide_eq_true ⟨h1, h2⟩)
      go_enter Tryz.func94, Tryz.ntmps94
      go_wp2_with fail
      go_ret
      exact ⟨ret_bool (by first | exact H.out.symm | (rw [H.out]; simp; omega)), rfl⟩
    · have H := Lib.hid (show preB p = false from decide_eq_false (by omega))
      go_enter Tryz.func94, Tryz.ntmps94
      go_wp2_with fail
      go_ret
      exact ⟨ret_bool (by first | exact H.out.symm | (rw [H.out]; simp; omega)), rfl⟩
  · have H := Lib.hid (show preB p = false from decide_eq_false (by omega))
    go_enter Tryz.func94, Tryz.ntmps94
    go_wp2_with fail
    go_ret
    exact ⟨ret_bool (by first | exact H.out.symm | (rw [H.out]; simp; omega)), rfl⟩
theorem rowI_one (w : World) (x : RI) (hx : x.rd w) (hax : x.all = false) (t : TypeId) : RowI (w.alloc (.cells #[.bool x.lo.neg, .slice x.lo.a x.lo.xs.length x.lo.c, .int .i64 x.lo.e, .bool x.hi.neg, .slice x.hi.a x.hi.xs.length x.hi.c, .int .i64 x.hi.e, .bool false] t)) (some ⟨w.heap.size, 0, none⟩) [x] := by
  intro i z hi
  have hk := (Kp.refl w).alloc (.cells #[.bool x.lo.neg, .slice x.lo.a x.lo.xs.length x.lo.c, .int .i64 x.lo.e, .bool x.hi.neg, .slice x.hi.a x.hi.xs.length x.hi.c, .int .i64 x.hi.e, .bool false] t)
  match i with
  | 0 =>
    simp only [List.getElem?_cons_zero, Option.some.injEq] at hi
    subst hi
    refine ⟨_, 0, rfl, hx.kp hk, ?_, ?_, ?_, ?_, ?_, ?_, ?_⟩ <;> simp [hax]
  | i + 1 => simp at hi
end Go.Proofs.YtdlpiblgkpgplaaGreatDoor
end

section
namespace Go.Proofs.YtdlpiblgkpgplaaGreatDoor
open Go.RowKit

theorem limbs_of_bits {n k : Nat} (h : bits n ≤ 32 * k) : (limbs n).length ≤ k := limbs_length_le.2 (by rw [pow32]; exact bits_le.1 h)
theorem dok_bits {d : Dy} (h : d.ok) : bits d.m ≤ 4096 := by
  rcases h with ⟨h1, _⟩ | ⟨_, h1, _⟩
  · rw [h1, bits_zero]; omega
  · exact h1
end Go.Proofs.YtdlpiblgkpgplaaGreatDoor
end
