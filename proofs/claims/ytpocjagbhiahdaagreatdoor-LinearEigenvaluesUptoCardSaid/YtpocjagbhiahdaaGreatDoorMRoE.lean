/-
  Walks: round.signed, round.
-/
import Derived.Test.YtpocjagbhiahdaaGreatDoorMRoD
namespace Go.Proofs.YtpocjagbhiahdaaGreatDoor
open Go.RowKit

def sgnR (neg : Bool) (R : Option Dy) : Option Dy := if neg then R.map Dy.opp else R
set_option maxRecDepth 100000 in
set_option maxHeartbeats 8000000 in
theorem signed_pos (a : Option Addr) (xs : List Nat) (c : Nat) (ex : Int) (more : Bool) (p : Nat) (up : Bool) (w : World) (hx : Rd w a xs) (hxl : xs.length ≤ 256) (hxc : xs.length ≤ c) (hc : c ≤ maxLen) (he0 : -200000 ≤ ex) (he1 : ex ≤ 200000) (hp0 : 8 ≤ p) (hp1 : p ≤ 512) (hT : Tab w) :
    Calls Tryz.prog 163 #[.bool false, .agg #[.slice a xs.length c, .int .i64 ex, .bool more], .int .i64 p, .bool up] w (NumE w (rndE (sgnR false (rcut (val xs) ex more p up))).1 (rndE (sgnR false (rcut (val xs) ex more p up))).2) := by
  cases hR : rcut (val xs) ex more p up with
  | some D =>
    have HR := Lib.hid hR
    clear hR
    cases up
    all_goals
      go_enter Tryz.func163, Tryz.ntmps163
      go_wp2_with fail
      generalize hW : ((w.alloc _).alloc _) = W at *
      have hk : Kp w W := hW ▸ ((Kp.refl w).alloc _).alloc _
      have hB : Box3 W (w.heap.size + 1) (.bool false) (.slice none 0 0) (.int .i64 0) := hW ▸ Box3.new2 _ _ _ _ _ _
      clear hW
      refine (cut_any a xs c ex more p _ _ (hx.kp hk) hxl hxc hc he0 he1 hp0 hp1 (hT.kp hk)).mono ?_
      have hRe := HR.out
      (try simp only [Bool.not_true, Bool.not_false] at hRe)
      simp only [hRe]
      clear hRe
      rintro e w3 ⟨y, rfl, hy, hd, hv, hk2⟩
      have hk3 := hk2.alloc (.cells #[.bool y.neg, .slice y.a y.xs.length y.c, .int .i64 y.e] 42)
      have hyr := hy.kp ((Kp.refl w3).alloc (.cells #[.bool y.neg, .slice y.a y.xs.length y.c, .int .i64 y.e] 42))
      dsimp only [rndE, sgnR, if_true, if_false, Option.map] at hd hv ⊢
      have hB3 := hB.kp hk3
      have hk4 := hk.trans hk3
      obtain ⟨q0, q1, q2, f0, f1, f2⟩ := hB3
      go_wp2_with fail
      have hst := stored q0 q1 q2 (fun _ h => by cases h) (fun _ h => by cases h) (fun _ h => by cases h) (.bool y.neg) (.slice y.a y.xs.length y.c) (.int .i64 y.e)
      generalize (((World.setCell _ _ _).setCell _ _).setCell _ _) = W9 at hst ⊢
      obtain ⟨s0, s1, s2, _, s4, s5, _, _⟩ := hst
      refine bodyPost_ret (v := .tuple #[.agg #[.bool y.neg, .slice y.a y.xs.length y.c, .int .i64 y.e], .int .i64 0]) (by simp [results, Tryz.results163, go_sem, s0, s1, s2]) rfl ?_
      exact ⟨y, rfl, ⟨s4 _ _ hyr.1, hy.2⟩, hd, hv, s5 _ hk4 (by omega)⟩
  | none =>
  have HR := Lib.hid hR
  clear hR
  cases up
  all_goals
    go_enter Tryz.func163, Tryz.ntmps163
    go_wp2_with fail
    generalize hW : ((w.alloc _).alloc _) = W at *
    have hk : Kp w W := hW ▸ ((Kp.refl w).alloc _).alloc _
    have hB : Box3 W (w.heap.size + 1) (.bool false) (.slice none 0 0) (.int .i64 0) := hW ▸ Box3.new2 _ _ _ _ _ _
    clear hW
    refine (cut_any a xs c ex more p _ _ (hx.kp hk) hxl hxc hc he0 he1 hp0 hp1 (hT.kp hk)).mono ?_
    have hRe := HR.out
    (try simp only [Bool.not_true, Bool.not_false] at hRe)
    simp only [hRe]
    clear hRe
    rintro e w3 ⟨y, rfl, hy, hd, hv, hk2⟩
    have hk3 := hk2.alloc (.cells #[.bool y.neg, .slice y.a y.xs.length y.c, .int .i64 y.e] 42)
    have hyr := hy.kp ((Kp.refl w3).alloc (.cells #[.bool y.neg, .slice y.a y.xs.length y.c, .int .i64 y.e] 42))
    dsimp only [rndE, sgnR, if_true, if_false, Option.map] at hd hv ⊢
    have hB3 := hB.kp hk3
    have hk4 := hk.trans hk3
    obtain ⟨q0, q1, q2, f0, f1, f2⟩ := hB3
    go_wp2_with fail
    have hst := stored q0 q1 q2 (fun _ h => by cases h) (fun _ h => by cases h) (fun _ h => by cases h) (.bool y.neg) (.slice y.a y.xs.length y.c) (.int .i64 y.e)
    generalize (((World.setCell _ _ _).setCell _ _).setCell _ _) = W9 at hst ⊢
    obtain ⟨s0, s1, s2, _, s4, s5, _, _⟩ := hst
    refine bodyPost_ret (v := .tuple #[.agg #[.bool y.neg, .slice y.a y.xs.length y.c, .int .i64 y.e], .int .i64 9]) (by simp [results, Tryz.results163, go_sem, s0, s1, s2]) rfl ?_
    exact ⟨y, rfl, ⟨s4 _ _ hyr.1, hy.2⟩, hd, hv, s5 _ hk4 (by omega)⟩
set_option maxRecDepth 100000 in
set_option maxHeartbeats 8000000 in
theorem signed_neg (a : Option Addr) (xs : List Nat) (c : Nat) (ex : Int) (more : Bool) (p : Nat) (up : Bool) (w : World) (hx : Rd w a xs) (hxl : xs.length ≤ 256) (hxc : xs.length ≤ c) (hc : c ≤ maxLen) (he0 : -200000 ≤ ex) (he1 : ex ≤ 200000) (hp0 : 8 ≤ p) (hp1 : p ≤ 512) (hT : Tab w) :
    Calls Tryz.prog 163 #[.bool true, .agg #[.slice a xs.length c, .int .i64 ex, .bool more], .int .i64 p, .bool up] w (NumE w (rndE (sgnR true (rcut (val xs) ex more p (!up)))).1 (rndE (sgnR true (rcut (val xs) ex more p (!up)))).2) := by
  cases hR : rcut (val xs) ex more p (!up) with
  | none =>
    have HR := Lib.hid hR
    clear hR
    cases up
    all_goals
      go_enter Tryz.func163, Tryz.ntmps163
      go_wp2_with fail
      generalize hW : ((w.alloc _).alloc _) = W at *
      have hk : Kp w W := hW ▸ ((Kp.refl w).alloc _).alloc _
      have hB : Box3 W (w.heap.size + 1) (.bool false) (.slice none 0 0) (.int .i64 0) := hW ▸ Box3.new2 _ _ _ _ _ _
      clear hW
      refine (cut_any a xs c ex more p _ _ (hx.kp hk) hxl hxc hc he0 he1 hp0 hp1 (hT.kp hk)).mono ?_
      have hRe := HR.out
      (try simp only [Bool.not_true, Bool.not_false] at hRe)
      simp only [hRe]
      clear hRe
      rintro e w3 ⟨y, rfl, hy, hd, hv, hk2⟩
      have hk3 := hk2.alloc (.cells #[.bool y.neg, .slice y.a y.xs.length y.c, .int .i64 y.e] 42)
      have hyr := hy.kp ((Kp.refl w3).alloc (.cells #[.bool y.neg, .slice y.a y.xs.length y.c, .int .i64 y.e] 42))
      dsimp only [rndE, sgnR, if_true, if_false, Option.map] at hd hv ⊢
      have hB3 := hB.kp hk3
      have hk4 := hk.trans hk3
      obtain ⟨q0, q1, q2, f0, f1, f2⟩ := hB3
      go_wp2_with fail
      have hst := stored q0 q1 q2 (fun _ h => by cases h) (fun _ h => by cases h) (fun _ h => by cases h) (.bool y.neg) (.slice y.a y.xs.length y.c) (.int .i64 y.e)
      generalize (((World.setCell _ _ _).setCell _ _).setCell _ _) = W9 at hst ⊢
      obtain ⟨s0, s1, s2, _, s4, s5, _, _⟩ := hst
      refine bodyPost_ret (v := .tuple #[.agg #[.bool y.neg, .slice y.a y.xs.length y.c, .int .i64 y.e], .int .i64 9]) (by simp [results, Tryz.results163, go_sem, s0, s1, s2]) rfl ?_
      exact ⟨y, rfl, ⟨s4 _ _ hyr.1, hy.2⟩, hd, hv, s5 _ hk4 (by omega)⟩
  | some D =>
  have HR := Lib.hid hR
  have hDok := Lib.hid (rcut_isP (by omega) (by omega) hR).1.1
  clear hR
  cases up
  all_goals
    go_enter Tryz.func163, Tryz.ntmps163
    go_wp2_with fail
    generalize hW : ((w.alloc _).alloc _) = W at *
    have hk : Kp w W := hW ▸ ((Kp.refl w).alloc _).alloc _
    have hB : Box3 W (w.heap.size + 1) (.bool false) (.slice none 0 0) (.int .i64 0) := hW ▸ Box3.new2 _ _ _ _ _ _
    clear hW
    refine (cut_any a xs c ex more p _ _ (hx.kp hk) hxl hxc hc he0 he1 hp0 hp1 (hT.kp hk)).mono ?_
    have hRe := HR.out
    (try simp only [Bool.not_true, Bool.not_false] at hRe)
    simp only [hRe]
    clear hRe
    rintro e w3 ⟨y, rfl, hy, hd, hv, hk2⟩
    have hk3 := hk2.alloc (.cells #[.bool y.neg, .slice y.a y.xs.length y.c, .int .i64 y.e] 42)
    have hyr := hy.kp ((Kp.refl w3).alloc (.cells #[.bool y.neg, .slice y.a y.xs.length y.c, .int .i64 y.e] 42))
    dsimp only [rndE, sgnR, if_true, if_false, Option.map] at hd hv ⊢
    have hyo : y.ok (w3.alloc (.cells #[.bool y.neg, .slice y.a y.xs.length y.c, .int .i64 y.e] 42)) := ⟨hyr, hv hDok.out⟩
    have hY := (Box3.new w3 (.bool y.neg) (.slice y.a y.xs.length y.c) (.int .i64 y.e) 42)
    have hB3 := hB.kp hk3
    have hk4 := hk.trans hk3
    have hz := hk2.size
    have hz2 := World.block_lt_of_cell? _ _ hB.1
    clear hk2 hB hy hk
    go_wp2_with fail
    generalize w3.alloc _ = W3 at *
    refine (Neg_ok y _ hyo).mono ?_
    rw [hd]
    rintro e w5 ⟨z, rfl, hzr, hzd, hzv, hk6⟩
    obtain ⟨j0, j1, j2, g0, g1, g2⟩ := hY.kp hk6
    have hk7 := hk4.trans hk6
    have hB5 := hB3.kp hk6
    have hb5 := World.block_lt_of_cell? _ _ hB3.1
    clear hY hB3 hk6 hk4 hk3 hyo hyr
    obtain ⟨q0, q1, q2, f0, f1, f2⟩ := hB5
    have hne : w.heap.size + 1 < w3.heap.size := by omega
    have hne2 : ¬ w3.heap.size = w.heap.size + 1 := by omega
    go_wp2_with fail
    have hst := stored j0 j1 j2 (fun _ h => by cases h) (fun _ h => by cases h) (fun _ h => by cases h) (.bool z.neg) (.slice z.a z.xs.length z.c) (.int .i64 z.e)
    generalize (((w5.setCell _ _).setCell _ _).setCell _ _) = W6 at hst ⊢
    obtain ⟨s0, s1, s2, _, s4, s5, s6, _⟩ := hst
    have hzr6 : z.rd W6 := ⟨s4 _ _ hzr.1, hzr.2⟩
    have hk8 := s5 _ hk7 (by omega)
    have e6 (i : Nat) : W6.cell? ⟨w.heap.size + 1, i, none⟩ = w5.cell? ⟨w.heap.size + 1, i, none⟩ := s6 ⟨w.heap.size + 1, i, none⟩ (fun e => hne2 e.symm)
    rw [← e6] at q0 q1 q2
    have hst := stored q0 q1 q2 (fun _ h => by cases h) (fun _ h => by cases h) (fun _ h => by cases h) (.bool z.neg) (.slice z.a z.xs.length z.c) (.int .i64 z.e)
    clear s0 s1 s2 s4 s5 s6 e6
    generalize (((W6.setCell _ _).setCell _ _).setCell _ _) = W9 at hst ⊢
    obtain ⟨s0, s1, s2, _, s4, s5, _, _⟩ := hst
    refine bodyPost_ret (v := .tuple #[.agg #[.bool z.neg, .slice z.a z.xs.length z.c, .int .i64 z.e], .int .i64 0]) (by simp [results, Tryz.results163, go_sem, s0, s1, s2]) rfl ?_
    exact ⟨z, rfl, ⟨s4 _ _ hzr6.1, hzr6.2⟩, hzd, hzv, s5 _ hk8 (by omega)⟩
end Go.Proofs.YtpocjagbhiahdaaGreatDoor
