/-
  Walks: round.round, Down, Up.
-/
import Derived.Test.YtpocjagbhiahdaaGreatDoorMRoE
import Derived.Test.YtpocjagbhiahdaaGreatDoorMIvA
import Derived.Test.YtpocjagbhiahdaaGreatDoorMDyB
import Derived.Test.YtpocjagbhiahdaaGreatDoorMIdxI
import Derived.Test.YtpocjagbhiahdaaGreatDoorMDy
namespace Go.Proofs.YtpocjagbhiahdaaGreatDoor
open Go.RowKit
def rndS (neg : Bool) (m : Nat) (e : Int) (more : Bool) (p : Nat) (up : Bool) : Option Dy := sgnR neg (rcut m e more p (up != neg))
theorem signed_any (neg : Bool) (a : Option Addr) (xs : List Nat) (c : Nat) (ex : Int) (more : Bool) (p : Nat) (up : Bool) (w : World) (hx : Rd w a xs) (hxl : xs.length ≤ 256) (hxc : xs.length ≤ c) (hc : c ≤ maxLen) (he0 : -200000 ≤ ex) (he1 : ex ≤ 200000) (hp0 : 8 ≤ p) (hp1 : p ≤ 512) (hT : Tab w) :
    Calls Tryz.prog 163 #[.bool neg, .agg #[.slice a xs.length c, .int .i64 ex, .bool more], .int .i64 p, .bool up] w (NumE w (rndE (rndS neg (val xs) ex more p up)).1 (rndE (rndS neg (val xs) ex more p up)).2) := by
  cases neg with
  | true => have := signed_neg a xs c ex more p up w hx hxl hxc hc he0 he1 hp0 hp1 hT; unfold rndS; rwa [Bool.bne_true]
  | false => have := signed_pos a xs c ex more p up w hx hxl hxc hc he0 he1 hp0 hp1 hT; unfold rndS; rwa [Bool.bne_false]
theorem rndS_ok {neg : Bool} {m : Nat} {e : Int} {more : Bool} {p : Nat} {up : Bool} (hp : 8 ≤ p) (hp2 : p ≤ 512) : (rndE (rndS neg m e more p up)).1.ok := by
  unfold rndS sgnR
  cases h : rcut m e more p (up != neg) with
  | none => cases neg <;> exact Dy.ok_zero
  | some d =>
  have := (rcut_isP (by omega) (by omega) h).1.1
  cases neg
  · exact this
  exact Dy.opp_ok this
theorem rowD_one (w : World) (x : RD) (hx : x.rd w) (t : TypeId) : RowD (w.alloc (.cells #[.bool x.neg, .slice x.a x.xs.length x.c, .int .i64 x.e] t)) (some ⟨w.heap.size, 0, none⟩) [x] := by
  intro i z hi
  match i with
  | 0 =>
    simp only [List.getElem?_cons_zero, Option.some.injEq] at hi
    subst hi
    refine ⟨_, 0, rfl, hx.kp ((Kp.refl w).alloc _), ?_, ?_, ?_⟩ <;> simp
  | i + 1 => simp at hi
theorem rowD_two (w : World) (x y : RD) (hx : x.rd w) (hy : y.rd w) (t : TypeId) : RowD (w.alloc (.cells #[.bool x.neg, .slice x.a x.xs.length x.c, .int .i64 x.e, .bool y.neg, .slice y.a y.xs.length y.c, .int .i64 y.e] t)) (some ⟨w.heap.size, 0, none⟩) [x, y] := by
  intro i z hi
  match i with
  | 0 =>
    simp only [List.getElem?_cons_zero, Option.some.injEq] at hi
    subst hi
    refine ⟨_, 0, rfl, hx.kp ((Kp.refl w).alloc _), ?_, ?_, ?_⟩ <;> simp
  | 1 =>
    simp only [List.getElem?_cons_succ, List.getElem?_cons_zero, Option.some.injEq] at hi
    subst hi
    refine ⟨_, 0, rfl, hy.kp ((Kp.refl w).alloc _), ?_, ?_, ?_⟩ <;> simp
  | i + 2 => simp at hi
def rndB (x : RD) (p : Int) (up : Bool) : Dy × Int := if fltB p [x] = 0 then rndE (rndS x.neg (val x.xs) x.e false p.toNat up) else (.zero, fltB p [x])
theorem fltB_zero {p : Int} {ys : List RD} : fltB p ys = 0 ↔ ys.all RD.vl = true ∧ 8 ≤ p ∧ p ≤ 512 := by
  unfold fltB
  have hp := @preB_iff p
  cases h : ys.all RD.vl with
  | false => simp
  | true =>
  cases h2 : preB p with
  | true => rw [h2] at hp; simpa using hp
  | false => rw [h2] at hp; simp; simp at hp; omega
set_option maxRecDepth 100000 in
set_option maxHeartbeats 8000000 in
theorem Round_any (x : RD) (p : Int) (up : Bool) (w : World) (hx : x.rd w) (hT : Tab w) :
    Calls Tryz.prog 161 #[.agg #[.bool x.neg, .slice x.a x.xs.length x.c, .int .i64 x.e], .int .i64 p, .bool up] w (NumE w (rndB x p up).1 (rndB x p up).2) := by
  have hF := fltB_zero (p := p) (ys := [x])
  have HR := Lib.hid (show rndB x p up = if fltB p [x] = 0 then rndE (rndS x.neg (val x.xs) x.e false p.toNat up) else (.zero, fltB p [x]) from rfl)
  have HF := Lib.hid hF
  clear hF
  go_enter Tryz.func161, Tryz.ntmps161
  go_wp2_with fail
  generalize hW : ((w.alloc _).alloc _) = W at *
  have hk : Kp w W := hW ▸ ((Kp.refl w).alloc _).alloc _
  have hS : W.cell? ⟨w.heap.size, 0, none⟩ = some (.bool x.neg) ∧ W.cell? ⟨w.heap.size, 1, none⟩ = some (.slice x.a x.xs.length x.c) ∧ W.cell? ⟨w.heap.size, 2, none⟩ = some (.int .i64 x.e) := by rw [← hW]; simp
  have hB : Box3 W (w.heap.size + 1) (.bool false) (.slice none 0 0) (.int .i64 0) := hW ▸ Box3.new2 _ _ _ _ _ _
  have hsz : W.heap.size = w.heap.size + 1 + 1 := by rw [← hW]; simp
  clear hW
  have hka := (Kp.refl W).alloc (.cells #[.bool x.neg, .slice x.a x.xs.length x.c, .int .i64 x.e] 42)
  have hRw := rowD_one W x (hx.kp hk) 42
  rw [hsz] at hRw
  clear hsz
  refine (fault_any p _ [x] 1 _ hRw (by simp)).mono ?_
  clear hRw
  rintro e w1 ⟨rfl, hk1⟩
  have hS1 := keep3 (hka.trans hk1) hS
  have hB1 := hB.kp (hka.trans hk1)
  have hk2 := hk.trans (hka.trans hk1)
  clear hS hB hk hk1 hka
  by_cases h0 : fltB p [x] = 0
  rotate_left
  · have hR := HR.out
    rw [if_neg h0] at hR
    have HR2 := Lib.hid hR
    have hz : (fltB p [x] == 0) = false := beq_eq_false_iff_ne.2 h0
    have hz2 : (fltB p [x] != 0) = true := by rw [bne, hz]; rfl
    clear h0 hR HR HF
    obtain ⟨q0, q1, q2, f0, f1, f2⟩ := hB1
    go_wp2_with fail
    have hst := stored q0 q1 q2 (fun _ h => by cases h) (fun _ h => by cases h) (fun _ h => by cases h) (.bool false) (.slice none 0 0) (.int .i64 0)
    generalize (((w1.setCell _ _).setCell _ _).setCell _ _) = W9 at hst ⊢
    obtain ⟨s0, s1, s2, _, s4, s5, _, _⟩ := hst
    refine bodyPost_ret (v := .tuple #[.agg #[.bool false, .slice none 0 0, .int .i64 0], .int .i64 (fltB p [x])]) (by simp [results, Tryz.results161, go_sem, s0, s1, s2]) rfl ?_
    rw [HR2.out]
    exact numE_zero rfl (s5 _ hk2 (by omega))
  have hp := HF.out.1 h0
  have hR := HR.out
  rw [if_pos h0] at hR
  obtain ⟨hv, hp0, hp1⟩ := hp
  obtain ⟨q, rfl⟩ := Int.eq_ofNat_of_zero_le (show 0 ≤ p by omega)
  rw [Int.toNat_natCast] at hR
  have hxo : x.ok w := ⟨hx, by simpa using hv⟩
  have HR2 := Lib.hid hR
  have hlen := rdok_len hxo
  have he := rdok_e hxo
  rw [h0]
  clear h0 hv hR HR HF
  go_wp2_with fail
  have hx1 := (hxo.kp hk2).drew
  have hT1 := hT.kp hk2.drew
  have hS2 := keep3 (Kp.refl w1).drew hS1
  have hB2 := hB1.kp (Kp.refl w1).drew
  have hk3 := hk2.drew
  clear hS1 hB1 hk2
  go_region_held3 (fun w' => w'.cell? ⟨w.heap.size, 0, none⟩ = some (.bool x.neg) ∧ w'.cell? ⟨w.heap.size, 1, none⟩ = some (.slice x.a x.xs.length x.c) ∧ w'.cell? ⟨w.heap.size, 2, none⟩ = some (.int .i64 x.e)) (first | with_reducible assumption | with_reducible exact keep3 (by assumption) (by assumption) | with_reducible exact set3x (by omega) (by assumption))
    (first
      | (go_at_call 187; refine (of_any x _).mono ?_; rintro e w4 ⟨rfl, hk4⟩)
      | (go_at_call 163; refine (signed_any x.neg x.a x.xs x.c x.e false q up _ (hx1.1.1.kp hk4) (by omega) hx1.1.2.1 hx1.1.2.2.1 (by omega) (by omega) (by omega) (by omega) (hT1.kp hk4)).mono ?_; rintro e w5 ⟨y, rfl, hy, hd, hv, hk5⟩; obtain ⟨q0, q1, q2, f0, f1, f2⟩ := hB2.kp (hk4.trans hk5)))
  have hk6 := hk3.trans (hk4.trans hk5)
  clear hS2 hB2 hx1 hT1
  have hst := stored q0 q1 q2 (fun _ h => by cases h) (fun _ h => by cases h) (fun _ h => by cases h) (.bool y.neg) (.slice y.a y.xs.length y.c) (.int .i64 y.e)
  go_wp2_with fail
  generalize (((w5.setCell _ _).setCell _ _).setCell _ _) = W2 at hst ⊢
  obtain ⟨s0, s1, s2, _, s4, s5, _, _⟩ := hst
  refine bodyPost_ret (v := .tuple #[.agg #[.bool y.neg, .slice y.a y.xs.length y.c, .int .i64 y.e], .int .i64 (rndE (rndS x.neg (val x.xs) x.e false q up)).2]) (by simp [results, Tryz.results161, go_sem, s0, s1, s2]) rfl ?_
  rw [HR2.out]
  exact ⟨y, rfl, ⟨s4 _ _ hy.1, hy.2⟩, hd, hv, s5 _ hk6 (by omega)⟩
theorem rAddDown_of (x y : RD) (p : Int) (D : Dy) (f : Int) (w : World) (hin : ∀ W, Kp w W → Calls Tryz.prog 114 #[.agg #[.bool x.neg, .slice x.a x.xs.length x.c, .int .i64 x.e], .agg #[.bool y.neg, .slice y.a y.xs.length y.c, .int .i64 y.e], .int .i64 p, .bool false] W (NumE W D f)) :
    Calls Tryz.prog 68 #[.agg #[.bool x.neg, .slice x.a x.xs.length x.c, .int .i64 x.e], .agg #[.bool y.neg, .slice y.a y.xs.length y.c, .int .i64 y.e], .int .i64 p] w (NumE w D f) := by
  have Ha := Lib.hid hin
  clear hin
  go_enter Tryz.func68, Tryz.ntmps68
  go_wp2_with fail
  generalize hW : (((w.alloc _).alloc _).alloc _) = W at *
  have hk : Kp w W := hW ▸ (((Kp.refl w).alloc _).alloc _).alloc _
  have hB : Box3 W (w.heap.size + 2) (.bool false) (.slice none 0 0) (.int .i64 0) := hW ▸ Box3.new3 _ _ _ _ _ _ _
  clear hW
  refine (Ha.out _ hk).mono ?_
  rintro e w5 ⟨z, rfl, hzr, hzd, hzv, hk5⟩
  obtain ⟨q0, q1, q2, f0, f1, f2⟩ := hB.kp hk5
  have hk6 := hk.trans hk5
  clear hB hk5
  have hst := stored q0 q1 q2 (fun _ h => by cases h) (fun _ h => by cases h) (fun _ h => by cases h) (.bool z.neg) (.slice z.a z.xs.length z.c) (.int .i64 z.e)
  go_wp2_with fail
  generalize (((w5.setCell _ _).setCell _ _).setCell _ _) = W2 at hst ⊢
  obtain ⟨s0, s1, s2, _, s4, s5, _, _⟩ := hst
  refine bodyPost_ret (v := .tuple #[.agg #[.bool z.neg, .slice z.a z.xs.length z.c, .int .i64 z.e], .int .i64 f]) (by simp [results, Tryz.results68, go_sem, s0, s1, s2]) rfl ?_
  exact ⟨z, rfl, ⟨s4 _ _ hzr.1, hzr.2⟩, hzd, hzv, s5 _ hk6 (by omega)⟩
theorem rAddUp_of (x y : RD) (p : Int) (D : Dy) (f : Int) (w : World) (hin : ∀ W, Kp w W → Calls Tryz.prog 114 #[.agg #[.bool x.neg, .slice x.a x.xs.length x.c, .int .i64 x.e], .agg #[.bool y.neg, .slice y.a y.xs.length y.c, .int .i64 y.e], .int .i64 p, .bool true] W (NumE W D f)) :
    Calls Tryz.prog 106 #[.agg #[.bool x.neg, .slice x.a x.xs.length x.c, .int .i64 x.e], .agg #[.bool y.neg, .slice y.a y.xs.length y.c, .int .i64 y.e], .int .i64 p] w (NumE w D f) := by
  have Ha := Lib.hid hin
  clear hin
  go_enter Tryz.func106, Tryz.ntmps106
  go_wp2_with fail
  generalize hW : (((w.alloc _).alloc _).alloc _) = W at *
  have hk : Kp w W := hW ▸ (((Kp.refl w).alloc _).alloc _).alloc _
  have hB : Box3 W (w.heap.size + 2) (.bool false) (.slice none 0 0) (.int .i64 0) := hW ▸ Box3.new3 _ _ _ _ _ _ _
  clear hW
  refine (Ha.out _ hk).mono ?_
  rintro e w5 ⟨z, rfl, hzr, hzd, hzv, hk5⟩
  obtain ⟨q0, q1, q2, f0, f1, f2⟩ := hB.kp hk5
  have hk6 := hk.trans hk5
  clear hB hk5
  have hst := stored q0 q1 q2 (fun _ h => by cases h) (fun _ h => by cases h) (fun _ h => by cases h) (.bool z.neg) (.slice z.a z.xs.length z.c) (.int .i64 z.e)
  go_wp2_with fail
  generalize (((w5.setCell _ _).setCell _ _).setCell _ _) = W2 at hst ⊢
  obtain ⟨s0, s1, s2, _, s4, s5, _, _⟩ := hst
  refine bodyPost_ret (v := .tuple #[.agg #[.bool z.neg, .slice z.a z.xs.length z.c, .int .i64 z.e], .int .i64 f]) (by simp [results, Tryz.results106, go_sem, s0, s1, s2]) rfl ?_
  exact ⟨z, rfl, ⟨s4 _ _ hzr.1, hzr.2⟩, hzd, hzv, s5 _ hk6 (by omega)⟩
theorem rMulDown_of (x y : RD) (p : Int) (D : Dy) (f : Int) (w : World) (hin : ∀ W, Kp w W → Calls Tryz.prog 194 #[.agg #[.bool x.neg, .slice x.a x.xs.length x.c, .int .i64 x.e], .agg #[.bool y.neg, .slice y.a y.xs.length y.c, .int .i64 y.e], .int .i64 p, .bool false] W (NumE W D f)) :
    Calls Tryz.prog 173 #[.agg #[.bool x.neg, .slice x.a x.xs.length x.c, .int .i64 x.e], .agg #[.bool y.neg, .slice y.a y.xs.length y.c, .int .i64 y.e], .int .i64 p] w (NumE w D f) := by
  have Ha := Lib.hid hin
  clear hin
  go_enter Tryz.func173, Tryz.ntmps173
  go_wp2_with fail
  generalize hW : (((w.alloc _).alloc _).alloc _) = W at *
  have hk : Kp w W := hW ▸ (((Kp.refl w).alloc _).alloc _).alloc _
  have hB : Box3 W (w.heap.size + 2) (.bool false) (.slice none 0 0) (.int .i64 0) := hW ▸ Box3.new3 _ _ _ _ _ _ _
  clear hW
  refine (Ha.out _ hk).mono ?_
  rintro e w5 ⟨z, rfl, hzr, hzd, hzv, hk5⟩
  obtain ⟨q0, q1, q2, f0, f1, f2⟩ := hB.kp hk5
  have hk6 := hk.trans hk5
  clear hB hk5
  have hst := stored q0 q1 q2 (fun _ h => by cases h) (fun _ h => by cases h) (fun _ h => by cases h) (.bool z.neg) (.slice z.a z.xs.length z.c) (.int .i64 z.e)
  go_wp2_with fail
  generalize (((w5.setCell _ _).setCell _ _).setCell _ _) = W2 at hst ⊢
  obtain ⟨s0, s1, s2, _, s4, s5, _, _⟩ := hst
  refine bodyPost_ret (v := .tuple #[.agg #[.bool z.neg, .slice z.a z.xs.length z.c, .int .i64 z.e], .int .i64 f]) (by simp [results, Tryz.results173, go_sem, s0, s1, s2]) rfl ?_
  exact ⟨z, rfl, ⟨s4 _ _ hzr.1, hzr.2⟩, hzd, hzv, s5 _ hk6 (by omega)⟩
theorem rMulUp_of (x y : RD) (p : Int) (D : Dy) (f : Int) (w : World) (hin : ∀ W, Kp w W → Calls Tryz.prog 194 #[.agg #[.bool x.neg, .slice x.a x.xs.length x.c, .int .i64 x.e], .agg #[.bool y.neg, .slice y.a y.xs.length y.c, .int .i64 y.e], .int .i64 p, .bool true] W (NumE W D f)) :
    Calls Tryz.prog 174 #[.agg #[.bool x.neg, .slice x.a x.xs.length x.c, .int .i64 x.e], .agg #[.bool y.neg, .slice y.a y.xs.length y.c, .int .i64 y.e], .int .i64 p] w (NumE w D f) := by
  have Ha := Lib.hid hin
  clear hin
  go_enter Tryz.func174, Tryz.ntmps174
  go_wp2_with fail
  generalize hW : (((w.alloc _).alloc _).alloc _) = W at *
  have hk : Kp w W := hW ▸ (((Kp.refl w).alloc _).alloc _).alloc _
  have hB : Box3 W (w.heap.size + 2) (.bool false) (.slice none 0 0) (.int .i64 0) := hW ▸ Box3.new3 _ _ _ _ _ _ _
  clear hW
  refine (Ha.out _ hk).mono ?_
  rintro e w5 ⟨z, rfl, hzr, hzd, hzv, hk5⟩
  obtain ⟨q0, q1, q2, f0, f1, f2⟩ := hB.kp hk5
  have hk6 := hk.trans hk5
  clear hB hk5
  have hst := stored q0 q1 q2 (fun _ h => by cases h) (fun _ h => by cases h) (fun _ h => by cases h) (.bool z.neg) (.slice z.a z.xs.length z.c) (.int .i64 z.e)
  go_wp2_with fail
  generalize (((w5.setCell _ _).setCell _ _).setCell _ _) = W2 at hst ⊢
  obtain ⟨s0, s1, s2, _, s4, s5, _, _⟩ := hst
  refine bodyPost_ret (v := .tuple #[.agg #[.bool z.neg, .slice z.a z.xs.length z.c, .int .i64 z.e], .int .i64 f]) (by simp [results, Tryz.results174, go_sem, s0, s1, s2]) rfl ?_
  exact ⟨z, rfl, ⟨s4 _ _ hzr.1, hzr.2⟩, hzd, hzv, s5 _ hk6 (by omega)⟩
theorem rDivUp_of (x y : RD) (p : Int) (D : Dy) (f : Int) (w : World) (hin : ∀ W, Kp w W → Calls Tryz.prog 116 #[.agg #[.bool x.neg, .slice x.a x.xs.length x.c, .int .i64 x.e], .agg #[.bool y.neg, .slice y.a y.xs.length y.c, .int .i64 y.e], .int .i64 p, .bool true] W (NumE W D f)) :
    Calls Tryz.prog 71 #[.agg #[.bool x.neg, .slice x.a x.xs.length x.c, .int .i64 x.e], .agg #[.bool y.neg, .slice y.a y.xs.length y.c, .int .i64 y.e], .int .i64 p] w (NumE w D f) := by
  have Ha := Lib.hid hin
  clear hin
  go_enter Tryz.func71, Tryz.ntmps71
  go_wp2_with fail
  generalize hW : (((w.alloc _).alloc _).alloc _) = W at *
  have hk : Kp w W := hW ▸ (((Kp.refl w).alloc _).alloc _).alloc _
  have hB : Box3 W (w.heap.size + 2) (.bool false) (.slice none 0 0) (.int .i64 0) := hW ▸ Box3.new3 _ _ _ _ _ _ _
  clear hW
  refine (Ha.out _ hk).mono ?_
  rintro e w5 ⟨z, rfl, hzr, hzd, hzv, hk5⟩
  obtain ⟨q0, q1, q2, f0, f1, f2⟩ := hB.kp hk5
  have hk6 := hk.trans hk5
  clear hB hk5
  have hst := stored q0 q1 q2 (fun _ h => by cases h) (fun _ h => by cases h) (fun _ h => by cases h) (.bool z.neg) (.slice z.a z.xs.length z.c) (.int .i64 z.e)
  go_wp2_with fail
  generalize (((w5.setCell _ _).setCell _ _).setCell _ _) = W2 at hst ⊢
  obtain ⟨s0, s1, s2, _, s4, s5, _, _⟩ := hst
  refine bodyPost_ret (v := .tuple #[.agg #[.bool z.neg, .slice z.a z.xs.length z.c, .int .i64 z.e], .int .i64 f]) (by simp [results, Tryz.results71, go_sem, s0, s1, s2]) rfl ?_
  exact ⟨z, rfl, ⟨s4 _ _ hzr.1, hzr.2⟩, hzd, hzv, s5 _ hk6 (by omega)⟩
end Go.Proofs.YtpocjagbhiahdaaGreatDoor
section
namespace Go.Proofs.YtpocjagbhiahdaaGreatDoor

end Go.Proofs.YtpocjagbhiahdaaGreatDoor
end
namespace Go.Proofs.YtpocjagbhiahdaaGreatDoor
open Go.RowKit
def farB (d f : Dy) : Prop := 4097 < max (topI d) (topI f) - min d.e f.e ∧ (1 < topI d - topI f ∨ 1 < topI f - topI d)
instance (d f : Dy) : Decidable (farB d f) := by unfold farB; exact inferInstance
end Go.Proofs.YtpocjagbhiahdaaGreatDoor
