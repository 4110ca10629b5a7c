/-
  Walks: round.round, Down, Up.
  Walks: round.add, AddDown, where the first number is 0; interval.permitted, Mid.
-/
import Derived.Test.YtkohlmlmoapedaaGreatDoorMRoE
import Derived.Test.YtkohlmlmoapedaaGreatDoorMIvE
section
namespace Go.Proofs.YtkohlmlmoapedaaGreatDoor
open Go.RowKit

/-- a rounded number: the exact one times 2^16384 is S -/
def rndS (neg : Bool) (m : Nat) (e : Int) (more : Bool) (p : Nat) (up : Bool) : Option Dy := sgnR neg (rcut m e more p (up != neg))
theorem signed_any (neg : Bool) (a : Option Addr) (xs : List Nat) (c : Nat) (ex : Int) (more : Bool) (p : Nat) (up : Bool) (w : World) (hx : Rd w a xs) (hxl : xs.length ≤ 256) (hxc : xs.length ≤ c) (hc : c ≤ maxLen) (he0 : -200000 ≤ ex) (he1 : ex ≤ 200000) (hp0 : 8 ≤ p) (hp1 : p ≤ 512) (hT : Tab w) :
    Calls Tryz.prog 98 #[.bool neg, .agg #[.slice a xs.length c, .int .i64 ex, .bool more], .int .i64 p, .bool up] w (NumE w (rndE (rndS neg (val xs) ex more p up)).1 (rndE (rndS neg (val xs) ex more p up)).2) := by
  cases neg with
  | false => have := signed_pos a xs c ex more p up w hx hxl hxc hc he0 he1 hp0 hp1 hT; unfold rndS; rwa [Bool.bne_false]
  | true => have := signed_neg a xs c ex more p up w hx hxl hxc hc he0 he1 hp0 hp1 hT; unfold rndS; rwa [Bool.bne_true]
theorem rndS_ok {neg : Bool} {m : Nat} {e : Int} {more : Bool} {p : Nat} {up : Bool} (hp : 8 ≤ p) (hp2 : p ≤ 512) : (rndE (rndS neg m e more p up)).1.ok := by
  unfold rndS sgnR
  cases h : rcut m e more p (up != neg) with
  | none => cases neg <;> exact Dy.ok_zero
  | some d =>
    have := (rcut_isP (by omega) (by omega) h).1.1
    cases neg
    · exact this
    · exact Dy.opp_ok this
theorem rowD_one (w : World) (x : RD) (hx : x.rd w) (t : TypeId) : RowD (w.alloc (.cells #[.bool x.neg, .slice x.a x.xs.length x.c, .int .i64 x.e] t)) (some ⟨w.heap.size, 0, none⟩) [x] := by
  intro i z hi
  match i with
  | 0 =>
    simp only [List.getElem?_cons_zero, Option.some.injEq] at hi
    subst hi
    refine ⟨_, 0, rfl, hx.kp ((Kp.refl w).alloc _), ?_, ?_, ?_⟩ <;> simp
  | i + 1 => simp at hi
theorem rowD_two (w : World) (x y : RD) (hx : x.rd w) (hy : y.rd w) (t : TypeId) : RowD (w.alloc (.cells #[.bool x.neg, .slice x.a x.xs.length x.c, .int .i64 x.e, .bool y.neg, .slice y.a y.xs.length y.c, .int .i64 y.e] t)) (some ⟨w.heap.size, 0, none⟩) [x, y] := by
  intro i z hi
  match i with
  | 0 =>
    simp only [List.getElem?_cons_zero, Option.some.injEq] at hi
    subst hi
    refine ⟨_, 0, rfl, hx.kp ((Kp.refl w).alloc _), ?_, ?_, ?_⟩ <;> simp
  | 1 =>
    simp only [List.getElem?_cons_succ, List.getElem?_cons_zero, Option.some.injEq] at hi
    subst hi
    refine ⟨_, 0, rfl, hy.kp ((Kp.refl w).alloc _), ?_, ?_, ?_⟩ <;> simp
  | i + 2 => simp at hi
/-- round, of a number as it comes -/
def rndB (x : RD) (p : Int) (up : Bool) : Dy × Int := if fltB p [x] = 0 then rndE (rndS x.neg (val x.xs) x.e false p.toNat up) else (.zero, fltB p [x])
theorem fltB_zero {p : Int} {ys : List RD} : fltB p ys = 0 ↔ ys.all RD.vl = true ∧ 8 ≤ p ∧ p ≤ 512 := by
  unfold fltB
  have hp := @preB_iff p
  cases h : ys.all RD.vl with
  | false => simp
  | true =>
    cases h2 : preB p with
    | false => rw [h2] at hp; simp; simp at hp; omega
    | true => rw [h2] at hp; simpa using hp
set_option maxRecDepth 100000 in
set_option maxHeartbeats 8000000 in
theorem Round_any (x : RD) (p : Int) (up : Bool) (w : World) (hx : x.rd w) (hT : Tab w) :
    Calls Tryz.prog 96 #[.agg #[.bool x.neg, .slice x.a x.xs.length x.c, .int .i64 x.e], .int .i64 p, .bool up] w (NumE w (rndB x p up).1 (rndB x p up).2) := by
  have hF := fltB_zero (p := p) (ys := [x])
  have HR := Lib.hid (show rndB x p up = if fltB p [x] = 0 then rndE (rndS x.neg (val x.xs) x.e false p.toNat up) else (.zero, fltB p [x]) from rfl)
  have HF := Lib.hid hF
  clear hF
  go_enter Tryz.func96, Tryz.ntmps96
  go_wp2_with fail
  generalize hW : ((w.alloc _).alloc _) = W at *
  have hk : Kp w W := hW ▸ ((Kp.refl w).alloc _).alloc _
  have hS : W.cell? ⟨w.heap.size, 0, none⟩ = some (.bool x.neg) ∧ W.cell? ⟨w.heap.size, 1, none⟩ = some (.slice x.a x.xs.length x.c) ∧ W.cell? ⟨w.heap.size, 2, none⟩ = some (.int .i64 x.e) := by rw [← hW]; simp
  have hB : Box3 W (w.heap.size + 1) (.bool false) (.slice none 0 0) (.int .i64 0) := hW ▸ Box3.new2 _ _ _ _ _ _
  have hsz : W.heap.size = w.heap.size + 1 + 1 := by rw [← hW]; simp
  clear hW
  have hka := (Kp.refl W).alloc (.cells #[.bool x.neg, .slice x.a x.xs.length x.c, .int .i64 x.e] 25)
  have hRw := rowD_one W x (hx.kp hk) 25
  rw [hsz] at hRw
  clear hsz
  refine (fault_any p _ [x] 1 _ hRw (by simp)).mono ?_
  clear hRw
  rintro e w1 ⟨rfl, hk1⟩
  have hS1 := keep3 (hka.trans hk1) hS
  have hB1 := hB.kp (hka.trans hk1)
  have hk2 := hk.trans (hka.trans hk1)
  clear hS hB hk hk1 hka
  by_cases h0 : fltB p [x] = 0
  · have hp := HF.out.1 h0
    have hR := HR.out
    rw [if_pos h0] at hR
    obtain ⟨hv, hp0, hp1⟩ := hp
    obtain ⟨q, rfl⟩ := Int.eq_ofNat_of_zero_le (show 0 ≤ p by omega)
    rw [Int.toNat_natCast] at hR
    have hxo : x.ok w := ⟨hx, by simpa using hv⟩
    have HR2 := Lib.hid hR
    have hlen := rdok_len hxo
    have he := rdok_e hxo
    rw [h0]
    clear h0 hv hR HR HF
    go_wp2_with fail
    have hx1 := (hxo.kp hk2).drew
    have hT1 := hT.kp hk2.drew
    have hS2 := keep3 (Kp.refl w1).drew hS1
    have hB2 := hB1.kp (Kp.refl w1).drew
    have hk3 := hk2.drew
    clear hS1 hB1 hk2
    go_region_held3 (fun w' => w'.cell? ⟨w.heap.size, 0, none⟩ = some (.bool x.neg) ∧ w'.cell? ⟨w.heap.size, 1, none⟩ = some (.slice x.a x.xs.length x.c) ∧ w'.cell? ⟨w.heap.size, 2, none⟩ = some (.int .i64 x.e)) (first | with_reducible assumption | with_reducible exact keep3 (by assumption) (by assumption) | with_reducible exact set3x (by omega) (by assumption))
      (first
        | (go_at_call 108; refine (of_any x _).mono ?_; rintro e w4 ⟨rfl, hk4⟩)
        | (go_at_call 98; refine (signed_any x.neg x.a x.xs x.c x.e false q up _ (hx1.1.1.kp hk4) (by omega) hx1.1.2.1 hx1.1.2.2.1 (by omega) (by omega) (by omega) (by omega) (hT1.kp hk4)).mono ?_; rintro e w5 ⟨y, rfl, hy, hd, hv, hk5⟩; obtain ⟨q0, q1, q2, f0, f1, f2⟩ := hB2.kp (hk4.trans hk5)))
    have hk6 := hk3.trans (hk4.trans hk5)
    clear hS2 hB2 hx1 hT1
    have hst := stored q0 q1 q2 (fun _ h => by cases h) (fun _ h => by cases h) (fun _ h => by cases h) (.bool y.neg) (.slice y.a y.xs.length y.c) (.int .i64 y.e)
    go_wp2_with fail
    generalize (((w5.setCell _ _).setCell _ _).setCell _ _) = W2 at hst ⊢
    obtain ⟨s0, s1, s2, _, s4, s5, _, _⟩ := hst
    refine bodyPost_ret (v := .tuple #[.agg #[.bool y.neg, .slice y.a y.xs.length y.c, .int .i64 y.e], .int .i64 (rndE (rndS x.neg (val x.xs) x.e false q up)).2]) (by simp [results, Tryz.results96, go_sem, s0, s1, s2]) rfl ?_
    rw [HR2.out]
    exact ⟨y, rfl, ⟨s4 _ _ hy.1, hy.2⟩, hd, hv, s5 _ hk6 (by omega)⟩
  · have hR := HR.out
    rw [if_neg h0] at hR
    have HR2 := Lib.hid hR
    have hz : (fltB p [x] == 0) = false := beq_eq_false_iff_ne.2 h0
    have hz2 : (fltB p [x] != 0) = true := by rw [bne, hz]; rfl
    clear h0 hR HR HF
    obtain ⟨q0, q1, q2, f0, f1, f2⟩ := hB1
    go_wp2_with fail
    have hst := stored q0 q1 q2 (fun _ h => by cases h) (fun _ h => by cases h) (fun _ h => by cases h) (.bool false) (.slice none 0 0) (.int .i64 0)
    generalize (((w1.setCell _ _).setCell _ _).setCell _ _) = W9 at hst ⊢
    obtain ⟨s0, s1, s2, _, s4, s5, _, _⟩ := hst
    refine bodyPost_ret (v := .tuple #[.agg #[.bool false, .slice none 0 0, .int .i64 0], .int .i64 (fltB p [x])]) (by simp [results, Tryz.results96, go_sem, s0, s1, s2]) rfl ?_
    rw [HR2.out]
    exact numE_zero rfl (s5 _ hk2 (by omega))
end Go.Proofs.YtkohlmlmoapedaaGreatDoor
end

section
namespace Go.Proofs.YtkohlmlmoapedaaGreatDoor
open Go.RowKit

theorem keep36 {w w' : World} (k : Kp w w') {p0 p1 p2 q0 q1 q2 : Addr} {v0 v1 v2 u0 u1 u2 : Value}
    (h : (w.cell? p0 = some v0 ∧ w.cell? p1 = some v1 ∧ w.cell? p2 = some v2) ∧ w.cell? q0 = some u0 ∧ w.cell? q1 = some u1 ∧ w.cell? q2 = some u2) :
    (w'.cell? p0 = some v0 ∧ w'.cell? p1 = some v1 ∧ w'.cell? p2 = some v2) ∧ w'.cell? q0 = some u0 ∧ w'.cell? q1 = some u1 ∧ w'.cell? q2 = some u2 := ⟨keep3 k h.1, keep3 k h.2⟩
theorem fltB_ok {p : Nat} {ys : List RD} (h : ys.all RD.vl = true) (h0 : 8 ≤ p) (h1 : p ≤ 512) : fltB p ys = 0 := fltB_zero.2 ⟨h, by omega, by omega⟩
set_option maxRecDepth 100000 in
set_option maxHeartbeats 8000000 in
theorem addz_ok (x y : RD) (p : Nat) (up : Bool) (w : World) (hx : x.ok w) (hy : y.ok w) (hx0 : x.xs.length = 0) (hp0 : 8 ≤ p) (hp1 : p ≤ 512) (hT : Tab w) :
    Calls Tryz.prog 82 #[.agg #[.bool x.neg, .slice x.a x.xs.length x.c, .int .i64 x.e], .agg #[.bool y.neg, .slice y.a y.xs.length y.c, .int .i64 y.e], .int .i64 p, .bool up] w (NumE w (rndB y p up).1 (rndB y p up).2) := by
  have hz : ((x.xs.length : Int) == 0) = true := beq_iff_eq.2 (by omega)
  have Hz := Lib.hid hx0
  have hf : fltB p [x, y] = 0 := fltB_ok (by simp [hx.2, hy.2]) hp0 hp1
  have Hf := Lib.hid hf
  clear hf hx0
  go_enter Tryz.func82, Tryz.ntmps82
  go_wp2_with fail
  generalize hW : (((w.alloc _).alloc _).alloc _) = W at *
  have hk : Kp w W := hW ▸ (((Kp.refl w).alloc _).alloc _).alloc _
  have hS : (W.cell? ⟨w.heap.size, 0, none⟩ = some (.bool x.neg) ∧ W.cell? ⟨w.heap.size, 1, none⟩ = some (.slice x.a x.xs.length x.c) ∧ W.cell? ⟨w.heap.size, 2, none⟩ = some (.int .i64 x.e)) ∧ W.cell? ⟨w.heap.size + 1, 0, none⟩ = some (.bool y.neg) ∧ W.cell? ⟨w.heap.size + 1, 1, none⟩ = some (.slice y.a y.xs.length y.c) ∧ W.cell? ⟨w.heap.size + 1, 2, none⟩ = some (.int .i64 y.e) := by rw [← hW]; exact keep36 ((Kp.refl _).alloc _) (by simp)
  have hB : Box3 W (w.heap.size + 2) (.bool false) (.slice none 0 0) (.int .i64 0) := hW ▸ Box3.new3 _ _ _ _ _ _ _
  have hsz : W.heap.size = w.heap.size + 1 + 1 + 1 := by rw [← hW]; simp
  clear hW
  have hka := (Kp.refl W).alloc (.cells #[.bool x.neg, .slice x.a x.xs.length x.c, .int .i64 x.e, .bool y.neg, .slice y.a y.xs.length y.c, .int .i64 y.e] 25)
  have hRw := rowD_two W x y (hx.kp hk).1 (hy.kp hk).1 25
  rw [hsz] at hRw
  clear hsz
  refine (fault_any p _ [x, y] 2 _ hRw (by simp)).mono ?_
  rw [Hf.out]
  rintro e w1 ⟨rfl, hk1⟩
  have hS1 := keep36 (hka.trans hk1) hS
  have hB1 := hB.kp (hka.trans hk1)
  have hk2 := hk.trans (hka.trans hk1)
  clear hS hB hk hk1 hka hRw
  go_wp2_with fail
  refine (Round_any y p up _ (hy.kp hk2).1 (hT.kp hk2)).mono ?_
  rintro e w5 ⟨z, rfl, hzr, hzd, hzv, hk5⟩
  obtain ⟨q0, q1, q2, f0, f1, f2⟩ := hB1.kp hk5
  have hk6 := hk2.trans hk5
  clear hS1 hB1 hk5
  have hst := stored q0 q1 q2 (fun _ h => by cases h) (fun _ h => by cases h) (fun _ h => by cases h) (.bool z.neg) (.slice z.a z.xs.length z.c) (.int .i64 z.e)
  go_wp2_with fail
  generalize (((w5.setCell _ _).setCell _ _).setCell _ _) = W2 at hst ⊢
  obtain ⟨s0, s1, s2, _, s4, s5, _, _⟩ := hst
  refine bodyPost_ret (v := .tuple #[.agg #[.bool z.neg, .slice z.a z.xs.length z.c, .int .i64 z.e], .int .i64 (rndB y p up).2]) (by simp [results, Tryz.results82, go_sem, s0, s1, s2]) rfl ?_
  exact ⟨z, rfl, ⟨s4 _ _ hzr.1, hzr.2⟩, hzd, hzv, s5 _ hk6 (by omega)⟩

/-- a contract of AddDown, from one of add -/
theorem AddDown_of (x y : RD) (p : Nat) (D : Dy) (f : Int) (w : World) (hadd : ∀ W, Kp w W → Calls Tryz.prog 82 #[.agg #[.bool x.neg, .slice x.a x.xs.length x.c, .int .i64 x.e], .agg #[.bool y.neg, .slice y.a y.xs.length y.c, .int .i64 y.e], .int .i64 p, .bool false] W (NumE W D f)) :
    Calls Tryz.prog 68 #[.agg #[.bool x.neg, .slice x.a x.xs.length x.c, .int .i64 x.e], .agg #[.bool y.neg, .slice y.a y.xs.length y.c, .int .i64 y.e], .int .i64 p] w (NumE w D f) := by
  have Ha := Lib.hid hadd
  clear hadd
  go_enter Tryz.func68, Tryz.ntmps68
  go_wp2_with fail
  generalize hW : (((w.alloc _).alloc _).alloc _) = W at *
  have hk : Kp w W := hW ▸ (((Kp.refl w).alloc _).alloc _).alloc _
  have hB : Box3 W (w.heap.size + 2) (.bool false) (.slice none 0 0) (.int .i64 0) := hW ▸ Box3.new3 _ _ _ _ _ _ _
  clear hW
  refine (Ha.out _ hk).mono ?_
  rintro e w5 ⟨z, rfl, hzr, hzd, hzv, hk5⟩
  obtain ⟨q0, q1, q2, f0, f1, f2⟩ := hB.kp hk5
  have hk6 := hk.trans hk5
  clear hB hk5
  have hst := stored q0 q1 q2 (fun _ h => by cases h) (fun _ h => by cases h) (fun _ h => by cases h) (.bool z.neg) (.slice z.a z.xs.length z.c) (.int .i64 z.e)
  go_wp2_with fail
  generalize (((w5.setCell _ _).setCell _ _).setCell _ _) = W2 at hst ⊢
  obtain ⟨s0, s1, s2, _, s4, s5, _, _⟩ := hst
  refine bodyPost_ret (v := .tuple #[.agg #[.bool z.neg, .slice z.a z.xs.length z.c, .int .i64 z.e], .int .i64 f]) (by simp [results, Tryz.results68, go_sem, s0, s1, s2]) rfl ?_
  exact ⟨z, rfl, ⟨s4 _ _ hzr.1, hzr.2⟩, hzd, hzv, s5 _ hk6 (by omega)⟩

theorem permitted_any (p : Int) (w : World) :
    Calls Tryz.prog 67 #[.int .i64 p] w fun e w' => e = .returned (.bool (preB p)) ∧ w = w' := by
  by_cases h1 : 8 ≤ p
  · by_cases h2 : p ≤ 512
    · have H := Lib.hid (show preB p = true from decide_eq_true ⟨h1, h2⟩)
      go_enter Tryz.func67, Tryz.ntmps67
      go_wp2_with fail
      go_ret
      exact ⟨ret_bool (by first | exact H.out.symm | (rw [H.out]; simp; omega)), rfl⟩
    · have H := Lib.hid (show preB p = false from decide_eq_false (by omega))
      go_enter Tryz.func67, Tryz.ntmps67
      go_wp2_with fail
      go_ret
      exact ⟨ret_bool (by first | exact H.out.symm | (rw [H.out]; simp; omega)), rfl⟩
  · have H := Lib.hid (show preB p = false from decide_eq_false (by omega))
    go_enter Tryz.func67, Tryz.ntmps67
    go_wp2_with fail
    go_ret
    exact ⟨ret_bool (by first | exact H.out.symm | (rw [H.out]; simp; omega)), rfl⟩
theorem rowI_one (w : World) (x : RI) (hx : x.rd w) (hax : x.all = false) (t : TypeId) : RowI (w.alloc (.cells #[.bool x.lo.neg, .slice x.lo.a x.lo.xs.length x.lo.c, .int .i64 x.lo.e, .bool x.hi.neg, .slice x.hi.a x.hi.xs.length x.hi.c, .int .i64 x.hi.e, .bool false] t)) (some ⟨w.heap.size, 0, none⟩) [x] := by
  intro i z hi
  have hk := (Kp.refl w).alloc (.cells #[.bool x.lo.neg, .slice x.lo.a x.lo.xs.length x.lo.c, .int .i64 x.lo.e, .bool x.hi.neg, .slice x.hi.a x.hi.xs.length x.hi.c, .int .i64 x.hi.e, .bool false] t)
  match i with
  | 0 =>
    simp only [List.getElem?_cons_zero, Option.some.injEq] at hi
    subst hi
    refine ⟨_, 0, rfl, hx.kp hk, ?_, ?_, ?_, ?_, ?_, ?_, ?_⟩ <;> simp [hax]
  | i + 1 => simp at hi
/-- the halved sum is in the interval -/
def midOk (x : RI) (D : Dy) : Prop := (chk (canon D.neg D.m (D.e + -1))).2 = 0 ∧ hasI x (rdOf (chk (canon D.neg D.m (D.e + -1))).1 none 0) = true
set_option maxRecDepth 100000 in
set_option maxHeartbeats 8000000 in
/-- Mid, where the halved sum of the ends is in the interval -/
theorem Mid_in (x : RI) (p : Nat) (D : Dy) (w : World) (hx : x.ok w) (hD : D.ok) (hp0 : 8 ≤ p) (hp1 : p ≤ 512) (hT : Tab w)
    (hadd : ∀ W, Kp w W → Calls Tryz.prog 68 #[.agg #[.bool x.lo.neg, .slice x.lo.a x.lo.xs.length x.lo.c, .int .i64 x.lo.e], .agg #[.bool x.hi.neg, .slice x.hi.a x.hi.xs.length x.hi.c, .int .i64 x.hi.e], .int .i64 p] W (NumE W D 0)) (hm : midOk x D) :
    Calls Tryz.prog 43 #[.agg #[.bool x.lo.neg, .slice x.lo.a x.lo.xs.length x.lo.c, .int .i64 x.lo.e, .bool x.hi.neg, .slice x.hi.a x.hi.xs.length x.hi.c, .int .i64 x.hi.e, .bool false], .int .i64 p] w (NumOut w (chk (canon D.neg D.m (D.e + -1))).1) := by
  have Ha := Lib.hid hadd
  have Hm := Lib.hid hm
  have Hp := Lib.hid (show preB (p : Int) = true from preB_iff.2 ⟨by omega, by omega⟩)
  clear hadd hm
  go_enter Tryz.func43, Tryz.ntmps43
  go_wp2_with fail
  generalize hW : ((w.alloc _).alloc _) = W at *
  have hk : Kp w W := hW ▸ ((Kp.refl w).alloc _).alloc _
  have hS : W.cell? ⟨w.heap.size, 0, none⟩ = some (.bool x.lo.neg) ∧ W.cell? ⟨w.heap.size, 1, none⟩ = some (.slice x.lo.a x.lo.xs.length x.lo.c) ∧ W.cell? ⟨w.heap.size, 2, none⟩ = some (.int .i64 x.lo.e) ∧ W.cell? ⟨w.heap.size, 3, none⟩ = some (.bool x.hi.neg) ∧ W.cell? ⟨w.heap.size, 4, none⟩ = some (.slice x.hi.a x.hi.xs.length x.hi.c) ∧ W.cell? ⟨w.heap.size, 5, none⟩ = some (.int .i64 x.hi.e) ∧ W.cell? ⟨w.heap.size, 6, none⟩ = some (.bool false) := by rw [← hW]; simp
  have hB : Box3 W (w.heap.size + 1) (.bool false) (.slice none 0 0) (.int .i64 0) := hW ▸ Box3.new2 _ _ _ _ _ _
  have hsz : W.heap.size = w.heap.size + 1 + 1 := by rw [← hW]; simp
  clear hW
  have hka := (Kp.refl W).alloc (.cells #[.bool x.lo.neg, .slice x.lo.a x.lo.xs.length x.lo.c, .int .i64 x.lo.e, .bool x.hi.neg, .slice x.hi.a x.hi.xs.length x.hi.c, .int .i64 x.hi.e, .bool false] 34)
  have hRw := rowI_one W x (hx.kp hk).1 hx.2.1 34
  rw [hsz] at hRw
  clear hsz
  have hkn := known_any _ [x] 1 _ hRw (by simp)
  rw [show [x].all goodI = true by simp [(goodI_ok hx.1).2 hx]] at hkn
  refine hkn.mono ?_
  rintro e w1 ⟨rfl, hk1⟩
  have hS1 := keep7 (hka.trans hk1) hS
  have hB1 := hB.kp (hka.trans hk1)
  have hk2 := hk.trans (hka.trans hk1)
  clear hS hB hk hk1 hka hRw hkn
  go_wp2_with fail
  refine (permitted_any p _).mono ?_
  rw [Hp.out]
  rintro e w2 ⟨rfl, rfl⟩
  go_wp2_with fail
  refine (Ha.out _ hk2).mono ?_
  rintro e w5 ⟨z, rfl, hzr, hzd, hzv, hk5⟩
  have hka := hk5.alloc (.cells #[.bool z.neg, .slice z.a z.xs.length z.c, .int .i64 z.e] 25)
  have hzo : z.ok (w5.alloc (.cells #[.bool z.neg, .slice z.a z.xs.length z.c, .int .i64 z.e] 25)) := ⟨hzr.kp ((Kp.refl _).alloc _), hzv hD⟩
  have hS2 := keep7 hka hS1
  have hB2 := hB1.kp hka
  have hk6 := hk2.trans hka
  clear hS1 hB1 hk5 hka hzr
  have hdn : z.neg = D.neg := by rw [← hzd]; rfl
  have hdm : val z.xs = D.m := by rw [← hzd]; rfl
  have hde : z.e = D.e := by rw [← hzd]; rfl
  have hSc := Scale_ok z (-1) _ hzo (by omega) (by omega) (hT.kp hk6)
  have hcan : canon z.neg (val z.xs) (z.e + -1) = canon D.neg D.m (D.e + -1) := by rw [hdn, hdm, hde]
  rw [hcan] at hSc
  have HSc := Lib.hid hSc
  clear hcan
  clear hSc hdn hdm hde
  have hok := chk_canon_ok D.neg D.m (D.e + -1)
  have Hm0 := Lib.hid (show (chk (canon D.neg D.m (D.e + -1))).2 = 0 from Hm.out.1)
  have Hm1 := Lib.hid (show hasI x (rdOf (chk (canon D.neg D.m (D.e + -1))).1 none 0) = true from Hm.out.2)
  clear Hm
  generalize chk (canon D.neg D.m (D.e + -1)) = C at *
  go_wp2_with fail
  generalize w5.alloc _ = W5 at *
  refine HSc.out.mono ?_
  rw [Hm0.out]
  rintro e w7 ⟨y, rfl, hyr, hyd, hyv, hk7⟩
  have hka := hk7.alloc (.cells #[.bool y.neg, .slice y.a y.xs.length y.c, .int .i64 y.e] 25)
  have hyo : y.ok (w7.alloc (.cells #[.bool y.neg, .slice y.a y.xs.length y.c, .int .i64 y.e] 25)) := ⟨hyr.kp ((Kp.refl _).alloc _), hyv hok⟩
  have hS3 := keep7 hka hS2
  have hB3 := hB2.kp hka
  have hk8 := hk6.trans hka
  have hhas : hasI x y = true := by
    have e : hasI x y = hasI x (rdOf C.1 none 0) := by
      unfold hasI
      rw [rdOf_iv, show y.iv = C.1.iv by unfold RD.iv; rw [hyd]]
    rw [e]; exact Hm1.out
  have hH := Has_ok x y _ (hx.kp hk8) hyo
  rw [hhas] at hH
  have HH := Lib.hid hH
  have hY := Box3.new w7 (.bool y.neg) (.slice y.a y.xs.length y.c) (.int .i64 y.e) 25
  clear hH hhas HSc hS2 hB2 hk6 hka hk7 hzo hyr
  go_wp2_with fail
  generalize w7.alloc _ = W7 at *
  refine HH.out.mono ?_
  rintro e w9 ⟨rfl, hk9⟩
  obtain ⟨j0, j1, j2, _, _, _⟩ := hY.kp hk9
  obtain ⟨q0, q1, q2, f0, f1, f2⟩ := hB3.kp hk9
  have hkf := hk8.trans hk9
  have hyo9 := hyo.kp hk9
  have hst := stored q0 q1 q2 (fun _ h => by cases h) (fun _ h => by cases h) (fun _ h => by cases h) (.bool y.neg) (.slice y.a y.xs.length y.c) (.int .i64 y.e)
  clear hS3 hB3 hY hk8 hk9 HH hyo
  go_wp2_with fail
  generalize (((w9.setCell _ _).setCell _ _).setCell _ _) = W2 at hst ⊢
  obtain ⟨s0, s1, s2, _, s4, s5, _, _⟩ := hst
  refine bodyPost_ret (v := .agg #[.bool y.neg, .slice y.a y.xs.length y.c, .int .i64 y.e]) (by simp [results, Tryz.results43, go_sem, s0, s1, s2]) rfl ?_
  exact ⟨y, rfl, ⟨s4 _ _ hyo9.1.1, hyo9.1.2⟩, hyd, hyv, s5 _ hkf (by omega)⟩
end Go.Proofs.YtkohlmlmoapedaaGreatDoor
end
