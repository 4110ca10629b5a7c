/-
  Walks: dyadic.Scale; round.of, fault.
  Walks: the law's own small functions: large, points, awake$1.
  Walks: box.Valid, two.
-/
import Derived.Test.YtkohlmlmoapedaaDoorMRoA
import Derived.Test.YtkohlmlmoapedaaDoorMIdxD
import Derived.Test.YtkohlmlmoapedaaDoorMR2C
import Derived.Test.YtkohlmlmoapedaaDoorMEqfD
import Derived.Test.YtkohlmlmoapedaaDoorMIvB
section
namespace Go.Proofs.YtkohlmlmoapedaaDoor
open Go.RowKit

theorem chk_ok (d : Dy) (h : inrB d.m d.e = true → d.ok) : (chk d).1.ok := by
  unfold chk
  cases hi : inrB d.m d.e with
  | true => exact h hi
  | false => exact Dy.ok_zero
theorem chk_canon_ok (s : Bool) (n : Nat) (e : Int) : (chk (canon s n e)).1.ok := by
  refine chk_ok _ fun h => (canon_ok_iff s n e).2 ?_
  unfold inrB at h
  rw [decide_eq_true_eq] at h
  unfold inr
  rcases h with h | h
  · left
    have h2 := lt_two_pow_bits (canon s n e).m
    rw [h] at h2; omega
  · exact .inr h
set_option maxHeartbeats 2000000 in
theorem Scale_ok (x : RD) (k : Int) (w : World) (h : x.ok w) (hk0 : -32768 ≤ k) (hk1 : k ≤ 32768) (hT : Tab w) :
    Calls Tryd.prog 59 #[.agg #[.bool x.neg, .slice x.a x.xs.length x.c, .int .i64 x.e], .int .i64 k] w (NumE w (chk (canon x.neg (val x.xs) (x.e + k))).1 (chk (canon x.neg (val x.xs) (x.e + k))).2) := by
  have hlen := rdok_len h
  have he := rdok_e h
  have hE := exponent_any k
  rw [show expB k = true from decide_eq_true ⟨hk0, hk1⟩] at hE
  have HE := Lib.hid hE
  clear hE
  have hll := limbs_len_le h.1.1.lt32
  have hcl := canon_len x.neg (val x.xs) (x.e + k)
  have hce := canon_e x.neg (show -1000000000 ≤ x.e + k by omega) (show x.e + k ≤ 1000000000 by omega) (show (limbs (val x.xs)).length ≤ 256 by omega)
  have Hok := Lib.hid (chk_canon_ok x.neg (val x.xs) (x.e + k))
  go_enter Tryd.func59, Tryd.ntmps59
  go_wp2_with fail
  generalize hW : ((w.alloc _).alloc _) = W at *
  have hk : Kp w W := hW ▸ ((Kp.refl w).alloc _).alloc _
  have hS : W.cell? ⟨w.heap.size, 0, none⟩ = some (.bool x.neg) ∧ W.cell? ⟨w.heap.size, 1, none⟩ = some (.slice x.a x.xs.length x.c) ∧ W.cell? ⟨w.heap.size, 2, none⟩ = some (.int .i64 x.e) := by rw [← hW]; simp
  have hB : Box3 W (w.heap.size + 1) (.bool false) (.slice none 0 0) (.int .i64 0) := hW ▸ Box3.new2 _ _ _ _ _ _
  clear hW
  refine (Valid_rok x _ (h.kp hk)).mono ?_
  rintro e w1 ⟨rfl, hk1⟩
  have hS1 := keep3 hk1 hS
  have hB1 := hB.kp hk1
  have hk2 := hk.trans hk1
  clear hS hk hk1 hB
  go_wp2_with fail
  refine (HE.out _ ⟨by omega, by omega⟩).mono ?_
  rintro e w2 ⟨rfl, rfl⟩
  go_wp2_with fail
  refine (canonical_any x.neg x.a x.xs x.c _ _ (h.1.1.kp hk2) h.1.2.1 h.1.2.2.1 (by omega) (by omega) (by omega) (hT.kp hk2)).mono ?_
  rintro e w2 ⟨a2, c2, rfl, h2, h3, h4, h5⟩
  generalize canon x.neg (val x.xs) (x.e + k) = D at *
  go_wp2_with fail
  refine (checked_any D a2 c2 _ h2 h3 h4 (by omega) ⟨by omega, by omega⟩).mono ?_
  rintro e w3 ⟨a3, c3, rfl, h6, h7, h8, h9⟩
  generalize (chk D).1 = F at *
  generalize (chk D).2 = f at *
  have hk := h5.trans h9
  obtain ⟨q0, q1, q2, f0, f1, f2⟩ := hB1.kp hk
  have hk2 := hk2.trans hk
  go_wp2_with fail
  have hst := stored q0 q1 q2 (fun _ h => by cases h) (fun _ h => by cases h) (fun _ h => by cases h) (.bool F.neg) (.slice a3 (limbs F.m).length c3) (.int .i64 F.e)
  generalize (((w3.setCell _ _).setCell _ _).setCell _ _) = W at hst ⊢
  obtain ⟨s0, s1, s2, _, s4, s5, _, _⟩ := hst
  refine bodyPost_ret (v := .tuple #[.agg #[.bool F.neg, .slice a3 (limbs F.m).length c3, .int .i64 F.e], .int .i64 f]) (by simp [results, Tryd.results59, go_sem, s0, s1, s2]) rfl ?_
  exact ⟨rdOf F a3 c3, rfl, rdOf_rd Hok.out (s4 _ _ h6) h7 h8, rdOf_dy _ _ _, fun hd => rdOf_vl hd _ _, s5 _ hk2 (by omega)⟩

/-- the absolute value of a number -/
theorem of_any (x : RD) (w : World) :
    Calls Tryd.prog 84 #[.agg #[.bool x.neg, .slice x.a x.xs.length x.c, .int .i64 x.e]] w fun e w' => e = .returned (.agg #[.slice x.a x.xs.length x.c, .int .i64 x.e, .bool false]) ∧ Kp w w' := by
  go_enter Tryd.func84, Tryd.ntmps84
  go_wp2_with fail
  exact bodyPost_ret (v := .agg #[.slice x.a x.xs.length x.c, .int .i64 x.e, .bool false]) (by simp [results, Tryd.results84, go_sem]) rfl ⟨rfl, ((Kp.refl w).alloc _).alloc _⟩

theorem RowD.rd {w : World} {a : Option Addr} {zs : List RD} (h : RowD w a zs) {x : RD} (hx : x ∈ zs) : x.rd w := by
  obtain ⟨i, hi⟩ := List.getElem?_of_mem hx
  obtain ⟨_, _, _, hr, _⟩ := h i x hi
  exact hr
/-- the error of arguments -/
def fltB (p : Int) (ys : List RD) : Int := if ys.all RD.vl then (if preB p then 0 else 2) else 1
set_option maxHeartbeats 4000000 in
theorem fault_any (p : Int) (b : Option Addr) (ys : List RD) (d : Nat) (w : World) (h' : RowD w b ys) (hl' : ys.length ≤ 1100000) :
    Calls Tryd.prog 71 #[.int .i64 p, .slice b ys.length d] w fun e w' => e = .returned (.int .i64 (fltB p ys)) ∧ Kp w w' := by
  have H := Lib.hid (show fltB p ys = if ys.all RD.vl then (if preB p then 0 else 2) else 1 from rfl)
  go_enter Tryd.func71, Tryd.ntmps71
  go_wp2_with fail
  go_loopw [9] (fun x wr => ∃ k : Nat, k ≤ ys.length ∧ x = .int .i64 k ∧ Kp w wr ∧ ∀ (i : Nat) (y : RD), ys[i]? = some y → i < k → y.vl = true) (fun x _ => ys.length - (intOf x).toNat)
  case atStart => exact ⟨0, by omega, rfl, Kp.refl _, fun _ _ _ h => by omega⟩
  case round =>
    obtain ⟨k, hk, rfl, hkp, hall⟩ := hrel
    have Hall := Lib.hid hall
    clear hall
    by_cases hlt : k < ys.length
    · have hy := (h'.kp hkp).rd (List.getElem_mem hlt)
      obtain ⟨b2, o2, rfl, _, j0, j1, j2⟩ := (h'.kp hkp) k (ys[k]) (List.getElem?_eq_getElem hlt)
      have Hg := Lib.hid (List.getElem?_eq_getElem hlt)
      generalize ys[k] = y at *
      have hi1 : (0 : Int) ≤ (k : Int) := by omega
      have hi2 : (k : Int) < (ys.length : Int) := by omega
      clear h'
      go_wp2_with fail
      have hk3 := (Kp.refl wr).alloc (.cells #[.bool y.neg, .slice y.a y.xs.length y.c, .int .i64 y.e] 36)
      refine (Valid_raw y _ (hy.kp hk3)).mono ?_
      rintro e w4 ⟨rfl, hk4⟩
      have hk5 := hkp.trans (hk3.trans hk4)
      cases hv : y.vl with
      | true =>
        have Hst := Lib.hid (show ∀ (i : Nat) (y' : RD), ys[i]? = some y' → i < k + 1 → y'.vl = true from fun i y' hy' hi => by
          by_cases e : i = k
          · subst e; rw [Hg.out] at hy'; cases hy'; exact hv
          · exact Hall.out i y' hy' (by omega))
        clear hv
        go_wp2_with fail
        go_roundw
        case rel => exact ⟨k + 1, by omega, by go_num, hk5, Hst.out⟩
        case measure => simp [intOf]; omega
      | false =>
        have Hno := Lib.hid (show fltB p ys = 1 by
          rw [H.out, if_neg]
          intro h
          have := List.all_eq_true.1 h y (List.mem_of_getElem? Hg.out)
          rw [hv] at this; cases this)
        clear hv
        go_wp2_with fail
        go_ret
        exact ⟨ret_int Hno.out.symm, hk5⟩
    · have Hv := Lib.hid (show ys.all RD.vl = true from List.all_eq_true.2 fun y hy => by
        obtain ⟨i, hi⟩ := List.getElem?_of_mem hy
        exact Hall.out i y hi (by have := (List.getElem?_eq_some_iff.1 hi).1; omega))
      rw [Hv.out] at H
      go_wp2_with fail
      refine (precise_any p _).mono ?_
      rintro e w1 ⟨rfl, rfl⟩
      cases hp : preB p with
      | true =>
        rw [hp] at H
        clear hp
        go_wp2_with fail
        go_ret
        exact ⟨ret_int H.out.symm, hkp⟩
      | false =>
        rw [hp] at H
        clear hp
        go_wp2_with fail
        go_ret
        exact ⟨ret_int H.out.symm, hkp⟩
end Go.Proofs.YtkohlmlmoapedaaDoor
end

section
namespace Go.Proofs.YtkohlmlmoapedaaDoor
open Go.RowKit

/-- has a number more than 300 limbs? -/
def lngR (x : RD) : Bool := decide (300 < x.xs.length)
def lngI (x : RI) : Bool := lngR x.lo || lngR x.hi
theorem enters_large1 : Enters Tryd.prog 21 := fun _ _ => by kernel_rfl
theorem enters_large2 : Enters Tryd.prog 24 := fun _ _ => by kernel_rfl
theorem large1_any (x : RD) (w : World) :
    Calls Tryd.prog 21 #[.agg #[.bool x.neg, .slice x.a x.xs.length x.c, .int .i64 x.e]] w fun e w' => e = .returned (.bool (lngR x)) ∧ Kp w w' := by
  by_cases h : 300 < x.xs.length
  · have H := Lib.hid (show lngR x = true from decide_eq_true h)
    have hi : (300 : Int) < (x.xs.length : Int) := by omega
    go_enter Tryd.func21, Tryd.ntmps21
    go_wp2_with fail
    go_ret
    exact ⟨ret_bool H.out.symm, (Kp.refl w).alloc _⟩
  · have H := Lib.hid (show lngR x = false from decide_eq_false h)
    have hi : ¬ (300 : Int) < (x.xs.length : Int) := by omega
    go_enter Tryd.func21, Tryd.ntmps21
    go_wp2_with fail
    go_ret
    exact ⟨ret_bool H.out.symm, (Kp.refl w).alloc _⟩
theorem large2_any (x : RI) (g : Nat) (w : World) (hg : w.cell? ⟨g, 0, none⟩ = some (.func (.func 21) #[] #[])) :
    Calls Tryd.prog 24 #[.agg #[.bool x.lo.neg, .slice x.lo.a x.lo.xs.length x.lo.c, .int .i64 x.lo.e, .bool x.hi.neg, .slice x.hi.a x.hi.xs.length x.hi.c, .int .i64 x.hi.e, .bool x.all], .pointer (some ⟨g, 0, none⟩)] w fun e w' => e = .returned (.bool (lngI x)) ∧ Kp w w' := by
  have H := Lib.hid (show lngI x = (lngR x.lo || lngR x.hi) from rfl)
  have hgl := World.block_lt_of_cell? w _ hg
  have hk := (Kp.refl w).alloc (.cells #[.bool x.lo.neg, .slice x.lo.a x.lo.xs.length x.lo.c, .int .i64 x.lo.e, .bool x.hi.neg, .slice x.hi.a x.hi.xs.length x.hi.c, .int .i64 x.hi.e, .bool x.all] 39)
  have hg1 := hk.cell hg
  have hS : (w.alloc (.cells #[.bool x.lo.neg, .slice x.lo.a x.lo.xs.length x.lo.c, .int .i64 x.lo.e, .bool x.hi.neg, .slice x.hi.a x.hi.xs.length x.hi.c, .int .i64 x.hi.e, .bool x.all] 39)).cell? ⟨w.heap.size, 0, none⟩ = some (.bool x.lo.neg) ∧ (w.alloc (.cells #[.bool x.lo.neg, .slice x.lo.a x.lo.xs.length x.lo.c, .int .i64 x.lo.e, .bool x.hi.neg, .slice x.hi.a x.hi.xs.length x.hi.c, .int .i64 x.hi.e, .bool x.all] 39)).cell? ⟨w.heap.size, 1, none⟩ = some (.slice x.lo.a x.lo.xs.length x.lo.c) ∧ (w.alloc (.cells #[.bool x.lo.neg, .slice x.lo.a x.lo.xs.length x.lo.c, .int .i64 x.lo.e, .bool x.hi.neg, .slice x.hi.a x.hi.xs.length x.hi.c, .int .i64 x.hi.e, .bool x.all] 39)).cell? ⟨w.heap.size, 2, none⟩ = some (.int .i64 x.lo.e) ∧ (w.alloc (.cells #[.bool x.lo.neg, .slice x.lo.a x.lo.xs.length x.lo.c, .int .i64 x.lo.e, .bool x.hi.neg, .slice x.hi.a x.hi.xs.length x.hi.c, .int .i64 x.hi.e, .bool x.all] 39)).cell? ⟨w.heap.size, 3, none⟩ = some (.bool x.hi.neg) ∧ (w.alloc (.cells #[.bool x.lo.neg, .slice x.lo.a x.lo.xs.length x.lo.c, .int .i64 x.lo.e, .bool x.hi.neg, .slice x.hi.a x.hi.xs.length x.hi.c, .int .i64 x.hi.e, .bool x.all] 39)).cell? ⟨w.heap.size, 4, none⟩ = some (.slice x.hi.a x.hi.xs.length x.hi.c) ∧ (w.alloc (.cells #[.bool x.lo.neg, .slice x.lo.a x.lo.xs.length x.lo.c, .int .i64 x.lo.e, .bool x.hi.neg, .slice x.hi.a x.hi.xs.length x.hi.c, .int .i64 x.hi.e, .bool x.all] 39)).cell? ⟨w.heap.size, 5, none⟩ = some (.int .i64 x.hi.e) ∧ (w.alloc (.cells #[.bool x.lo.neg, .slice x.lo.a x.lo.xs.length x.lo.c, .int .i64 x.lo.e, .bool x.hi.neg, .slice x.hi.a x.hi.xs.length x.hi.c, .int .i64 x.hi.e, .bool x.all] 39)).cell? ⟨w.heap.size, 6, none⟩ = some (.bool x.all) := by simp
  clear hg
  go_enter Tryd.func24, Tryd.ntmps24
  go_wp2_with fail
  generalize w.alloc _ = W at *
  refine (large1_any x.lo _).mono ?_
  rintro e w1 ⟨rfl, hk1⟩
  have hg2 := hk1.cell hg1
  have hS1 := keep7 hk1 hS
  have hk2 := hk.trans hk1
  clear hg1 hS hk hk1
  cases h1 : lngR x.lo with
  | true =>
    rw [h1] at H
    clear h1
    go_wp2_with fail
    go_ret
    exact ⟨ret_bool (by rw [H.out]; rfl), hk2⟩
  | false =>
    rw [h1] at H
    clear h1
    go_wp2_with fail
    refine (large1_any x.hi _).mono ?_
    rintro e w3 ⟨rfl, hk3⟩
    go_wp2_with fail
    go_ret
    exact ⟨ret_bool (by rw [H.out]; simp), hk2.trans hk3⟩
theorem store_func (a : Addr) (f : Fn) (ts cap : Array Value) (m : Mode) (w : World) : (store a (.func f ts cap) m).run Tryd.prog w = Go.stored Tryd.prog w a (.func f ts cap) m := run_store _ w a _ m rfl
/-- is a box or a point too large to be looked at? -/
def lrg (zs : List RI) (ys : List RD) : Bool := decide (12 < zs.length) || (decide (12 < ys.length) || (ys.any lngR || zs.any lngI))
set_option maxRecDepth 100000 in
set_option maxHeartbeats 4000000 in
theorem large_any (a b : Option Addr) (zs : List RI) (ys : List RD) (c d : Nat) (w : World) (h : RowI w a zs) (hl : zs.length ≤ 1100000) (h' : RowD w b ys) (hl' : ys.length ≤ 1100000) :
    Calls Tryd.prog 6 #[.slice a zs.length c, .slice b ys.length d] w fun e w' => e = .returned (.bool (lrg zs ys)) ∧ Kp w w' := by
  have H := Lib.hid (show lrg zs ys = (decide (12 < zs.length) || (decide (12 < ys.length) || (ys.any lngR || zs.any lngI))) from rfl)
  have hk : Kp w (w.alloc (.cells #[.func (.func 21) #[] #[]] 48)) := (Kp.refl w).alloc _
  have hg : (w.alloc (.cells #[.func (.func 21) #[] #[]] 48)).cell? ⟨w.heap.size, 0, none⟩ = some (.func (.func 21) #[] #[]) := by simp
  have hD := Lib.hid (containsD b ys d 21 #[] _ lngR hl' (h'.kp hk) ⟨enters_large1, fun x hx w1 hk1 => large1_any x w1⟩)
  have hI := Lib.hid (fun W (k : Kp (w.alloc (.cells #[.func (.func 21) #[] #[]] 48)) W) => containsI a zs c 24 #[.pointer (some ⟨w.heap.size, 0, none⟩)] W lngI hl ((h.kp hk).kp k) ⟨enters_large2, fun x hx w1 hk1 => large2_any x _ w1 (hk1.cell (k.cell hg))⟩)
  have Hk := Lib.hid hk
  clear h h' hk
  by_cases h1 : 12 < zs.length
  · have hi : (12 : Int) < (zs.length : Int) := by omega
    rw [decide_eq_true h1] at H
    clear hg
    have hsf := store_func
    go_enter Tryd.func6, Tryd.ntmps6
    go_wp2_with fail
    go_ret
    exact ⟨ret_bool (by rw [H.out]; first | rfl | simp | (simp; omega)), Hk.out⟩
  · have hi : ¬ (12 : Int) < (zs.length : Int) := by omega
    rw [decide_eq_false h1] at H
    by_cases h2 : 12 < ys.length
    · have hi2 : (12 : Int) < (ys.length : Int) := by omega
      rw [decide_eq_true h2] at H
      clear hg
      have hsf := store_func
      go_enter Tryd.func6, Tryd.ntmps6
      go_wp2_with fail
      go_ret
      exact ⟨ret_bool (by rw [H.out]; simp), Hk.out⟩
    · have hi2 : ¬ (12 : Int) < (ys.length : Int) := by omega
      rw [decide_eq_false h2] at H
      have hsf := store_func
      go_enter Tryd.func6, Tryd.ntmps6
      go_wp2_with fail
      refine hD.out.mono ?_
      rintro e w3 ⟨rfl, hk3⟩
      cases h3 : ys.any lngR with
      | true =>
        rw [h3] at H
        clear h3
        go_wp2_with fail
        go_ret
        exact ⟨ret_bool (by rw [H.out]; simp), Hk.out.trans hk3⟩
      | false =>
        rw [h3] at H
        clear h3
        go_wp2_with fail
        refine (hI.out _ hk3).mono ?_
        rintro e w5 ⟨rfl, hk5⟩
        go_wp2_with fail
        go_ret
        exact ⟨ret_bool (by rw [H.out]; simp), (Hk.out.trans hk3).trans hk5⟩
theorem enters_r2Equal : Enters Tryd.prog 20 := fun _ _ => by kernel_rfl
theorem points_any (a b : Option Addr) (zs ys : List RD) (c d : Nat) (w : World) (h : RowD w a zs) (hl : zs.length ≤ 1100000) (h' : RowD w b ys) (_hl' : ys.length ≤ 1100000) :
    Calls Tryd.prog 19 #[.slice a zs.length c, .slice b ys.length d] w fun e w' => e = .returned (.bool (allDD eqR zs ys)) ∧ Kp w w' := by
  have hE := Lib.hid (eqfDD a b zs ys c d 20 #[] w eqR hl h h' ⟨enters_r2Equal, fun x hx y hy w2 hk2 => r2Equal_any x y w2 ((RowD.rd h hx).kp hk2) ((RowD.rd h' hy).kp hk2)⟩)
  go_enter Tryd.func19, Tryd.ntmps19
  go_wp2_with fail
  refine hE.out.mono ?_
  rintro e w5 ⟨rfl, hk5⟩
  go_wp2_with fail
  go_ret
  exact ⟨rfl, hk5⟩
set_option maxHeartbeats 4000000 in
theorem awake1_any (n : Nat) (w : World) (hn : n ≤ 1000000) :
    Calls Tryd.prog 15 #[.int .i64 n] w (DyOut w (canon false n 0)) := by
  have hB := Box3.new w (.bool false) (.slice none 0 0) (.int .i64 0) 36
  go_enter Tryd.func15, Tryd.ntmps15
  go_wp2_with fail
  refine (r2Int_any n _ (by omega)).mono ?_
  rintro e w3 ⟨a3, c3, rfl, r3, l3, m3, k3⟩
  obtain ⟨q0, q1, q2, f0, f1, f2⟩ := hB.kp k3
  have hk2 := ((Kp.refl w).alloc _).trans k3
  generalize canon false n 0 = D at *
  have hst := stored q0 q1 q2 (fun _ h => by cases h) (fun _ h => by cases h) (fun _ h => by cases h) (.bool D.neg) (.slice a3 (limbs D.m).length c3) (.int .i64 D.e)
  go_wp2_with fail
  generalize (((w3.setCell _ _).setCell _ _).setCell _ _) = W at hst ⊢
  obtain ⟨s0, s1, s2, _, s4, s5, _, _⟩ := hst
  refine bodyPost_ret (v := .agg #[.bool D.neg, .slice a3 (limbs D.m).length c3, .int .i64 D.e]) (by simp [results, Tryd.results15, go_sem, s0, s1, s2]) rfl ?_
  exact ⟨a3, c3, rfl, s4 _ _ r3, l3, m3, s5 _ hk2 (by omega)⟩
end Go.Proofs.YtkohlmlmoapedaaDoor
end

section
namespace Go.Proofs.YtkohlmlmoapedaaDoor
open Go.RowKit

theorem enters_boxValid1 : Enters Tryd.prog 25 := fun _ _ => by kernel_rfl
set_option maxHeartbeats 4000000 in
theorem boxValid1_raw (x : RI) (w : World) (h : x.rd w) :
    Calls Tryd.prog 25 #[.agg #[.bool x.lo.neg, .slice x.lo.a x.lo.xs.length x.lo.c, .int .i64 x.lo.e, .bool x.hi.neg, .slice x.hi.a x.hi.xs.length x.hi.c, .int .i64 x.hi.e, .bool x.all]] w fun e w' => e = .returned (.bool (!goodI x)) ∧ Kp w w' := by
  have H := Lib.hid (show goodI x = (!x.all && x.vl) from rfl)
  have hmv := IValid_raw x
  go_enter Tryd.func25, Tryd.ntmps25
  cases ha : x.all with
  | true =>
    rw [ha] at H
    clear ha hmv
    go_wp2_with fail
    go_ret
    exact ⟨ret_bool (by rw [H.out]; rfl), (Kp.refl w).alloc _⟩
  | false =>
    rw [ha] at H
    have hm := hmv (w.alloc (.cells #[.bool x.lo.neg, .slice x.lo.a x.lo.xs.length x.lo.c, .int .i64 x.lo.e, .bool x.hi.neg, .slice x.hi.a x.hi.xs.length x.hi.c, .int .i64 x.hi.e, .bool false] 39)) (h.kp ((Kp.refl _).alloc _))
    rw [ha] at hm
    clear ha hmv
    go_wp2_with fail
    refine hm.mono ?_
    rintro e w2 ⟨rfl, hk2⟩
    go_wp2_with fail
    go_ret
    exact ⟨ret_bool (by rw [H.out]; simp), ((Kp.refl w).alloc _).trans hk2⟩

/-- is a box valid? -/
def vlB (zs : List RI) : Bool := decide (1 ≤ zs.length) && (decide (zs.length ≤ 8) && zs.all goodI)
theorem vlB_iff {zs : List RI} : vlB zs = true ↔ 1 ≤ zs.length ∧ zs.length ≤ 8 ∧ zs.all goodI = true := by
  unfold vlB; simp
theorem RowI.rd {w : World} {a : Option Addr} {zs : List RI} (h : RowI w a zs) {x : RI} (hx : x ∈ zs) : x.rd w := by
  obtain ⟨i, hi⟩ := List.getElem?_of_mem hx
  obtain ⟨_, _, _, hr, _⟩ := h i x hi
  exact hr
set_option maxHeartbeats 4000000 in
theorem BValid_any (a : Option Addr) (zs : List RI) (c : Nat) (w : World) (h : RowI w a zs) (hl : zs.length ≤ 1100000) :
    Calls Tryd.prog 7 #[.slice a zs.length c] w fun e w' => e = .returned (.bool (vlB zs)) ∧ Kp w w' := by
  have hc := containsI a zs c 25 #[] w (fun x => !goodI x) hl h ⟨enters_boxValid1, fun x hx w1 hk => boxValid1_raw x w1 ((h.rd hx).kp hk)⟩
  have hany : (zs.any fun x => !goodI x) = !zs.all goodI := by
    rw [Bool.eq_iff_iff]; simp
  rw [hany] at hc
  have Hc := Lib.hid hc
  clear hc hany h
  have H := Lib.hid (show vlB zs = (decide (1 ≤ zs.length) && (decide (zs.length ≤ 8) && zs.all goodI)) from rfl)
  go_enter Tryd.func7, Tryd.ntmps7
  by_cases h1 : 1 ≤ zs.length
  · have d1 : decide (1 ≤ zs.length) = true := decide_eq_true h1
    have e1 : decide ((1 : Int) ≤ (zs.length : Int)) = true := decide_eq_true (by omega)
    rw [d1] at H
    clear d1
    by_cases h2 : zs.length ≤ 8
    · have d2 : decide (zs.length ≤ 8) = true := decide_eq_true h2
      have e2 : decide ((zs.length : Int) ≤ 8) = true := decide_eq_true (by omega)
      rw [d2] at H
      clear d2
      go_wp2_with (refine Hc.out.mono ?_; rintro e w2 ⟨rfl, hk2⟩)
      go_ret
      exact ⟨ret_bool (by rw [H.out]; simp), hk2⟩
    · have d2 : decide (zs.length ≤ 8) = false := decide_eq_false h2
      have e2 : decide ((zs.length : Int) ≤ 8) = false := decide_eq_false (by omega)
      rw [d2] at H
      clear d2
      go_wp2_with fail
      go_ret
      exact ⟨ret_bool (by rw [H.out]; simp), .refl _⟩
  · have d1 : decide (1 ≤ zs.length) = false := decide_eq_false h1
    have e1 : decide ((1 : Int) ≤ (zs.length : Int)) = false := decide_eq_false (by omega)
    rw [d1] at H
    clear d1
    go_wp2_with fail
    go_ret
    exact ⟨ret_bool (by rw [H.out]; simp), .refl _⟩

/-- are both boxes valid, with as many components? -/
def vl2 (zs ys : List RI) : Bool := vlB zs && (vlB ys && decide (zs.length = ys.length))
set_option maxHeartbeats 4000000 in
theorem two_any (a b : Option Addr) (zs ys : List RI) (c d : Nat) (w : World) (h : RowI w a zs) (hl : zs.length ≤ 1100000) (h' : RowI w b ys) (hl' : ys.length ≤ 1100000) :
    Calls Tryd.prog 27 #[.slice a zs.length c, .slice b ys.length d] w fun e w' => e = .returned (.bool (vl2 zs ys)) ∧ Kp w w' := by
  have H := Lib.hid (show vl2 zs ys = (vlB zs && (vlB ys && decide (zs.length = ys.length))) from rfl)
  go_enter Tryd.func27, Tryd.ntmps27
  go_wp2_with fail
  refine (BValid_any a zs c _ h hl).mono ?_
  rintro e w1 ⟨rfl, hk1⟩
  cases hz : vlB zs with
  | false =>
    rw [hz] at H
    clear hz
    go_wp2_with fail
    go_ret
    exact ⟨ret_bool (by rw [H.out]; simp), hk1⟩
  | true =>
    rw [hz] at H
    clear hz
    go_wp2_with fail
    refine (BValid_any b ys d _ (h'.kp hk1) hl').mono ?_
    rintro e w2 ⟨rfl, hk2⟩
    cases hy : vlB ys with
    | false =>
      rw [hy] at H
      clear hy
      go_wp2_with fail
      go_ret
      exact ⟨ret_bool (by rw [H.out]; simp), hk1.trans hk2⟩
    | true =>
      rw [hy] at H
      clear hy
      go_wp2_with fail
      go_ret
      exact ⟨ret_bool (by rw [H.out]; exact Bool.eq_iff_iff.2 (by simp; omega)), hk1.trans hk2⟩
end Go.Proofs.YtkohlmlmoapedaaDoor
end
