/-
  Walks: natural.divide, DivMod, of any numbers.
-/
import Derived.Test.YtbhmhfnfceakoaaGreatDoorMKnuD
import Derived.Test.YtbhmhfnfceakoaaGreatDoorMSumH
import Derived.Test.YtbhmhfnfceakoaaGreatDoorMNrmP
import Derived.Test.YtbhmhfnfceakoaaGreatDoorMNear
import Derived.Deep.Cut
import Derived.Test.YtbhmhfnfceakoaaGreatDoorMRoAdd
import Derived.Test.YtbhmhfnfceakoaaGreatDoorMIvT
import Derived.Test.YtbhmhfnfceakoaaGreatDoorMOwnM
import Derived.Test.YtbhmhfnfceakoaaGreatDoorMDotM
import Derived.Deep.RegionHeld3
import Derived.Deep.RegionLaw
import Derived.Deep.CutRange
import Derived.Test.YtbhmhfnfceakoaaGreatDoorMIdxN
import Derived.Test.YtbhmhfnfceakoaaGreatDoorMDy
import Derived.Shelf.Spec.TrailingZeros
namespace Go.Proofs.YtbhmhfnfceakoaaGreatDoor
open Go.RowKit
set_option maxRecDepth 100000 in
set_option maxHeartbeats 4000000 in
theorem divide0_any (a b : Option Addr) (xs ys : List Nat) (c d : Nat) (w : World) (hx : Rd w a xs) (hy : Rd w b ys) (hxl : xs.length ≤ 256) (hxc : xs.length ≤ c) (hyc : ys.length ≤ d) (hc : c ≤ maxLen) (hd : d ≤ maxLen) (hlt : val xs < val ys) :
    Calls Tryz.prog 244 #[.slice a xs.length c, .slice b ys.length d] w (DivOut w (val xs) (val ys) 256) := by
  have H1 := Lib.hid (trim_any a xs c w hx hxc hc)
  have H2 := Lib.hid (trim_any b ys d w hy hyc hd)
  have g1 := hx.limbs
  have g2 := hy.limbs
  have hl1 := limbs_len_le hx.lt32
  have hl2 := limbs_len_le hy.lt32
  have Hv1 := Lib.hid (val_limbs (val xs))
  have Hv2 := Lib.hid (val_limbs (val ys))
  have hcu : (limbs (val xs)).length ≤ c := by omega
  have hcv : (limbs (val ys)).length ≤ d := by omega
  go_enter Tryz.func244, Tryz.ntmps244
  go_wp2_with fail
  refine H1.out.mono ?_
  rintro e w2 ⟨rfl, rfl⟩
  go_wp2_with fail
  refine H2.out.mono ?_
  rintro e w2 ⟨rfl, rfl⟩
  clear H1 H2 hx hy
  generalize val xs = m at *
  generalize val ys = n at *
  generalize limbs m = us at *
  generalize limbs n = vs at *
  have hul : us.length ≤ 256 := by omega
  clear hxl hxc hyc hl1 hl2
  go_wp2_with fail
  refine (cmp_any a b us vs c d _ g1 g2 hcu hcv hc hd).mono ?_
  rw [Hv1.out, Hv2.out]
  rintro e w3 ⟨rfl, hk3⟩
  have hcm : cmpN m n < 0 := by rw [cmpN_lt hlt]; decide
  have Hlt := Lib.hid hlt
  clear hlt
  go_wp2_with fail
  refine (clone_any a us c _ (g1.kp hk3) (by omega)).mono ?_
  rintro e w4 ⟨a4, c4, rfl, r4, l4, m4, hk4⟩
  go_wp2_with fail
  refine bodyPost_ret (v := .tuple #[.slice none 0 0, .slice a4 us.length c4]) (by simp [results, Tryz.results244, go_sem]) rfl ?_
  exact ⟨none, 0, [], a4, c4, us, rfl, Nat.le_refl _, by decide, l4, m4, .nil _ _, r4, by rw [Nat.div_eq_of_lt Hlt.out]; rfl, by rw [Nat.mod_eq_of_lt Hlt.out]; exact Hv1.out, Nat.zero_le _, hul, hk3.trans hk4⟩
theorem divide_any (a b : Option Addr) (xs ys : List Nat) (c d : Nat) (w : World) (hx : Rd w a xs) (hy : Rd w b ys) (hxl : xs.length ≤ 256) (hxc : xs.length ≤ c) (hyc : ys.length ≤ d) (hc : c ≤ maxLen) (hd : d ≤ maxLen) (h0 : val ys ≠ 0) :
    Calls Tryz.prog 244 #[.slice a xs.length c, .slice b ys.length d] w (DivOut w (val xs) (val ys) 256) := by
  rcases Nat.lt_or_ge (val xs) (val ys) with h | h
  · exact divide0_any a b xs ys c d w hx hy hxl hxc hyc hc hd h
  have h1 : limbs (val ys) ≠ [] := fun h => h0 (limbs_eq_nil.1 h)
  have h2 := List.length_pos_iff.2 h1
  rcases (show (limbs (val ys)).length = 1 ∨ 2 ≤ (limbs (val ys)).length by omega) with h3 | h3
  · exact divide1_any a b xs ys c d w hx hy hxl hxc hyc hc hd h3
  exact divide2_any a b xs ys c d w hx hy hxl hxc hyc hc hd h3 h
def quoK (x y : RD) (p : Int) (t : Nat) : Nat := (p + t + bits (val y.xs) - bits (val x.xs)).toNat
def divB (x y : RD) (p : Int) (up : Bool) : Dy × Int :=
  if fltB p [x, y] = 0 then (if y.xs.length = 0 then (.zero, 10) else if x.xs.length = 0 then (.zero, 0) else rndE (quoR (x.neg != y.neg) (val x.xs) (val y.xs) (x.e - y.e) p.toNat up (quoK x y p 2)))
  else (.zero, fltB p [x, y])
set_option maxRecDepth 100000 in
set_option maxHeartbeats 8000000 in
theorem div_rd (x y : RD) (p : Int) (up : Bool) (w : World) (hx : x.rd w) (hy : y.rd w) (hT : Tab w) :
    Calls Tryz.prog 208 #[.agg #[.bool x.neg, .slice x.a x.xs.length x.c, .int .i64 x.e], .agg #[.bool y.neg, .slice y.a y.xs.length y.c, .int .i64 y.e], .int .i64 p, .bool up] w (NumE w (divB x y p up).1 (divB x y p up).2) := by
  obtain ⟨D, hD⟩ : ∃ D, D = divB x y p up := ⟨_, rfl⟩
  have HD := Lib.hid hD
  rw [← hD]
  clear hD
  by_cases hmain : fltB p [x, y] = 0 ∧ y.xs.length ≠ 0 ∧ x.xs.length ≠ 0
  · obtain ⟨h0, hy0, hx0⟩ := hmain
    obtain ⟨hv, hp0, hp1⟩ := fltB_zero.1 h0
    obtain ⟨q, rfl⟩ := Int.eq_ofNat_of_zero_le (show 0 ≤ p by omega)
    have hxo : x.ok w := ⟨hx, by simpa using (List.all_eq_true.1 hv) x (by simp)⟩
    have hyo : y.ok w := ⟨hy, by simpa using (List.all_eq_true.1 hv) y (by simp)⟩
    have zx := rdok_zero hxo
    have zy := rdok_zero hyo
    have hxm : val x.xs ≠ 0 := fun h => hx0 (zx.2 h)
    have hym : val y.xs ≠ 0 := fun h => hy0 (zy.2 h)
    have hK : ((quoK x y q 3 : Nat) : Int) = max 0 ((q : Int) + 3 + bits (val y.xs) - bits (val x.xs)) := by unfold quoK; omega
    have hbx : bits (val x.xs) ≤ 4096 := dok_bits (rdok_dy hxo)
    have hby : bits (val y.xs) ≤ 4096 := dok_bits (rdok_dy hyo)
    have hlim : (limbs (val x.xs * 2 ^ quoK x y q 3)).length ≤ 256 := limbs_of_bits (by rw [bits_mul_pow hxm]; omega)
    have H := div_of x y q (quoK x y q 3) up w hxo hyo hxm hym (by omega) (by omega) hT hK (fun W a c k hr hc hm hyr => by
      have h := divide_any a y.a (limbs (val x.xs * 2 ^ quoK x y q 3)) y.xs c y.c W hr hyr hlim hc hyo.1.2.1 hm hyo.1.2.2.1 hym
      rwa [val_limbs] at h)
    have e : quoR (x.neg != y.neg) (val x.xs) (val y.xs) (x.e - y.e) q up (quoK x y q 3) = quoR (x.neg != y.neg) (val x.xs) (val y.xs) (x.e - y.e) q up (quoK x y q 2) := by
      have h3 : quoK x y q 3 = quoK x y q 2 + (quoK x y q 3 - quoK x y q 2) := by unfold quoK; omega
      rw [h3]
      exact quoR_more hxm hym (by omega) (by unfold quoK; omega)
    have hDD : D = rndE (rndS (x.neg != y.neg) (val x.xs * 2 ^ quoK x y q 3 / val y.xs) (x.e - quoK x y q 3 - y.e) (decide (0 < bits (val x.xs * 2 ^ quoK x y q 3 % val y.xs))) q up) := by
      rw [HD.out]
      unfold divB
      rw [if_pos h0, if_neg hy0, if_neg hx0, Int.toNat_natCast, ← e]
      unfold quoR
      rw [show x.e - y.e - (quoK x y q 3 : Int) = x.e - quoK x y q 3 - y.e by omega]
    rw [hDD]
    exact H
  go_enter Tryz.func208, Tryz.ntmps208
  go_wp2_with fail
  generalize hW : (((w.alloc _).alloc _).alloc _) = W at *
  have hk : Kp w W := hW ▸ (((Kp.refl w).alloc _).alloc _).alloc _
  have hS : W.cell? ⟨w.heap.size, 0, none⟩ = some (.bool x.neg) ∧ W.cell? ⟨w.heap.size, 1, none⟩ = some (.slice x.a x.xs.length x.c) ∧ W.cell? ⟨w.heap.size, 2, none⟩ = some (.int .i64 x.e) ∧ W.cell? ⟨w.heap.size + 1, 0, none⟩ = some (.bool y.neg) ∧ W.cell? ⟨w.heap.size + 1, 1, none⟩ = some (.slice y.a y.xs.length y.c) ∧ W.cell? ⟨w.heap.size + 1, 2, none⟩ = some (.int .i64 y.e) := by rw [← hW]; exact keep6 ((Kp.refl _).alloc _) (by simp)
  have hB : Box3 W (w.heap.size + 2) (.bool false) (.slice none 0 0) (.int .i64 0) := hW ▸ Box3.new3 _ _ _ _ _ _ _
  have hsz : W.heap.size = w.heap.size + 1 + 1 + 1 := by rw [← hW]; simp
  clear hW
  have hka := (Kp.refl W).alloc (.cells #[.bool x.neg, .slice x.a x.xs.length x.c, .int .i64 x.e, .bool y.neg, .slice y.a y.xs.length y.c, .int .i64 y.e] 38)
  have hRw := rowD_two W x y (hx.kp hk) (hy.kp hk) 38
  rw [hsz] at hRw
  clear hsz
  refine (fault_any p _ [x, y] 2 _ hRw (by simp)).mono ?_
  rintro e w1 ⟨rfl, hk1⟩
  have hS1 := keepRR (hka.trans hk1) hS
  have hB1 := hB.kp (hka.trans hk1)
  have hk2 := hk.trans (hka.trans hk1)
  clear hS hB hk hk1 hka hRw
  by_cases h0 : fltB p [x, y] = 0
  rotate_left
  · have hz : (fltB p [x, y] == 0) = false := beq_eq_false_iff_ne.2 h0
    have hz2 : (fltB p [x, y] != 0) = true := by rw [bne, hz]; rfl
    have HD2 := Lib.hid (show D = (.zero, fltB p [x, y]) by rw [HD.out]; unfold divB; rw [if_neg h0])
    clear h0 hS1 hmain
    obtain ⟨q0, q1, q2, f0, f1, f2⟩ := hB1
    go_wp2_with fail
    have hst := stored q0 q1 q2 (fun _ h => by cases h) (fun _ h => by cases h) (fun _ h => by cases h) (.bool false) (.slice none 0 0) (.int .i64 0)
    generalize (((w1.setCell _ _).setCell _ _).setCell _ _) = W9 at hst ⊢
    obtain ⟨s0, s1, s2, _, s4, s5, _, _⟩ := hst
    refine bodyPost_ret (v := .tuple #[.agg #[.bool false, .slice none 0 0, .int .i64 0], .int .i64 (fltB p [x, y])]) (by simp [results, Tryz.results208, go_sem, s0, s1, s2]) rfl ?_
    rw [HD2.out]
    exact numE_zero rfl (s5 _ hk2 (by omega))
  rw [h0]
  obtain ⟨q0, q1, q2, f0, f1, f2⟩ := hB1
  obtain ⟨s0, s1, s2, t0, t1, t2⟩ := hS1
  by_cases hy0 : y.xs.length = 0
  · have hz : ((y.xs.length : Int) == 0) = true := beq_iff_eq.2 (by omega)
    have HD3 := Lib.hid (show D = (.zero, 10) by rw [HD.out]; unfold divB; rw [if_pos h0, if_pos hy0])
    clear hy0 h0 hmain
    go_wp2_with fail
    have hst := stored q0 q1 q2 (fun _ h => by cases h) (fun _ h => by cases h) (fun _ h => by cases h) (.bool false) (.slice none 0 0) (.int .i64 0)
    generalize (((w1.setCell _ _).setCell _ _).setCell _ _) = W9 at hst ⊢
    obtain ⟨s0, s1, s2, _, s4, s5, _, _⟩ := hst
    refine bodyPost_ret (v := .tuple #[.agg #[.bool false, .slice none 0 0, .int .i64 0], .int .i64 10]) (by simp [results, Tryz.results208, go_sem, s0, s1, s2]) rfl ?_
    rw [HD3.out]
    exact numE_zero rfl (s5 _ hk2 (by omega))
  have hx0 : x.xs.length = 0 := Classical.byContradiction fun h => hmain ⟨h0, hy0, h⟩
  have hz : ((y.xs.length : Int) == 0) = false := beq_eq_false_iff_ne.2 (by omega)
  have hz2 : ((x.xs.length : Int) == 0) = true := beq_iff_eq.2 (by omega)
  have HD3 := Lib.hid (show D = (.zero, 0) by rw [HD.out]; unfold divB; rw [if_pos h0, if_neg hy0, if_pos hx0])
  clear hy0 h0 hx0 hmain
  go_wp2_with fail
  have hst := stored q0 q1 q2 (fun _ h => by cases h) (fun _ h => by cases h) (fun _ h => by cases h) (.bool false) (.slice none 0 0) (.int .i64 0)
  generalize (((w1.setCell _ _).setCell _ _).setCell _ _) = W9 at hst ⊢
  obtain ⟨s0, s1, s2, _, s4, s5, _, _⟩ := hst
  refine bodyPost_ret (v := .tuple #[.agg #[.bool false, .slice none 0 0, .int .i64 0], .int .i64 0]) (by simp [results, Tryz.results208, go_sem, s0, s1, s2]) rfl ?_
  rw [HD3.out]
  exact numE_zero rfl (s5 _ hk2 (by omega))

end Go.Proofs.YtbhmhfnfceakoaaGreatDoor
section
namespace Go.Proofs.YtbhmhfnfceakoaaGreatDoor

end Go.Proofs.YtbhmhfnfceakoaaGreatDoor
end
namespace Go.Proofs.YtbhmhfnfceakoaaGreatDoor
open Go.RowKit

def endR (x : RI) (d : RD) : Prop := d = x.lo ∨ d = x.hi
theorem endR.ok {w : World} {x : RI} {d : RD} (h : endR x d) (hx : x.rd w) (hv : x.vl = true) : d.rd w ∧ d.vl = true := by
  have hz : ∀ y : RD, y.zr = true → y.vl = true := fun y hy => by
    obtain ⟨h1, h2, h3⟩ := RD.zr_parts.1 hy
    unfold RD.vl; rw [h1, h2, h3]; exact rdZero_vl
  have hp : x.lo.vl = true ∧ x.hi.vl = true := by
    unfold RI.vl at hv
    split at hv
    · rw [Bool.and_eq_true] at hv; exact ⟨hz _ hv.1, hz _ hv.2⟩
    · rw [Bool.and_eq_true, Bool.and_eq_true] at hv; exact ⟨hv.1, hv.2.1⟩
  rcases h with rfl | rfl
  · exact ⟨hx.1, hp.1⟩
  exact ⟨hx.2, hp.2⟩
def sumZ (c : Nat → Int) : Nat → Int
  | 0 => 0
  | t + 1 => sumZ c t + c t
theorem sumZ_congr {c d : Nat → Int} : ∀ {n : Nat}, (∀ t, t < n → c t = d t) → sumZ c n = sumZ d n
  | 0, _ => rfl
  | n + 1, h => by show sumZ c n + c n = sumZ d n + d n; rw [sumZ_congr (fun t ht => h t (by omega)), h n (by omega)]
def dotS (l z : List RD) (k : Nat) (v : Int) : Prop := ∃ c : Nat → Int, (∀ (t : Nat) (x y : RD), t < k → l[t]? = some x → z[t]? = some y → c t * 2 ^ 16384 = x.iv * y.iv) ∧ v = sumZ c k
theorem dotS.zero (l z : List RD) : dotS l z 0 0 := ⟨fun _ => 0, fun t x y h => by omega, rfl⟩
theorem dotS.step {l z : List RD} {k : Nat} {v q : Int} {x y : RD} (h : dotS l z k v) (hx : l[k]? = some x) (hy : z[k]? = some y) (hq : q * 2 ^ 16384 = x.iv * y.iv) : dotS l z (k + 1) (v + q) := by
  obtain ⟨c, h1, rfl⟩ := h
  refine ⟨fun t => if t = k then q else c t, fun t a b ht ha hb => ?_, ?_⟩
  · by_cases e : t = k
    · subst e; rw [hx] at ha; rw [hy] at hb; cases ha; cases hb; show (if t = t then q else c t) * _ = _; rw [if_pos rfl]; exact hq
    show (if t = k then q else c t) * _ = _; rw [if_neg e]; exact h1 t a b (by omega) ha hb
  show sumZ c k + q = sumZ _ k + (if k = k then q else c k)
  rw [if_pos rfl, sumZ_congr (c := fun t => if t = k then q else c t) (d := c) (fun t ht => if_neg (by omega))]
theorem make_rows (i : Int) (n : Nat) (e : i = n) (hn : n ≤ 9000000) (u : World) : (Instr.makeSlice 27 (.int .i64 i) (.int .i64 i)).run Tryz.prog u =
    .ok (.slice (some ⟨u.heap.size, 0, none⟩) n n) (u.alloc (.cells (madeCells #[.slice none 0 0] n) 24)) := by
  subst e
  obtain ⟨i0, hi, hz0, hz1, hz2⟩ := info_parts infoSlI
  have h := run_make (P := Tryz.prog) u 27 24 i0 (.slice none 0 0) Tryz.underlying27 hi hz0 .i64 .i64 (n : Int) (n : Int) (by omega) (Int.le_refl _) (by rw [hz2]; omega) (by omega)
  simpa [hz1, Value.cells] using h
theorem OutH.made (w : World) (n : Nat) : OutH w (w.alloc (.cells (madeCells #[.slice none 0 0] n) 24)) w.heap.size n [] := by
  have hg := heap_alloc_new w (.cells (madeCells #[.slice none 0 0] n) 24)
  refine ⟨⟨Nat.le_refl _, by simp, by simp⟩, (Kp.refl w).alloc _, fun i _ => frozen_of_row _ _ _ _ _ hg, fun i _ hi => ?_, fun i r h => by simp at h⟩
  rw [cell_of_row _ _ _ _ _ _ hg, ← Array.getElem?_toList, toList_madeCells_one]
  simp [hi]
theorem step_append_ivg {w : World} {ops : Array Oper} {o : Oper} {a : Act} {K : Act → World → Prop} {Q : Exit → Act → World → Prop} {E : Prop} (hgd : o.guard = none) (s x : Operand)
    (ho : o.op = .call { callee := .builtin .append, args := #[s, x], argTypes := #[24, 24] })
    (wb : World) (v : Value) (zs : List RI) (hs : a.eval s = v) (hown : OwnN wb w v zs)
    (g c : Nat) (hx : a.eval x = .slice (some ⟨g, 0, none⟩) 1 c) (y : RI) (hy : y.rd w)
    (hcell : w.cell? ⟨g, 0, none⟩ = some (.bool y.lo.neg) ∧ w.cell? ⟨g, 1, none⟩ = some (.slice y.lo.a y.lo.xs.length y.lo.c) ∧ w.cell? ⟨g, 2, none⟩ = some (.int .i64 y.lo.e) ∧ w.cell? ⟨g, 3, none⟩ = some (.bool y.hi.neg) ∧ w.cell? ⟨g, 4, none⟩ = some (.slice y.hi.a y.hi.xs.length y.hi.c) ∧ w.cell? ⟨g, 5, none⟩ = some (.int .i64 y.hi.e) ∧ w.cell? ⟨g, 6, none⟩ = some (.bool y.all)) (hlen : zs.length + 1 ≤ 9000000)
    (h : ∀ a' c' w', OwnN wb w' (.slice a' (zs.length + 1) c') (zs ++ [y]) → w.grownBy w' v.ownBlock → (v.ownBlock = (Value.slice a' (zs.length + 1) c').ownBlock ∨ (Value.slice a' (zs.length + 1) c').ownBlock = some w.heap.size) → K (a.put o.dst (.slice a' (zs.length + 1) c')) w') :
    if Region.wanted o (yielded ops a.tmps) = true then Oper.wp Tryz.prog o a w K Q else E := by
  have hw : Region.wanted o (yielded ops a.tmps) = true := by simp [Region.wanted, hgd]
  rw [if_pos hw]
  obtain ⟨i0, hi, hz0, hz1, hz2⟩ := info_parts infoIvl
  obtain ⟨hk, hown1, hall, hrows⟩ := hown
  obtain ⟨g', cap, w', hr, h1, h2, h3, h6⟩ := append_all (P := Tryz.prog) w NoU 24 o.type wb.heap.size 44 i0 (.agg #[.bool false, .slice none 0 0, .int .i64 0, .bool false, .slice none 0 0, .int .i64 0, .bool false]) 7 88 Tryz.underlying24 hi hz0 hz1 hz2 rfl (by decide) v zs.length (zs.flatMap RI.cells) hown1
    ⟨g, 0, none⟩ 1 c y.cells rfl (by
      intro j u hj
      obtain ⟨h0, h1, h2, h3, h4, h5, h6⟩ := hcell
      match j, hj with
      | 0, hj => cases hj; simpa [Addr.add] using h0
      | 1, hj => cases hj; simpa [Addr.add] using h1
      | 2, hj => cases hj; simpa [Addr.add] using h2
      | 3, hj => cases hj; simpa [Addr.add] using h3
      | 4, hj => cases hj; simpa [Addr.add] using h4
      | 5, hj => cases hj; simpa [Addr.add] using h5
      | 6, hj => cases hj; simpa [Addr.add] using h6
      | j + 7, hj => simp [RI.cells] at hj) (by
      intro u hu
      simp only [RI.cells, List.mem_cons, List.not_mem_nil, or_false] at hu
      rcases hu with rfl | rfl | rfl | rfl | rfl | rfl | rfl <;> rfl) (by decide) (by unfold maxLen; omega) (by omega) hk.size hall noU_cells (by
      intro u hu y e
      simp [Value.cells] at hu
      rcases hu with rfl | rfl | rfl | rfl | rfl | rfl | rfl <;> cases e)
  unfold Oper.wp execOp
  simp only [ho, resolve, invoke, builtin, Sem.run_bind, Sem.run_pure, Result.andThen_ok, List.map_toArray, List.map_cons, List.map_nil, hs, hx, hr]
  have hb : Below wb.heap.size w w' := (Below.refl wb.heap.size w).grown h2 hk.size (fun k hk => (hown1.lt k hk).1)
  refine h _ _ w' ⟨Below.trans hk hb, ?_, h6, fun q hq => ?_⟩ h2 ?_
  · rw [List.flatMap_append, List.length_append]
    simpa using h1
  · rcases List.mem_append.1 hq with hq | hq
    · exact (hrows q hq).far h2 hall
    simp only [List.mem_singleton] at hq
    subst hq
    exact hy.far h2 hall
  rcases h3 with h3 | h3
  · exact .inl h3
  subst h3; exact .inr rfl
theorem OutM.cellF {wb w : World} {g n : Nat} {R : List (List RI)} {v : Value} {cur : List RI} (h : OutM wb w g n R v cur) : w.cell? ⟨g, R.length, none⟩ = some v ∧ w.frozen? ⟨g, R.length, none⟩ = false :=
  ⟨h.2.2.1, h.2.2.2.1 _ h.1.2.2.1⟩
theorem OutM.cellG {wb w w' : World} {g n : Nat} {R : List (List RI)} {v : Value} {cur : List RI} (h : OutM wb w g n R v cur) (hg : w.grownBy w' v.ownBlock) : w'.cell? ⟨g, R.length, none⟩ = some v ∧ w'.frozen? ⟨g, R.length, none⟩ = false := by
  obtain ⟨⟨h1, h2, h3, h4⟩, ho0, hv0, hf, hz, hr⟩ := h
  refine ⟨hg.cell hv0 (fun e => h4 e.symm), ?_⟩
  have := hg.block g h2 (fun e => h4 e.symm)
  have hh := hf _ h3
  unfold World.frozen? at hh ⊢
  rw [this]; exact hh
theorem OwnN.noU {wb w : World} {v : Value} {zs : List RI} (h : OwnN wb w v zs) : NoU v := by
  obtain ⟨a, c, e, _⟩ := h.value
  subst e
  intro x h; cases h
theorem set10 {w : World} {g bb bj b2 o2 b o : Nat} (n1 : bb ≠ g) (n2 : bj ≠ g) (n3 : b2 ≠ g) (n : b ≠ g) {u0 u1 u2 v0 v1 v2 v3 v4 v5 v6 x0 x1 x2 x3 x4 x5 x6 : Value}
    (h : w.cell? ⟨bb, 0, none⟩ = some u0 ∧ w.cell? ⟨bj, 0, none⟩ = some u1 ∧ w.cell? ⟨b2, o2, none⟩ = some u2 ∧ w.cell? ⟨b, o, none⟩ = some v0 ∧ w.cell? ⟨b, o + 1, none⟩ = some v1 ∧ w.cell? ⟨b, o + 2, none⟩ = some v2 ∧ w.cell? ⟨b, o + 3, none⟩ = some v3 ∧ w.cell? ⟨b, o + 4, none⟩ = some v4 ∧ w.cell? ⟨b, o + 5, none⟩ = some v5 ∧ w.cell? ⟨b, o + 6, none⟩ = some v6) :
    (fun W : World => W.cell? ⟨bb, 0, none⟩ = some u0 ∧ W.cell? ⟨bj, 0, none⟩ = some u1 ∧ W.cell? ⟨b2, o2, none⟩ = some u2 ∧ W.cell? ⟨b, o, none⟩ = some v0 ∧ W.cell? ⟨b, o + 1, none⟩ = some v1 ∧ W.cell? ⟨b, o + 2, none⟩ = some v2 ∧ W.cell? ⟨b, o + 3, none⟩ = some v3 ∧ W.cell? ⟨b, o + 4, none⟩ = some v4 ∧ W.cell? ⟨b, o + 5, none⟩ = some v5 ∧ W.cell? ⟨b, o + 6, none⟩ = some v6)
      (((((((w.setCell ⟨g, 0, none⟩ x0).setCell ⟨g, 1, none⟩ x1).setCell ⟨g, 2, none⟩ x2).setCell ⟨g, 3, none⟩ x3).setCell ⟨g, 4, none⟩ x4).setCell ⟨g, 5, none⟩ x5).setCell ⟨g, 6, none⟩ x6) := by
  have ne (i : Nat) (c j : Nat) (n : c ≠ g) : (⟨g, i, none⟩ : Addr) ≠ ⟨c, j, none⟩ := fun e => n (by injection e with e1; exact e1.symm)
  have key (c j : Nat) (n : c ≠ g) : (((((((w.setCell ⟨g, 0, none⟩ x0).setCell ⟨g, 1, none⟩ x1).setCell ⟨g, 2, none⟩ x2).setCell ⟨g, 3, none⟩ x3).setCell ⟨g, 4, none⟩ x4).setCell ⟨g, 5, none⟩ x5).setCell ⟨g, 6, none⟩ x6).cell? ⟨c, j, none⟩ = w.cell? ⟨c, j, none⟩ := by
    rw [cell_set_ne (ne 6 c j n), cell_set_ne (ne 5 c j n), cell_set_ne (ne 4 c j n), cell_set_ne (ne 3 c j n), cell_set_ne (ne 2 c j n), cell_set_ne (ne 1 c j n), cell_set_ne (ne 0 c j n)]
  simp only [key _ _ n1, key _ _ n2, key _ _ n3, key _ _ n]
  exact h
theorem keep10 {w w' : World} (k : Kp w w') {p0 p1 p2 p3 p4 p5 p6 p7 p8 p9 : Addr} {u0 u1 u2 v0 v1 v2 v3 v4 v5 v6 : Value} (h : w.cell? p0 = some u0 ∧ w.cell? p1 = some u1 ∧ w.cell? p2 = some u2 ∧ w.cell? p3 = some v0 ∧ w.cell? p4 = some v1 ∧ w.cell? p5 = some v2 ∧ w.cell? p6 = some v3 ∧ w.cell? p7 = some v4 ∧ w.cell? p8 = some v5 ∧ w.cell? p9 = some v6) : w'.cell? p0 = some u0 ∧ w'.cell? p1 = some u1 ∧ w'.cell? p2 = some u2 ∧ w'.cell? p3 = some v0 ∧ w'.cell? p4 = some v1 ∧ w'.cell? p5 = some v2 ∧ w'.cell? p6 = some v3 ∧ w'.cell? p7 = some v4 ∧ w'.cell? p8 = some v5 ∧ w'.cell? p9 = some v6 := by
  obtain ⟨h0, h1, h2, h3, h4, h5, h6, h7, h8, h9⟩ := h
  exact ⟨k.cell h0, k.cell h1, k.cell h2, k.cell h3, k.cell h4, k.cell h5, k.cell h6, k.cell h7, k.cell h8, k.cell h9⟩
set_option maxRecDepth 100000 in
set_option maxHeartbeats 4000000 in
theorem mulat_any (m : List (List RI)) (a : Option Addr) (c k j bb bj : Nat) (w : World) (hm : RowM w a m) (hv : vlM m = true) (hb : w.cell? ⟨bb, 0, none⟩ = some (.slice a m.length c)) (hj : w.cell? ⟨bj, 0, none⟩ = some (.int .i64 (j : Int)))
    (hk : k < m.length) (hj2 : j < colsM m) :
    Calls Tryz.prog 148 #[.int .i64 (k : Int), .pointer (some ⟨bb, 0, none⟩), .pointer (some ⟨bj, 0, none⟩)] w (IvOut w (atP m k j)) := by
  obtain ⟨r, x, hr, hx, hxv, hat⟩ := vlM_get hv hk hj2
  have HX := Lib.hid (show x.pl = atP m k j by unfold atP; rw [hat])
  have Hv := Lib.hid hxv
  have hlb := (vlM_iff.1 hv).1.2
  have hlr : r.length ≤ 8 := by rw [(vlM_row hv hr).1]; exact (vlM_iff.1 hv).2.1.2
  have hjr := (List.getElem?_eq_some_iff.1 hx).1
  obtain ⟨b2, o2, ra, rc, rfl, hc2, hrow, _⟩ := hm k r hr
  obtain ⟨b3, o3, rfl, hrd, hS⟩ := hrow j x hx
  have k1 := (Kp.refl w).alloc (.cells #[.bool false, .slice none 0 0, .int .i64 0, .bool false, .slice none 0 0, .int .i64 0, .bool false] 44)
  have k2 := Lib.hid k1
  have n1 : bb ≠ w.heap.size := Nat.ne_of_lt (World.block_lt_of_cell? w _ hb)
  have n2 : bj ≠ w.heap.size := Nat.ne_of_lt (World.block_lt_of_cell? w _ hj)
  have n3 : b2 ≠ w.heap.size := Nat.ne_of_lt (World.block_lt_of_cell? w _ hc2)
  have n4 : b3 ≠ w.heap.size := Nat.ne_of_lt (World.block_lt_of_cell? w _ hS.1)
  have hi1 : (0 : Int) ≤ (k : Int) := by omega
  have hi2 : (k : Int) < (m.length : Int) := by omega
  have hi3 : (0 : Int) ≤ (j : Int) := by omega
  have hi4 : (j : Int) < (r.length : Int) := by omega
  have HR := Lib.hid (hrd.kp k2.out)
  have hSS := And.intro (k2.out.cell hb) (And.intro (k2.out.cell hj) (And.intro (k2.out.cell hc2) (keep7 k2.out hS)))
  have hV := Var7.new w 44
  clear hv hxv hr hx hat hm hrow hb hj hc2 hS hrd k1
  go_enter Tryz.func148, Tryz.ntmps148
  go_upto_region 1 with fail
  generalize w.alloc _ = W at *
  have kd := (Kp.refl W).drew
  have hSd : W.drew.cell? ⟨bb, 0, none⟩ = some (.slice (some ⟨b2, o2, none⟩) m.length c) ∧ W.drew.cell? ⟨bj, 0, none⟩ = some (.int .i64 (j : Int)) ∧ W.drew.cell? ⟨b2, o2 + k, none⟩ = some (.slice (some ⟨b3, o3, none⟩) r.length rc) ∧ W.drew.cell? ⟨b3, o3 + j * 7, none⟩ = some (.bool x.lo.neg) ∧ W.drew.cell? ⟨b3, o3 + j * 7 + 1, none⟩ = some (.slice x.lo.a x.lo.xs.length x.lo.c) ∧ W.drew.cell? ⟨b3, o3 + j * 7 + 2, none⟩ = some (.int .i64 x.lo.e) ∧ W.drew.cell? ⟨b3, o3 + j * 7 + 3, none⟩ = some (.bool x.hi.neg) ∧ W.drew.cell? ⟨b3, o3 + j * 7 + 4, none⟩ = some (.slice x.hi.a x.hi.xs.length x.hi.c) ∧ W.drew.cell? ⟨b3, o3 + j * 7 + 5, none⟩ = some (.int .i64 x.hi.e) ∧ W.drew.cell? ⟨b3, o3 + j * 7 + 6, none⟩ = some (.bool x.all) := ⟨kd.cell hSS.1, kd.cell hSS.2.1, kd.cell hSS.2.2.1, keep7 kd hSS.2.2.2⟩
  obtain ⟨⟨q0, q1, q2, q3, q4, q5, q6⟩, f0, f1, f2, f3, f4, f5, f6⟩ := id hV
  have HSS := Lib.hid hSS
  clear hSS hV
  go_region_held3 (fun w' => w'.cell? ⟨bb, 0, none⟩ = some (.slice (some ⟨b2, o2, none⟩) m.length c) ∧ w'.cell? ⟨bj, 0, none⟩ = some (.int .i64 (j : Int)) ∧ w'.cell? ⟨b2, o2 + k, none⟩ = some (.slice (some ⟨b3, o3, none⟩) r.length rc) ∧ w'.cell? ⟨b3, o3 + j * 7, none⟩ = some (.bool x.lo.neg) ∧ w'.cell? ⟨b3, o3 + j * 7 + 1, none⟩ = some (.slice x.lo.a x.lo.xs.length x.lo.c) ∧ w'.cell? ⟨b3, o3 + j * 7 + 2, none⟩ = some (.int .i64 x.lo.e) ∧ w'.cell? ⟨b3, o3 + j * 7 + 3, none⟩ = some (.bool x.hi.neg) ∧ w'.cell? ⟨b3, o3 + j * 7 + 4, none⟩ = some (.slice x.hi.a x.hi.xs.length x.hi.c) ∧ w'.cell? ⟨b3, o3 + j * 7 + 5, none⟩ = some (.int .i64 x.hi.e) ∧ w'.cell? ⟨b3, o3 + j * 7 + 6, none⟩ = some (.bool x.all)) (first | with_reducible assumption | with_reducible exact keep10 (Kp.refl _).drew (set10 n1 n2 n3 n4 HSS.out)) (fail)
  go_wp2_with fail
  generalize hW9 : ((((((W.setCell _ _).setCell _ _).setCell _ _).setCell _ _).setCell _ _).setCell _ _).setCell _ _ = W9
  obtain ⟨⟨s0, s1, s2, s3, s4, s5, s6⟩, hU⟩ := stored7 (show Box7 W _ _ _ _ _ _ _ _ from ⟨q0, q1, q2, q3, q4, q5, q6⟩) (fun _ h => by cases h) (fun _ h => by cases h) (fun _ h => by cases h) (fun _ h => by cases h) (fun _ h => by cases h) (fun _ h => by cases h) (fun _ h => by cases h) _ _ _ _ _ _ _ hW9
  clear hW9 q0 q1 q2 q3 q4 q5 q6 f0 f1 f2 f3 f4 f5 f6
  refine bodyPost_ret (v := .agg #[.bool x.lo.neg, .slice x.lo.a x.lo.xs.length x.lo.c, .int .i64 x.lo.e, .bool x.hi.neg, .slice x.hi.a x.hi.xs.length x.hi.c, .int .i64 x.hi.e, .bool x.all]) (by simp [results, Tryz.results148, go_sem, s0, s1, s2, s3, s4, s5, s6]) rfl ?_
  exact ⟨x, rfl, (hU.rdI HR.out).kp (Kp.refl _).drew, HX.out, Hv.out, (hU.2.2.1 _ k2.out (by omega)).drew⟩
set_option maxHeartbeats 1000000 in
theorem r2trim_any (a : Option Addr) (xs : List Nat) (c : Nat) (w : World) (h : Rd w a xs) (hc : xs.length ≤ c) (hm : c ≤ maxLen) (hl : xs.length ≤ 1100000) :
    Calls Tryz.prog 234 #[.slice a xs.length c] w (NatOut w (val xs)) := by
  have hend : ∀ (n : Nat) (W : World), n = (limbs (val xs)).length → Rd W a (limbs (val xs)) → Rd (W.alloc (.cells #[] 109)) a (limbs (val xs)) := fun n W _ hr => hr.kp ((Kp.refl W).alloc _)
  have hm' := hm
  unfold maxLen at hm
  have hll := limbs_len_le h.lt32
  go_enter Tryz.func234, Tryz.ntmps234
  go_wp2
  go_loop [3] (fun x => ∃ n : Nat, n ≤ xs.length ∧ x = .int .i64 n ∧ ∀ i, n ≤ i → i < xs.length → nth xs i = 0) (fun x => (intOf x).toNat)
  case atStart => exact ⟨xs.length, Nat.le_refl _, rfl, fun i h1 h2 => by omega⟩
  case round =>
  obtain ⟨n, hn, rfl, hz⟩ := hrel
  have Hz := Lib.hid hz; clear hz
  by_cases h0 : n = 0
  · have htop := trim_top h.lt32 hn Hz.out (by omega)
    have hlen : (limbs (val xs)).length = n := by rw [← htop, List.length_take, Nat.min_eq_left hn]
    have hr := h.limbs.kp ((Kp.refl w).alloc (.cells #[] 109))
    have Hlen := Lib.hid hlen
    clear htop hlen
    subst h0
    go_wp2_with (at_builtin; refine wpList_append_u32s rfl _ _ rfl w.heap.size _ [] rfl (Own.empty w _ (Nat.le_refl _)) a (limbs (val xs)) c (by rw [Hlen.out]; rfl) hr (by simp; omega) (by simp) ?_; intro a2 c2 w2 hown2 hb2)
    go_ret
    obtain ⟨h5, h6, h7, h8⟩ := hown2.rd
    rw [List.nil_append] at h6 h8
    exact ⟨a2, c2, by simp, h6, h7, h8, ((Kp.refl w).alloc _).below.trans hb2⟩
  obtain ⟨b, o, rfl, hcell⟩ := h.some (i := n - 1) (by omega)
  have hk := hcell (n - 1) (by omega)
  clear hcell
  by_cases hx : nth xs (n - 1) = 0
  · have hx2 : ((nth xs (n - 1) : Int) == 0) = true := by simp [hx]
    have Hx := Lib.hid hx; clear hx
    go_wp2
    go_round
    case measure => simp [intOf]; omega
    case rel =>
    refine ⟨n - 1, by omega, by congr 1; omega, fun i h1 h2 => ?_⟩
    by_cases hi : i = n - 1
    · rw [hi]; exact Hx.out
    exact Hz.out i (by omega) h2
  have hx2 : ((nth xs (n - 1) : Int) == 0) = false := by simp; omega
  have htop := trim_top h.lt32 hn Hz.out (fun _ => hx)
  have hlen : (limbs (val xs)).length = n := by rw [← htop, List.length_take, Nat.min_eq_left hn]
  have hr := h.limbs.kp ((Kp.refl w).alloc (.cells #[] 109))
  have Hlen := Lib.hid hlen
  clear htop hlen
  go_wp2_with (at_builtin; refine wpList_append_u32s rfl _ _ rfl w.heap.size _ [] rfl (Own.empty w _ (Nat.le_refl _)) (some ⟨b, o, none⟩) (limbs (val xs)) c (by rw [Hlen.out]; rfl) hr (by simp; omega) (by simp) ?_; intro a2 c2 w2 hown2 hb2)
  go_ret
  obtain ⟨h5, h6, h7, h8⟩ := hown2.rd
  rw [List.nil_append] at h6 h8
  exact ⟨a2, c2, by simp, h6, h7, h8, ((Kp.refl w).alloc _).below.trans hb2⟩
def cmpL (xs ys : List Nat) : Int := if xs.length < ys.length then -1 else if ys.length < xs.length then 1 else cmpN (val xs) (val ys)
theorem cmpL_lt {xs ys : List Nat} (h : xs.length < ys.length) : cmpL xs ys = -1 := by unfold cmpL; rw [if_pos h]
theorem cmpL_gt {xs ys : List Nat} (h : ys.length < xs.length) : cmpL xs ys = 1 := by unfold cmpL; rw [if_neg (by omega), if_pos h]
theorem cmpL_eq {xs ys : List Nat} (h : xs.length = ys.length) : cmpL xs ys = cmpN (val xs) (val ys) := by unfold cmpL; rw [if_neg (by omega), if_neg (by omega)]
set_option maxHeartbeats 1000000 in
theorem r2compare_any (a b : Option Addr) (xs ys : List Nat) (c d : Nat) (w : World) (h1 : Rd w a xs) (h2 : Rd w b ys) (hxl : xs.length ≤ 1100000) (_hyl : ys.length ≤ 1100000) :
    Calls Tryz.prog 214 #[.slice a xs.length c, .slice b ys.length d] w fun e w' => e = .returned (.int .i64 (cmpL xs ys)) ∧ Kp w w' := by
  go_enter Tryz.func214, Tryz.ntmps214
  rcases Nat.lt_trichotomy xs.length ys.length with hlen | hlen | hlen
  · have hne : ((xs.length : Int) != ys.length) = true := by simp; omega
    go_wp2_with fail
    go_ret
    exact ⟨ret_int (cmpL_lt hlen).symm, .refl _⟩
  · have hne : ((xs.length : Int) != ys.length) = false := by simp; omega
    have Hlen := Lib.hid hlen
    have hle1 : xs.length ≤ ys.length := by omega
    have hle2 : ys.length ≤ xs.length := by omega
    clear hlen
    go_wp2_with fail
    go_loopw [5] (fun ix wr => ∃ k : Nat, k ≤ xs.length ∧ ix = .int .i64 ((k : Int) - 1) ∧ xs.drop k = ys.drop k ∧ Kp w wr) (fun ix _ => (intOf ix + 1).toNat)
    case atStart => exact ⟨xs.length, Nat.le_refl _, rfl, by rw [List.drop_of_length_le (Nat.le_refl _), List.drop_of_length_le (by omega)], .refl _⟩
    case round =>
    obtain ⟨k, hk, rfl, hdrop, hkp⟩ := hrel
    have Hdrop := Lib.hid hdrop
    clear hdrop
    rcases k with _ | j
    · rw [show (((0 : Nat) : Int) - 1) = -1 from rfl]
      go_wp2_with fail
      go_ret
      have : xs = ys := by have := Hdrop.out; rwa [List.drop_zero, List.drop_zero] at this
      exact ⟨ret_int ((cmpL_eq Hlen.out).trans (cmpN_eq (by rw [this]))).symm, hkp⟩
    rw [show (((j + 1 : Nat) : Int) - 1) = (j : Int) from by omega]
    obtain ⟨b1, o1, rfl, hcx⟩ := (h1.kp hkp).some (i := j) (by omega)
    have hx1 := hcx j (by omega)
    obtain ⟨b2, o2, rfl, hcy⟩ := (h2.kp hkp).some (i := j) (by omega)
    have hy1 := hcy j (by omega)
    clear hcx hcy
    have bx := h1.lt32.nth j
    have by' := h2.lt32.nth j
    rcases Nat.lt_trichotomy (nth xs j) (nth ys j) with hd1 | hd1 | hd1
    · have Hr := Lib.hid (val_lt_of_top Hlen.out (by omega) h1.lt32 Hdrop.out hd1)
      go_wp2_with fail
      go_quiet (fail)
      go_wp2_with fail
      go_ret
      exact ⟨ret_int ((cmpL_eq Hlen.out).trans (cmpN_lt Hr.out)).symm, by first | exact hkp.drewN _ | exact (hkp.drewN _).drewN _⟩
    · have hd2 : ¬ nth xs j < nth ys j := by omega
      have hd3 : ¬ nth ys j < nth xs j := by omega
      have Hd1 := Lib.hid hd1
      clear hd1
      go_wp2_with fail
      go_quiet (fail)
      go_wp2_with fail
      go_quiet (fail)
      go_wp2_with fail
      go_roundw
      case measure => simp [intOf]
      case rel =>
      refine ⟨j, by omega, rfl, ?_, hkp.drewN _⟩
      rw [drop_eq_nth (show j < xs.length by omega), drop_eq_nth (show j < ys.length by omega), Hdrop.out, Hd1.out]
    have hd2 : ¬ nth xs j < nth ys j := by omega
    have Hr := Lib.hid (val_lt_of_top (us := ys) (vs := xs) (k := j) Hlen.out.symm (by omega) h2.lt32 Hdrop.out.symm hd1)
    go_wp2_with fail
    go_quiet (fail)
    go_wp2_with fail
    go_quiet (fail)
    go_wp2_with fail
    go_ret
    exact ⟨ret_int ((cmpL_eq Hlen.out).trans (cmpN_gt Hr.out)).symm, by first | exact hkp.drewN _ | exact (hkp.drewN _).drewN _⟩
  have hne : ((xs.length : Int) != ys.length) = true := by simp; omega
  go_wp2_with fail
  go_ret
  exact ⟨ret_int (cmpL_gt hlen).symm, .refl _⟩
theorem bit_nth {xs : List Nat} (h : Lt32 xs) (n : Nat) : nth xs (n / 32) / 2 ^ (n % 32) % 2 = val xs / 2 ^ n % 2 := by
  have e : 2 ^ n = 4294967296 ^ (n / 32) * 2 ^ (n % 32) := by rw [pow32, ← Nat.pow_add]; congr 1; omega
  by_cases hl : n / 32 < xs.length
  rotate_left
  · rw [nth_ge (by omega), Nat.zero_div]
    have h1 : val xs < 2 ^ n := by
      refine Nat.lt_of_lt_of_le (val_lt h) ?_
      rw [pow32]
      exact Nat.pow_le_pow_right (by decide) (by omega)
    rw [Nat.div_eq_of_lt h1]
  have e1 := val_take_drop xs (n / 32) (by omega)
  have e2 : xs.drop (n / 32) = nth xs (n / 32) :: xs.drop (n / 32 + 1) := drop_eq_nth hl
  have e3 : val xs / 4294967296 ^ (n / 32) = val (xs.drop (n / 32)) := by
    have h1 : val (xs.take (n / 32)) < 4294967296 ^ (n / 32) := by
      have := val_lt (h.take (n / 32))
      rwa [List.length_take, Nat.min_eq_left (by omega)] at this
    have hp : 0 < 4294967296 ^ (n / 32) := Nat.pow_pos (by decide)
    rw [e1, Nat.add_mul_div_left _ _ hp, Nat.div_eq_of_lt h1, Nat.zero_add]
  rw [e, ← Nat.div_div_eq_div_mul, e3, e2, val_cons]
  have hr : n % 32 < 32 := Nat.mod_lt _ (by decide)
  obtain ⟨d, hd⟩ : ∃ d, 4294967296 = 2 ^ (n % 32) * (2 * d) := ⟨2 ^ (31 - n % 32), by
    rw [show 2 * 2 ^ (31 - n % 32) = 2 ^ (31 - n % 32 + 1) from by rw [Nat.pow_succ]; omega, ← Nat.pow_add, show n % 32 + (31 - n % 32 + 1) = 32 from by omega]⟩
  have e4 : 4294967296 * val (xs.drop (n / 32 + 1)) = 2 ^ (n % 32) * (2 * (d * val (xs.drop (n / 32 + 1)))) := by
    conv => lhs; rw [hd]
    rw [Nat.mul_assoc, Nat.mul_assoc]
  rw [e4, Nat.add_mul_div_left _ _ (two_pow_pos _)]
  omega
theorem tz_least {V n : Nat} (h0 : V ≠ 0) (hz : V % 2 ^ n = 0) : n ≤ tz V ∧ (V / 2 ^ n % 2 = 1 → n = tz V) := by
  obtain ⟨h1, h2⟩ := oddp_spec h0
  have hle : n ≤ tz V := by
    apply Classical.byContradiction; intro hn
    have hd : V = 2 ^ n * (V / 2 ^ n) := by have := Nat.div_add_mod V (2 ^ n); omega
    have e : 2 ^ n = 2 ^ tz V * (2 * 2 ^ (n - tz V - 1)) := by
      rw [show 2 * 2 ^ (n - tz V - 1) = 2 ^ (n - tz V - 1 + 1) from by rw [Nat.pow_succ]; omega, ← Nat.pow_add]; congr 1; omega
    have e2 : oddp V * 2 ^ tz V = 2 * (2 ^ (n - tz V - 1) * (V / 2 ^ n)) * 2 ^ tz V := by
      refine h2.symm.trans (hd.trans ?_)
      generalize V / 2 ^ n = q
      rw [e, Nat.mul_assoc, Nat.mul_comm (2 ^ tz V), Nat.mul_assoc 2]
    have := Nat.eq_of_mul_eq_mul_right (two_pow_pos _) e2
    omega
  refine ⟨hle, fun h => ?_⟩
  apply Classical.byContradiction; intro hn
  have e : V / 2 ^ n = 2 * (oddp V * 2 ^ (tz V - n - 1)) := by
    conv => lhs; rw [h2]
    rw [show 2 ^ tz V = 2 * 2 ^ (tz V - n - 1) * 2 ^ n from by rw [show 2 * 2 ^ (tz V - n - 1) = 2 ^ (tz V - n - 1 + 1) from by rw [Nat.pow_succ]; omega, ← Nat.pow_add]; congr 1; omega]
    rw [← Nat.mul_assoc, Nat.mul_div_cancel _ (two_pow_pos n), Nat.mul_left_comm]
  omega
theorem bit32 {x r : Nat} (hx : x < 4294967296) : Go.bits BinOp.and IntKind.u32 ((x : Int) / 2 ^ r) 1 = ((x / 2 ^ r % 2 : Nat) : Int) := by
  have e : ((x : Int) / 2 ^ r) = ((x / 2 ^ r : Nat) : Int) := by rw [Int.natCast_ediv, Int.natCast_pow]; rfl
  rw [e]
  have h1 := Nat.div_le_self x (2 ^ r)
  have h := Go.Proofs.bits_and_u32_nat (x / 2 ^ r) 1 (by omega) (by omega)
  rw [Nat.and_one_is_mod] at h
  exact h
theorem bits_of_nz {V : Nat} (h0 : V ≠ 0) : tz V < bits V := by
  have := bits_oddp h0
  have := bits_pos (oddp_ne_zero h0)
  omega
set_option maxRecDepth 100000 in
set_option maxHeartbeats 4000000 in
theorem r2zeros_any (a : Option Addr) (xs : List Nat) (c : Nat) (w : World) (h : Rd w a xs) (hl : xs.length ≤ 1100000) (h0 : val xs ≠ 0) :
    Calls Tryz.prog 235 #[.slice a xs.length c] w fun e w' => e = .returned (.int .i64 (tz (val xs))) ∧ w = w' := by
  have hbv := bits_val_le h.lt32
  have htz := bits_of_nz h0
  have H0 := Lib.hid h0
  clear h0
  go_enter Tryz.func235, Tryz.ntmps235
  go_wp2
  go_loop [3] (fun x => ∃ n : Nat, n ≤ tz (val xs) ∧ x = .int .i64 n ∧ val xs % 2 ^ n = 0) (fun x => tz (val xs) + 1 - (intOf x).toNat)
  case atStart => exact ⟨0, Nat.zero_le _, rfl, by simp [Nat.mod_one]⟩
  case round =>
  obtain ⟨n, hn, rfl, hz⟩ := hrel
  have Hz := Lib.hid hz; clear hz
  have hq : n / 32 < xs.length := by omega
  obtain ⟨b, o, rfl, hcell⟩ := h.some hq
  have hk := hcell (n / 32) hq
  have Hb := Lib.hid (bit_nth h.lt32 n)
  have hnb := h.lt32.nth (n / 32)
  have hi1 : (0 : Int) ≤ ((n / 32 : Nat) : Int) := by omega
  have hi2 : ((n / 32 : Nat) : Int) < (xs.length : Int) := by omega
  clear hcell
  have h32 := bit32 (r := n % 32) hnb
  have hle := (tz_least H0.out Hz.out)
  by_cases hbit : val xs / 2 ^ n % 2 = 1
  · have ht : (Go.bits BinOp.and IntKind.u32 ((nth xs (n / 32) : Int) / 2 ^ (n % 32)) 1 == 0) = false := beq_eq_false_iff_ne.2 (by rw [h32, Hb.out, hbit]; decide)
    have Hn := Lib.hid (hle.2 hbit)
    clear h32 hle hbit
    go_wp2_with fail
    go_ret
    exact ⟨by rw [← Hn.out]; rfl, rfl⟩
  have ht : (Go.bits BinOp.and IntKind.u32 ((nth xs (n / 32) : Int) / 2 ^ (n % 32)) 1 == 0) = true := beq_iff_eq.2 (by rw [h32, Hb.out]; omega)
  have hz2 : val xs % 2 ^ (n + 1) = 0 := by
    rw [Nat.add_comm, mod_pow_add]
    exact ⟨Hz.out, by rw [Nat.pow_one]; omega⟩
  have Hz2 := Lib.hid hz2
  have Hle2 := Lib.hid (tz_least H0.out hz2).1
  clear h32 hle hbit hz2
  go_wp2_with fail
  go_round
  case measure => simp [intOf]; omega
  case rel => exact ⟨n + 1, Hle2.out, by go_num, Hz2.out⟩
end Go.Proofs.YtbhmhfnfceakoaaGreatDoor
