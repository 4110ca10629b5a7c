/-
  Walks: natural.divide, DivMod, of any numbers.
-/
import Derived.Test.YtpocjagbhiahdaaGreatDoorMKnuD
import Derived.Test.YtpocjagbhiahdaaGreatDoorMSumH
import Derived.Test.YtpocjagbhiahdaaGreatDoorMEchM
import Derived.Test.YtpocjagbhiahdaaGreatDoorMNear
import Derived.Deep.Cut
import Derived.Test.YtpocjagbhiahdaaGreatDoorMRoAdd
import Derived.Test.YtpocjagbhiahdaaGreatDoorMIvM
import Derived.Test.YtpocjagbhiahdaaGreatDoorMOwnX
import Derived.Test.YtpocjagbhiahdaaGreatDoorMR2I
import Derived.Deep.LoopGhost
import Derived.Deep.DeepFit
namespace Go.Proofs.YtpocjagbhiahdaaGreatDoor
open Go.RowKit
set_option maxRecDepth 100000 in
set_option maxHeartbeats 4000000 in
theorem divide0_any (a b : Option Addr) (xs ys : List Nat) (c d : Nat) (w : World) (hx : Rd w a xs) (hy : Rd w b ys) (hxl : xs.length ≤ 256) (hxc : xs.length ≤ c) (hyc : ys.length ≤ d) (hc : c ≤ maxLen) (hd : d ≤ maxLen) (hlt : val xs < val ys) :
    Calls Tryz.prog 192 #[.slice a xs.length c, .slice b ys.length d] w (DivOut w (val xs) (val ys) 256) := by
  have H1 := Lib.hid (trim_any a xs c w hx hxc hc)
  have H2 := Lib.hid (trim_any b ys d w hy hyc hd)
  have g1 := hx.limbs
  have g2 := hy.limbs
  have hl1 := limbs_len_le hx.lt32
  have hl2 := limbs_len_le hy.lt32
  have Hv1 := Lib.hid (val_limbs (val xs))
  have Hv2 := Lib.hid (val_limbs (val ys))
  have hcu : (limbs (val xs)).length ≤ c := by omega
  have hcv : (limbs (val ys)).length ≤ d := by omega
  go_enter Tryz.func192, Tryz.ntmps192
  go_wp2_with fail
  refine H1.out.mono ?_
  rintro e w2 ⟨rfl, rfl⟩
  go_wp2_with fail
  refine H2.out.mono ?_
  rintro e w2 ⟨rfl, rfl⟩
  clear H1 H2 hx hy
  generalize val xs = m at *
  generalize val ys = n at *
  generalize limbs m = us at *
  generalize limbs n = vs at *
  have hul : us.length ≤ 256 := by omega
  clear hxl hxc hyc hl1 hl2
  go_wp2_with fail
  refine (cmp_any a b us vs c d _ g1 g2 hcu hcv hc hd).mono ?_
  rw [Hv1.out, Hv2.out]
  rintro e w3 ⟨rfl, hk3⟩
  have hcm : cmpN m n < 0 := by rw [cmpN_lt hlt]; decide
  have Hlt := Lib.hid hlt
  clear hlt
  go_wp2_with fail
  refine (clone_any a us c _ (g1.kp hk3) (by omega)).mono ?_
  rintro e w4 ⟨a4, c4, rfl, r4, l4, m4, hk4⟩
  go_wp2_with fail
  refine bodyPost_ret (v := .tuple #[.slice none 0 0, .slice a4 us.length c4]) (by simp [results, Tryz.results192, go_sem]) rfl ?_
  exact ⟨none, 0, [], a4, c4, us, rfl, Nat.le_refl _, by decide, l4, m4, .nil _ _, r4, by rw [Nat.div_eq_of_lt Hlt.out]; rfl, by rw [Nat.mod_eq_of_lt Hlt.out]; exact Hv1.out, Nat.zero_le _, hul, hk3.trans hk4⟩
theorem divide_any (a b : Option Addr) (xs ys : List Nat) (c d : Nat) (w : World) (hx : Rd w a xs) (hy : Rd w b ys) (hxl : xs.length ≤ 256) (hxc : xs.length ≤ c) (hyc : ys.length ≤ d) (hc : c ≤ maxLen) (hd : d ≤ maxLen) (h0 : val ys ≠ 0) :
    Calls Tryz.prog 192 #[.slice a xs.length c, .slice b ys.length d] w (DivOut w (val xs) (val ys) 256) := by
  rcases Nat.lt_or_ge (val xs) (val ys) with h | h
  · exact divide0_any a b xs ys c d w hx hy hxl hxc hyc hc hd h
  have h1 : limbs (val ys) ≠ [] := fun h => h0 (limbs_eq_nil.1 h)
  have h2 := List.length_pos_iff.2 h1
  rcases (show (limbs (val ys)).length = 1 ∨ 2 ≤ (limbs (val ys)).length by omega) with h3 | h3
  · exact divide1_any a b xs ys c d w hx hy hxl hxc hyc hc hd h3
  exact divide2_any a b xs ys c d w hx hy hxl hxc hyc hc hd h3 h
def quoK (x y : RD) (p : Int) (t : Nat) : Nat := (p + t + bits (val y.xs) - bits (val x.xs)).toNat
def divB (x y : RD) (p : Int) (up : Bool) : Dy × Int :=
  if fltB p [x, y] = 0 then (if y.xs.length = 0 then (.zero, 10) else if x.xs.length = 0 then (.zero, 0) else rndE (quoR (x.neg != y.neg) (val x.xs) (val y.xs) (x.e - y.e) p.toNat up (quoK x y p 2)))
  else (.zero, fltB p [x, y])
set_option maxRecDepth 100000 in
set_option maxHeartbeats 8000000 in
theorem div_rd (x y : RD) (p : Int) (up : Bool) (w : World) (hx : x.rd w) (hy : y.rd w) (hT : Tab w) :
    Calls Tryz.prog 116 #[.agg #[.bool x.neg, .slice x.a x.xs.length x.c, .int .i64 x.e], .agg #[.bool y.neg, .slice y.a y.xs.length y.c, .int .i64 y.e], .int .i64 p, .bool up] w (NumE w (divB x y p up).1 (divB x y p up).2) := by
  obtain ⟨D, hD⟩ : ∃ D, D = divB x y p up := ⟨_, rfl⟩
  have HD := Lib.hid hD
  rw [← hD]
  clear hD
  by_cases hmain : fltB p [x, y] = 0 ∧ y.xs.length ≠ 0 ∧ x.xs.length ≠ 0
  · obtain ⟨h0, hy0, hx0⟩ := hmain
    obtain ⟨hv, hp0, hp1⟩ := fltB_zero.1 h0
    obtain ⟨q, rfl⟩ := Int.eq_ofNat_of_zero_le (show 0 ≤ p by omega)
    have hxo : x.ok w := ⟨hx, by simpa using (List.all_eq_true.1 hv) x (by simp)⟩
    have hyo : y.ok w := ⟨hy, by simpa using (List.all_eq_true.1 hv) y (by simp)⟩
    have zx := rdok_zero hxo
    have zy := rdok_zero hyo
    have hxm : val x.xs ≠ 0 := fun h => hx0 (zx.2 h)
    have hym : val y.xs ≠ 0 := fun h => hy0 (zy.2 h)
    have hK : ((quoK x y q 3 : Nat) : Int) = max 0 ((q : Int) + 3 + bits (val y.xs) - bits (val x.xs)) := by unfold quoK; omega
    have hbx : bits (val x.xs) ≤ 4096 := dok_bits (rdok_dy hxo)
    have hby : bits (val y.xs) ≤ 4096 := dok_bits (rdok_dy hyo)
    have hlim : (limbs (val x.xs * 2 ^ quoK x y q 3)).length ≤ 256 := limbs_of_bits (by rw [bits_mul_pow hxm]; omega)
    have H := div_of x y q (quoK x y q 3) up w hxo hyo hxm hym (by omega) (by omega) hT hK (fun W a c k hr hc hm hyr => by
      have h := divide_any a y.a (limbs (val x.xs * 2 ^ quoK x y q 3)) y.xs c y.c W hr hyr hlim hc hyo.1.2.1 hm hyo.1.2.2.1 hym
      rwa [val_limbs] at h)
    have e : quoR (x.neg != y.neg) (val x.xs) (val y.xs) (x.e - y.e) q up (quoK x y q 3) = quoR (x.neg != y.neg) (val x.xs) (val y.xs) (x.e - y.e) q up (quoK x y q 2) := by
      have h3 : quoK x y q 3 = quoK x y q 2 + (quoK x y q 3 - quoK x y q 2) := by unfold quoK; omega
      rw [h3]
      exact quoR_more hxm hym (by omega) (by unfold quoK; omega)
    have hDD : D = rndE (rndS (x.neg != y.neg) (val x.xs * 2 ^ quoK x y q 3 / val y.xs) (x.e - quoK x y q 3 - y.e) (decide (0 < bits (val x.xs * 2 ^ quoK x y q 3 % val y.xs))) q up) := by
      rw [HD.out]
      unfold divB
      rw [if_pos h0, if_neg hy0, if_neg hx0, Int.toNat_natCast, ← e]
      unfold quoR
      rw [show x.e - y.e - (quoK x y q 3 : Int) = x.e - quoK x y q 3 - y.e by omega]
    rw [hDD]
    exact H
  go_enter Tryz.func116, Tryz.ntmps116
  go_wp2_with fail
  generalize hW : (((w.alloc _).alloc _).alloc _) = W at *
  have hk : Kp w W := hW ▸ (((Kp.refl w).alloc _).alloc _).alloc _
  have hS : W.cell? ⟨w.heap.size, 0, none⟩ = some (.bool x.neg) ∧ W.cell? ⟨w.heap.size, 1, none⟩ = some (.slice x.a x.xs.length x.c) ∧ W.cell? ⟨w.heap.size, 2, none⟩ = some (.int .i64 x.e) ∧ W.cell? ⟨w.heap.size + 1, 0, none⟩ = some (.bool y.neg) ∧ W.cell? ⟨w.heap.size + 1, 1, none⟩ = some (.slice y.a y.xs.length y.c) ∧ W.cell? ⟨w.heap.size + 1, 2, none⟩ = some (.int .i64 y.e) := by rw [← hW]; exact keep6 ((Kp.refl _).alloc _) (by simp)
  have hB : Box3 W (w.heap.size + 2) (.bool false) (.slice none 0 0) (.int .i64 0) := hW ▸ Box3.new3 _ _ _ _ _ _ _
  have hsz : W.heap.size = w.heap.size + 1 + 1 + 1 := by rw [← hW]; simp
  clear hW
  have hka := (Kp.refl W).alloc (.cells #[.bool x.neg, .slice x.a x.xs.length x.c, .int .i64 x.e, .bool y.neg, .slice y.a y.xs.length y.c, .int .i64 y.e] 42)
  have hRw := rowD_two W x y (hx.kp hk) (hy.kp hk) 42
  rw [hsz] at hRw
  clear hsz
  refine (fault_any p _ [x, y] 2 _ hRw (by simp)).mono ?_
  rintro e w1 ⟨rfl, hk1⟩
  have hS1 := keepRR (hka.trans hk1) hS
  have hB1 := hB.kp (hka.trans hk1)
  have hk2 := hk.trans (hka.trans hk1)
  clear hS hB hk hk1 hka hRw
  by_cases h0 : fltB p [x, y] = 0
  rotate_left
  · have hz : (fltB p [x, y] == 0) = false := beq_eq_false_iff_ne.2 h0
    have hz2 : (fltB p [x, y] != 0) = true := by rw [bne, hz]; rfl
    have HD2 := Lib.hid (show D = (.zero, fltB p [x, y]) by rw [HD.out]; unfold divB; rw [if_neg h0])
    clear h0 hS1 hmain
    obtain ⟨q0, q1, q2, f0, f1, f2⟩ := hB1
    go_wp2_with fail
    have hst := stored q0 q1 q2 (fun _ h => by cases h) (fun _ h => by cases h) (fun _ h => by cases h) (.bool false) (.slice none 0 0) (.int .i64 0)
    generalize (((w1.setCell _ _).setCell _ _).setCell _ _) = W9 at hst ⊢
    obtain ⟨s0, s1, s2, _, s4, s5, _, _⟩ := hst
    refine bodyPost_ret (v := .tuple #[.agg #[.bool false, .slice none 0 0, .int .i64 0], .int .i64 (fltB p [x, y])]) (by simp [results, Tryz.results116, go_sem, s0, s1, s2]) rfl ?_
    rw [HD2.out]
    exact numE_zero rfl (s5 _ hk2 (by omega))
  rw [h0]
  obtain ⟨q0, q1, q2, f0, f1, f2⟩ := hB1
  obtain ⟨s0, s1, s2, t0, t1, t2⟩ := hS1
  by_cases hy0 : y.xs.length = 0
  · have hz : ((y.xs.length : Int) == 0) = true := beq_iff_eq.2 (by omega)
    have HD3 := Lib.hid (show D = (.zero, 10) by rw [HD.out]; unfold divB; rw [if_pos h0, if_pos hy0])
    clear hy0 h0 hmain
    go_wp2_with fail
    have hst := stored q0 q1 q2 (fun _ h => by cases h) (fun _ h => by cases h) (fun _ h => by cases h) (.bool false) (.slice none 0 0) (.int .i64 0)
    generalize (((w1.setCell _ _).setCell _ _).setCell _ _) = W9 at hst ⊢
    obtain ⟨s0, s1, s2, _, s4, s5, _, _⟩ := hst
    refine bodyPost_ret (v := .tuple #[.agg #[.bool false, .slice none 0 0, .int .i64 0], .int .i64 10]) (by simp [results, Tryz.results116, go_sem, s0, s1, s2]) rfl ?_
    rw [HD3.out]
    exact numE_zero rfl (s5 _ hk2 (by omega))
  have hx0 : x.xs.length = 0 := Classical.byContradiction fun h => hmain ⟨h0, hy0, h⟩
  have hz : ((y.xs.length : Int) == 0) = false := beq_eq_false_iff_ne.2 (by omega)
  have hz2 : ((x.xs.length : Int) == 0) = true := beq_iff_eq.2 (by omega)
  have HD3 := Lib.hid (show D = (.zero, 0) by rw [HD.out]; unfold divB; rw [if_pos h0, if_neg hy0, if_pos hx0])
  clear hy0 h0 hx0 hmain
  go_wp2_with fail
  have hst := stored q0 q1 q2 (fun _ h => by cases h) (fun _ h => by cases h) (fun _ h => by cases h) (.bool false) (.slice none 0 0) (.int .i64 0)
  generalize (((w1.setCell _ _).setCell _ _).setCell _ _) = W9 at hst ⊢
  obtain ⟨s0, s1, s2, _, s4, s5, _, _⟩ := hst
  refine bodyPost_ret (v := .tuple #[.agg #[.bool false, .slice none 0 0, .int .i64 0], .int .i64 0]) (by simp [results, Tryz.results116, go_sem, s0, s1, s2]) rfl ?_
  rw [HD3.out]
  exact numE_zero rfl (s5 _ hk2 (by omega))

end Go.Proofs.YtpocjagbhiahdaaGreatDoor
section
namespace Go.Proofs.YtpocjagbhiahdaaGreatDoor

end Go.Proofs.YtpocjagbhiahdaaGreatDoor
end
namespace Go.Proofs.YtpocjagbhiahdaaGreatDoor
open Go.RowKit
def inR (r' r : List RI) : Prop := r'.length = r.length ∧ ∀ (j : Nat) (x' x : RI), r'[j]? = some x' → r[j]? = some x → x'.pl.ok ∧ insP x'.pl x.pl
theorem inR.tail {x' x : RI} {r' r : List RI} (h : inR (x' :: r') (x :: r)) : inR r' r := ⟨by simpa using h.1, fun j y' y hy' hy => h.2 (j + 1) y' y (by simpa using hy') (by simpa using hy)⟩
def inM (Z m : List (List RI)) : Prop := Z.length = m.length ∧ ∀ (i : Nat) (r' r : List RI), Z[i]? = some r' → m[i]? = some r → inR r' r
theorem inM.tail {x' x : List RI} {r' r : List (List RI)} (h : inM (x' :: r') (x :: r)) : inM r' r := ⟨by simpa using h.1, fun j y' y hy' hy => h.2 (j + 1) y' y (by simpa using hy') (by simpa using hy)⟩
def endR (x : RI) (d : RD) : Prop := d = x.lo ∨ d = x.hi
theorem endR.ok {w : World} {x : RI} {d : RD} (h : endR x d) (hx : x.rd w) (hv : x.vl = true) : d.rd w ∧ d.vl = true := by
  have hz : ∀ y : RD, y.zr = true → y.vl = true := fun y hy => by
    obtain ⟨h1, h2, h3⟩ := RD.zr_parts.1 hy
    unfold RD.vl; rw [h1, h2, h3]; exact rdZero_vl
  have hp : x.lo.vl = true ∧ x.hi.vl = true := by
    unfold RI.vl at hv
    split at hv
    · rw [Bool.and_eq_true] at hv; exact ⟨hz _ hv.1, hz _ hv.2⟩
    · rw [Bool.and_eq_true, Bool.and_eq_true] at hv; exact ⟨hv.1, hv.2.1⟩
  rcases h with rfl | rfl
  · exact ⟨hx.1, hp.1⟩
  exact ⟨hx.2, hp.2⟩
def sumZ (c : Nat → Int) : Nat → Int
  | 0 => 0
  | t + 1 => sumZ c t + c t
theorem sumZ_congr {c d : Nat → Int} : ∀ {n : Nat}, (∀ t, t < n → c t = d t) → sumZ c n = sumZ d n
  | 0, _ => rfl
  | n + 1, h => by show sumZ c n + c n = sumZ d n + d n; rw [sumZ_congr (fun t ht => h t (by omega)), h n (by omega)]
def dotS (l z : List RD) (k : Nat) (v : Int) : Prop := ∃ c : Nat → Int, (∀ (t : Nat) (x y : RD), t < k → l[t]? = some x → z[t]? = some y → c t * 2 ^ 16384 = x.iv * y.iv) ∧ v = sumZ c k
theorem dotS.zero (l z : List RD) : dotS l z 0 0 := ⟨fun _ => 0, fun t x y h => by omega, rfl⟩
theorem dotS.step {l z : List RD} {k : Nat} {v q : Int} {x y : RD} (h : dotS l z k v) (hx : l[k]? = some x) (hy : z[k]? = some y) (hq : q * 2 ^ 16384 = x.iv * y.iv) : dotS l z (k + 1) (v + q) := by
  obtain ⟨c, h1, rfl⟩ := h
  refine ⟨fun t => if t = k then q else c t, fun t a b ht ha hb => ?_, ?_⟩
  · by_cases e : t = k
    · subst e; rw [hx] at ha; rw [hy] at hb; cases ha; cases hb; show (if t = t then q else c t) * _ = _; rw [if_pos rfl]; exact hq
    show (if t = k then q else c t) * _ = _; rw [if_neg e]; exact h1 t a b (by omega) ha hb
  show sumZ c k + q = sumZ _ k + (if k = k then q else c k)
  rw [if_pos rfl, sumZ_congr (c := fun t => if t = k then q else c t) (d := c) (fun t ht => if_neg (by omega))]
theorem intD_le {a b : Int} (h : a ≤ b) : (intD a).iv ≤ (intD b).iv := by
  rw [intD_iv, intD_iv]
  have hp := twoK_pos 16384
  generalize ((2 : Int) ^ 16384) = q at *
  exact Int.mul_le_mul_of_nonneg_right h (by omega)
theorem intD_lt {a b : Int} (h : a < b) : (intD a).iv < (intD b).iv := by
  rw [intD_iv, intD_iv]
  have hp := twoK_pos 16384
  generalize ((2 : Int) ^ 16384) = q at *
  exact Int.mul_lt_mul_of_pos_right h (by omega)
theorem absv_int {a : Int} (h : a.natAbs ≤ 1000) : (intD a).absv = intD a.natAbs := by
  refine Dy.iv_inj (Dy.absv_ok (intD_oks h)) (intD_oks (by omega)) ?_
  rw [Dy.absv_iv, intD_iv, intD_iv]
  have hp := twoK_pos 16384
  generalize ((2 : Int) ^ 16384) = q at *
  rw [Int.natAbs_mul, Int.natCast_mul]
  congr 1
  omega
theorem maxD_int {a b : Int} : maxD (intD a) (intD b) = if b ≤ a then intD a else intD b := by
  unfold maxD
  by_cases h : b ≤ a
  · rw [if_pos (intD_le h), if_pos h]
  rw [if_neg (by have := intD_lt (show a < b by omega); omega), if_neg h]
theorem magP_int {a b : Int} (ha : a.natAbs ≤ 1000) (hb : b.natAbs ≤ 1000) : magP (pnI a b) = if b.natAbs ≤ a.natAbs then intD a.natAbs else intD b.natAbs := by
  unfold magP pnI
  simp only [Bool.false_eq_true, if_false]
  rw [absv_int ha, absv_int hb, maxD_int]
  simp only [Int.ofNat_le]
theorem adP_nil2 {b : Int} {p : Nat} (hp : 8 ≤ p) (hp2 : p ≤ 512) (h : b.natAbs < 2 ^ p) : adP .zero (intD b) p true = (intD b, 0) := by
  have := adP_int (a := 0) (b := b) hp hp2 (by rwa [Int.zero_add]) true
  rw [Int.zero_add, intD_zero] at this
  exact this
theorem vl_int {w : World} {x y : RD} {a b : Int} (hx : x.ok w) (hy : y.ok w) (dx : x.dy = intD a) (dy : y.dy = intD b) (h : a ≤ b) : RI.vl ⟨x, y, false⟩ = true :=
  vl_mk2 hx.2 hy.2 (by show x.dy.iv ≤ y.dy.iv; rw [dx, dy]; exact intD_le h)
theorem pl_int {x y : RD} {a b : Int} (dx : x.dy = intD a) (dy : y.dy = intD b) : RI.pl ⟨x, y, false⟩ = pnI a b := by unfold RI.pl pnI; rw [dx, dy]
structure RF where
  ca : Option Addr
  cs : List RD
  cc : Nat
  aa : Option Addr
  ms : List (List RD)
  ac : Nat
  ra : Option Addr
  rs : List RI
  rc : Nat
def RF.rd (w : World) (f : RF) : Prop := (RowD w f.ca f.cs ∧ f.cs.length ≤ 1100000) ∧ (RowN w f.aa f.ms ∧ f.ms.length ≤ 1100000) ∧ (RowI w f.ra f.rs ∧ f.rs.length ≤ 1100000)
theorem RF.rd.kp {w w' : World} {f : RF} (h : f.rd w) (k : Kp w w') : f.rd w' := ⟨⟨h.1.1.kp k, h.1.2⟩, ⟨h.2.1.1.kp k, h.2.1.2⟩, ⟨h.2.2.1.kp k, h.2.2.2⟩⟩
theorem vlN_bad {m : List (List RD)} {i : Nat} {r : List RD} (h : m[i]? = some r) (hb : badN m r = true) : vlN m = false := by
  rw [vlN_any]
  have : m.any (badN m) = true := List.any_eq_true.2 ⟨r, List.mem_of_getElem? h, hb⟩
  rw [this]; simp
theorem vlN_good {m : List (List RD)} (h1 : 1 ≤ m.length ∧ m.length ≤ 8) (h2 : 1 ≤ colsN m ∧ colsN m ≤ 8) (h : ∀ (i : Nat) r, m[i]? = some r → badN m r = false) : vlN m = true := by
  rw [vlN_any]
  have : m.any (badN m) = false := by
    rw [List.any_eq_false]
    intro r hr
    obtain ⟨i, hi⟩ := List.getElem?_of_mem hr
    rw [h i r hi]; decide
  rw [this, decide_eq_true h1, decide_eq_true h2]; rfl
theorem colsN_eq {m : List (List RD)} {r0 : List RD} (h : m[0]? = some r0) : colsN m = r0.length := by
  unfold colsN
  cases m with
  | cons x t => simp at h; subst h; rfl
  | nil => simp at h
set_option maxHeartbeats 4000000 in
theorem r7numbers_any (a : Option Addr) (m : List (List RD)) (c : Nat) (w : World) (hm : RowN w a m) (hl : m.length ≤ 1100000) :
    Calls Tryz.prog 36 #[.slice a m.length c] w fun e w' => e = .returned (.bool (vlN m)) ∧ Kp w w' := by
  have HV := Lib.hid (vlN_any m)
  rcases Nat.eq_zero_or_pos m.length with hz | hpos
  · have H := Lib.hid (show vlN m = false by rw [HV.out, hz]; rfl)
    rw [hz]
    clear hz HV
    go_enter Tryz.func36, Tryz.ntmps36
    go_wp2_with fail
    go_ret
    exact ⟨ret_bool H.out.symm, .refl _⟩
  have hn1 : ¬ (m.length : Int) < 1 := by omega
  by_cases h8 : 8 < m.length
  · have H := Lib.hid (show vlN m = false by rw [HV.out, decide_eq_false (by omega)]; rfl)
    have hn2 : (8 : Int) < (m.length : Int) := by omega
    clear h8 HV hpos
    go_enter Tryz.func36, Tryz.ntmps36
    go_wp2_with fail
    go_ret
    exact ⟨ret_bool H.out.symm, .refl _⟩
  have hn2 : ¬ (8 : Int) < (m.length : Int) := by omega
  have hn3 : (0 : Int) < (m.length : Int) := by omega
  obtain ⟨r0, h0⟩ : ∃ r0, m[0]? = some r0 := ⟨_, List.getElem?_eq_getElem hpos⟩
  have hc0 := colsN_eq h0
  obtain ⟨b, o, ra0, rc0, rfl, hcell, _, hl0⟩ := hm 0 r0 h0
  rw [Nat.add_zero] at hcell
  have HV1 := Lib.hid (show vlN m = (decide (1 ≤ r0.length ∧ r0.length ≤ 8) && !m.any (badN m)) by rw [HV.out, hc0, decide_eq_true (by omega)]; rfl)
  by_cases hz : r0.length = 0
  · have H := Lib.hid (show vlN m = false by rw [HV1.out, decide_eq_false (by omega)]; rfl)
    have g1 : (r0.length : Int) < 1 := by omega
    clear HV HV1 h0 hc0 hm hpos h8 hz
    go_enter Tryz.func36, Tryz.ntmps36
    go_wp2_with fail
    go_ret
    exact ⟨ret_bool H.out.symm, .refl _⟩
  have g1 : ¬ (r0.length : Int) < 1 := by omega
  by_cases h9 : 8 < r0.length
  · have H := Lib.hid (show vlN m = false by rw [HV1.out, decide_eq_false (by omega)]; rfl)
    have g2 : (8 : Int) < (r0.length : Int) := by omega
    clear HV HV1 h0 hc0 hm hpos h8 hz h9
    go_enter Tryz.func36, Tryz.ntmps36
    go_wp2_with fail
    go_ret
    exact ⟨ret_bool H.out.symm, .refl _⟩
  have g2 : ¬ (8 : Int) < (r0.length : Int) := by omega
  have HB := Lib.hid (And.intro (show 1 ≤ m.length ∧ m.length ≤ 8 by omega) (show 1 ≤ colsN m ∧ colsN m ≤ 8 by omega))
  have HC0 := Lib.hid hc0
  have HM := Lib.hid hm
  clear HV HV1 h0 hc0 h8 hz h9 hm
  go_enter Tryz.func36, Tryz.ntmps36
  go_wp2_with fail
  clear g1 g2 hn1 hn2
  go_loopg [3] m.length (fun q v wr => ∃ i : Nat, i + q = m.length ∧ v = .int .i64 i ∧ (∀ (j : Nat) r, m[j]? = some r → j < i → badN m r = false) ∧ Kp w wr)
  case atStart => exact ⟨0, by omega, rfl, fun j r _ h => by omega, .refl _⟩
  case round =>
  obtain ⟨i, hiq, rfl, hbad, hk⟩ := hrel
  have Hbad := Lib.hid hbad
  have hcellr := hk.cell hcell
  clear hbad
  by_cases hlt : i < m.length
  rotate_left
  · have HE := Lib.hid (vlN_good HB.out.1 HB.out.2 (fun j y hy => Hbad.out j y hy (by have := (List.getElem?_eq_some_iff.1 hy).1; omega)))
    go_wp2_with fail
    go_ret
    exact ⟨ret_bool HE.out.symm, hk⟩
  obtain ⟨r, hr⟩ : ∃ r, m[i]? = some r := ⟨_, List.getElem?_eq_getElem hlt⟩
  obtain ⟨b2, o2, ra, rc, e2, hrc, hrow, hrl⟩ := HM.out i r hr
  cases e2
  have hrc1 := hk.cell hrc
  have Hr := Lib.hid hr
  have hi1 : (0 : Int) ≤ (i : Int) := by omega
  have hi2 : (i : Int) < (m.length : Int) := by omega
  clear hr
  by_cases hlen : r.length = r0.length
  rotate_left
  · have hne : ((r.length : Int) != (r0.length : Int)) = true := by simpa using (by omega : ¬ (r.length : Int) = (r0.length : Int))
    have HE := Lib.hid (vlN_bad Hr.out (show badN m r = true by
      unfold badN
      rw [Bool.or_eq_true]
      exact .inl (decide_eq_true (by have := HC0.out; omega))))
    clear hlen
    have kd := (Kp.refl wr).drew
    have hSd : wr.drew.cell? ⟨b, o + i, none⟩ = some (.slice ra r.length rc) ∧ wr.drew.cell? ⟨b, o, none⟩ = some (.slice ra0 r0.length rc0) := ⟨kd.cell hrc1, kd.cell hcellr⟩
    replace hk := hk.trans kd
    clear kd
    go_upto_region 6 with fail
    go_region_held3 (fun w' => w'.cell? ⟨b, o + i, none⟩ = some (.slice ra r.length rc) ∧ w'.cell? ⟨b, o, none⟩ = some (.slice ra0 r0.length rc0)) (with_reducible assumption) (fail)
    go_wp2_with fail
    go_ret
    exact ⟨ret_bool HE.out.symm, hk⟩
  have hne : ((r.length : Int) != (r0.length : Int)) = false := by rw [hlen]; simp
  have Hlen := Lib.hid hlen
  clear hlen
  have kd := (Kp.refl wr).drew
  have hSd : wr.drew.cell? ⟨b, o + i, none⟩ = some (.slice ra r.length rc) ∧ wr.drew.cell? ⟨b, o, none⟩ = some (.slice ra0 r0.length rc0) := ⟨kd.cell hrc1, kd.cell hcellr⟩
  replace hk := hk.trans kd
  clear kd
  go_upto_region 6 with fail
  go_region_held3 (fun w' => w'.cell? ⟨b, o + i, none⟩ = some (.slice ra r.length rc) ∧ w'.cell? ⟨b, o, none⟩ = some (.slice ra0 r0.length rc0)) (with_reducible assumption) (fail)
  go_wp2_with fail
  clear hrc1 hcellr hSd
  have HW := Lib.hid hk
  have HRow := Lib.hid hrow
  clear hk hrow
  obtain ⟨W1, hW1⟩ : ∃ x : World, x = wr := ⟨_, rfl⟩
  subst hW1
  generalize W1.drew = W2 at *
  obtain ⟨gk1, hgk1⟩ : ∃ x : Nat, x = gk := ⟨_, rfl⟩
  subst hgk1
  go_loopg [4] r.length (fun q v wr => ∃ k : Nat, k + q = r.length ∧ v = .int .i64 k ∧ (∀ (j : Nat) x, r[j]? = some x → j < k → x.vl = true) ∧ Kp w wr)
  case atStart => exact ⟨0, by omega, rfl, fun j x _ h => by omega, HW.out⟩
  case round =>
  obtain ⟨k, hkq, rfl, hgood, hk⟩ := hrel
  have Hgood := Lib.hid hgood
  have hrc1 := hk.cell hrc
  clear hgood
  by_cases hlt2 : k < r.length
  rotate_left
  · have HG := Lib.hid (show badN m r = false by
      unfold badN
      rw [Bool.or_eq_false_iff]
      refine ⟨decide_eq_false (by have := Hlen.out; have := HC0.out; omega), List.any_eq_false.2 fun x hx => ?_⟩
      obtain ⟨j, hj⟩ := List.getElem?_of_mem hx
      rw [Hgood.out j x hj (by have := (List.getElem?_eq_some_iff.1 hj).1; omega)]; decide)
    go_wp2_with fail
    go_roundg (gk1 - 1)
    case measure => omega
    case rel =>
    refine ⟨i + 1, by omega, by go_num, fun j y hy hj => ?_, hk⟩
    by_cases h : j = i
    · subst h; rw [Hr.out] at hy; cases hy; exact HG.out
    exact Hbad.out j y hy (by omega)
  obtain ⟨x, hx⟩ : ∃ x, r[k]? = some x := ⟨_, List.getElem?_eq_getElem hlt2⟩
  obtain ⟨b3, o3, e3, hrd, s0, s1, s2⟩ := (HRow.out.kp hk) k x hx
  subst e3
  have Hx := Lib.hid hx
  have HRD := Lib.hid hrd
  have hj1 : (0 : Int) ≤ (k : Int) := by omega
  have hj2 : (k : Int) < (r.length : Int) := by omega
  clear hx hrd
  go_wp2_with fail
  go_fit (r2Valid_raw x _ HRD.out)
  rintro e w2 ⟨rfl, k2⟩
  cases hv : x.vl with
  | false =>
    have HE := Lib.hid (vlN_bad Hr.out (show badN m r = true by
      unfold badN
      rw [Bool.or_eq_true]
      exact .inr (List.any_eq_true.2 ⟨x, List.mem_of_getElem? Hx.out, by rw [hv]; rfl⟩)))
    have hkk := hk.trans k2
    clear hv s0 s1 s2 hrc1
    go_wp2_with fail
    go_ret
    exact ⟨ret_bool HE.out.symm, hkk⟩
  | true =>
  have Hv := Lib.hid hv
  have hkk := hk.trans k2
  clear hv s0 s1 s2 hrc1
  go_wp2_with fail
  go_roundg (gk - 1)
  case measure => omega
  case rel =>
  refine ⟨k + 1, by omega, by go_num, fun j y hy hj => ?_, hkk⟩
  by_cases h : j = k
  · subst h; rw [Hx.out] at hy; cases hy; exact Hv.out
  exact Hgood.out j y hy (by omega)
set_option maxRecDepth 100000 in
set_option maxHeartbeats 8000000 in
theorem r7of_any (a : Option Addr) (m : List (List RD)) (c : Nat) (w : World) (hm : RowN w a m) (hl : m.length ≤ 1100000) :
    Calls Tryz.prog 37 #[.slice a m.length c] w (MatV w (ofF m)) := by
  have HM := Lib.hid hm
  obtain ⟨D, hD⟩ : ∃ D, D = ofF m := ⟨_, rfl⟩
  have HD := Lib.hid hD
  rw [← hD]
  clear hm hD
  go_enter Tryz.func37, Tryz.ntmps37
  go_wp2_with fail
  go_fit (r7numbers_any a m c _ HM.out hl)
  rintro e w1 ⟨rfl, k1⟩
  cases hv : vlN m with
  | false =>
    have HE := Lib.hid (show D = [] by rw [HD.out]; unfold ofF; rw [if_neg (by rw [hv]; decide)])
    clear hv
    go_wp2_with fail
    go_ret
    rw [HE.out]
    exact ⟨none, [], 0, rfl, fun i r h => by simp at h, rfl, fun r h => by simp at h, by simp, k1⟩
  | true =>
  have HVM := Lib.hid hv
  obtain ⟨F, hF⟩ : ∃ F : Nat → Nat → PI, F = fun i j => ptP (atN m i j) := ⟨_, rfl⟩
  have HE := Lib.hid (show D = tabM m.length (colsN m) F by rw [HD.out, hF]; unfold ofF; rw [if_pos hv])
  have HF := Lib.hid hF
  have HML := Lib.hid (vlN_iff.1 hv).1
  have HMC := Lib.hid (vlN_iff.1 hv).2.1
  have HK := Lib.hid k1
  obtain ⟨nc, hnc⟩ : ∃ nc, nc = colsN m := ⟨_, rfl⟩
  have HNC := Lib.hid hnc
  have hml8 : m.length ≤ 8 := HML.out.2
  clear hv hF HD k1 hnc
  go_wp2_with fail
  go_loopg [3, 4] m.length (fun z v x wr => ∃ (R : List (List RI)) (us : List Value), R.length + z = m.length ∧ x = .int .i64 (R.length : Int) ∧ OwnM w1 wr v us R ∧ plM R = tabM R.length nc F ∧ okM R)
  case atStart => exact ⟨[], [], by simp, rfl, OwnM.nil (Kp.refl _), rfl, fun r h => by simp at h⟩
  case round =>
  obtain ⟨R, us, hRq, rfl, hO, hpl, hok⟩ := hrel
  have HH := Lib.hid (And.intro hpl hok)
  have HO := Lib.hid hO
  have hkr := hO.1
  clear hpl hok hO
  by_cases hlt : R.length < m.length
  rotate_left
  · have hRe : R.length = m.length := by omega
    obtain ⟨va, vc, rfl, hvc1, hvc2, hrm⟩ := HO.out.value
    have HRe := Lib.hid (And.intro hRe hrm)
    clear hRe hRq hrm
    go_wp2_with fail
    refine bodyPost_ret (v := .slice va R.length vc) (by simp [results, Tryz.results37, go_sem]) rfl ?_
    refine ⟨va, R, vc, rfl, HRe.out.2, ?_, HH.out.2, by have := HRe.out.1; omega, HK.out.trans hkr⟩
    rw [HH.out.1, HRe.out.1, HNC.out]
    exact HE.out.symm
  have Hlt := Lib.hid (And.intro hlt hRq)
  obtain ⟨r, hr⟩ : ∃ r, m[R.length]? = some r := ⟨_, List.getElem?_eq_getElem hlt⟩
  obtain ⟨b2, o2, ra2, rc2, e2, hrc, hrw, hrl⟩ := HM.out R.length r hr
  cases e2
  have HRV := Lib.hid (vlN_row HVM.out hr)
  have hr8 : r.length ≤ 8 := by have := HRV.out.1; have := HMC.out; omega
  have HRC := Lib.hid hrc
  have HRW := Lib.hid hrw
  have Hr := Lib.hid hr
  have hk1 : (0 : Int) ≤ (R.length : Int) := by omega
  have hk2 : (R.length : Int) < (m.length : Int) := by omega
  clear hRq hr hrc hrw hrl
  go_wp2_with fail
  obtain ⟨gk1, hgk1⟩ : ∃ x : Nat, x = gk := ⟨_, rfl⟩
  subst hgk1
  obtain ⟨wi, hwi⟩ : ∃ x : World, x = wr := ⟨_, rfl⟩
  subst hwi
  have HKI := Lib.hid (HK.out.trans hkr)
  clear hkr
  go_loopg [5, 6] r.length (fun z u x wr => ∃ cur : List RI, cur.length + z = r.length ∧ x = .int .i64 (cur.length : Int) ∧ OwnN wi wr u cur ∧ plR cur = rowF cur.length (F R.length) ∧ ∀ x ∈ cur, x.vl = true)
  case atStart => exact ⟨[], by simp, rfl, OwnN.nil (Kp.refl _), rfl, fun x h => by simp at h⟩
  case round =>
  obtain ⟨cur, hcq, rfl, hown0, hpc, hvc⟩ := hrel
  have hki := HKI.out.trans hown0.1
  have hrc1 := hki.cell HRC.out
  by_cases hlt2 : cur.length < r.length
  rotate_left
  · have hce : cur.length = nc := by have := HRV.out.1; have := HNC.out; omega
    obtain ⟨ua, uc, rfl, huc, hum, hurow⟩ := hown0.value
    have kA := (Kp.refl wr).alloc (.cells #[.slice ua cur.length uc] 34)
    have HOA := HO.out.kp (hown0.1.trans kA)
    have hoff := OwnN.off (w' := wr.alloc (.cells #[.slice ua cur.length uc] 34)) hown0 rfl HO.out.new kA.size
    have hrowA := hurow.kp kA
    have HPC := Lib.hid (And.intro hpc (And.intro hvc hce))
    have hcl2 : cur.length ≤ 1100000 := by omega
    have hRl : R.length + 1 ≤ 9000000 := by omega
    clear hpc hvc hcq hown0 huc hum hurow hki kA hce
    go_wp2_with (at_builtin; refine wpList_append_rowi rfl _ _ rfl w1 _ us R rfl HOA _ _ rfl ua uc cur hrowA hoff hcl2 (by simp) hRl ?_; intro v' us' w9 hM9)
    go_roundg (gk1 - 1)
    case measure => have := Hlt.out; omega
    case rel =>
    refine ⟨R ++ [cur], us', by have := Hlt.out; rw [List.length_append, List.length_singleton]; omega, by rw [List.length_append, List.length_singleton]; go_num, hM9, ?_, okM_snoc HH.out.2 HPC.out.2.1⟩
    rw [plM_snoc, HH.out.1, List.length_append, List.length_singleton, tabM_snoc, HPC.out.1, HPC.out.2.2]
  obtain ⟨x, hx⟩ : ∃ x, r[cur.length]? = some x := ⟨_, List.getElem?_eq_getElem hlt2⟩
  obtain ⟨b3, o3, e3, hxr, s0, s1, s2⟩ := (HRW.out.kp hki) cur.length x hx
  subst e3
  have HPC := Lib.hid (And.intro hpc (And.intro hvc (And.intro hcq hlt2)))
  have HXO := Lib.hid (show x.ok wr from ⟨hxr, HRV.out.2 x (List.mem_of_getElem? hx)⟩)
  have HXP := Lib.hid (show (ptI x).pl = F R.length cur.length by rw [HF.out]; show _ = ptP (atN m R.length cur.length); rw [atN_eq Hr.out hx]; rfl)
  have hj1 : (0 : Int) ≤ (cur.length : Int) := by omega
  have hj2 : (cur.length : Int) < (r.length : Int) := by omega
  have hcl : cur.length + 1 ≤ 9000000 := by omega
  have HOW := Lib.hid hown0
  clear hx hxr hpc hvc hcq hown0 hki
  go_wp2_with fail
  go_fit (r5point_any x _ HXO.out)
  rintro e v2 ⟨rfl, j2⟩
  have kY := j2.alloc (.cells #[.bool (ptI x).lo.neg, .slice (ptI x).lo.a (ptI x).lo.xs.length (ptI x).lo.c, .int .i64 (ptI x).lo.e, .bool (ptI x).hi.neg, .slice (ptI x).hi.a (ptI x).hi.xs.length (ptI x).hi.c, .int .i64 (ptI x).hi.e, .bool (ptI x).all] 44)
  have hown := HOW.out.kp kY
  have hzA := ptI_rd (HXO.out.kp kY).1
  have HZ := Lib.hid (ptI_ok (HXO.out.kp kY)).2.2
  clear kY s0 s1 s2 hrc1
  go_wp2_with (at_builtin; refine wpList_append_ivg rfl _ _ rfl wi _ cur rfl hown _ _ rfl (ptI x) hzA (by simp [ptI]) hcl ?_; intro a' c' w9 hown9 hgrow hblk)
  go_roundg (gk - 1)
  case measure => have := HPC.out.2.2; omega
  case rel =>
  refine ⟨cur ++ [ptI x], by have := HPC.out.2.2; rw [List.length_append, List.length_singleton]; omega, by rw [List.length_append, List.length_singleton]; go_num, by simpa using hown9, ?_, ok_snoc HPC.out.2.1 HZ.out⟩
  rw [plR_snoc, HPC.out.1, List.length_append, List.length_singleton, rowF_snoc, HXP.out]
end Go.Proofs.YtpocjagbhiahdaaGreatDoor
