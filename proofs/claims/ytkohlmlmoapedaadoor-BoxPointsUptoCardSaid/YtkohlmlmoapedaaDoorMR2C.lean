/-
  Walks: the reference's right.
  Walks: the reference's Of, Int.
  Walks: slices.IndexFunc, ContainsFunc at []api.Interval.
-/
import Derived.Test.YtkohlmlmoapedaaDoorMR2A
import Derived.Test.YtkohlmlmoapedaaDoorMIdxD
import Derived.Test.YtkohlmlmoapedaaDoorMIdx
section
namespace Go.Proofs.YtkohlmlmoapedaaDoor
open Go.RowKit

theorem right_step {zs vs : List Nat} {k r z t : Nat} (hk : zs.length = k) (h : val zs * 2 ^ r + t = val (vs.take k) + 4294967296 ^ k * (nth vs k % 2 ^ r))
    (hz : z * 2 ^ r + nth vs k % 2 ^ r = nth vs k + 4294967296 * (nth vs (k + 1) % 2 ^ r)) :
    val (zs ++ [z]) * 2 ^ r + t = val (vs.take (k + 1)) + 4294967296 ^ (k + 1) * (nth vs (k + 1) % 2 ^ r) := by
  rw [val_snoc, hk, val_take_step vs, Nat.pow_succ, Nat.mul_assoc, Nat.add_mul, Nat.mul_assoc]
  generalize 4294967296 ^ k = P at *
  have e : P * (z * 2 ^ r + nth vs k % 2 ^ r) = P * (z * 2 ^ r) + P * (nth vs k % 2 ^ r) := Nat.mul_add _ _ _
  rw [hz, Nat.mul_add] at e
  omega
theorem and_low {s : Nat} (hs : s < 18446744073709551616) : Go.bits BinOp.and IntKind.u64 (s : Int) 4294967295 = ((s % 4294967296 : Nat) : Int) := by
  have h := bits_and_u64_nat s 4294967295 hs (by omega)
  rw [show s &&& 4294967295 = s % 4294967296 from Nat.and_two_pow_sub_one_eq_mod s 32] at h
  exact h
theorem cell_low {x y r : Nat} (hx : x < 4294967296) (hy : y < 4294967296) : (Go.bits BinOp.and IntKind.u64 (((x : Int) + 4294967296 * y) / 2 ^ r) 4294967295) % 4294967296 = (((x + 4294967296 * y) / 2 ^ r % 4294967296 : Nat) : Int) := by
  have e : (((x : Int) + 4294967296 * y) / 2 ^ r) = (((x + 4294967296 * y) / 2 ^ r : Nat) : Int) := by
    rw [Int.natCast_ediv, Int.natCast_add, Int.natCast_mul, Int.natCast_pow]; rfl
  have h1 := Nat.div_le_self (x + 4294967296 * y) (2 ^ r)
  rw [e, and_low (by omega)]
  omega
theorem cell_low0 {x r : Nat} (hx : x < 4294967296) : (Go.bits BinOp.and IntKind.u64 ((x : Int) / 2 ^ r) 4294967295) % 4294967296 = ((x / 2 ^ r % 4294967296 : Nat) : Int) := by
  have := @cell_low x 0 r hx (by decide)
  simpa using this
set_option maxHeartbeats 2000000 in
set_option maxRecDepth 100000 in
theorem r2right_any (a : Option Addr) (xs : List Nat) (c n : Nat) (w : World) (h1 : Rd w a xs) (hxc : xs.length ≤ c) (hc : c ≤ maxLen) (hxl : xs.length ≤ 1100000) (hn : n ≤ 40000000) :
    Calls Tryd.prog 56 #[.slice a xs.length c, .int .i64 n] w (NatOut w (val xs / 2 ^ n)) := by
  have hc' := hc
  by_cases hq : xs.length ≤ n / 32
  · have hq2 : (xs.length : Int) ≤ (n : Int) / 32 := by omega
    have h2 := val_lt h1.lt32
    rw [pow32] at h2
    have hz : val xs / 2 ^ n = 0 := Nat.div_eq_of_lt (Nat.lt_of_lt_of_le h2 (Nat.pow_le_pow_right (by decide) (by omega)))
    rw [hz]
    clear hz h2
    go_enter Tryd.func56, Tryd.ntmps56
    go_wp2_with fail
    go_ret
    exact ⟨none, 0, by rw [limbs_zero]; rfl, by rw [limbs_zero]; exact Nat.le_refl _, by unfold maxLen; omega, by rw [limbs_zero]; exact .nil _ _, .refl _⟩
  · have hq2 : ¬ (xs.length : Int) ≤ (n : Int) / 32 := by omega
    obtain ⟨b1, o1, rfl, _⟩ := h1.some (i := 0) (by omega)
    have h2 := h1.drop (n / 32)
    have hq3 : (n : Int) / 32 < xs.length := by omega
    have hvl : (xs.drop (n / 32)).length = xs.length - n / 32 := List.length_drop
    have hval : val (xs.drop (n / 32)) = val xs / 4294967296 ^ (n / 32) := by
      have e := val_take_drop xs (n / 32) (by omega)
      have b := val_lt (h1.lt32.take (n / 32))
      rw [List.length_take, Nat.min_eq_left (by omega)] at b
      rw [e, Nat.add_mul_div_left _ _ (Nat.pow_pos (by decide)), Nat.div_eq_of_lt b, Nat.zero_add]
    have hfin : val xs / 2 ^ n = val (xs.drop (n / 32)) / 2 ^ (n % 32) := by rw [hval, Nat.div_div_eq_div_mul, pow_split]
    rw [hfin]
    clear hval hfin
    generalize xs.drop (n / 32) = vs at *
    have hr : n % 32 < 32 := Nat.mod_lt _ (by decide)
    have Hvl := Lib.hid hvl
    have hvl2 : xs.length - n / 32 ≤ vs.length := by omega
    clear hvl
    go_enter Tryd.func56, Tryd.ntmps56
    go_wp2_with fail
    go_loopw [5, 6] (fun v ix wr => ∃ (k : Nat) (zs : List Nat), k ≤ xs.length - n / 32 ∧ ix = .int .i64 k ∧ zs.length = k ∧ Own wr w.heap.size v zs ∧
      val zs * 2 ^ (n % 32) + nth vs 0 % 2 ^ (n % 32) = val (vs.take k) + 4294967296 ^ k * (nth vs k % 2 ^ (n % 32)) ∧ Kp w wr) (fun _ ix _ => (xs.length - n / 32) - (intOf ix).toNat)
    case atStart => exact ⟨0, [], Nat.zero_le _, rfl, rfl, Own.nil _ _, by simp [val], .refl _⟩
    case round =>
      obtain ⟨k, zs, hk, rfl, hzl, hown, hvz, hkp⟩ := hrel
      have Hvz := Lib.hid hvz
      have Hzl := Lib.hid hzl
      have hzl2 : zs.length + 1 ≤ 9000000 := by omega
      clear hvz hzl
      by_cases hlt : k < xs.length - n / 32
      · obtain ⟨b2, o2, e2, hcx⟩ := (h2.kp hkp).some (i := k) (by omega)
        cases e2
        have hx1 := hcx k (by omega)
        have bx := h2.lt32.nth k
        have bx2 := h2.lt32.nth (k + 1)
        have Hst := Lib.hid (fun z => right_step (z := z) Hzl.out Hvz.out)
        have Hl := Lib.hid (shr_limb (y := nth vs (k + 1)) bx hr)
        by_cases hlt2 : k + 1 < xs.length - n / 32
        · have hx2 := hcx (k + 1) (by omega)
          have hor := shr_or bx bx2
          clear hcx
          have hcl := Lib.hid (cell_low (r := n % 32) bx bx2)
          go_wp2_with (at_builtin; refine wpList_append_u32 rfl _ _ rfl w.heap.size _ _ rfl (hown.alloc _) _ _ rfl (World.cell?_alloc_new _ _ _ _) ((nth vs k + 4294967296 * nth vs (k + 1)) / 2 ^ (n % 32) % 4294967296) hcl.out (Nat.mod_lt _ (by decide)) hzl2 (by have := hkp.size; simp; omega) ?_; intro a2 c2 w2 hown2 hb2)
          go_roundw
          case rel => exact ⟨k + 1, _, by omega, by go_num, by simp [Hzl.out], hown2, Hst.out _ Hl.out, (hkp.alloc _).below.trans hb2⟩
          case measure => simp [intOf]; omega
        · have h0 : nth vs (k + 1) = 0 := nth_ge (by rw [Hvl.out]; omega)
          have H0 := Lib.hid h0
          have hcl := Lib.hid (cell_low0 (r := n % 32) bx)
          have hltt : ¬ ((k : Int) + 1 < ((xs.length - n / 32 : Nat) : Int)) := by omega
          clear hcx h0
          go_wp2_with (at_builtin; refine wpList_append_u32 rfl _ _ rfl w.heap.size _ _ rfl (hown.alloc _) _ _ rfl (World.cell?_alloc_new _ _ _ _) (nth vs k / 2 ^ (n % 32) % 4294967296) hcl.out (Nat.mod_lt _ (by decide)) hzl2 (by have := hkp.size; simp; omega) ?_; intro a2 c2 w2 hown2 hb2)
          go_roundw
          case rel =>
            have h3 := Hl.out
            rw [H0.out, Nat.mul_zero, Nat.add_zero] at h3
            exact ⟨k + 1, _, by omega, by go_num, by simp [Hzl.out], hown2, Hst.out _ (by rw [H0.out]; exact h3), (hkp.alloc _).below.trans hb2⟩
          case measure => simp [intOf]; omega
      · have hke : k = xs.length - n / 32 := by omega
        have e2 := Hvz.out
        have h0 : nth vs k = 0 := nth_ge (by rw [Hvl.out, hke]; omega)
        rw [h0, Nat.zero_mod, Nat.mul_zero, Nat.add_zero, hke, List.take_of_length_le (by rw [Hvl.out]; omega)] at e2
        have hlt3 := Nat.mod_lt (nth vs 0) (two_pow_pos (n % 32))
        have e3 : val zs = val vs / 2 ^ (n % 32) := by
          rw [← e2, Nat.mul_comm, Nat.mul_add_div (two_pow_pos _), Nat.div_eq_of_lt hlt3, Nat.add_zero]
        obtain ⟨a5, c5, e5, l5, m5, r5⟩ := hown.value
        subst e5
        have E3 := Lib.hid e3
        have hT := Lib.hid (r2trim_any a5 zs c5 wr r5 l5 m5 (by have := Hzl.out; omega))
        have hkk := Lib.hid hkp
        clear e2 e3 h0 hlt3 hkp hown
        go_wp2_with fail
        refine hT.out.mono ?_
        rintro e w7 ⟨a6, c6, rfl, l6, m6, r6, k6⟩
        go_wp2_with fail
        go_ret
        rw [← E3.out]
        exact ⟨a6, c6, rfl, l6, m6, r6, hkk.out.trans k6⟩
end Go.Proofs.YtkohlmlmoapedaaDoor
end

section
namespace Go.Proofs.YtkohlmlmoapedaaDoor
open Go.RowKit

set_option maxRecDepth 100000 in
set_option maxHeartbeats 2000000 in
theorem r2Of_any (s : Bool) (a : Option Addr) (xs : List Nat) (c : Nat) (ex : Int) (w : World) (h : Rd w a xs) (hc : xs.length ≤ c) (hm : c ≤ maxLen) (hl : xs.length ≤ 1100000) (he0 : -1000000000 ≤ ex) (he1 : ex ≤ 1000000000) :
    Calls Tryd.prog 38 #[.bool s, .slice a xs.length c, .int .i64 ex] w (DyOut w (canon s (val xs) ex)) := by
  have hll := limbs_len_le h.lt32
  have hT := Lib.hid (r2trim_any a xs c (w.alloc (.cells #[.bool false, .slice none 0 0, .int .i64 0] 36)) (h.kp ((Kp.refl w).alloc _)) hc hm hl)
  have hB := Box3.new w (.bool false) (.slice none 0 0) (.int .i64 0) 36
  by_cases h0 : val xs = 0
  · have hn : (limbs (val xs)).length = 0 := by rw [h0, limbs_zero]; rfl
    have H0 := Lib.hid h0
    clear h0
    go_enter Tryd.func38, Tryd.ntmps38
    go_wp2_with fail
    refine hT.out.mono ?_
    rintro e w1 ⟨a1, c1, rfl, l1, m1, r1, k1⟩
    rw [hn]
    obtain ⟨q0, q1, q2, f0, f1, f2⟩ := hB.kp k1
    have hk2 := ((Kp.refl w).alloc _).trans k1
    have hst := stored q0 q1 q2 (fun _ h => by cases h) (fun _ h => by cases h) (fun _ h => by cases h) (.bool false) (.slice none 0 0) (.int .i64 0)
    clear hn
    go_wp2_with fail
    generalize (((w1.setCell _ _).setCell _ _).setCell _ _) = W at hst ⊢
    obtain ⟨s0, s1, s2, _, s4, s5, _, _⟩ := hst
    refine bodyPost_ret (v := .agg #[.bool false, .slice none 0 0, .int .i64 0]) (by simp [results, Tryd.results38, go_sem, s0, s1, s2]) rfl ?_
    rw [H0.out, canon_zero]
    exact dyOut_intro none 0 0 false 0 rfl rfl (by show 0 = (limbs 0).length; rw [limbs_zero]; rfl) rfl (by show Rd _ none (limbs 0); rw [limbs_zero]; exact .nil _ _) (Nat.le_refl _) (by unfold maxLen; omega) (s5 _ hk2 (by omega))
  · have hne : (((limbs (val xs)).length : Int) == 0) = false := beq_eq_false_iff_ne.2 (by
      have : (limbs (val xs)).length ≠ 0 := fun e => h0 (limbs_eq_nil.1 (List.length_eq_zero_iff.1 e))
      omega)
    have Hc := Lib.hid (show canon s (val xs) ex = ⟨s, oddp (val xs), ex + tz (val xs)⟩ by unfold canon; rw [if_neg h0])
    have Hodd := Lib.hid (show val xs / 2 ^ tz (val xs) = oddp (val xs) from rfl)
    have htz := bits_of_nz h0
    have hbv := bits_val_le h.lt32
    have hv0 : val (limbs (val xs)) ≠ 0 := by rw [val_limbs]; exact h0
    have Hv0 := Lib.hid hv0
    clear h0 hv0
    go_enter Tryd.func38, Tryd.ntmps38
    go_wp2_with fail
    refine hT.out.mono ?_
    rintro e w1 ⟨a1, c1, rfl, l1, m1, r1, k1⟩
    go_wp2_with fail
    have hz := r2zeros_any a1 _ c1 _ r1 (by omega) Hv0.out
    rw [val_limbs] at hz
    refine hz.mono ?_
    rintro e w2 ⟨rfl, rfl⟩
    clear hz
    have hr := r2right_any a1 _ c1 (tz (val xs)) _ r1 l1 m1 (by omega) (by omega)
    rw [val_limbs, Hodd.out] at hr
    go_wp2_with fail
    refine hr.mono ?_
    rintro e w3 ⟨a3, c3, rfl, l3, m3, r3, k3⟩
    clear hr
    have hkb := k1.trans k3
    obtain ⟨q0, q1, q2, f0, f1, f2⟩ := hB.kp hkb
    have hk2 := ((Kp.refl w).alloc _).trans hkb
    have hst := stored q0 q1 q2 (fun _ h => by cases h) (fun _ h => by cases h) (fun _ h => by cases h) (.bool s) (.slice a3 (limbs (oddp (val xs))).length c3) (.int .i64 (ex + tz (val xs)))
    go_wp2_with fail
    generalize (((w3.setCell _ _).setCell _ _).setCell _ _) = W at hst ⊢
    obtain ⟨s0, s1, s2, _, s4, s5, _, _⟩ := hst
    refine bodyPost_ret (v := .agg #[.bool s, .slice a3 (limbs (oddp (val xs))).length c3, .int .i64 (ex + tz (val xs))]) (by simp [results, Tryd.results38, go_sem, s0, s1, s2]) rfl ?_
    rw [Hc.out]
    exact dyOut_intro a3 _ c3 s _ rfl rfl rfl rfl (s4 _ _ r3) l3 m3 (s5 _ hk2 (by omega))

theorem rd_pair (w : World) (x y : Nat) (hx : x < 4294967296) (hy : y < 4294967296) (u v : Int) (hu : u = x) (hv : v = y) : Rd (w.alloc (.cells #[.int .u32 u, .int .u32 v] 45)) (some ⟨w.heap.size, 0, none⟩) [x, y] := by
  subst hu hv
  refine ⟨.cons hx (.cons hy .nil), .inr ⟨_, _, rfl, fun i hi => ?_⟩⟩
  match i, hi with
  | 0, _ => simp [nth]
  | 1, _ => simp [nth]
  | i + 2, hi => exact absurd hi (by simp)
set_option maxRecDepth 100000 in
set_option maxHeartbeats 2000000 in
theorem r2Int_any (n : Nat) (w : World) (hn : n ≤ 9000000) :
    Calls Tryd.prog 16 #[.int .i64 n] w (DyOut w (canon false n 0)) := by
  have hB := Box3.new w (.bool false) (.slice none 0 0) (.int .i64 0) 36
  go_enter Tryd.func16, Tryd.ntmps16
  have hneg : decide ((n : Int) < 0) = false := decide_eq_false (by omega)
  have hR := rd_pair (w.alloc (.cells #[.bool false, .slice none 0 0, .int .i64 0] 36)) n 0 (by omega) (by decide) (Go.bits BinOp.and IntKind.u64 (n : Int) 4294967295 % 4294967296) ((n : Int) / 4294967296) (by rw [and_low (by omega)]; omega) (by omega)
  rw [World.size_alloc] at hR
  have hO := Lib.hid (r2Of_any false _ [n, 0] 2 0 _ hR (by simp) (by unfold maxLen; omega) (by simp) (by decide) (by decide))
  clear hR
  go_wp2_with fail
  refine hO.out.mono ?_
  rintro e w3 ⟨a3, c3, rfl, r3, l3, m3, k3⟩
  have hkb := ((Kp.refl _).alloc _).trans k3
  obtain ⟨q0, q1, q2, f0, f1, f2⟩ := hB.kp hkb
  have hk2 := ((Kp.refl w).alloc _).trans hkb
  rw [show val [n, 0] = n from by simp [val]] at r3 l3 ⊢
  generalize canon false n 0 = D at *
  have hst := stored q0 q1 q2 (fun _ h => by cases h) (fun _ h => by cases h) (fun _ h => by cases h) (.bool D.neg) (.slice a3 (limbs D.m).length c3) (.int .i64 D.e)
  go_wp2_with fail
  generalize (((w3.setCell _ _).setCell _ _).setCell _ _) = W at hst ⊢
  obtain ⟨s0, s1, s2, _, s4, s5, _, _⟩ := hst
  refine bodyPost_ret (v := .agg #[.bool D.neg, .slice a3 (limbs D.m).length c3, .int .i64 D.e]) (by simp [results, Tryd.results16, go_sem, s0, s1, s2]) rfl ?_
  exact ⟨a3, c3, rfl, s4 _ _ r3, l3, m3, s5 _ hk2 (by omega)⟩
end Go.Proofs.YtkohlmlmoapedaaDoor
end

section
namespace Go.Proofs.YtkohlmlmoapedaaDoor
open Go.RowKit

/-- the first index at which p answers true; -1 if there is none -/
def firstI (p : RI → Bool) (zs : List RI) : Int := match zs.findIdx? p with | some i => (i : Int) | none => -1
theorem firstI_some {p : RI → Bool} {zs : List RI} {k : Nat} {x : RI} (hk : zs[k]? = some x) (hp : p x = true) (h : ∀ i y, zs[i]? = some y → i < k → p y = false) : firstI p zs = k := by
  unfold firstI
  have : zs.findIdx? p = some k := by
    rw [List.findIdx?_eq_some_iff_getElem]
    obtain ⟨h1, h2⟩ := List.getElem?_eq_some_iff.1 hk
    refine ⟨h1, by rw [h2]; exact hp, fun j hj => ?_⟩
    rw [h j _ (List.getElem?_eq_getElem (by omega)) hj]; decide
  rw [this]
theorem firstI_none {p : RI → Bool} {zs : List RI} (h : ∀ (i : Nat) (y : RI), zs[i]? = some y → p y = false) : firstI p zs = -1 := by
  unfold firstI
  have : zs.findIdx? p = none := by
    rw [List.findIdx?_eq_none_iff]
    intro y hy
    obtain ⟨i, hi⟩ := List.getElem?_of_mem hy
    exact h i y hi
  rw [this]
theorem firstI_any (p : RI → Bool) (zs : List RI) : decide (0 ≤ firstI p zs) = zs.any p := by
  unfold firstI
  cases h : zs.findIdx? p with
  | some i =>
    have hm := List.findIdx?_eq_some_iff_getElem.1 h
    obtain ⟨h1, h2, _⟩ := hm
    have : zs.any p = true := List.any_eq_true.2 ⟨_, List.getElem_mem h1, h2⟩
    rw [this]; simp
  | none =>
    have hm := List.findIdx?_eq_none_iff.1 h
    have : zs.any p = false := by rw [List.any_eq_false]; intro y hy; rw [hm y hy]; decide
    rw [this]; decide
/-- the function g with the captured values cap answers p at each element, in whatever later world, and keeps all that was there -/
def AnsI (P : Program) (g : FuncId) (cap : Array Value) (w : World) (zs : List RI) (p : RI → Bool) : Prop :=
  Enters P g ∧ ∀ x, x ∈ zs → ∀ w1, Kp w w1 → Calls P g (#[.agg #[.bool x.lo.neg, .slice x.lo.a x.lo.xs.length x.lo.c, .int .i64 x.lo.e, .bool x.hi.neg, .slice x.hi.a x.hi.xs.length x.hi.c, .int .i64 x.hi.e, .bool x.all]] ++ cap) w1 fun e w2 => e = .returned (.bool (p x)) ∧ Kp w1 w2

set_option maxHeartbeats 4000000 in
theorem idxI (a : Option Addr) (zs : List RI) (c : Nat) (g : FuncId) (cap : Array Value) (w : World) (p : RI → Bool) (hm : zs.length ≤ 1100000) (h : RowI w a zs) (hp : AnsI Tryd.prog g cap w zs p) :
    Calls Tryd.prog 45 #[.slice a zs.length c, .func (.func g) #[] cap] w fun e w' => e = .returned (.int .i64 (firstI p zs)) ∧ Kp w w' := by
  go_enter Tryd.func45, Tryd.ntmps45
  go_wp2
  go_loopw [8] (fun x wr => ∃ k : Nat, k ≤ zs.length ∧ x = .int .i64 k ∧ (∀ i y, zs[i]? = some y → i < k → p y = false) ∧ Kp w wr) (fun x _ => zs.length - (intOf x).toNat)
  case atStart => exact ⟨0, by omega, rfl, fun i y _ h1 => by omega, .refl _⟩
  case round =>
    obtain ⟨k, hk, rfl, hz, hkp⟩ := hrel
    have Hz := Lib.hid hz; clear hz
    by_cases hlt : k < zs.length
    · obtain ⟨b, o, rfl, hr, h0, h1, h2, h3, h4, h5, h6⟩ := (h.kp hkp) k (zs[k]) (List.getElem?_eq_getElem hlt)
      have Hg := Lib.hid (List.getElem?_eq_getElem hlt)
      have hgo : ∀ args w, (callFunc g args).run Tryd.prog w = .ok (.enter g args) w := hp.1
      have hcall := hp.2 _ (List.getElem_mem hlt) wr hkp
      clear hp h
      generalize zs[k] = x at *
      cases hq : p x with
      | true =>
        rw [hq] at hcall
        have Hc := Lib.hid hcall
        have Hq := Lib.hid (firstI_some Hg.out hq Hz.out)
        clear hcall hq
        go_wp2_with (refine Hc.out.mono ?_; rintro e w2 ⟨rfl, hk2⟩)
        go_ret
        exact ⟨ret_int Hq.out.symm, hkp.trans hk2⟩
      | false =>
        rw [hq] at hcall
        have Hc := Lib.hid hcall
        have Hq := Lib.hid hq
        clear hcall hq
        go_wp2_with (refine Hc.out.mono ?_; rintro e w2 ⟨rfl, hk2⟩)
        go_roundw
        case rel =>
          refine ⟨k + 1, by omega, by go_num, fun i y hy hi => ?_, hkp.trans hk2⟩
          by_cases h : i = k
          · subst h; rw [Hg.out] at hy; cases hy; exact Hq.out
          · exact Hz.out i y hy (by omega)
        case measure => simp [intOf]; omega
    · have Hthis := Lib.hid (firstI_none (p := p) (zs := zs) (fun i y hy => Hz.out i y hy (by have := (List.getElem?_eq_some_iff.1 hy).1; omega)))
      go_wp2
      go_ret
      exact ⟨ret_int Hthis.out.symm, hkp⟩

set_option maxHeartbeats 400000 in
theorem containsI (a : Option Addr) (zs : List RI) (c : Nat) (g : FuncId) (cap : Array Value) (w : World) (p : RI → Bool) (hm : zs.length ≤ 1100000) (h : RowI w a zs) (hp : AnsI Tryd.prog g cap w zs p) :
    Calls Tryd.prog 23 #[.slice a zs.length c, .func (.func g) #[] cap] w fun e w' => e = .returned (.bool (zs.any p)) ∧ Kp w w' := by
  have Hc := Lib.hid (idxI a zs c g cap w p hm h hp)
  have Ha := Lib.hid (firstI_any p zs)
  clear hp h
  go_enter Tryd.func23, Tryd.ntmps23
  go_wp2_with (refine Hc.out.mono ?_; rintro e w2 ⟨rfl, hk2⟩)
  go_ret
  exact ⟨by rw [← Ha.out]; rfl, hk2⟩
end Go.Proofs.YtkohlmlmoapedaaDoor
end
