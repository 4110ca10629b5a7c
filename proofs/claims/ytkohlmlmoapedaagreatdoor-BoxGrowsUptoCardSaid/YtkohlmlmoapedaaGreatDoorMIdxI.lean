/-
  Walks: slices.IndexFunc, ContainsFunc at []api.Interval.
  Walks: box.Valid, two.
-/
import Derived.Test.YtkohlmlmoapedaaGreatDoorMIdxD
import Derived.Test.YtkohlmlmoapedaaGreatDoorMBase
import Derived.Test.YtkohlmlmoapedaaGreatDoorMIvB
section
namespace Go.Proofs.YtkohlmlmoapedaaGreatDoor
open Go.RowKit

/-- the first index at which p answers true; -1 if there is none -/
def firstI (p : RI → Bool) (zs : List RI) : Int := match zs.findIdx? p with | some i => (i : Int) | none => -1
theorem firstI_some {p : RI → Bool} {zs : List RI} {k : Nat} {x : RI} (hk : zs[k]? = some x) (hp : p x = true) (h : ∀ i y, zs[i]? = some y → i < k → p y = false) : firstI p zs = k := by
  unfold firstI
  have : zs.findIdx? p = some k := by
    rw [List.findIdx?_eq_some_iff_getElem]
    obtain ⟨h1, h2⟩ := List.getElem?_eq_some_iff.1 hk
    refine ⟨h1, by rw [h2]; exact hp, fun j hj => ?_⟩
    rw [h j _ (List.getElem?_eq_getElem (by omega)) hj]; decide
  rw [this]
theorem firstI_none {p : RI → Bool} {zs : List RI} (h : ∀ (i : Nat) (y : RI), zs[i]? = some y → p y = false) : firstI p zs = -1 := by
  unfold firstI
  have : zs.findIdx? p = none := by
    rw [List.findIdx?_eq_none_iff]
    intro y hy
    obtain ⟨i, hi⟩ := List.getElem?_of_mem hy
    exact h i y hi
  rw [this]
theorem firstI_any (p : RI → Bool) (zs : List RI) : decide (0 ≤ firstI p zs) = zs.any p := by
  unfold firstI
  cases h : zs.findIdx? p with
  | some i =>
    have hm := List.findIdx?_eq_some_iff_getElem.1 h
    obtain ⟨h1, h2, _⟩ := hm
    have : zs.any p = true := List.any_eq_true.2 ⟨_, List.getElem_mem h1, h2⟩
    rw [this]; simp
  | none =>
    have hm := List.findIdx?_eq_none_iff.1 h
    have : zs.any p = false := by rw [List.any_eq_false]; intro y hy; rw [hm y hy]; decide
    rw [this]; decide
/-- the function g with the captured values cap answers p at each element, in whatever later world, and keeps all that was there -/
def AnsI (P : Program) (g : FuncId) (cap : Array Value) (w : World) (zs : List RI) (p : RI → Bool) : Prop :=
  Enters P g ∧ ∀ x, x ∈ zs → ∀ w1, Kp w w1 → Calls P g (#[.agg #[.bool x.lo.neg, .slice x.lo.a x.lo.xs.length x.lo.c, .int .i64 x.lo.e, .bool x.hi.neg, .slice x.hi.a x.hi.xs.length x.hi.c, .int .i64 x.hi.e, .bool x.all]] ++ cap) w1 fun e w2 => e = .returned (.bool (p x)) ∧ Kp w1 w2

set_option maxHeartbeats 4000000 in
theorem idxI (a : Option Addr) (zs : List RI) (c : Nat) (g : FuncId) (cap : Array Value) (w : World) (p : RI → Bool) (hm : zs.length ≤ 1100000) (h : RowI w a zs) (hp : AnsI Tryz.prog g cap w zs p) :
    Calls Tryz.prog 48 #[.slice a zs.length c, .func (.func g) #[] cap] w fun e w' => e = .returned (.int .i64 (firstI p zs)) ∧ Kp w w' := by
  go_enter Tryz.func48, Tryz.ntmps48
  go_wp2
  go_loopw [8] (fun x wr => ∃ k : Nat, k ≤ zs.length ∧ x = .int .i64 k ∧ (∀ i y, zs[i]? = some y → i < k → p y = false) ∧ Kp w wr) (fun x _ => zs.length - (intOf x).toNat)
  case atStart => exact ⟨0, by omega, rfl, fun i y _ h1 => by omega, .refl _⟩
  case round =>
    obtain ⟨k, hk, rfl, hz, hkp⟩ := hrel
    have Hz := Lib.hid hz; clear hz
    by_cases hlt : k < zs.length
    · obtain ⟨b, o, rfl, hr, h0, h1, h2, h3, h4, h5, h6⟩ := (h.kp hkp) k (zs[k]) (List.getElem?_eq_getElem hlt)
      have Hg := Lib.hid (List.getElem?_eq_getElem hlt)
      have hgo : ∀ args w, (callFunc g args).run Tryz.prog w = .ok (.enter g args) w := hp.1
      have hcall := hp.2 _ (List.getElem_mem hlt) wr hkp
      clear hp h
      generalize zs[k] = x at *
      cases hq : p x with
      | true =>
        rw [hq] at hcall
        have Hc := Lib.hid hcall
        have Hq := Lib.hid (firstI_some Hg.out hq Hz.out)
        clear hcall hq
        go_wp2_with (refine Hc.out.mono ?_; rintro e w2 ⟨rfl, hk2⟩)
        go_ret
        exact ⟨ret_int Hq.out.symm, hkp.trans hk2⟩
      | false =>
        rw [hq] at hcall
        have Hc := Lib.hid hcall
        have Hq := Lib.hid hq
        clear hcall hq
        go_wp2_with (refine Hc.out.mono ?_; rintro e w2 ⟨rfl, hk2⟩)
        go_roundw
        case rel =>
          refine ⟨k + 1, by omega, by go_num, fun i y hy hi => ?_, hkp.trans hk2⟩
          by_cases h : i = k
          · subst h; rw [Hg.out] at hy; cases hy; exact Hq.out
          · exact Hz.out i y hy (by omega)
        case measure => simp [intOf]; omega
    · have Hthis := Lib.hid (firstI_none (p := p) (zs := zs) (fun i y hy => Hz.out i y hy (by have := (List.getElem?_eq_some_iff.1 hy).1; omega)))
      go_wp2
      go_ret
      exact ⟨ret_int Hthis.out.symm, hkp⟩

set_option maxHeartbeats 400000 in
theorem containsI (a : Option Addr) (zs : List RI) (c : Nat) (g : FuncId) (cap : Array Value) (w : World) (p : RI → Bool) (hm : zs.length ≤ 1100000) (h : RowI w a zs) (hp : AnsI Tryz.prog g cap w zs p) :
    Calls Tryz.prog 22 #[.slice a zs.length c, .func (.func g) #[] cap] w fun e w' => e = .returned (.bool (zs.any p)) ∧ Kp w w' := by
  have Hc := Lib.hid (idxI a zs c g cap w p hm h hp)
  have Ha := Lib.hid (firstI_any p zs)
  clear hp h
  go_enter Tryz.func22, Tryz.ntmps22
  go_wp2_with (refine Hc.out.mono ?_; rintro e w2 ⟨rfl, hk2⟩)
  go_ret
  exact ⟨by rw [← Ha.out]; rfl, hk2⟩
end Go.Proofs.YtkohlmlmoapedaaGreatDoor
end

section
namespace Go.Proofs.YtkohlmlmoapedaaGreatDoor
open Go.RowKit

theorem enters_boxValid1 : Enters Tryz.prog 49 := fun _ _ => by kernel_rfl
set_option maxHeartbeats 4000000 in
theorem boxValid1_raw (x : RI) (w : World) (h : x.rd w) :
    Calls Tryz.prog 49 #[.agg #[.bool x.lo.neg, .slice x.lo.a x.lo.xs.length x.lo.c, .int .i64 x.lo.e, .bool x.hi.neg, .slice x.hi.a x.hi.xs.length x.hi.c, .int .i64 x.hi.e, .bool x.all]] w fun e w' => e = .returned (.bool (!goodI x)) ∧ Kp w w' := by
  have H := Lib.hid (show goodI x = (!x.all && x.vl) from rfl)
  have hmv := IValid_raw x
  go_enter Tryz.func49, Tryz.ntmps49
  cases ha : x.all with
  | true =>
    rw [ha] at H
    clear ha hmv
    go_wp2_with fail
    go_ret
    exact ⟨ret_bool (by rw [H.out]; rfl), (Kp.refl w).alloc _⟩
  | false =>
    rw [ha] at H
    have hm := hmv (w.alloc (.cells #[.bool x.lo.neg, .slice x.lo.a x.lo.xs.length x.lo.c, .int .i64 x.lo.e, .bool x.hi.neg, .slice x.hi.a x.hi.xs.length x.hi.c, .int .i64 x.hi.e, .bool false] 34)) (h.kp ((Kp.refl _).alloc _))
    rw [ha] at hm
    clear ha hmv
    go_wp2_with fail
    refine hm.mono ?_
    rintro e w2 ⟨rfl, hk2⟩
    go_wp2_with fail
    go_ret
    exact ⟨ret_bool (by rw [H.out]; simp), ((Kp.refl w).alloc _).trans hk2⟩

/-- is a box valid? -/
def vlB (zs : List RI) : Bool := decide (1 ≤ zs.length) && (decide (zs.length ≤ 8) && zs.all goodI)
theorem vlB_iff {zs : List RI} : vlB zs = true ↔ 1 ≤ zs.length ∧ zs.length ≤ 8 ∧ zs.all goodI = true := by
  unfold vlB; simp
theorem RowI.rd {w : World} {a : Option Addr} {zs : List RI} (h : RowI w a zs) {x : RI} (hx : x ∈ zs) : x.rd w := by
  obtain ⟨i, hi⟩ := List.getElem?_of_mem hx
  obtain ⟨_, _, _, hr, _⟩ := h i x hi
  exact hr
set_option maxHeartbeats 4000000 in
theorem BValid_any (a : Option Addr) (zs : List RI) (c : Nat) (w : World) (h : RowI w a zs) (hl : zs.length ≤ 1100000) :
    Calls Tryz.prog 24 #[.slice a zs.length c] w fun e w' => e = .returned (.bool (vlB zs)) ∧ Kp w w' := by
  have hc := containsI a zs c 49 #[] w (fun x => !goodI x) hl h ⟨enters_boxValid1, fun x hx w1 hk => boxValid1_raw x w1 ((h.rd hx).kp hk)⟩
  have hany : (zs.any fun x => !goodI x) = !zs.all goodI := by
    rw [Bool.eq_iff_iff]; simp
  rw [hany] at hc
  have Hc := Lib.hid hc
  clear hc hany h
  have H := Lib.hid (show vlB zs = (decide (1 ≤ zs.length) && (decide (zs.length ≤ 8) && zs.all goodI)) from rfl)
  go_enter Tryz.func24, Tryz.ntmps24
  by_cases h1 : 1 ≤ zs.length
  · have d1 : decide (1 ≤ zs.length) = true := decide_eq_true h1
    have e1 : decide ((1 : Int) ≤ (zs.length : Int)) = true := decide_eq_true (by omega)
    rw [d1] at H
    clear d1
    by_cases h2 : zs.length ≤ 8
    · have d2 : decide (zs.length ≤ 8) = true := decide_eq_true h2
      have e2 : decide ((zs.length : Int) ≤ 8) = true := decide_eq_true (by omega)
      rw [d2] at H
      clear d2
      go_wp2_with (refine Hc.out.mono ?_; rintro e w2 ⟨rfl, hk2⟩)
      go_ret
      exact ⟨ret_bool (by rw [H.out]; simp), hk2⟩
    · have d2 : decide (zs.length ≤ 8) = false := decide_eq_false h2
      have e2 : decide ((zs.length : Int) ≤ 8) = false := decide_eq_false (by omega)
      rw [d2] at H
      clear d2
      go_wp2_with fail
      go_ret
      exact ⟨ret_bool (by rw [H.out]; simp), .refl _⟩
  · have d1 : decide (1 ≤ zs.length) = false := decide_eq_false h1
    have e1 : decide ((1 : Int) ≤ (zs.length : Int)) = false := decide_eq_false (by omega)
    rw [d1] at H
    clear d1
    go_wp2_with fail
    go_ret
    exact ⟨ret_bool (by rw [H.out]; simp), .refl _⟩

/-- are both boxes valid, with as many components? -/
def vl2 (zs ys : List RI) : Bool := vlB zs && (vlB ys && decide (zs.length = ys.length))
set_option maxHeartbeats 4000000 in
theorem two_any (a b : Option Addr) (zs ys : List RI) (c d : Nat) (w : World) (h : RowI w a zs) (hl : zs.length ≤ 1100000) (h' : RowI w b ys) (hl' : ys.length ≤ 1100000) :
    Calls Tryz.prog 29 #[.slice a zs.length c, .slice b ys.length d] w fun e w' => e = .returned (.bool (vl2 zs ys)) ∧ Kp w w' := by
  have H := Lib.hid (show vl2 zs ys = (vlB zs && (vlB ys && decide (zs.length = ys.length))) from rfl)
  go_enter Tryz.func29, Tryz.ntmps29
  go_wp2_with fail
  refine (BValid_any a zs c _ h hl).mono ?_
  rintro e w1 ⟨rfl, hk1⟩
  cases hz : vlB zs with
  | false =>
    rw [hz] at H
    clear hz
    go_wp2_with fail
    go_ret
    exact ⟨ret_bool (by rw [H.out]; simp), hk1⟩
  | true =>
    rw [hz] at H
    clear hz
    go_wp2_with fail
    refine (BValid_any b ys d _ (h'.kp hk1) hl').mono ?_
    rintro e w2 ⟨rfl, hk2⟩
    cases hy : vlB ys with
    | false =>
      rw [hy] at H
      clear hy
      go_wp2_with fail
      go_ret
      exact ⟨ret_bool (by rw [H.out]; simp), hk1.trans hk2⟩
    | true =>
      rw [hy] at H
      clear hy
      go_wp2_with fail
      go_ret
      exact ⟨ret_bool (by rw [H.out]; exact Bool.eq_iff_iff.2 (by simp; omega)), hk1.trans hk2⟩
end Go.Proofs.YtkohlmlmoapedaaGreatDoor
end
