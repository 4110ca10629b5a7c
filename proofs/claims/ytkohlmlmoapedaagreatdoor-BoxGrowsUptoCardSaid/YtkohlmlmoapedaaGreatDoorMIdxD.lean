/-
  Walks: slices.IndexFunc, ContainsFunc at []api.Dyadic.
  Walks: interval.known.
  Walks: interval.less, more, known, Whole.
-/
import Derived.Test.YtkohlmlmoapedaaGreatDoorMIvB
import Derived.Test.YtkohlmlmoapedaaGreatDoorMBase
section
namespace Go.Proofs.YtkohlmlmoapedaaGreatDoor
open Go.RowKit
/-- the cells of numbers, one behind the other -/
def RowD (w : World) (a : Option Addr) (zs : List RD) : Prop :=
  ∀ i x, zs[i]? = some x → ∃ b o, a = some ⟨b, o, none⟩ ∧ x.rd w ∧ w.cell? ⟨b, o + i * 3, none⟩ = some (.bool x.neg) ∧ w.cell? ⟨b, o + i * 3 + 1, none⟩ = some (.slice x.a x.xs.length x.c) ∧ w.cell? ⟨b, o + i * 3 + 2, none⟩ = some (.int .i64 x.e)
theorem RowD.kp {w w' : World} {a : Option Addr} {zs : List RD} (h : RowD w a zs) (k : Kp w w') : RowD w' a zs := by
  intro i x hi
  obtain ⟨b, o, rfl, hr, h0, h1, h2⟩ := h i x hi
  exact ⟨b, o, rfl, hr.kp k, k.cell h0, k.cell h1, k.cell h2⟩

/-- the first index at which p answers true; -1 if there is none -/
def firstD (p : RD → Bool) (zs : List RD) : Int := match zs.findIdx? p with | some i => (i : Int) | none => -1
theorem firstD_some {p : RD → Bool} {zs : List RD} {k : Nat} {x : RD} (hk : zs[k]? = some x) (hp : p x = true) (h : ∀ i y, zs[i]? = some y → i < k → p y = false) : firstD p zs = k := by
  unfold firstD
  have : zs.findIdx? p = some k := by
    rw [List.findIdx?_eq_some_iff_getElem]
    obtain ⟨h1, h2⟩ := List.getElem?_eq_some_iff.1 hk
    refine ⟨h1, by rw [h2]; exact hp, fun j hj => ?_⟩
    rw [h j _ (List.getElem?_eq_getElem (by omega)) hj]; decide
  rw [this]
theorem firstD_none {p : RD → Bool} {zs : List RD} (h : ∀ (i : Nat) (y : RD), zs[i]? = some y → p y = false) : firstD p zs = -1 := by
  unfold firstD
  have : zs.findIdx? p = none := by
    rw [List.findIdx?_eq_none_iff]
    intro y hy
    obtain ⟨i, hi⟩ := List.getElem?_of_mem hy
    exact h i y hi
  rw [this]
theorem firstD_any (p : RD → Bool) (zs : List RD) : decide (0 ≤ firstD p zs) = zs.any p := by
  unfold firstD
  cases h : zs.findIdx? p with
  | some i =>
    have hm := List.findIdx?_eq_some_iff_getElem.1 h
    obtain ⟨h1, h2, _⟩ := hm
    have : zs.any p = true := List.any_eq_true.2 ⟨_, List.getElem_mem h1, h2⟩
    rw [this]; simp
  | none =>
    have hm := List.findIdx?_eq_none_iff.1 h
    have : zs.any p = false := by rw [List.any_eq_false]; intro y hy; rw [hm y hy]; decide
    rw [this]; decide
/-- the function g with the captured values cap answers p at each element, in whatever later world, and keeps all that was there -/
def AnsD (P : Program) (g : FuncId) (cap : Array Value) (w : World) (zs : List RD) (p : RD → Bool) : Prop :=
  Enters P g ∧ ∀ x, x ∈ zs → ∀ w1, Kp w w1 → Calls P g (#[.agg #[.bool x.neg, .slice x.a x.xs.length x.c, .int .i64 x.e]] ++ cap) w1 fun e w2 => e = .returned (.bool (p x)) ∧ Kp w1 w2

set_option maxHeartbeats 4000000 in
theorem idxD (a : Option Addr) (zs : List RD) (c : Nat) (g : FuncId) (cap : Array Value) (w : World) (p : RD → Bool) (hm : zs.length ≤ 1100000) (h : RowD w a zs) (hp : AnsD Tryz.prog g cap w zs p) :
    Calls Tryz.prog 47 #[.slice a zs.length c, .func (.func g) #[] cap] w fun e w' => e = .returned (.int .i64 (firstD p zs)) ∧ Kp w w' := by
  go_enter Tryz.func47, Tryz.ntmps47
  go_wp2
  go_loopw [8] (fun x wr => ∃ k : Nat, k ≤ zs.length ∧ x = .int .i64 k ∧ (∀ i y, zs[i]? = some y → i < k → p y = false) ∧ Kp w wr) (fun x _ => zs.length - (intOf x).toNat)
  case atStart => exact ⟨0, by omega, rfl, fun i y _ h1 => by omega, .refl _⟩
  case round =>
    obtain ⟨k, hk, rfl, hz, hkp⟩ := hrel
    have Hz := Lib.hid hz; clear hz
    by_cases hlt : k < zs.length
    · obtain ⟨b, o, rfl, hr, h0, h1, h2⟩ := (h.kp hkp) k (zs[k]) (List.getElem?_eq_getElem hlt)
      have Hg := Lib.hid (List.getElem?_eq_getElem hlt)
      have hgo : ∀ args w, (callFunc g args).run Tryz.prog w = .ok (.enter g args) w := hp.1
      have hcall := hp.2 _ (List.getElem_mem hlt) wr hkp
      clear hp h
      generalize zs[k] = x at *
      cases hq : p x with
      | true =>
        rw [hq] at hcall
        have Hc := Lib.hid hcall
        have Hq := Lib.hid (firstD_some Hg.out hq Hz.out)
        clear hcall hq
        go_wp2_with (refine Hc.out.mono ?_; rintro e w2 ⟨rfl, hk2⟩)
        go_ret
        exact ⟨ret_int Hq.out.symm, hkp.trans hk2⟩
      | false =>
        rw [hq] at hcall
        have Hc := Lib.hid hcall
        have Hq := Lib.hid hq
        clear hcall hq
        go_wp2_with (refine Hc.out.mono ?_; rintro e w2 ⟨rfl, hk2⟩)
        go_roundw
        case rel =>
          refine ⟨k + 1, by omega, by go_num, fun i y hy hi => ?_, hkp.trans hk2⟩
          by_cases h : i = k
          · subst h; rw [Hg.out] at hy; cases hy; exact Hq.out
          · exact Hz.out i y hy (by omega)
        case measure => simp [intOf]; omega
    · have Hthis := Lib.hid (firstD_none (p := p) (zs := zs) (fun i y hy => Hz.out i y hy (by have := (List.getElem?_eq_some_iff.1 hy).1; omega)))
      go_wp2
      go_ret
      exact ⟨ret_int Hthis.out.symm, hkp⟩

set_option maxHeartbeats 400000 in
theorem containsD (a : Option Addr) (zs : List RD) (c : Nat) (g : FuncId) (cap : Array Value) (w : World) (p : RD → Bool) (hm : zs.length ≤ 1100000) (h : RowD w a zs) (hp : AnsD Tryz.prog g cap w zs p) :
    Calls Tryz.prog 21 #[.slice a zs.length c, .func (.func g) #[] cap] w fun e w' => e = .returned (.bool (zs.any p)) ∧ Kp w w' := by
  have Hc := Lib.hid (idxD a zs c g cap w p hm h hp)
  have Ha := Lib.hid (firstD_any p zs)
  clear hp h
  go_enter Tryz.func21, Tryz.ntmps21
  go_wp2_with (refine Hc.out.mono ?_; rintro e w2 ⟨rfl, hk2⟩)
  go_ret
  exact ⟨by rw [← Ha.out]; rfl, hk2⟩
end Go.Proofs.YtkohlmlmoapedaaGreatDoor
end

section
namespace Go.Proofs.YtkohlmlmoapedaaGreatDoor
open Go.RowKit

/-- the cells of intervals, one behind the other -/
def RowI (w : World) (a : Option Addr) (zs : List RI) : Prop :=
  ∀ i x, zs[i]? = some x → ∃ b o, a = some ⟨b, o, none⟩ ∧ x.rd w ∧ w.cell? ⟨b, o + i * 7, none⟩ = some (.bool x.lo.neg) ∧ w.cell? ⟨b, o + i * 7 + 1, none⟩ = some (.slice x.lo.a x.lo.xs.length x.lo.c) ∧ w.cell? ⟨b, o + i * 7 + 2, none⟩ = some (.int .i64 x.lo.e) ∧
    w.cell? ⟨b, o + i * 7 + 3, none⟩ = some (.bool x.hi.neg) ∧ w.cell? ⟨b, o + i * 7 + 4, none⟩ = some (.slice x.hi.a x.hi.xs.length x.hi.c) ∧ w.cell? ⟨b, o + i * 7 + 5, none⟩ = some (.int .i64 x.hi.e) ∧ w.cell? ⟨b, o + i * 7 + 6, none⟩ = some (.bool x.all)
theorem RowI.kp {w w' : World} {a : Option Addr} {zs : List RI} (h : RowI w a zs) (k : Kp w w') : RowI w' a zs := by
  intro i x hi
  obtain ⟨b, o, rfl, hr, h0, h1, h2, h3, h4, h5, h6⟩ := h i x hi
  exact ⟨b, o, rfl, hr.kp k, k.cell h0, k.cell h1, k.cell h2, k.cell h3, k.cell h4, k.cell h5, k.cell h6⟩
/-- valid, and not All -/
def goodI (x : RI) : Bool := !x.all && x.vl
theorem goodI_ok {w : World} {x : RI} (h : x.rd w) : goodI x = true ↔ x.ok w := by
  unfold goodI RI.ok
  cases x.all <;> simp [h]

set_option maxHeartbeats 4000000 in
theorem known_any (a : Option Addr) (zs : List RI) (c : Nat) (w : World) (h : RowI w a zs) (hl : zs.length ≤ 1100000) :
    Calls Tryz.prog 59 #[.slice a zs.length c] w fun e w' => e = .returned (.bool (zs.all goodI)) ∧ Kp w w' := by
  go_enter Tryz.func59, Tryz.ntmps59
  go_wp2
  go_loopw [7] (fun x wr => ∃ k : Nat, k ≤ zs.length ∧ x = .int .i64 k ∧ (∀ i y, zs[i]? = some y → i < k → goodI y = true) ∧ Kp w wr) (fun x _ => zs.length - (intOf x).toNat)
  case atStart => exact ⟨0, by omega, rfl, fun i y _ h1 => by omega, .refl _⟩
  case round =>
    obtain ⟨k, hk, rfl, hz, hkp⟩ := hrel
    have Hz := Lib.hid hz; clear hz
    by_cases hlt : k < zs.length
    · obtain ⟨b, o, rfl, hr, h0, h1, h2, h3, h4, h5, h6⟩ := (h.kp hkp) k (zs[k]) (List.getElem?_eq_getElem hlt)
      have Hg := Lib.hid (List.getElem?_eq_getElem hlt)
      generalize zs[k] = x at *
      have H := Lib.hid (show goodI x = (!x.all && x.vl) from rfl)
      have step : goodI x = true → ∀ i y, zs[i]? = some y → i < k + 1 → goodI y = true := fun hq i y hy hi => by
        by_cases e : i = k
        · subst e; rw [Hg.out] at hy; cases hy; exact hq
        · exact Hz.out i y hy (by omega)
      have fall : goodI x = false → zs.all goodI = false := fun hq => by
        rw [List.all_eq_false]
        exact ⟨x, List.mem_of_getElem? Hg.out, by rw [hq]; decide⟩
      have Hs := Lib.hid step
      have Hf := Lib.hid fall
      clear step fall
      have hmv := IValid_raw x
      cases ha : x.all with
      | true =>
        rw [ha] at H h6
        clear ha hmv
        go_wp2_with fail
        go_ret
        exact ⟨ret_bool (Hf.out H.out).symm, by first | exact hkp.alloc _ | exact ((hkp.alloc _).alloc _)⟩
      | false =>
        rw [ha] at H h6
        have hm := hmv (wr.alloc (.cells #[.bool x.lo.neg, .slice x.lo.a x.lo.xs.length x.lo.c, .int .i64 x.lo.e, .bool x.hi.neg, .slice x.hi.a x.hi.xs.length x.hi.c, .int .i64 x.hi.e, .bool false] 34)) (hr.kp ((Kp.refl _).alloc _))
        rw [ha] at hm
        clear ha hmv
        go_wp2_with fail
        cases hv : x.vl with
        | true =>
          rw [hv] at H hm
          clear hv
          refine hm.mono ?_
          rintro e w2 ⟨rfl, hk2⟩
          go_wp2_with fail
          go_roundw
          case rel => exact ⟨k + 1, by omega, by go_num, Hs.out H.out, (hkp.alloc _).trans hk2⟩
          case measure => simp [intOf]; omega
        | false =>
          rw [hv] at H hm
          clear hv
          refine hm.mono ?_
          rintro e w2 ⟨rfl, hk2⟩
          go_wp2_with fail
          go_ret
          exact ⟨ret_bool (Hf.out H.out).symm, (hkp.alloc _).trans hk2⟩
    · have hall : zs.all goodI = true := by
        rw [List.all_eq_true]
        intro y hy
        obtain ⟨i, hi⟩ := List.getElem?_of_mem hy
        have : i < zs.length := (List.getElem?_eq_some_iff.1 hi).1
        exact Hz.out i y hi (by omega)
      have H := Lib.hid hall.symm
      clear hall
      go_wp2
      go_ret
      exact ⟨ret_bool H.out, hkp⟩
end Go.Proofs.YtkohlmlmoapedaaGreatDoor
end

section
namespace Go.Proofs.YtkohlmlmoapedaaGreatDoor
open Go.RowKit

/-- the lesser one -/
def lessR (x y : RD) : RD := if x.iv ≤ y.iv then x else y
/-- the greater one -/
def moreR (x y : RD) : RD := if y.iv ≤ x.iv then x else y
theorem keep33 {w w' : World} (k : Kp w w') {p0 p1 p2 q0 q1 q2 : Addr} {v0 v1 v2 u0 u1 u2 : Value}
    (h : (w.cell? p0 = some v0 ∧ w.cell? p1 = some v1 ∧ w.cell? p2 = some v2) ∧ w.cell? q0 = some u0 ∧ w.cell? q1 = some u1 ∧ w.cell? q2 = some u2) :
    (w'.cell? p0 = some v0 ∧ w'.cell? p1 = some v1 ∧ w'.cell? p2 = some v2) ∧ w'.cell? q0 = some u0 ∧ w'.cell? q1 = some u1 ∧ w'.cell? q2 = some u2 :=
  ⟨keep3 k h.1, keep3 k h.2⟩
theorem Box3.new3 (w : World) (x0 x1 x2 : Value) (t : TypeId) (o1 o2 : Obj) : Box3 (((w.alloc o1).alloc o2).alloc (.cells #[x0, x1, x2] t)) (w.heap.size + 2) x0 x1 x2 := by
  have := Box3.new ((w.alloc o1).alloc o2) x0 x1 x2 t
  rwa [World.size_alloc, World.size_alloc] at this

set_option maxHeartbeats 4000000 in
theorem less_ok (x y : RD) (w : World) (hx : x.ok w) (hy : y.ok w) :
    Calls Tryz.prog 61 #[.agg #[.bool x.neg, .slice x.a x.xs.length x.c, .int .i64 x.e], .agg #[.bool y.neg, .slice y.a y.xs.length y.c, .int .i64 y.e]] w fun e w' => e = .returned (.agg #[.bool (lessR x y).neg, .slice (lessR x y).a (lessR x y).xs.length (lessR x y).c, .int .i64 (lessR x y).e]) ∧ Kp w w' := by
  go_enter Tryz.func61, Tryz.ntmps61
  go_wp2_with fail
  generalize hW : (((w.alloc _).alloc _).alloc _) = W at *
  have hk : Kp w W := hW ▸ (((Kp.refl w).alloc _).alloc _).alloc _
  have hS : (W.cell? ⟨w.heap.size, 0, none⟩ = some (.bool x.neg) ∧ W.cell? ⟨w.heap.size, 1, none⟩ = some (.slice x.a x.xs.length x.c) ∧ W.cell? ⟨w.heap.size, 2, none⟩ = some (.int .i64 x.e)) ∧ W.cell? ⟨w.heap.size + 1, 0, none⟩ = some (.bool y.neg) ∧ W.cell? ⟨w.heap.size + 1, 1, none⟩ = some (.slice y.a y.xs.length y.c) ∧ W.cell? ⟨w.heap.size + 1, 2, none⟩ = some (.int .i64 y.e) := by rw [← hW]; exact keep33 ((Kp.refl _).alloc _) (by simp)
  have hB : Box3 W (w.heap.size + 2) (.bool false) (.slice none 0 0) (.int .i64 0) := hW ▸ Box3.new3 _ _ _ _ _ _ _
  clear hW
  refine (Cmp_rok x y _ (hx.kp hk) (hy.kp hk)).mono ?_
  rintro e w1 ⟨rfl, hk1⟩
  have hS1 := keep33 hk1 hS
  obtain ⟨q0, q1, q2, f0, f1, f2⟩ := hB.kp hk1
  have hk2 := hk.trans hk1
  clear hS hk hk1 hB
  by_cases hc : cmpZ x.iv y.iv ≤ 0
  · have hd := decide_eq_true hc
    have H := Lib.hid (show lessR x y = x by unfold lessR; rw [if_pos]; have := @cmpZ_gt x.iv y.iv; omega)
    clear hc
    go_wp2_with fail
    have hst := stored q0 q1 q2 (fun _ h => by cases h) (fun _ h => by cases h) (fun _ h => by cases h) (.bool x.neg) (.slice x.a x.xs.length x.c) (.int .i64 x.e)
    generalize (((w1.setCell _ _).setCell _ _).setCell _ _) = W2 at hst ⊢
    obtain ⟨s0, s1, s2, _, s4, s5, _, _⟩ := hst
    refine bodyPost_ret (v := .agg #[.bool x.neg, .slice x.a x.xs.length x.c, .int .i64 x.e]) (by simp [results, Tryz.results61, go_sem, s0, s1, s2]) rfl ?_
    rw [H.out]
    exact ⟨rfl, s5 _ hk2 (by omega)⟩
  · have hd := decide_eq_false hc
    have H := Lib.hid (show lessR x y = y by unfold lessR; rw [if_neg]; have := @cmpZ_gt x.iv y.iv; omega)
    clear hc
    go_wp2_with fail
    have hst := stored q0 q1 q2 (fun _ h => by cases h) (fun _ h => by cases h) (fun _ h => by cases h) (.bool y.neg) (.slice y.a y.xs.length y.c) (.int .i64 y.e)
    generalize (((w1.setCell _ _).setCell _ _).setCell _ _) = W2 at hst ⊢
    obtain ⟨s0, s1, s2, _, s4, s5, _, _⟩ := hst
    refine bodyPost_ret (v := .agg #[.bool y.neg, .slice y.a y.xs.length y.c, .int .i64 y.e]) (by simp [results, Tryz.results61, go_sem, s0, s1, s2]) rfl ?_
    rw [H.out]
    exact ⟨rfl, s5 _ hk2 (by omega)⟩

set_option maxHeartbeats 4000000 in
theorem more_ok (x y : RD) (w : World) (hx : x.ok w) (hy : y.ok w) :
    Calls Tryz.prog 62 #[.agg #[.bool x.neg, .slice x.a x.xs.length x.c, .int .i64 x.e], .agg #[.bool y.neg, .slice y.a y.xs.length y.c, .int .i64 y.e]] w fun e w' => e = .returned (.agg #[.bool (moreR x y).neg, .slice (moreR x y).a (moreR x y).xs.length (moreR x y).c, .int .i64 (moreR x y).e]) ∧ Kp w w' := by
  go_enter Tryz.func62, Tryz.ntmps62
  go_wp2_with fail
  generalize hW : (((w.alloc _).alloc _).alloc _) = W at *
  have hk : Kp w W := hW ▸ (((Kp.refl w).alloc _).alloc _).alloc _
  have hS : (W.cell? ⟨w.heap.size, 0, none⟩ = some (.bool x.neg) ∧ W.cell? ⟨w.heap.size, 1, none⟩ = some (.slice x.a x.xs.length x.c) ∧ W.cell? ⟨w.heap.size, 2, none⟩ = some (.int .i64 x.e)) ∧ W.cell? ⟨w.heap.size + 1, 0, none⟩ = some (.bool y.neg) ∧ W.cell? ⟨w.heap.size + 1, 1, none⟩ = some (.slice y.a y.xs.length y.c) ∧ W.cell? ⟨w.heap.size + 1, 2, none⟩ = some (.int .i64 y.e) := by rw [← hW]; exact keep33 ((Kp.refl _).alloc _) (by simp)
  have hB : Box3 W (w.heap.size + 2) (.bool false) (.slice none 0 0) (.int .i64 0) := hW ▸ Box3.new3 _ _ _ _ _ _ _
  clear hW
  refine (Cmp_rok x y _ (hx.kp hk) (hy.kp hk)).mono ?_
  rintro e w1 ⟨rfl, hk1⟩
  have hS1 := keep33 hk1 hS
  obtain ⟨q0, q1, q2, f0, f1, f2⟩ := hB.kp hk1
  have hk2 := hk.trans hk1
  clear hS hk hk1 hB
  by_cases hc : 0 ≤ cmpZ x.iv y.iv
  · have hd := decide_eq_true hc
    have H := Lib.hid (show moreR x y = x by unfold moreR; rw [if_pos]; have := @cmpZ_lt x.iv y.iv; omega)
    clear hc
    go_wp2_with fail
    have hst := stored q0 q1 q2 (fun _ h => by cases h) (fun _ h => by cases h) (fun _ h => by cases h) (.bool x.neg) (.slice x.a x.xs.length x.c) (.int .i64 x.e)
    generalize (((w1.setCell _ _).setCell _ _).setCell _ _) = W2 at hst ⊢
    obtain ⟨s0, s1, s2, _, s4, s5, _, _⟩ := hst
    refine bodyPost_ret (v := .agg #[.bool x.neg, .slice x.a x.xs.length x.c, .int .i64 x.e]) (by simp [results, Tryz.results62, go_sem, s0, s1, s2]) rfl ?_
    rw [H.out]
    exact ⟨rfl, s5 _ hk2 (by omega)⟩
  · have hd := decide_eq_false hc
    have H := Lib.hid (show moreR x y = y by unfold moreR; rw [if_neg]; have := @cmpZ_lt x.iv y.iv; omega)
    clear hc
    go_wp2_with fail
    have hst := stored q0 q1 q2 (fun _ h => by cases h) (fun _ h => by cases h) (fun _ h => by cases h) (.bool y.neg) (.slice y.a y.xs.length y.c) (.int .i64 y.e)
    generalize (((w1.setCell _ _).setCell _ _).setCell _ _) = W2 at hst ⊢
    obtain ⟨s0, s1, s2, _, s4, s5, _, _⟩ := hst
    refine bodyPost_ret (v := .agg #[.bool y.neg, .slice y.a y.xs.length y.c, .int .i64 y.e]) (by simp [results, Tryz.results62, go_sem, s0, s1, s2]) rfl ?_
    rw [H.out]
    exact ⟨rfl, s5 _ hk2 (by omega)⟩
end Go.Proofs.YtkohlmlmoapedaaGreatDoor
end
