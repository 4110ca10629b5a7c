/-
  Walks: slices.IndexFunc, ContainsFunc at [][][]flowpipe/api.Interval.
  Walks: the law's long, wide, great, fine.
-/
import Derived.Test.YtdidocdpjiiedaaGreatDoorMIvE
import Derived.Deep.DeepFit
import Derived.Test.YtdidocdpjiiedaaGreatDoorMRoAdd
import Derived.Test.YtdidocdpjiiedaaGreatDoorMOpenM
section
namespace Go.Proofs.YtdidocdpjiiedaaGreatDoor
open Go.RowKit

/-- a slice of such slices -/
def RowT (w : World) (a : Option Addr) (m : List (List (List RI))) : Prop :=
  ∀ i r, m[i]? = some r → ∃ b o ra rc, a = some ⟨b, o, none⟩ ∧ w.cell? ⟨b, o + i, none⟩ = some (.slice ra r.length rc) ∧ RowM w ra r ∧ r.length ≤ 1100000
theorem RowT.kp {w w' : World} {a : Option Addr} {m : List (List (List RI))} (h : RowT w a m) (k : Kp w w') : RowT w' a m := by
  intro i r hi
  obtain ⟨b, o, ra, rc, h1, h2, h3, h4⟩ := h i r hi
  exact ⟨b, o, ra, rc, h1, k.cell h2, h3.kp k, h4⟩

/-- the first index at which p answers true; -1 if there is none -/
def firstT (p : List (List RI) → Bool) (zs : List (List (List RI))) : Int := match zs.findIdx? p with | some i => (i : Int) | none => -1
theorem firstT_some {p : List (List RI) → Bool} {zs : List (List (List RI))} {k : Nat} {x : List (List RI)} (hk : zs[k]? = some x) (hp : p x = true) (h : ∀ i y, zs[i]? = some y → i < k → p y = false) : firstT p zs = k := by
  unfold firstT
  have : zs.findIdx? p = some k := by
    rw [List.findIdx?_eq_some_iff_getElem]
    obtain ⟨h1, h2⟩ := List.getElem?_eq_some_iff.1 hk
    refine ⟨h1, by rw [h2]; exact hp, fun j hj => ?_⟩
    rw [h j _ (List.getElem?_eq_getElem (by omega)) hj]; decide
  rw [this]
theorem firstT_none {p : List (List RI) → Bool} {zs : List (List (List RI))} (h : ∀ (i : Nat) (y : List (List RI)), zs[i]? = some y → p y = false) : firstT p zs = -1 := by
  unfold firstT
  have : zs.findIdx? p = none := by
    rw [List.findIdx?_eq_none_iff]
    intro y hy
    obtain ⟨i, hi⟩ := List.getElem?_of_mem hy
    exact h i y hi
  rw [this]
theorem firstT_any (p : List (List RI) → Bool) (zs : List (List (List RI))) : decide (0 ≤ firstT p zs) = zs.any p := by
  unfold firstT
  cases h : zs.findIdx? p with
  | some i =>
    have hm := List.findIdx?_eq_some_iff_getElem.1 h
    obtain ⟨h1, h2, _⟩ := hm
    have : zs.any p = true := List.any_eq_true.2 ⟨_, List.getElem_mem h1, h2⟩
    rw [this]; simp
  | none =>
    have hm := List.findIdx?_eq_none_iff.1 h
    have : zs.any p = false := by rw [List.any_eq_false]; intro y hy; rw [hm y hy]; decide
    rw [this]; decide
/-- the function g with the captured values cap answers p at each element, in whatever later world, and keeps all that was there -/
def AnsT (P : Program) (g : FuncId) (cap : Array Value) (w : World) (zs : List (List (List RI))) (p : List (List RI) → Bool) : Prop :=
  Enters P g ∧ ∀ x, x ∈ zs → ∀ a c w1, Kp w w1 → RowM w1 a x ∧ x.length ≤ 1100000 → Calls P g (#[.slice a x.length c] ++ cap) w1 fun e w2 => e = .returned (.bool (p x)) ∧ Kp w1 w2

set_option maxHeartbeats 4000000 in
theorem idxT (a : Option Addr) (zs : List (List (List RI))) (c : Nat) (g : FuncId) (cap : Array Value) (w : World) (p : List (List RI) → Bool) (hm : zs.length ≤ 1100000) (h : RowT w a zs) (hp : AnsT Tryz.prog g cap w zs p) :
    Calls Tryz.prog 107 #[.slice a zs.length c, .func (.func g) #[] cap] w fun e w' => e = .returned (.int .i64 (firstT p zs)) ∧ Kp w w' := by
  go_enter Tryz.func107, Tryz.ntmps107
  go_wp2
  go_loopw [8] (fun x wr => ∃ k : Nat, k ≤ zs.length ∧ x = .int .i64 k ∧ (∀ i y, zs[i]? = some y → i < k → p y = false) ∧ Kp w wr) (fun x _ => zs.length - (intOf x).toNat)
  case atStart => exact ⟨0, by omega, rfl, fun i y _ h1 => by omega, .refl _⟩
  case round =>
    obtain ⟨k, hk, rfl, hz, hkp⟩ := hrel
    have Hz := Lib.hid hz; clear hz
    by_cases hlt : k < zs.length
    · obtain ⟨b, o, ra, rc, rfl, hcell, hrow⟩ := (h.kp hkp) k (zs[k]) (List.getElem?_eq_getElem hlt)
      have Hg := Lib.hid (List.getElem?_eq_getElem hlt)
      have hgo : ∀ args w, (callFunc g args).run Tryz.prog w = .ok (.enter g args) w := hp.1
      have hcall := hp.2 _ (List.getElem_mem hlt) ra rc wr hkp hrow
      clear hp h hrow
      generalize zs[k] = x at *
      cases hq : p x with
      | true =>
        rw [hq] at hcall
        have Hc := Lib.hid hcall
        have Hq := Lib.hid (firstT_some Hg.out hq Hz.out)
        clear hcall hq
        go_wp2_with (refine Hc.out.mono ?_; rintro e w2 ⟨rfl, hk2⟩)
        go_ret
        exact ⟨ret_int Hq.out.symm, hkp.trans hk2⟩
      | false =>
        rw [hq] at hcall
        have Hc := Lib.hid hcall
        have Hq := Lib.hid hq
        clear hcall hq
        go_wp2_with (refine Hc.out.mono ?_; rintro e w2 ⟨rfl, hk2⟩)
        go_roundw
        case rel =>
          refine ⟨k + 1, by omega, by go_num, fun i y hy hi => ?_, hkp.trans hk2⟩
          by_cases h : i = k
          · subst h; rw [Hg.out] at hy; cases hy; exact Hq.out
          · exact Hz.out i y hy (by omega)
        case measure => simp [intOf]; omega
    · have Hthis := Lib.hid (firstT_none (p := p) (zs := zs) (fun i y hy => Hz.out i y hy (by have := (List.getElem?_eq_some_iff.1 hy).1; omega)))
      go_wp2
      go_ret
      exact ⟨ret_int Hthis.out.symm, hkp⟩

set_option maxHeartbeats 400000 in
theorem containsT (a : Option Addr) (zs : List (List (List RI))) (c : Nat) (g : FuncId) (cap : Array Value) (w : World) (p : List (List RI) → Bool) (hm : zs.length ≤ 1100000) (h : RowT w a zs) (hp : AnsT Tryz.prog g cap w zs p) :
    Calls Tryz.prog 52 #[.slice a zs.length c, .func (.func g) #[] cap] w fun e w' => e = .returned (.bool (zs.any p)) ∧ Kp w w' := by
  have Hc := Lib.hid (idxT a zs c g cap w p hm h hp)
  have Ha := Lib.hid (firstT_any p zs)
  clear hp h
  go_enter Tryz.func52, Tryz.ntmps52
  go_wp2_with (refine Hc.out.mono ?_; rintro e w2 ⟨rfl, hk2⟩)
  go_ret
  exact ⟨by rw [← Ha.out]; rfl, hk2⟩
end Go.Proofs.YtdidocdpjiiedaaGreatDoor
end

section
namespace Go.Proofs.YtdidocdpjiiedaaGreatDoor
open Go.RowKit

def longR (x : RD) : Bool := decide (6 < x.xs.length)
def wideR (x : RI) : Bool := longR x.lo || longR x.hi
theorem long7_any (x : RD) (w : World) :
    Calls Tryz.prog 71 #[.agg #[.bool x.neg, .slice x.a x.xs.length x.c, .int .i64 x.e]] w fun e w' => e = .returned (.bool (longR x)) ∧ Kp w w' := by
  have H := Lib.hid (show longR x = decide (6 < (x.xs.length : Int)) by unfold longR; congr 1; exact propext ⟨fun h => by omega, fun h => by omega⟩)
  go_enter Tryz.func71, Tryz.ntmps71
  go_wp2_with fail
  go_ret
  exact ⟨ret_bool H.out.symm, (Kp.refl w).alloc _⟩
set_option maxHeartbeats 1000000 in
theorem wide7_any (x : RI) (w : World) :
    Calls Tryz.prog 21 #[.agg #[.bool x.lo.neg, .slice x.lo.a x.lo.xs.length x.lo.c, .int .i64 x.lo.e, .bool x.hi.neg, .slice x.hi.a x.hi.xs.length x.hi.c, .int .i64 x.hi.e, .bool x.all]] w fun e w' => e = .returned (.bool (wideR x)) ∧ Kp w w' := by
  have H := Lib.hid (show wideR x = (longR x.lo || longR x.hi) from rfl)
  have k1 := (Kp.refl w).alloc (.cells #[.bool x.lo.neg, .slice x.lo.a x.lo.xs.length x.lo.c, .int .i64 x.lo.e, .bool x.hi.neg, .slice x.hi.a x.hi.xs.length x.hi.c, .int .i64 x.hi.e, .bool x.all] 43)
  go_enter Tryz.func21, Tryz.ntmps21
  go_wp2_with fail
  generalize hW : w.alloc _ = W at *
  have hS : W.cell? ⟨w.heap.size, 0, none⟩ = some (.bool x.lo.neg) ∧ W.cell? ⟨w.heap.size, 1, none⟩ = some (.slice x.lo.a x.lo.xs.length x.lo.c) ∧ W.cell? ⟨w.heap.size, 2, none⟩ = some (.int .i64 x.lo.e) ∧ W.cell? ⟨w.heap.size, 3, none⟩ = some (.bool x.hi.neg) ∧ W.cell? ⟨w.heap.size, 4, none⟩ = some (.slice x.hi.a x.hi.xs.length x.hi.c) ∧ W.cell? ⟨w.heap.size, 5, none⟩ = some (.int .i64 x.hi.e) ∧ W.cell? ⟨w.heap.size, 6, none⟩ = some (.bool x.all) := by rw [← hW]; simp
  clear hW
  go_fit (long7_any x.lo _)
  rintro e w1 ⟨rfl, k2⟩
  cases hv : longR x.lo with
  | true =>
    rw [hv] at H
    go_wp2_with fail
    go_ret
    exact ⟨ret_bool (by rw [H.out]; rfl), k1.trans k2⟩
  | false =>
    rw [hv] at H
    obtain ⟨s0, s1, s2, s3, s4, s5, s6⟩ := keep7 k2 hS
    clear hS
    go_wp2_with fail
    go_fit (long7_any x.hi _)
    rintro e w2 ⟨rfl, k3⟩
    go_wp2_with fail
    go_ret
    exact ⟨ret_bool (by rw [H.out]; rfl), (k1.trans k2).trans k3⟩
/-- a row that exceeds the law's limits -/
def bigR (r : List RI) : Bool := decide (20 < r.length) || r.any wideR
theorem gr7row_any (r : List RI) (a : Option Addr) (c : Nat) (w : World) (hr : RowI w a r) (hl : r.length ≤ 1100000) :
    Calls Tryz.prog 54 #[.slice a r.length c] w fun e w' => e = .returned (.bool (bigR r)) ∧ Kp w w' := by
  have hp : AnsI Tryz.prog 21 #[] w r wideR := ⟨fun _ _ => by kernel_rfl, fun x hx w1 k => wide7_any x w1⟩
  have HC := Lib.hid (containsI a r c _ _ w _ hl hr hp)
  clear hp hr
  by_cases h : 20 < r.length
  · have H := Lib.hid (show bigR r = true by unfold bigR; rw [decide_eq_true h]; rfl)
    have g : (20 : Int) < (r.length : Int) := by omega
    clear h
    go_enter Tryz.func54, Tryz.ntmps54
    go_wp2_with fail
    go_ret
    exact ⟨ret_bool H.out.symm, .refl _⟩
  · have H := Lib.hid (show bigR r = r.any wideR by unfold bigR; rw [decide_eq_false h]; rfl)
    have g : ¬ (20 : Int) < (r.length : Int) := by omega
    clear h
    go_enter Tryz.func54, Tryz.ntmps54
    go_wp2_with fail
    go_fit HC.out
    rintro e w1 ⟨rfl, k1⟩
    go_wp2_with fail
    go_ret
    exact ⟨ret_bool H.out.symm, k1⟩
/-- a matrix that exceeds the law's limits -/
def greatM (m : List (List RI)) : Bool := (decide (6 < m.length) && decide (m.length ≤ 8)) || (decide (20 < m.length) || m.any bigR)
theorem gr7mat_any (m : List (List RI)) (a : Option Addr) (c : Nat) (w : World) (hm : RowM w a m) (hl : m.length ≤ 1100000) :
    Calls Tryz.prog 53 #[.slice a m.length c] w fun e w' => e = .returned (.bool (greatM m)) ∧ Kp w w' := by
  have hp : AnsR Tryz.prog 54 #[] w m bigR := ⟨fun _ _ => by kernel_rfl, fun r hr ra rc w1 k hrow => gr7row_any r ra rc w1 hrow.1 hrow.2⟩
  have HC := Lib.hid (containsR a m c _ _ w _ hl hm hp)
  clear hp hm
  by_cases h6 : 6 < m.length
  · have g6 : (6 : Int) < (m.length : Int) := by omega
    by_cases h8 : m.length ≤ 8
    · have H := Lib.hid (show greatM m = true by unfold greatM; rw [decide_eq_true h6, decide_eq_true h8]; rfl)
      have g8 : (m.length : Int) ≤ 8 := by omega
      clear h6 h8
      go_enter Tryz.func53, Tryz.ntmps53
      go_wp2_with fail
      go_ret
      exact ⟨ret_bool H.out.symm, .refl _⟩
    · have g8 : ¬ (m.length : Int) ≤ 8 := by omega
      by_cases h20 : 20 < m.length
      · have H := Lib.hid (show greatM m = true by unfold greatM; rw [decide_eq_true h20]; simp)
        have g20 : (20 : Int) < (m.length : Int) := by omega
        clear h6 h8 h20
        go_enter Tryz.func53, Tryz.ntmps53
        go_wp2_with fail
        go_ret
        exact ⟨ret_bool H.out.symm, .refl _⟩
      · have H := Lib.hid (show greatM m = m.any bigR by unfold greatM; rw [decide_eq_false h8, decide_eq_false h20]; simp)
        have g20 : ¬ (20 : Int) < (m.length : Int) := by omega
        clear h6 h8 h20
        go_enter Tryz.func53, Tryz.ntmps53
        go_wp2_with fail
        go_fit HC.out
        rintro e w1 ⟨rfl, k1⟩
        go_wp2_with fail
        go_ret
        exact ⟨ret_bool H.out.symm, k1⟩
  · have g6 : ¬ (6 : Int) < (m.length : Int) := by omega
    have g20 : ¬ (20 : Int) < (m.length : Int) := by omega
    have H := Lib.hid (show greatM m = m.any bigR by unfold greatM; rw [decide_eq_false h6, decide_eq_false (by omega : ¬ 20 < m.length)]; simp)
    clear h6
    go_enter Tryz.func53, Tryz.ntmps53
    go_wp2_with fail
    go_fit HC.out
    rintro e w1 ⟨rfl, k1⟩
    go_wp2_with fail
    go_ret
    exact ⟨ret_bool H.out.symm, k1⟩
theorem great7_any (l : List (List (List RI))) (a : Option Addr) (c : Nat) (w : World) (hm : RowT w a l) (hl : l.length ≤ 1100000) :
    Calls Tryz.prog 12 #[.slice a l.length c] w fun e w' => e = .returned (.bool (l.any greatM)) ∧ Kp w w' := by
  have hp : AnsT Tryz.prog 53 #[] w l greatM := ⟨fun _ _ => by kernel_rfl, fun r hr ra rc w1 k hrow => gr7mat_any r ra rc w1 hrow.1 hrow.2⟩
  have HC := Lib.hid (containsT a l c _ _ w _ hl hm hp)
  clear hp hm
  go_enter Tryz.func12, Tryz.ntmps12
  go_wp2_with fail
  go_fit HC.out
  rintro e w1 ⟨rfl, k1⟩
  go_wp2_with fail
  go_ret
  exact ⟨rfl, k1⟩
def fineP (p : Int) : Bool := decide (p ≤ 128) || decide (512 < p)
theorem fine7_any (p : Int) (w : World) :
    Calls Tryz.prog 13 #[.int .i64 p] w fun e w' => e = .returned (.bool (fineP p)) ∧ w = w' := by
  by_cases h1 : p ≤ 128
  · have H := Lib.hid (show fineP p = true by unfold fineP; rw [decide_eq_true h1]; rfl)
    go_enter Tryz.func13, Tryz.ntmps13
    go_wp2_with fail
    go_ret
    exact ⟨ret_bool (by first | exact H.out.symm | (rw [H.out]; simp; omega)), rfl⟩
  · have H := Lib.hid (show fineP p = decide (512 < p) by unfold fineP; rw [decide_eq_false h1]; rfl)
    go_enter Tryz.func13, Tryz.ntmps13
    go_wp2_with fail
    go_ret
    exact ⟨ret_bool (by first | exact H.out.symm | (rw [H.out]; simp; omega)), rfl⟩
end Go.Proofs.YtdidocdpjiiedaaGreatDoor
end
