/-
  Walks: the law's long, rows, wide, great, fine (frames).
  Walks: slices.EqualFunc at []api.Dyadic, []api.Dyadic.
  Walks: slices.EqualFunc at [][]api.Dyadic, [][]api.Dyadic.
  Walks: the law's one, same (frames).
  Rows of zeros that are made; the identity's rows, one after another.
  Plain: the middle of an interval; a half.
  Walks: dyadic.Int of small naturals.
  Walks: frame.identity.
  Plain: the frame of a box.
-/
import Derived.Deep.DeepFit
import Derived.Test.YtdlpiblgkpgplaaGreatDoorMFrV
import Derived.Test.YtdlpiblgkpgplaaGreatDoorMCmpD
import Derived.Test.YtdlpiblgkpgplaaGreatDoorMIvF
import Derived.Test.YtdlpiblgkpgplaaGreatDoorMApM
import Derived.Test.YtdlpiblgkpgplaaGreatDoorMIvMl
import Derived.Test.YtdlpiblgkpgplaaGreatDoorMSpare
import Derived.Test.YtdlpiblgkpgplaaGreatDoorMAwkF
import Derived.Test.YtdlpiblgkpgplaaGreatDoorMDotM
import Derived.Test.YtdlpiblgkpgplaaGreatDoorMNrmP
import Derived.Test.YtdlpiblgkpgplaaGreatDoorMOwnX
import Derived.Test.YtdlpiblgkpgplaaGreatDoorMExF
import Derived.Test.YtdlpiblgkpgplaaGreatDoorMIdxT
import Derived.Test.YtdlpiblgkpgplaaGreatDoorMRoAdd
import Derived.Test.YtdlpiblgkpgplaaGreatDoorMR2I
import Derived.Test.YtdlpiblgkpgplaaGreatDoorMRoSq
import Derived.Test.YtdlpiblgkpgplaaGreatDoorMR5A
import Derived.Deep.LoopGhost
import Derived.Deep.RegionLaw
import Derived.Deep.RegionHeld3
section
namespace Go.Proofs.YtdlpiblgkpgplaaGreatDoor
open Go.RowKit

def lngD (x : RD) : Bool := decide (4 < x.xs.length)
def widI (x : RI) : Bool := lngD x.lo || lngD x.hi
def widF (l : List RI) : Bool := decide (20 < l.length) || l.any widI
set_option maxHeartbeats 1000000 in
theorem wid1_any (x : RI) (w : World) :
    Calls Tryz.prog 45 #[.agg #[.bool x.lo.neg, .slice x.lo.a x.lo.xs.length x.lo.c, .int .i64 x.lo.e, .bool x.hi.neg, .slice x.hi.a x.hi.xs.length x.hi.c, .int .i64 x.hi.e, .bool x.all]] w fun e w' => e = .returned (.bool (widI x)) ∧ Kp w w' := by
  have k1 := (Kp.refl w).alloc (.cells #[.bool x.lo.neg, .slice x.lo.a x.lo.xs.length x.lo.c, .int .i64 x.lo.e, .bool x.hi.neg, .slice x.hi.a x.hi.xs.length x.hi.c, .int .i64 x.hi.e, .bool x.all] 35)
  by_cases h : 4 < x.lo.xs.length
  · have H := Lib.hid (show widI x = true by unfold widI lngD; rw [decide_eq_true h]; rfl)
    have g : (4 : Int) < (x.lo.xs.length : Int) := by omega
    clear h
    go_enter Tryz.func45, Tryz.ntmps45
    go_upto_region 1 with fail
    generalize hW : w.alloc _ = W at *
    obtain ⟨s0, s1, s2, s3, s4, s5, s6⟩ : W.cell? ⟨w.heap.size, 0, none⟩ = some (.bool x.lo.neg) ∧ W.cell? ⟨w.heap.size, 1, none⟩ = some (.slice x.lo.a x.lo.xs.length x.lo.c) ∧ W.cell? ⟨w.heap.size, 2, none⟩ = some (.int .i64 x.lo.e) ∧ W.cell? ⟨w.heap.size, 3, none⟩ = some (.bool x.hi.neg) ∧ W.cell? ⟨w.heap.size, 4, none⟩ = some (.slice x.hi.a x.hi.xs.length x.hi.c) ∧ W.cell? ⟨w.heap.size, 5, none⟩ = some (.int .i64 x.hi.e) ∧ W.cell? ⟨w.heap.size, 6, none⟩ = some (.bool x.all) := by rw [← hW]; simp
    clear hW
    go_wp2_with fail
    go_ret
    exact ⟨ret_bool H.out.symm, k1⟩
  · have H := Lib.hid (show widI x = decide (4 < (x.hi.xs.length : Int)) by unfold widI lngD; rw [decide_eq_false h, Bool.false_or]; congr 1; exact propext ⟨fun h => by omega, fun h => by omega⟩)
    have g : ¬ (4 : Int) < (x.lo.xs.length : Int) := by omega
    clear h
    go_enter Tryz.func45, Tryz.ntmps45
    go_upto_region 1 with fail
    generalize hW : w.alloc _ = W at *
    obtain ⟨s0, s1, s2, s3, s4, s5, s6⟩ : W.cell? ⟨w.heap.size, 0, none⟩ = some (.bool x.lo.neg) ∧ W.cell? ⟨w.heap.size, 1, none⟩ = some (.slice x.lo.a x.lo.xs.length x.lo.c) ∧ W.cell? ⟨w.heap.size, 2, none⟩ = some (.int .i64 x.lo.e) ∧ W.cell? ⟨w.heap.size, 3, none⟩ = some (.bool x.hi.neg) ∧ W.cell? ⟨w.heap.size, 4, none⟩ = some (.slice x.hi.a x.hi.xs.length x.hi.c) ∧ W.cell? ⟨w.heap.size, 5, none⟩ = some (.int .i64 x.hi.e) ∧ W.cell? ⟨w.heap.size, 6, none⟩ = some (.bool x.all) := by rw [← hW]; simp
    clear hW
    go_wp2_with fail
    go_ret
    exact ⟨ret_bool H.out.symm, k1⟩

theorem widF_any (l : List RI) (a : Option Addr) (c : Nat) (w : World) (hr : RowI w a l) (hl : l.length ≤ 1100000) :
    Calls Tryz.prog 14 #[.slice a l.length c] w fun e w' => e = .returned (.bool (widF l)) ∧ Kp w w' := by
  have hp : AnsI Tryz.prog 45 #[] w l widI := ⟨fun _ _ => by kernel_rfl, fun x hx w1 k => wid1_any x w1⟩
  have HC := Lib.hid (containsI a l c _ _ w _ hl hr hp)
  clear hp hr
  by_cases h : 20 < l.length
  · have H := Lib.hid (show widF l = true by unfold widF; rw [decide_eq_true h]; rfl)
    have g : (20 : Int) < (l.length : Int) := by omega
    clear h
    go_enter Tryz.func14, Tryz.ntmps14
    go_wp2_with fail
    go_ret
    exact ⟨ret_bool H.out.symm, .refl _⟩
  · have H := Lib.hid (show widF l = l.any widI by unfold widF; rw [decide_eq_false h]; rfl)
    have g : ¬ (20 : Int) < (l.length : Int) := by omega
    clear h
    go_enter Tryz.func14, Tryz.ntmps14
    go_wp2_with fail
    go_fit HC.out
    rintro e w1 ⟨rfl, k1⟩
    go_wp2_with fail
    go_ret
    exact ⟨ret_bool H.out.symm, k1⟩

def fineF (p : Int) : Bool := decide (p ≤ 80) || decide (512 < p)
theorem fineF_any (p : Int) (w : World) :
    Calls Tryz.prog 10 #[.int .i64 p] w fun e w' => e = .returned (.bool (fineF p)) ∧ w = w' := by
  by_cases h1 : p ≤ 80
  · have H := Lib.hid (show fineF p = true by unfold fineF; rw [decide_eq_true h1]; rfl)
    go_enter Tryz.func10, Tryz.ntmps10
    go_wp2_with fail
    go_ret
    exact ⟨ret_bool (by first | exact H.out.symm | (rw [H.out]; simp; omega)), rfl⟩
  · have H := Lib.hid (show fineF p = decide (512 < p) by unfold fineF; rw [decide_eq_false h1]; rfl)
    go_enter Tryz.func10, Tryz.ntmps10
    go_wp2_with fail
    go_ret
    exact ⟨ret_bool (by first | exact H.out.symm | (rw [H.out]; simp; omega)), rfl⟩
end Go.Proofs.YtdlpiblgkpgplaaGreatDoor
end

section
namespace Go.Proofs.YtdlpiblgkpgplaaGreatDoor
open Go.RowKit

/-- equally long, and alike by p -/
def allDD (p : RD → RD → Bool) (zs : List RD) (ys : List RD) : Bool := decide (zs.length = ys.length) && (zs.zip ys).all fun q => p q.1 q.2
theorem allDD_true {p : RD → RD → Bool} {zs : List RD} {ys : List RD} : allDD p zs ys = true ↔ zs.length = ys.length ∧ ∀ (i : Nat) (x : RD) (y : RD), zs[i]? = some x → ys[i]? = some y → p x y = true := by
  unfold allDD
  rw [Bool.and_eq_true, decide_eq_true_eq, List.all_eq_true]
  refine and_congr_right fun hl => ⟨fun h i x y hx hy => ?_, fun h q hq => ?_⟩
  · refine h (x, y) (List.mem_of_getElem? (i := i) ?_)
    rw [List.getElem?_zip_eq_some]; exact ⟨hx, hy⟩
  · obtain ⟨i, hi⟩ := List.getElem?_of_mem hq
    have hi2 := List.getElem?_zip_eq_some.1 hi
    exact h i _ _ hi2.1 hi2.2
theorem allDD_false {p : RD → RD → Bool} {zs : List RD} {ys : List RD} {i : Nat} {x : RD} {y : RD} (hx : zs[i]? = some x) (hy : ys[i]? = some y) (h : p x y = false) : allDD p zs ys = false := by
  cases ha : allDD p zs ys with
  | false => rfl
  | true => rw [(allDD_true.1 ha).2 i x y hx hy] at h; cases h
/-- the function g answers p at each two elements, in whatever later world, and keeps all that was there -/
def AnsDD (P : Program) (g : FuncId) (cap : Array Value) (w : World) (zs : List RD) (ys : List RD) (p : RD → RD → Bool) : Prop :=
  Enters P g ∧ ∀ x, x ∈ zs → ∀ y, y ∈ ys → ∀ w1, Kp w w1 → Calls P g (#[.agg #[.bool x.neg, .slice x.a x.xs.length x.c, .int .i64 x.e], .agg #[.bool y.neg, .slice y.a y.xs.length y.c, .int .i64 y.e]] ++ cap) w1 fun e w2 => e = .returned (.bool (p x y)) ∧ Kp w1 w2

set_option maxHeartbeats 4000000 in
theorem eqfDD (a b' : Option Addr) (zs : List RD) (ys : List RD) (c d : Nat) (g : FuncId) (cap : Array Value) (w : World) (p : RD → RD → Bool) (hm : zs.length ≤ 1100000) (h : RowD w a zs) (h' : RowD w b' ys) (hp : AnsDD Tryz.prog g cap w zs ys p) :
    Calls Tryz.prog 57 #[.slice a zs.length c, .slice b' ys.length d, .func (.func g) #[] cap] w fun e w' => e = .returned (.bool (allDD p zs ys)) ∧ Kp w w' := by
  go_enter Tryz.func57, Tryz.ntmps57
  by_cases hlen : zs.length = ys.length
  · have Hlen := Lib.hid hlen
    rw [← hlen]
    clear hlen
    go_wp2
    go_loopw [17] (fun x wr => ∃ k : Nat, k ≤ zs.length ∧ x = .int .i64 k ∧ (∀ (i : Nat) (x : RD) (y : RD), zs[i]? = some x → ys[i]? = some y → i < k → p x y = true) ∧ Kp w wr) (fun x _ => zs.length - (intOf x).toNat)
    case atStart => exact ⟨0, by omega, rfl, fun i x y _ _ h1 => by omega, .refl _⟩
    case round =>
      obtain ⟨k, hk, rfl, hz, hkp⟩ := hrel
      have Hz := Lib.hid hz; clear hz
      by_cases hlt : k < zs.length
      · have hlt2 : k < ys.length := by have := Hlen.out; omega
        obtain ⟨b, o, rfl, hr, h0, h1, h2⟩ := (h.kp hkp) k (zs[k]) (List.getElem?_eq_getElem hlt)
        obtain ⟨b2, o2, rfl, hr2, j0, j1, j2⟩ := (h'.kp (hkp.alloc (.cells #[.bool zs[k].neg, .slice zs[k].a zs[k].xs.length zs[k].c, .int .i64 zs[k].e] 33))) k (ys[k]) (List.getElem?_eq_getElem hlt2)
        have Hg := Lib.hid (List.getElem?_eq_getElem hlt)
        have Hg2 := Lib.hid (List.getElem?_eq_getElem hlt2)
        have hgo : ∀ args w, (callFunc g args).run Tryz.prog w = .ok (.enter g args) w := hp.1
        have hcall := fun w1 (hk1 : Kp w w1) => hp.2 _ (List.getElem_mem hlt) _ (List.getElem_mem hlt2) w1 hk1
        clear hp h h'
        generalize zs[k] = x at *
        generalize ys[k] = y at *
        clear hlt2
        cases hq : p x y with
        | true =>
          rw [hq] at hcall
          have Hc := Lib.hid hcall
          have Hq := Lib.hid hq
          clear hcall hq
          go_wp2_with (refine (Hc.out _ ((hkp.alloc _).alloc _)).mono ?_; rintro e w2 ⟨rfl, hk2⟩)
          go_roundw
          case rel =>
            refine ⟨k + 1, by omega, by go_num, fun i x' y' hx hy hi => ?_, ((hkp.alloc _).alloc _).trans hk2⟩
            by_cases h : i = k
            · subst h; rw [Hg.out] at hx; rw [Hg2.out] at hy; cases hx; cases hy; exact Hq.out
            · exact Hz.out i x' y' hx hy (by omega)
          case measure => simp [intOf]; omega
        | false =>
          rw [hq] at hcall
          have Hc := Lib.hid hcall
          have Hq := Lib.hid (allDD_false Hg.out Hg2.out hq)
          clear hcall hq
          go_wp2_with (refine (Hc.out _ ((hkp.alloc _).alloc _)).mono ?_; rintro e w2 ⟨rfl, hk2⟩)
          go_ret
          exact ⟨ret_bool Hq.out.symm, ((hkp.alloc _).alloc _).trans hk2⟩
      · have Hthis := Lib.hid (allDD_true.2 ⟨Hlen.out, fun i x y hx hy => Hz.out i x y hx hy (by have := (List.getElem?_eq_some_iff.1 hx).1; omega)⟩)
        go_wp2
        go_ret
        exact ⟨ret_bool Hthis.out.symm, hkp⟩
  · have hl2 : ((zs.length : Int) == (ys.length : Int)) = false := beq_eq_false_iff_ne.2 (by omega)
    have H := Lib.hid (show allDD p zs ys = false by unfold allDD; rw [decide_eq_false hlen]; rfl)
    clear hlen
    go_wp2
    go_ret
    exact ⟨ret_bool H.out.symm, .refl _⟩
end Go.Proofs.YtdlpiblgkpgplaaGreatDoor
end

section
namespace Go.Proofs.YtdlpiblgkpgplaaGreatDoor
open Go.RowKit

/-- equally long, and alike by p -/
def allNN (p : List RD → List RD → Bool) (zs : List (List RD)) (ys : List (List RD)) : Bool := decide (zs.length = ys.length) && (zs.zip ys).all fun q => p q.1 q.2
theorem allNN_true {p : List RD → List RD → Bool} {zs : List (List RD)} {ys : List (List RD)} : allNN p zs ys = true ↔ zs.length = ys.length ∧ ∀ (i : Nat) (x : List RD) (y : List RD), zs[i]? = some x → ys[i]? = some y → p x y = true := by
  unfold allNN
  rw [Bool.and_eq_true, decide_eq_true_eq, List.all_eq_true]
  refine and_congr_right fun hl => ⟨fun h i x y hx hy => ?_, fun h q hq => ?_⟩
  · refine h (x, y) (List.mem_of_getElem? (i := i) ?_)
    rw [List.getElem?_zip_eq_some]; exact ⟨hx, hy⟩
  · obtain ⟨i, hi⟩ := List.getElem?_of_mem hq
    have hi2 := List.getElem?_zip_eq_some.1 hi
    exact h i _ _ hi2.1 hi2.2
theorem allNN_false {p : List RD → List RD → Bool} {zs : List (List RD)} {ys : List (List RD)} {i : Nat} {x : List RD} {y : List RD} (hx : zs[i]? = some x) (hy : ys[i]? = some y) (h : p x y = false) : allNN p zs ys = false := by
  cases ha : allNN p zs ys with
  | false => rfl
  | true => rw [(allNN_true.1 ha).2 i x y hx hy] at h; cases h
/-- the function g answers p at each two elements, in whatever later world, and keeps all that was there -/
def AnsNN (P : Program) (g : FuncId) (cap : Array Value) (w : World) (zs : List (List RD)) (ys : List (List RD)) (p : List RD → List RD → Bool) : Prop :=
  Enters P g ∧ ∀ x, x ∈ zs → ∀ y, y ∈ ys → ∀ a c a2 c2 w1, Kp w w1 → (RowD w1 a x ∧ x.length ≤ 1100000) → (RowD w1 a2 y ∧ y.length ≤ 1100000) → Calls P g (#[.slice a x.length c, .slice a2 y.length c2] ++ cap) w1 fun e w2 => e = .returned (.bool (p x y)) ∧ Kp w1 w2

set_option maxHeartbeats 4000000 in
theorem eqfNN (a b' : Option Addr) (zs : List (List RD)) (ys : List (List RD)) (c d : Nat) (g : FuncId) (cap : Array Value) (w : World) (p : List RD → List RD → Bool) (hm : zs.length ≤ 1100000) (h : RowN w a zs) (h' : RowN w b' ys) (hp : AnsNN Tryz.prog g cap w zs ys p) :
    Calls Tryz.prog 60 #[.slice a zs.length c, .slice b' ys.length d, .func (.func g) #[] cap] w fun e w' => e = .returned (.bool (allNN p zs ys)) ∧ Kp w w' := by
  go_enter Tryz.func60, Tryz.ntmps60
  by_cases hlen : zs.length = ys.length
  · have Hlen := Lib.hid hlen
    rw [← hlen]
    clear hlen
    go_wp2
    go_loopw [17] (fun x wr => ∃ k : Nat, k ≤ zs.length ∧ x = .int .i64 k ∧ (∀ (i : Nat) (x : List RD) (y : List RD), zs[i]? = some x → ys[i]? = some y → i < k → p x y = true) ∧ Kp w wr) (fun x _ => zs.length - (intOf x).toNat)
    case atStart => exact ⟨0, by omega, rfl, fun i x y _ _ h1 => by omega, .refl _⟩
    case round =>
      obtain ⟨k, hk, rfl, hz, hkp⟩ := hrel
      have Hz := Lib.hid hz; clear hz
      by_cases hlt : k < zs.length
      · have hlt2 : k < ys.length := by have := Hlen.out; omega
        obtain ⟨b, o, ra, rc, rfl, h0, hrow⟩ := (h.kp hkp) k (zs[k]) (List.getElem?_eq_getElem hlt)
        obtain ⟨b2, o2, ra2, rc2, rfl, j0, hrow2⟩ := (h'.kp hkp) k (ys[k]) (List.getElem?_eq_getElem hlt2)
        have Hg := Lib.hid (List.getElem?_eq_getElem hlt)
        have Hg2 := Lib.hid (List.getElem?_eq_getElem hlt2)
        have hgo : ∀ args w, (callFunc g args).run Tryz.prog w = .ok (.enter g args) w := hp.1
        have hcall := hp.2 _ (List.getElem_mem hlt) _ (List.getElem_mem hlt2) ra rc ra2 rc2 wr hkp hrow hrow2
        clear hp h h' hrow hrow2
        generalize zs[k] = x at *
        generalize ys[k] = y at *
        clear hlt2
        cases hq : p x y with
        | true =>
          rw [hq] at hcall
          have Hc := Lib.hid hcall
          have Hq := Lib.hid hq
          clear hcall hq
          go_wp2_with (refine Hc.out.mono ?_; rintro e w2 ⟨rfl, hk2⟩)
          go_roundw
          case rel =>
            refine ⟨k + 1, by omega, by go_num, fun i x' y' hx hy hi => ?_, hkp.trans hk2⟩
            by_cases h : i = k
            · subst h; rw [Hg.out] at hx; rw [Hg2.out] at hy; cases hx; cases hy; exact Hq.out
            · exact Hz.out i x' y' hx hy (by omega)
          case measure => simp [intOf]; omega
        | false =>
          rw [hq] at hcall
          have Hc := Lib.hid hcall
          have Hq := Lib.hid (allNN_false Hg.out Hg2.out hq)
          clear hcall hq
          go_wp2_with (refine Hc.out.mono ?_; rintro e w2 ⟨rfl, hk2⟩)
          go_ret
          exact ⟨ret_bool Hq.out.symm, hkp.trans hk2⟩
      · have Hthis := Lib.hid (allNN_true.2 ⟨Hlen.out, fun i x y hx hy => Hz.out i x y hx hy (by have := (List.getElem?_eq_some_iff.1 hx).1; omega)⟩)
        go_wp2
        go_ret
        exact ⟨ret_bool Hthis.out.symm, hkp⟩
  · have hl2 : ((zs.length : Int) == (ys.length : Int)) = false := beq_eq_false_iff_ne.2 (by omega)
    have H := Lib.hid (show allNN p zs ys = false by unfold allNN; rw [decide_eq_false hlen]; rfl)
    clear hlen
    go_wp2
    go_ret
    exact ⟨ret_bool H.out.symm, .refl _⟩
end Go.Proofs.YtdlpiblgkpgplaaGreatDoor
end

section
namespace Go.Proofs.YtdlpiblgkpgplaaGreatDoor
open Go.RowKit

set_option maxRecDepth 100000 in
set_option maxHeartbeats 4000000 in
theorem oneF_any (x y : RI) (w : World) (hx : x.rd w) (hy : y.rd w) :
    Calls Tryz.prog 59 #[.agg #[.bool x.lo.neg, .slice x.lo.a x.lo.xs.length x.lo.c, .int .i64 x.lo.e, .bool x.hi.neg, .slice x.hi.a x.hi.xs.length x.hi.c, .int .i64 x.hi.e, .bool x.all], .agg #[.bool y.lo.neg, .slice y.lo.a y.lo.xs.length y.lo.c, .int .i64 y.lo.e, .bool y.hi.neg, .slice y.hi.a y.hi.xs.length y.hi.c, .int .i64 y.hi.e, .bool y.all]] w fun e w' => e = .returned (.bool (oneR x y)) ∧ Kp w w' := by
  have H := Lib.hid (show oneR x y = ((x.all == y.all) && (sameR x.lo y.lo && sameR x.hi y.hi)) from rfl)
  by_cases hn : x.all = y.all
  · have hn1 : (x.all == y.all) = true := by rw [hn]; cases y.all <;> rfl
    have Hn := Lib.hid hn1
    clear hn
    go_enter Tryz.func59, Tryz.ntmps59
    go_wp2_with fail
    generalize hW : ((w.alloc _).alloc _) = W at *
    have hk : Kp w W := hW ▸ ((Kp.refl w).alloc _).alloc _
    have hS : (W.cell? ⟨w.heap.size, 0, none⟩ = some (.bool x.lo.neg) ∧ W.cell? ⟨w.heap.size, 1, none⟩ = some (.slice x.lo.a x.lo.xs.length x.lo.c) ∧ W.cell? ⟨w.heap.size, 2, none⟩ = some (.int .i64 x.lo.e) ∧ W.cell? ⟨w.heap.size, 3, none⟩ = some (.bool x.hi.neg) ∧ W.cell? ⟨w.heap.size, 4, none⟩ = some (.slice x.hi.a x.hi.xs.length x.hi.c) ∧ W.cell? ⟨w.heap.size, 5, none⟩ = some (.int .i64 x.hi.e) ∧ W.cell? ⟨w.heap.size, 6, none⟩ = some (.bool x.all)) ∧ W.cell? ⟨w.heap.size + 1, 0, none⟩ = some (.bool y.lo.neg) ∧ W.cell? ⟨w.heap.size + 1, 1, none⟩ = some (.slice y.lo.a y.lo.xs.length y.lo.c) ∧ W.cell? ⟨w.heap.size + 1, 2, none⟩ = some (.int .i64 y.lo.e) ∧ W.cell? ⟨w.heap.size + 1, 3, none⟩ = some (.bool y.hi.neg) ∧ W.cell? ⟨w.heap.size + 1, 4, none⟩ = some (.slice y.hi.a y.hi.xs.length y.hi.c) ∧ W.cell? ⟨w.heap.size + 1, 5, none⟩ = some (.int .i64 y.hi.e) ∧ W.cell? ⟨w.heap.size + 1, 6, none⟩ = some (.bool y.all) := by rw [← hW]; exact keep77 (Kp.refl _) (by simp)
    clear hW
    go_fit (numberF_any x.lo y.lo _ (hx.1.kp hk) (hy.1.kp hk))
    rintro e w1 ⟨rfl, hk1⟩
    cases hl : sameR x.lo y.lo with
    | false =>
      rw [hl] at H
      clear hl
      go_wp2_with fail
      go_ret
      exact ⟨ret_bool (by rw [H.out]; simp), hk.trans hk1⟩
    | true =>
      rw [hl] at H
      clear hl
      obtain ⟨⟨s0, s1, s2, s3, s4, s5, s6⟩, t0, t1, t2, t3, t4, t5, t6⟩ := keep77 hk1 hS
      clear hS
      go_wp2_with fail
      have hk2 := hk.trans hk1
      go_fit (numberF_any x.hi y.hi _ (hx.2.kp hk2) (hy.2.kp hk2))
      rintro e w2 ⟨rfl, hk3⟩
      go_wp2_with fail
      go_ret
      exact ⟨ret_bool (by rw [H.out, Hn.out]; simp), hk2.trans hk3⟩
  · have hn1 : (x.all == y.all) = false := by cases h1 : x.all <;> cases h2 : y.all <;> simp_all
    rw [hn1] at H
    clear hn
    go_enter Tryz.func59, Tryz.ntmps59
    go_wp2_with fail
    go_ret
    exact ⟨ret_bool (by rw [H.out]; simp), ((Kp.refl w).alloc _).alloc _⟩
set_option maxHeartbeats 1000000 in
theorem sameF1_any (zs ys : List RD) (a b : Option Addr) (c d : Nat) (w : World) (hz : RowD w a zs) (hy : RowD w b ys) (hl : zs.length ≤ 1100000) :
    Calls Tryz.prog 61 #[.slice a zs.length c, .slice b ys.length d] w fun e w' => e = .returned (.bool (allDD sameR zs ys)) ∧ Kp w w' := by
  have hp : AnsDD Tryz.prog 20 #[] w zs ys sameR :=
    ⟨fun _ _ => by kernel_rfl, fun x hx y hy' w1 k => numberF_any x y w1 ((hz.rd hx).kp k) ((hy.rd hy').kp k)⟩
  have HC := Lib.hid (eqfDD a b zs ys c d _ _ w sameR hl hz hy hp)
  clear hp hz hy
  go_enter Tryz.func61, Tryz.ntmps61
  go_wp2_with fail
  go_fit HC.out
  rintro e w1 ⟨rfl, k1⟩
  go_wp2_with fail
  go_ret
  exact ⟨rfl, k1⟩
set_option maxRecDepth 100000 in
set_option maxHeartbeats 4000000 in
theorem sameF_ok (f g : RF) (w : World) (hf : f.rd w) (hg : g.rd w) (h1 : allDD sameR f.cs g.cs = true) (h2 : allII oneR f.rs g.rs = true) (h3 : allNN (allDD sameR) f.ms g.ms = true) :
    Calls Tryz.prog 17 #[.agg #[.slice f.ca f.cs.length f.cc, .slice f.aa f.ms.length f.ac, .slice f.ra f.rs.length f.rc], .agg #[.slice g.ca g.cs.length g.cc, .slice g.aa g.ms.length g.ac, .slice g.ra g.rs.length g.rc]] w fun e w' => e = .returned (.bool true) ∧ Kp w w' := by
  have HF := Lib.hid hf
  have HG := Lib.hid hg
  have kk := ((Kp.refl w).alloc (.cells #[.slice f.ca f.cs.length f.cc, .slice f.aa f.ms.length f.ac, .slice f.ra f.rs.length f.rc] 26)).alloc (.cells #[.slice g.ca g.cs.length g.cc, .slice g.aa g.ms.length g.ac, .slice g.ra g.rs.length g.rc] 26)
  have HK := Lib.hid kk
  have HS := Lib.hid (show (((w.alloc (.cells #[.slice f.ca f.cs.length f.cc, .slice f.aa f.ms.length f.ac, .slice f.ra f.rs.length f.rc] 26)).alloc (.cells #[.slice g.ca g.cs.length g.cc, .slice g.aa g.ms.length g.ac, .slice g.ra g.rs.length g.rc] 26)).cell? ⟨w.heap.size, 0, none⟩ = some (.slice f.ca f.cs.length f.cc) ∧ ((w.alloc (.cells #[.slice f.ca f.cs.length f.cc, .slice f.aa f.ms.length f.ac, .slice f.ra f.rs.length f.rc] 26)).alloc (.cells #[.slice g.ca g.cs.length g.cc, .slice g.aa g.ms.length g.ac, .slice g.ra g.rs.length g.rc] 26)).cell? ⟨w.heap.size, 1, none⟩ = some (.slice f.aa f.ms.length f.ac) ∧ ((w.alloc (.cells #[.slice f.ca f.cs.length f.cc, .slice f.aa f.ms.length f.ac, .slice f.ra f.rs.length f.rc] 26)).alloc (.cells #[.slice g.ca g.cs.length g.cc, .slice g.aa g.ms.length g.ac, .slice g.ra g.rs.length g.rc] 26)).cell? ⟨w.heap.size, 2, none⟩ = some (.slice f.ra f.rs.length f.rc)) ∧ ((w.alloc (.cells #[.slice f.ca f.cs.length f.cc, .slice f.aa f.ms.length f.ac, .slice f.ra f.rs.length f.rc] 26)).alloc (.cells #[.slice g.ca g.cs.length g.cc, .slice g.aa g.ms.length g.ac, .slice g.ra g.rs.length g.rc] 26)).cell? ⟨w.heap.size + 1, 0, none⟩ = some (.slice g.ca g.cs.length g.cc) ∧ ((w.alloc (.cells #[.slice f.ca f.cs.length f.cc, .slice f.aa f.ms.length f.ac, .slice f.ra f.rs.length f.rc] 26)).alloc (.cells #[.slice g.ca g.cs.length g.cc, .slice g.aa g.ms.length g.ac, .slice g.ra g.rs.length g.rc] 26)).cell? ⟨w.heap.size + 1, 1, none⟩ = some (.slice g.aa g.ms.length g.ac) ∧ ((w.alloc (.cells #[.slice f.ca f.cs.length f.cc, .slice f.aa f.ms.length f.ac, .slice f.ra f.rs.length f.rc] 26)).alloc (.cells #[.slice g.ca g.cs.length g.cc, .slice g.aa g.ms.length g.ac, .slice g.ra g.rs.length g.rc] 26)).cell? ⟨w.heap.size + 1, 2, none⟩ = some (.slice g.ra g.rs.length g.rc) by simp)
  clear hf hg kk
  go_enter Tryz.func17, Tryz.ntmps17
  go_upto_region 1 with fail
  generalize ((w.alloc _).alloc _) = W at *
  have ff := HF.out.kp HK.out
  have gg := HG.out.kp HK.out
  have hp : AnsDD Tryz.prog 20 #[] W f.cs g.cs sameR :=
    ⟨fun _ _ => by kernel_rfl, fun x hx y hy' w1 k => numberF_any x y w1 ((ff.1.1.rd hx).kp k) ((gg.1.1.rd hy').kp k)⟩
  have HC := Lib.hid (eqfDD f.ca g.ca f.cs g.cs f.cc g.cc _ _ W sameR ff.1.2 ff.1.1 gg.1.1 hp)
  rw [h1] at HC
  obtain ⟨⟨s0, s1, s2⟩, t0, t1, t2⟩ := id HS.out
  clear hp ff gg h1
  go_wp2_with fail
  go_fit HC.out
  rintro e w1 ⟨rfl, k1⟩
  have HK1 := Lib.hid (HK.out.trans k1)
  have HS1 := Lib.hid (And.intro (keepF k1 HS.out.1) (keepF k1 HS.out.2))
  have ff := HF.out.kp HK1.out
  have gg := HG.out.kp HK1.out
  have hp : AnsII Tryz.prog 59 #[] w1 f.rs g.rs oneR :=
    ⟨fun _ _ => by kernel_rfl, fun x hx y hy' w1 k => oneF_any x y w1 ((ff.2.2.1.rdI hx).kp k) ((gg.2.2.1.rdI hy').kp k)⟩
  have HC2 := Lib.hid (eqfII f.ra g.ra f.rs g.rs f.rc g.rc _ _ w1 oneR ff.2.2.2 ff.2.2.1 gg.2.2.1 hp)
  rw [h2] at HC2
  clear HC hp ff gg h2 s0 s1 s2 t0 t1 t2 k1
  obtain ⟨⟨s0, s1, s2⟩, t0, t1, t2⟩ := id HS1.out
  go_wp2_with fail
  go_fit HC2.out
  rintro e w2 ⟨rfl, k2⟩
  have HK2 := Lib.hid (HK1.out.trans k2)
  have HS2 := Lib.hid (And.intro (keepF k2 HS1.out.1) (keepF k2 HS1.out.2))
  have ff := HF.out.kp HK2.out
  have gg := HG.out.kp HK2.out
  have hp : AnsNN Tryz.prog 61 #[] w2 f.ms g.ms (allDD sameR) :=
    ⟨fun _ _ => by kernel_rfl, fun x hx y hy a1 c1 a2 c2 w1 k h1 h2 => sameF1_any x y a1 a2 c1 c2 w1 h1.1 h2.1 h1.2⟩
  have HC3 := Lib.hid (eqfNN f.aa g.aa f.ms g.ms f.ac g.ac _ _ w2 (allDD sameR) ff.2.1.2 ff.2.1.1 gg.2.1.1 hp)
  rw [h3] at HC3
  clear HC2 hp ff gg h3 s0 s1 s2 t0 t1 t2 k2
  obtain ⟨⟨s0, s1, s2⟩, t0, t1, t2⟩ := id HS2.out
  go_wp2_with fail
  go_fit HC3.out
  rintro e w3 ⟨rfl, k3⟩
  go_wp2_with fail
  go_ret
  exact ⟨rfl, HK2.out.trans k3⟩
end Go.Proofs.YtdlpiblgkpgplaaGreatDoor
end

section
namespace Go.Proofs.YtdlpiblgkpgplaaGreatDoor
open Go.RowKit

theorem infoSlE : (Tryz.prog.info? 22).map (fun i => (i.zero, i.size, i.bytes)) = some (some (.slice none 0 0), 1, 24) := by kernel_rfl
/-- make([][]api.Dyadic, n) -/
theorem make_rowsE (i : Int) (n : Nat) (e : i = n) (hn : n ≤ 9000000) (u : World) : (Instr.makeSlice 23 (.int .i64 i) (.int .i64 i)).run Tryz.prog u =
    .ok (.slice (some ⟨u.heap.size, 0, none⟩) n n) (u.alloc (.cells (madeCells #[.slice none 0 0] n) 22)) := by
  subst e
  obtain ⟨i0, hi, hz0, hz1, hz2⟩ := info_parts infoSlE
  have h := run_make (P := Tryz.prog) u 23 22 i0 (.slice none 0 0) Tryz.underlying23 hi hz0 .i64 .i64 (n : Int) (n : Int) (by omega) (Int.le_refl _) (by rw [hz2]; omega) (by omega)
  simpa [hz1, Value.cells] using h
/-- make([]api.Dyadic, n) -/
theorem make_nums (i : Int) (n : Nat) (e : i = n) (hn : n ≤ 9000000) (u : World) : (Instr.makeSlice 22 (.int .i64 i) (.int .i64 i)).run Tryz.prog u =
    .ok (.slice (some ⟨u.heap.size, 0, none⟩) n n) (u.alloc (.cells (madeCells #[.bool false, .slice none 0 0, .int .i64 0] (n * 3)) 33)) := by
  subst e
  obtain ⟨i0, hi, hz0, hz1, hz2⟩ := info_parts infoDyd
  have h := run_make (P := Tryz.prog) u 22 33 i0 (.agg #[.bool false, .slice none 0 0, .int .i64 0]) Tryz.underlying22 hi hz0 .i64 .i64 (n : Int) (n : Int) (by omega) (Int.le_refl _) (by rw [hz2]; omega) (by omega)
  simpa [hz1, Value.cells] using h
/-- block k holds n zeros -/
def NumZ (w : World) (k n : Nat) : Prop :=
  (∀ i, i < n → w.cell? ⟨k, i * 3, none⟩ = some (.bool false) ∧ w.cell? ⟨k, i * 3 + 1, none⟩ = some (.slice none 0 0) ∧ w.cell? ⟨k, i * 3 + 2, none⟩ = some (.int .i64 0)) ∧ (∀ j, w.frozen? ⟨k, j, none⟩ = false) ∧ k < w.heap.size
theorem NumZ.made (w : World) (n : Nat) (t : TypeId) : NumZ (w.alloc (.cells (madeCells #[.bool false, .slice none 0 0, .int .i64 0] (n * 3)) t)) w.heap.size n := by
  have hg := heap_alloc_new w (.cells (madeCells #[.bool false, .slice none 0 0, .int .i64 0] (n * 3)) t)
  refine ⟨fun i hi => ?_, fun j => frozen_of_row _ _ _ _ _ hg, by simp⟩
  have h0 : i * 3 < n * 3 := by omega
  have h1 : i * 3 + 1 < n * 3 := by omega
  have h2 : i * 3 + 2 < n * 3 := by omega
  have m0 : i * 3 % 3 = 0 := by omega
  have m1 : (i * 3 + 1) % 3 = 1 := by omega
  have m2 : (i * 3 + 2) % 3 = 2 := by omega
  refine ⟨?_, ?_, ?_⟩ <;> rw [cell_of_row _ _ _ _ _ _ hg] <;> unfold madeCells <;> simp [h0, h1, h2, m0, m1, m2]
theorem NumZ.kp {w w' : World} {k n : Nat} (h : NumZ w k n) (hk : Kp w w') : NumZ w' k n := by
  obtain ⟨h1, h2, h3⟩ := h
  refine ⟨fun i hi => ?_, fun j => ?_, by have := hk.size; omega⟩
  · obtain ⟨a, b, c⟩ := h1 i hi
    exact ⟨hk.cell a, hk.cell b, hk.cell c⟩
  · rw [hk.below.frozen h3]; exact h2 j
/-- zeros, and y at i -/
def unitN (n i : Nat) (y : RD) : List RD := (List.replicate n rdZero).set i y
theorem unitN_len (n i : Nat) (y : RD) : (unitN n i y).length = n := by unfold unitN; simp
theorem unitN_at {n i j : Nat} {y x : RD} (h : (unitN n i y)[j]? = some x) : j < n ∧ ((j = i ∧ x = y) ∨ (j ≠ i ∧ x = rdZero)) := by
  have hj : j < n := by have := (List.getElem?_eq_some_iff.1 h).1; rwa [unitN_len] at this
  refine ⟨hj, ?_⟩
  unfold unitN at h
  rw [List.getElem?_set] at h
  by_cases e : i = j
  · rw [if_pos e] at h
    simp only [List.length_replicate] at h
    rw [if_pos (by omega)] at h
    cases h
    exact .inl ⟨e.symm, rfl⟩
  · rw [if_neg e, List.getElem?_replicate, if_pos hj] at h
    cases h
    exact .inr ⟨fun x => e x.symm, rfl⟩
/-- a row of which all cells but those of the i-th are zeros -/
theorem NumZ.row {w W : World} {k n i : Nat} (h : NumZ w k n) (_hU : Upd k w W) {y : RD} (hy : y.rd W)
    (hc : ∀ j, j < n → j ≠ i → ∀ q, q < 3 → W.cell? ⟨k, j * 3 + q, none⟩ = w.cell? ⟨k, j * 3 + q, none⟩)
    (h0 : W.cell? ⟨k, i * 3, none⟩ = some (.bool y.neg)) (h1 : W.cell? ⟨k, i * 3 + 1, none⟩ = some (.slice y.a y.xs.length y.c)) (h2 : W.cell? ⟨k, i * 3 + 2, none⟩ = some (.int .i64 y.e)) :
    RowD W (some ⟨k, 0, none⟩) (unitN n i y) := by
  intro j x hj
  obtain ⟨hjn, ⟨e1, e2⟩ | ⟨e1, e2⟩⟩ := unitN_at hj
  · subst e1; subst e2
    exact ⟨k, 0, rfl, hy, by rw [Nat.zero_add]; exact h0, by rw [Nat.zero_add]; exact h1, by rw [Nat.zero_add]; exact h2⟩
  · subst e2
    obtain ⟨a, b, c⟩ := h.1 j hjn
    refine ⟨k, 0, rfl, rdZero_rd W, ?_, ?_, ?_⟩ <;> rw [Nat.zero_add]
    · exact (hc j hjn e1 0 (by omega)).trans a
    · exact (hc j hjn e1 1 (by omega)).trans b
    · exact (hc j hjn e1 2 (by omega)).trans c
theorem NumZ.set3 {w W : World} {k n i : Nat} (h : NumZ w k n) (hi : i < n) {y : RD} (hy : y.rd w)
    (hW : (((w.setCell ⟨k, i * 3, none⟩ (.bool y.neg)).setCell ⟨k, i * 3 + 1, none⟩ (.slice y.a y.xs.length y.c)).setCell ⟨k, i * 3 + 2, none⟩ (.int .i64 y.e)) = W) : RowD W (some ⟨k, 0, none⟩) (unitN n i y) ∧ Upd k w W := by
  obtain ⟨a, b, c⟩ := h.1 i hi
  have a1 := set_at (i := i * 3) (j := i * 3 + 1) (v := .bool y.neg) (by omega) b
  have a2 := set_at (i := i * 3 + 1) (j := i * 3 + 2) (v := .slice y.a y.xs.length y.c) (by omega) (set_at (i := i * 3) (j := i * 3 + 2) (v := .bool y.neg) (by omega) c)
  have b1 := cell_set_eq (v := .bool y.neg) a
  have b2 := cell_set_eq (v := .slice y.a y.xs.length y.c) a1
  have U := (((Upd.refl k w).step a (fun _ e => by cases e) (.bool y.neg)).step a1 (fun _ e => by cases e) (.slice y.a y.xs.length y.c)).step a2 (fun _ e => by cases e) (.int .i64 y.e)
  have c3 := cell_set_eq (v := .int .i64 y.e) a2
  have c2 := set_at (i := i * 3 + 2) (j := i * 3 + 1) (v := .int .i64 y.e) (by omega) b2
  have c1 := set_at (i := i * 3 + 2) (j := i * 3) (v := .int .i64 y.e) (by omega) (set_at (i := i * 3 + 1) (j := i * 3) (v := .slice y.a y.xs.length y.c) (by omega) b1)
  rw [hW] at U c1 c2 c3
  refine ⟨h.row U (U.rdD hy) (fun j hj hne q hq => ?_) c1 c2 c3, U⟩
  have d (t : Nat) (ht : t < 3) : (⟨k, i * 3 + t, none⟩ : Addr) ≠ ⟨k, j * 3 + q, none⟩ := fun e => by injection e with _ e2; omega
  rw [← hW, cell_set_ne (d 2 (by omega)), cell_set_ne (d 1 (by omega)), cell_set_ne (by exact d 0 (by omega))]
theorem NumZ.setM {w : World} {k n i : Nat} (h : NumZ w k n) (hi : i < n) {a : Option Addr} {xs : List Nat} {c : Nat} (hy : (⟨false, a, xs, c, 0⟩ : RD).rd w) :
    RowD (w.setCell ⟨k, i * 3 + 1, none⟩ (.slice a xs.length c)) (some ⟨k, 0, none⟩) (unitN n i ⟨false, a, xs, c, 0⟩) ∧ Upd k w (w.setCell ⟨k, i * 3 + 1, none⟩ (.slice a xs.length c)) := by
  obtain ⟨q0, q1, q2⟩ := h.1 i hi
  have U := (Upd.refl k w).step q1 (fun _ e => by cases e) (.slice a xs.length c)
  refine ⟨h.row U (U.rdD hy) (fun j hj hne q hq => ?_) (set_at (by omega) q0) (cell_set_eq q1) (set_at (by omega) q2), U⟩
  exact cell_set_ne (fun e => by injection e with _ e2; omega)

/-- Block g is the call's own slice of n rows; the rows R are done; the others are nil. -/
def OutA (wb w : World) (g n : Nat) (R : List (List RD)) : Prop :=
  (wb.heap.size ≤ g ∧ g < w.heap.size ∧ R.length ≤ n) ∧ Kp wb w ∧
  (∀ i, i < n → w.frozen? ⟨g, i, none⟩ = false) ∧ (∀ i, R.length ≤ i → i < n → w.cell? ⟨g, i, none⟩ = some (.slice none 0 0)) ∧
  ∀ (i : Nat) (r : List RD), R[i]? = some r → r.length ≤ 1100000 ∧ ∃ b rc, w.cell? ⟨g, i, none⟩ = some (.slice (some ⟨b, 0, none⟩) r.length rc) ∧ RowD w (some ⟨b, 0, none⟩) r ∧ b ≠ g ∧ b < w.heap.size ∧ wb.heap.size ≤ b
/-- .. and the next one, at k, is zeros yet -/
def OutB (wb w : World) (g n : Nat) (R : List (List RD)) (k : Nat) : Prop :=
  (wb.heap.size ≤ g ∧ g < w.heap.size ∧ R.length < n ∧ wb.heap.size ≤ k ∧ k ≠ g ∧ k < w.heap.size) ∧ Kp wb w ∧
  (∀ i, i < n → w.frozen? ⟨g, i, none⟩ = false) ∧ (∀ i, R.length < i → i < n → w.cell? ⟨g, i, none⟩ = some (.slice none 0 0)) ∧
  w.cell? ⟨g, R.length, none⟩ = some (.slice (some ⟨k, 0, none⟩) n n) ∧ NumZ w k n ∧
  ∀ (i : Nat) (r : List RD), R[i]? = some r → r.length ≤ 1100000 ∧ ∃ b rc, w.cell? ⟨g, i, none⟩ = some (.slice (some ⟨b, 0, none⟩) r.length rc) ∧ RowD w (some ⟨b, 0, none⟩) r ∧ b ≠ g ∧ b < w.heap.size ∧ b ≠ k ∧ wb.heap.size ≤ b
theorem OutA.made (w : World) (n : Nat) : OutA w (w.alloc (.cells (madeCells #[.slice none 0 0] n) 22)) w.heap.size n [] := by
  have hg := heap_alloc_new w (.cells (madeCells #[.slice none 0 0] n) 22)
  refine ⟨⟨Nat.le_refl _, by simp, by simp⟩, (Kp.refl w).alloc _, fun i _ => frozen_of_row _ _ _ _ _ hg, fun i _ hi => ?_, fun i r h => by simp at h⟩
  rw [cell_of_row _ _ _ _ _ _ hg, ← Array.getElem?_toList, toList_madeCells_one]
  simp [hi]
theorem OutA.kp {wb w w' : World} {g n : Nat} {R : List (List RD)} (h : OutA wb w g n R) (k : Kp w w') : OutA wb w' g n R := by
  obtain ⟨⟨h1, h2, h3⟩, hk, hf, hz, hr⟩ := h
  have hs := k.size
  refine ⟨⟨h1, by omega, h3⟩, hk.trans k, fun i hi => ?_, fun i h h' => k.cell (hz i h h'), fun i r hi => ?_⟩
  · rw [k.below.frozen h2]; exact hf i hi
  · obtain ⟨q1, b, rc, q2, q3, q4, q5, q7⟩ := hr i r hi
    exact ⟨q1, b, rc, k.cell q2, q3.kp k, q4, by omega, q7⟩
theorem OutB.kp {wb w w' : World} {g n : Nat} {R : List (List RD)} {c : Nat} (h : OutB wb w g n R c) (k : Kp w w') : OutB wb w' g n R c := by
  obtain ⟨⟨h1, h2, h3, h4, h5, h6⟩, hk, hf, hz, hc, hn, hr⟩ := h
  have hs := k.size
  refine ⟨⟨h1, by omega, h3, h4, h5, by omega⟩, hk.trans k, fun i hi => ?_, fun i h h' => k.cell (hz i h h'), k.cell hc, hn.kp k, fun i r hi => ?_⟩
  · rw [k.below.frozen h2]; exact hf i hi
  · obtain ⟨q1, b, rc, q2, q3, q4, q5, q6, q7⟩ := hr i r hi
    exact ⟨q1, b, rc, k.cell q2, q3.kp k, q4, by omega, q6, q7⟩
/-- a row of zeros is made and stored -/
theorem OutA.row {wb w : World} {g n : Nat} {R : List (List RD)} (h : OutA wb w g n R) (hn : R.length < n) :
    OutB wb ((w.alloc (.cells (madeCells #[.bool false, .slice none 0 0, .int .i64 0] (n * 3)) 33)).setCell ⟨g, R.length, none⟩ (.slice (some ⟨w.heap.size, 0, none⟩) n n)) g n R w.heap.size := by
  have hZ := NumZ.made w n 33
  have h' := h.kp ((Kp.refl w).alloc (.cells (madeCells #[.bool false, .slice none 0 0, .int .i64 0] (n * 3)) 33))
  have hb0 : ∀ (i : Nat) (r : List RD), R[i]? = some r → ∃ b rc, w.cell? ⟨g, i, none⟩ = some (.slice (some ⟨b, 0, none⟩) r.length rc) ∧ b < w.heap.size := fun i r hi => by
    obtain ⟨_, b, rc, q2, _, _, q5, _⟩ := h.2.2.2.2 i r hi
    exact ⟨b, rc, q2, q5⟩
  have hkw := (Kp.refl w).alloc (.cells (madeCells #[.bool false, .slice none 0 0, .int .i64 0] (n * 3)) 33)
  have hgw := h.1.2.1
  have hsz : w.heap.size < (w.alloc (.cells (madeCells #[.bool false, .slice none 0 0, .int .i64 0] (n * 3)) 33)).heap.size := by simp
  generalize w.alloc _ = w1 at *
  obtain ⟨⟨h1, h2, h3⟩, hk, hf, hz, hr⟩ := h'
  have hc := hz R.length (Nat.le_refl _) hn
  have U := (Upd.refl g w1).step hc (fun _ e => by cases e) (.slice (some ⟨w.heap.size, 0, none⟩) n n)
  have hne : w.heap.size ≠ g := by omega
  have key (b j : Nat) (hb : b ≠ g) : (w1.setCell ⟨g, R.length, none⟩ (.slice (some ⟨w.heap.size, 0, none⟩) n n)).cell? ⟨b, j, none⟩ = w1.cell? ⟨b, j, none⟩ := U.2.2.2.1 _ hb
  refine ⟨⟨h1, by rw [U.2.2.2.2]; exact h2, hn, by omega, hne, by rw [U.2.2.2.2]; exact hsz⟩, U.2.2.1 _ hk h1, fun i hi => by rw [U.1]; exact hf i hi, fun i h4 h5 => ?_, cell_set_eq hc, ?_, fun i r hi => ?_⟩
  · rw [cell_set_ne (fun e => by injection e with _ e2; omega)]; exact hz i (by omega) h5
  · refine ⟨fun i hi => ?_, fun j => by rw [U.1]; exact hZ.2.1 j, by rw [U.2.2.2.2]; exact hsz⟩
    rw [key _ _ hne, key _ _ hne, key _ _ hne]; exact hZ.1 i hi
  · obtain ⟨q1, b, rc, q2, q3, q4, q5, q7⟩ := hr i r hi
    have hil := (List.getElem?_eq_some_iff.1 hi).1
    obtain ⟨b2, rc2, e2, hlt⟩ := hb0 i r hi
    have e3 := hkw.cell e2
    rw [q2] at e3
    injection e3 with e3
    injection e3 with e4 _ _
    injection e4 with e5
    injection e5 with e6
    refine ⟨q1, b, rc, ?_, RowD.upd U q3 q4, q4, by rw [U.2.2.2.2]; exact q5, by omega, q7⟩
    rw [cell_set_ne (fun e => by injection e with _ e2; omega)]; exact q2
/-- the row is finished -/
theorem OutB.fin {wb w W : World} {g n : Nat} {R : List (List RD)} {k : Nat} (h : OutB wb w g n R k) (hn : n ≤ 1100000) {y : RD} (hy : y.rd w)
    (hW : (((w.setCell ⟨k, R.length * 3, none⟩ (.bool y.neg)).setCell ⟨k, R.length * 3 + 1, none⟩ (.slice y.a y.xs.length y.c)).setCell ⟨k, R.length * 3 + 2, none⟩ (.int .i64 y.e)) = W) : OutA wb W g n (R ++ [unitN n R.length y]) := by
  obtain ⟨⟨h1, h2, h3, h4, h5, h6⟩, hk, hf, hz, hc, hN, hr⟩ := h
  obtain ⟨hrow, U⟩ := hN.set3 h3 hy hW
  have key (j : Nat) : W.cell? ⟨g, j, none⟩ = w.cell? ⟨g, j, none⟩ := U.2.2.2.1 _ (fun e => h5 e.symm)
  refine ⟨⟨h1, by rw [U.2.2.2.2]; exact h2, by simp; omega⟩, U.2.2.1 _ hk h4, fun i hi => by rw [U.1]; exact hf i hi, fun i hl hi => by rw [key]; exact hz i (by simp at hl; omega) hi, fun i r hi => ?_⟩
  by_cases hi2 : i < R.length
  · rw [List.getElem?_append_left hi2] at hi
    obtain ⟨q1, b, rc, q2, q3, q4, q5, q6, q7⟩ := hr i r hi
    exact ⟨q1, b, rc, by rw [key]; exact q2, RowD.upd U q3 q6, q4, by rw [U.2.2.2.2]; exact q5, q7⟩
  · rw [List.getElem?_append_right (by omega)] at hi
    have hi3 : i = R.length := by
      have := (List.getElem?_eq_some_iff.1 hi).1
      simp at this; omega
    subst hi3
    simp at hi
    subst hi
    rw [unitN_len]
    exact ⟨hn, k, n, by rw [key]; exact hc, hrow, h5, by rw [U.2.2.2.2]; exact h6, h4⟩
theorem OutA.rowN {wb w : World} {g n : Nat} {R : List (List RD)} (h : OutA wb w g n R) : RowNs wb.heap.size w (some ⟨g, 0, none⟩) R := by
  obtain ⟨h1, _, _, _, hr⟩ := h
  intro i r hi
  obtain ⟨q1, b, rc, q2, q3, q4, q5, q7⟩ := hr i r hi
  exact ⟨g, 0, _, rc, rfl, h1.1, by rw [Nat.zero_add]; exact q2, ⟨q3, fun p hp => by cases hp; exact q7⟩, q1⟩
theorem RowDs.upd {S g : Nat} {w W : World} {a : Option Addr} {zs : List RD} (h : RowDs S w a zs) (hU : Upd g w W) (hg : g < S) : RowDs S W a zs := by
  refine ⟨fun j x hj => ?_, h.2⟩
  obtain ⟨b, o, e, hr, h0, h1, h2⟩ := h.1 j x hj
  have hb : S ≤ b := h.2 _ e
  have key (t : Nat) : W.cell? ⟨b, t, none⟩ = w.cell? ⟨b, t, none⟩ := hU.2.2.2.1 _ (show b ≠ g by omega)
  exact ⟨b, o, e, hU.rdD hr, (key _).trans h0, (key _).trans h1, (key _).trans h2⟩
theorem RowNs.upd {S g : Nat} {w W : World} {a : Option Addr} {m : List (List RD)} (h : RowNs S w a m) (hU : Upd g w W) (hg : g < S) : RowNs S W a m := fun j r hj => by
  obtain ⟨b, o, ra, rc, e, hs, hq, hr, hl⟩ := h j r hj
  exact ⟨b, o, ra, rc, e, hs, (hU.2.2.2.1 _ (show b ≠ g by omega)).trans hq, hr.upd hU hg, hl⟩
/-- a row of intervals in blocks from S on -/
def RowIs (S : Nat) (w : World) (a : Option Addr) (zs : List RI) : Prop := RowI w a zs ∧ ∀ p, a = some p → S ≤ p.block
theorem RowIs.upd {S g : Nat} {w W : World} {a : Option Addr} {zs : List RI} (h : RowIs S w a zs) (hU : Upd g w W) (hg : g < S) : RowIs S W a zs := by
  refine ⟨fun j x hj => ?_, h.2⟩
  obtain ⟨b, o, e, hr, h0, h1, h2, h3, h4, h5, h6⟩ := h.1 j x hj
  have hb : S ≤ b := h.2 _ e
  have key (t : Nat) : W.cell? ⟨b, t, none⟩ = w.cell? ⟨b, t, none⟩ := hU.2.2.2.1 _ (show b ≠ g by omega)
  exact ⟨b, o, e, hU.rdI hr, (key _).trans h0, (key _).trans h1, (key _).trans h2, (key _).trans h3, (key _).trans h4, (key _).trans h5, (key _).trans h6⟩
theorem OwnN.rows {S : Nat} {wo w : World} {v : Value} {zs : List RI} {a : Option Addr} {n c : Nat} (h : OwnN wo w v zs) (hS : S ≤ wo.heap.size) (hv : v = .slice a n c) (hr : RowI w a zs) : RowIs S w a zs := by
  refine ⟨hr, fun p hp => ?_⟩
  subst hp
  subst hv
  obtain ⟨_, ⟨_, hq⟩, _⟩ := h
  rcases hq with ⟨e, _⟩ | ⟨b, cap, cu, e, hb, _⟩
  · cases e
  · cases e; exact Nat.le_trans hS hb
theorem OwnE.rows {S : Nat} {wo w : World} {v : Value} {zs : List RD} {a : Option Addr} {n c : Nat} (h : OwnE wo w v zs) (hS : S ≤ wo.heap.size) (hv : v = .slice a n c) (hr : RowD w a zs) : RowDs S w a zs :=
  (h.row (u := .slice none 0 0) hS hv hr (fun g e => by cases e)).1
end Go.Proofs.YtdlpiblgkpgplaaGreatDoor
end

section
namespace Go.Proofs.YtdlpiblgkpgplaaGreatDoor
open Go.RowKit

/-- half of a number -/
def halfD (D : Dy) : Dy × Int := chk (canon D.neg D.m (D.e + -1))
theorem halfD_ok (D : Dy) : (halfD D).1.ok := chk_canon_ok _ _ _
/-- the middle -/
def midP (X : PI) (p : Nat) : Dy :=
  if (adP X.lo X.hi p false).2 = 0 ∧ (halfD (adP X.lo X.hi p false).1).2 = 0 ∧ hasX X (halfD (adP X.lo X.hi p false).1).1.iv = true then (halfD (adP X.lo X.hi p false).1).1 else X.lo
theorem midP_ok {X : PI} {p : Nat} (h : X.lo.ok) : (midP X p).ok := by
  unfold midP
  split
  · exact halfD_ok _
  · exact h
theorem midP_in {X : PI} {p : Nat} (h : X.lo.iv ≤ X.hi.iv) : hasX X (midP X p).iv = true := by
  unfold midP
  split
  · next h => exact h.2.2
  · unfold hasX
    rw [decide_eq_true (Int.le_refl _), decide_eq_true h]; simp
theorem midP_a {X : PI} {p : Nat} (h : (adP X.lo X.hi p false).2 ≠ 0) : midP X p = X.lo := if_neg fun e => h e.1
theorem midP_b {X : PI} {p : Nat} (h : (halfD (adP X.lo X.hi p false).1).2 ≠ 0) : midP X p = X.lo := if_neg fun e => h e.2.1
theorem midP_c {X : PI} {p : Nat} (h : hasX X (halfD (adP X.lo X.hi p false).1).1.iv = false) : midP X p = X.lo := if_neg fun e => by rw [h] at e; exact Bool.noConfusion e.2.2
theorem midP_d {X : PI} {p : Nat} (h0 : (adP X.lo X.hi p false).2 = 0) (h1 : (halfD (adP X.lo X.hi p false).1).2 = 0) (h2 : hasX X (halfD (adP X.lo X.hi p false).1).1.iv = true) :
    midP X p = (halfD (adP X.lo X.hi p false).1).1 := if_pos ⟨h0, h1, h2⟩
/-- the fault of half a number: none or 9 -/
theorem adP_f (a b : Dy) (p : Nat) (up : Bool) : (adP a b p up).2 = 0 ∨ (adP a b p up).2 = 9 := by
  unfold adP rndE
  split <;> simp
theorem halfD_f (D : Dy) : (halfD D).2 = 0 ∨ (halfD D).2 = 9 := by
  unfold halfD chk
  split <;> simp
end Go.Proofs.YtdlpiblgkpgplaaGreatDoor
end

section
namespace Go.Proofs.YtdlpiblgkpgplaaGreatDoor
open Go.RowKit

set_option maxRecDepth 100000 in
set_option maxHeartbeats 2000000 in
theorem pInt_any (n : Nat) (w : World) (hn : n ≤ 9000000) (hT : Tab w) :
    Calls Tryz.prog 92 #[.int .i64 n] w (DyOut w (canon false n 0)) := by
  have hB := Box3.new w (.bool false) (.slice none 0 0) (.int .i64 0) 33
  have k0 := (Kp.refl w).alloc (.cells #[.bool false, .slice none 0 0, .int .i64 0] 33)
  have hneg : decide ((n : Int) < 0) = false := decide_eq_false (by omega)
  have h1 : (n : Int) % 18446744073709551616 = n := by omega
  have h2 : (n : Int) % 4294967296 = n := by omega
  have h3 : (n : Int) / 4294967296 = 0 := by omega
  have hT1 := Lib.hid (hT.kp k0)
  have hR := rd_pair (w.alloc (.cells #[.bool false, .slice none 0 0, .int .i64 0] 33)) n 0 (by omega) (by decide) n 0 rfl rfl
  rw [World.size_alloc] at hR
  have hO := Lib.hid (canonical_any false _ [n, 0] 2 0 _ hR (by simp) (by unfold maxLen; omega) (by simp) (by decide) (by decide) (hT1.out.kp ((Kp.refl _).alloc _)))
  clear hR
  go_enter Tryz.func92, Tryz.ntmps92
  go_wp2_with fail
  refine hO.out.mono ?_
  rintro e w3 ⟨a3, c3, rfl, r3, l3, m3, k3⟩
  have hkb := ((Kp.refl _).alloc _).trans k3
  obtain ⟨q0, q1, q2, f0, f1, f2⟩ := hB.kp hkb
  have hk2 := k0.trans hkb
  rw [show val [n, 0] = n from by simp [val]] at r3 l3 ⊢
  generalize canon false n 0 = D at *
  have hst := stored q0 q1 q2 (fun _ h => by cases h) (fun _ h => by cases h) (fun _ h => by cases h) (.bool D.neg) (.slice a3 (limbs D.m).length c3) (.int .i64 D.e)
  go_wp2_with fail
  generalize (((w3.setCell _ _).setCell _ _).setCell _ _) = W at hst ⊢
  obtain ⟨s0, s1, s2, _, s4, s5, _, _⟩ := hst
  refine bodyPost_ret (v := .agg #[.bool D.neg, .slice a3 (limbs D.m).length c3, .int .i64 D.e]) (by simp [results, Tryz.results92, go_sem, s0, s1, s2]) rfl ?_
  exact ⟨a3, c3, rfl, s4 _ _ r3, l3, m3, s5 _ hk2 (by omega)⟩
theorem intD_nat (n : Nat) : intD (n : Int) = canon false n 0 := by unfold intD; rw [decide_eq_false (by omega)]; rfl
theorem pIntR_any (n : Nat) (w : World) (hn : n ≤ 1) (hT : Tab w) :
    Calls Tryz.prog 92 #[.int .i64 n] w fun e w' => ∃ y : RD, e = .returned (.agg #[.bool y.neg, .slice y.a y.xs.length y.c, .int .i64 y.e]) ∧ y.ok w' ∧ y.dy = intD n ∧ Kp w w' := by
  refine (pInt_any n w (by omega) hT).mono ?_
  rintro e w' ⟨a, c, rfl, r, l, m, k⟩
  have hd : (intD (n : Int)).ok := (intD_isP (p := 10) (by decide) (by decide) (by omega)).1
  rw [← intD_nat] at r l ⊢
  exact ⟨rdOf (intD n) a c, rfl, ⟨rdOf_rd hd r l m, rdOf_vl hd _ _⟩, rdOf_dy _ _ _, k⟩
end Go.Proofs.YtdlpiblgkpgplaaGreatDoor
end

section
namespace Go.Proofs.YtdlpiblgkpgplaaGreatDoor
open Go.RowKit

/-- the rows of the identity -/
def unitD (n i : Nat) : List Dy := (List.replicate n Dy.zero).set i (intD 1)
theorem unitN_dy {n i : Nat} {y : RD} (h : y.dy = intD 1) : (unitN n i y).map RD.dy = unitD n i := by
  unfold unitN unitD
  rw [List.map_set, List.map_replicate, h]
  rfl
def RowU (n : Nat) (R : List (List RD)) : Prop := ∀ (i : Nat) (r : List RD), R[i]? = some r → ∃ y : RD, r = unitN n i y ∧ y.dy = intD 1 ∧ y.vl = true
theorem RowU.snoc {n : Nat} {R : List (List RD)} (h : RowU n R) {y : RD} (hy : y.dy = intD 1) (hv : y.vl = true) : RowU n (R ++ [unitN n R.length y]) := by
  intro i r hi
  by_cases hi2 : i < R.length
  · rw [List.getElem?_append_left hi2] at hi
    exact h i r hi
  · rw [List.getElem?_append_right (by omega)] at hi
    have hi3 : i = R.length := by
      have := (List.getElem?_eq_some_iff.1 hi).1
      simp at this; omega
    subst hi3
    simp at hi
    exact ⟨y, hi.symm, hy, hv⟩
theorem keepSet3 {w : World} {g j k a b c : Nat} {v x y z : Value} (h : w.cell? ⟨g, j, none⟩ = some v) (hk : k ≠ g) : (((w.setCell ⟨k, a, none⟩ x).setCell ⟨k, b, none⟩ y).setCell ⟨k, c, none⟩ z).cell? ⟨g, j, none⟩ = some v := by
  have d (t : Nat) : (⟨k, t, none⟩ : Addr) ≠ ⟨g, j, none⟩ := fun e => hk (by injection e)
  rw [cell_set_ne (d _), cell_set_ne (d _), cell_set_ne (d _)]; exact h
theorem pInt1F_any (w : World) (hT : Tab w) : Calls Tryz.prog 92 #[.int .i64 1] w fun e w' => ∃ y : RD, e = .returned (.agg #[.bool y.neg, .slice y.a y.xs.length y.c, .int .i64 y.e]) ∧ y.ok w' ∧ y.dy = intD 1 ∧ Kp w w' := pIntR_any 1 w (by decide) hT
set_option maxRecDepth 100000 in
set_option maxHeartbeats 8000000 in
theorem fidentity_any (n : Nat) (w : World) (h8 : n ≤ 8) (hT : Tab w) :
    Calls Tryz.prog 48 #[.int .i64 n] w fun e w' => ∃ (a : Addr) (R : List (List RD)), e = .returned (.slice (some a) n n) ∧ R.length = n ∧ RowNs w.heap.size w' (some a) R ∧ RowU n R ∧ Kp w w' := by
  have HT := Lib.hid hT
  have hmk := make_rowsE (n : Int) n rfl (by omega)
  have hmk2 := make_nums (n : Int) n rfl (by omega)
  clear hT
  go_enter Tryz.func48, Tryz.ntmps48
  go_wp2_with fail
  have hO := OutA.made w n
  generalize hW1 : w.alloc _ = W1 at *
  have HO := Lib.hid hO
  clear hW1 hmk hO
  go_loopg [9] n (fun q v wr => ∃ R : List (List RD), R.length + q = n ∧ v = .int .i64 (R.length : Int) ∧ OutA w wr w.heap.size n R ∧ RowU n R)
  case atStart => exact ⟨[], by simp, rfl, HO.out, fun i r h => by simp at h⟩
  case round =>
    obtain ⟨R, hRq, rfl, hO, hu⟩ := hrel
    clear HO
    have HU := Lib.hid hu
    have HOH := Lib.hid hO
    clear hu hO
    by_cases hlt : R.length < n
    · have hj1 : (0 : Int) ≤ (R.length : Int) := by omega
      have hj2 : (R.length : Int) < (n : Int) := by omega
      have HB := Lib.hid (HOH.out.row hlt)
      have Hlt := Lib.hid (And.intro hlt hRq)
      clear hRq
      have hkk := (Kp.refl wr).alloc (.cells (madeCells #[.bool false, .slice none 0 0, .int .i64 0] (n * 3)) 33)
      have hc0 := hkk.cell (HOH.out.2.2.2.1 R.length (Nat.le_refl _) hlt)
      have hf0 := (HOH.out.kp hkk).2.2.1 R.length hlt
      clear hkk
      go_upto_region 6 with fail
      generalize hW2 : World.setCell _ _ _ = W2 at *
      clear hW2 hc0 hf0
      obtain ⟨gk1, hgk1⟩ : ∃ x : Nat, x = gk := ⟨_, rfl⟩
      subst hgk1
      have kd := (Kp.refl W2).drew
      have HB3 := Lib.hid (HB.out.kp kd)
      have HT3 := Lib.hid (HT.out.kp HB3.out.2.1)
      have hcell : W2.drew.cell? ⟨w.heap.size, R.length, none⟩ = some (.slice (some ⟨wr.heap.size, 0, none⟩) n n) := HB3.out.2.2.2.2.1
      clear HB kd
      have hne : wr.heap.size ≠ w.heap.size := HB3.out.1.2.2.2.2.1
      go_region_held3 (fun w' => w'.cell? ⟨w.heap.size, R.length, none⟩ = some (.slice (some ⟨wr.heap.size, 0, none⟩) n n)) (first | with_reducible assumption | with_reducible exact keepSet3 (by assumption) hne | with_reducible exact Kp.cell j1 hcell | fail) (first
        | (go_simp; go_at_call 92; (with_reducible refine (pInt1F_any _ HT3.out).mono ?_); rintro e v1 ⟨y, rfl, hy, hyd, j1⟩
           have HB4 := Lib.hid (HB3.out.kp j1)
           have HY := Lib.hid (And.intro hy hyd)
           have hcell1 := j1.cell hcell
           obtain ⟨q0, q1, q2⟩ := HB4.out.2.2.2.2.2.1.1 R.length hlt
           have f0 := HB4.out.2.2.2.2.2.1.2.1 (R.length * 3)
           have f1 := HB4.out.2.2.2.2.2.1.2.1 (R.length * 3 + 1)
           have f2 := HB4.out.2.2.2.2.2.1.2.1 (R.length * 3 + 2)
           clear hy hyd)
        | fail)
      all_goals
        clear q0 q1 q2 f0 f1 f2
        generalize hW9 : (((v1.setCell _ _).setCell _ _).setCell _ _) = W9
        have hO9 := HB4.out.fin (by omega) HY.out.1.1 hW9
        have HO9 := Lib.hid hO9
        clear hW9 hO9 hcell1
        go_wp2_with fail
        go_roundg (gk1 - 1)
        case measure => have := Hlt.out; omega
        case rel => exact ⟨R ++ [unitN n R.length y], by have := Hlt.out; rw [List.length_append, List.length_singleton]; omega, by rw [List.length_append, List.length_singleton]; go_num, HO9.out, HU.out.snoc HY.out.2 HY.out.1.2⟩
    · have hRe : R.length = n := by omega
      have HRe := Lib.hid hRe
      clear hRe hRq
      go_wp2_with fail
      refine bodyPost_ret (v := .slice (some ⟨w.heap.size, 0, none⟩) n n) (by simp [results, Tryz.results48, go_sem]) rfl ?_
      exact ⟨⟨w.heap.size, 0, none⟩, R, rfl, HRe.out, HOH.out.rowN, HU.out, HOH.out.2.1⟩
end Go.Proofs.YtdlpiblgkpgplaaGreatDoor
end

section
namespace Go.Proofs.YtdlpiblgkpgplaaGreatDoor
open Go.RowKit

def ofM (p : Nat) (x : RI) : Dy := midP x.pl p
def ofL (p : Nat) (x : RI) : Dy × Int := adP x.lo.dy (ofM p x).opp p false
def ofH (p : Nat) (x : RI) : Dy × Int := adP x.hi.dy (ofM p x).opp p true
def ofR (p : Nat) (x : RI) : PI := ⟨(ofL p x).1, (ofH p x).1, false⟩
def ofB (p : Nat) (x : RI) : Bool := decide ((ofL p x).2 = 0) && decide ((ofH p x).2 = 0)
theorem ofB_iff {p : Nat} {x : RI} : ofB p x = true ↔ (ofL p x).2 = 0 ∧ (ofH p x).2 = 0 := by unfold ofB; simp
theorem ofL_f (p : Nat) (x : RI) : (ofL p x).2 = 0 ∨ (ofL p x).2 = 9 := adP_f _ _ _ _
theorem ofH_f (p : Nat) (x : RI) : (ofH p x).2 = 0 ∨ (ofH p x).2 = 9 := adP_f _ _ _ _
theorem ofL_ok (p : Nat) (x : RI) (h0 : 8 ≤ p) (h1 : p ≤ 512) : (ofL p x).1.ok := adP_ok _ _ h0 h1 _
theorem ofH_ok (p : Nat) (x : RI) (h0 : 8 ≤ p) (h1 : p ≤ 512) : (ofH p x).1.ok := adP_ok _ _ h0 h1 _
/-- error, middles, intervals of a box's frame -/
def ofV (xs : List RI) (p : Int) : Int × List Dy × List PI :=
  if vlB xs = false then (1, [], []) else if preB p = false then (2, [], []) else
  if xs.all (ofB p.toNat) = true then (0, xs.map (ofM p.toNat), xs.map (ofR p.toNat)) else (9, [], [])
theorem ofM_ok {w : World} {x : RI} {p : Nat} (h : x.ok w) : (ofM p x).ok := midP_ok (rdok_dy h.lo)
/-- 0 is in the interval -/
theorem ofR_zero {w : World} {x : RI} {p : Nat} (h : x.ok w) (h0 : 8 ≤ p) (h1 : p ≤ 512) (hb : ofB p x = true) : (ofL p x).1.iv ≤ 0 ∧ 0 ≤ (ofH p x).1.iv := by
  obtain ⟨e1, e2⟩ := ofB_iff.1 hb
  have hin := midP_in (X := x.pl) (p := p) h.parts.2.2
  unfold hasX at hin
  rw [show x.pl.all = false from h.2.1] at hin
  simp only [Bool.false_or, Bool.and_eq_true, decide_eq_true_eq] at hin
  have a := (rndK_down (K := 0) (p := p) (S := x.lo.dy.iv + (ofM p x).opp.iv) (by omega) (by omega) (rndE_some e1)).2.1
  have b := (rndK_up (K := 0) (p := p) (S := x.hi.dy.iv + (ofM p x).opp.iv) (by omega) (by omega) (rndE_some e2)).2.1
  rw [Int.pow_zero, Int.mul_one] at a b
  have o := Dy.opp_iv (ofM p x)
  have i1 : x.lo.dy.iv ≤ (ofM p x).iv := hin.1
  have i2 : (ofM p x).iv ≤ x.hi.dy.iv := hin.2
  refine ⟨Int.le_trans a ?_, Int.le_trans ?_ b⟩
  · rw [o]; omega
  · rw [o]; omega
/-- what both functions return -/
def FrO (n : Nat) (v : Int × List Dy × List PI) (w : World) (e : Ending) (w' : World) : Prop :=
  ∃ f : RF, e = .returned (.tuple #[.agg #[.slice f.ca f.cs.length f.cc, .slice f.aa f.ms.length f.ac, .slice f.ra f.rs.length f.rc], .int .i64 v.1]) ∧ f.rd w' ∧ f.cs.map RD.dy = v.2.1 ∧ plR f.rs = v.2.2 ∧ (∀ y ∈ f.cs, y.vl = true) ∧ (∀ z ∈ f.rs, z.vl = true) ∧ f.ms.length = f.cs.length ∧ RowU n f.ms ∧ Kp w w'
def rfNil : RF := ⟨none, [], 0, none, [], 0, none, [], 0⟩
theorem rfNil_rd (w : World) : rfNil.rd w := ⟨⟨fun i x h => by simp [rfNil] at h, by decide⟩, ⟨fun i x h => by simp [rfNil] at h, by decide⟩, ⟨fun i x h => by simp [rfNil] at h, by decide⟩⟩
theorem FrO.err {n : Nat} {w w' : World} {c : Int} {e : Ending} (h : e = .returned (.tuple #[.agg #[.slice rfNil.ca rfNil.cs.length rfNil.cc, .slice rfNil.aa rfNil.ms.length rfNil.ac, .slice rfNil.ra rfNil.rs.length rfNil.rc], .int .i64 c])) (k : Kp w w') : FrO n (c, [], []) w e w' :=
  ⟨rfNil, h, rfNil_rd w', rfl, rfl, fun y h => by simp [rfNil] at h, fun y h => by simp [rfNil] at h, rfl, fun i r h => by simp [rfNil] at h, k⟩
/-- the frame is valid -/
theorem vlF_of {w : World} {f : RF} {xs : List RI} {p : Nat} (ok : ∀ x ∈ xs, x.ok w) (h0 : 8 ≤ p) (h1 : p ≤ 512) (hn : 1 ≤ xs.length ∧ xs.length ≤ 8) (hb : xs.all (ofB p) = true)
    (hC : f.cs.map RD.dy = xs.map (ofM p)) (hR : plR f.rs = xs.map (ofR p)) (hc : ∀ y ∈ f.cs, y.vl = true) (hr : ∀ z ∈ f.rs, z.vl = true) (hl : f.ms.length = f.cs.length) (hu : RowU xs.length f.ms) : vlF f = true := by
  have l1 : f.cs.length = xs.length := by have := congrArg List.length hC; simpa using this
  have l2 : f.rs.length = xs.length := by have := congrArg List.length hR; unfold plR at this; simpa using this
  refine vlF_iff.2 ⟨by omega, by omega, hc, fun r h => ?_, fun z h => ?_⟩
  · obtain ⟨i, hi⟩ := List.getElem?_of_mem h
    obtain ⟨y, e, _, hy⟩ := hu i r hi
    subst e
    refine ⟨by rw [unitN_len]; omega, fun x hx => ?_⟩
    obtain ⟨j, hj⟩ := List.getElem?_of_mem hx
    obtain ⟨_, ⟨_, e⟩ | ⟨_, e⟩⟩ := unitN_at hj
    · rw [e]; exact hy
    · rw [e]; exact rdZero_vl
  · obtain ⟨i, hi⟩ := List.getElem?_of_mem h
    have e1 : (plR f.rs)[i]? = some z.pl := by unfold plR; rw [List.getElem?_map, hi]; rfl
    rw [hR, List.getElem?_map] at e1
    cases hx : xs[i]? with
    | none => rw [hx] at e1; cases e1
    | some x =>
      rw [hx] at e1
      have e2 : ofR p x = z.pl := by simpa using e1
      have hm := List.mem_of_getElem? hx
      have hz := ofR_zero (ok x hm) h0 h1 ((List.all_eq_true.1 hb) x hm)
      have a1 : (ofL p x).1 = z.lo.dy := congrArg PI.lo e2
      have a2 : (ofH p x).1 = z.hi.dy := congrArg PI.hi e2
      have a3 : false = z.all := congrArg PI.all e2
      exact goodZ_iff.2 ⟨a3.symm, hr z h, by have := hz.1; rw [a1] at this; exact this, by have := hz.2; rw [a2] at this; exact this⟩
end Go.Proofs.YtdlpiblgkpgplaaGreatDoor
end
