/-
  Walks: slices.EqualFunc at [][]api.Interval, [][]api.Interval.
  Walks: interval.Whole, made, Add, of valid intervals.
  Walks: the reference's trim, compare, Equal.
  Walks: the reference's zeros, right.
  Walks: the reference's right.
  Walks: the reference's plus, minus.
  Walks: the reference's bits, Neg.
-/
import Derived.Test.YtdidocdpjiiedaaGreatDoorMIvE
import Derived.Test.YtdidocdpjiiedaaGreatDoorMRoAdd
import Derived.Test.YtdidocdpjiiedaaGreatDoorMSumH
import Derived.Deep.DeepFit
import Derived.Test.YtdidocdpjiiedaaGreatDoorMOpenM
import Derived.Test.YtdidocdpjiiedaaGreatDoorMMul
import Derived.Shelf.Spec.TrailingZeros
section
namespace Go.Proofs.YtdidocdpjiiedaaGreatDoor
open Go.RowKit

/-- equally long, and alike by p -/
def allRR (p : List RI → List RI → Bool) (zs : List (List RI)) (ys : List (List RI)) : Bool := decide (zs.length = ys.length) && (zs.zip ys).all fun q => p q.1 q.2
theorem allRR_true {p : List RI → List RI → Bool} {zs : List (List RI)} {ys : List (List RI)} : allRR p zs ys = true ↔ zs.length = ys.length ∧ ∀ (i : Nat) (x : List RI) (y : List RI), zs[i]? = some x → ys[i]? = some y → p x y = true := by
  unfold allRR
  rw [Bool.and_eq_true, decide_eq_true_eq, List.all_eq_true]
  refine and_congr_right fun hl => ⟨fun h i x y hx hy => ?_, fun h q hq => ?_⟩
  · refine h (x, y) (List.mem_of_getElem? (i := i) ?_)
    rw [List.getElem?_zip_eq_some]; exact ⟨hx, hy⟩
  · obtain ⟨i, hi⟩ := List.getElem?_of_mem hq
    have hi2 := List.getElem?_zip_eq_some.1 hi
    exact h i _ _ hi2.1 hi2.2
theorem allRR_false {p : List RI → List RI → Bool} {zs : List (List RI)} {ys : List (List RI)} {i : Nat} {x : List RI} {y : List RI} (hx : zs[i]? = some x) (hy : ys[i]? = some y) (h : p x y = false) : allRR p zs ys = false := by
  cases ha : allRR p zs ys with
  | false => rfl
  | true => rw [(allRR_true.1 ha).2 i x y hx hy] at h; cases h
/-- the function g answers p at each two elements, in whatever later world, and keeps all that was there -/
def AnsRR (P : Program) (g : FuncId) (cap : Array Value) (w : World) (zs : List (List RI)) (ys : List (List RI)) (p : List RI → List RI → Bool) : Prop :=
  Enters P g ∧ ∀ x, x ∈ zs → ∀ y, y ∈ ys → ∀ a c a2 c2 w1, Kp w w1 → (RowI w1 a x ∧ x.length ≤ 1100000) → (RowI w1 a2 y ∧ y.length ≤ 1100000) → Calls P g (#[.slice a x.length c, .slice a2 y.length c2] ++ cap) w1 fun e w2 => e = .returned (.bool (p x y)) ∧ Kp w1 w2

set_option maxHeartbeats 4000000 in
theorem eqfRR (a b' : Option Addr) (zs : List (List RI)) (ys : List (List RI)) (c d : Nat) (g : FuncId) (cap : Array Value) (w : World) (p : List RI → List RI → Bool) (hm : zs.length ≤ 1100000) (h : RowM w a zs) (h' : RowM w b' ys) (hp : AnsRR Tryz.prog g cap w zs ys p) :
    Calls Tryz.prog 68 #[.slice a zs.length c, .slice b' ys.length d, .func (.func g) #[] cap] w fun e w' => e = .returned (.bool (allRR p zs ys)) ∧ Kp w w' := by
  go_enter Tryz.func68, Tryz.ntmps68
  by_cases hlen : zs.length = ys.length
  · have Hlen := Lib.hid hlen
    rw [← hlen]
    clear hlen
    go_wp2
    go_loopw [17] (fun x wr => ∃ k : Nat, k ≤ zs.length ∧ x = .int .i64 k ∧ (∀ (i : Nat) (x : List RI) (y : List RI), zs[i]? = some x → ys[i]? = some y → i < k → p x y = true) ∧ Kp w wr) (fun x _ => zs.length - (intOf x).toNat)
    case atStart => exact ⟨0, by omega, rfl, fun i x y _ _ h1 => by omega, .refl _⟩
    case round =>
      obtain ⟨k, hk, rfl, hz, hkp⟩ := hrel
      have Hz := Lib.hid hz; clear hz
      by_cases hlt : k < zs.length
      · have hlt2 : k < ys.length := by have := Hlen.out; omega
        obtain ⟨b, o, ra, rc, rfl, h0, hrow⟩ := (h.kp hkp) k (zs[k]) (List.getElem?_eq_getElem hlt)
        obtain ⟨b2, o2, ra2, rc2, rfl, j0, hrow2⟩ := (h'.kp hkp) k (ys[k]) (List.getElem?_eq_getElem hlt2)
        have Hg := Lib.hid (List.getElem?_eq_getElem hlt)
        have Hg2 := Lib.hid (List.getElem?_eq_getElem hlt2)
        have hgo : ∀ args w, (callFunc g args).run Tryz.prog w = .ok (.enter g args) w := hp.1
        have hcall := hp.2 _ (List.getElem_mem hlt) _ (List.getElem_mem hlt2) ra rc ra2 rc2 wr hkp hrow hrow2
        clear hp h h' hrow hrow2
        generalize zs[k] = x at *
        generalize ys[k] = y at *
        clear hlt2
        cases hq : p x y with
        | true =>
          rw [hq] at hcall
          have Hc := Lib.hid hcall
          have Hq := Lib.hid hq
          clear hcall hq
          go_wp2_with (refine Hc.out.mono ?_; rintro e w2 ⟨rfl, hk2⟩)
          go_roundw
          case rel =>
            refine ⟨k + 1, by omega, by go_num, fun i x' y' hx hy hi => ?_, hkp.trans hk2⟩
            by_cases h : i = k
            · subst h; rw [Hg.out] at hx; rw [Hg2.out] at hy; cases hx; cases hy; exact Hq.out
            · exact Hz.out i x' y' hx hy (by omega)
          case measure => simp [intOf]; omega
        | false =>
          rw [hq] at hcall
          have Hc := Lib.hid hcall
          have Hq := Lib.hid (allRR_false Hg.out Hg2.out hq)
          clear hcall hq
          go_wp2_with (refine Hc.out.mono ?_; rintro e w2 ⟨rfl, hk2⟩)
          go_ret
          exact ⟨ret_bool Hq.out.symm, hkp.trans hk2⟩
      · have Hthis := Lib.hid (allRR_true.2 ⟨Hlen.out, fun i x y hx hy => Hz.out i x y hx hy (by have := (List.getElem?_eq_some_iff.1 hx).1; omega)⟩)
        go_wp2
        go_ret
        exact ⟨ret_bool Hthis.out.symm, hkp⟩
  · have hl2 : ((zs.length : Int) == (ys.length : Int)) = false := beq_eq_false_iff_ne.2 (by omega)
    have H := Lib.hid (show allRR p zs ys = false by unfold allRR; rw [decide_eq_false hlen]; rfl)
    clear hlen
    go_wp2
    go_ret
    exact ⟨ret_bool H.out.symm, .refl _⟩
end Go.Proofs.YtdidocdpjiiedaaGreatDoor
end

section
namespace Go.Proofs.YtdidocdpjiiedaaGreatDoor
open Go.RowKit

/-- two intervals in a block of the call's own, as they come -/
theorem rowI_twoR (w : World) (x y : RI) (hx : x.rd w) (hy : y.rd w) (t : TypeId) : RowI (w.alloc (.cells #[.bool x.lo.neg, .slice x.lo.a x.lo.xs.length x.lo.c, .int .i64 x.lo.e, .bool x.hi.neg, .slice x.hi.a x.hi.xs.length x.hi.c, .int .i64 x.hi.e, .bool x.all, .bool y.lo.neg, .slice y.lo.a y.lo.xs.length y.lo.c, .int .i64 y.lo.e, .bool y.hi.neg, .slice y.hi.a y.hi.xs.length y.hi.c, .int .i64 y.hi.e, .bool y.all] t)) (some ⟨w.heap.size, 0, none⟩) [x, y] := by
  intro i z hi
  have hk := (Kp.refl w).alloc (.cells #[.bool x.lo.neg, .slice x.lo.a x.lo.xs.length x.lo.c, .int .i64 x.lo.e, .bool x.hi.neg, .slice x.hi.a x.hi.xs.length x.hi.c, .int .i64 x.hi.e, .bool x.all, .bool y.lo.neg, .slice y.lo.a y.lo.xs.length y.lo.c, .int .i64 y.lo.e, .bool y.hi.neg, .slice y.hi.a y.hi.xs.length y.hi.c, .int .i64 y.hi.e, .bool y.all] t)
  match i with
  | 0 =>
    simp only [List.getElem?_cons_zero, Option.some.injEq] at hi
    subst hi
    refine ⟨_, 0, rfl, hx.kp hk, ?_, ?_, ?_, ?_, ?_, ?_, ?_⟩ <;> simp
  | 1 =>
    simp only [List.getElem?_cons_succ, List.getElem?_cons_zero, Option.some.injEq] at hi
    subst hi
    refine ⟨_, 0, rfl, hy.kp hk, ?_, ?_, ?_, ?_, ?_, ?_, ?_⟩ <;> simp
  | i + 2 => simp at hi
theorem Var7.new1 (w : World) (t : TypeId) (o1 : Obj) : Var7 ((w.alloc o1).alloc (.cells #[.bool false, .slice none 0 0, .int .i64 0, .bool false, .slice none 0 0, .int .i64 0, .bool false] t)) (w.heap.size + 1) := by
  have := Var7.new (w.alloc o1) t
  rwa [World.size_alloc] at this
theorem Upd.rdD {g : Nat} {w W : World} (h : Upd g w W) {x : RD} (hx : x.rd w) : x.rd W := ⟨h.2.1 _ _ hx.1, hx.2⟩
theorem Upd.rdI {g : Nat} {w W : World} (h : Upd g w W) {x : RI} (hx : x.rd w) : x.rd W := ⟨h.rdD hx.1, h.rdD hx.2⟩
set_option maxHeartbeats 4000000 in
theorem Whole_any (w : World) :
    Calls Tryz.prog 123 #[] w fun e w' => e = .returned (.agg #[.bool false, .slice none 0 0, .int .i64 0, .bool false, .slice none 0 0, .int .i64 0, .bool true]) ∧ Kp w w' := by
  go_enter Tryz.func123, Tryz.ntmps123
  go_wp2_with fail
  refine bodyPost_ret (v := .agg #[.bool false, .slice none 0 0, .int .i64 0, .bool false, .slice none 0 0, .int .i64 0, .bool true]) (by simp [results, Tryz.results123, go_sem]) rfl ?_
  exact ⟨rfl, (Kp.refl w).alloc _⟩
/-- an interval of two numbers, or All -/
def madeR (x y : RD) (e f : Int) : RI := if e ≠ 0 ∨ f ≠ 0 then wholeR else ⟨x, y, false⟩
theorem madeR_rd {w : World} {x y : RD} {e f : Int} (hx : x.rd w) (hy : y.rd w) : (madeR x y e f).rd w := by
  unfold madeR; split
  · exact wholeR_rd w
  · exact ⟨hx, hy⟩
theorem madeR_pl {x y : RD} {l h : Dy × Int} (hx : x.dy = l.1) (hy : y.dy = h.1) : (madeR x y l.2 h.2).pl = mkI l h := by
  unfold madeR mkI; split
  · rfl
  · unfold RI.pl; rw [hx, hy]
theorem vl_mk2 {x y : RD} (hx : x.vl = true) (hy : y.vl = true) (h : x.iv ≤ y.iv) : RI.vl ⟨x, y, false⟩ = true := by
  unfold RI.vl
  have := @cmpZ_gt x.iv y.iv
  simp [hx, hy]; omega
theorem madeR_vl {x y : RD} {l h : Dy × Int} (hx : x.dy = l.1) (hy : y.dy = h.1) (vx : x.vl = true) (vy : y.vl = true) (hle : l.2 = 0 → h.2 = 0 → l.1.iv ≤ h.1.iv) : (madeR x y l.2 h.2).vl = true := by
  unfold madeR; split
  · rfl
  · next hn =>
    refine vl_mk2 vx vy ?_
    show x.dy.iv ≤ y.dy.iv
    rw [hx, hy]; exact hle (by omega) (by omega)
set_option maxRecDepth 100000 in
set_option maxHeartbeats 4000000 in
theorem made_any (x y : RD) (e f : Int) (w : World) :
    Calls Tryz.prog 125 #[.agg #[.bool x.neg, .slice x.a x.xs.length x.c, .int .i64 x.e], .int .i64 e, .agg #[.bool y.neg, .slice y.a y.xs.length y.c, .int .i64 y.e], .int .i64 f] w fun r w' => r = .returned (.agg #[.bool (madeR x y e f).lo.neg, .slice (madeR x y e f).lo.a (madeR x y e f).lo.xs.length (madeR x y e f).lo.c, .int .i64 (madeR x y e f).lo.e, .bool (madeR x y e f).hi.neg, .slice (madeR x y e f).hi.a (madeR x y e f).hi.xs.length (madeR x y e f).hi.c, .int .i64 (madeR x y e f).hi.e, .bool (madeR x y e f).all]) ∧ Kp w w' := by
  by_cases h : e ≠ 0 ∨ f ≠ 0
  · have HM := Lib.hid (show madeR x y e f = wholeR by unfold madeR; rw [if_pos h])
    by_cases he : e = 0
    · have hf : f ≠ 0 := h.resolve_left (fun k => k he)
      have g2 : (f != 0) = true := by rw [bne, beq_eq_false_iff_ne.2 hf]; rfl
      have g3 : (f == 0) = false := beq_eq_false_iff_ne.2 hf
      clear h hf
      subst he
      go_enter Tryz.func125, Tryz.ntmps125
      go_wp2_with fail
      generalize hW : (((w.alloc _).alloc _).alloc _) = W at *
      have hk : Kp w W := hW ▸ (((Kp.refl w).alloc _).alloc _).alloc _
      have hV : Var7 W (w.heap.size + 1 + 1) := by rw [← hW]; exact Var7.new2 _ _ _ _
      clear hW
      go_fit (Whole_any _)
      rintro r w1 ⟨rfl, hk1⟩
      have hk2 := hk.trans hk1
      obtain ⟨⟨q0, q1, q2, q3, q4, q5, q6⟩, f0, f1, f2, f3, f4, f5, f6⟩ := hV.kp hk1
      go_wp2_with fail
      generalize hW9 : ((((((w1.setCell _ _).setCell _ _).setCell _ _).setCell _ _).setCell _ _).setCell _ _).setCell _ _ = W9
      obtain ⟨⟨s0, s1, s2, s3, s4, s5, s6⟩, hU⟩ := stored7 (show Box7 w1 _ _ _ _ _ _ _ _ from ⟨q0, q1, q2, q3, q4, q5, q6⟩) (fun _ h => by cases h) (fun _ h => by cases h) (fun _ h => by cases h) (fun _ h => by cases h) (fun _ h => by cases h) (fun _ h => by cases h) (fun _ h => by cases h) _ _ _ _ _ _ _ hW9
      clear hW9 q0 q1 q2 q3 q4 q5 q6 f0 f1 f2 f3 f4 f5 f6
      refine bodyPost_ret (v := .agg #[.bool false, .slice none 0 0, .int .i64 0, .bool false, .slice none 0 0, .int .i64 0, .bool true]) (by simp [results, Tryz.results125, go_sem, s0, s1, s2, s3, s4, s5, s6]) rfl ?_
      rw [HM.out]
      exact ⟨rfl, hU.2.2.1 _ hk2 (by omega)⟩
    · have g1 : (e != 0) = true := by rw [bne, beq_eq_false_iff_ne.2 he]; rfl
      have g3 : (e == 0) = false := beq_eq_false_iff_ne.2 he
      clear h he
      go_enter Tryz.func125, Tryz.ntmps125
      go_wp2_with fail
      generalize hW : (((w.alloc _).alloc _).alloc _) = W at *
      have hk : Kp w W := hW ▸ (((Kp.refl w).alloc _).alloc _).alloc _
      have hV : Var7 W (w.heap.size + 1 + 1) := by rw [← hW]; exact Var7.new2 _ _ _ _
      clear hW
      go_fit (Whole_any _)
      rintro r w1 ⟨rfl, hk1⟩
      have hk2 := hk.trans hk1
      obtain ⟨⟨q0, q1, q2, q3, q4, q5, q6⟩, f0, f1, f2, f3, f4, f5, f6⟩ := hV.kp hk1
      go_wp2_with fail
      generalize hW9 : ((((((w1.setCell _ _).setCell _ _).setCell _ _).setCell _ _).setCell _ _).setCell _ _).setCell _ _ = W9
      obtain ⟨⟨s0, s1, s2, s3, s4, s5, s6⟩, hU⟩ := stored7 (show Box7 w1 _ _ _ _ _ _ _ _ from ⟨q0, q1, q2, q3, q4, q5, q6⟩) (fun _ h => by cases h) (fun _ h => by cases h) (fun _ h => by cases h) (fun _ h => by cases h) (fun _ h => by cases h) (fun _ h => by cases h) (fun _ h => by cases h) _ _ _ _ _ _ _ hW9
      clear hW9 q0 q1 q2 q3 q4 q5 q6 f0 f1 f2 f3 f4 f5 f6
      refine bodyPost_ret (v := .agg #[.bool false, .slice none 0 0, .int .i64 0, .bool false, .slice none 0 0, .int .i64 0, .bool true]) (by simp [results, Tryz.results125, go_sem, s0, s1, s2, s3, s4, s5, s6]) rfl ?_
      rw [HM.out]
      exact ⟨rfl, hU.2.2.1 _ hk2 (by omega)⟩
  · have HM := Lib.hid (show madeR x y e f = ⟨x, y, false⟩ by unfold madeR; rw [if_neg h])
    have he : e = 0 := Classical.byContradiction fun k => h (.inl k)
    have hf : f = 0 := Classical.byContradiction fun k => h (.inr k)
    clear h
    subst he
    subst hf
    go_enter Tryz.func125, Tryz.ntmps125
    go_wp2_with fail
    refine bodyPost_ret (v := .agg #[.bool (RI.mk x y false).lo.neg, .slice (RI.mk x y false).lo.a (RI.mk x y false).lo.xs.length (RI.mk x y false).lo.c, .int .i64 (RI.mk x y false).lo.e, .bool (RI.mk x y false).hi.neg, .slice (RI.mk x y false).hi.a (RI.mk x y false).hi.xs.length (RI.mk x y false).hi.c, .int .i64 (RI.mk x y false).hi.e, .bool (RI.mk x y false).all]) (by simp [results, Tryz.results125, go_sem]) rfl ?_
    rw [HM.out]
    exact ⟨rfl, (((Kp.refl w).alloc _).alloc _).alloc _⟩
/-- valid intervals other than All -/
theorem goodI_vl {x : RI} (h : x.vl = true) : goodI x = !x.all := by unfold goodI; rw [h]; simp
theorem ok_of {w : World} {x : RI} (h : x.rd w) (v : x.vl = true) (ha : x.all = false) : x.ok w := ⟨h, ha, v⟩
set_option maxRecDepth 100000 in
set_option maxHeartbeats 8000000 in
theorem IAdd_any (x y : RI) (p : Nat) (w : World) (hx : x.rd w) (hy : y.rd w) (vx : x.vl = true) (vy : y.vl = true) (h0 : 8 ≤ p) (h1 : p ≤ 512) (hT : Tab w) :
    Calls Tryz.prog 77 #[.agg #[.bool x.lo.neg, .slice x.lo.a x.lo.xs.length x.lo.c, .int .i64 x.lo.e, .bool x.hi.neg, .slice x.hi.a x.hi.xs.length x.hi.c, .int .i64 x.hi.e, .bool x.all], .agg #[.bool y.lo.neg, .slice y.lo.a y.lo.xs.length y.lo.c, .int .i64 y.lo.e, .bool y.hi.neg, .slice y.hi.a y.hi.xs.length y.hi.c, .int .i64 y.hi.e, .bool y.all], .int .i64 p] w (IvOut w (pAdd x.pl y.pl p)) := by
  have Hp := Lib.hid (show preB (p : Int) = true from preB_iff.2 ⟨by omega, by omega⟩)
  go_enter Tryz.func77, Tryz.ntmps77
  go_wp2_with fail
  generalize hW3 : (((w.alloc _).alloc _).alloc _) = W3 at *
  have hk3 : Kp w W3 := hW3 ▸ (((Kp.refl w).alloc _).alloc _).alloc _
  have hS3 : (W3.cell? ⟨w.heap.size, 0, none⟩ = some (.bool x.lo.neg) ∧ W3.cell? ⟨w.heap.size, 1, none⟩ = some (.slice x.lo.a x.lo.xs.length x.lo.c) ∧ W3.cell? ⟨w.heap.size, 2, none⟩ = some (.int .i64 x.lo.e) ∧ W3.cell? ⟨w.heap.size, 3, none⟩ = some (.bool x.hi.neg) ∧ W3.cell? ⟨w.heap.size, 4, none⟩ = some (.slice x.hi.a x.hi.xs.length x.hi.c) ∧ W3.cell? ⟨w.heap.size, 5, none⟩ = some (.int .i64 x.hi.e) ∧ W3.cell? ⟨w.heap.size, 6, none⟩ = some (.bool x.all)) ∧ W3.cell? ⟨w.heap.size + 1, 0, none⟩ = some (.bool y.lo.neg) ∧ W3.cell? ⟨w.heap.size + 1, 1, none⟩ = some (.slice y.lo.a y.lo.xs.length y.lo.c) ∧ W3.cell? ⟨w.heap.size + 1, 2, none⟩ = some (.int .i64 y.lo.e) ∧ W3.cell? ⟨w.heap.size + 1, 3, none⟩ = some (.bool y.hi.neg) ∧ W3.cell? ⟨w.heap.size + 1, 4, none⟩ = some (.slice y.hi.a y.hi.xs.length y.hi.c) ∧ W3.cell? ⟨w.heap.size + 1, 5, none⟩ = some (.int .i64 y.hi.e) ∧ W3.cell? ⟨w.heap.size + 1, 6, none⟩ = some (.bool y.all) := by rw [← hW3]; exact keep77 ((Kp.refl _).alloc _) (by simp)
  have hV3 : Var7 W3 (w.heap.size + 1 + 1) := hW3 ▸ Var7.new2 _ _ _ _
  have hsz : W3.heap.size = w.heap.size + 1 + 1 + 1 := by rw [← hW3]; simp
  have hR := rowI_twoR W3 x y (hx.kp hk3) (hy.kp hk3) 43
  rw [hsz] at hR
  have hk4 := (Kp.refl W3).alloc (.cells #[.bool x.lo.neg, .slice x.lo.a x.lo.xs.length x.lo.c, .int .i64 x.lo.e, .bool x.hi.neg, .slice x.hi.a x.hi.xs.length x.hi.c, .int .i64 x.hi.e, .bool x.all, .bool y.lo.neg, .slice y.lo.a y.lo.xs.length y.lo.c, .int .i64 y.lo.e, .bool y.hi.neg, .slice y.hi.a y.hi.xs.length y.hi.c, .int .i64 y.hi.e, .bool y.all] 43)
  generalize hW : W3.alloc _ = W at *
  have hS := keep77 hk4 hS3
  have hV := hV3.kp hk4
  have hk := hk3.trans hk4
  clear hW hW3 hS3 hV3 hk3 hk4 hsz
  refine (known_any _ [x, y] 2 _ hR (by simp)).mono ?_
  rintro e w1 ⟨rfl, hk1⟩
  have hS1 := keep77 hk1 hS
  have hV1 := hV.kp hk1
  have hk2 := (hk.trans hk1)
  have hT1 := hT.kp hk2
  have hx1 := hx.kp hk2
  have hy1 := hy.kp hk2
  clear hR hS hV hk hk1
  cases ha : x.all || y.all with
  | true =>
    have hg : [x, y].all goodI = false := by
      simp only [List.all_cons, List.all_nil, Bool.and_true]
      rw [goodI_vl vx, goodI_vl vy]
      cases hxa : x.all <;> cases hya : y.all <;> simp_all
    have HP := Lib.hid (show pAdd x.pl y.pl p = .whole by unfold pAdd; rw [if_pos (by exact ha)])
    rw [hg]
    clear hg ha hS1
    go_wp2_with fail
    refine (Whole_any _).mono ?_
    rintro e w2 ⟨rfl, hk3⟩
    have hk4 := hk2.trans hk3
    obtain ⟨⟨q0, q1, q2, q3, q4, q5, q6⟩, f0, f1, f2, f3, f4, f5, f6⟩ := hV1.kp hk3
    go_wp2_with fail
    generalize hW9 : ((((((w2.setCell _ _).setCell _ _).setCell _ _).setCell _ _).setCell _ _).setCell _ _).setCell _ _ = W9
    obtain ⟨⟨s0, s1, s2, s3, s4, s5, s6⟩, hU⟩ := stored7 (show Box7 w2 _ _ _ _ _ _ _ _ from ⟨q0, q1, q2, q3, q4, q5, q6⟩) (fun _ h => by cases h) (fun _ h => by cases h) (fun _ h => by cases h) (fun _ h => by cases h) (fun _ h => by cases h) (fun _ h => by cases h) (fun _ h => by cases h) _ _ _ _ _ _ _ hW9
    clear hW9 q0 q1 q2 q3 q4 q5 q6 f0 f1 f2 f3 f4 f5 f6
    refine bodyPost_ret (v := .agg #[.bool false, .slice none 0 0, .int .i64 0, .bool false, .slice none 0 0, .int .i64 0, .bool true]) (by simp [results, Tryz.results77, go_sem, s0, s1, s2, s3, s4, s5, s6]) rfl ?_
    rw [HP.out]
    exact ⟨wholeR, rfl, wholeR_rd _, rfl, rfl, hU.2.2.1 _ hk4 (by omega)⟩
  | false =>
    have hax : x.all = false := by cases hxa : x.all <;> simp_all
    have hay : y.all = false := by cases hya : y.all <;> simp_all
    have ox := ok_of hx1 vx hax
    have oy := ok_of hy1 vy hay
    have hg : [x, y].all goodI = true := by simp [(goodI_ok ox.1).2 ox, (goodI_ok oy.1).2 oy]
    have HP := Lib.hid (show pAdd x.pl y.pl p = mkI (adP x.lo.dy y.lo.dy p false) (adP x.hi.dy y.hi.dy p true) by unfold pAdd; rw [if_neg (by show ¬ (x.all || y.all) = true; rw [ha]; decide)]; rfl)
    have E1 := Lib.hid (addB_dy ox.lo oy.lo h0 h1 false)
    have E2 := Lib.hid (addB_dy ox.hi oy.hi h0 h1 true)
    have HOK := Lib.hid (fun a b => rndE_between (K := 0) (S := x.lo.dy.iv + y.lo.dy.iv) (T := x.hi.dy.iv + y.hi.dy.iv) (p := p) (q := p) (by omega) (by omega) (by omega) (by omega) (by
      have u1 := ox.parts.2.2
      have u2 := oy.parts.2.2
      show x.lo.iv + y.lo.iv ≤ x.hi.iv + y.hi.iv
      omega) a b)
    have C1 := fun (W : World) (k : Kp w1 W) => rAddDown_of x.lo y.lo (p : Int) _ _ W (fun W' k' => add_rd x.lo y.lo p false W' ((ox.lo.1.kp k).kp k') ((oy.lo.1.kp k).kp k') ((hT1.kp k).kp k'))
    have C2 := fun (W : World) (k : Kp w1 W) => rAddUp_of x.hi y.hi (p : Int) _ _ W (fun W' k' => add_rd x.hi y.hi p true W' ((ox.hi.1.kp k).kp k') ((oy.hi.1.kp k).kp k') ((hT1.kp k).kp k'))
    rw [E1.out] at C1
    rw [E2.out] at C2
    have K1 := Lib.hid (adP_ok x.lo.dy y.lo.dy h0 h1 false)
    have K2 := Lib.hid (adP_ok x.hi.dy y.hi.dy h0 h1 true)
    obtain ⟨L, hL⟩ : ∃ L, L = adP x.lo.dy y.lo.dy p false := ⟨_, rfl⟩
    obtain ⟨H, hH⟩ : ∃ H, H = adP x.hi.dy y.hi.dy p true := ⟨_, rfl⟩
    have HOK2 := Lib.hid (show L.2 = 0 → H.2 = 0 → L.1.iv ≤ H.1.iv by rw [hL, hH]; exact HOK.out)
    rw [← hL] at C1 HP K1
    rw [← hH] at C2 HP K2
    have D1 := Lib.hid C1
    have D2 := Lib.hid C2
    rw [hg]
    clear hg ha hax hay C1 C2 E1 E2 HOK hL hH
    have Ox := Lib.hid ox
    have Oy := Lib.hid oy
    clear ox oy
    go_wp2_with fail
    go_fit (permitted_any (p : Int) _)
    rintro e w2 ⟨rfl, rfl⟩
    rw [Hp.out]
    obtain ⟨⟨s0, s1, s2, s3, s4, s5, s6⟩, t0, t1, t2, t3, t4, t5, t6⟩ := id hS1
    go_wp2_with fail
    go_fit (D1.out _ (.refl _))
    rintro e w3 ⟨z1, rfl, rz, dz, vz, k3⟩
    have ka := (Kp.refl w3).alloc (.cells #[.bool z1.neg, .slice z1.a z1.xs.length z1.c, .int .i64 z1.e] 28)
    have k3a := k3.trans ka
    have R1 := Lib.hid (rz.kp ka)
    have Z1 := Lib.hid (And.intro dz (vz K1.out))
    have hS2 := keep77 k3a hS1
    have hV2 := hV1.kp k3a
    have hk3 := hk2.trans k3a
    clear rz dz vz hS1 hV1 s0 s1 s2 s3 s4 s5 s6 t0 t1 t2 t3 t4 t5 t6 k3
    obtain ⟨⟨s0, s1, s2, s3, s4, s5, s6⟩, t0, t1, t2, t3, t4, t5, t6⟩ := id hS2
    go_wp2_with fail
    generalize hA3 : w3.alloc _ = A3 at *
    have hZ1 : A3.cell? ⟨w3.heap.size, 0, none⟩ = some (.bool z1.neg) ∧ A3.cell? ⟨w3.heap.size, 1, none⟩ = some (.slice z1.a z1.xs.length z1.c) ∧ A3.cell? ⟨w3.heap.size, 2, none⟩ = some (.int .i64 z1.e) := by rw [← hA3]; simp
    clear hA3 ka
    go_fit (D2.out _ k3a)
    rintro e w4 ⟨z2, rfl, rz, dz, vz, k4⟩
    have ka := (Kp.refl w4).alloc (.cells #[.bool z2.neg, .slice z2.a z2.xs.length z2.c, .int .i64 z2.e] 28)
    have k4a := k4.trans ka
    have R2 := Lib.hid (rz.kp ka)
    have Z2 := Lib.hid (And.intro dz (vz K2.out))
    have hZ1b := keep3 k4a hZ1
    have R1b := Lib.hid (R1.out.kp k4a)
    have hV3 := hV2.kp k4a
    have hk4 := hk3.trans k4a
    clear rz dz vz hS2 hV2 hZ1 R1 s0 s1 s2 s3 s4 s5 s6 t0 t1 t2 t3 t4 t5 t6 k4 D1 D2
    obtain ⟨m0, m1, m2⟩ := hZ1b
    go_wp2_with fail
    generalize hA4 : w4.alloc _ = A4 at *
    obtain ⟨n0, n1, n2⟩ : A4.cell? ⟨w4.heap.size, 0, none⟩ = some (.bool z2.neg) ∧ A4.cell? ⟨w4.heap.size, 1, none⟩ = some (.slice z2.a z2.xs.length z2.c) ∧ A4.cell? ⟨w4.heap.size, 2, none⟩ = some (.int .i64 z2.e) := by rw [← hA4]; simp
    clear hA4 ka
    go_fit (made_any z1 z2 _ _ _)
    rintro e w5 ⟨rfl, k5⟩
    have hk5 := hk4.trans k5
    obtain ⟨⟨q0, q1, q2, q3, q4, q5, q6⟩, f0, f1, f2, f3, f4, f5, f6⟩ := hV3.kp k5
    have R3 := Lib.hid (madeR_rd (e := L.2) (f := H.2) (R1b.out.kp k5) (R2.out.kp k5))
    have Zp := Lib.hid (madeR_pl (l := L) (h := H) Z1.out.1 Z2.out.1)
    have Zv := Lib.hid (madeR_vl (l := L) (h := H) Z1.out.1 Z2.out.1 Z1.out.2 Z2.out.2 HOK2.out)
    clear m0 m1 m2 n0 n1 n2 hV3
    generalize madeR z1 z2 L.2 H.2 = Z at *
    go_wp2_with fail
    generalize hW9 : ((((((w5.setCell _ _).setCell _ _).setCell _ _).setCell _ _).setCell _ _).setCell _ _).setCell _ _ = W9
    obtain ⟨⟨s0, s1, s2, s3, s4, s5, s6⟩, hU⟩ := stored7 (show Box7 w5 _ _ _ _ _ _ _ _ from ⟨q0, q1, q2, q3, q4, q5, q6⟩) (fun _ h => by cases h) (fun _ h => by cases h) (fun _ h => by cases h) (fun _ h => by cases h) (fun _ h => by cases h) (fun _ h => by cases h) (fun _ h => by cases h) _ _ _ _ _ _ _ hW9
    clear hW9 q0 q1 q2 q3 q4 q5 q6 f0 f1 f2 f3 f4 f5 f6
    refine bodyPost_ret (v := .agg #[.bool Z.lo.neg, .slice Z.lo.a Z.lo.xs.length Z.lo.c, .int .i64 Z.lo.e, .bool Z.hi.neg, .slice Z.hi.a Z.hi.xs.length Z.hi.c, .int .i64 Z.hi.e, .bool Z.all]) (by simp [results, Tryz.results77, go_sem, s0, s1, s2, s3, s4, s5, s6]) rfl ?_
    rw [HP.out]
    exact ⟨Z, rfl, hU.rdI R3.out, Zp.out, Zv.out, hU.2.2.1 _ hk5 (by omega)⟩
end Go.Proofs.YtdidocdpjiiedaaGreatDoor
end

section
namespace Go.Proofs.YtdidocdpjiiedaaGreatDoor
open Go.RowKit

set_option maxHeartbeats 1000000 in
theorem r2trim_any (a : Option Addr) (xs : List Nat) (c : Nat) (w : World) (h : Rd w a xs) (hc : xs.length ≤ c) (hm : c ≤ maxLen) (hl : xs.length ≤ 1100000) :
    Calls Tryz.prog 190 #[.slice a xs.length c] w (NatOut w (val xs)) := by
  have hend : ∀ (n : Nat) (W : World), n = (limbs (val xs)).length → Rd W a (limbs (val xs)) → Rd (W.alloc (.cells #[] 88)) a (limbs (val xs)) := fun n W _ hr => hr.kp ((Kp.refl W).alloc _)
  have hm' := hm
  unfold maxLen at hm
  have hll := limbs_len_le h.lt32
  go_enter Tryz.func190, Tryz.ntmps190
  go_wp2
  go_loop [3] (fun x => ∃ n : Nat, n ≤ xs.length ∧ x = .int .i64 n ∧ ∀ i, n ≤ i → i < xs.length → nth xs i = 0) (fun x => (intOf x).toNat)
  case atStart => exact ⟨xs.length, Nat.le_refl _, rfl, fun i h1 h2 => by omega⟩
  case round =>
    obtain ⟨n, hn, rfl, hz⟩ := hrel
    have Hz := Lib.hid hz; clear hz
    by_cases h0 : n = 0
    · have htop := trim_top h.lt32 hn Hz.out (by omega)
      have hlen : (limbs (val xs)).length = n := by rw [← htop, List.length_take, Nat.min_eq_left hn]
      have hr := h.limbs.kp ((Kp.refl w).alloc (.cells #[] 88))
      have Hlen := Lib.hid hlen
      clear htop hlen
      subst h0
      go_wp2_with (at_builtin; refine wpList_append_u32s rfl _ _ rfl w.heap.size _ [] rfl (Own.empty w _ (Nat.le_refl _)) a (limbs (val xs)) c (by rw [Hlen.out]; rfl) hr (by simp; omega) (by simp) ?_; intro a2 c2 w2 hown2 hb2)
      go_ret
      obtain ⟨h5, h6, h7, h8⟩ := hown2.rd
      rw [List.nil_append] at h6 h8
      exact ⟨a2, c2, by simp, h6, h7, h8, ((Kp.refl w).alloc _).below.trans hb2⟩
    · obtain ⟨b, o, rfl, hcell⟩ := h.some (i := n - 1) (by omega)
      have hk := hcell (n - 1) (by omega)
      clear hcell
      by_cases hx : nth xs (n - 1) = 0
      · have hx2 : ((nth xs (n - 1) : Int) == 0) = true := by simp [hx]
        have Hx := Lib.hid hx; clear hx
        go_wp2
        go_round
        case rel =>
          refine ⟨n - 1, by omega, by congr 1; omega, fun i h1 h2 => ?_⟩
          by_cases hi : i = n - 1
          · rw [hi]; exact Hx.out
          · exact Hz.out i (by omega) h2
        case measure => simp [intOf]; omega
      · have hx2 : ((nth xs (n - 1) : Int) == 0) = false := by simp; omega
        have htop := trim_top h.lt32 hn Hz.out (fun _ => hx)
        have hlen : (limbs (val xs)).length = n := by rw [← htop, List.length_take, Nat.min_eq_left hn]
        have hr := h.limbs.kp ((Kp.refl w).alloc (.cells #[] 88))
        have Hlen := Lib.hid hlen
        clear htop hlen
        go_wp2_with (at_builtin; refine wpList_append_u32s rfl _ _ rfl w.heap.size _ [] rfl (Own.empty w _ (Nat.le_refl _)) (some ⟨b, o, none⟩) (limbs (val xs)) c (by rw [Hlen.out]; rfl) hr (by simp; omega) (by simp) ?_; intro a2 c2 w2 hown2 hb2)
        go_ret
        obtain ⟨h5, h6, h7, h8⟩ := hown2.rd
        rw [List.nil_append] at h6 h8
        exact ⟨a2, c2, by simp, h6, h7, h8, ((Kp.refl w).alloc _).below.trans hb2⟩

/-- compare, of limbs as they come -/
def cmpL (xs ys : List Nat) : Int := if xs.length < ys.length then -1 else if ys.length < xs.length then 1 else cmpN (val xs) (val ys)
theorem cmpL_lt {xs ys : List Nat} (h : xs.length < ys.length) : cmpL xs ys = -1 := by unfold cmpL; rw [if_pos h]
theorem cmpL_gt {xs ys : List Nat} (h : ys.length < xs.length) : cmpL xs ys = 1 := by unfold cmpL; rw [if_neg (by omega), if_pos h]
theorem cmpL_eq {xs ys : List Nat} (h : xs.length = ys.length) : cmpL xs ys = cmpN (val xs) (val ys) := by unfold cmpL; rw [if_neg (by omega), if_neg (by omega)]
set_option maxHeartbeats 1000000 in
theorem r2compare_any (a b : Option Addr) (xs ys : List Nat) (c d : Nat) (w : World) (h1 : Rd w a xs) (h2 : Rd w b ys) (hxl : xs.length ≤ 1100000) (_hyl : ys.length ≤ 1100000) :
    Calls Tryz.prog 164 #[.slice a xs.length c, .slice b ys.length d] w fun e w' => e = .returned (.int .i64 (cmpL xs ys)) ∧ Kp w w' := by
  go_enter Tryz.func164, Tryz.ntmps164
  rcases Nat.lt_trichotomy xs.length ys.length with hlen | hlen | hlen
  · have hne : ((xs.length : Int) != ys.length) = true := by simp; omega
    go_wp2_with fail
    go_ret
    exact ⟨ret_int (cmpL_lt hlen).symm, .refl _⟩
  · have hne : ((xs.length : Int) != ys.length) = false := by simp; omega
    have Hlen := Lib.hid hlen
    have hle1 : xs.length ≤ ys.length := by omega
    have hle2 : ys.length ≤ xs.length := by omega
    clear hlen
    go_wp2_with fail
    go_loopw [5] (fun ix wr => ∃ k : Nat, k ≤ xs.length ∧ ix = .int .i64 ((k : Int) - 1) ∧ xs.drop k = ys.drop k ∧ Kp w wr) (fun ix _ => (intOf ix + 1).toNat)
    case atStart => exact ⟨xs.length, Nat.le_refl _, rfl, by rw [List.drop_of_length_le (Nat.le_refl _), List.drop_of_length_le (by omega)], .refl _⟩
    case round =>
      obtain ⟨k, hk, rfl, hdrop, hkp⟩ := hrel
      have Hdrop := Lib.hid hdrop
      clear hdrop
      rcases k with _ | j
      · rw [show (((0 : Nat) : Int) - 1) = -1 from rfl]
        go_wp2_with fail
        go_ret
        have : xs = ys := by have := Hdrop.out; rwa [List.drop_zero, List.drop_zero] at this
        exact ⟨ret_int ((cmpL_eq Hlen.out).trans (cmpN_eq (by rw [this]))).symm, hkp⟩
      · rw [show (((j + 1 : Nat) : Int) - 1) = (j : Int) from by omega]
        obtain ⟨b1, o1, rfl, hcx⟩ := (h1.kp hkp).some (i := j) (by omega)
        have hx1 := hcx j (by omega)
        obtain ⟨b2, o2, rfl, hcy⟩ := (h2.kp hkp).some (i := j) (by omega)
        have hy1 := hcy j (by omega)
        clear hcx hcy
        have bx := h1.lt32.nth j
        have by' := h2.lt32.nth j
        rcases Nat.lt_trichotomy (nth xs j) (nth ys j) with hd1 | hd1 | hd1
        · have Hr := Lib.hid (val_lt_of_top Hlen.out (by omega) h1.lt32 Hdrop.out hd1)
          go_wp2_with fail
          go_quiet (fail)
          go_wp2_with fail
          go_ret
          exact ⟨ret_int ((cmpL_eq Hlen.out).trans (cmpN_lt Hr.out)).symm, by first | exact hkp.drewN _ | exact (hkp.drewN _).drewN _⟩
        · have hd2 : ¬ nth xs j < nth ys j := by omega
          have hd3 : ¬ nth ys j < nth xs j := by omega
          have Hd1 := Lib.hid hd1
          clear hd1
          go_wp2_with fail
          go_quiet (fail)
          go_wp2_with fail
          go_quiet (fail)
          go_wp2_with fail
          go_roundw
          case rel =>
            refine ⟨j, by omega, rfl, ?_, hkp.drewN _⟩
            rw [drop_eq_nth (show j < xs.length by omega), drop_eq_nth (show j < ys.length by omega), Hdrop.out, Hd1.out]
          case measure => simp [intOf]
        · have hd2 : ¬ nth xs j < nth ys j := by omega
          have Hr := Lib.hid (val_lt_of_top (us := ys) (vs := xs) (k := j) Hlen.out.symm (by omega) h2.lt32 Hdrop.out.symm hd1)
          go_wp2_with fail
          go_quiet (fail)
          go_wp2_with fail
          go_quiet (fail)
          go_wp2_with fail
          go_ret
          exact ⟨ret_int ((cmpL_eq Hlen.out).trans (cmpN_gt Hr.out)).symm, by first | exact hkp.drewN _ | exact (hkp.drewN _).drewN _⟩
  · have hne : ((xs.length : Int) != ys.length) = true := by simp; omega
    go_wp2_with fail
    go_ret
    exact ⟨ret_int (cmpL_gt hlen).symm, .refl _⟩
theorem val_inj {xs ys : List Nat} (hx : Lt32 xs) (hy : Lt32 ys) (hl : xs.length = ys.length) (h : val xs = val ys) : xs = ys := by
  induction xs generalizing ys with
  | nil => cases ys with
    | nil => rfl
    | cons y ys => simp at hl
  | cons x xs ih => cases ys with
    | nil => simp at hl
    | cons y ys =>
      rw [val_cons, val_cons] at h
      have h1 := hx x (by simp)
      have h2 := hy y (by simp)
      have e1 : x = y := by omega
      subst e1
      rw [ih (fun z hz => hx z (List.mem_cons_of_mem _ hz)) (fun z hz => hy z (List.mem_cons_of_mem _ hz)) (by simpa using hl) (by omega)]
/-- have two numbers equal fields? -/
def eqR (x y : RD) : Bool := decide (x.neg = y.neg) && (decide (x.e = y.e) && decide (x.xs = y.xs))
end Go.Proofs.YtdidocdpjiiedaaGreatDoor
end

section
namespace Go.Proofs.YtdidocdpjiiedaaGreatDoor
open Go.RowKit

/-- the bit n of a number -/
theorem bit_nth {xs : List Nat} (h : Lt32 xs) (n : Nat) : nth xs (n / 32) / 2 ^ (n % 32) % 2 = val xs / 2 ^ n % 2 := by
  have e : 2 ^ n = 4294967296 ^ (n / 32) * 2 ^ (n % 32) := by rw [pow32, ← Nat.pow_add]; congr 1; omega
  by_cases hl : n / 32 < xs.length
  · have e1 := val_take_drop xs (n / 32) (by omega)
    have e2 : xs.drop (n / 32) = nth xs (n / 32) :: xs.drop (n / 32 + 1) := drop_eq_nth hl
    have e3 : val xs / 4294967296 ^ (n / 32) = val (xs.drop (n / 32)) := by
      have h1 : val (xs.take (n / 32)) < 4294967296 ^ (n / 32) := by
        have := val_lt (h.take (n / 32))
        rwa [List.length_take, Nat.min_eq_left (by omega)] at this
      have hp : 0 < 4294967296 ^ (n / 32) := Nat.pow_pos (by decide)
      rw [e1, Nat.add_mul_div_left _ _ hp, Nat.div_eq_of_lt h1, Nat.zero_add]
    rw [e, ← Nat.div_div_eq_div_mul, e3, e2, val_cons]
    have hr : n % 32 < 32 := Nat.mod_lt _ (by decide)
    obtain ⟨d, hd⟩ : ∃ d, 4294967296 = 2 ^ (n % 32) * (2 * d) := ⟨2 ^ (31 - n % 32), by
      rw [show 2 * 2 ^ (31 - n % 32) = 2 ^ (31 - n % 32 + 1) from by rw [Nat.pow_succ]; omega, ← Nat.pow_add, show n % 32 + (31 - n % 32 + 1) = 32 from by omega]⟩
    have e4 : 4294967296 * val (xs.drop (n / 32 + 1)) = 2 ^ (n % 32) * (2 * (d * val (xs.drop (n / 32 + 1)))) := by
      conv => lhs; rw [hd]
      rw [Nat.mul_assoc, Nat.mul_assoc]
    rw [e4, Nat.add_mul_div_left _ _ (two_pow_pos _)]
    omega
  · rw [nth_ge (by omega), Nat.zero_div]
    have h1 : val xs < 2 ^ n := by
      refine Nat.lt_of_lt_of_le (val_lt h) ?_
      rw [pow32]
      exact Nat.pow_le_pow_right (by decide) (by omega)
    rw [Nat.div_eq_of_lt h1]
theorem tz_least {V n : Nat} (h0 : V ≠ 0) (hz : V % 2 ^ n = 0) : n ≤ tz V ∧ (V / 2 ^ n % 2 = 1 → n = tz V) := by
  obtain ⟨h1, h2⟩ := oddp_spec h0
  have hle : n ≤ tz V := by
    apply Classical.byContradiction; intro hn
    have hd : V = 2 ^ n * (V / 2 ^ n) := by have := Nat.div_add_mod V (2 ^ n); omega
    have e : 2 ^ n = 2 ^ tz V * (2 * 2 ^ (n - tz V - 1)) := by
      rw [show 2 * 2 ^ (n - tz V - 1) = 2 ^ (n - tz V - 1 + 1) from by rw [Nat.pow_succ]; omega, ← Nat.pow_add]; congr 1; omega
    have e2 : oddp V * 2 ^ tz V = 2 * (2 ^ (n - tz V - 1) * (V / 2 ^ n)) * 2 ^ tz V := by
      refine h2.symm.trans (hd.trans ?_)
      generalize V / 2 ^ n = q
      rw [e, Nat.mul_assoc, Nat.mul_comm (2 ^ tz V), Nat.mul_assoc 2]
    have := Nat.eq_of_mul_eq_mul_right (two_pow_pos _) e2
    omega
  refine ⟨hle, fun h => ?_⟩
  apply Classical.byContradiction; intro hn
  have e : V / 2 ^ n = 2 * (oddp V * 2 ^ (tz V - n - 1)) := by
    conv => lhs; rw [h2]
    rw [show 2 ^ tz V = 2 * 2 ^ (tz V - n - 1) * 2 ^ n from by rw [show 2 * 2 ^ (tz V - n - 1) = 2 ^ (tz V - n - 1 + 1) from by rw [Nat.pow_succ]; omega, ← Nat.pow_add]; congr 1; omega]
    rw [← Nat.mul_assoc, Nat.mul_div_cancel _ (two_pow_pos n), Nat.mul_left_comm]
  omega
theorem bit32 {x r : Nat} (hx : x < 4294967296) : Go.bits BinOp.and IntKind.u32 ((x : Int) / 2 ^ r) 1 = ((x / 2 ^ r % 2 : Nat) : Int) := by
  have e : ((x : Int) / 2 ^ r) = ((x / 2 ^ r : Nat) : Int) := by rw [Int.natCast_ediv, Int.natCast_pow]; rfl
  rw [e]
  have h1 := Nat.div_le_self x (2 ^ r)
  have h := Go.Proofs.bits_and_u32_nat (x / 2 ^ r) 1 (by omega) (by omega)
  rw [Nat.and_one_is_mod] at h
  exact h
theorem bits_of_nz {V : Nat} (h0 : V ≠ 0) : tz V < bits V := by
  have := bits_oddp h0
  have := bits_pos (oddp_ne_zero h0)
  omega
set_option maxRecDepth 100000 in
set_option maxHeartbeats 4000000 in
theorem r2zeros_any (a : Option Addr) (xs : List Nat) (c : Nat) (w : World) (h : Rd w a xs) (hl : xs.length ≤ 1100000) (h0 : val xs ≠ 0) :
    Calls Tryz.prog 191 #[.slice a xs.length c] w fun e w' => e = .returned (.int .i64 (tz (val xs))) ∧ w = w' := by
  have hbv := bits_val_le h.lt32
  have htz := bits_of_nz h0
  have H0 := Lib.hid h0
  clear h0
  go_enter Tryz.func191, Tryz.ntmps191
  go_wp2
  go_loop [3] (fun x => ∃ n : Nat, n ≤ tz (val xs) ∧ x = .int .i64 n ∧ val xs % 2 ^ n = 0) (fun x => tz (val xs) + 1 - (intOf x).toNat)
  case atStart => exact ⟨0, Nat.zero_le _, rfl, by simp [Nat.mod_one]⟩
  case round =>
    obtain ⟨n, hn, rfl, hz⟩ := hrel
    have Hz := Lib.hid hz; clear hz
    have hq : n / 32 < xs.length := by omega
    obtain ⟨b, o, rfl, hcell⟩ := h.some hq
    have hk := hcell (n / 32) hq
    have Hb := Lib.hid (bit_nth h.lt32 n)
    have hnb := h.lt32.nth (n / 32)
    have hi1 : (0 : Int) ≤ ((n / 32 : Nat) : Int) := by omega
    have hi2 : ((n / 32 : Nat) : Int) < (xs.length : Int) := by omega
    clear hcell
    have h32 := bit32 (r := n % 32) hnb
    have hle := (tz_least H0.out Hz.out)
    by_cases hbit : val xs / 2 ^ n % 2 = 1
    · have ht : (Go.bits BinOp.and IntKind.u32 ((nth xs (n / 32) : Int) / 2 ^ (n % 32)) 1 == 0) = false := beq_eq_false_iff_ne.2 (by rw [h32, Hb.out, hbit]; decide)
      have Hn := Lib.hid (hle.2 hbit)
      clear h32 hle hbit
      go_wp2_with fail
      go_ret
      exact ⟨by rw [← Hn.out]; rfl, rfl⟩
    · have ht : (Go.bits BinOp.and IntKind.u32 ((nth xs (n / 32) : Int) / 2 ^ (n % 32)) 1 == 0) = true := beq_iff_eq.2 (by rw [h32, Hb.out]; omega)
      have hz2 : val xs % 2 ^ (n + 1) = 0 := by
        rw [Nat.add_comm, mod_pow_add]
        exact ⟨Hz.out, by rw [Nat.pow_one]; omega⟩
      have Hz2 := Lib.hid hz2
      have Hle2 := Lib.hid (tz_least H0.out hz2).1
      clear h32 hle hbit hz2
      go_wp2_with fail
      go_round
      case rel => exact ⟨n + 1, Hle2.out, by go_num, Hz2.out⟩
      case measure => simp [intOf]; omega
end Go.Proofs.YtdidocdpjiiedaaGreatDoor
end

section
namespace Go.Proofs.YtdidocdpjiiedaaGreatDoor
open Go.RowKit

theorem right_step {zs vs : List Nat} {k r z t : Nat} (hk : zs.length = k) (h : val zs * 2 ^ r + t = val (vs.take k) + 4294967296 ^ k * (nth vs k % 2 ^ r))
    (hz : z * 2 ^ r + nth vs k % 2 ^ r = nth vs k + 4294967296 * (nth vs (k + 1) % 2 ^ r)) :
    val (zs ++ [z]) * 2 ^ r + t = val (vs.take (k + 1)) + 4294967296 ^ (k + 1) * (nth vs (k + 1) % 2 ^ r) := by
  rw [val_snoc, hk, val_take_step vs, Nat.pow_succ, Nat.mul_assoc, Nat.add_mul, Nat.mul_assoc]
  generalize 4294967296 ^ k = P at *
  have e : P * (z * 2 ^ r + nth vs k % 2 ^ r) = P * (z * 2 ^ r) + P * (nth vs k % 2 ^ r) := Nat.mul_add _ _ _
  rw [hz, Nat.mul_add] at e
  omega
theorem and_low {s : Nat} (hs : s < 18446744073709551616) : Go.bits BinOp.and IntKind.u64 (s : Int) 4294967295 = ((s % 4294967296 : Nat) : Int) := by
  have h := bits_and_u64_nat s 4294967295 hs (by omega)
  rw [show s &&& 4294967295 = s % 4294967296 from Nat.and_two_pow_sub_one_eq_mod s 32] at h
  exact h
theorem cell_low {x y r : Nat} (hx : x < 4294967296) (hy : y < 4294967296) : (Go.bits BinOp.and IntKind.u64 (((x : Int) + 4294967296 * y) / 2 ^ r) 4294967295) % 4294967296 = (((x + 4294967296 * y) / 2 ^ r % 4294967296 : Nat) : Int) := by
  have e : (((x : Int) + 4294967296 * y) / 2 ^ r) = (((x + 4294967296 * y) / 2 ^ r : Nat) : Int) := by
    rw [Int.natCast_ediv, Int.natCast_add, Int.natCast_mul, Int.natCast_pow]; rfl
  have h1 := Nat.div_le_self (x + 4294967296 * y) (2 ^ r)
  rw [e, and_low (by omega)]
  omega
theorem cell_low0 {x r : Nat} (hx : x < 4294967296) : (Go.bits BinOp.and IntKind.u64 ((x : Int) / 2 ^ r) 4294967295) % 4294967296 = ((x / 2 ^ r % 4294967296 : Nat) : Int) := by
  have := @cell_low x 0 r hx (by decide)
  simpa using this
set_option maxHeartbeats 2000000 in
set_option maxRecDepth 100000 in
theorem r2right_any (a : Option Addr) (xs : List Nat) (c n : Nat) (w : World) (h1 : Rd w a xs) (hxc : xs.length ≤ c) (hc : c ≤ maxLen) (hxl : xs.length ≤ 1100000) (hn : n ≤ 40000000) :
    Calls Tryz.prog 192 #[.slice a xs.length c, .int .i64 n] w (NatOut w (val xs / 2 ^ n)) := by
  have hc' := hc
  by_cases hq : xs.length ≤ n / 32
  · have hq2 : (xs.length : Int) ≤ (n : Int) / 32 := by omega
    have h2 := val_lt h1.lt32
    rw [pow32] at h2
    have hz : val xs / 2 ^ n = 0 := Nat.div_eq_of_lt (Nat.lt_of_lt_of_le h2 (Nat.pow_le_pow_right (by decide) (by omega)))
    rw [hz]
    clear hz h2
    go_enter Tryz.func192, Tryz.ntmps192
    go_wp2_with fail
    go_ret
    exact ⟨none, 0, by rw [limbs_zero]; rfl, by rw [limbs_zero]; exact Nat.le_refl _, by unfold maxLen; omega, by rw [limbs_zero]; exact .nil _ _, .refl _⟩
  · have hq2 : ¬ (xs.length : Int) ≤ (n : Int) / 32 := by omega
    obtain ⟨b1, o1, rfl, _⟩ := h1.some (i := 0) (by omega)
    have h2 := h1.drop (n / 32)
    have hq3 : (n : Int) / 32 < xs.length := by omega
    have hvl : (xs.drop (n / 32)).length = xs.length - n / 32 := List.length_drop
    have hval : val (xs.drop (n / 32)) = val xs / 4294967296 ^ (n / 32) := by
      have e := val_take_drop xs (n / 32) (by omega)
      have b := val_lt (h1.lt32.take (n / 32))
      rw [List.length_take, Nat.min_eq_left (by omega)] at b
      rw [e, Nat.add_mul_div_left _ _ (Nat.pow_pos (by decide)), Nat.div_eq_of_lt b, Nat.zero_add]
    have hfin : val xs / 2 ^ n = val (xs.drop (n / 32)) / 2 ^ (n % 32) := by rw [hval, Nat.div_div_eq_div_mul, pow_split]
    rw [hfin]
    clear hval hfin
    generalize xs.drop (n / 32) = vs at *
    have hr : n % 32 < 32 := Nat.mod_lt _ (by decide)
    have Hvl := Lib.hid hvl
    have hvl2 : xs.length - n / 32 ≤ vs.length := by omega
    clear hvl
    go_enter Tryz.func192, Tryz.ntmps192
    go_wp2_with fail
    go_loopw [5, 6] (fun v ix wr => ∃ (k : Nat) (zs : List Nat), k ≤ xs.length - n / 32 ∧ ix = .int .i64 k ∧ zs.length = k ∧ Own wr w.heap.size v zs ∧
      val zs * 2 ^ (n % 32) + nth vs 0 % 2 ^ (n % 32) = val (vs.take k) + 4294967296 ^ k * (nth vs k % 2 ^ (n % 32)) ∧ Kp w wr) (fun _ ix _ => (xs.length - n / 32) - (intOf ix).toNat)
    case atStart => exact ⟨0, [], Nat.zero_le _, rfl, rfl, Own.nil _ _, by simp [val], .refl _⟩
    case round =>
      obtain ⟨k, zs, hk, rfl, hzl, hown, hvz, hkp⟩ := hrel
      have Hvz := Lib.hid hvz
      have Hzl := Lib.hid hzl
      have hzl2 : zs.length + 1 ≤ 9000000 := by omega
      clear hvz hzl
      by_cases hlt : k < xs.length - n / 32
      · obtain ⟨b2, o2, e2, hcx⟩ := (h2.kp hkp).some (i := k) (by omega)
        cases e2
        have hx1 := hcx k (by omega)
        have bx := h2.lt32.nth k
        have bx2 := h2.lt32.nth (k + 1)
        have Hst := Lib.hid (fun z => right_step (z := z) Hzl.out Hvz.out)
        have Hl := Lib.hid (shr_limb (y := nth vs (k + 1)) bx hr)
        by_cases hlt2 : k + 1 < xs.length - n / 32
        · have hx2 := hcx (k + 1) (by omega)
          have hor := shr_or bx bx2
          clear hcx
          have hcl := Lib.hid (cell_low (r := n % 32) bx bx2)
          go_wp2_with (at_builtin; refine wpList_append_u32 rfl _ _ rfl w.heap.size _ _ rfl (hown.alloc _) _ _ rfl (World.cell?_alloc_new _ _ _ _) ((nth vs k + 4294967296 * nth vs (k + 1)) / 2 ^ (n % 32) % 4294967296) hcl.out (Nat.mod_lt _ (by decide)) hzl2 (by have := hkp.size; simp; omega) ?_; intro a2 c2 w2 hown2 hb2)
          go_roundw
          case rel => exact ⟨k + 1, _, by omega, by go_num, by simp [Hzl.out], hown2, Hst.out _ Hl.out, (hkp.alloc _).below.trans hb2⟩
          case measure => simp [intOf]; omega
        · have h0 : nth vs (k + 1) = 0 := nth_ge (by rw [Hvl.out]; omega)
          have H0 := Lib.hid h0
          have hcl := Lib.hid (cell_low0 (r := n % 32) bx)
          have hltt : ¬ ((k : Int) + 1 < ((xs.length - n / 32 : Nat) : Int)) := by omega
          clear hcx h0
          go_wp2_with (at_builtin; refine wpList_append_u32 rfl _ _ rfl w.heap.size _ _ rfl (hown.alloc _) _ _ rfl (World.cell?_alloc_new _ _ _ _) (nth vs k / 2 ^ (n % 32) % 4294967296) hcl.out (Nat.mod_lt _ (by decide)) hzl2 (by have := hkp.size; simp; omega) ?_; intro a2 c2 w2 hown2 hb2)
          go_roundw
          case rel =>
            have h3 := Hl.out
            rw [H0.out, Nat.mul_zero, Nat.add_zero] at h3
            exact ⟨k + 1, _, by omega, by go_num, by simp [Hzl.out], hown2, Hst.out _ (by rw [H0.out]; exact h3), (hkp.alloc _).below.trans hb2⟩
          case measure => simp [intOf]; omega
      · have hke : k = xs.length - n / 32 := by omega
        have e2 := Hvz.out
        have h0 : nth vs k = 0 := nth_ge (by rw [Hvl.out, hke]; omega)
        rw [h0, Nat.zero_mod, Nat.mul_zero, Nat.add_zero, hke, List.take_of_length_le (by rw [Hvl.out]; omega)] at e2
        have hlt3 := Nat.mod_lt (nth vs 0) (two_pow_pos (n % 32))
        have e3 : val zs = val vs / 2 ^ (n % 32) := by
          rw [← e2, Nat.mul_comm, Nat.mul_add_div (two_pow_pos _), Nat.div_eq_of_lt hlt3, Nat.add_zero]
        obtain ⟨a5, c5, e5, l5, m5, r5⟩ := hown.value
        subst e5
        have E3 := Lib.hid e3
        have hT := Lib.hid (r2trim_any a5 zs c5 wr r5 l5 m5 (by have := Hzl.out; omega))
        have hkk := Lib.hid hkp
        clear e2 e3 h0 hlt3 hkp hown
        go_wp2_with fail
        refine hT.out.mono ?_
        rintro e w7 ⟨a6, c6, rfl, l6, m6, r6, k6⟩
        go_wp2_with fail
        go_ret
        rw [← E3.out]
        exact ⟨a6, c6, rfl, l6, m6, r6, hkk.out.trans k6⟩
end Go.Proofs.YtdidocdpjiiedaaGreatDoor
end

section
namespace Go.Proofs.YtdidocdpjiiedaaGreatDoor
open Go.RowKit

theorem and_lowI {x : Int} {s : Nat} (h : x = s) (hs : s < 18446744073709551616) : Go.bits BinOp.and IntKind.u64 x 4294967295 % 4294967296 = ((s % 4294967296 : Nat) : Int) := by
  subst h
  rw [and_low hs]
  omega
theorem plus_step {zs xs ys : List Nat} {k c z c' : Nat} (hk : zs.length = k) (h : val zs + 4294967296 ^ k * c = val (xs.take k) + val (ys.take k)) (hz : z + 4294967296 * c' = c + nth xs k + nth ys k) :
    val (zs ++ [z]) + 4294967296 ^ (k + 1) * c' = val (xs.take (k + 1)) + val (ys.take (k + 1)) := by
  rw [val_snoc, hk, val_take_step xs, val_take_step ys, Nat.pow_succ, Nat.mul_assoc]
  generalize 4294967296 ^ k = P at *
  have e : P * (z + 4294967296 * c') = P * (c + nth xs k + nth ys k) := by rw [hz]
  rw [Nat.mul_add, Nat.mul_add, Nat.mul_add] at e
  omega
set_option maxHeartbeats 2000000 in
set_option maxRecDepth 100000 in
theorem r2plus_any (a b : Option Addr) (xs ys : List Nat) (c d : Nat) (w : World) (h1 : Rd w a xs) (h2 : Rd w b ys) (hxl : xs.length ≤ 1000000) (hyl : ys.length ≤ 1000000) :
    Calls Tryz.prog 163 #[.slice a xs.length c, .slice b ys.length d] w (NatOut w (val xs + val ys)) := by
  go_enter Tryz.func163, Tryz.ntmps163
  go_wp2_with fail
  go_loopw [5, 6, 7] (fun v cy ix wr => ∃ (k q : Nat) (zs : List Nat), (k ≤ xs.length ∨ k ≤ ys.length) ∧ q ≤ 1 ∧ cy = .int .u64 q ∧ ix = .int .i64 k ∧ zs.length = k ∧ Own wr w.heap.size v zs ∧
      val zs + 4294967296 ^ k * q = val (xs.take k) + val (ys.take k) ∧ Kp w wr) (fun _ _ ix _ => (xs.length + ys.length) - (intOf ix).toNat)
  case atStart => exact ⟨0, 0, [], .inl (Nat.zero_le _), by decide, rfl, rfl, rfl, Own.nil _ _, by simp [val], .refl _⟩
  case round =>
    obtain ⟨k, q, zs, hk, hq, rfl, rfl, hzl, hown, hvz, hkp⟩ := hrel
    have Hvz := Lib.hid hvz
    have Hzl := Lib.hid hzl
    have hzl2 : zs.length + 1 ≤ 9000000 := by omega
    clear hvz
    by_cases hlx : k < xs.length
    · obtain ⟨b1, o1, rfl, hcx⟩ := (h1.kp hkp).some (i := k) (by omega)
      have hx1 := hcx k (by omega)
      have bx := h1.lt32.nth k
      clear hcx
      by_cases hly : k < ys.length
      · obtain ⟨b2, o2, rfl, hcy⟩ := (h2.kp hkp).some (i := k) (by omega)
        have hy1 := hcy k (by omega)
        have by' := h2.lt32.nth k
        clear hcy hzl
        have Hst := Lib.hid (fun z c' => plus_step (z := z) (c' := c') Hzl.out Hvz.out)
        have hcl := Lib.hid (and_lowI (x := (q : Int) + nth xs k + nth ys k) (s := q + nth xs k + nth ys k) (by omega) (by omega))
        go_wp2_with (at_builtin; refine wpList_append_u32 rfl _ _ rfl w.heap.size _ _ rfl (hown.alloc _) _ _ rfl (World.cell?_alloc_new _ _ _ _) ((q + nth xs k + nth ys k) % 4294967296) hcl.out (Nat.mod_lt _ (by decide)) hzl2 (by have := hkp.size; simp; omega) ?_; intro a2 c2 w2 hown2 hb2)
        go_roundw
        case rel => exact ⟨k + 1, (q + nth xs k + nth ys k) / 4294967296, _, by omega, by omega, by go_num, by go_num, by simp [Hzl.out], hown2, Hst.out _ _ (by omega), (hkp.alloc _).below.trans hb2⟩
        case measure => simp [intOf]; omega
      · have H0 := Lib.hid (nth_ge (xs := ys) (i := k) (by omega))
        clear hzl
        have Hst := Lib.hid (fun z c' => plus_step (z := z) (c' := c') Hzl.out Hvz.out)
        have hcl := Lib.hid (and_lowI (x := (q : Int) + nth xs k) (s := q + nth xs k) (by omega) (by omega))
        go_wp2_with (at_builtin; refine wpList_append_u32 rfl _ _ rfl w.heap.size _ _ rfl (hown.alloc _) _ _ rfl (World.cell?_alloc_new _ _ _ _) ((q + nth xs k) % 4294967296) hcl.out (Nat.mod_lt _ (by decide)) hzl2 (by have := hkp.size; simp; omega) ?_; intro a2 c2 w2 hown2 hb2)
        go_roundw
        case rel => exact ⟨k + 1, (q + nth xs k) / 4294967296, _, by omega, by omega, by go_num, by go_num, by simp [Hzl.out], hown2, Hst.out _ _ (by rw [H0.out]; omega), (hkp.alloc _).below.trans hb2⟩
        case measure => simp [intOf]; omega
    · have hX0 : nth xs k = 0 := nth_ge (by omega)
      by_cases hly : k < ys.length
      · obtain ⟨b2, o2, rfl, hcy⟩ := (h2.kp hkp).some (i := k) (by omega)
        have hy1 := hcy k (by omega)
        have by' := h2.lt32.nth k
        have H0 := Lib.hid hX0
        clear hcy hzl hX0
        have Hst := Lib.hid (fun z c' => plus_step (z := z) (c' := c') Hzl.out Hvz.out)
        have hcl := Lib.hid (and_lowI (x := (q : Int) + nth ys k) (s := q + nth ys k) (by omega) (by omega))
        go_wp2_with (at_builtin; refine wpList_append_u32 rfl _ _ rfl w.heap.size _ _ rfl (hown.alloc _) _ _ rfl (World.cell?_alloc_new _ _ _ _) ((q + nth ys k) % 4294967296) hcl.out (Nat.mod_lt _ (by decide)) hzl2 (by have := hkp.size; simp; omega) ?_; intro a2 c2 w2 hown2 hb2)
        go_roundw
        case rel => exact ⟨k + 1, (q + nth ys k) / 4294967296, _, by omega, by omega, by go_num, by go_num, by simp [Hzl.out], hown2, Hst.out _ _ (by rw [H0.out]; omega), (hkp.alloc _).below.trans hb2⟩
        case measure => simp [intOf]; omega
      · have e3 := Lib.hid (show val (zs ++ [q]) = val xs + val ys by
          have e := Hvz.out
          rw [List.take_of_length_le (by omega), List.take_of_length_le (by omega)] at e
          rw [val_snoc, hzl]; exact e)
        have hqq : (q : Int) % 4294967296 = (q : Int) := by omega
        clear hzl hX0
        have hkk := Lib.hid hkp
        go_wp2_with (at_builtin; refine wpList_append_u32 rfl _ _ rfl w.heap.size _ _ rfl (hown.alloc _) _ _ rfl (World.cell?_alloc_new _ _ _ _) q rfl (by omega) hzl2 (by have := hkp.size; simp; omega) ?_; intro a2 c2 w2 hown2 hb2)
        obtain ⟨l5, m5, r5, r6⟩ := hown2.rd
        have hT := r2trim_any a2 (zs ++ [q]) c2 w2 r6 m5 r5 (by rw [List.length_append, List.length_singleton]; have := Hzl.out; omega)
        rw [List.length_append, List.length_singleton] at hT
        have HT := Lib.hid hT
        have hkw := Lib.hid (show Kp w w2 from (hkk.out.alloc _).below.trans hb2)
        clear hown2 r6 hT hb2 hown hkp hqq l5 m5 r5
        refine HT.out.mono ?_
        rintro e w7 ⟨a6, c6, rfl, l6, m6, r6, k6⟩
        go_wp2_with fail
        go_ret
        rw [← e3.out]
        exact ⟨a6, c6, rfl, l6, m6, r6, hkw.out.trans k6⟩
theorem minus_step {zs xs ys : List Nat} {k c z c' : Nat} (hk : zs.length = k) (h : val zs + val (ys.take k) = val (xs.take k) + 4294967296 ^ k * c) (hz : z + (c + nth ys k) = nth xs k + 4294967296 * c') :
    val (zs ++ [z]) + val (ys.take (k + 1)) = val (xs.take (k + 1)) + 4294967296 ^ (k + 1) * c' := by
  rw [val_snoc, hk, val_take_step xs, val_take_step ys, Nat.pow_succ, Nat.mul_assoc]
  generalize 4294967296 ^ k = P at *
  have e : P * (z + (c + nth ys k)) = P * (nth xs k + 4294967296 * c') := by rw [hz]
  rw [Nat.mul_add, Nat.mul_add, Nat.mul_add] at e
  omega
set_option maxHeartbeats 2000000 in
set_option maxRecDepth 100000 in
theorem r2minus_any (a b : Option Addr) (xs ys : List Nat) (c d : Nat) (w : World) (h1 : Rd w a xs) (h2 : Rd w b ys) (hxl : xs.length ≤ 1000000) (hyl : ys.length ≤ xs.length) (hle : val ys ≤ val xs) :
    Calls Tryz.prog 165 #[.slice a xs.length c, .slice b ys.length d] w (NatOut w (val xs - val ys)) := by
  have Hle := Lib.hid hle
  clear hle
  go_enter Tryz.func165, Tryz.ntmps165
  go_wp2_with fail
  go_loopw [5, 6, 7] (fun v cy ix wr => ∃ (k q : Nat) (zs : List Nat), k ≤ xs.length ∧ q ≤ 1 ∧ cy = .int .u64 q ∧ ix = .int .i64 k ∧ zs.length = k ∧ Own wr w.heap.size v zs ∧
      val zs + val (ys.take k) = val (xs.take k) + 4294967296 ^ k * q ∧ Kp w wr) (fun _ _ ix _ => xs.length - (intOf ix).toNat)
  case atStart => exact ⟨0, 0, [], Nat.zero_le _, by decide, rfl, rfl, rfl, Own.nil _ _, by simp [val], .refl _⟩
  case round =>
    obtain ⟨k, q, zs, hk, hq, rfl, rfl, hzl, hown, hvz, hkp⟩ := hrel
    have Hvz := Lib.hid hvz
    have Hzl := Lib.hid hzl
    have hzl2 : zs.length + 1 ≤ 9000000 := by omega
    clear hvz
    by_cases hlx : k < xs.length
    · obtain ⟨b1, o1, rfl, hcx⟩ := (h1.kp hkp).some (i := k) (by omega)
      have hx1 := hcx k (by omega)
      have bx := h1.lt32.nth k
      clear hcx hzl
      have Hst := Lib.hid (fun z c' => minus_step (z := z) (c' := c') Hzl.out Hvz.out)
      by_cases hly : k < ys.length
      · obtain ⟨b2, o2, rfl, hcy⟩ := (h2.kp hkp).some (i := k) (by omega)
        have hy1 := hcy k (by omega)
        have by' := h2.lt32.nth k
        clear hcy
        have hcl := Lib.hid (and_lowI (x := (nth xs k : Int) + 4294967296 - ((q : Int) + nth ys k)) (s := nth xs k + 4294967296 - (q + nth ys k)) (by omega) (by omega))
        go_wp2_with (at_builtin; refine wpList_append_u32 rfl _ _ rfl w.heap.size _ _ rfl (hown.alloc _) _ _ rfl (World.cell?_alloc_new _ _ _ _) ((nth xs k + 4294967296 - (q + nth ys k)) % 4294967296) hcl.out (Nat.mod_lt _ (by decide)) hzl2 (by have := hkp.size; simp; omega) ?_; intro a2 c2 w2 hown2 hb2)
        go_roundw
        case rel => exact ⟨k + 1, 1 - (nth xs k + 4294967296 - (q + nth ys k)) / 4294967296, _, by omega, by omega, by congr 1; omega, by go_num, by simp [Hzl.out], hown2, Hst.out _ _ (by omega), (hkp.alloc _).below.trans hb2⟩
        case measure => simp [intOf]; omega
      · have H0 := Lib.hid (nth_ge (xs := ys) (i := k) (by omega))
        have hcl := Lib.hid (and_lowI (x := (nth xs k : Int) + 4294967296 - (q : Int)) (s := nth xs k + 4294967296 - q) (by omega) (by omega))
        go_wp2_with (at_builtin; refine wpList_append_u32 rfl _ _ rfl w.heap.size _ _ rfl (hown.alloc _) _ _ rfl (World.cell?_alloc_new _ _ _ _) ((nth xs k + 4294967296 - q) % 4294967296) hcl.out (Nat.mod_lt _ (by decide)) hzl2 (by have := hkp.size; simp; omega) ?_; intro a2 c2 w2 hown2 hb2)
        go_roundw
        case rel => exact ⟨k + 1, 1 - (nth xs k + 4294967296 - q) / 4294967296, _, by omega, by omega, by congr 1; omega, by go_num, by simp [Hzl.out], hown2, Hst.out _ _ (by rw [H0.out]; omega), (hkp.alloc _).below.trans hb2⟩
        case measure => simp [intOf]; omega
    · obtain ⟨a5, c5, e5, l5, m5, r5⟩ := hown.value
      subst e5
      have e3 := Lib.hid (show val zs = val xs - val ys by
        have e := Hvz.out
        have hl := Hle.out
        have hb := val_lt r5.lt32
        rw [hzl] at hb
        rw [List.take_of_length_le (by omega), List.take_of_length_le (by omega)] at e
        generalize 4294967296 ^ k = P at *
        have hq2 : q = 0 ∨ q = 1 := by omega
        rcases hq2 with rfl | rfl <;> omega)
      have hT := Lib.hid (r2trim_any a5 zs c5 wr r5 l5 m5 (by omega))
      have hkk := Lib.hid hkp
      clear hkp hown hzl
      go_wp2_with fail
      refine hT.out.mono ?_
      rintro e w7 ⟨a6, c6, rfl, l6, m6, r6, k6⟩
      go_wp2_with fail
      go_ret
      rw [← e3.out]
      exact ⟨a6, c6, rfl, l6, m6, r6, hkk.out.trans k6⟩
end Go.Proofs.YtdidocdpjiiedaaGreatDoor
end

section
namespace Go.Proofs.YtdidocdpjiiedaaGreatDoor
open Go.RowKit

theorem limbs_top_ne {n : Nat} (h : n ≠ 0) : nth (limbs n) ((limbs n).length - 1) ≠ 0 := by
  have hl : 0 < (limbs n).length := by
    rw [List.length_pos_iff, Ne, limbs_eq_nil]; exact h
  have ht := limbs_top n
  unfold Top at ht
  rw [List.getLast?_eq_getElem?, List.getElem?_eq_getElem (by omega)] at ht
  rw [nth_eq (by omega)]
  exact fun e => ht (congrArg some e)
theorem bits_top {n : Nat} (h : n ≠ 0) : bits n = 32 * ((limbs n).length - 1) + bits (nth (limbs n) ((limbs n).length - 1)) ∧ nth (limbs n) ((limbs n).length - 1) ≠ 0 := by
  have hl : 0 < (limbs n).length := by
    rw [List.length_pos_iff, Ne, limbs_eq_nil]; exact h
  have ht : nth (limbs n) ((limbs n).length - 1) ≠ 0 := limbs_top_ne h
  have h32 := limbs_lt32 n
  have hv := val_limbs n
  generalize limbs n = xs at *
  have e : xs = xs.take (xs.length - 1) ++ [nth xs (xs.length - 1)] := by
    rw [nth_eq (by omega), ← List.take_succ_eq_append_getElem (by omega), List.take_of_length_le (by omega)]
  have hb := bits_val_snoc (h32.take (xs.length - 1)) ht
  rw [← e, hv, List.length_take, Nat.min_eq_left (by omega)] at hb
  exact ⟨hb, ht⟩
set_option maxHeartbeats 1000000 in
theorem r2bits_any (a : Option Addr) (n : Nat) (c : Nat) (w : World) (h : Rd w a (limbs n)) (hl : (limbs n).length ≤ 1100000) :
    Calls Tryz.prog 166 #[.slice a (limbs n).length c] w fun e w' => e = .returned (.int .i64 (bits n)) ∧ w = w' := by
  by_cases h0 : n = 0
  · have hz := len_is0 h0
    have hb := Lib.hid (show bits n = 0 by rw [h0, bits_zero])
    clear h0
    go_enter Tryz.func166, Tryz.ntmps166
    go_wp2_with fail
    go_ret
    rw [hb.out]
    exact ⟨rfl, rfl⟩
  · have hz := len_ne h0
    obtain ⟨hb, ht⟩ := bits_top h0
    have hpos : 0 < (limbs n).length := by
      rw [List.length_pos_iff, Ne, limbs_eq_nil]; exact h0
    have hnt := (limbs_lt32 n).nth ((limbs n).length - 1)
    have hbt : bits (nth (limbs n) ((limbs n).length - 1)) ≤ 32 := bits_le.2 hnt
    obtain ⟨b, o, rfl, hcell⟩ := h.some hpos
    have hx := hcell ((limbs n).length - 1) (by omega)
    have Hb := Lib.hid hb
    clear hcell h hb h0
    generalize (limbs n).length = L at *
    generalize nth (limbs n) (L - 1) = t at *
    have hi1 : (0 : Int) ≤ ((L - 1 : Nat) : Int) := by omega
    have hi2 : ((L - 1 : Nat) : Int) < (L : Int) := by omega
    have hL1 : (L : Int) - 1 = ((L - 1 : Nat) : Int) := by omega
    go_enter Tryz.func166, Tryz.ntmps166
    go_wp2_with fail
    go_loop [3, 4] (fun v x => ∃ (y j : Nat), x = .int .u32 y ∧ v = .int .i64 ((32 * (L - 1) + j : Nat) : Int) ∧ j + bits y = bits t ∧ y < 4294967296) (fun _ x => (intOf x).toNat)
    case atStart => exact ⟨t, 0, rfl, by congr 1 <;> omega, by omega, hnt⟩
    case round =>
      obtain ⟨y, j, rfl, rfl, hj, hy⟩ := hrel
      by_cases hy0 : y = 0
      · subst hy0
        rw [bits_zero] at hj
        have HB := Lib.hid (show bits n = 32 * (L - 1) + j by rw [Hb.out]; omega)
        go_wp2_with fail
        go_ret
        rw [HB.out]
        exact ⟨rfl, rfl⟩
      · have h2 := bits_half hy0
        have h3 : 0 < y := by omega
        go_wp2_with fail
        go_round
        case rel => exact ⟨y / 2, j + 1, by go_num, by congr 1 <;> omega, by omega, by omega⟩
        case measure => simp [intOf]; omega
end Go.Proofs.YtdidocdpjiiedaaGreatDoor
end
