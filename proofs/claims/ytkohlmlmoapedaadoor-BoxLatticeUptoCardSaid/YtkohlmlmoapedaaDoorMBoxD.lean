/-
  Walks: interval.Has, Point, Whole; box.point, Has, Points.
  Walks: box.Points, Meet.
-/
import Derived.Test.YtkohlmlmoapedaaDoorMBoxB
import Derived.Test.YtkohlmlmoapedaaDoorMIdxD
import Derived.Test.YtkohlmlmoapedaaDoorMEqfM
import Derived.Test.YtkohlmlmoapedaaDoorMRoC
section
namespace Go.Proofs.YtkohlmlmoapedaaDoor
open Go.RowKit

/-- is a point valid? -/
def vlP (ys : List RD) : Bool := decide (1 ≤ ys.length) && (decide (ys.length ≤ 8) && ys.all RD.vl)
theorem vlP_iff {ys : List RD} : vlP ys = true ↔ 1 ≤ ys.length ∧ ys.length ≤ 8 ∧ ys.all RD.vl = true := by
  unfold vlP; simp
theorem vlP_ok {w : World} {a : Option Addr} {zs : List RD} (h : RowD w a zs) (hv : vlP zs = true) {x : RD} (hx : x ∈ zs) : x.ok w :=
  ⟨h.rd hx, List.all_eq_true.1 (vlP_iff.1 hv).2.2 x hx⟩
theorem enters_boxpoint1 : Enters Tryd.prog 53 := fun _ _ => by kernel_rfl
set_option maxHeartbeats 4000000 in
theorem boxpoint1_raw (x : RD) (w : World) (h : x.rd w) :
    Calls Tryd.prog 53 #[.agg #[.bool x.neg, .slice x.a x.xs.length x.c, .int .i64 x.e]] w fun e w' => e = .returned (.bool (!x.vl)) ∧ Kp w w' := by
  go_enter Tryd.func53, Tryd.ntmps53
  go_wp2_with fail
  refine (Valid_raw x _ (h.kp ((Kp.refl w).alloc _))).mono ?_
  rintro e w2 ⟨rfl, hk2⟩
  go_wp2_with fail
  go_ret
  exact ⟨ret_bool rfl, ((Kp.refl w).alloc _).trans hk2⟩
set_option maxHeartbeats 4000000 in
theorem point_any (a : Option Addr) (zs : List RD) (c : Nat) (w : World) (h : RowD w a zs) (hl : zs.length ≤ 1100000) :
    Calls Tryd.prog 34 #[.slice a zs.length c] w fun e w' => e = .returned (.bool (vlP zs)) ∧ Kp w w' := by
  have hc := containsD a zs c 53 #[] w (fun x => !x.vl) hl h ⟨enters_boxpoint1, fun x hx w1 hk => boxpoint1_raw x w1 ((h.rd hx).kp hk)⟩
  have hany : (zs.any fun x => !x.vl) = !zs.all RD.vl := by
    rw [Bool.eq_iff_iff]; simp
  rw [hany] at hc
  have Hc := Lib.hid hc
  clear hc hany h
  have H := Lib.hid (show vlP zs = (decide (1 ≤ zs.length) && (decide (zs.length ≤ 8) && zs.all RD.vl)) from rfl)
  go_enter Tryd.func34, Tryd.ntmps34
  by_cases h1 : 1 ≤ zs.length
  · have d1 : decide (1 ≤ zs.length) = true := decide_eq_true h1
    have e1 : decide ((1 : Int) ≤ (zs.length : Int)) = true := decide_eq_true (by omega)
    rw [d1] at H
    clear d1
    by_cases h2 : zs.length ≤ 8
    · have d2 : decide (zs.length ≤ 8) = true := decide_eq_true h2
      have e2 : decide ((zs.length : Int) ≤ 8) = true := decide_eq_true (by omega)
      rw [d2] at H
      clear d2
      go_wp2_with (refine Hc.out.mono ?_; rintro e w2 ⟨rfl, hk2⟩)
      go_ret
      exact ⟨ret_bool (by rw [H.out]; simp), hk2⟩
    · have d2 : decide (zs.length ≤ 8) = false := decide_eq_false h2
      have e2 : decide ((zs.length : Int) ≤ 8) = false := decide_eq_false (by omega)
      rw [d2] at H
      clear d2
      go_wp2_with fail
      go_ret
      exact ⟨ret_bool (by rw [H.out]; simp), .refl _⟩
  · have d1 : decide (1 ≤ zs.length) = false := decide_eq_false h1
    have e1 : decide ((1 : Int) ≤ (zs.length : Int)) = false := decide_eq_false (by omega)
    rw [d1] at H
    clear d1
    go_wp2_with fail
    go_ret
    exact ⟨ret_bool (by rw [H.out]; simp), .refl _⟩

/-- is the point in the box? -/
def hasB (zs : List RI) (ys : List RD) : Bool := vlB zs && (vlP ys && allID hasI zs ys)
theorem enters_IHas : Enters Tryd.prog 36 := fun _ _ => by kernel_rfl
set_option maxHeartbeats 4000000 in
theorem BHas_any (a b : Option Addr) (zs : List RI) (ys : List RD) (c d : Nat) (w : World) (h : RowI w a zs) (hl : zs.length ≤ 1100000) (h' : RowD w b ys) (hl' : ys.length ≤ 1100000) :
    Calls Tryd.prog 13 #[.slice a zs.length c, .slice b ys.length d] w fun e w' => e = .returned (.bool (hasB zs ys)) ∧ Kp w w' := by
  have H := Lib.hid (show hasB zs ys = (vlB zs && (vlP ys && allID hasI zs ys)) from rfl)
  go_enter Tryd.func13, Tryd.ntmps13
  go_wp2_with fail
  refine (BValid_any a zs c _ h hl).mono ?_
  rintro e w1 ⟨rfl, hk1⟩
  cases hz : vlB zs with
  | false =>
    rw [hz] at H
    clear hz
    go_wp2_with fail
    go_ret
    exact ⟨ret_bool (by rw [H.out]; simp), hk1⟩
  | true =>
    rw [hz] at H
    have v1 := Lib.hid hz
    clear hz
    go_wp2_with fail
    refine (point_any b ys d _ (h'.kp hk1) hl').mono ?_
    rintro e w2 ⟨rfl, hk2⟩
    cases hy : vlP ys with
    | false =>
      rw [hy] at H
      clear hy
      go_wp2_with fail
      go_ret
      exact ⟨ret_bool (by rw [H.out]; simp), hk1.trans hk2⟩
    | true =>
      rw [hy] at H
      have hk3 := hk1.trans hk2
      have hA : AnsID Tryd.prog 36 #[] w2 zs ys hasI := ⟨enters_IHas, fun x hx y hy' w4 hk4 => by
        have hx1 := (vlB_ok (h.kp hk3) v1.out hx).kp hk4
        have hy1 := (vlP_ok (h'.kp hk3) hy hy').kp hk4
        have := Has_ok x y w4 hx1 hy1
        rw [hx1.2.1]
        exact this⟩
      have hE := eqfID a b zs ys c d _ #[] w2 hasI hl (h.kp hk3) (h'.kp hk3) hA
      clear hy hA
      go_wp2_with fail
      refine hE.mono ?_
      rintro e w5 ⟨rfl, hk5⟩
      go_wp2_with fail
      go_ret
      exact ⟨ret_bool (by rw [H.out]; simp), hk3.trans hk5⟩

set_option maxHeartbeats 4000000 in
theorem IPoint_ok (d : RD) (w : World) (hy : d.ok w) :
    Calls Tryd.prog 37 #[.agg #[.bool d.neg, .slice d.a d.xs.length d.c, .int .i64 d.e]] w fun e w' => e = .returned (.agg #[.bool (RI.mk d d false).lo.neg, .slice (RI.mk d d false).lo.a (RI.mk d d false).lo.xs.length (RI.mk d d false).lo.c, .int .i64 (RI.mk d d false).lo.e, .bool (RI.mk d d false).hi.neg, .slice (RI.mk d d false).hi.a (RI.mk d d false).hi.xs.length (RI.mk d d false).hi.c, .int .i64 (RI.mk d d false).hi.e, .bool (RI.mk d d false).all]) ∧ Kp w w' := by
  go_enter Tryd.func37, Tryd.ntmps37
  go_wp2_with fail
  generalize hW : ((w.alloc _).alloc _) = W at *
  have hk : Kp w W := hW ▸ ((Kp.refl w).alloc _).alloc _
  have hS : W.cell? ⟨w.heap.size, 0, none⟩ = some (.bool d.neg) ∧ W.cell? ⟨w.heap.size, 1, none⟩ = some (.slice d.a d.xs.length d.c) ∧ W.cell? ⟨w.heap.size, 2, none⟩ = some (.int .i64 d.e) := by rw [← hW]; simp
  have hV : Var7 W (w.heap.size + 1) := by
    rw [← hW]
    have := Var7.new (w.alloc (.cells #[.bool d.neg, .slice d.a d.xs.length d.c, .int .i64 d.e] 36)) 39
    rwa [World.size_alloc] at this
  clear hW
  refine (Valid_rok d _ (hy.kp hk)).mono ?_
  rintro e w1 ⟨rfl, hk1⟩
  have hS1 := keep3 hk1 hS
  have hV1 := hV.kp hk1
  have hk2 := hk.trans hk1
  clear hS hk hk1 hV
  obtain ⟨⟨q0, q1, q2, q3, q4, q5, q6⟩, f0, f1, f2, f3, f4, f5, f6⟩ := hV1
  go_wp2_with fail
  generalize hW9 : ((((((w1.setCell _ _).setCell _ _).setCell _ _).setCell _ _).setCell _ _).setCell _ _).setCell _ _ = W9
  obtain ⟨⟨s0, s1, s2, s3, s4, s5, s6⟩, hU⟩ := stored7 (show Box7 w1 _ _ _ _ _ _ _ _ from ⟨q0, q1, q2, q3, q4, q5, q6⟩) (fun _ h => by cases h) (fun _ h => by cases h) (fun _ h => by cases h) (fun _ h => by cases h) (fun _ h => by cases h) (fun _ h => by cases h) (fun _ h => by cases h) _ _ _ _ _ _ _ hW9
  clear hW9 q0 q1 q2 q3 q4 q5 q6 f0 f1 f2 f3 f4 f5 f6
  refine bodyPost_ret (v := .agg #[.bool (RI.mk d d false).lo.neg, .slice (RI.mk d d false).lo.a (RI.mk d d false).lo.xs.length (RI.mk d d false).lo.c, .int .i64 (RI.mk d d false).lo.e, .bool (RI.mk d d false).hi.neg, .slice (RI.mk d d false).hi.a (RI.mk d d false).hi.xs.length (RI.mk d d false).hi.c, .int .i64 (RI.mk d d false).hi.e, .bool (RI.mk d d false).all]) (by simp [results, Tryd.results37, go_sem, s0, s1, s2, s3, s4, s5, s6]) rfl ?_
  exact ⟨rfl, hU.2.2.1 _ hk2 (by omega)⟩
end Go.Proofs.YtkohlmlmoapedaaDoor
end

section
namespace Go.Proofs.YtkohlmlmoapedaaDoor
open Go.RowKit

/-- append of an interval to the call's own slice, in a region in the order of the text -/
theorem wpList_append_ivl {w : World} {ops : Array Oper} {rest : List Oper} {o : Oper} {a : Act} {Q : Exit → Act → World → Prop} (hgd : o.guard = none) (s x : Operand)
    (ho : o.op = .call { callee := .builtin .append, args := #[s, x], argTypes := #[22, 22] })
    (wb : World) (v : Value) (zs : List RI) (hs : a.eval s = v) (hown : OwnI wb w v zs)
    (g c : Nat) (hx : a.eval x = .slice (some ⟨g, 0, none⟩) 1 c) (y : RI) (hy : y.rd wb)
    (hcell : w.cell? ⟨g, 0, none⟩ = some (.bool y.lo.neg) ∧ w.cell? ⟨g, 1, none⟩ = some (.slice y.lo.a y.lo.xs.length y.lo.c) ∧ w.cell? ⟨g, 2, none⟩ = some (.int .i64 y.lo.e) ∧ w.cell? ⟨g, 3, none⟩ = some (.bool y.hi.neg) ∧ w.cell? ⟨g, 4, none⟩ = some (.slice y.hi.a y.hi.xs.length y.hi.c) ∧ w.cell? ⟨g, 5, none⟩ = some (.int .i64 y.hi.e) ∧ w.cell? ⟨g, 6, none⟩ = some (.bool y.all)) (hlen : zs.length + 1 ≤ 9000000)
    (h : ∀ a' c' w', OwnI wb w' (.slice a' (zs.length + 1) c') (zs ++ [y]) → Below wb.heap.size w w' → wpList Tryd.prog ops Q rest (a.put o.dst (.slice a' (zs.length + 1) c')) w') :
    wpList Tryd.prog ops Q (o :: rest) a w := by
  obtain ⟨i0, hi, hz0, hz1, hz2⟩ := info_parts infoIvl
  refine wpList_append_lies w hgd s x 22 ho wb.heap.size 39 i0 (.agg #[.bool false, .slice none 0 0, .int .i64 0, .bool false, .slice none 0 0, .int .i64 0, .bool false]) 7 88 Tryd.underlying22 hi hz0 hz1 hz2 rfl (by decide) v zs.length (zs.flatMap RI.cells) hs hown.2
    ⟨g, 0, none⟩ 1 c y.cells hx rfl ?_ ?_ (by decide) (by unfold maxLen; omega) (by omega) hown.1.2.size w.heap.size rfl ?_
  · intro j u hj
    obtain ⟨h0, h1, h2, h3, h4, h5, h6⟩ := hcell
    match j, hj with
    | 0, hj => cases hj; simpa [Addr.add] using h0
    | 1, hj => cases hj; simpa [Addr.add] using h1
    | 2, hj => cases hj; simpa [Addr.add] using h2
    | 3, hj => cases hj; simpa [Addr.add] using h3
    | 4, hj => cases hj; simpa [Addr.add] using h4
    | 5, hj => cases hj; simpa [Addr.add] using h5
    | 6, hj => cases hj; simpa [Addr.add] using h6
    | j + 7, hj => simp [RI.cells] at hj
  · intro u hu
    simp only [RI.cells, List.mem_cons, List.not_mem_nil, or_false] at hu
    rcases hu with rfl | rfl | rfl | rfl | rfl | rfl | rfl <;> rfl
  · intro g' cap w' h1 h2 _ _
    have hb : Below wb.heap.size w w' := (Below.refl wb.heap.size w).grown h2 hown.1.2.size (fun k hk => (hown.2.lt k hk).1)
    refine h _ _ w' ⟨⟨fun x hx => ?_, Below.trans hown.1.2 hb⟩, ?_⟩ hb
    · rcases List.mem_append.1 hx with hx | hx
      · exact hown.1.1 x hx
      · simp only [List.mem_singleton] at hx; subst hx; exact hy
    · rw [List.flatMap_append, List.length_append]
      simpa using h1
/-- the interval of a number -/
def ptI (d : RD) : RI := ⟨d, d, false⟩
theorem IPoint_pt (d : RD) (w : World) (hy : d.ok w) :
    Calls Tryd.prog 37 #[.agg #[.bool d.neg, .slice d.a d.xs.length d.c, .int .i64 d.e]] w fun e w' => e = .returned (.agg #[.bool (ptI d).lo.neg, .slice (ptI d).lo.a (ptI d).lo.xs.length (ptI d).lo.c, .int .i64 (ptI d).lo.e, .bool (ptI d).hi.neg, .slice (ptI d).hi.a (ptI d).hi.xs.length (ptI d).hi.c, .int .i64 (ptI d).hi.e, .bool (ptI d).all]) ∧ Kp w w' := IPoint_ok d w hy
theorem ptI_rd {w : World} {d : RD} (h : d.rd w) : (ptI d).rd w := ⟨h, h⟩
theorem ptI_ok {w : World} {d : RD} (h : d.ok w) : (ptI d).ok w := RI.ok_mk h h (Int.le_refl _)
/-- the box of a point -/
def ptsB (ys : List RD) : List RI := if vlP ys then ys.map ptI else []
theorem map_snoc {α β : Type} {f : α → β} {zs : List α} {k : Nat} {x : α} (hx : zs[k]? = some x) : (zs.take (k + 1)).map f = (zs.take k).map f ++ [f x] := by
  obtain ⟨h1, rfl⟩ := List.getElem?_eq_some_iff.1 hx
  rw [List.take_succ_eq_append_getElem h1, List.map_append]; rfl
set_option maxRecDepth 100000 in
set_option maxHeartbeats 4000000 in
theorem BPoints_any (b : Option Addr) (ys : List RD) (d : Nat) (w : World) (h' : RowD w b ys) (hl' : ys.length ≤ 1100000) :
    Calls Tryd.prog 14 #[.slice b ys.length d] w (ShowsI w (ptsB ys)) := by
  have H := Lib.hid (show ptsB ys = if vlP ys then ys.map ptI else [] from rfl)
  go_enter Tryd.func14, Tryd.ntmps14
  go_wp2_with fail
  refine (point_any b ys d _ h' hl').mono ?_
  rintro e w1 ⟨rfl, hk1⟩
  cases hz : vlP ys with
  | false =>
    rw [hz] at H
    clear hz
    go_wp2_with fail
    go_ret
    rw [H.out]
    exact ⟨none, 0, rfl, fun i x hi => by simp at hi, Nat.le_refl _, by unfold maxLen; omega, hk1⟩
  | true =>
    rw [hz] at H
    have v1 := Lib.hid hz
    have hl8 := (vlP_iff.1 hz).2.1
    clear hz
    go_wp2_with fail
    go_loopw [3, 11] (fun v x wr => ∃ k : Nat, k ≤ ys.length ∧ x = .int .i64 k ∧ OwnI w wr v ((ys.take k).map ptI)) (fun _ x _ => ys.length - (intOf x).toNat)
    case atStart => exact ⟨0, by omega, rfl, OwnI.nil hk1⟩
    case round =>
      obtain ⟨k, hk, rfl, hown⟩ := hrel
      have hk2 := hown.1.2
      obtain ⟨L, hL⟩ : ∃ L, L = (ys.take k).map ptI := ⟨_, rfl⟩
      rw [← hL] at hown
      have hlen8 : L.length + 1 ≤ 9000000 := by rw [hL]; simp; omega
      have HL := Lib.hid hL
      clear hL
      by_cases hlt : k < ys.length
      · have hy := (vlP_ok (h'.kp hk2) v1.out (List.getElem_mem hlt))
        obtain ⟨b2, o2, rfl, hyw, _⟩ := h' k (ys[k]) (List.getElem?_eq_getElem hlt)
        obtain ⟨_, _, e1, _, j0, j1, j2⟩ := (h'.kp hk2) k (ys[k]) (List.getElem?_eq_getElem hlt)
        cases e1
        have Hg := Lib.hid (List.getElem?_eq_getElem hlt)
        generalize ys[k] = y at *
        have hi1 : (0 : Int) ≤ (k : Int) := by omega
        have hi2 : (k : Int) < (ys.length : Int) := by omega
        have hzok := ptI_rd hyw
        have Hs := Lib.hid (map_snoc (f := ptI) Hg.out)
        clear h'
        go_wp2_with fail
        have hk3 := (Kp.refl wr).alloc (.cells #[.bool y.neg, .slice y.a y.xs.length y.c, .int .i64 y.e] 36)
        refine (IPoint_pt y _ (hy.kp hk3)).mono ?_
        rintro e w4 ⟨rfl, hk4⟩
        have hown4 := hown.kp ((hk3.trans hk4).alloc (.cells #[.bool (ptI y).lo.neg, .slice (ptI y).lo.a (ptI y).lo.xs.length (ptI y).lo.c, .int .i64 (ptI y).lo.e, .bool (ptI y).hi.neg, .slice (ptI y).hi.a (ptI y).hi.xs.length (ptI y).hi.c, .int .i64 (ptI y).hi.e, .bool (ptI y).all] 39))
        go_wp2_with (at_builtin; refine wpList_append_ivl rfl _ _ rfl w _ _ rfl hown4 _ _ rfl (ptI y) hzok (by simp) hlen8 ?_; intro a' c' w5 hown5 hb5)
        go_roundw
        case rel => exact ⟨k + 1, by omega, by go_num, by rw [Hs.out, ← HL.out]; exact hown5⟩
        case measure => simp [intOf]; omega
      · obtain ⟨a3, c3, rfl, h1, h2, h3⟩ := hown.value
        have Hz := Lib.hid (show L = ptsB ys by
          rw [H.out, HL.out]
          simp only [if_true]
          rw [List.take_of_length_le (by omega)])
        go_wp2
        go_ret
        rw [← Hz.out]
        exact ⟨a3, c3, rfl, h3, h1, h2, hk2⟩
end Go.Proofs.YtkohlmlmoapedaaDoor
end
