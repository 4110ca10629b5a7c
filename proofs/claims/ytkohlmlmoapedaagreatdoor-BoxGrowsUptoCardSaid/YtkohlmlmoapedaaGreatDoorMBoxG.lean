/-
  Walks: slices.Clone of intervals; box.precise, Split.
  Walks: box.Corners.
  Walks: the law's awake.
-/
import Derived.Test.YtkohlmlmoapedaaGreatDoorMBoxE
import Derived.Test.YtkohlmlmoapedaaGreatDoorMRoF
import Derived.Test.YtkohlmlmoapedaaGreatDoorMLawA
section
namespace Go.Proofs.YtkohlmlmoapedaaGreatDoor
open Go.RowKit

theorem nil_ivl (w : World) (a : Option Addr) (n c n' c' : Nat) : (binOp .eql 22 (.slice a n c) (.slice none n' c')).run Tryz.prog w = .ok (.bool a.isNone) w :=
  Lib.run_eql_slice_nil w _ _ a n c n' c' Tryz.underlying22
/-- append of intervals that are read to the call's own slice -/
theorem wpList_append_ivls {w : World} {ops : Array Oper} {rest : List Oper} {o : Oper} {a : Act} {Q : Exit → Act → World → Prop} (hgd : o.guard = none) (s x : Operand)
    (ho : o.op = .call { callee := .builtin .append, args := #[s, x], argTypes := #[22, 22] })
    (wb : World) (v : Value) (zs : List RI) (hs : a.eval s = v) (hown : OwnI wb w v zs)
    (b o2 c : Nat) (ys : List RI) (hx : a.eval x = .slice (some ⟨b, o2, none⟩) ys.length c) (hy : ∀ y, y ∈ ys → y.rd wb)
    (hrow : RowI w (some ⟨b, o2, none⟩) ys) (hpos : 0 < ys.length) (hlen : zs.length + ys.length ≤ 9000000)
    (h : ∀ g c' w', OwnI wb w' (.slice (some ⟨g, 0, none⟩) (zs.length + ys.length) c') (zs ++ ys) → Below wb.heap.size w w' → wpList Tryz.prog ops Q rest (a.put o.dst (.slice (some ⟨g, 0, none⟩) (zs.length + ys.length) c')) w') :
    wpList Tryz.prog ops Q (o :: rest) a w := by
  obtain ⟨i0, hi, hz0, hz1, hz2⟩ := info_parts infoIvl
  refine wpList_append_lies w hgd s x 22 ho wb.heap.size 34 i0 (.agg #[.bool false, .slice none 0 0, .int .i64 0, .bool false, .slice none 0 0, .int .i64 0, .bool false]) 7 88 Tryz.underlying22 hi hz0 hz1 hz2 rfl (by decide) v zs.length (zs.flatMap RI.cells) hs hown.2
    ⟨b, o2, none⟩ ys.length c (ys.flatMap RI.cells) hx (flat_len ys) ?_ ?_ hpos (by unfold maxLen; omega) (by omega) hown.1.2.size w.heap.size rfl ?_
  · intro j u hj
    have hjl : j < ys.length * 7 := by have := (List.getElem?_eq_some_iff.1 hj).1; rwa [flat_len] at this
    obtain ⟨k, r, hr, rfl⟩ : ∃ k r, r < 7 ∧ j = k * 7 + r := ⟨j / 7, j % 7, Nat.mod_lt _ (by decide), by omega⟩
    have hk : k < ys.length := by omega
    obtain ⟨b', o', e', _, h0, h1, h2, h3, h4, h5, h6⟩ := hrow k ys[k] (List.getElem?_eq_getElem hk)
    cases e'
    rw [flat_get (List.getElem?_eq_getElem hk) hr] at hj
    rw [Addr.add_lit]
    match r, hr, hj with
    | 0, _, hj => cases hj; exact h0
    | 1, _, hj => cases hj; exact h1
    | 2, _, hj => cases hj; exact h2
    | 3, _, hj => cases hj; exact h3
    | 4, _, hj => cases hj; exact h4
    | 5, _, hj => cases hj; exact h5
    | 6, _, hj => cases hj; exact h6
    | r + 7, hr, _ => omega
  · intro u hu
    obtain ⟨y, _, hu⟩ := List.mem_flatMap.1 hu
    simp only [RI.cells, List.mem_cons, List.not_mem_nil, or_false] at hu
    rcases hu with rfl | rfl | rfl | rfl | rfl | rfl | rfl <;> rfl
  · intro g' cap w' h1 h2 _ _
    have hb : Below wb.heap.size w w' := (Below.refl wb.heap.size w).grown h2 hown.1.2.size (fun k hk => (hown.2.lt k hk).1)
    refine h _ _ w' ⟨⟨fun x hx => ?_, Below.trans hown.1.2 hb⟩, ?_⟩ hb
    · rcases List.mem_append.1 hx with hx | hx
      · exact hown.1.1 x hx
      · exact hy x hx
    · rw [List.flatMap_append, List.length_append]
      simpa using h1
theorem OwnI.empty {wb w : World} (k : Kp wb w) : OwnI wb (w.alloc (.cells #[] 34)) (.slice (some ⟨w.heap.size, 0, none⟩) 0 0) [] :=
  ⟨⟨fun _ h => by simp at h, k.alloc _⟩, World.ownsRow_made w #[] 0 k.size (Nat.zero_le _) rfl⟩
set_option maxHeartbeats 4000000 in
theorem cloneI_any (b o c : Nat) (zs : List RI) (w : World) (h : RowI w (some ⟨b, o, none⟩) zs) (hpos : 0 < zs.length) (hl : zs.length ≤ 1100000) :
    Calls Tryz.prog 44 #[.slice (some ⟨b, o, none⟩) zs.length c] w fun e w' => ∃ g c', e = .returned (.slice (some ⟨g, 0, none⟩) zs.length c') ∧ OwnI w w' (.slice (some ⟨g, 0, none⟩) zs.length c') zs := by
  have hn := nil_ivl
  have hrow := h.kp ((Kp.refl w).alloc (.cells #[] 34))
  have hown := OwnI.empty (Kp.refl w)
  have hrd : ∀ y, y ∈ zs → y.rd w := fun y hy => h.rd hy
  clear h
  go_enter Tryz.func44, Tryz.ntmps44
  go_wp2_with (at_builtin; refine wpList_append_ivls rfl _ _ rfl w _ _ rfl hown _ _ _ zs rfl hrd hrow hpos (by simp; omega) ?_; intro g c' w5 hown5 hb5)
  go_ret
  rw [List.nil_append, List.length_nil, Nat.zero_add] at hown5
  exact ⟨g, c', by simp, hown5⟩
theorem boxprecise_any (p : Int) (w : World) :
    Calls Tryz.prog 42 #[.int .i64 p] w fun e w' => e = .returned (.bool (preB p)) ∧ w = w' := by
  by_cases h1 : 8 ≤ p
  · by_cases h2 : p ≤ 512
    · have H := Lib.hid (show preB p = true from decide_eq_true ⟨h1, h2⟩)
      go_enter Tryz.func42, Tryz.ntmps42
      go_wp2_with fail
      go_ret
      exact ⟨ret_bool (by first | exact H.out.symm | (rw [H.out]; simp; omega)), rfl⟩
    · have H := Lib.hid (show preB p = false from decide_eq_false (by omega))
      go_enter Tryz.func42, Tryz.ntmps42
      go_wp2_with fail
      go_ret
      exact ⟨ret_bool (by first | exact H.out.symm | (rw [H.out]; simp; omega)), rfl⟩
  · have H := Lib.hid (show preB p = false from decide_eq_false (by omega))
    go_enter Tryz.func42, Tryz.ntmps42
    go_wp2_with fail
    go_ret
    exact ⟨ret_bool (by first | exact H.out.symm | (rw [H.out]; simp; omega)), rfl⟩
/-- three cells stored from offset 3 on -/
def Stored345 (g : Nat) (x0 x1 x2 : Value) (w W : World) : Prop :=
  W.cell? ⟨g, 3, none⟩ = some x0 ∧ W.cell? ⟨g, 4, none⟩ = some x1 ∧ W.cell? ⟨g, 5, none⟩ = some x2 ∧
  (∀ a xs, Rd w a xs → Rd W a xs) ∧ (∀ a : World, Kp a w → a.heap.size ≤ g → Kp a W) ∧ (∀ p : Addr, p.block ≠ g → W.cell? p = w.cell? p)
theorem stored345 {w : World} {g : Nat} {y0 y1 y2 : Value} (q0 : w.cell? ⟨g, 3, none⟩ = some y0) (q1 : w.cell? ⟨g, 4, none⟩ = some y1) (q2 : w.cell? ⟨g, 5, none⟩ = some y2)
    (n0 : ∀ n : Int, y0 ≠ .int .u32 n) (n1 : ∀ n : Int, y1 ≠ .int .u32 n) (n2 : ∀ n : Int, y2 ≠ .int .u32 n) (x0 x1 x2 : Value) :
    Stored345 g x0 x1 x2 w (((w.setCell ⟨g, 3, none⟩ x0).setCell ⟨g, 4, none⟩ x1).setCell ⟨g, 5, none⟩ x2) := by
  have ne (i j : Nat) (h : i ≠ j) : (⟨g, i, none⟩ : Addr) ≠ ⟨g, j, none⟩ := fun e => h (by injection e)
  have a1 : (w.setCell ⟨g, 3, none⟩ x0).cell? ⟨g, 4, none⟩ = some y1 := by rw [cell_set_ne (ne 3 4 (by decide))]; exact q1
  have a2 : ((w.setCell ⟨g, 3, none⟩ x0).setCell ⟨g, 4, none⟩ x1).cell? ⟨g, 5, none⟩ = some y2 := by
    rw [cell_set_ne (ne 4 5 (by decide)), cell_set_ne (ne 3 5 (by decide))]; exact q2
  refine ⟨?_, ?_, cell_set_eq a2, fun a xs h => ((h.other q0 n0).other a1 n1).other a2 n2, fun a h hg => ((h.set hg _).set hg _).set hg _, fun p hp => ?_⟩
  · rw [cell_set_ne (ne 5 3 (by decide)), cell_set_ne (ne 4 3 (by decide))]; exact cell_set_eq q0
  · rw [cell_set_ne (ne 5 4 (by decide))]; exact cell_set_eq a1
  · have hne (i : Nat) : (⟨g, i, none⟩ : Addr) ≠ p := fun e => hp (by rw [← e])
    rw [cell_set_ne (hne 5), cell_set_ne (hne 4), cell_set_ne (hne 3)]
theorem set3g {w : World} {g b i j k : Nat} (n : b ≠ g) {v0 v1 v2 x0 x1 x2 : Value} (h : w.cell? ⟨b, 0, none⟩ = some v0 ∧ w.cell? ⟨b, 1, none⟩ = some v1 ∧ w.cell? ⟨b, 2, none⟩ = some v2) :
    (((w.setCell ⟨g, i, none⟩ x0).setCell ⟨g, j, none⟩ x1).setCell ⟨g, k, none⟩ x2).cell? ⟨b, 0, none⟩ = some v0 ∧ (((w.setCell ⟨g, i, none⟩ x0).setCell ⟨g, j, none⟩ x1).setCell ⟨g, k, none⟩ x2).cell? ⟨b, 1, none⟩ = some v1 ∧ (((w.setCell ⟨g, i, none⟩ x0).setCell ⟨g, j, none⟩ x1).setCell ⟨g, k, none⟩ x2).cell? ⟨b, 2, none⟩ = some v2 := by
  have ne (i j : Nat) : (⟨g, i, none⟩ : Addr) ≠ ⟨b, j, none⟩ := fun e => n (by injection e with e1; exact e1.symm)
  have key (l : Nat) : (((w.setCell ⟨g, i, none⟩ x0).setCell ⟨g, j, none⟩ x1).setCell ⟨g, k, none⟩ x2).cell? ⟨b, l, none⟩ = w.cell? ⟨b, l, none⟩ := by
    rw [cell_set_ne (ne k l), cell_set_ne (ne j l), cell_set_ne (ne i l)]
  simp only [key]
  exact h
theorem set3gd {w : World} {g b i j k : Nat} (n : b ≠ g) {v0 v1 v2 x0 x1 x2 : Value} (h : w.drew.cell? ⟨b, 0, none⟩ = some v0 ∧ w.drew.cell? ⟨b, 1, none⟩ = some v1 ∧ w.drew.cell? ⟨b, 2, none⟩ = some v2) :
    (((w.setCell ⟨g, i, none⟩ x0).setCell ⟨g, j, none⟩ x1).setCell ⟨g, k, none⟩ x2).drew.cell? ⟨b, 0, none⟩ = some v0 ∧ (((w.setCell ⟨g, i, none⟩ x0).setCell ⟨g, j, none⟩ x1).setCell ⟨g, k, none⟩ x2).drew.cell? ⟨b, 1, none⟩ = some v1 ∧ (((w.setCell ⟨g, i, none⟩ x0).setCell ⟨g, j, none⟩ x1).setCell ⟨g, k, none⟩ x2).drew.cell? ⟨b, 2, none⟩ = some v2 := set3g (w := w) n h
/-- what two cells of halves hold -/
def SplitOut (w : World) (n : Nat) (C : Dy) (e : Ending) (w' : World) : Prop :=
  ∃ g1 c1 g2 c2, ∃ y : RD, e = .returned (.tuple #[.slice (some ⟨g1, 0, none⟩) n c1, .slice (some ⟨g2, 0, none⟩) n c2, .int .i64 0]) ∧
    ((w'.cell? ⟨g1, 3, none⟩ = some (.bool y.neg) ∧ w'.cell? ⟨g1, 4, none⟩ = some (.slice y.a y.xs.length y.c) ∧ w'.cell? ⟨g1, 5, none⟩ = some (.int .i64 y.e)) ∧ w'.cell? ⟨g2, 0, none⟩ = some (.bool y.neg) ∧ w'.cell? ⟨g2, 1, none⟩ = some (.slice y.a y.xs.length y.c) ∧ w'.cell? ⟨g2, 2, none⟩ = some (.int .i64 y.e)) ∧ y.rd w' ∧ y.dy = C ∧ (C.ok → y.vl = true) ∧ Kp w w'
theorem OwnI.block {wb w : World} {g n c : Nat} {zs : List RI} (h : OwnI wb w (.slice (some ⟨g, 0, none⟩) n c) zs) : wb.heap.size ≤ g ∧ g < w.heap.size ∧ (∀ i, w.frozen? ⟨g, i, none⟩ = false) := by
  obtain ⟨h1, h2, h3⟩ := h
  rcases h3 with ⟨h4, _⟩ | ⟨g', cap, cur, h4, hb, hg, hn, hc, hs, ht⟩
  · cases h4
  · cases h4
    exact ⟨hb, (Array.getElem?_eq_some_iff.1 hg).1, fun i => frozen_of_row w g _ _ _ hg⟩
set_option maxRecDepth 100000 in
set_option maxHeartbeats 8000000 in
theorem Split_of (b o c p : Nat) (x : RI) (zs : List RI) (C : Dy) (w : World) (h : RowI w (some ⟨b, o, none⟩) (x :: zs)) (hv : vlB (x :: zs) = true) (hp0 : 8 ≤ p) (hp1 : p ≤ 512)
    (hmid : ∀ W, Kp w W → Calls Tryz.prog 43 #[.agg #[.bool x.lo.neg, .slice x.lo.a x.lo.xs.length x.lo.c, .int .i64 x.lo.e, .bool x.hi.neg, .slice x.hi.a x.hi.xs.length x.hi.c, .int .i64 x.hi.e, .bool false], .int .i64 p] W (NumOut W C)) :
    Calls Tryz.prog 17 #[.slice (some ⟨b, o, none⟩) (x :: zs).length c, .int .i64 0, .int .i64 p] w (SplitOut w (x :: zs).length C) := by
  have Hmid := Lib.hid hmid
  have Hp := Lib.hid (show preB (p : Int) = true from preB_iff.2 ⟨by omega, by omega⟩)
  have Hv := Lib.hid hv
  have hpos : 0 < (x :: zs).length := by simp
  have hl8 := vlB_len hv
  have hxa : x.all = false := (vlB_ok h hv (by simp : x ∈ x :: zs)).2.1
  clear hmid hv
  generalize hL : x :: zs = L at *
  have hx0 : L[0]? = some x := by rw [← hL]; rfl
  have Hx0 := Lib.hid hx0
  clear hx0 hL
  go_enter Tryz.func17, Tryz.ntmps17
  go_wp2_with fail
  refine (BValid_any _ L c _ h (by omega)).mono ?_
  rw [Hv.out]
  rintro e w1 ⟨rfl, hk1⟩
  go_wp2_with fail
  refine (boxprecise_any p _).mono ?_
  rw [Hp.out]
  rintro e w2 ⟨rfl, rfl⟩
  obtain ⟨_, _, e1, hxr, h0, h1, h2, h3, h4, h5, h6⟩ := (h.kp hk1) 0 x Hx0.out
  cases e1
  rw [hxa] at h6
  have hp : (0 : Int) < (L.length : Int) := by omega
  have hLe : ¬ L = [] := fun e => by rw [e] at hpos; simp at hpos
  simp only [Nat.zero_mul, Nat.add_zero] at h0 h1 h2 h3 h4 h5 h6
  go_wp2_with fail
  refine (Hmid.out _ hk1).mono ?_
  rintro e w3 ⟨y, rfl, hyr, hyd, hyv, hk3⟩
  have hk4 := hk1.trans (hk3.alloc (.cells #[.bool y.neg, .slice y.a y.xs.length y.c, .int .i64 y.e] 25))
  have hyr4 := hyr.kp ((Kp.refl w3).alloc (.cells #[.bool y.neg, .slice y.a y.xs.length y.c, .int .i64 y.e] 25))
  have hY : Box3 _ w3.heap.size (.bool y.neg) (.slice y.a y.xs.length y.c) (.int .i64 y.e) := Box3.new w3 _ _ _ 25
  have hz3 : w3.heap.size < (w3.alloc (.cells #[.bool y.neg, .slice y.a y.xs.length y.c, .int .i64 y.e] 25)).heap.size := by simp
  clear h0 h1 h2 h3 h4 h5 h6 hk3 hyr hxr
  go_wp2_with fail
  generalize w3.alloc _ = W4 at *
  refine (cloneI_any b o c L _ (h.kp hk4) hpos (by omega)).mono ?_
  rintro e w5 ⟨g1, c1, rfl, hown1⟩
  go_wp2_with fail
  refine (cloneI_any b o c L _ ((h.kp hk4).kp hown1.1.2) hpos (by omega)).mono ?_
  rintro e w6 ⟨g2, c2, rfl, hown2⟩
  have hk5 := hown1.1.2
  have hk6 := hown2.1.2
  have B1 := hown1.block
  have B2 := hown2.block
  obtain ⟨_, _, e1, _, h0, h1, h2, h3, h4, h5, h6⟩ := (RowI.kp (by obtain ⟨_, _, e, _, _, hr⟩ := hown1.value; cases e; exact hr) hk6) 0 x Hx0.out
  cases e1
  obtain ⟨_, _, e1, _, j0, j1, j2, j3, j4, j5, j6⟩ := (by obtain ⟨_, _, e, _, _, hr⟩ := hown2.value; cases e; exact hr : RowI w6 (some ⟨g2, 0, none⟩) L) 0 x Hx0.out
  cases e1
  simp only [Nat.zero_mul, Nat.add_zero, Nat.zero_add] at h0 h1 h2 h3 h4 h5 h6 j0 j1 j2 j3 j4 j5 j6
  have f3 := (Below.frozen hk6 (p := ⟨g1, 3, none⟩) B1.2.1).trans (B1.2.2 3)
  have f4 := (Below.frozen hk6 (p := ⟨g1, 4, none⟩) B1.2.1).trans (B1.2.2 4)
  have f5 := (Below.frozen hk6 (p := ⟨g1, 5, none⟩) B1.2.1).trans (B1.2.2 5)
  have e0 := B2.2.2 0
  have e1 := B2.2.2 1
  have e2 := B2.2.2 2
  have b12 : g1 < g2 := by omega
  have n12 : ¬ g1 = g2 := by omega
  have n21 : ¬ g2 = g1 := by omega
  have m1 : w3.heap.size < g1 := by omega
  have hY6 := (hY.kp hk5).kp hk6
  have hS : w6.cell? ⟨w3.heap.size, 0, none⟩ = some (.bool y.neg) ∧ w6.cell? ⟨w3.heap.size, 1, none⟩ = some (.slice y.a y.xs.length y.c) ∧ w6.cell? ⟨w3.heap.size, 2, none⟩ = some (.int .i64 y.e) := ⟨hY6.1, hY6.2.1, hY6.2.2.1⟩
  have hS1 := keep3 (Kp.refl w6).drew hS
  have hyr6 := ((hyr4.kp hk5).kp hk6)
  have hk7 : Kp w w6 := (hk4.trans (hk5.trans hk6))
  have wg : w.heap.size ≤ g1 := by have := hk4.size; omega
  clear h0 h1 h2 h6 j3 j4 j5 j6 hS hY6 hY hk4 hk5 hk6 hown1 hown2 B1 B2 hyr4 hz3
  go_wp2_with fail
  go_region_held3 (fun w' => w'.cell? ⟨w3.heap.size, 0, none⟩ = some (.bool y.neg) ∧ w'.cell? ⟨w3.heap.size, 1, none⟩ = some (.slice y.a y.xs.length y.c) ∧ w'.cell? ⟨w3.heap.size, 2, none⟩ = some (.int .i64 y.e)) (first | with_reducible assumption | with_reducible exact set3gd (by omega) (by assumption)) (fail)
  · have hst := stored345 h3 h4 h5 (fun _ h => by cases h) (fun _ h => by cases h) (fun _ h => by cases h) (.bool y.neg) (.slice y.a y.xs.length y.c) (.int .i64 y.e)
    generalize (((w6.setCell _ _).setCell _ _).setCell _ _) = W7 at hst ⊢
    obtain ⟨s0, s1, s2, s4, s5, s6⟩ := hst
    have e6 (i : Nat) : W7.cell? ⟨g2, i, none⟩ = w6.cell? ⟨g2, i, none⟩ := s6 ⟨g2, i, none⟩ n21
    rw [← e6] at j0 j1 j2
    have hst := stored j0 j1 j2 (fun _ h => by cases h) (fun _ h => by cases h) (fun _ h => by cases h) (.bool y.neg) (.slice y.a y.xs.length y.c) (.int .i64 y.e)
    generalize (((W7.setCell _ _).setCell _ _).setCell _ _) = W8 at hst ⊢
    obtain ⟨t0, t1, t2, _, t4, t5, t6, _⟩ := hst
    have k6 (i : Nat) : W8.cell? ⟨g1, i, none⟩ = W7.cell? ⟨g1, i, none⟩ := t6 ⟨g1, i, none⟩ n12
    rw [← k6] at s0 s1 s2
    have hfin : SplitOut w L.length C (.returned (.tuple #[.slice (some ⟨g1, 0, none⟩) L.length c1, .slice (some ⟨g2, 0, none⟩) L.length c2, .int .i64 0])) W8.drew :=
      ⟨g1, c1, g2, c2, y, rfl, ⟨⟨s0, s1, s2⟩, t0, t1, t2⟩, RD.rd.drew ⟨t4 _ _ (s4 _ _ hyr6.1), hyr6.2⟩, hyd, hyv, (t5 _ (s5 _ hk7 wg) (by omega)).drew⟩
    clear s0 s1 s2 t0 t1 t2 s4 s5 s6 t4 t5 t6 e6 k6 h3 h4 h5 j0 j1 j2
    go_wp2_with fail
    go_ret3
    exact hfin
end Go.Proofs.YtkohlmlmoapedaaGreatDoor
end

section
namespace Go.Proofs.YtkohlmlmoapedaaGreatDoor
open Go.RowKit

/-- the corner with the number k -/
def cornF : List RI → Nat → List RD
  | [], _ => []
  | x :: zs, k => (if k % 2 = 1 then x.hi else x.lo) :: cornF zs (k / 2)
theorem cornF_len (zs : List RI) (k : Nat) : (cornF zs k).length = zs.length := by
  induction zs generalizing k with
  | nil => rfl
  | cons x zs ih => simp [cornF, ih]
theorem cornF_get {zs : List RI} {i : Nat} {x : RI} (h : zs[i]? = some x) (k : Nat) : (cornF zs k)[i]? = some (if k / 2 ^ i % 2 = 1 then x.hi else x.lo) := by
  induction zs generalizing i k with
  | nil => simp at h
  | cons z zs ih =>
    cases i with
    | zero =>
      simp only [List.getElem?_cons_zero, Option.some.injEq] at h
      subst h
      simp [cornF]
    | succ i =>
      rw [List.getElem?_cons_succ] at h
      rw [cornF, List.getElem?_cons_succ, ih h, Nat.pow_succ, Nat.mul_comm, Nat.div_div_eq_div_mul]
theorem range_snoc {α : Type} (f : Nat → α) (k : Nat) : (List.range (k + 1)).map f = (List.range k).map f ++ [f k] := by rw [List.range_succ, List.map_append]; rfl
theorem and_one : ∀ n : Fin 17, (Go.bits BinOp.and IntKind.i64 ((n.val : Nat) : Int) 1 == 1) = decide (n.val % 2 = 1) := by decide +kernel
theorem bit_test {k j : Nat} (hk : k ≤ 16) : (Go.bits BinOp.and IntKind.i64 ((k : Int) / 2 ^ j) 1 == 1) = decide (k / 2 ^ j % 2 = 1) := by
  have e : ((k : Int) / 2 ^ j) = ((k / 2 ^ j : Nat) : Int) := by rw [Int.natCast_ediv, Int.natCast_pow]; rfl
  rw [e]
  have := Nat.div_le_self k (2 ^ j)
  exact and_one ⟨k / 2 ^ j, by omega⟩
theorem take_get {α : Type} {L : List α} {j : Nat} {x : α} (h : L[j]? = some x) : L.take (j + 1) = L.take j ++ [x] := by
  obtain ⟨h1, rfl⟩ := List.getElem?_eq_some_iff.1 h
  rw [List.take_succ_eq_append_getElem h1]
set_option maxRecDepth 100000 in
set_option maxHeartbeats 8000000 in
theorem Corners_ok (a : Option Addr) (zs : List RI) (c : Nat) (w : World) (h : RowI w a zs) (hv : vlB zs = true) (h4 : zs.length ≤ 4) :
    Calls Tryz.prog 16 #[.slice a zs.length c] w fun e w' => ∃ v us, e = .returned v ∧ OwnR w w' v us ((List.range (2 ^ zs.length)).map (cornF zs)) := by
  have Hv := Lib.hid hv
  have hpos := (vlB_iff.1 hv).1
  have hl8 := vlB_len hv
  clear hv
  have hBV := BValid_any a zs c w h (by omega)
  rw [Hv.out] at hBV
  go_enter Tryz.func16, Tryz.ntmps16
  go_wp2_with fail
  refine hBV.mono ?_
  rintro e w1 ⟨rfl, hk1⟩
  clear hBV
  have h44 : ¬ (4 : Int) < (zs.length : Int) := by omega
  have h45 : ¬ 4 < zs.length := by omega
  go_wp2_with fail
  obtain ⟨M, hM, hM1⟩ : ∃ M : Nat, M = 2 ^ zs.length ∧ M ≤ 16 := ⟨_, rfl, by
    have : 2 ^ zs.length ≤ 2 ^ 4 := Nat.pow_le_pow_right (by decide) h4
    simpa using this⟩
  have hpow : wrap64 ((2 : Int) ^ zs.length) = (M : Int) := by
    have : ((2 : Int) ^ zs.length) = (M : Int) := by rw [hM, Int.natCast_pow]; rfl
    rw [this]
    unfold wrap64
    omega

  have HM := Lib.hid hM
  clear hM
  rw [hpow]
  clear hpow
  go_loopw [3, 19] (fun v x wr => ∃ (k : Nat) (us : List Value), k ≤ M ∧ x = .int .i64 k ∧ OwnR w wr v us ((List.range k).map (cornF zs))) (fun _ x _ => M - (intOf x).toNat)
  case atStart => exact ⟨0, [], by omega, rfl, OwnR.nil hk1⟩
  case round =>
    obtain ⟨k, us, hk, rfl, hown⟩ := hrel
    by_cases hlt : k < M
    · have hki : (k : Int) < (M : Int) := by omega
      go_wp2_with fail
      obtain ⟨wo, hwo⟩ : ∃ wo : World, wo = wr := ⟨_, rfl⟩
      subst hwo
      go_loopw [5, 24] (fun v y wi => ∃ j : Nat, j ≤ zs.length ∧ y = .int .i64 j ∧ OwnD wo wi v ((cornF zs k).take j)) (fun _ y _ => zs.length - (intOf y).toNat)
      case atStart => exact ⟨0, by omega, rfl, OwnD.nil (Kp.refl _)⟩
      case round =>
        obtain ⟨j, hj, rfl, hin⟩ := hrel
        have hkw := hown.1.2.trans hin.1.2
        obtain ⟨L, hL⟩ : ∃ L, L = (cornF zs k).take j := ⟨_, rfl⟩
        rw [← hL] at hin
        have hlen8 : L.length + 1 ≤ 9000000 := by rw [hL]; simp; omega
        have HL := Lib.hid hL
        clear hL
        by_cases hlt2 : j < zs.length
        · obtain ⟨b2, o2, e2, hyw, j0, j1, j2, j3, j4, j5, j6⟩ := (h.kp hkw) j (zs[j]) (List.getElem?_eq_getElem hlt2)
          subst e2
          have hyo := (h.kp hown.1.2).rd (List.getElem_mem hlt2)
          have Hg := Lib.hid (cornF_get (List.getElem?_eq_getElem hlt2) k)
          generalize zs[j] = x at *
          have hi1 : (0 : Int) ≤ (j : Int) := by omega
          have hi2 : (j : Int) < (zs.length : Int) := by omega
          clear h
          have hbt := bit_test (k := k) (j := j) (by omega)
          by_cases hb : k / 2 ^ j % 2 = 1
          · rw [decide_eq_true hb] at hbt
            have Hs := Lib.hid (take_get (Hg.out.trans (congrArg some (if_pos hb))))
            clear hb
            go_wp2_with (at_builtin; refine wpList_append_dyd rfl _ _ rfl wo _ _ rfl (hin.kp (((Kp.refl wr).alloc (.cells #[.bool x.lo.neg, .slice x.lo.a x.lo.xs.length x.lo.c, .int .i64 x.lo.e, .bool x.hi.neg, .slice x.hi.a x.hi.xs.length x.hi.c, .int .i64 x.hi.e, .bool x.all] 34)).alloc (.cells #[.bool x.hi.neg, .slice x.hi.a x.hi.xs.length x.hi.c, .int .i64 x.hi.e] 25))) _ _ rfl x.hi hyo.2 (by simp) hlen8 ?_; intro a' c' w5 hown5 hb5)
            go_roundw
            case rel => exact ⟨j + 1, by omega, by go_num, by rw [Hs.out, ← HL.out]; exact hown5⟩
            case measure => simp [intOf]; omega
          · rw [decide_eq_false hb] at hbt
            have Hs := Lib.hid (take_get (Hg.out.trans (congrArg some (if_neg hb))))
            clear hb
            go_wp2_with (at_builtin; refine wpList_append_dyd rfl _ _ rfl wo _ _ rfl (hin.kp (((Kp.refl wr).alloc (.cells #[.bool x.lo.neg, .slice x.lo.a x.lo.xs.length x.lo.c, .int .i64 x.lo.e, .bool x.hi.neg, .slice x.hi.a x.hi.xs.length x.hi.c, .int .i64 x.hi.e, .bool x.all] 34)).alloc (.cells #[.bool x.lo.neg, .slice x.lo.a x.lo.xs.length x.lo.c, .int .i64 x.lo.e] 25))) _ _ rfl x.lo hyo.1 (by simp) hlen8 ?_; intro a' c' w5 hown5 hb5)
            go_roundw
            case rel => exact ⟨j + 1, by omega, by go_num, by rw [Hs.out, ← HL.out]; exact hown5⟩
            case measure => simp [intOf]; omega
        · have hLk : L = cornF zs k := by rw [HL.out, List.take_of_length_le (by rw [cornF_len]; omega)]
          have hLlen : L.length = zs.length := by rw [hLk, cornF_len]
          obtain ⟨g, c1, e1, hg1, hg2, hrow⟩ := hin.block (by omega)
          subst e1
          have hown2 := (hown.kp hin.1.2).kp ((Kp.refl wr).alloc (.cells #[.slice (some ⟨g, 0, none⟩) L.length c1] 28))
          have hlt3 : g < (wr.alloc (.cells #[.slice (some ⟨g, 0, none⟩) L.length c1] 28)).heap.size := by simp; omega
          have hrow2 := hrow.kp ((Kp.refl wr).alloc (.cells #[.slice (some ⟨g, 0, none⟩) L.length c1] 28))
          have hne : u3.ownBlock ≠ some g := fun e => by
            have := (hown.2.1.lt g e).2; omega
          have hrd : ∀ x, x ∈ L → x.rd w := fun x hx => by
            rw [hLk] at hx
            obtain ⟨i, hi⟩ := List.getElem?_of_mem hx
            have hil : i < zs.length := by have := (List.getElem?_eq_some_iff.1 hi).1; rwa [cornF_len] at this
            rw [cornF_get (List.getElem?_eq_getElem hil)] at hi
            cases hi
            have := h.rd (List.getElem_mem hil)
            split
            · exact this.2
            · exact this.1
          have hul : us.length + 1 ≤ 9000000 := by rw [hown.1.1]; simp; omega
          have HLk := Lib.hid hLk
          have Hrs := Lib.hid (range_snoc (cornF zs) k)
          clear hLk hLlen
          go_wp2_with (at_builtin; refine wpList_append_row rfl _ _ rfl w _ us _ rfl hown2 _ _ rfl g c1 L hrd hrow2 hne hlt3 (by simp) hul ?_; intro v' w5 hown5 hb5)
          go_roundw
          case rel => exact ⟨k + 1, _, by omega, by go_num, by rw [Hrs.out, ← HLk.out]; exact hown5⟩
          case measure => simp [intOf]; omega
    · have hke : k = M := by omega
      subst hke
      go_wp2
      go_ret
      rw [← HM.out]
      exact ⟨_, us, rfl, hown⟩
end Go.Proofs.YtkohlmlmoapedaaGreatDoor
end

section
namespace Go.Proofs.YtkohlmlmoapedaaGreatDoor
open Go.RowKit

/-- a whole number -/
def dyN (n : Nat) : Dy := canon false n 0
theorem dyN_ok {n : Nat} (h : n ≤ 1000000) : (dyN n).ok := by
  unfold dyN
  by_cases h0 : n = 0
  · subst h0; exact Dy.ok_zero
  have hb : bits n ≤ 20 := bits_le.2 (by omega)
  have hb1 := bits_oddp h0
  have hp := bits_pos (oddp_ne_zero h0)
  refine (canon_ok_iff _ _ _).2 (.inr ?_)
  rw [show (canon false n 0).m = oddp n by unfold canon; rw [if_neg h0], show (canon false n 0).e = (0 : Int) + tz n by unfold canon; rw [if_neg h0]]
  omega
theorem dyN_iv (n : Nat) : ∃ k : Nat, k = ((0 : Int) + 16384).toNat ∧ (dyN n).iv = ((n * 2 ^ k : Nat) : Int) := ⟨_, rfl, canon_iv false n 0 (by decide)⟩
theorem dyN_mono {m n : Nat} (h : m ≤ n) : (dyN m).iv ≤ (dyN n).iv := by
  obtain ⟨k, hk, e⟩ := dyN_iv n
  obtain ⟨j, hj, f⟩ := dyN_iv m
  rw [e, f, hj, ← hk]
  have := Nat.mul_le_mul_right (2 ^ k) h
  omega
theorem awake1_num (n : Nat) (w : World) (hn : n ≤ 1000000) :
    Calls Tryz.prog 14 #[.int .i64 n] w (NumOut w (dyN n)) := by
  refine (awake1_any n w (by omega)).mono fun e w' h => ?_
  obtain ⟨a, c, h1, h2, h3, h4, h5⟩ := h
  exact ⟨rdOf (dyN n) a c, h1, rdOf_rd (dyN_ok hn) h2 h3 h4, rdOf_dy _ _ _, fun hd => rdOf_vl hd _ _, h5⟩
theorem oddp_one : oddp 1 = 1 := oddp_odd rfl
theorem tz_one : tz 1 = 0 := tz_odd rfl
theorem bits_one : bits 1 = 1 := bits_two_pow 0
theorem canon_one (e : Int) : canon false 1 e = ⟨false, 1, e⟩ := by
  unfold canon
  rw [if_neg (by decide), oddp_one, tz_one]; simp
theorem dyN_one : dyN 1 = ⟨false, 1, 0⟩ := canon_one 0
theorem limbs_one : limbs 1 = [1] := by rw [limbs_pos (by decide), limbs_zero]
/-- a half -/
def dyH : Dy := ⟨false, 1, -1⟩
theorem dyH_ok : dyH.ok := .inr ⟨rfl, by show bits 1 ≤ 4096; rw [bits_one]; decide, by decide, by decide, by show (bits 1 : Int) + -1 ≤ 16384; rw [bits_one]; decide⟩
theorem rcut_one : rcut 1 0 false 8 false = some (dyN 1) := by
  have hu : runit 1 0 8 = -7 := by unfold runit; rw [bits_one]; decide
  have hq : rq 1 0 false 8 false = 2 ^ 7 := by
    unfold rq
    rw [hu]
    simp only [Bool.false_and, Bool.false_eq_true, if_false]
    unfold rlow
    rw [if_pos (by decide)]; decide
  unfold rcut
  rw [hu, hq, bits_two_pow, if_neg (by decide)]
  have := canon_shift false 1 7 (-7)
  rw [Nat.one_mul] at this
  rw [this]; rfl
theorem chk_half : chk (canon (dyN 1).neg (dyN 1).m ((dyN 1).e + -1)) = (dyH, 0) := by
  rw [dyN_one]
  show chk (canon false 1 (0 + -1)) = _
  rw [canon_one]
  exact chk_of_ok dyH_ok
theorem iv_false (m : Nat) (e : Int) : Dy.iv ⟨false, m, e⟩ = ((m * 2 ^ (e + 16384).toNat : Nat) : Int) := rfl
theorem half_iv : 0 ≤ dyH.iv ∧ dyH.iv ≤ (dyN 1).iv := by
  obtain ⟨k, hk, e⟩ := dyN_iv 1
  obtain ⟨j, hj⟩ : ∃ j : Nat, j = ((-1 : Int) + 16384).toNat := ⟨_, rfl⟩
  have h : dyH.iv = ((1 * 2 ^ j : Nat) : Int) := by unfold dyH; rw [iv_false, hj]
  have hjk : j ≤ k := by rw [hk, hj]; decide
  have := Nat.pow_le_pow_right (n := 2) (by decide) hjk
  rw [h, e]
  clear h e hk hj
  omega
theorem eqR_of {w w' : World} {x y : RD} (hx : x.rd w) (hy : y.rd w') (vx : x.vl = true) (vy : y.vl = true) (h : x.dy = y.dy) : eqR x y = true := by
  unfold eqR
  have h1 : x.neg = y.neg := congrArg Dy.neg h
  have h2 : x.e = y.e := congrArg Dy.e h
  have h3 : x.xs = y.xs := by rw [← RD.limbs hx vx, ← RD.limbs hy vy, h]
  simp [h1, h2, h3]
end Go.Proofs.YtkohlmlmoapedaaGreatDoor
end
