/-
  Walks: slices.Clone of intervals; box.precise, Split.
-/
import Derived.Test.YtkohlmlmoapedaaDoorMBoxD
import Derived.Test.YtkohlmlmoapedaaDoorMRoF
namespace Go.Proofs.YtkohlmlmoapedaaDoor
open Go.RowKit

theorem nil_ivl (w : World) (a : Option Addr) (n c n' c' : Nat) : (binOp .eql 22 (.slice a n c) (.slice none n' c')).run Tryd.prog w = .ok (.bool a.isNone) w :=
  Lib.run_eql_slice_nil w _ _ a n c n' c' Tryd.underlying22
/-- append of intervals that are read to the call's own slice -/
theorem wpList_append_ivls {w : World} {ops : Array Oper} {rest : List Oper} {o : Oper} {a : Act} {Q : Exit → Act → World → Prop} (hgd : o.guard = none) (s x : Operand)
    (ho : o.op = .call { callee := .builtin .append, args := #[s, x], argTypes := #[22, 22] })
    (wb : World) (v : Value) (zs : List RI) (hs : a.eval s = v) (hown : OwnI wb w v zs)
    (b o2 c : Nat) (ys : List RI) (hx : a.eval x = .slice (some ⟨b, o2, none⟩) ys.length c) (hy : ∀ y, y ∈ ys → y.rd wb)
    (hrow : RowI w (some ⟨b, o2, none⟩) ys) (hpos : 0 < ys.length) (hlen : zs.length + ys.length ≤ 9000000)
    (h : ∀ g c' w', OwnI wb w' (.slice (some ⟨g, 0, none⟩) (zs.length + ys.length) c') (zs ++ ys) → Below wb.heap.size w w' → wpList Tryd.prog ops Q rest (a.put o.dst (.slice (some ⟨g, 0, none⟩) (zs.length + ys.length) c')) w') :
    wpList Tryd.prog ops Q (o :: rest) a w := by
  obtain ⟨i0, hi, hz0, hz1, hz2⟩ := info_parts infoIvl
  refine wpList_append_lies w hgd s x 22 ho wb.heap.size 39 i0 (.agg #[.bool false, .slice none 0 0, .int .i64 0, .bool false, .slice none 0 0, .int .i64 0, .bool false]) 7 88 Tryd.underlying22 hi hz0 hz1 hz2 rfl (by decide) v zs.length (zs.flatMap RI.cells) hs hown.2
    ⟨b, o2, none⟩ ys.length c (ys.flatMap RI.cells) hx (flat_len ys) ?_ ?_ hpos (by unfold maxLen; omega) (by omega) hown.1.2.size w.heap.size rfl ?_
  · intro j u hj
    have hjl : j < ys.length * 7 := by have := (List.getElem?_eq_some_iff.1 hj).1; rwa [flat_len] at this
    obtain ⟨k, r, hr, rfl⟩ : ∃ k r, r < 7 ∧ j = k * 7 + r := ⟨j / 7, j % 7, Nat.mod_lt _ (by decide), by omega⟩
    have hk : k < ys.length := by omega
    obtain ⟨b', o', e', _, h0, h1, h2, h3, h4, h5, h6⟩ := hrow k ys[k] (List.getElem?_eq_getElem hk)
    cases e'
    rw [flat_get (List.getElem?_eq_getElem hk) hr] at hj
    rw [Addr.add_lit]
    match r, hr, hj with
    | 0, _, hj => cases hj; exact h0
    | 1, _, hj => cases hj; exact h1
    | 2, _, hj => cases hj; exact h2
    | 3, _, hj => cases hj; exact h3
    | 4, _, hj => cases hj; exact h4
    | 5, _, hj => cases hj; exact h5
    | 6, _, hj => cases hj; exact h6
    | r + 7, hr, _ => omega
  · intro u hu
    obtain ⟨y, _, hu⟩ := List.mem_flatMap.1 hu
    simp only [RI.cells, List.mem_cons, List.not_mem_nil, or_false] at hu
    rcases hu with rfl | rfl | rfl | rfl | rfl | rfl | rfl <;> rfl
  · intro g' cap w' h1 h2 _ _
    have hb : Below wb.heap.size w w' := (Below.refl wb.heap.size w).grown h2 hown.1.2.size (fun k hk => (hown.2.lt k hk).1)
    refine h _ _ w' ⟨⟨fun x hx => ?_, Below.trans hown.1.2 hb⟩, ?_⟩ hb
    · rcases List.mem_append.1 hx with hx | hx
      · exact hown.1.1 x hx
      · exact hy x hx
    · rw [List.flatMap_append, List.length_append]
      simpa using h1
theorem OwnI.empty {wb w : World} (k : Kp wb w) : OwnI wb (w.alloc (.cells #[] 39)) (.slice (some ⟨w.heap.size, 0, none⟩) 0 0) [] :=
  ⟨⟨fun _ h => by simp at h, k.alloc _⟩, World.ownsRow_made w #[] 0 k.size (Nat.zero_le _) rfl⟩
set_option maxHeartbeats 4000000 in
theorem cloneI_any (b o c : Nat) (zs : List RI) (w : World) (h : RowI w (some ⟨b, o, none⟩) zs) (hpos : 0 < zs.length) (hl : zs.length ≤ 1100000) :
    Calls Tryd.prog 41 #[.slice (some ⟨b, o, none⟩) zs.length c] w fun e w' => ∃ g c', e = .returned (.slice (some ⟨g, 0, none⟩) zs.length c') ∧ OwnI w w' (.slice (some ⟨g, 0, none⟩) zs.length c') zs := by
  have hn := nil_ivl
  have hrow := h.kp ((Kp.refl w).alloc (.cells #[] 39))
  have hown := OwnI.empty (Kp.refl w)
  have hrd : ∀ y, y ∈ zs → y.rd w := fun y hy => h.rd hy
  clear h
  go_enter Tryd.func41, Tryd.ntmps41
  go_wp2_with (at_builtin; refine wpList_append_ivls rfl _ _ rfl w _ _ rfl hown _ _ _ zs rfl hrd hrow hpos (by simp; omega) ?_; intro g c' w5 hown5 hb5)
  go_ret
  rw [List.nil_append, List.length_nil, Nat.zero_add] at hown5
  exact ⟨g, c', by simp, hown5⟩
theorem boxprecise_any (p : Int) (w : World) :
    Calls Tryd.prog 39 #[.int .i64 p] w fun e w' => e = .returned (.bool (preB p)) ∧ w = w' := by
  by_cases h1 : 8 ≤ p
  · by_cases h2 : p ≤ 512
    · have H := Lib.hid (show preB p = true from decide_eq_true ⟨h1, h2⟩)
      go_enter Tryd.func39, Tryd.ntmps39
      go_wp2_with fail
      go_ret
      exact ⟨ret_bool (by first | exact H.out.symm | (rw [H.out]; simp; omega)), rfl⟩
    · have H := Lib.hid (show preB p = false from decide_eq_false (by omega))
      go_enter Tryd.func39, Tryd.ntmps39
      go_wp2_with fail
      go_ret
      exact ⟨ret_bool (by first | exact H.out.symm | (rw [H.out]; simp; omega)), rfl⟩
  · have H := Lib.hid (show preB p = false from decide_eq_false (by omega))
    go_enter Tryd.func39, Tryd.ntmps39
    go_wp2_with fail
    go_ret
    exact ⟨ret_bool (by first | exact H.out.symm | (rw [H.out]; simp; omega)), rfl⟩
/-- three cells stored from offset 3 on -/
def Stored345 (g : Nat) (x0 x1 x2 : Value) (w W : World) : Prop :=
  W.cell? ⟨g, 3, none⟩ = some x0 ∧ W.cell? ⟨g, 4, none⟩ = some x1 ∧ W.cell? ⟨g, 5, none⟩ = some x2 ∧
  (∀ a xs, Rd w a xs → Rd W a xs) ∧ (∀ a : World, Kp a w → a.heap.size ≤ g → Kp a W) ∧ (∀ p : Addr, p.block ≠ g → W.cell? p = w.cell? p)
theorem stored345 {w : World} {g : Nat} {y0 y1 y2 : Value} (q0 : w.cell? ⟨g, 3, none⟩ = some y0) (q1 : w.cell? ⟨g, 4, none⟩ = some y1) (q2 : w.cell? ⟨g, 5, none⟩ = some y2)
    (n0 : ∀ n : Int, y0 ≠ .int .u32 n) (n1 : ∀ n : Int, y1 ≠ .int .u32 n) (n2 : ∀ n : Int, y2 ≠ .int .u32 n) (x0 x1 x2 : Value) :
    Stored345 g x0 x1 x2 w (((w.setCell ⟨g, 3, none⟩ x0).setCell ⟨g, 4, none⟩ x1).setCell ⟨g, 5, none⟩ x2) := by
  have ne (i j : Nat) (h : i ≠ j) : (⟨g, i, none⟩ : Addr) ≠ ⟨g, j, none⟩ := fun e => h (by injection e)
  have a1 : (w.setCell ⟨g, 3, none⟩ x0).cell? ⟨g, 4, none⟩ = some y1 := by rw [cell_set_ne (ne 3 4 (by decide))]; exact q1
  have a2 : ((w.setCell ⟨g, 3, none⟩ x0).setCell ⟨g, 4, none⟩ x1).cell? ⟨g, 5, none⟩ = some y2 := by
    rw [cell_set_ne (ne 4 5 (by decide)), cell_set_ne (ne 3 5 (by decide))]; exact q2
  refine ⟨?_, ?_, cell_set_eq a2, fun a xs h => ((h.other q0 n0).other a1 n1).other a2 n2, fun a h hg => ((h.set hg _).set hg _).set hg _, fun p hp => ?_⟩
  · rw [cell_set_ne (ne 5 3 (by decide)), cell_set_ne (ne 4 3 (by decide))]; exact cell_set_eq q0
  · rw [cell_set_ne (ne 5 4 (by decide))]; exact cell_set_eq a1
  · have hne (i : Nat) : (⟨g, i, none⟩ : Addr) ≠ p := fun e => hp (by rw [← e])
    rw [cell_set_ne (hne 5), cell_set_ne (hne 4), cell_set_ne (hne 3)]
theorem set3g {w : World} {g b i j k : Nat} (n : b ≠ g) {v0 v1 v2 x0 x1 x2 : Value} (h : w.cell? ⟨b, 0, none⟩ = some v0 ∧ w.cell? ⟨b, 1, none⟩ = some v1 ∧ w.cell? ⟨b, 2, none⟩ = some v2) :
    (((w.setCell ⟨g, i, none⟩ x0).setCell ⟨g, j, none⟩ x1).setCell ⟨g, k, none⟩ x2).cell? ⟨b, 0, none⟩ = some v0 ∧ (((w.setCell ⟨g, i, none⟩ x0).setCell ⟨g, j, none⟩ x1).setCell ⟨g, k, none⟩ x2).cell? ⟨b, 1, none⟩ = some v1 ∧ (((w.setCell ⟨g, i, none⟩ x0).setCell ⟨g, j, none⟩ x1).setCell ⟨g, k, none⟩ x2).cell? ⟨b, 2, none⟩ = some v2 := by
  have ne (i j : Nat) : (⟨g, i, none⟩ : Addr) ≠ ⟨b, j, none⟩ := fun e => n (by injection e with e1; exact e1.symm)
  have key (l : Nat) : (((w.setCell ⟨g, i, none⟩ x0).setCell ⟨g, j, none⟩ x1).setCell ⟨g, k, none⟩ x2).cell? ⟨b, l, none⟩ = w.cell? ⟨b, l, none⟩ := by
    rw [cell_set_ne (ne k l), cell_set_ne (ne j l), cell_set_ne (ne i l)]
  simp only [key]
  exact h
theorem set3gd {w : World} {g b i j k : Nat} (n : b ≠ g) {v0 v1 v2 x0 x1 x2 : Value} (h : w.drew.cell? ⟨b, 0, none⟩ = some v0 ∧ w.drew.cell? ⟨b, 1, none⟩ = some v1 ∧ w.drew.cell? ⟨b, 2, none⟩ = some v2) :
    (((w.setCell ⟨g, i, none⟩ x0).setCell ⟨g, j, none⟩ x1).setCell ⟨g, k, none⟩ x2).drew.cell? ⟨b, 0, none⟩ = some v0 ∧ (((w.setCell ⟨g, i, none⟩ x0).setCell ⟨g, j, none⟩ x1).setCell ⟨g, k, none⟩ x2).drew.cell? ⟨b, 1, none⟩ = some v1 ∧ (((w.setCell ⟨g, i, none⟩ x0).setCell ⟨g, j, none⟩ x1).setCell ⟨g, k, none⟩ x2).drew.cell? ⟨b, 2, none⟩ = some v2 := set3g (w := w) n h
/-- what two cells of halves hold -/
def SplitOut (w : World) (n : Nat) (C : Dy) (e : Ending) (w' : World) : Prop :=
  ∃ g1 c1 g2 c2, ∃ y : RD, e = .returned (.tuple #[.slice (some ⟨g1, 0, none⟩) n c1, .slice (some ⟨g2, 0, none⟩) n c2, .int .i64 0]) ∧
    ((w'.cell? ⟨g1, 3, none⟩ = some (.bool y.neg) ∧ w'.cell? ⟨g1, 4, none⟩ = some (.slice y.a y.xs.length y.c) ∧ w'.cell? ⟨g1, 5, none⟩ = some (.int .i64 y.e)) ∧ w'.cell? ⟨g2, 0, none⟩ = some (.bool y.neg) ∧ w'.cell? ⟨g2, 1, none⟩ = some (.slice y.a y.xs.length y.c) ∧ w'.cell? ⟨g2, 2, none⟩ = some (.int .i64 y.e)) ∧ y.rd w' ∧ y.dy = C ∧ (C.ok → y.vl = true) ∧ Kp w w'
theorem OwnI.block {wb w : World} {g n c : Nat} {zs : List RI} (h : OwnI wb w (.slice (some ⟨g, 0, none⟩) n c) zs) : wb.heap.size ≤ g ∧ g < w.heap.size ∧ (∀ i, w.frozen? ⟨g, i, none⟩ = false) := by
  obtain ⟨h1, h2, h3⟩ := h
  rcases h3 with ⟨h4, _⟩ | ⟨g', cap, cur, h4, hb, hg, hn, hc, hs, ht⟩
  · cases h4
  · cases h4
    exact ⟨hb, (Array.getElem?_eq_some_iff.1 hg).1, fun i => frozen_of_row w g _ _ _ hg⟩
set_option maxRecDepth 100000 in
set_option maxHeartbeats 8000000 in
theorem Split_of (b o c p : Nat) (x : RI) (zs : List RI) (C : Dy) (w : World) (h : RowI w (some ⟨b, o, none⟩) (x :: zs)) (hv : vlB (x :: zs) = true) (hp0 : 8 ≤ p) (hp1 : p ≤ 512)
    (hmid : ∀ W, Kp w W → Calls Tryd.prog 40 #[.agg #[.bool x.lo.neg, .slice x.lo.a x.lo.xs.length x.lo.c, .int .i64 x.lo.e, .bool x.hi.neg, .slice x.hi.a x.hi.xs.length x.hi.c, .int .i64 x.hi.e, .bool false], .int .i64 p] W (NumOut W C)) :
    Calls Tryd.prog 18 #[.slice (some ⟨b, o, none⟩) (x :: zs).length c, .int .i64 0, .int .i64 p] w (SplitOut w (x :: zs).length C) := by
  have Hmid := Lib.hid hmid
  have Hp := Lib.hid (show preB (p : Int) = true from preB_iff.2 ⟨by omega, by omega⟩)
  have Hv := Lib.hid hv
  have hpos : 0 < (x :: zs).length := by simp
  have hl8 := vlB_len hv
  have hxa : x.all = false := (vlB_ok h hv (by simp : x ∈ x :: zs)).2.1
  clear hmid hv
  generalize hL : x :: zs = L at *
  have hx0 : L[0]? = some x := by rw [← hL]; rfl
  have Hx0 := Lib.hid hx0
  clear hx0 hL
  go_enter Tryd.func18, Tryd.ntmps18
  go_wp2_with fail
  refine (BValid_any _ L c _ h (by omega)).mono ?_
  rw [Hv.out]
  rintro e w1 ⟨rfl, hk1⟩
  go_wp2_with fail
  refine (boxprecise_any p _).mono ?_
  rw [Hp.out]
  rintro e w2 ⟨rfl, rfl⟩
  obtain ⟨_, _, e1, hxr, h0, h1, h2, h3, h4, h5, h6⟩ := (h.kp hk1) 0 x Hx0.out
  cases e1
  rw [hxa] at h6
  have hp : (0 : Int) < (L.length : Int) := by omega
  have hLe : ¬ L = [] := fun e => by rw [e] at hpos; simp at hpos
  simp only [Nat.zero_mul, Nat.add_zero] at h0 h1 h2 h3 h4 h5 h6
  go_wp2_with fail
  refine (Hmid.out _ hk1).mono ?_
  rintro e w3 ⟨y, rfl, hyr, hyd, hyv, hk3⟩
  have hk4 := hk1.trans (hk3.alloc (.cells #[.bool y.neg, .slice y.a y.xs.length y.c, .int .i64 y.e] 36))
  have hyr4 := hyr.kp ((Kp.refl w3).alloc (.cells #[.bool y.neg, .slice y.a y.xs.length y.c, .int .i64 y.e] 36))
  have hY : Box3 _ w3.heap.size (.bool y.neg) (.slice y.a y.xs.length y.c) (.int .i64 y.e) := Box3.new w3 _ _ _ 36
  have hz3 : w3.heap.size < (w3.alloc (.cells #[.bool y.neg, .slice y.a y.xs.length y.c, .int .i64 y.e] 36)).heap.size := by simp
  clear h0 h1 h2 h3 h4 h5 h6 hk3 hyr hxr
  go_wp2_with fail
  generalize w3.alloc _ = W4 at *
  refine (cloneI_any b o c L _ (h.kp hk4) hpos (by omega)).mono ?_
  rintro e w5 ⟨g1, c1, rfl, hown1⟩
  go_wp2_with fail
  refine (cloneI_any b o c L _ ((h.kp hk4).kp hown1.1.2) hpos (by omega)).mono ?_
  rintro e w6 ⟨g2, c2, rfl, hown2⟩
  have hk5 := hown1.1.2
  have hk6 := hown2.1.2
  have B1 := hown1.block
  have B2 := hown2.block
  obtain ⟨_, _, e1, _, h0, h1, h2, h3, h4, h5, h6⟩ := (RowI.kp (by obtain ⟨_, _, e, _, _, hr⟩ := hown1.value; cases e; exact hr) hk6) 0 x Hx0.out
  cases e1
  obtain ⟨_, _, e1, _, j0, j1, j2, j3, j4, j5, j6⟩ := (by obtain ⟨_, _, e, _, _, hr⟩ := hown2.value; cases e; exact hr : RowI w6 (some ⟨g2, 0, none⟩) L) 0 x Hx0.out
  cases e1
  simp only [Nat.zero_mul, Nat.add_zero, Nat.zero_add] at h0 h1 h2 h3 h4 h5 h6 j0 j1 j2 j3 j4 j5 j6
  have f3 := (Below.frozen hk6 (p := ⟨g1, 3, none⟩) B1.2.1).trans (B1.2.2 3)
  have f4 := (Below.frozen hk6 (p := ⟨g1, 4, none⟩) B1.2.1).trans (B1.2.2 4)
  have f5 := (Below.frozen hk6 (p := ⟨g1, 5, none⟩) B1.2.1).trans (B1.2.2 5)
  have e0 := B2.2.2 0
  have e1 := B2.2.2 1
  have e2 := B2.2.2 2
  have b12 : g1 < g2 := by omega
  have n12 : ¬ g1 = g2 := by omega
  have n21 : ¬ g2 = g1 := by omega
  have m1 : w3.heap.size < g1 := by omega
  have hY6 := (hY.kp hk5).kp hk6
  have hS : w6.cell? ⟨w3.heap.size, 0, none⟩ = some (.bool y.neg) ∧ w6.cell? ⟨w3.heap.size, 1, none⟩ = some (.slice y.a y.xs.length y.c) ∧ w6.cell? ⟨w3.heap.size, 2, none⟩ = some (.int .i64 y.e) := ⟨hY6.1, hY6.2.1, hY6.2.2.1⟩
  have hS1 := keep3 (Kp.refl w6).drew hS
  have hyr6 := ((hyr4.kp hk5).kp hk6)
  have hk7 : Kp w w6 := (hk4.trans (hk5.trans hk6))
  have wg : w.heap.size ≤ g1 := by have := hk4.size; omega
  clear h0 h1 h2 h6 j3 j4 j5 j6 hS hY6 hY hk4 hk5 hk6 hown1 hown2 B1 B2 hyr4 hz3
  go_wp2_with fail
  go_region_held3 (fun w' => w'.cell? ⟨w3.heap.size, 0, none⟩ = some (.bool y.neg) ∧ w'.cell? ⟨w3.heap.size, 1, none⟩ = some (.slice y.a y.xs.length y.c) ∧ w'.cell? ⟨w3.heap.size, 2, none⟩ = some (.int .i64 y.e)) (first | with_reducible assumption | with_reducible exact set3gd (by omega) (by assumption)) (fail)
  · have hst := stored345 h3 h4 h5 (fun _ h => by cases h) (fun _ h => by cases h) (fun _ h => by cases h) (.bool y.neg) (.slice y.a y.xs.length y.c) (.int .i64 y.e)
    generalize (((w6.setCell _ _).setCell _ _).setCell _ _) = W7 at hst ⊢
    obtain ⟨s0, s1, s2, s4, s5, s6⟩ := hst
    have e6 (i : Nat) : W7.cell? ⟨g2, i, none⟩ = w6.cell? ⟨g2, i, none⟩ := s6 ⟨g2, i, none⟩ n21
    rw [← e6] at j0 j1 j2
    have hst := stored j0 j1 j2 (fun _ h => by cases h) (fun _ h => by cases h) (fun _ h => by cases h) (.bool y.neg) (.slice y.a y.xs.length y.c) (.int .i64 y.e)
    generalize (((W7.setCell _ _).setCell _ _).setCell _ _) = W8 at hst ⊢
    obtain ⟨t0, t1, t2, _, t4, t5, t6, _⟩ := hst
    have k6 (i : Nat) : W8.cell? ⟨g1, i, none⟩ = W7.cell? ⟨g1, i, none⟩ := t6 ⟨g1, i, none⟩ n12
    rw [← k6] at s0 s1 s2
    have hfin : SplitOut w L.length C (.returned (.tuple #[.slice (some ⟨g1, 0, none⟩) L.length c1, .slice (some ⟨g2, 0, none⟩) L.length c2, .int .i64 0])) W8.drew :=
      ⟨g1, c1, g2, c2, y, rfl, ⟨⟨s0, s1, s2⟩, t0, t1, t2⟩, RD.rd.drew ⟨t4 _ _ (s4 _ _ hyr6.1), hyr6.2⟩, hyd, hyv, (t5 _ (s5 _ hk7 wg) (by omega)).drew⟩
    clear s0 s1 s2 t0 t1 t2 s4 s5 s6 t4 t5 t6 e6 k6 h3 h4 h5 j0 j1 j2
    go_wp2_with fail
    go_ret3
    exact hfin
end Go.Proofs.YtkohlmlmoapedaaDoor
