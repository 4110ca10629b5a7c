/-
  Rows of intervals that are made; an append at a step of a region that draws.
  Walks: matrix.Mul.
-/
import Derived.Test.YtdidocdpjiiedaaGreatDoorMOwnD
import Derived.Test.YtdidocdpjiiedaaGreatDoorMDotM
import Derived.Deep.RegionHeld3
import Derived.Deep.RegionLaw
import Derived.Deep.CutRange
section
namespace Go.Proofs.YtdidocdpjiiedaaGreatDoor
open Go.RowKit

/-- make([][]api.Interval, n) -/
theorem make_rows (i : Int) (n : Nat) (e : i = n) (hn : n ≤ 9000000) (u : World) : (Instr.makeSlice 22 (.int .i64 i) (.int .i64 i)).run Tryz.prog u =
    .ok (.slice (some ⟨u.heap.size, 0, none⟩) n n) (u.alloc (.cells (madeCells #[.slice none 0 0] n) 40)) := by
  subst e
  obtain ⟨i0, hi, hz0, hz1, hz2⟩ := info_parts infoSlI
  have h := run_make (P := Tryz.prog) u 22 40 i0 (.slice none 0 0) Tryz.underlying22 hi hz0 .i64 .i64 (n : Int) (n : Int) (by omega) (Int.le_refl _) (by rw [hz2]; omega) (by omega)
  simpa [hz1, Value.cells] using h
theorem OutH.made (w : World) (n : Nat) : OutH w (w.alloc (.cells (madeCells #[.slice none 0 0] n) 40)) w.heap.size n [] := by
  have hg := heap_alloc_new w (.cells (madeCells #[.slice none 0 0] n) 40)
  refine ⟨⟨Nat.le_refl _, by simp, by simp⟩, (Kp.refl w).alloc _, fun i _ => frozen_of_row _ _ _ _ _ hg, fun i _ hi => ?_, fun i r h => by simp at h⟩
  rw [cell_of_row _ _ _ _ _ _ hg, ← Array.getElem?_toList, toList_madeCells_one]
  simp [hi]
theorem step_append_ivg {w : World} {ops : Array Oper} {o : Oper} {a : Act} {K : Act → World → Prop} {Q : Exit → Act → World → Prop} {E : Prop} (hgd : o.guard = none) (s x : Operand)
    (ho : o.op = .call { callee := .builtin .append, args := #[s, x], argTypes := #[40, 40] })
    (wb : World) (v : Value) (zs : List RI) (hs : a.eval s = v) (hown : OwnN wb w v zs)
    (g c : Nat) (hx : a.eval x = .slice (some ⟨g, 0, none⟩) 1 c) (y : RI) (hy : y.rd w)
    (hcell : w.cell? ⟨g, 0, none⟩ = some (.bool y.lo.neg) ∧ w.cell? ⟨g, 1, none⟩ = some (.slice y.lo.a y.lo.xs.length y.lo.c) ∧ w.cell? ⟨g, 2, none⟩ = some (.int .i64 y.lo.e) ∧ w.cell? ⟨g, 3, none⟩ = some (.bool y.hi.neg) ∧ w.cell? ⟨g, 4, none⟩ = some (.slice y.hi.a y.hi.xs.length y.hi.c) ∧ w.cell? ⟨g, 5, none⟩ = some (.int .i64 y.hi.e) ∧ w.cell? ⟨g, 6, none⟩ = some (.bool y.all)) (hlen : zs.length + 1 ≤ 9000000)
    (h : ∀ a' c' w', OwnN wb w' (.slice a' (zs.length + 1) c') (zs ++ [y]) → w.grownBy w' v.ownBlock → (v.ownBlock = (Value.slice a' (zs.length + 1) c').ownBlock ∨ (Value.slice a' (zs.length + 1) c').ownBlock = some w.heap.size) → K (a.put o.dst (.slice a' (zs.length + 1) c')) w') :
    if Region.wanted o (yielded ops a.tmps) = true then Oper.wp Tryz.prog o a w K Q else E := by
  have hw : Region.wanted o (yielded ops a.tmps) = true := by simp [Region.wanted, hgd]
  rw [if_pos hw]
  obtain ⟨i0, hi, hz0, hz1, hz2⟩ := info_parts infoIvl
  obtain ⟨hk, hown1, hall, hrows⟩ := hown
  obtain ⟨g', cap, w', hr, h1, h2, h3, h6⟩ := append_all (P := Tryz.prog) w NoU 40 o.type wb.heap.size 43 i0 (.agg #[.bool false, .slice none 0 0, .int .i64 0, .bool false, .slice none 0 0, .int .i64 0, .bool false]) 7 88 Tryz.underlying40 hi hz0 hz1 hz2 rfl (by decide) v zs.length (zs.flatMap RI.cells) hown1
    ⟨g, 0, none⟩ 1 c y.cells rfl (by
      intro j u hj
      obtain ⟨h0, h1, h2, h3, h4, h5, h6⟩ := hcell
      match j, hj with
      | 0, hj => cases hj; simpa [Addr.add] using h0
      | 1, hj => cases hj; simpa [Addr.add] using h1
      | 2, hj => cases hj; simpa [Addr.add] using h2
      | 3, hj => cases hj; simpa [Addr.add] using h3
      | 4, hj => cases hj; simpa [Addr.add] using h4
      | 5, hj => cases hj; simpa [Addr.add] using h5
      | 6, hj => cases hj; simpa [Addr.add] using h6
      | j + 7, hj => simp [RI.cells] at hj) (by
      intro u hu
      simp only [RI.cells, List.mem_cons, List.not_mem_nil, or_false] at hu
      rcases hu with rfl | rfl | rfl | rfl | rfl | rfl | rfl <;> rfl) (by decide) (by unfold maxLen; omega) (by omega) hk.size hall noU_cells (by
      intro u hu y e
      simp [Value.cells] at hu
      rcases hu with rfl | rfl | rfl | rfl | rfl | rfl | rfl <;> cases e)
  unfold Oper.wp execOp
  simp only [ho, resolve, invoke, builtin, Sem.run_bind, Sem.run_pure, Result.andThen_ok, List.map_toArray, List.map_cons, List.map_nil, hs, hx, hr]
  have hb : Below wb.heap.size w w' := (Below.refl wb.heap.size w).grown h2 hk.size (fun k hk => (hown1.lt k hk).1)
  refine h _ _ w' ⟨Below.trans hk hb, ?_, h6, fun q hq => ?_⟩ h2 ?_
  · rw [List.flatMap_append, List.length_append]
    simpa using h1
  · rcases List.mem_append.1 hq with hq | hq
    · exact (hrows q hq).far h2 hall
    · simp only [List.mem_singleton] at hq
      subst hq
      exact hy.far h2 hall
  · rcases h3 with h3 | h3
    · exact .inl h3
    · subst h3; exact .inr rfl
/-- what the store behind the append asks for -/
theorem OutM.cellF {wb w : World} {g n : Nat} {R : List (List RI)} {v : Value} {cur : List RI} (h : OutM wb w g n R v cur) : w.cell? ⟨g, R.length, none⟩ = some v ∧ w.frozen? ⟨g, R.length, none⟩ = false :=
  ⟨h.2.2.1, h.2.2.2.1 _ h.1.2.2.1⟩
theorem OutM.cellG {wb w w' : World} {g n : Nat} {R : List (List RI)} {v : Value} {cur : List RI} (h : OutM wb w g n R v cur) (hg : w.grownBy w' v.ownBlock) : w'.cell? ⟨g, R.length, none⟩ = some v ∧ w'.frozen? ⟨g, R.length, none⟩ = false := by
  obtain ⟨⟨h1, h2, h3, h4⟩, ho0, hv0, hf, hz, hr⟩ := h
  refine ⟨hg.cell hv0 (fun e => h4 e.symm), ?_⟩
  have := hg.block g h2 (fun e => h4 e.symm)
  have hh := hf _ h3
  unfold World.frozen? at hh ⊢
  rw [this]; exact hh
theorem OwnN.noU {wb w : World} {v : Value} {zs : List RI} (h : OwnN wb w v zs) : NoU v := by
  obtain ⟨a, c, e, _⟩ := h.value
  subst e
  intro x h; cases h
end Go.Proofs.YtdidocdpjiiedaaGreatDoor
end

section
namespace Go.Proofs.YtdidocdpjiiedaaGreatDoor
open Go.RowKit

theorem set10 {w : World} {g bb bj b2 o2 b o : Nat} (n1 : bb ≠ g) (n2 : bj ≠ g) (n3 : b2 ≠ g) (n : b ≠ g) {u0 u1 u2 v0 v1 v2 v3 v4 v5 v6 x0 x1 x2 x3 x4 x5 x6 : Value}
    (h : w.cell? ⟨bb, 0, none⟩ = some u0 ∧ w.cell? ⟨bj, 0, none⟩ = some u1 ∧ w.cell? ⟨b2, o2, none⟩ = some u2 ∧ w.cell? ⟨b, o, none⟩ = some v0 ∧ w.cell? ⟨b, o + 1, none⟩ = some v1 ∧ w.cell? ⟨b, o + 2, none⟩ = some v2 ∧ w.cell? ⟨b, o + 3, none⟩ = some v3 ∧ w.cell? ⟨b, o + 4, none⟩ = some v4 ∧ w.cell? ⟨b, o + 5, none⟩ = some v5 ∧ w.cell? ⟨b, o + 6, none⟩ = some v6) :
    (fun W : World => W.cell? ⟨bb, 0, none⟩ = some u0 ∧ W.cell? ⟨bj, 0, none⟩ = some u1 ∧ W.cell? ⟨b2, o2, none⟩ = some u2 ∧ W.cell? ⟨b, o, none⟩ = some v0 ∧ W.cell? ⟨b, o + 1, none⟩ = some v1 ∧ W.cell? ⟨b, o + 2, none⟩ = some v2 ∧ W.cell? ⟨b, o + 3, none⟩ = some v3 ∧ W.cell? ⟨b, o + 4, none⟩ = some v4 ∧ W.cell? ⟨b, o + 5, none⟩ = some v5 ∧ W.cell? ⟨b, o + 6, none⟩ = some v6)
      (((((((w.setCell ⟨g, 0, none⟩ x0).setCell ⟨g, 1, none⟩ x1).setCell ⟨g, 2, none⟩ x2).setCell ⟨g, 3, none⟩ x3).setCell ⟨g, 4, none⟩ x4).setCell ⟨g, 5, none⟩ x5).setCell ⟨g, 6, none⟩ x6) := by
  have ne (i : Nat) (c j : Nat) (n : c ≠ g) : (⟨g, i, none⟩ : Addr) ≠ ⟨c, j, none⟩ := fun e => n (by injection e with e1; exact e1.symm)
  have key (c j : Nat) (n : c ≠ g) : (((((((w.setCell ⟨g, 0, none⟩ x0).setCell ⟨g, 1, none⟩ x1).setCell ⟨g, 2, none⟩ x2).setCell ⟨g, 3, none⟩ x3).setCell ⟨g, 4, none⟩ x4).setCell ⟨g, 5, none⟩ x5).setCell ⟨g, 6, none⟩ x6).cell? ⟨c, j, none⟩ = w.cell? ⟨c, j, none⟩ := by
    rw [cell_set_ne (ne 6 c j n), cell_set_ne (ne 5 c j n), cell_set_ne (ne 4 c j n), cell_set_ne (ne 3 c j n), cell_set_ne (ne 2 c j n), cell_set_ne (ne 1 c j n), cell_set_ne (ne 0 c j n)]
  simp only [key _ _ n1, key _ _ n2, key _ _ n3, key _ _ n]
  exact h
theorem keep10 {w w' : World} (k : Kp w w') {p0 p1 p2 p3 p4 p5 p6 p7 p8 p9 : Addr} {u0 u1 u2 v0 v1 v2 v3 v4 v5 v6 : Value} (h : w.cell? p0 = some u0 ∧ w.cell? p1 = some u1 ∧ w.cell? p2 = some u2 ∧ w.cell? p3 = some v0 ∧ w.cell? p4 = some v1 ∧ w.cell? p5 = some v2 ∧ w.cell? p6 = some v3 ∧ w.cell? p7 = some v4 ∧ w.cell? p8 = some v5 ∧ w.cell? p9 = some v6) : w'.cell? p0 = some u0 ∧ w'.cell? p1 = some u1 ∧ w'.cell? p2 = some u2 ∧ w'.cell? p3 = some v0 ∧ w'.cell? p4 = some v1 ∧ w'.cell? p5 = some v2 ∧ w'.cell? p6 = some v3 ∧ w'.cell? p7 = some v4 ∧ w'.cell? p8 = some v5 ∧ w'.cell? p9 = some v6 := by
  obtain ⟨h0, h1, h2, h3, h4, h5, h6, h7, h8, h9⟩ := h
  exact ⟨k.cell h0, k.cell h1, k.cell h2, k.cell h3, k.cell h4, k.cell h5, k.cell h6, k.cell h7, k.cell h8, k.cell h9⟩
set_option maxRecDepth 100000 in
set_option maxHeartbeats 4000000 in
theorem mulat_any (m : List (List RI)) (a : Option Addr) (c k j bb bj : Nat) (w : World) (hm : RowM w a m) (hv : vlM m = true) (hb : w.cell? ⟨bb, 0, none⟩ = some (.slice a m.length c)) (hj : w.cell? ⟨bj, 0, none⟩ = some (.int .i64 (j : Int)))
    (hk : k < m.length) (hj2 : j < colsM m) :
    Calls Tryz.prog 64 #[.int .i64 (k : Int), .pointer (some ⟨bb, 0, none⟩), .pointer (some ⟨bj, 0, none⟩)] w (IvOut w (atP m k j)) := by
  obtain ⟨r, x, hr, hx, hxv, hat⟩ := vlM_get hv hk hj2
  have HX := Lib.hid (show x.pl = atP m k j by unfold atP; rw [hat])
  have Hv := Lib.hid hxv
  have hlb := (vlM_iff.1 hv).1.2
  have hlr : r.length ≤ 8 := by rw [(vlM_row hv hr).1]; exact (vlM_iff.1 hv).2.1.2
  have hjr := (List.getElem?_eq_some_iff.1 hx).1
  obtain ⟨b2, o2, ra, rc, rfl, hc2, hrow, _⟩ := hm k r hr
  obtain ⟨b3, o3, rfl, hrd, hS⟩ := hrow j x hx
  have k1 := (Kp.refl w).alloc (.cells #[.bool false, .slice none 0 0, .int .i64 0, .bool false, .slice none 0 0, .int .i64 0, .bool false] 43)
  have k2 := Lib.hid k1
  have n1 : bb ≠ w.heap.size := Nat.ne_of_lt (World.block_lt_of_cell? w _ hb)
  have n2 : bj ≠ w.heap.size := Nat.ne_of_lt (World.block_lt_of_cell? w _ hj)
  have n3 : b2 ≠ w.heap.size := Nat.ne_of_lt (World.block_lt_of_cell? w _ hc2)
  have n4 : b3 ≠ w.heap.size := Nat.ne_of_lt (World.block_lt_of_cell? w _ hS.1)
  have hi1 : (0 : Int) ≤ (k : Int) := by omega
  have hi2 : (k : Int) < (m.length : Int) := by omega
  have hi3 : (0 : Int) ≤ (j : Int) := by omega
  have hi4 : (j : Int) < (r.length : Int) := by omega
  have HR := Lib.hid (hrd.kp k2.out)
  have hSS := And.intro (k2.out.cell hb) (And.intro (k2.out.cell hj) (And.intro (k2.out.cell hc2) (keep7 k2.out hS)))
  have hV := Var7.new w 43
  clear hv hxv hr hx hat hm hrow hb hj hc2 hS hrd k1
  go_enter Tryz.func64, Tryz.ntmps64
  go_upto_region 1 with fail
  generalize w.alloc _ = W at *
  have kd := (Kp.refl W).drew
  have hSd : W.drew.cell? ⟨bb, 0, none⟩ = some (.slice (some ⟨b2, o2, none⟩) m.length c) ∧ W.drew.cell? ⟨bj, 0, none⟩ = some (.int .i64 (j : Int)) ∧ W.drew.cell? ⟨b2, o2 + k, none⟩ = some (.slice (some ⟨b3, o3, none⟩) r.length rc) ∧ W.drew.cell? ⟨b3, o3 + j * 7, none⟩ = some (.bool x.lo.neg) ∧ W.drew.cell? ⟨b3, o3 + j * 7 + 1, none⟩ = some (.slice x.lo.a x.lo.xs.length x.lo.c) ∧ W.drew.cell? ⟨b3, o3 + j * 7 + 2, none⟩ = some (.int .i64 x.lo.e) ∧ W.drew.cell? ⟨b3, o3 + j * 7 + 3, none⟩ = some (.bool x.hi.neg) ∧ W.drew.cell? ⟨b3, o3 + j * 7 + 4, none⟩ = some (.slice x.hi.a x.hi.xs.length x.hi.c) ∧ W.drew.cell? ⟨b3, o3 + j * 7 + 5, none⟩ = some (.int .i64 x.hi.e) ∧ W.drew.cell? ⟨b3, o3 + j * 7 + 6, none⟩ = some (.bool x.all) := ⟨kd.cell hSS.1, kd.cell hSS.2.1, kd.cell hSS.2.2.1, keep7 kd hSS.2.2.2⟩
  obtain ⟨⟨q0, q1, q2, q3, q4, q5, q6⟩, f0, f1, f2, f3, f4, f5, f6⟩ := id hV
  have HSS := Lib.hid hSS
  clear hSS hV
  go_region_held3 (fun w' => w'.cell? ⟨bb, 0, none⟩ = some (.slice (some ⟨b2, o2, none⟩) m.length c) ∧ w'.cell? ⟨bj, 0, none⟩ = some (.int .i64 (j : Int)) ∧ w'.cell? ⟨b2, o2 + k, none⟩ = some (.slice (some ⟨b3, o3, none⟩) r.length rc) ∧ w'.cell? ⟨b3, o3 + j * 7, none⟩ = some (.bool x.lo.neg) ∧ w'.cell? ⟨b3, o3 + j * 7 + 1, none⟩ = some (.slice x.lo.a x.lo.xs.length x.lo.c) ∧ w'.cell? ⟨b3, o3 + j * 7 + 2, none⟩ = some (.int .i64 x.lo.e) ∧ w'.cell? ⟨b3, o3 + j * 7 + 3, none⟩ = some (.bool x.hi.neg) ∧ w'.cell? ⟨b3, o3 + j * 7 + 4, none⟩ = some (.slice x.hi.a x.hi.xs.length x.hi.c) ∧ w'.cell? ⟨b3, o3 + j * 7 + 5, none⟩ = some (.int .i64 x.hi.e) ∧ w'.cell? ⟨b3, o3 + j * 7 + 6, none⟩ = some (.bool x.all)) (first | with_reducible assumption | with_reducible exact keep10 (Kp.refl _).drew (set10 n1 n2 n3 n4 HSS.out)) (fail)
  go_wp2_with fail
  generalize hW9 : ((((((W.setCell _ _).setCell _ _).setCell _ _).setCell _ _).setCell _ _).setCell _ _).setCell _ _ = W9
  obtain ⟨⟨s0, s1, s2, s3, s4, s5, s6⟩, hU⟩ := stored7 (show Box7 W _ _ _ _ _ _ _ _ from ⟨q0, q1, q2, q3, q4, q5, q6⟩) (fun _ h => by cases h) (fun _ h => by cases h) (fun _ h => by cases h) (fun _ h => by cases h) (fun _ h => by cases h) (fun _ h => by cases h) (fun _ h => by cases h) _ _ _ _ _ _ _ hW9
  clear hW9 q0 q1 q2 q3 q4 q5 q6 f0 f1 f2 f3 f4 f5 f6
  refine bodyPost_ret (v := .agg #[.bool x.lo.neg, .slice x.lo.a x.lo.xs.length x.lo.c, .int .i64 x.lo.e, .bool x.hi.neg, .slice x.hi.a x.hi.xs.length x.hi.c, .int .i64 x.hi.e, .bool x.all]) (by simp [results, Tryz.results64, go_sem, s0, s1, s2, s3, s4, s5, s6]) rfl ?_
  exact ⟨x, rfl, (hU.rdI HR.out).kp (Kp.refl _).drew, HX.out, Hv.out, (hU.2.2.1 _ k2.out (by omega)).drew⟩
end Go.Proofs.YtdidocdpjiiedaaGreatDoor
end
