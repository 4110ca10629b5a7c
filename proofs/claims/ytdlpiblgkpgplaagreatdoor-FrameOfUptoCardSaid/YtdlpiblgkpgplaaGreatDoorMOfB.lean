/-
  Memory: slices that grow inside a struct's box.
  Walks: interval.Mid in full.
-/
import Derived.Test.YtdlpiblgkpgplaaGreatDoorMOwnX
import Derived.Test.YtdlpiblgkpgplaaGreatDoorMSmF
import Derived.Deep.LoopGhost
import Derived.Deep.DeepFit
import Derived.Test.YtdlpiblgkpgplaaGreatDoorMSumH
import Derived.Test.YtdlpiblgkpgplaaGreatDoorMApM
import Derived.Test.YtdlpiblgkpgplaaGreatDoorMFrB
section
namespace Go.Proofs.YtdlpiblgkpgplaaGreatDoor
open Go.RowKit

/-- append of a number: the own block afterwards -/
theorem wpList_append_dyg {w : World} {ops : Array Oper} {rest : List Oper} {o : Oper} {a : Act} {Q : Exit → Act → World → Prop} (hgd : o.guard = none) (s x : Operand)
    (ho : o.op = .call { callee := .builtin .append, args := #[s, x], argTypes := #[22, 22] })
    (wb : World) (v : Value) (zs : List RD) (hs : a.eval s = v) (hown : OwnE wb w v zs)
    (g c : Nat) (hx : a.eval x = .slice (some ⟨g, 0, none⟩) 1 c) (y : RD) (hy : y.rd w)
    (hcell : w.cell? ⟨g, 0, none⟩ = some (.bool y.neg) ∧ w.cell? ⟨g, 1, none⟩ = some (.slice y.a y.xs.length y.c) ∧ w.cell? ⟨g, 2, none⟩ = some (.int .i64 y.e)) (hlen : zs.length + 1 ≤ 9000000)
    (h : ∀ a' c' w', OwnE wb w' (.slice a' (zs.length + 1) c') (zs ++ [y]) → w.grownBy w' v.ownBlock → (v.ownBlock = (Value.slice a' (zs.length + 1) c').ownBlock ∨ (Value.slice a' (zs.length + 1) c').ownBlock = some w.heap.size) → wpList Tryz.prog ops Q rest (a.put o.dst (.slice a' (zs.length + 1) c')) w') :
    wpList Tryz.prog ops Q (o :: rest) a w := by
  obtain ⟨i0, hi, hz0, hz1, hz2⟩ := info_parts infoDyd
  obtain ⟨hk, hown1, hall, hrows⟩ := hown
  refine wpList_append_all w NoU hgd s x 22 ho wb.heap.size 33 i0 (.agg #[.bool false, .slice none 0 0, .int .i64 0]) 3 40 Tryz.underlying22 hi hz0 hz1 hz2 rfl (by decide) v zs.length (zs.flatMap RD.cells) hs hown1
    ⟨g, 0, none⟩ 1 c y.cells hx rfl ?_ ?_ (by decide) (by unfold maxLen; omega) (by omega) hk.size hall noU_cellsD ?_ ?_
  · intro j u hj
    obtain ⟨h0, h1, h2⟩ := hcell
    match j, hj with
    | 0, hj => cases hj; simpa [Addr.add] using h0
    | 1, hj => cases hj; simpa [Addr.add] using h1
    | 2, hj => cases hj; simpa [Addr.add] using h2
    | j + 3, hj => simp [RD.cells] at hj
  · intro u hu
    simp only [RD.cells, List.mem_cons, List.not_mem_nil, or_false] at hu
    rcases hu with rfl | rfl | rfl <;> rfl
  · intro u hu y e
    simp [Value.cells] at hu
    rcases hu with rfl | rfl | rfl <;> cases e
  · intro g' cap w' h1 h2 h3 h6
    have hb : Below wb.heap.size w w' := (Below.refl wb.heap.size w).grown h2 hk.size (fun k hk => (hown1.lt k hk).1)
    refine h _ _ w' ⟨Below.trans hk hb, ?_, h6, fun q hq => ?_⟩ h2 ?_
    · rw [List.flatMap_append, List.length_append]
      simpa using h1
    · rcases List.mem_append.1 hq with hq | hq
      · exact (hrows q hq).far h2 hall
      · simp only [List.mem_singleton] at hq
        subst hq
        exact hy.far h2 hall
    · rcases h3 with h3 | h3
      · exact .inl h3
      · subst h3; exact .inr rfl
/-- append of a row: the own block afterwards -/
theorem wpList_append_rowg {w : World} {ops : Array Oper} {rest : List Oper} {o : Oper} {a : Act} {Q : Exit → Act → World → Prop} (hgd : o.guard = none) (s x : Operand)
    (ho : o.op = .call { callee := .builtin .append, args := #[s, x], argTypes := #[23, 23] })
    (S : Nat) (wb : World) (v : Value) (us : List Value) (R : List (List RD)) (hs : a.eval s = v) (hown : OwnX S wb w v us R)
    (g c : Nat) (hx : a.eval x = .slice (some ⟨g, 0, none⟩) 1 c) (ra : Option Addr) (rc : Nat) (r : List RD) (hr : RowDs S w ra r) (hoff : Off v ra w) (hrl : r.length ≤ 1100000)
    (hcell : w.cell? ⟨g, 0, none⟩ = some (.slice ra r.length rc)) (hlen : R.length + 1 ≤ 9000000)
    (h : ∀ v' w', OwnX S wb w' v' (us ++ [.slice ra r.length rc]) (R ++ [r]) → w.grownBy w' v.ownBlock → (v.ownBlock = v'.ownBlock ∨ v'.ownBlock = some w.heap.size) → wpList Tryz.prog ops Q rest (a.put o.dst v') w') :
    wpList Tryz.prog ops Q (o :: rest) a w := by
  obtain ⟨i0, hi, hz0, hz1, hz2⟩ := info_parts infoSlD
  obtain ⟨hk, hown1, hall, hle, hrows⟩ := hown
  refine wpList_append_all w NoU hgd s x 23 ho wb.heap.size 22 i0 (.slice none 0 0) 1 24 Tryz.underlying23 hi hz0 hz1 hz2 rfl (by decide) v us.length us hs hown1
    ⟨g, 0, none⟩ 1 c [.slice ra r.length rc] hx rfl ?_ ?_ (by decide) (by unfold maxLen; omega) (by omega) hk.1.size hall ?_ ?_ ?_
  · intro j u hj
    match j, hj with
    | 0, hj => cases hj; simpa [Addr.add] using hcell
    | j + 1, hj => simp at hj
  · intro u hu
    simp only [List.mem_cons, List.not_mem_nil, or_false] at hu
    subst hu; rfl
  · intro u hu y e
    simp only [List.mem_cons, List.not_mem_nil, or_false] at hu
    subst hu; cases e
  · intro u hu y e
    simp [Value.cells] at hu
    subst hu; cases e
  · intro g' cap w' h1 h2 h3 h6
    have hb : Below wb.heap.size w w' := (Below.refl wb.heap.size w).grown h2 hk.1.size (fun k hk => (hown1.lt k hk).1)
    have hv : v.ownBlock = (Value.slice (some ⟨g', 0, none⟩) (us.length + 1) cap).ownBlock ∨ (Value.slice (some ⟨g', 0, none⟩) (us.length + 1) cap).ownBlock = some w.heap.size := by
      rcases h3 with h3 | h3
      · exact .inl h3
      · subst h3; exact .inr rfl
    refine h _ w' ⟨⟨Below.trans hk.1 hb, hk.2⟩, ?_, h6, by simp [hle], fun i q hq => ?_⟩ h2 hv
    · rw [List.length_append]; simpa using h1
    · by_cases hi2 : i < R.length
      · rw [List.getElem?_append_left hi2] at hq
        obtain ⟨q1, pa, pc, q2, q3, q4⟩ := hrows i q hq
        refine ⟨q1, pa, pc, ?_, q3.far h2 hall q4, q4.far h2.size hv⟩
        rw [List.getElem?_append_left (by omega)]; exact q2
      · rw [List.getElem?_append_right (by omega)] at hq
        have hi3 : i = R.length := by
          have := (List.getElem?_eq_some_iff.1 hq).1
          simp at this; omega
        subst hi3
        simp at hq
        subst hq
        refine ⟨hrl, ra, rc, ?_, hr.far h2 hall hoff, hoff.far h2.size hv⟩
        rw [List.getElem?_append_right (by omega), hle]; simp

theorem OwnE.store {wb w : World} {v : Value} {zs : List RD} (h : OwnE wb w v zs) {g i : Nat} {u : Value} (hg : wb.heap.size ≤ g) (hc : w.cell? ⟨g, i, none⟩ = some u) (hu : NoU u) (hv : v.ownBlock ≠ some g) (y : Value) : OwnE wb (w.setCell ⟨g, i, none⟩ y) v zs := by
  obtain ⟨h1, h2, h3, h4⟩ := h
  refine ⟨h1.set hg y, ownsRow_setCell_other h2 hv y, fun b hb j z hz => ?_, fun x hx => RD.rd.set (h4 x hx) hc hu y⟩
  rw [cell_set_ne (fun e => by injection e with e1; subst e1; exact hv hb)] at hz
  exact h3 b hb j z hz
theorem OwnE.apart {wb w w' : World} {v u : Value} {M : List RD} (h : OwnE wb w u M) (hn : AllC NoU w v) (hap : ∀ g, v.ownBlock = some g → u.ownBlock ≠ some g) (hg : w.grownBy w' v.ownBlock) (k : Kp wb w') : OwnE wb w' u M := by
  obtain ⟨h1, h2, h3, h4⟩ := h
  have hne : u.ownBlock = none ∨ u.ownBlock ≠ v.ownBlock := by
    cases hu : u.ownBlock with
    | none => exact .inl rfl
    | some g => exact .inr fun e => hap g e.symm hu
  refine ⟨k, h2.kept hg hne, ?_, fun x hx => (h4 x hx).far hg hn⟩
  intro g hg' j val hc
  have hlt := (h2.lt g hg').2
  have hne2 : some g ≠ v.ownBlock := fun e => hap g e.symm hg'
  exact h3 g hg' j val (by rw [← hg.cell_far ⟨g, j, none⟩ hlt hne2]; exact hc)
theorem OwnN.apart {wb w w' : World} {v u : Value} {M : List RI} (h : OwnN wb w u M) (hn : AllC NoU w v) (hap : ∀ g, v.ownBlock = some g → u.ownBlock ≠ some g) (hg : w.grownBy w' v.ownBlock) (k : Kp wb w') : OwnN wb w' u M := by
  obtain ⟨h1, h2, h3, h4⟩ := h
  have hne : u.ownBlock = none ∨ u.ownBlock ≠ v.ownBlock := by
    cases hu : u.ownBlock with
    | none => exact .inl rfl
    | some g => exact .inr fun e => hap g e.symm hu
  refine ⟨k, h2.kept hg hne, ?_, fun x hx => (h4 x hx).far hg hn⟩
  intro g hg' j val hc
  have hlt := (h2.lt g hg').2
  have hne2 : some g ≠ v.ownBlock := fun e => hap g e.symm hg'
  exact h3 g hg' j val (by rw [← hg.cell_far ⟨g, j, none⟩ hlt hne2]; exact hc)
/-- the box of a struct whose slices grow, above wb -/
def OfS (wb w : World) (va v1 v2 : Value) (C : List RD) (R : List RI) : Prop :=
  Box3 w wb.heap.size v1 va v2 ∧ wb.heap.size < w.heap.size ∧ OwnE wb w v1 C ∧ OwnN wb w v2 R ∧ v1.ownBlock ≠ some wb.heap.size ∧ v2.ownBlock ≠ some wb.heap.size ∧ ∀ b, v1.ownBlock = some b → v2.ownBlock ≠ some b
theorem OfS.kp {wb w w' : World} {va v1 v2 : Value} {C : List RD} {R : List RI} (h : OfS wb w va v1 v2 C R) (k : Kp w w') : OfS wb w' va v1 v2 C R := by
  obtain ⟨h1, h2, h3, h4, h5⟩ := h
  exact ⟨h1.kp k, by have := k.size; omega, h3.kp k, h4.kp k, h5⟩
theorem OfS.new (wb : World) (va : Value) (t : TypeId) : OfS wb (wb.alloc (.cells #[.slice none 0 0, va, .slice none 0 0] t)) va (.slice none 0 0) (.slice none 0 0) [] [] :=
  ⟨Box3.new _ _ _ _ _, by simp, OwnE.nil ((Kp.refl _).alloc _), OwnN.nil ((Kp.refl _).alloc _), by simp [Value.ownBlock], by simp [Value.ownBlock], fun b h => by simp [Value.ownBlock] at h⟩
/-- what the box holds behind a slice that has grown -/
theorem Box3.grown {w w' : World} {g : Nat} {x0 x1 x2 : Value} {b : Option Nat} (h : Box3 w g x0 x1 x2) (hg : w.grownBy w' b) (hb : b ≠ some g) (hlt : g < w.heap.size) : Box3 w' g x0 x1 x2 := by
  obtain ⟨h0, h1, h2, f0, f1, f2⟩ := h
  have hne : some g ≠ b := fun e => hb e.symm
  have hf (j : Nat) : w'.frozen? ⟨g, j, none⟩ = w.frozen? ⟨g, j, none⟩ := by
    have := hg.block g hlt hne
    unfold World.frozen?
    rw [this]
  exact ⟨hg.cell h0 hne, hg.cell h1 hne, hg.cell h2 hne, (hf 0).trans f0, (hf 1).trans f1, (hf 2).trans f2⟩
theorem sl_noU {a : Option Addr} {n c : Nat} : NoU (Value.slice a n c) := fun x h => by cases h
theorem OwnE.noU {wb w : World} {v : Value} {zs : List RD} (h : OwnE wb w v zs) : NoU v := by
  obtain ⟨a, c, e, _⟩ := h.value
  subst e; exact sl_noU
theorem Box3.set0 {w : World} {g : Nat} {x0 x1 x2 : Value} (h : Box3 w g x0 x1 x2) (v : Value) : Box3 (w.setCell ⟨g, 0, none⟩ v) g v x1 x2 := by
  obtain ⟨h0, h1, h2, f0, f1, f2⟩ := h
  exact ⟨cell_set_eq h0, set_at (by decide) h1, set_at (by decide) h2, by simpa using f0, by simpa using f1, by simpa using f2⟩
theorem Box3.set2 {w : World} {g : Nat} {x0 x1 x2 : Value} (h : Box3 w g x0 x1 x2) (v : Value) : Box3 (w.setCell ⟨g, 2, none⟩ v) g x0 x1 v := by
  obtain ⟨h0, h1, h2, f0, f1, f2⟩ := h
  exact ⟨set_at (by decide) h0, set_at (by decide) h1, cell_set_eq h2, by simpa using f0, by simpa using f1, by simpa using f2⟩
/-- a number is appended to the first slice, which is stored -/
theorem OfS.c {wb w w' : World} {va v1 v2 v1' : Value} {C C' : List RD} {R : List RI} (h : OfS wb w va v1 v2 C R) (ho : OwnE wb w' v1' C') (hg : w.grownBy w' v1.ownBlock) (hn : v1.ownBlock = v1'.ownBlock ∨ v1'.ownBlock = some w.heap.size) :
    OfS wb (w'.setCell ⟨wb.heap.size, 0, none⟩ v1') va v1' v2 C' R := by
  obtain ⟨h1, h2, h3, h4, h5, h6, h7⟩ := h
  have hB := h1.grown hg h5 h2
  have n1 : v1'.ownBlock ≠ some wb.heap.size := by
    rcases hn with e | e
    · rw [← e]; exact h5
    · rw [e]; intro e; injection e with e; omega
  have n2 : ∀ b, v1'.ownBlock = some b → v2.ownBlock ≠ some b := fun b hb => by
    rcases hn with e | e
    · exact h7 b (by rw [e]; exact hb)
    · rw [e] at hb; injection hb with hb; intro e2; have := h4.new _ e2; omega
  have hR := h4.apart h3.2.2.1 h7 hg ho.1
  exact ⟨hB.set0 _, by have := hg.size; simp; omega, ho.store (Nat.le_refl _) hB.1 h3.noU n1 _, hR.store (Nat.le_refl _) hB.1 h3.noU h6 _, n1, h6, n2⟩
/-- an interval is appended to the last slice, which is stored -/
theorem OfS.r {wb w w' : World} {va v1 v2 v2' : Value} {C : List RD} {R R' : List RI} (h : OfS wb w va v1 v2 C R) (ho : OwnN wb w' v2' R') (hg : w.grownBy w' v2.ownBlock) (hn : v2.ownBlock = v2'.ownBlock ∨ v2'.ownBlock = some w.heap.size) (hu : NoU v2) :
    OfS wb (w'.setCell ⟨wb.heap.size, 2, none⟩ v2') va v1 v2' C R' := by
  obtain ⟨h1, h2, h3, h4, h5, h6, h7⟩ := h
  have hB := h1.grown hg h6 h2
  have n1 : v2'.ownBlock ≠ some wb.heap.size := by
    rcases hn with e | e
    · rw [← e]; exact h6
    · rw [e]; intro e; injection e with e; omega
  have n2 : ∀ b, v1.ownBlock = some b → v2'.ownBlock ≠ some b := fun b hb => by
    rcases hn with e | e
    · rw [← e]; exact h7 b hb
    · rw [e]; intro e2; injection e2 with e2; have := h3.new _ hb; omega
  have hC := h3.apart h4.2.2.1 (fun b hb e => h7 b e hb) hg ho.1
  exact ⟨hB.set2 _, by have := hg.size; simp; omega, hC.store (Nat.le_refl _) hB.2.2.1 hu h5 _, ho.store (Nat.le_refl _) hB.2.2.1 hu n1 _, h5, n1, n2⟩
/-- another cell -/
theorem cell_past {w w' : World} {v : Value} {g i : Nat} {b j : Nat} {u val : Value} (hg : w.grownBy w' v.ownBlock) (hc : w.cell? ⟨b, j, none⟩ = some val) (h1 : v.ownBlock ≠ some b) (h2 : b ≠ g) : (w'.setCell ⟨g, i, none⟩ u).cell? ⟨b, j, none⟩ = some val := by
  rw [cell_set_ne (fun e => by injection e with e1; exact h2 e1.symm)]
  exact hg.cell hc (fun e => h1 e.symm)
theorem OwnN.noUv {wb w : World} {v : Value} {zs : List RI} (h : OwnN wb w v zs) : NoU v := by
  obtain ⟨a, c, e, _⟩ := h.value
  subst e; exact sl_noU
theorem take_snoc {α : Type} {xs : List α} {n : Nat} {x : α} (h : xs[n]? = some x) : xs.take (n + 1) = xs.take n ++ [x] := by
  rw [List.take_add_one, h]; rfl
/-- a number in another block, behind a slice that has grown and is stored -/
theorem num_past {w w' : World} {v : Value} {g i b : Nat} {u val : Value} {z : RD} (hS : w.cell? ⟨b, 0, none⟩ = some (.bool z.neg) ∧ w.cell? ⟨b, 1, none⟩ = some (.slice z.a z.xs.length z.c) ∧ w.cell? ⟨b, 2, none⟩ = some (.int .i64 z.e)) (hz : z.ok w) (hg : w.grownBy w' v.ownBlock) (hn : AllC NoU w v) (h1 : v.ownBlock ≠ some b) (h2 : b ≠ g) (hc : w'.cell? ⟨g, i, none⟩ = some val) (hu : NoU val) :
    ((w'.setCell ⟨g, i, none⟩ u).cell? ⟨b, 0, none⟩ = some (.bool z.neg) ∧ (w'.setCell ⟨g, i, none⟩ u).cell? ⟨b, 1, none⟩ = some (.slice z.a z.xs.length z.c) ∧ (w'.setCell ⟨g, i, none⟩ u).cell? ⟨b, 2, none⟩ = some (.int .i64 z.e)) ∧ z.ok (w'.setCell ⟨g, i, none⟩ u) :=
  ⟨⟨cell_past hg hS.1 h1 h2, cell_past hg hS.2.1 h1 h2, cell_past hg hS.2.2 h1 h2⟩, RD.rd.set (hz.1.far hg hn) hc hu u, hz.2⟩
theorem own_ne {v : Value} {N b : Nat} (h : ∀ g, v.ownBlock = some g → g < N) (hb : N ≤ b) : v.ownBlock ≠ some b := fun e => by have := h b e; omega
end Go.Proofs.YtdlpiblgkpgplaaGreatDoor
end

section
namespace Go.Proofs.YtdlpiblgkpgplaaGreatDoor
open Go.RowKit

set_option maxRecDepth 100000 in
set_option maxHeartbeats 8000000 in
theorem Mid_any (x : RI) (p : Nat) (w : World) (hx : x.ok w) (hp0 : 8 ≤ p) (hp1 : p ≤ 512) (hT : Tab w) :
    Calls Tryz.prog 49 #[.agg #[.bool x.lo.neg, .slice x.lo.a x.lo.xs.length x.lo.c, .int .i64 x.lo.e, .bool x.hi.neg, .slice x.hi.a x.hi.xs.length x.hi.c, .int .i64 x.hi.e, .bool false], .int .i64 p] w (NumOut w (midP x.pl p)) := by
  have Hp := Lib.hid (show preB (p : Int) = true from preB_iff.2 ⟨by omega, by omega⟩)
  have HX := Lib.hid hx
  obtain ⟨A, hA⟩ : ∃ A, A = adP x.lo.dy x.hi.dy p false := ⟨_, rfl⟩
  have HA := Lib.hid hA
  have Hadd := Lib.hid (fun (W : World) (k : Kp w W) => rAddDown_of x.lo x.hi (p : Int) A.1 A.2 W (fun W' k' => by
    have h := add_rd x.lo x.hi p false W' ((hx.lo.1.kp k).kp k') ((hx.hi.1.kp k).kp k') ((hT.kp k).kp k')
    rw [addB_dy hx.lo hx.hi hp0 hp1, ← hA] at h
    exact h))
  have HAok := Lib.hid (show A.1.ok by rw [hA]; exact adP_ok _ _ hp0 hp1 _)
  have HAf := Lib.hid (show A.2 = 0 ∨ A.2 = 9 by rw [hA]; exact adP_f _ _ _ _)
  clear hA
  go_enter Tryz.func49, Tryz.ntmps49
  go_wp2_with fail
  generalize hW : ((w.alloc _).alloc _) = W at *
  have hk : Kp w W := hW ▸ ((Kp.refl w).alloc _).alloc _
  have hS : W.cell? ⟨w.heap.size, 0, none⟩ = some (.bool x.lo.neg) ∧ W.cell? ⟨w.heap.size, 1, none⟩ = some (.slice x.lo.a x.lo.xs.length x.lo.c) ∧ W.cell? ⟨w.heap.size, 2, none⟩ = some (.int .i64 x.lo.e) ∧ W.cell? ⟨w.heap.size, 3, none⟩ = some (.bool x.hi.neg) ∧ W.cell? ⟨w.heap.size, 4, none⟩ = some (.slice x.hi.a x.hi.xs.length x.hi.c) ∧ W.cell? ⟨w.heap.size, 5, none⟩ = some (.int .i64 x.hi.e) ∧ W.cell? ⟨w.heap.size, 6, none⟩ = some (.bool false) := by rw [← hW]; simp
  have hB : Box3 W (w.heap.size + 1) (.bool false) (.slice none 0 0) (.int .i64 0) := hW ▸ Box3.new2 _ _ _ _ _ _
  have hsz : W.heap.size = w.heap.size + 1 + 1 := by rw [← hW]; simp
  clear hW
  have hka := (Kp.refl W).alloc (.cells #[.bool x.lo.neg, .slice x.lo.a x.lo.xs.length x.lo.c, .int .i64 x.lo.e, .bool x.hi.neg, .slice x.hi.a x.hi.xs.length x.hi.c, .int .i64 x.hi.e, .bool false] 35)
  have hRw := rowI_one W x (hx.kp hk).1 hx.2.1 35
  rw [hsz] at hRw
  clear hsz
  have hkn := known_any _ [x] 1 _ hRw (by simp)
  rw [show [x].all goodI = true by simp [(goodI_ok hx.1).2 hx]] at hkn
  clear hx
  refine hkn.mono ?_
  rintro e w1 ⟨rfl, hk1⟩
  have hS1 := keep7 (hka.trans hk1) hS
  have hB1 := hB.kp (hka.trans hk1)
  have hk2 := hk.trans (hka.trans hk1)
  clear hS hB hk hk1 hka hRw hkn
  go_wp2_with fail
  refine (permitted_any p _).mono ?_
  rw [Hp.out]
  rintro e w2 ⟨rfl, rfl⟩
  go_wp2_with fail
  refine (Hadd.out _ hk2).mono ?_
  rintro e w5 ⟨z, rfl, hzr, hzd, hzv, hk5⟩
  rcases HAf.out with hf | hf
  rotate_left
  · have HE := Lib.hid (show midP x.pl p = x.lo.dy from midP_a (by show (adP x.lo.dy x.hi.dy p false).2 ≠ 0; rw [← HA.out, hf]; decide))
    have HX5 := Lib.hid (HX.out.kp (hk2.trans hk5)).lo
    rw [hf]
    have hka := hk5.alloc (.cells #[.bool z.neg, .slice z.a z.xs.length z.c, .int .i64 z.e] 33)
    have hS2 := keep7 hka hS1
    have hB2 := hB1.kp hka
    have HX6 := Lib.hid (HX.out.kp (hk2.trans hka)).lo
    have hk6 := hk2.trans hka
    clear hf hS1 hB1 hk5 hka hzr hzd hzv hk2
    obtain ⟨q0, q1, q2, f0, f1, f2⟩ := id hB2
    go_wp2_with fail
    generalize hW5 : w5.alloc _ = W5 at *
    clear hW5
    generalize hW9 : (((W5.setCell _ _).setCell _ _).setCell _ _) = W9
    obtain ⟨⟨r0, r1, r2, _⟩, hU⟩ := stored3 hB2 (fun _ h => by cases h) (fun _ h => by cases h) (fun _ h => by cases h) _ _ _ hW9
    clear hW9 q0 q1 q2 f0 f1 f2 hS2
    refine bodyPost_ret (v := .agg #[.bool x.lo.neg, .slice x.lo.a x.lo.xs.length x.lo.c, .int .i64 x.lo.e]) (by simp [results, Tryz.results49, go_sem, r0, r1, r2]) rfl ?_
    rw [HE.out]
    exact ⟨x.lo, rfl, ⟨hU.2.1 _ _ HX6.out.1.1, HX6.out.1.2⟩, rfl, fun _ => HX6.out.2, hU.2.2.1 _ hk6 (by omega)⟩
  · rw [hf]
    have Hf := Lib.hid hf
    have hka := hk5.alloc (.cells #[.bool z.neg, .slice z.a z.xs.length z.c, .int .i64 z.e] 33)
    have hzo : z.ok (w5.alloc (.cells #[.bool z.neg, .slice z.a z.xs.length z.c, .int .i64 z.e] 33)) := ⟨hzr.kp ((Kp.refl _).alloc _), hzv HAok.out⟩
    have hS2 := keep7 hka hS1
    have hB2 := hB1.kp hka
    have hk6 := hk2.trans hka
    clear hf hS1 hB1 hk5 hka hzr hk2
    have hSc := Scale_ok z (-1) _ hzo (by omega) (by omega) (hT.kp hk6)
    have hcan : chk (canon z.neg (val z.xs) (z.e + -1)) = halfD A.1 := by rw [← hzd]; rfl
    rw [hcan] at hSc
    have HSc := Lib.hid hSc
    obtain ⟨C, hC⟩ : ∃ C, C = halfD A.1 := ⟨_, rfl⟩
    have HCok := Lib.hid (show C.1.ok by rw [hC]; exact halfD_ok _)
    have HCf := Lib.hid (show C.2 = 0 ∨ C.2 = 9 by rw [hC]; exact halfD_f _)
    have HC := Lib.hid (show C = halfD (adP x.pl.lo x.pl.hi p false).1 by rw [hC, HA.out]; rfl)
    rw [← hC] at HSc
    clear hcan hSc hzo hzd hzv hC
    go_wp2_with fail
    generalize hW5 : w5.alloc _ = W5 at *
    clear hW5
    refine HSc.out.mono ?_
    rintro e w7 ⟨y, rfl, hyr, hyd, hyv, hk7⟩
    rcases HCf.out with hg | hg
    rotate_left
    · have HE := Lib.hid (show midP x.pl p = x.lo.dy from midP_b (by rw [← HC.out, hg]; decide))
      rw [hg]
      have hka := hk7.alloc (.cells #[.bool y.neg, .slice y.a y.xs.length y.c, .int .i64 y.e] 33)
      have hS3 := keep7 hka hS2
      have hB3 := hB2.kp hka
      have HX6 := Lib.hid (HX.out.kp (hk6.trans hka)).lo
      have hk8 := hk6.trans hka
      clear hg hS2 hB2 hk7 hka hyr hyd hyv hk6 HSc
      obtain ⟨q0, q1, q2, f0, f1, f2⟩ := id hB3
      go_wp2_with fail
      generalize hW7 : w7.alloc _ = W7 at *
      clear hW7
      generalize hW9 : (((W7.setCell _ _).setCell _ _).setCell _ _) = W9
      obtain ⟨⟨r0, r1, r2, _⟩, hU⟩ := stored3 hB3 (fun _ h => by cases h) (fun _ h => by cases h) (fun _ h => by cases h) _ _ _ hW9
      clear hW9 q0 q1 q2 f0 f1 f2 hS3
      refine bodyPost_ret (v := .agg #[.bool x.lo.neg, .slice x.lo.a x.lo.xs.length x.lo.c, .int .i64 x.lo.e]) (by simp [results, Tryz.results49, go_sem, r0, r1, r2]) rfl ?_
      rw [HE.out]
      exact ⟨x.lo, rfl, ⟨hU.2.1 _ _ HX6.out.1.1, HX6.out.1.2⟩, rfl, fun _ => HX6.out.2, hU.2.2.1 _ hk8 (by omega)⟩
    · rw [hg]
      have Hg := Lib.hid hg
      have hka := hk7.alloc (.cells #[.bool y.neg, .slice y.a y.xs.length y.c, .int .i64 y.e] 33)
      have hyo : y.ok (w7.alloc (.cells #[.bool y.neg, .slice y.a y.xs.length y.c, .int .i64 y.e] 33)) := ⟨hyr.kp ((Kp.refl _).alloc _), hyv HCok.out⟩
      have hS3 := keep7 hka hS2
      have hB3 := hB2.kp hka
      have hk8 := hk6.trans hka
      have hX8 := HX.out.kp hk8
      have Hyd := Lib.hid hyd
      have hhas : hasI x y = hasX x.pl C.1.iv := by
        have e : hasI x y = hasX x.pl y.iv := by unfold hasX; show _ = (x.all || _); rw [HX.out.2.1]; rfl
        rw [e, ← hyd]; rfl
      have hY := Box3.new w7 (.bool y.neg) (.slice y.a y.xs.length y.c) (.int .i64 y.e) 33
      have hH := Has_ok x y _ hX8 hyo
      cases hb : hasX x.pl C.1.iv with
      | false =>
        have HE := Lib.hid (show midP x.pl p = x.lo.dy from midP_c (by rw [← HC.out]; exact hb))
        rw [hhas, hb] at hH
        have HH := Lib.hid hH
        clear hH hhas hb hg hS2 hB2 hk7 hka hyr hyd hyv hk6 HSc hyo
        go_wp2_with fail
        generalize hW7 : w7.alloc _ = W7 at *
        clear hW7
        refine HH.out.mono ?_
        rintro e w9 ⟨rfl, hk9⟩
        have hS4 := keep7 hk9 hS3
        have hB4 := hB3.kp hk9
        have hkf := hk8.trans hk9
        have HX6 := Lib.hid (HX.out.kp hkf).lo
        clear hS3 hB3 hY hk8 hk9 HH hX8
        obtain ⟨q0, q1, q2, f0, f1, f2⟩ := id hB4
        go_wp2_with fail
        generalize hW9 : (((w9.setCell _ _).setCell _ _).setCell _ _) = W9
        obtain ⟨⟨r0, r1, r2, _⟩, hU⟩ := stored3 hB4 (fun _ h => by cases h) (fun _ h => by cases h) (fun _ h => by cases h) _ _ _ hW9
        clear hW9 q0 q1 q2 f0 f1 f2 hS4
        refine bodyPost_ret (v := .agg #[.bool x.lo.neg, .slice x.lo.a x.lo.xs.length x.lo.c, .int .i64 x.lo.e]) (by simp [results, Tryz.results49, go_sem, r0, r1, r2]) rfl ?_
        rw [HE.out]
        exact ⟨x.lo, rfl, ⟨hU.2.1 _ _ HX6.out.1.1, HX6.out.1.2⟩, rfl, fun _ => HX6.out.2, hU.2.2.1 _ hkf (by omega)⟩
      | true =>
        have HE := Lib.hid (show midP x.pl p = C.1 by rw [HC.out]; exact midP_d (by show (adP x.lo.dy x.hi.dy p false).2 = 0; rw [← HA.out, Hf.out]) (by rw [← HC.out]; exact hg) (by rw [← HC.out]; exact hb))
        rw [hhas, hb] at hH
        have HH := Lib.hid hH
        have HYO := Lib.hid hyo
        clear hH hhas hb hg hS2 hB2 hk7 hka hyr hyd hyv hk6 HSc hyo
        go_wp2_with fail
        generalize hW7 : w7.alloc _ = W7 at *
        clear hW7
        refine HH.out.mono ?_
        rintro e w9 ⟨rfl, hk9⟩
        obtain ⟨j0, j1, j2, _, _, _⟩ := hY.kp hk9
        have hB4 := hB3.kp hk9
        have hkf := hk8.trans hk9
        have HY6 := Lib.hid (HYO.out.kp hk9)
        clear hS3 hB3 hY hk8 hk9 HH hX8
        obtain ⟨q0, q1, q2, f0, f1, f2⟩ := id hB4
        go_wp2_with fail
        generalize hW9 : (((w9.setCell _ _).setCell _ _).setCell _ _) = W9
        obtain ⟨⟨r0, r1, r2, _⟩, hU⟩ := stored3 hB4 (fun _ h => by cases h) (fun _ h => by cases h) (fun _ h => by cases h) _ _ _ hW9
        clear hW9 q0 q1 q2 f0 f1 f2 j0 j1 j2
        refine bodyPost_ret (v := .agg #[.bool y.neg, .slice y.a y.xs.length y.c, .int .i64 y.e]) (by simp [results, Tryz.results49, go_sem, r0, r1, r2]) rfl ?_
        rw [HE.out]
        exact ⟨y, rfl, ⟨hU.2.1 _ _ HY6.out.1.1, HY6.out.1.2⟩, Hyd.out, fun _ => HY6.out.2, hU.2.2.1 _ hkf (by omega)⟩
end Go.Proofs.YtdlpiblgkpgplaaGreatDoor
end
