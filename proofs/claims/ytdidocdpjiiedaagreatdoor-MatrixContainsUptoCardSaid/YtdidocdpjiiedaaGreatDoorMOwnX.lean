/-
  The call's own slices of numbers, and of rows of numbers, while boxes below them are written to.
  Walks: the law's exact.
  Walks: the closures of the law MatrixContains.
  Memory and plain facts for the law MatrixContains.
-/
import Derived.Test.YtdidocdpjiiedaaGreatDoorMSpare
import Derived.Test.YtdidocdpjiiedaaGreatDoorMDotM
import Derived.Deep.LoopGhost
import Derived.Deep.CutRange
import Derived.Deep.DeepFit
import Derived.Test.YtdidocdpjiiedaaGreatDoorMKnuE
import Derived.Test.YtdidocdpjiiedaaGreatDoorMSumH
import Derived.Test.YtdidocdpjiiedaaGreatDoorMRoSq
import Derived.Test.YtdidocdpjiiedaaGreatDoorMR5M
import Derived.Deep.RegionHeld3
import Derived.Test.YtdidocdpjiiedaaGreatDoorMNum7
import Derived.Test.YtdidocdpjiiedaaGreatDoorMApM
section
namespace Go.Proofs.YtdidocdpjiiedaaGreatDoor
open Go.RowKit

/-- a store to the same cell on both sides -/
theorem Below.both {B : Nat} {a w : World} (h : Below B a w) (p : Addr) (v : Value) : Below B (a.setCell p v) (w.setCell p v) := by
  have h1 := Below.setCell (Below.refl 0 a) (p := p) (Nat.zero_le _) v
  have h2 := Below.setCell (Below.refl 0 w) (p := p) (Nat.zero_le _) v
  refine ⟨h2.os.trans (h.os.trans h1.os.symm), h2.tape.trans (h.tape.trans h1.tape.symm), h2.output.trans (h.output.trans h1.output.symm), by simpa using h.size, fun k hk => ?_⟩
  by_cases e : k = p.block
  · subst e
    have hb := h.block p.block hk
    unfold World.setCell
    simp only [Array.getElem?_modify, hb]
  · rw [Below.heap_setCell w p v k e, Below.heap_setCell a p v k e]; exact h.block k hk
theorem Kp.both {a w : World} (h : Kp a w) (p : Addr) (v : Value) : Kp (a.setCell p v) (w.setCell p v) := by
  have := Below.both h p v
  unfold Kp
  simpa using this
theorem RD.rd.set {w : World} {x : RD} (h : x.rd w) {p : Addr} {u : Value} (hc : w.cell? p = some u) (hu : NoU u) (v : Value) : x.rd (w.setCell p v) := ⟨h.1.other hc hu, h.2⟩
theorem RI.rd.set {w : World} {x : RI} (h : x.rd w) {p : Addr} {u : Value} (hc : w.cell? p = some u) (hu : NoU u) (v : Value) : x.rd (w.setCell p v) := ⟨RD.rd.set h.1 hc hu v, RD.rd.set h.2 hc hu v⟩
theorem OwnE.set {wb w : World} {v : Value} {zs : List RD} (h : OwnE wb w v zs) {b i : Nat} {u : Value} (hb : b < wb.heap.size) (hc : w.cell? ⟨b, i, none⟩ = some u) (hu : NoU u) (y : Value) : OwnE (wb.setCell ⟨b, i, none⟩ y) (w.setCell ⟨b, i, none⟩ y) v zs := by
  obtain ⟨h1, h2, h3, h4⟩ := h
  have hv : v.ownBlock ≠ some b := fun e => by have := (h2.lt b e).1; omega
  refine ⟨h1.both _ _, ?_, fun g hg j z hz => ?_, fun x hx => RD.rd.set (h4 x hx) hc hu y⟩
  · have := ownsRow_setCell_other h2 (a := ⟨b, i, none⟩) hv y
    simpa using this
  · rw [cell_set_ne (fun e => by injection e with e1; subst e1; exact hv hg)] at hz
    exact h3 g hg j z hz
/-- a row of numbers in blocks from S on -/
def RowDs (S : Nat) (w : World) (a : Option Addr) (zs : List RD) : Prop := RowD w a zs ∧ ∀ p, a = some p → S ≤ p.block
theorem RowDs.kp {S : Nat} {w w' : World} {a : Option Addr} {zs : List RD} (h : RowDs S w a zs) (k : Kp w w') : RowDs S w' a zs := ⟨h.1.kp k, h.2⟩
theorem RowDs.set {S : Nat} {w : World} {a : Option Addr} {zs : List RD} (h : RowDs S w a zs) {b i : Nat} {u : Value} (hb : b < S) (hc : w.cell? ⟨b, i, none⟩ = some u) (hu : NoU u) (y : Value) : RowDs S (w.setCell ⟨b, i, none⟩ y) a zs := by
  refine ⟨fun j x hj => ?_, h.2⟩
  obtain ⟨g, o, e, hr, h0, h1, h2⟩ := h.1 j x hj
  have hg : S ≤ g := h.2 _ e
  have d (k : Nat) : (⟨b, i, none⟩ : Addr) ≠ ⟨g, k, none⟩ := fun e => by injection e with e1; omega
  refine ⟨g, o, e, RD.rd.set hr hc hu y, ?_, ?_, ?_⟩ <;> (rw [cell_set_ne (d _)]; assumption)
theorem RowDs.far {S : Nat} {w w' : World} {v : Value} {a : Option Addr} {r : List RD} (h : RowDs S w a r) (hg : w.grownBy w' v.ownBlock) (hn : AllC NoU w v) (ho : Off v a w) : RowDs S w' a r := by
  refine ⟨fun i x hi => ?_, h.2⟩
  obtain ⟨b, o, e, hr, h0, h1, h2⟩ := h.1 i x hi
  obtain ⟨hne, _⟩ := ho _ e
  have hne' : ∀ j, some (⟨b, j, none⟩ : Addr).block ≠ v.ownBlock := fun j e => hne e.symm
  exact ⟨b, o, e, hr.far hg hn, hg.cell h0 (hne' _), hg.cell h1 (hne' _), hg.cell h2 (hne' _)⟩
/-- rows of numbers -/
def RowN (w : World) (a : Option Addr) (m : List (List RD)) : Prop :=
  ∀ (i : Nat) (r : List RD), m[i]? = some r → ∃ b o ra rc, a = some ⟨b, o, none⟩ ∧ w.cell? ⟨b, o + i, none⟩ = some (.slice ra r.length rc) ∧ RowD w ra r ∧ r.length ≤ 1100000
def RowNs (S : Nat) (w : World) (a : Option Addr) (m : List (List RD)) : Prop :=
  ∀ (i : Nat) (r : List RD), m[i]? = some r → ∃ b o ra rc, a = some ⟨b, o, none⟩ ∧ S ≤ b ∧ w.cell? ⟨b, o + i, none⟩ = some (.slice ra r.length rc) ∧ RowDs S w ra r ∧ r.length ≤ 1100000
theorem RowNs.row {S : Nat} {w : World} {a : Option Addr} {m : List (List RD)} (h : RowNs S w a m) : RowN w a m := fun i r hi => by
  obtain ⟨b, o, ra, rc, e, _, hc, hr, hl⟩ := h i r hi
  exact ⟨b, o, ra, rc, e, hc, hr.1, hl⟩
theorem RowN.kp {w w' : World} {a : Option Addr} {m : List (List RD)} (h : RowN w a m) (k : Kp w w') : RowN w' a m := fun i r hi => by
  obtain ⟨b, o, ra, rc, e, hc, hr, hl⟩ := h i r hi
  exact ⟨b, o, ra, rc, e, k.cell hc, hr.kp k, hl⟩
theorem RowNs.kp {S : Nat} {w w' : World} {a : Option Addr} {m : List (List RD)} (h : RowNs S w a m) (k : Kp w w') : RowNs S w' a m := fun i r hi => by
  obtain ⟨b, o, ra, rc, e, hs, hc, hr, hl⟩ := h i r hi
  exact ⟨b, o, ra, rc, e, hs, k.cell hc, hr.kp k, hl⟩
theorem RowNs.set {S : Nat} {w : World} {a : Option Addr} {m : List (List RD)} (h : RowNs S w a m) {b i : Nat} {u : Value} (hb : b < S) (hc : w.cell? ⟨b, i, none⟩ = some u) (hu : NoU u) (y : Value) : RowNs S (w.setCell ⟨b, i, none⟩ y) a m := fun j r hj => by
  obtain ⟨g, o, ra, rc, e, hs, hq, hr, hl⟩ := h j r hj
  refine ⟨g, o, ra, rc, e, hs, ?_, RowDs.set hr hb hc hu y, hl⟩
  rw [cell_set_ne (fun e => by injection e with e1; omega)]; exact hq
/-- The call's own slice v of slices us, which show the rows R, all in blocks from S on. -/
def OwnX (S : Nat) (wb w : World) (v : Value) (us : List Value) (R : List (List RD)) : Prop :=
  (Kp wb w ∧ S ≤ wb.heap.size) ∧ w.ownsRow wb.heap.size 61 1 v us.length us ∧ AllC NoU w v ∧ us.length = R.length ∧
  ∀ (i : Nat) (r : List RD), R[i]? = some r → r.length ≤ 1100000 ∧ ∃ ra rc, us[i]? = some (Value.slice ra r.length rc) ∧ RowDs S w ra r ∧ Off v ra w
theorem OwnX.nil {S : Nat} {wb w : World} (k : Kp wb w) (hS : S ≤ wb.heap.size) : OwnX S wb w (.slice none 0 0) [] [] := ⟨⟨k, hS⟩, World.ownsRow_nil _ _ _ _, AllC.nil _ _, rfl, fun i r h => by simp at h⟩
theorem OwnX.kp {S : Nat} {wb w w' : World} {v : Value} {us : List Value} {R : List (List RD)} (h : OwnX S wb w v us R) (k : Kp w w') : OwnX S wb w' v us R := by
  obtain ⟨h1, h2, h3, h4, h5⟩ := h
  refine ⟨⟨h1.1.trans k, h1.2⟩, Kp.owns h2 k, h3.kp h2 k, h4, fun i r hi => ?_⟩
  obtain ⟨q1, ra, rc, q2, q3, q4⟩ := h5 i r hi
  exact ⟨q1, ra, rc, q2, q3.kp k, q4.kp k.size⟩
theorem OwnX.set {S : Nat} {wb w : World} {v : Value} {us : List Value} {R : List (List RD)} (h : OwnX S wb w v us R) {b i : Nat} {u : Value} (hb : b < S) (hc : w.cell? ⟨b, i, none⟩ = some u) (hu : NoU u) (y : Value) : OwnX S (wb.setCell ⟨b, i, none⟩ y) (w.setCell ⟨b, i, none⟩ y) v us R := by
  obtain ⟨h1, h2, h3, h4, h5⟩ := h
  have hv : v.ownBlock ≠ some b := fun e => by have := (h2.lt b e).1; have := h1.2; omega
  refine ⟨⟨h1.1.both _ _, by simpa using h1.2⟩, ?_, fun g hg j z hz => ?_, h4, fun j r hj => ?_⟩
  · have := ownsRow_setCell_other h2 (a := ⟨b, i, none⟩) hv y
    simpa using this
  · rw [cell_set_ne (fun e => by injection e with e1; subst e1; exact hv hg)] at hz
    exact h3 g hg j z hz
  · obtain ⟨q1, ra, rc, q2, q3, q4⟩ := h5 j r hj
    exact ⟨q1, ra, rc, q2, q3.set hb hc hu y, q4.kp (by simp)⟩
theorem OwnX.value {S : Nat} {wb w : World} {v : Value} {us : List Value} {R : List (List RD)} (h : OwnX S wb w v us R) : ∃ a c, v = .slice a R.length c ∧ R.length ≤ c ∧ c ≤ maxLen ∧ RowNs S w a R := by
  obtain ⟨h1, ⟨h2, h3⟩, h6, h4, h5⟩ := h
  rcases h3 with ⟨rfl, h3⟩ | ⟨g, cap, cur, rfl, hb, hg, hn, hc, hs, ht⟩
  · have h0 : R = [] := List.length_eq_zero_iff.1 (by omega)
    subst h0
    exact ⟨none, 0, rfl, Nat.le_refl _, by decide, fun i x hi => by simp at hi⟩
  · rw [h4]
    refine ⟨_, _, rfl, by omega, hc, fun i r hi => ?_⟩
    obtain ⟨q1, ra, rc, q2, q3, q4⟩ := h5 i r hi
    have hil : i < us.length := (List.getElem?_eq_some_iff.1 q2).1
    refine ⟨g, 0, ra, rc, rfl, by have := h1.2; omega, ?_, q3, q1⟩
    rw [Nat.zero_add, cell_of_row w g _ cur _ _ hg]
    have h7 : (cur.toList.take (us.length * 1))[i]? = some (.slice ra r.length rc) := by rw [ht]; exact q2
    rw [List.getElem?_take, if_pos (by omega)] at h7
    simpa using h7
theorem OwnX.new {S : Nat} {wb w : World} {v : Value} {us : List Value} {R : List (List RD)} (h : OwnX S wb w v us R) : ∀ g, v.ownBlock = some g → g < w.heap.size := fun g hg => (h.2.1.lt g hg).2
/-- append of a row -/
theorem wpList_append_rowx {w : World} {ops : Array Oper} {rest : List Oper} {o : Oper} {a : Act} {Q : Exit → Act → World → Prop} (hgd : o.guard = none) (s x : Operand)
    (ho : o.op = .call { callee := .builtin .append, args := #[s, x], argTypes := #[60, 60] })
    (S : Nat) (wb : World) (v : Value) (us : List Value) (R : List (List RD)) (hs : a.eval s = v) (hown : OwnX S wb w v us R)
    (g c : Nat) (hx : a.eval x = .slice (some ⟨g, 0, none⟩) 1 c) (ra : Option Addr) (rc : Nat) (r : List RD) (hr : RowDs S w ra r) (hoff : Off v ra w) (hrl : r.length ≤ 1100000)
    (hcell : w.cell? ⟨g, 0, none⟩ = some (.slice ra r.length rc)) (hlen : R.length + 1 ≤ 9000000)
    (h : ∀ v' us' w', OwnX S wb w' v' us' (R ++ [r]) → wpList Tryz.prog ops Q rest (a.put o.dst v') w') :
    wpList Tryz.prog ops Q (o :: rest) a w := by
  obtain ⟨i0, hi, hz0, hz1, hz2⟩ := info_parts infoSlD
  obtain ⟨hk, hown1, hall, hle, hrows⟩ := hown
  refine wpList_append_all w NoU hgd s x 60 ho wb.heap.size 61 i0 (.slice none 0 0) 1 24 Tryz.underlying60 hi hz0 hz1 hz2 rfl (by decide) v us.length us hs hown1
    ⟨g, 0, none⟩ 1 c [.slice ra r.length rc] hx rfl ?_ ?_ (by decide) (by unfold maxLen; omega) (by omega) hk.1.size hall ?_ ?_ ?_
  · intro j u hj
    match j, hj with
    | 0, hj => cases hj; simpa [Addr.add] using hcell
    | j + 1, hj => simp at hj
  · intro u hu
    simp only [List.mem_cons, List.not_mem_nil, or_false] at hu
    subst hu; rfl
  · intro u hu y e
    simp only [List.mem_cons, List.not_mem_nil, or_false] at hu
    subst hu; cases e
  · intro u hu y e
    simp [Value.cells] at hu
    subst hu; cases e
  · intro g' cap w' h1 h2 h3 h6
    have hb : Below wb.heap.size w w' := (Below.refl wb.heap.size w).grown h2 hk.1.size (fun k hk => (hown1.lt k hk).1)
    have hv : v.ownBlock = (Value.slice (some ⟨g', 0, none⟩) (us.length + 1) cap).ownBlock ∨ (Value.slice (some ⟨g', 0, none⟩) (us.length + 1) cap).ownBlock = some w.heap.size := by
      rcases h3 with h3 | h3
      · exact .inl h3
      · subst h3; exact .inr rfl
    refine h _ (us ++ [.slice ra r.length rc]) w' ⟨⟨Below.trans hk.1 hb, hk.2⟩, ?_, h6, by simp [hle], fun i q hq => ?_⟩
    · rw [List.length_append]; simpa using h1
    · by_cases hi2 : i < R.length
      · rw [List.getElem?_append_left hi2] at hq
        obtain ⟨q1, pa, pc, q2, q3, q4⟩ := hrows i q hq
        refine ⟨q1, pa, pc, ?_, q3.far h2 hall q4, q4.far h2.size hv⟩
        rw [List.getElem?_append_left (by omega)]; exact q2
      · rw [List.getElem?_append_right (by omega)] at hq
        have hi3 : i = R.length := by
          have := (List.getElem?_eq_some_iff.1 hq).1
          simp at this; omega
        subst hi3
        simp at hq
        subst hq
        refine ⟨hrl, ra, rc, ?_, hr.far h2 hall hoff, hoff.far h2.size hv⟩
        rw [List.getElem?_append_right (by omega), hle]; simp
theorem OwnE.new {wb w : World} {v : Value} {zs : List RD} (h : OwnE wb w v zs) : ∀ g, v.ownBlock = some g → g < w.heap.size := fun g hg => (h.2.1.lt g hg).2
/-- the row that was built is in another block, from S on -/
theorem OwnE.row {S : Nat} {wo w : World} {v u : Value} {zs : List RD} {a : Option Addr} {n c : Nat} (h : OwnE wo w v zs) (hS : S ≤ wo.heap.size) (hv : v = .slice a n c) (hr : RowD w a zs) (hu : ∀ g, u.ownBlock = some g → g < wo.heap.size) : RowDs S w a zs ∧ Off u a w := by
  subst hv
  have hl := h.new
  obtain ⟨_, ⟨_, hq⟩, _⟩ := h
  rcases hq with ⟨e, _⟩ | ⟨b, cap, cu, e, hb, _⟩
  · cases e
    exact ⟨⟨hr, fun p hp => by cases hp⟩, fun p hp => by cases hp⟩
  · cases e
    have := hl b rfl
    refine ⟨⟨hr, fun p hp => ?_⟩, fun p hp => ?_⟩
    · cases hp; exact Nat.le_trans hS hb
    · cases hp
      exact ⟨fun e => by have h9 : b < wo.heap.size := hu _ e; omega, by show b < _; omega⟩
/-- a box below the own blocks is written, then more is made -/
theorem OwnE.next {b : Nat} {y u : Value} {wb w w' : World} {v : Value} {zs : List RD} (ho : OwnE wb w v zs) (h : Kp (w.setCell ⟨b, 0, none⟩ y) w') (hb : b < wb.heap.size) (hc : w.cell? ⟨b, 0, none⟩ = some u) (hu : NoU u) : OwnE (wb.setCell ⟨b, 0, none⟩ y) w' v zs :=
  (ho.set hb hc hu y).kp h
theorem OwnX.next {S b : Nat} {y u : Value} {wb w w' : World} {v : Value} {us : List Value} {R : List (List RD)} (ho : OwnX S wb w v us R) (h : Kp (w.setCell ⟨b, 0, none⟩ y) w') (hb : b < S) (hc : w.cell? ⟨b, 0, none⟩ = some u) (hu : NoU u) : OwnX S (wb.setCell ⟨b, 0, none⟩ y) w' v us R :=
  (ho.set hb hc hu y).kp h
end Go.Proofs.YtdidocdpjiiedaaGreatDoor
end

section
namespace Go.Proofs.YtdidocdpjiiedaaGreatDoor
open Go.RowKit

/-- exact products of a matrix and a column, or none -/
def ExaOut (w : World) (L : List (List RD)) (z : List RD) (e : Ending) (w' : World) : Prop :=
  Kp w w' ∧ (e = .returned (.tuple #[.slice none 0 0, .bool false]) ∨
    ∃ (aW : Option Addr) (W : List RD) (cW : Nat), e = .returned (.tuple #[.slice aW W.length cW, .bool true]) ∧ RowD w' aW W ∧ W.length = L.length ∧ (∀ y ∈ W, y.vl = true) ∧
      ∀ (i : Nat) (r : List RD) (y : RD), L[i]? = some r → W[i]? = some y → dotS r z r.length y.iv)
theorem set33x {w : World} {g b o b2 o2 : Nat} (n : b ≠ g) (n2 : b2 ≠ g) {v0 v1 v2 v3 v4 v5 x0 x1 x2 : Value}
    (h : (w.cell? ⟨b, o, none⟩ = some v0 ∧ w.cell? ⟨b, o + 1, none⟩ = some v1 ∧ w.cell? ⟨b, o + 2, none⟩ = some v2) ∧ w.cell? ⟨b2, o2, none⟩ = some v3 ∧ w.cell? ⟨b2, o2 + 1, none⟩ = some v4 ∧ w.cell? ⟨b2, o2 + 2, none⟩ = some v5) :
    (fun W : World => (W.cell? ⟨b, o, none⟩ = some v0 ∧ W.cell? ⟨b, o + 1, none⟩ = some v1 ∧ W.cell? ⟨b, o + 2, none⟩ = some v2) ∧ W.cell? ⟨b2, o2, none⟩ = some v3 ∧ W.cell? ⟨b2, o2 + 1, none⟩ = some v4 ∧ W.cell? ⟨b2, o2 + 2, none⟩ = some v5)
      (((w.setCell ⟨g, 0, none⟩ x0).setCell ⟨g, 1, none⟩ x1).setCell ⟨g, 2, none⟩ x2) := by
  have ne (i j : Nat) : (⟨g, i, none⟩ : Addr) ≠ ⟨b, j, none⟩ := fun e => n (by injection e with e1; exact e1.symm)
  have ne2 (i j : Nat) : (⟨g, i, none⟩ : Addr) ≠ ⟨b2, j, none⟩ := fun e => n2 (by injection e with e1; exact e1.symm)
  have key (j : Nat) : (((w.setCell ⟨g, 0, none⟩ x0).setCell ⟨g, 1, none⟩ x1).setCell ⟨g, 2, none⟩ x2).cell? ⟨b, j, none⟩ = w.cell? ⟨b, j, none⟩ := by
    rw [cell_set_ne (ne 2 j), cell_set_ne (ne 1 j), cell_set_ne (ne 0 j)]
  have key2 (j : Nat) : (((w.setCell ⟨g, 0, none⟩ x0).setCell ⟨g, 1, none⟩ x1).setCell ⟨g, 2, none⟩ x2).cell? ⟨b2, j, none⟩ = w.cell? ⟨b2, j, none⟩ := by
    rw [cell_set_ne (ne2 2 j), cell_set_ne (ne2 1 j), cell_set_ne (ne2 0 j)]
  simp only [key, key2]
  exact h
theorem dot_next {r z : List RD} {k : Nat} {s y1 y2 x y : RD} {w w2 : World} (h : dotS r z k s.iv) (hx : r[k]? = some x) (hy : z[k]? = some y) (ox : x.ok w) (oy : y.ok w2) (e1 : (chk (prodD x.dy y.dy)).2 = 0) (d1 : y1.dy = (chk (prodD x.dy y.dy)).1)
    (e2 : (chk (sumD s.dy y1.dy)).2 = 0) (d2 : y2.dy = (chk (sumD s.dy y1.dy)).1) : dotS r z (k + 1) y2.iv := by
  rw [chk0 e1] at d1
  rw [chk0 e2] at d2
  have h1 := prodD_iv (rdok_dy ox) (rdok_dy oy) e1
  have h2 : y2.iv = s.iv + y1.iv := by
    show y2.dy.iv = _
    rw [d2, sumD_iv]; rfl
  rw [h2]
  refine h.step hx hy ?_
  show y1.dy.iv * _ = _
  rw [d1]; exact h1
theorem exa_snoc {L : List (List RD)} {z W : List RD} {r : List RD} {s : RD} (h : ∀ (i : Nat) (r : List RD) (y : RD), L[i]? = some r → W[i]? = some y → dotS r z r.length y.iv) (hr : L[W.length]? = some r) (hs : dotS r z r.length s.iv) :
    ∀ (i : Nat) (r : List RD) (y : RD), L[i]? = some r → (W ++ [s])[i]? = some y → dotS r z r.length y.iv := by
  intro i q y hq hy
  by_cases hi : i < W.length
  · rw [List.getElem?_append_left hi] at hy; exact h i q y hq hy
  · rw [List.getElem?_append_right (by omega)] at hy
    have hie : i = W.length := by
      have := (List.getElem?_eq_some_iff.1 hy).1
      simp at this; omega
    subst hie
    simp at hy; subst hy
    rw [hr] at hq; cases hq
    exact hs
theorem vl_snocD {W : List RD} {s : RD} (h : ∀ y ∈ W, y.vl = true) (hs : s.vl = true) : ∀ y ∈ W ++ [s], y.vl = true := by
  intro y hy
  rcases List.mem_append.1 hy with h1 | h1
  · exact h y h1
  · simp only [List.mem_singleton] at h1; subst h1; exact hs
set_option maxRecDepth 100000 in
set_option maxHeartbeats 8000000 in
theorem exact7_any (a b : Option Addr) (L : List (List RD)) (z : List RD) (c d : Nat) (w : World) (hL : RowN w a L) (hz : RowD w b z) (vL : ∀ r ∈ L, r.length = z.length ∧ ∀ y ∈ r, y.vl = true) (vz : ∀ y ∈ z, y.vl = true) (hl : L.length ≤ 1100000) (hlz : z.length ≤ 1100000) (hT : Tab w) :
    Calls Tryz.prog 36 #[.slice a L.length c, .slice b z.length d] w (ExaOut w L z) := by
  have HL := Lib.hid hL
  have HZ := Lib.hid hz
  have HV := Lib.hid (And.intro vL vz)
  have HT := Lib.hid hT
  clear hL hz vL vz hT
  go_enter Tryz.func36, Tryz.ntmps36
  go_wp2_with fail
  go_loopg [6, 18] L.length (fun q v x wr => ∃ W : List RD, W.length + q = L.length ∧ x = .int .i64 (W.length : Int) ∧ OwnE w wr v W ∧ (∀ y ∈ W, y.vl = true) ∧ ∀ (i : Nat) (r : List RD) (y : RD), L[i]? = some r → W[i]? = some y → dotS r z r.length y.iv)
  case atStart => exact ⟨[], by simp, rfl, OwnE.nil (Kp.refl _), fun y h => by simp at h, fun i r y _ h => by simp at h⟩
  case round =>
    obtain ⟨W, hWq, rfl, hO, hvW, hdW⟩ := hrel
    have HO := Lib.hid hO
    have HW := Lib.hid (And.intro hvW hdW)
    have HKR := Lib.hid hO.1
    clear hO hvW hdW
    by_cases hlt : W.length < L.length
    · obtain ⟨r, hr⟩ : ∃ r, L[W.length]? = some r := ⟨_, List.getElem?_eq_getElem hlt⟩
      obtain ⟨b2, o2, ra, rc, e2, hrc, hrow, hrl⟩ := HL.out W.length r hr
      subst e2
      have hrc1 := HKR.out.cell hrc
      have HRW := Lib.hid (And.intro hrow (HV.out.1 r (List.mem_of_getElem? hr)))
      have HR := Lib.hid hr
      have Hlt := Lib.hid (And.intro hlt hWq)
      have hk1 : (0 : Int) ≤ (W.length : Int) := by omega
      have hk2 : (W.length : Int) < (L.length : Int) := by omega
      clear hr hrc hrow hWq hlt
      go_upto_region 5 with fail
      clear hrc1
      obtain ⟨V, hV⟩ : ∃ x : World, x = wr := ⟨_, rfl⟩
      subst hV
      go_upto_region 6 with fail
      generalize hW3 : V.alloc _ = W3 at *
      have hk3 : Kp V W3 := hW3 ▸ (Kp.refl V).alloc _
      have hS3 : BoxD W3 V.heap.size rdZero := by rw [← hW3]; exact Box3.new _ _ _ _ _
      clear hW3
      obtain ⟨gk1, hgk1⟩ : ∃ x : Nat, x = gk := ⟨_, rfl⟩
      subst hgk1
      go_wp2_with fail
      go_loopg [24] r.length (fun n v wr => ∃ (k : Nat) (s : RD), k + n = r.length ∧ v = .int .i64 (k : Int) ∧ Kp V wr ∧ BoxD wr V.heap.size s ∧ s.ok wr ∧ dotS r z k s.iv)
      case atStart => exact ⟨0, rdZero, by omega, rfl, hk3, hS3, ⟨rdZero_rd _, rdZero_vl⟩, by rw [show rdZero.iv = 0 from Dy.iv_zero]; exact dotS.zero _ _⟩
      case round =>
        obtain ⟨k, s, hkn, rfl, hks, hS, hso, hC⟩ := hrel
        have HC := Lib.hid hC
        have HSo := Lib.hid hso
        have HKS := Lib.hid hks
        clear hC hso hS3 hk3 hks
        by_cases hlt2 : k < r.length
        · obtain ⟨x, hx⟩ : ∃ x, r[k]? = some x := ⟨_, List.getElem?_eq_getElem hlt2⟩
          obtain ⟨b3, o3, e3, hrd, s0, s1, s2⟩ := (HRW.out.1.kp (HKR.out.trans HKS.out)) k x hx
          subst e3
          obtain ⟨y, hy⟩ : ∃ y, z[k]? = some y := ⟨_, List.getElem?_eq_getElem (by have := HRW.out.2.1; omega)⟩
          have kA := (Kp.refl wr).alloc (.cells #[.bool x.neg, .slice x.a x.xs.length x.c, .int .i64 x.e] 28)
          obtain ⟨b4, o4, e4, hyd, t0, t1, t2⟩ := (HZ.out.kp ((HKR.out.trans HKS.out).trans kA)) k y hy
          subst e4
          have OXY := Lib.hid (And.intro (And.intro hx (show x.ok (wr.alloc (.cells #[.bool x.neg, .slice x.a x.xs.length x.c, .int .i64 x.e] 28)) from ⟨hrd.kp kA, HRW.out.2.2 x (List.mem_of_getElem? hx)⟩)) (And.intro hy (show y.ok (wr.alloc (.cells #[.bool x.neg, .slice x.a x.xs.length x.c, .int .i64 x.e] 28)) from ⟨hyd, HV.out.2 y (List.mem_of_getElem? hy)⟩)))
          have hj1 : (0 : Int) ≤ (k : Int) := by omega
          have hj2 : (k : Int) < (r.length : Int) := by omega
          have hj3 : (k : Int) < (z.length : Int) := by have := HRW.out.2.1; omega
          have Hkn := Lib.hid (And.intro hkn hlt2)
          have HSA := Lib.hid (hS.kp kA)
          have HKA := Lib.hid (HKS.out.trans kA)
          have HSoA := Lib.hid (HSo.out.kp kA)
          have hb4 := World.block_lt_of_cell? _ _ t0
          clear hx hy hrd hyd hkn hS
          go_upto_region 9 with fail
          clear s0 s1 s2
          have hb3 : wr.heap.size < (wr.alloc (.cells #[.bool x.neg, .slice x.a x.xs.length x.c, .int .i64 x.e] 28)).heap.size := by simp
          have hPx : (wr.alloc (.cells #[.bool x.neg, .slice x.a x.xs.length x.c, .int .i64 x.e] 28)).cell? ⟨wr.heap.size, 0, none⟩ = some (.bool x.neg) ∧ (wr.alloc (.cells #[.bool x.neg, .slice x.a x.xs.length x.c, .int .i64 x.e] 28)).cell? ⟨wr.heap.size, 1, none⟩ = some (.slice x.a x.xs.length x.c) ∧ (wr.alloc (.cells #[.bool x.neg, .slice x.a x.xs.length x.c, .int .i64 x.e] 28)).cell? ⟨wr.heap.size, 2, none⟩ = some (.int .i64 x.e) := by simp
          generalize hW4 : wr.alloc _ = W4 at *
          have HKW := Lib.hid kA
          clear hW4 kA
          have hPC : (W4.cell? ⟨wr.heap.size, 0, none⟩ = some (.bool x.neg) ∧ W4.cell? ⟨wr.heap.size, 0 + 1, none⟩ = some (.slice x.a x.xs.length x.c) ∧ W4.cell? ⟨wr.heap.size, 0 + 2, none⟩ = some (.int .i64 x.e)) ∧ W4.cell? ⟨b4, o4 + k * 3, none⟩ = some (.bool y.neg) ∧ W4.cell? ⟨b4, o4 + k * 3 + 1, none⟩ = some (.slice y.a y.xs.length y.c) ∧ W4.cell? ⟨b4, o4 + k * 3 + 2, none⟩ = some (.int .i64 y.e) := ⟨hPx, t0, t1, t2⟩
          clear hPx t0 t1 t2
          go_cut [12, 13] from 29 to 37 (fun s t wx => ∃ (b1 : Nat) (q : RD), s = .pointer (some ⟨b1, 0, none⟩) ∧ t = .int .i64 (chk (prodD x.dy y.dy)).2 ∧ HasD W4 wx b1 q (chk (prodD x.dy y.dy)).1)
          case first =>
            have hOK : (chk (prodD x.dy y.dy)).1.ok := chk_canon_ok _ _ _
            have HOK := Lib.hid hOK
            have kd := Lib.hid (Kp.refl W4).drew
            have hSd := keep33 kd.out hPC
            have HS0 := Lib.hid hPC
            have KZ := Lib.hid (show Kp W4 (W4.alloc (.cells #[.bool false, .slice none 0 0, .int .i64 0] 28)).drew from kd.out.trans ((Kp.refl W4.drew).alloc _))
            have HSZ := Lib.hid (keep33 KZ.out hPC)
            have BZ := Lib.hid (show Box3 (W4.alloc (.cells #[.bool false, .slice none 0 0, .int .i64 0] 28)).drew W4.heap.size _ _ _ from Box3.new W4.drew _ _ _ _)
            have n1 : wr.heap.size ≠ W4.heap.size := Nat.ne_of_lt hb3
            have n2 : b4 ≠ W4.heap.size := Nat.ne_of_lt hb4
            have HTM := Lib.hid (HT.out.kp (HKR.out.trans HKA.out))
            clear hPC hb3 hb4 hOK
            go_region_held3 (fun w' => (w'.cell? ⟨wr.heap.size, 0, none⟩ = some (.bool x.neg) ∧ w'.cell? ⟨wr.heap.size, 0 + 1, none⟩ = some (.slice x.a x.xs.length x.c) ∧ w'.cell? ⟨wr.heap.size, 0 + 2, none⟩ = some (.int .i64 x.e)) ∧ w'.cell? ⟨b4, o4 + k * 3, none⟩ = some (.bool y.neg) ∧ w'.cell? ⟨b4, o4 + k * 3 + 1, none⟩ = some (.slice y.a y.xs.length y.c) ∧ w'.cell? ⟨b4, o4 + k * 3 + 2, none⟩ = some (.int .i64 y.e)) (first | with_reducible assumption | with_reducible exact keep33 (by assumption) (by assumption) | with_reducible exact keep33 ((Kp.refl _).alloc _) (by assumption) | with_reducible exact set33x (by assumption) (by assumption) (by assumption) | with_reducible exact HSZ.out | fail)
              (first
                | ((with_reducible refine (Mul_rd x y _ (OXY.out.1.2.kp kd.out) (OXY.out.2.2.kp kd.out) (HTM.out.kp kd.out)).mono ?_); rintro e v1 ⟨z1, rfl, r1, d1, q1, j1⟩
                   have KJ := Lib.hid (kd.out.trans j1)
                   have hS1 := keep33 KJ.out HS0.out
                   have O1 := Lib.hid (And.intro (show z1.ok v1 from ⟨r1, q1 HOK.out⟩) d1)
                   clear r1 d1 q1)
                | ((with_reducible refine (Mul_rd x y _ (OXY.out.1.2.kp KZ.out) (OXY.out.2.2.kp KZ.out) (HTM.out.kp KZ.out)).mono ?_); rintro e v1 ⟨z1, rfl, r1, d1, q1, j1⟩
                   have KJ := Lib.hid (KZ.out.trans j1)
                   have BV := BZ.out.kp j1
                   have O1 := Lib.hid (And.intro (show z1.ok v1 from ⟨r1, q1 HOK.out⟩) d1)
                   clear r1 d1 q1
                   obtain ⟨q0, q1, q2, f0, f1, f2⟩ := id BV)
                | fail)
            all_goals
              go_wp2_with fail
              go_meet
              case rel => first
                | exact ⟨_, z1, rfl, rfl, hasD_store BV (fun _ h => by cases h) (fun _ h => by cases h) (fun _ h => by cases h) O1.out.1 O1.out.2 KJ.out (Nat.le_refl _)⟩
                | exact ⟨_, z1, rfl, rfl, hasD_alloc O1.out.1 O1.out.2 KJ.out _⟩
          case rest =>
          obtain ⟨b1, z1, rfl, rfl, hD1⟩ := hcut
          obtain ⟨W8, hW8⟩ : ∃ x : World, x = wc := ⟨_, rfl⟩
          subst hW8
          have HK8 := Lib.hid hD1.2.2.2.1
          have hSB := HSA.out.kp HK8.out
          have HKB := Lib.hid (HKA.out.trans HK8.out)
          have SoB := HSoA.out.kp HK8.out
          have O1 := Lib.hid (And.intro hD1.2.1 hD1.2.2.1)
          obtain ⟨m0, m1, m2⟩ := hD1.1
          obtain ⟨q0, q1, q2, f0, f1, f2⟩ := id hSB
          clear hPC hD1 hb3 hb4
          go_wp2_with fail
          go_fit (Add_rd s z1 _ SoB O1.out.1 (HT.out.kp (HKR.out.trans HKB.out)))
          rintro e w6 ⟨z2, rfl, rz, dz, vz, k6⟩
          have kC := (Kp.refl w6).alloc (.cells #[.bool z2.neg, .slice z2.a z2.xs.length z2.c, .int .i64 z2.e] 28)
          have O2 := Lib.hid (And.intro (show z2.ok (w6.alloc (.cells #[.bool z2.neg, .slice z2.a z2.xs.length z2.c, .int .i64 z2.e] 28)) from ⟨rz.kp kC, vz (sumD_chk_ok _ _)⟩) dz)
          have hSC := hSB.kp (k6.trans kC)
          have HKC := Lib.hid (HKB.out.trans (k6.trans kC))
          clear rz dz vz hSB q0 q1 q2 f0 f1 f2 m0 m1 m2 SoB
          go_upto_region 11 with fail
          generalize hW6 : w6.alloc _ = W6 at *
          obtain ⟨m0, m1, m2⟩ : W6.cell? ⟨w6.heap.size, 0, none⟩ = some (.bool z2.neg) ∧ W6.cell? ⟨w6.heap.size, 1, none⟩ = some (.slice z2.a z2.xs.length z2.c) ∧ W6.cell? ⟨w6.heap.size, 2, none⟩ = some (.int .i64 z2.e) := by rw [← hW6]; simp
          clear hW6 kC k6
          by_cases he1 : (chk (prodD x.dy y.dy)).2 = 0
          · by_cases he2 : (chk (sumD s.dy z1.dy)).2 = 0
            · have HDN := Lib.hid (dot_next HC.out OXY.out.1.1 OXY.out.2.1 OXY.out.1.2 OXY.out.2.2 he1 O1.out.2 he2 O2.out.2)
              rw [he1, he2]
              clear he1 he2
              obtain ⟨q0, q1, q2, f0, f1, f2⟩ := id hSC
              go_wp2_with fail
              go_roundg (gk - 1)
              case measure => have := Hkn.out; omega
              case rel =>
                generalize hW9 : (((W6.setCell _ _).setCell _ _).setCell _ _) = W9
                obtain ⟨hN, hU⟩ := BoxD.store hSC z2 hW9
                exact ⟨k + 1, z2, by have := Hkn.out; omega, by go_num, hU.2.2.1 _ HKC.out (Nat.le_refl _), hN, hU.okD O2.out.1, HDN.out⟩
            · have g1 : ((chk (sumD s.dy z1.dy)).2 != 0) = true := by rw [bne, beq_eq_false_iff_ne.2 he2]; rfl
              have g3 : ((chk (sumD s.dy z1.dy)).2 == 0) = false := beq_eq_false_iff_ne.2 he2
              rw [he1]
              have HKF := Lib.hid (HKR.out.trans HKC.out)
              clear hSC m0 m1 m2 he2 he1
              go_wp2_with fail
              refine bodyPost_ret (v := .tuple #[.slice none 0 0, .bool false]) (by simp [results, Tryz.results36, go_sem]) rfl ?_
              exact ⟨HKF.out, .inl rfl⟩
          · have g1 : ((chk (prodD x.dy y.dy)).2 != 0) = true := by rw [bne, beq_eq_false_iff_ne.2 he1]; rfl
            have g3 : ((chk (prodD x.dy y.dy)).2 == 0) = false := beq_eq_false_iff_ne.2 he1
            have HKF := Lib.hid (HKR.out.trans HKC.out)
            clear hSC m0 m1 m2 he1
            go_wp2_with fail
            refine bodyPost_ret (v := .tuple #[.slice none 0 0, .bool false]) (by simp [results, Tryz.results36, go_sem]) rfl ?_
            exact ⟨HKF.out, .inl rfl⟩
        · have hke : k = r.length := by omega
          have HD := Lib.hid (show dotS r z r.length s.iv by rw [← hke]; exact HC.out)
          have kB := (Kp.refl wr).alloc (.cells #[.bool s.neg, .slice s.a s.xs.length s.c, .int .i64 s.e] 28)
          have hownA := HO.out.kp (HKS.out.trans kB)
          have hsA := HSo.out.1.kp kB
          have hcl : W.length + 1 ≤ 9000000 := by have := Hlt.out; omega
          obtain ⟨q0, q1, q2, f0, f1, f2⟩ := id hS
          clear hke hkn hS
          go_wp2_with (at_builtin; refine wpList_append_dyn rfl _ _ rfl w _ W rfl hownA _ _ rfl s hsA (by simp) hcl ?_; intro a' c' w9 hown9 hbel hgrow)
          go_roundg (gk1 - 1)
          case measure => have := Hlt.out; omega
          case rel =>
            exact ⟨W ++ [s], by have := Hlt.out; rw [List.length_append, List.length_singleton]; omega, by rw [List.length_append, List.length_singleton]; go_num, by simpa using hown9, vl_snocD HW.out.1 HSo.out.2, exa_snoc HW.out.2 HR.out HD.out⟩
    · have hRe : W.length = L.length := by omega
      obtain ⟨va, vc, rfl, hvc1, hvc2, hrm⟩ := HO.out.value
      have HRe := Lib.hid (And.intro hRe hrm)
      clear hRe hWq hrm
      go_wp2_with fail
      refine bodyPost_ret (v := .tuple #[.slice va W.length vc, .bool true]) (by simp [results, Tryz.results36, go_sem]) rfl ?_
      exact ⟨HKR.out, .inr ⟨va, W, vc, rfl, HRe.out.2, HRe.out.1, HW.out.1, HW.out.2⟩⟩
end Go.Proofs.YtdidocdpjiiedaaGreatDoor
end

section
namespace Go.Proofs.YtdidocdpjiiedaaGreatDoor
open Go.RowKit

set_option maxHeartbeats 4000000 in
theorem pick7_any (x : RI) (bb : Nat) (n : Int) (w : World) (hx : x.rd w) (hb : w.cell? ⟨bb, 0, none⟩ = some (.int .u64 n)) (hf : w.frozen? ⟨bb, 0, none⟩ = false) :
    Calls Tryz.prog 34 #[.agg #[.bool x.lo.neg, .slice x.lo.a x.lo.xs.length x.lo.c, .int .i64 x.lo.e, .bool x.hi.neg, .slice x.hi.a x.hi.xs.length x.hi.c, .int .i64 x.hi.e, .bool x.all], .pointer (some ⟨bb, 0, none⟩)] w fun e w' => ∃ d : RD, e = .returned (.agg #[.bool d.neg, .slice d.a d.xs.length d.c, .int .i64 d.e]) ∧ endR x d ∧ d.rd w' ∧ ∃ n' : Int, Kp (w.setCell ⟨bb, 0, none⟩ (.int .u64 n')) w' := by
  have hlt : bb < w.heap.size := World.block_lt_of_cell? w _ hb
  have k1 := ((Kp.refl w).alloc (.cells #[.bool x.lo.neg, .slice x.lo.a x.lo.xs.length x.lo.c, .int .i64 x.lo.e, .bool x.hi.neg, .slice x.hi.a x.hi.xs.length x.hi.c, .int .i64 x.hi.e, .bool x.all] 43)).alloc (.cells #[.bool false, .slice none 0 0, .int .i64 0] 28)
  have hb1 := k1.cell hb
  have hf1 := k1.frozen hb hf
  have HX := Lib.hid (hx.kp k1)
  have hk0 := fun v : Value => k1.both ⟨bb, 0, none⟩ v
  clear hx hb hf
  go_enter Tryz.func34, Tryz.ntmps34
  go_upto_region 1 with fail
  generalize hW : ((w.alloc _).alloc _) = W at *
  have hS : W.cell? ⟨w.heap.size, 0, none⟩ = some (.bool x.lo.neg) ∧ W.cell? ⟨w.heap.size, 1, none⟩ = some (.slice x.lo.a x.lo.xs.length x.lo.c) ∧ W.cell? ⟨w.heap.size, 2, none⟩ = some (.int .i64 x.lo.e) ∧ W.cell? ⟨w.heap.size, 3, none⟩ = some (.bool x.hi.neg) ∧ W.cell? ⟨w.heap.size, 4, none⟩ = some (.slice x.hi.a x.hi.xs.length x.hi.c) ∧ W.cell? ⟨w.heap.size, 5, none⟩ = some (.int .i64 x.hi.e) ∧ W.cell? ⟨w.heap.size, 6, none⟩ = some (.bool x.all) := by rw [← hW]; exact keep7 ((Kp.refl _).alloc _) (by simp)
  have hB : Box3 W (w.heap.size + 1) (.bool false) (.slice none 0 0) (.int .i64 0) := by rw [← hW]; exact Box3.new2 _ _ _ _ _ _
  clear hW
  go_upto_region 2 with fail
  generalize hW2 : World.setCell W _ _ = W2
  obtain ⟨n', hn'⟩ : ∃ n' : Int, W.setCell ⟨bb, 0, none⟩ (.int .u64 n') = W2 := ⟨_, hW2⟩
  clear hW2
  have hk2 : Kp (w.setCell ⟨bb, 0, none⟩ (.int .u64 n')) W2 := hn' ▸ hk0 _
  have hq : W2.cell? ⟨bb, 0, none⟩ = some (.int .u64 n') := by rw [← hn']; exact cell_set_eq hb1
  have d (g k : Nat) (hg : w.heap.size ≤ g) : (⟨bb, 0, none⟩ : Addr) ≠ ⟨g, k, none⟩ := fun e => by injection e with e1; omega
  have hS2 : W2.cell? ⟨w.heap.size, 0, none⟩ = some (.bool x.lo.neg) ∧ W2.cell? ⟨w.heap.size, 1, none⟩ = some (.slice x.lo.a x.lo.xs.length x.lo.c) ∧ W2.cell? ⟨w.heap.size, 2, none⟩ = some (.int .i64 x.lo.e) ∧ W2.cell? ⟨w.heap.size, 3, none⟩ = some (.bool x.hi.neg) ∧ W2.cell? ⟨w.heap.size, 4, none⟩ = some (.slice x.hi.a x.hi.xs.length x.hi.c) ∧ W2.cell? ⟨w.heap.size, 5, none⟩ = some (.int .i64 x.hi.e) ∧ W2.cell? ⟨w.heap.size, 6, none⟩ = some (.bool x.all) := by
    rw [← hn']
    obtain ⟨h0, h1, h2, h3, h4, h5, h6⟩ := hS
    refine ⟨?_, ?_, ?_, ?_, ?_, ?_, ?_⟩ <;> (rw [cell_set_ne (d _ _ (Nat.le_refl _))]; assumption)
  have hB2 : Box3 W2 (w.heap.size + 1) (.bool false) (.slice none 0 0) (.int .i64 0) := by
    rw [← hn']
    obtain ⟨h0, h1, h2, f0, f1, f2⟩ := hB
    refine ⟨?_, ?_, ?_, ?_, ?_, ?_⟩
    · rw [cell_set_ne (d _ _ (Nat.le_succ _))]; exact h0
    · rw [cell_set_ne (d _ _ (Nat.le_succ _))]; exact h1
    · rw [cell_set_ne (d _ _ (Nat.le_succ _))]; exact h2
    · rw [World.frozen?_setCell]; exact f0
    · rw [World.frozen?_setCell]; exact f1
    · rw [World.frozen?_setCell]; exact f2
  have HX2 := Lib.hid (show x.rd W2 by rw [← hn']; exact RI.rd.set HX.out hb1 (fun _ h => by cases h) _)
  clear hn' hb1 hf1 hk0 hS hB d HX k1
  go_cut [9] from 7 to 8 (fun s wx => (∃ b : Bool, s = .bool b) ∧ wx = W2)
  case first =>
    go_wp2_with fail
    go_meet
    case rel => exact ⟨⟨_, rfl⟩, rfl⟩
  case rest =>
  obtain ⟨⟨t, rfl⟩, hwc⟩ := hcut
  subst hwc
  obtain ⟨W2, hW2⟩ : ∃ x : World, x = wc := ⟨_, rfl⟩
  subst hW2
  obtain ⟨s0, s1, s2, s3, s4, s5, s6⟩ := hS2
  obtain ⟨q0, q1, q2, f0, f1, f2⟩ := id hB2
  cases t with
  | true =>
    go_wp2_with fail
    generalize hW9 : (((W2.setCell _ _).setCell _ _).setCell _ _) = W9
    obtain ⟨⟨r0, r1, r2, _⟩, hU⟩ := BoxD.store (x := rdZero) hB2 x.lo hW9
    clear hW9 q0 q1 q2 f0 f1 f2
    refine bodyPost_ret (v := .agg #[.bool x.lo.neg, .slice x.lo.a x.lo.xs.length x.lo.c, .int .i64 x.lo.e]) (by simp [results, Tryz.results34, go_sem, r0, r1, r2]) rfl ?_
    exact ⟨x.lo, rfl, .inl rfl, hU.rdD HX2.out.1, n', hU.2.2.1 _ hk2 (by simp)⟩
  | false =>
    go_wp2_with fail
    generalize hW9 : (((W2.setCell _ _).setCell _ _).setCell _ _) = W9
    obtain ⟨⟨r0, r1, r2, _⟩, hU⟩ := BoxD.store (x := rdZero) hB2 x.hi hW9
    clear hW9 q0 q1 q2 f0 f1 f2
    refine bodyPost_ret (v := .agg #[.bool x.hi.neg, .slice x.hi.a x.hi.xs.length x.hi.c, .int .i64 x.hi.e]) (by simp [results, Tryz.results34, go_sem, r0, r1, r2]) rfl ?_
    exact ⟨x.hi, rfl, .inr rfl, hU.rdD HX2.out.2, n', hU.2.2.1 _ hk2 (by simp)⟩
/-- is |d| greater than b? -/
def overB (b d : RD) : Bool := decide (b.iv < (d.iv.natAbs : Int))
set_option maxHeartbeats 4000000 in
theorem over7_any (d b : RD) (g : Nat) (w : World) (hd : d.ok w) (hb : b.ok w) (hB : w.cell? ⟨g, 0, none⟩ = some (.bool b.neg) ∧ w.cell? ⟨g, 1, none⟩ = some (.slice b.a b.xs.length b.c) ∧ w.cell? ⟨g, 2, none⟩ = some (.int .i64 b.e)) :
    Calls Tryz.prog 40 #[.agg #[.bool d.neg, .slice d.a d.xs.length d.c, .int .i64 d.e], .pointer (some ⟨g, 0, none⟩)] w fun e w' => e = .returned (.bool (overB b d)) ∧ Kp w w' := by
  have k1 := (Kp.refl w).alloc (.cells #[.bool d.neg, .slice d.a d.xs.length d.c, .int .i64 d.e] 28)
  have HB := Lib.hid (hb.kp k1)
  have HD := Lib.hid (hd.kp k1)
  have HZ := Lib.hid (show overB b d = decide (0 < cmpZ d.dy.absv.iv b.iv) by
    unfold overB cmpZ; rw [Dy.absv_iv, show d.dy.iv = d.iv from rfl]
    by_cases h1 : (d.iv.natAbs : Int) < b.iv
    · rw [if_pos h1, decide_eq_false (by omega)]; rfl
    · rw [if_neg h1]
      by_cases h2 : (d.iv.natAbs : Int) = b.iv
      · rw [if_pos h2, decide_eq_false (by omega)]; rfl
      · rw [if_neg h2, decide_eq_true (by omega)]; rfl)
  rw [HZ.out]
  have hB1 := keep3 k1 hB
  clear hd hb hB HZ
  go_enter Tryz.func40, Tryz.ntmps40
  go_upto_region 1 with fail
  generalize hW : w.alloc _ = W at *
  have hS : W.cell? ⟨w.heap.size, 0, none⟩ = some (.bool d.neg) ∧ W.cell? ⟨w.heap.size, 1, none⟩ = some (.slice d.a d.xs.length d.c) ∧ W.cell? ⟨w.heap.size, 2, none⟩ = some (.int .i64 d.e) := by rw [← hW]; simp
  clear hW
  have kd := Lib.hid (Kp.refl W).drew
  have hSd := keep33 kd.out ⟨hS, hB1⟩
  have K1 := Lib.hid k1
  clear hS hB1 k1
  go_region_held3 (fun w' => (w'.cell? ⟨w.heap.size, 0, none⟩ = some (.bool d.neg) ∧ w'.cell? ⟨w.heap.size, 1, none⟩ = some (.slice d.a d.xs.length d.c) ∧ w'.cell? ⟨w.heap.size, 2, none⟩ = some (.int .i64 d.e)) ∧ w'.cell? ⟨g, 0, none⟩ = some (.bool b.neg) ∧ w'.cell? ⟨g, 1, none⟩ = some (.slice b.a b.xs.length b.c) ∧ w'.cell? ⟨g, 2, none⟩ = some (.int .i64 b.e)) (first | with_reducible assumption | with_reducible exact keep33 (by assumption) (by assumption) | fail)
    (first
      | (go_at_call 35; (with_reducible refine (Abs_ok d _ (HD.out.kp kd.out)).mono ?_); rintro e v1 ⟨z, rfl, rz, dz, vz, j1⟩
         have HJ := Lib.hid (kd.out.trans j1)
         have OZ := Lib.hid (And.intro (show z.ok v1 from ⟨rz, vz (Dy.absv_ok (rdok_dy HD.out))⟩) dz)
         clear rz dz vz)
      | (go_at_call 32; (with_reducible refine (Cmp_rok z b _ OZ.out.1 (HB.out.kp HJ.out)).mono ?_); rintro e v2 ⟨rfl, j2⟩
         have HJ2 := Lib.hid (HJ.out.trans j2))
      | fail)
  go_wp2_with fail
  refine bodyPost_ret (v := .bool (decide (0 < cmpZ d.dy.absv.iv b.iv))) (by simp [results, Tryz.results40, go_sem, OZ.out.2, RD.iv] <;> rfl) rfl ?_
  exact ⟨rfl, K1.out.trans HJ2.out⟩
end Go.Proofs.YtdidocdpjiiedaaGreatDoor
end

section
namespace Go.Proofs.YtdidocdpjiiedaaGreatDoor
open Go.RowKit

/-- below the own blocks: nothing but the box of the draws and the box of the greatest number is written -/
def Bas (w : World) (S bb ob : Nat) (aY : Option Addr) (Y : List RI) (y : RD) (wb : World) : Prop := (Kp w wb ∧ wb.heap.size = S) ∧ (∃ n, wb.cell? ⟨bb, 0, none⟩ = some (.int .u64 n)) ∧ wb.frozen? ⟨bb, 0, none⟩ = false ∧ BoxD wb ob y ∧ RowI wb aY Y
/-- a row of intervals behind a store to a cell that holds a uint64 -/
theorem RowI.setu {w : World} {a : Option Addr} {r : List RI} (h : RowI w a r) {p : Addr} {n : Int} (hc : w.cell? p = some (.int .u64 n)) (v : Value) : RowI (w.setCell p v) a r := by
  intro j x hj
  obtain ⟨b, o, e, hr, h0, h1, h2, h3, h4, h5, h6⟩ := h j x hj
  have key (q : Addr) (u : Value) (hq : w.cell? q = some u) (hu : ∀ n, u ≠ .int .u64 n) : (w.setCell p v).cell? q = some u := by
    rw [World.cell?_setCell_other _ _ _ _ (fun e => by subst e; rw [hc] at hq; cases hq; exact hu n rfl)]; exact hq
  exact ⟨b, o, e, RI.rd.set hr hc (fun _ h => by cases h) v, key _ _ h0 (fun _ h => by cases h), key _ _ h1 (fun _ h => by cases h), key _ _ h2 (fun _ h => by cases h), key _ _ h3 (fun _ h => by cases h), key _ _ h4 (fun _ h => by cases h), key _ _ h5 (fun _ h => by cases h), key _ _ h6 (fun _ h => by cases h)⟩
theorem Bas.next {w : World} {S bb ob : Nat} {aY : Option Addr} {Y : List RI} {y : RD} {wb : World} (h : Bas w S bb ob aY Y y wb) (hw : w.heap.size ≤ bb) (hne : bb ≠ ob) (n : Int) : Bas w S bb ob aY Y y (wb.setCell ⟨bb, 0, none⟩ (.int .u64 n)) := by
  obtain ⟨⟨h1, h2⟩, ⟨m, h3⟩, h4, h5, h6⟩ := h
  have d (k : Nat) : (⟨bb, 0, none⟩ : Addr) ≠ ⟨ob, k, none⟩ := fun e => hne (by injection e)
  obtain ⟨a0, a1, a2, f0, f1, f2⟩ := h5
  refine ⟨⟨h1.set hw _, by simpa using h2⟩, ⟨n, cell_set_eq h3⟩, by rw [World.frozen?_setCell]; exact h4, ⟨?_, ?_, ?_, ?_, ?_, ?_⟩, h6.setu h3 _⟩
  · rw [cell_set_ne (d _)]; exact a0
  · rw [cell_set_ne (d _)]; exact a1
  · rw [cell_set_ne (d _)]; exact a2
  · rw [World.frozen?_setCell]; exact f0
  · rw [World.frozen?_setCell]; exact f1
  · rw [World.frozen?_setCell]; exact f2
/-- a number is stored into the second box -/
def put3 (w : World) (g : Nat) (y : RD) : World := ((w.setCell ⟨g, 0, none⟩ (.bool y.neg)).setCell ⟨g, 1, none⟩ (.slice y.a y.xs.length y.c)).setCell ⟨g, 2, none⟩ (.int .i64 y.e)
theorem RowI.most {ob : Nat} {y z : RD} {w : World} {a : Option Addr} {r : List RI} (h : RowI w a r) (hB : BoxD w ob y) (hY : ∀ p, a = some p → p.block ≠ ob) : RowI (put3 w ob z) a r := by
  obtain ⟨h0, h1, h2, _⟩ := hB
  have b0 := h.store h0 (fun _ h => by cases h) hY (.bool z.neg)
  have b1 := b0.store (set_at (v := .bool z.neg) (by decide) h1) (fun _ h => by cases h) hY (.slice z.a z.xs.length z.c)
  exact b1.store (set_at (v := .slice z.a z.xs.length z.c) (by decide) (set_at (v := .bool z.neg) (by decide) h2)) (fun _ h => by cases h) hY (.int .i64 z.e)
theorem Bas.most {w : World} {S bb ob : Nat} {aY : Option Addr} {Y : List RI} {y : RD} {wb : World} (h : Bas w S bb ob aY Y y wb) (hw : w.heap.size ≤ ob) (hne : bb ≠ ob) (hY : ∀ p, aY = some p → p.block ≠ ob) (z : RD) : Bas w S bb ob aY Y z (put3 wb ob z) := by
  obtain ⟨⟨h1, h2⟩, ⟨m, h3⟩, h4, h5, h6⟩ := h
  obtain ⟨hN, hU⟩ := BoxD.store h5 z rfl
  refine ⟨⟨hU.2.2.1 _ h1 hw, by rw [← h2]; exact hU.2.2.2.2⟩, ⟨m, by rw [← h3]; exact hU.2.2.2.1 ⟨bb, 0, none⟩ hne⟩, (hU.1 _).trans h4, hN, h6.most h5 hY⟩
theorem OwnE.most {ob : Nat} {y z : RD} {wb w : World} {v : Value} {zs : List RD} (h : OwnE wb w v zs) (hb : ob < wb.heap.size) (hB : BoxD w ob y) : OwnE (put3 wb ob z) (put3 w ob z) v zs := by
  obtain ⟨h0, h1, h2, _⟩ := hB
  have a := h.set hb h0 (fun _ h => by cases h) (.bool z.neg)
  have b := a.set (by simpa using hb) (set_at (v := .bool z.neg) (by decide) h1) (fun _ h => by cases h) (.slice z.a z.xs.length z.c)
  exact b.set (by simpa using hb) (set_at (v := .slice z.a z.xs.length z.c) (by decide) (set_at (v := .bool z.neg) (by decide) h2)) (fun _ h => by cases h) (.int .i64 z.e)
theorem RowNs.most {S ob : Nat} {y z : RD} {w : World} {a : Option Addr} {m : List (List RD)} (h : RowNs S w a m) (hb : ob < S) (hB : BoxD w ob y) : RowNs S (put3 w ob z) a m := by
  obtain ⟨h0, h1, h2, _⟩ := hB
  have a := h.set hb h0 (fun _ h => by cases h) (.bool z.neg)
  have b := a.set hb (set_at (v := .bool z.neg) (by decide) h1) (fun _ h => by cases h) (.slice z.a z.xs.length z.c)
  exact b.set hb (set_at (v := .slice z.a z.xs.length z.c) (by decide) (set_at (v := .bool z.neg) (by decide) h2)) (fun _ h => by cases h) (.int .i64 z.e)
/-- the first numbers are ends -/
def endsP (r : List RI) (l : List RD) : Prop := ∀ (j : Nat) (x : RI) (d : RD), r[j]? = some x → l[j]? = some d → endR x d
def endsQ (m : List (List RI)) (L : List (List RD)) : Prop := ∀ (i : Nat) (r : List RI) (l : List RD), m[i]? = some r → L[i]? = some l → endsR r l
theorem snoc_at {α : Type} {W : List α} {s y : α} {i : Nat} (h : (W ++ [s])[i]? = some y) : W[i]? = some y ∨ i = W.length ∧ y = s := by
  by_cases hi : i < W.length
  · rw [List.getElem?_append_left hi] at h; exact .inl h
  · rw [List.getElem?_append_right (by omega)] at h
    have hie : i = W.length := by
      have := (List.getElem?_eq_some_iff.1 h).1
      simp at this; omega
    subst hie
    simp at h
    exact .inr ⟨rfl, h.symm⟩
theorem endsP.snoc {r : List RI} {l : List RD} (h : endsP r l) {x : RI} {d : RD} (hx : r[l.length]? = some x) (hd : endR x d) : endsP r (l ++ [d]) := by
  intro j y q hj hq
  rcases snoc_at hq with hq | ⟨rfl, rfl⟩
  · exact h j y q hj hq
  · rw [hx] at hj; cases hj; exact hd
theorem endsQ.snoc {m : List (List RI)} {L : List (List RD)} (h : endsQ m L) {r : List RI} {l : List RD} (hr : m[L.length]? = some r) (hl : endsP r l) (hn : l.length = r.length) : endsQ m (L ++ [l]) := by
  intro j y q hj hq
  rcases snoc_at hq with hq | ⟨rfl, rfl⟩
  · exact h j y q hj hq
  · rw [hr] at hj; cases hj; exact ⟨hn, hl⟩
theorem ends_vl {w : World} {r : List RI} {l : List RD} (h : endsR r l) (hr : ∀ x ∈ r, x.rd w ∧ x.vl = true) : ∀ d ∈ l, d.vl = true := fun d hd => by
  obtain ⟨j, hj⟩ := List.getElem?_of_mem hd
  have hlt := (List.getElem?_eq_some_iff.1 hj).1
  have hx : r[j]? = some (r[j]'(by rw [← h.1]; exact hlt)) := List.getElem?_eq_getElem _
  have hm := List.mem_of_getElem? hx
  exact ((h.2 j _ d hx hj).ok (hr _ hm).1 (hr _ hm).2).2
/-- all numbers are bounded -/
def bndD (z : List RD) (M : Int) : Prop := 0 ≤ M ∧ ∀ y ∈ z, (y.iv.natAbs : Int) ≤ M
theorem bndD.same {z : List RD} {M : Int} {d : RD} (h : bndD z M) (hd : ¬ M < (d.iv.natAbs : Int)) : bndD (z ++ [d]) M := ⟨h.1, fun y hy => by
  rcases List.mem_append.1 hy with h1 | h1
  · exact h.2 y h1
  · simp only [List.mem_singleton] at h1; subst h1; omega⟩
theorem bndD.more {z : List RD} {M : Int} {d : RD} (h : bndD z M) (hd : M < (d.iv.natAbs : Int)) : bndD (z ++ [d]) (d.iv.natAbs : Int) := ⟨by omega, fun y hy => by
  rcases List.mem_append.1 hy with h1 | h1
  · have := h.2 y h1; omega
  · simp only [List.mem_singleton] at h1; subst h1; exact Int.le_refl _⟩
theorem cmp_over {M v : Int} : (0 < cmpZ v M) ↔ M < v := by
  unfold cmpZ
  by_cases h1 : v < M
  · rw [if_pos h1]; omega
  · rw [if_neg h1]
    by_cases h2 : v = M
    · rw [if_pos h2]; omega
    · rw [if_neg h2]; omega
theorem applyC_cases (m : List (List RI)) (x : List RI) (p : Int) : ((applyC m x p).2 ≠ 0 ∧ (applyC m x p).1 = []) ∨
    (applyC m x p = (rowF m.length fun i => dotF p.toNat (atP m i) (rowG x) (colsM m - 1), 0) ∧ vlM m = true ∧ (∀ y ∈ x, y.vl = true) ∧ preB p = true ∧ colsM m = x.length) := by
  unfold applyC
  by_cases h1 : vlM m = false
  · rw [if_pos h1]; exact .inl ⟨by decide, rfl⟩
  · rw [if_neg h1]
    by_cases h2 : (x.any fun y => !y.vl) = true
    · rw [if_pos h2]; exact .inl ⟨by decide, rfl⟩
    · rw [if_neg h2]
      by_cases h3 : preB p = false
      · rw [if_pos h3]; exact .inl ⟨by decide, rfl⟩
      · rw [if_neg h3]
        by_cases h4 : colsM m ≠ x.length
        · rw [if_pos h4]; exact .inl ⟨by decide, rfl⟩
        · rw [if_neg h4]
          exact .inr ⟨rfl, Bool.not_eq_false _ ▸ h1, any_vl (Bool.eq_false_iff.2 h2), Bool.not_eq_false _ ▸ h3, Classical.byContradiction h4⟩
theorem rows_vl {w : World} {m : List (List RI)} {R : List (List RD)} {n : Nat} (hv : vlM m = true) (rm : ∀ r ∈ m, ∀ u ∈ r, u.rd w) (hM : R.length = m.length) (eM : endsQ m R) (hc : colsM m = n) : ∀ l ∈ R, l.length = n ∧ ∀ y ∈ l, y.vl = true := fun l hl => by
  obtain ⟨i, hi⟩ := List.getElem?_of_mem hl
  have hil := (List.getElem?_eq_some_iff.1 hi).1
  obtain ⟨r, hr⟩ : ∃ r, m[i]? = some r := ⟨_, List.getElem?_eq_getElem (by omega)⟩
  have e1 := eM i r l hr hi
  have hrow := vlM_row hv hr
  exact ⟨by rw [e1.1, hrow.1, hc], ends_vl e1 (fun u hu => ⟨rm r (List.mem_of_getElem? hr) u hu, hrow.2 u hu⟩)⟩
theorem RowM.rds {w : World} {a : Option Addr} {m : List (List RI)} (h : RowM w a m) : ∀ r ∈ m, ∀ u ∈ r, u.rd w := fun r hr u hu => by
  obtain ⟨i, hi⟩ := List.getElem?_of_mem hr
  obtain ⟨_, _, _, _, _, _, hrow, _⟩ := h i r hi
  exact hrow.rdI hu
/-- all exact sums are in the intervals -/
theorem all_inside {w w' : World} {m : List (List RI)} {x Y : List RI} {M : List (List RD)} {z W : List RD} {p : Int} (hv : vlM m = true) (hp : preB p = true) (hc : colsM m = x.length) (rm : ∀ r ∈ m, ∀ u ∈ r, u.rd w) (rx : ∀ u ∈ x, u.rd w' ∧ u.vl = true)
    (hY : plR Y = rowF m.length fun i => dotF p.toNat (atP m i) (rowG x) (colsM m - 1)) (hM : M.length = m.length) (eM : endsQ m M) (ez : endsR x z) (hW : W.length = M.length) (hd : ∀ (i : Nat) (r : List RD) (y : RD), M[i]? = some r → W[i]? = some y → dotS r z r.length y.iv) :
    allDI hasDI W Y = true := by
  have hYl : Y.length = m.length := by
    have := congrArg List.length hY
    simpa [plR, rowF] using this
  refine allDI_true.2 ⟨by omega, fun i v I hi hI => ?_⟩
  have hil : i < m.length := by have := (List.getElem?_eq_some_iff.1 hi).1; omega
  obtain ⟨r, hr⟩ : ∃ r, m[i]? = some r := ⟨_, List.getElem?_eq_getElem hil⟩
  obtain ⟨l, hl⟩ : ∃ l, M[i]? = some l := ⟨_, List.getElem?_eq_getElem (by omega)⟩
  have hrow := vlM_row hv hr
  have hcc := (vlM_iff.1 hv).2.1
  have e1 := eM i r l hr hl
  have hI2 : I.pl = dotF p.toNat (rowG r) (rowG x) (colsM m - 1) := by
    have h1 : (plR Y)[i]? = some I.pl := by simp [plR, hI]
    rw [hY] at h1
    unfold rowF at h1
    rw [List.getElem?_map, List.getElem?_range hil] at h1
    have h2 : rowG r = atP m i := by rw [← rowG_at, List.getD_eq_getElem?_getD, hr]; rfl
    rw [h2]
    simpa using h1.symm
  have hp2 := preB_iff.1 hp
  have hn : colsM m - 1 + 1 = r.length := by omega
  have h3 := dot_inside (p := p.toNat) (n := colsM m - 1) (r := r) (x := x) (l := l) (z := z) (v := v.iv) (by omega) (by omega) hn (by omega) (fun u hu => ⟨rm r (List.mem_of_getElem? hr) u hu, hrow.2 u hu⟩) rx e1 ez (by rw [hn, ← e1.1]; exact hd i l v hl hi)
  unfold hasDI
  rw [hI2]
  exact hasX_of h3
/-- none of them is greater than the bound -/
theorem none_over {m : List (List RI)} {x : List RI} {M : List (List RD)} {z W : List RD} {p : Int} {t : Dy} {y bd nn : RD} (hn : nrmO m p = some t) (hc : ∀ r ∈ m, r.length = x.length) (hM : M.length = m.length) (eM : endsQ m M) (ez : endsR x z) (hW : W.length = M.length)
    (hd : ∀ (i : Nat) (r : List RD) (y : RD), M[i]? = some r → W[i]? = some y → dotS r z r.length y.iv) (hb : bndD z y.iv) (et : nn.dy = t) {w w' : World} (on : nn.ok w) (oy : y.ok w') (e2 : (chk (prodD nn.dy y.dy)).2 = 0) (d2 : bd.dy = (chk (prodD nn.dy y.dy)).1) :
    W.any (overB bd) = false := by
  have hB : bd.iv * 2 ^ 16384 = t.iv * y.iv := by
    have h1 := prodD_iv (rdok_dy on) (rdok_dy oy) e2
    rw [chk0 e2] at d2
    show bd.dy.iv * _ = _
    rw [d2, h1, et]; rfl
  rw [List.any_eq_false]
  intro v hv
  obtain ⟨i, hi⟩ := List.getElem?_of_mem hv
  have hil := (List.getElem?_eq_some_iff.1 hi).1
  obtain ⟨r, hr⟩ : ∃ r, m[i]? = some r := ⟨_, List.getElem?_eq_getElem (by omega)⟩
  obtain ⟨l, hl⟩ : ∃ l, M[i]? = some l := ⟨_, List.getElem?_eq_getElem (by omega)⟩
  have e1 := eM i r l hr hl
  have hrl := hc r (List.mem_of_getElem? hr)
  have h3 := norm_bound hn (List.mem_of_getElem? hr) e1 (by rw [ez.1, e1.1, hrl]) hb.2 hb.1 (by rw [← e1.1]; exact hd i l v hl hi) hB
  unfold overB
  rw [decide_eq_true_eq]
  omega
end Go.Proofs.YtdidocdpjiiedaaGreatDoor
end
