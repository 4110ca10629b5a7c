/-
  The call's own slices of rows of intervals: rows that are appended; rows that grow in place.
-/
import Derived.Test.YtbhmhfnfceakoaaGreatDoorMIvMl
import Derived.Test.YtbhmhfnfceakoaaGreatDoorMIdxN
import Derived.OneCell
import Derived.Deep.DeepFit
import Derived.Laws.EntriesVeiled
import Derived.Test.YtbhmhfnfceakoaaGreatDoorMRoAdd
namespace Go.Proofs.YtbhmhfnfceakoaaGreatDoor
open Go.RowKit
def Off (v : Value) (a : Option Addr) (w : World) : Prop := ∀ p, a = some p → v.ownBlock ≠ some p.block ∧ p.block < w.heap.size
theorem Off.kp {v : Value} {a : Option Addr} {w w' : World} (h : Off v a w) (k : w.heap.size ≤ w'.heap.size) : Off v a w' := fun p hp => ⟨(h p hp).1, Nat.lt_of_lt_of_le (h p hp).2 k⟩
theorem RowI.rdI {w : World} {a : Option Addr} {zs : List RI} (h : RowI w a zs) {x : RI} (hx : x ∈ zs) : x.rd w := by
  obtain ⟨i, hi⟩ := List.getElem?_of_mem hx
  obtain ⟨_, _, _, hr, _⟩ := h i x hi
  exact hr
theorem RowI.far {w w' : World} {v : Value} {a : Option Addr} {r : List RI} (h : RowI w a r) (hg : w.grownBy w' v.ownBlock) (hn : AllC NoU w v) (ho : Off v a w) : RowI w' a r := by
  intro i x hi
  obtain ⟨b, o, e, hr, h0, h1, h2, h3, h4, h5, h6⟩ := h i x hi
  obtain ⟨hne, _⟩ := ho _ e
  have hne' : ∀ j, some (⟨b, j, none⟩ : Addr).block ≠ v.ownBlock := fun j e => hne e.symm
  exact ⟨b, o, e, hr.far hg hn, hg.cell h0 (hne' _), hg.cell h1 (hne' _), hg.cell h2 (hne' _), hg.cell h3 (hne' _), hg.cell h4 (hne' _), hg.cell h5 (hne' _), hg.cell h6 (hne' _)⟩
theorem Off.far {w w' : World} {v u : Value} {a : Option Addr} (h : Off v a w) (hs : w.heap.size ≤ w'.heap.size) (hu : v.ownBlock = u.ownBlock ∨ u.ownBlock = some w.heap.size) : Off u a w' := by
  intro p hp
  obtain ⟨h1, h2⟩ := h p hp
  refine ⟨?_, by omega⟩
  rcases hu with hu | hu
  · rw [← hu]; exact h1
  rw [hu]; intro e; injection e with e; omega
theorem RowI.store {w : World} {a : Option Addr} {r : List RI} (h : RowI w a r) {g i : Nat} {u : Value} (hc : w.cell? ⟨g, i, none⟩ = some u) (hu : NoU u) (ha : ∀ p, a = some p → p.block ≠ g) (v : Value) : RowI (w.setCell ⟨g, i, none⟩ v) a r := by
  intro j x hj
  obtain ⟨b, o, e, hr, h0, h1, h2, h3, h4, h5, h6⟩ := h j x hj
  have hb := ha _ e
  have d (k : Nat) : (⟨g, i, none⟩ : Addr) ≠ ⟨b, k, none⟩ := fun e => hb (by injection e with e1; exact e1.symm)
  have hd (y : RD) (hy : y.rd w) : y.rd (w.setCell ⟨g, i, none⟩ v) := ⟨hy.1.other hc hu, hy.2⟩
  refine ⟨b, o, e, ⟨hd _ hr.1, hd _ hr.2⟩, ?_, ?_, ?_, ?_, ?_, ?_, ?_⟩ <;> (rw [cell_set_ne (d _)]; assumption)
theorem OwnN.store {wb w : World} {v : Value} {zs : List RI} (h : OwnN wb w v zs) {g i : Nat} {u : Value} (hg : wb.heap.size ≤ g) (hc : w.cell? ⟨g, i, none⟩ = some u) (hu : NoU u) (hv : v.ownBlock ≠ some g) (y : Value) : OwnN wb (w.setCell ⟨g, i, none⟩ y) v zs := by
  obtain ⟨h1, h2, h3, h4⟩ := h
  refine ⟨h1.set hg y, ownsRow_setCell_other h2 hv y, fun b hb j z hz => ?_, fun x hx => ?_⟩
  · rw [cell_set_ne (fun e => by injection e with e1; subst e1; exact hv hb)] at hz
    exact h3 b hb j z hz
  have hd (q : RD) (hq : q.rd w) : q.rd (w.setCell ⟨g, i, none⟩ y) := ⟨hq.1.other hc hu, hq.2⟩
  exact ⟨hd _ (h4 x hx).1, hd _ (h4 x hx).2⟩
theorem wpList_append_ivg {w : World} {ops : Array Oper} {rest : List Oper} {o : Oper} {a : Act} {Q : Exit → Act → World → Prop} (hgd : o.guard = none) (s x : Operand)
    (ho : o.op = .call { callee := .builtin .append, args := #[s, x], argTypes := #[24, 24] })
    (wb : World) (v : Value) (zs : List RI) (hs : a.eval s = v) (hown : OwnN wb w v zs)
    (g c : Nat) (hx : a.eval x = .slice (some ⟨g, 0, none⟩) 1 c) (y : RI) (hy : y.rd w)
    (hcell : w.cell? ⟨g, 0, none⟩ = some (.bool y.lo.neg) ∧ w.cell? ⟨g, 1, none⟩ = some (.slice y.lo.a y.lo.xs.length y.lo.c) ∧ w.cell? ⟨g, 2, none⟩ = some (.int .i64 y.lo.e) ∧ w.cell? ⟨g, 3, none⟩ = some (.bool y.hi.neg) ∧ w.cell? ⟨g, 4, none⟩ = some (.slice y.hi.a y.hi.xs.length y.hi.c) ∧ w.cell? ⟨g, 5, none⟩ = some (.int .i64 y.hi.e) ∧ w.cell? ⟨g, 6, none⟩ = some (.bool y.all)) (hlen : zs.length + 1 ≤ 9000000)
    (h : ∀ a' c' w', OwnN wb w' (.slice a' (zs.length + 1) c') (zs ++ [y]) → w.grownBy w' v.ownBlock → (v.ownBlock = (Value.slice a' (zs.length + 1) c').ownBlock ∨ (Value.slice a' (zs.length + 1) c').ownBlock = some w.heap.size) → wpList Tryz.prog ops Q rest (a.put o.dst (.slice a' (zs.length + 1) c')) w') :
    wpList Tryz.prog ops Q (o :: rest) a w := by
  obtain ⟨i0, hi, hz0, hz1, hz2⟩ := info_parts infoIvl
  obtain ⟨hk, hown1, hall, hrows⟩ := hown
  refine wpList_append_all w NoU hgd s x 24 ho wb.heap.size 44 i0 (.agg #[.bool false, .slice none 0 0, .int .i64 0, .bool false, .slice none 0 0, .int .i64 0, .bool false]) 7 88 Tryz.underlying24 hi hz0 hz1 hz2 rfl (by decide) v zs.length (zs.flatMap RI.cells) hs hown1
    ⟨g, 0, none⟩ 1 c y.cells hx rfl ?_ ?_ (by decide) (by unfold maxLen; omega) (by omega) hk.size hall noU_cells ?_ ?_
  · intro j u hj
    obtain ⟨h0, h1, h2, h3, h4, h5, h6⟩ := hcell
    match j, hj with
    | 0, hj => cases hj; simpa [Addr.add] using h0
    | 1, hj => cases hj; simpa [Addr.add] using h1
    | 2, hj => cases hj; simpa [Addr.add] using h2
    | 3, hj => cases hj; simpa [Addr.add] using h3
    | 4, hj => cases hj; simpa [Addr.add] using h4
    | 5, hj => cases hj; simpa [Addr.add] using h5
    | 6, hj => cases hj; simpa [Addr.add] using h6
    | j + 7, hj => simp [RI.cells] at hj
  · intro u hu
    simp only [RI.cells, List.mem_cons, List.not_mem_nil, or_false] at hu
    rcases hu with rfl | rfl | rfl | rfl | rfl | rfl | rfl <;> rfl
  · intro u hu y e
    simp [Value.cells] at hu
    rcases hu with rfl | rfl | rfl | rfl | rfl | rfl | rfl <;> cases e
  intro g' cap w' h1 h2 h3 h6
  have hb : Below wb.heap.size w w' := (Below.refl wb.heap.size w).grown h2 hk.size (fun k hk => (hown1.lt k hk).1)
  refine h _ _ w' ⟨Below.trans hk hb, ?_, h6, fun q hq => ?_⟩ h2 ?_
  · rw [List.flatMap_append, List.length_append]
    simpa using h1
  · rcases List.mem_append.1 hq with hq | hq
    · exact (hrows q hq).far h2 hall
    simp only [List.mem_singleton] at hq
    subst hq
    exact hy.far h2 hall
  rcases h3 with h3 | h3
  · exact .inl h3
  subst h3; exact .inr rfl
theorem OwnN.new {wb w : World} {v : Value} {zs : List RI} (h : OwnN wb w v zs) : ∀ g, v.ownBlock = some g → g < w.heap.size := fun g hg => (h.2.1.lt g hg).2

def OutM (wb w : World) (g n : Nat) (R : List (List RI)) (v : Value) (cur : List RI) : Prop :=
  (wb.heap.size ≤ g ∧ g < w.heap.size ∧ R.length < n ∧ v.ownBlock ≠ some g) ∧ OwnN wb w v cur ∧ w.cell? ⟨g, R.length, none⟩ = some v ∧
  (∀ i, i < n → w.frozen? ⟨g, i, none⟩ = false) ∧ (∀ i, R.length < i → i < n → w.cell? ⟨g, i, none⟩ = some (.slice none 0 0)) ∧
  ∀ i r, R[i]? = some r → r.length ≤ 1100000 ∧ ∃ ra rc, w.cell? ⟨g, i, none⟩ = some (.slice ra r.length rc) ∧ RowI w ra r ∧ Off v ra w ∧ ∀ p, ra = some p → p.block ≠ g
def OutH (wb w : World) (g n : Nat) (R : List (List RI)) : Prop :=
  (wb.heap.size ≤ g ∧ g < w.heap.size ∧ R.length ≤ n) ∧ Kp wb w ∧
  (∀ i, i < n → w.frozen? ⟨g, i, none⟩ = false) ∧ (∀ i, R.length ≤ i → i < n → w.cell? ⟨g, i, none⟩ = some (.slice none 0 0)) ∧
  ∀ i r, R[i]? = some r → r.length ≤ 1100000 ∧ ∃ ra rc, w.cell? ⟨g, i, none⟩ = some (.slice ra r.length rc) ∧ RowI w ra r ∧ ∀ p, ra = some p → p.block ≠ g ∧ p.block < w.heap.size
theorem OutH.open {wb w : World} {g n : Nat} {R : List (List RI)} (h : OutH wb w g n R) (hn : R.length < n) : OutM wb w g n R (.slice none 0 0) [] := by
  obtain ⟨⟨h1, h2, h3⟩, hk, hf, hz, hr⟩ := h
  refine ⟨⟨h1, h2, hn, by simp [Value.ownBlock]⟩, .nil hk, hz _ (Nat.le_refl _) hn, hf, fun i h h' => hz i (by omega) h', fun i r hi => ?_⟩
  obtain ⟨q1, ra, rc, q2, q3, q4⟩ := hr i r hi
  exact ⟨q1, ra, rc, q2, q3, fun p hp => ⟨by simp [Value.ownBlock], (q4 p hp).2⟩, fun p hp => (q4 p hp).1⟩
theorem OutM.close {wb w : World} {g n : Nat} {R : List (List RI)} {v : Value} {cur : List RI} (h : OutM wb w g n R v cur) (hc : cur.length ≤ 1100000) : OutH wb w g n (R ++ [cur]) := by
  obtain ⟨⟨h1, h2, h3, h4⟩, ho, hv, hf, hz, hr⟩ := h
  refine ⟨⟨h1, h2, by simp; omega⟩, ho.1, hf, fun i h h' => hz i (by simp at h; omega) h', fun i r hi => ?_⟩
  by_cases hi2 : i < R.length
  · rw [List.getElem?_append_left hi2] at hi
    obtain ⟨q1, ra, rc, q2, q3, q4, q5⟩ := hr i r hi
    exact ⟨q1, ra, rc, q2, q3, fun p hp => ⟨q5 p hp, (q4 p hp).2⟩⟩
  rw [List.getElem?_append_right (by omega)] at hi
  have hi3 : i = R.length := by
    have := (List.getElem?_eq_some_iff.1 hi).1
    simp at this; omega
  subst hi3
  simp at hi
  subst hi
  obtain ⟨a, c, e, _, _, hrow⟩ := ho.value
  subst e
  refine ⟨hc, a, c, hv, hrow, fun p hp => ?_⟩
  subst hp
  have hown := ho.new
  obtain ⟨_, ⟨_, hq⟩, _⟩ := ho
  rcases hq with ⟨e, _⟩ | ⟨b, cap, cu, e, _⟩
  · cases e
  cases e
  refine ⟨fun e => h4 (by rw [← e]; rfl), hown _ rfl⟩
theorem OutH.kp {wb w w' : World} {g n : Nat} {R : List (List RI)} (h : OutH wb w g n R) (k : Kp w w') : OutH wb w' g n R := by
  obtain ⟨⟨h1, h2, h3⟩, hk, hf, hz, hr⟩ := h
  have hs := k.size
  refine ⟨⟨h1, by omega, h3⟩, hk.trans k, fun i hi => ?_, fun i h h' => k.cell (hz i h h'), fun i r hi => ?_⟩
  · rw [k.below.frozen h2]; exact hf i hi
  obtain ⟨q1, ra, rc, q2, q3, q4⟩ := hr i r hi
  exact ⟨q1, ra, rc, k.cell q2, q3.kp k, fun p hp => ⟨(q4 p hp).1, by have := (q4 p hp).2; omega⟩⟩
theorem OutM.kp {wb w w' : World} {g n : Nat} {R : List (List RI)} {v : Value} {cur : List RI} (h : OutM wb w g n R v cur) (k : Kp w w') : OutM wb w' g n R v cur := by
  obtain ⟨⟨h1, h2, h3, h4⟩, ho, hv, hf, hz, hr⟩ := h
  have hs := k.size
  refine ⟨⟨h1, by omega, h3, h4⟩, ho.kp k, k.cell hv, fun i hi => ?_, fun i h h' => k.cell (hz i h h'), fun i r hi => ?_⟩
  · rw [k.below.frozen h2]; exact hf i hi
  obtain ⟨q1, ra, rc, q2, q3, q4, q5⟩ := hr i r hi
  exact ⟨q1, ra, rc, k.cell q2, q3.kp k, q4.kp hs, q5⟩
theorem OutM.step {wb w w' : World} {g n : Nat} {R : List (List RI)} {v v' : Value} {cur : List RI} {x : RI} (h : OutM wb w g n R v cur)
    (ho : OwnN wb w' v' (cur ++ [x])) (hg : w.grownBy w' v.ownBlock) (hv : v.ownBlock = v'.ownBlock ∨ v'.ownBlock = some w.heap.size) (hn : NoU v) :
    OutM wb (w'.setCell ⟨g, R.length, none⟩ v') g n R v' (cur ++ [x]) := by
  obtain ⟨⟨h1, h2, h3, h4⟩, ho0, hv0, hf, hz, hr⟩ := h
  have hs : w.heap.size ≤ w'.heap.size := hg.size
  have hgn : v'.ownBlock ≠ some g := by
    rcases hv with hv | hv
    · rw [← hv]; exact h4
    · rw [hv]; intro e; injection e with e; omega
  have keep (i : Nat) (u : Value) (hc : w.cell? ⟨g, i, none⟩ = some u) : w'.cell? ⟨g, i, none⟩ = some u := hg.cell hc (fun e => h4 e.symm)
  have hv1 := keep _ _ hv0
  refine ⟨⟨h1, by simpa using (by omega : g < w'.heap.size), h3, hgn⟩, ho.store h1 hv1 hn hgn v', cell_set_eq hv1, fun i hi => ?_, fun i h h' => ?_, fun i r hi => ?_⟩
  · have hfi : w'.frozen? ⟨g, i, none⟩ = false := by
      have := hg.block g h2 (fun e => h4 e.symm)
      have hh := hf i hi
      unfold World.frozen? at hh ⊢
      rw [this]; exact hh
    simpa using hfi
  · rw [cell_set_ne (fun e => by injection e with _ e2; omega)]
    exact keep _ _ (hz i h h')
  obtain ⟨q1, ra, rc, q2, q3, q4, q5⟩ := hr i r hi
  have hir := (List.getElem?_eq_some_iff.1 hi).1
  refine ⟨q1, ra, rc, ?_, (q3.far hg ho0.2.2.1 q4).store hv1 hn q5 v', (q4.far hs hv).kp (by simp), q5⟩
  rw [cell_set_ne (fun e => by injection e with _ e2; omega)]
  exact keep _ _ q2
theorem OutH.rowM {wb w : World} {g n : Nat} {R : List (List RI)} (h : OutH wb w g n R) : RowM w (some ⟨g, 0, none⟩) R := by
  obtain ⟨_, _, _, _, hr⟩ := h
  intro i r hi
  obtain ⟨q1, ra, rc, q2, q3, _⟩ := hr i r hi
  exact ⟨g, 0, ra, rc, rfl, by rw [Nat.zero_add]; exact q2, q3, q1⟩
theorem infoSlI : (Tryz.prog.info? 24).map (fun i => (i.zero, i.size, i.bytes)) = some (some (.slice none 0 0), 1, 24) := by kernel_rfl
def OwnM (wb w : World) (v : Value) (us : List Value) (R : List (List RI)) : Prop :=
  Kp wb w ∧ w.ownsRow wb.heap.size 24 1 v us.length us ∧ AllC NoU w v ∧ us.length = R.length ∧
  ∀ (i : Nat) (r : List RI), R[i]? = some r → r.length ≤ 1100000 ∧ ∃ ra rc, us[i]? = some (Value.slice ra r.length rc) ∧ RowI w ra r ∧ Off v ra w
theorem OwnM.nil {wb w : World} (k : Kp wb w) : OwnM wb w (.slice none 0 0) [] [] := ⟨k, World.ownsRow_nil _ _ _ _, AllC.nil _ _, rfl, fun i r h => by simp at h⟩
theorem OwnM.kp {wb w w' : World} {v : Value} {us : List Value} {R : List (List RI)} (h : OwnM wb w v us R) (k : Kp w w') : OwnM wb w' v us R := by
  obtain ⟨h1, h2, h3, h4, h5⟩ := h
  refine ⟨h1.trans k, Kp.owns h2 k, h3.kp h2 k, h4, fun i r hi => ?_⟩
  obtain ⟨q1, ra, rc, q2, q3, q4⟩ := h5 i r hi
  exact ⟨q1, ra, rc, q2, q3.kp k, q4.kp k.size⟩
theorem OwnM.value {wb w : World} {v : Value} {us : List Value} {R : List (List RI)} (h : OwnM wb w v us R) : ∃ a c, v = .slice a R.length c ∧ R.length ≤ c ∧ c ≤ maxLen ∧ RowM w a R := by
  obtain ⟨h1, ⟨h2, h3⟩, h6, h4, h5⟩ := h
  rcases h3 with ⟨rfl, h3⟩ | ⟨g, cap, cur, rfl, hb, hg, hn, hc, hs, ht⟩
  · have h0 : R = [] := List.length_eq_zero_iff.1 (by omega)
    subst h0
    exact ⟨none, 0, rfl, Nat.le_refl _, by decide, fun i x hi => by simp at hi⟩
  rw [h4]
  refine ⟨_, _, rfl, by omega, hc, fun i r hi => ?_⟩
  obtain ⟨q1, ra, rc, q2, q3, q4⟩ := h5 i r hi
  have hil : i < us.length := (List.getElem?_eq_some_iff.1 q2).1
  refine ⟨g, 0, ra, rc, rfl, ?_, q3, q1⟩
  rw [Nat.zero_add, cell_of_row w g _ cur _ _ hg]
  have h7 : (cur.toList.take (us.length * 1))[i]? = some (.slice ra r.length rc) := by rw [ht]; exact q2
  rw [List.getElem?_take, if_pos (by omega)] at h7
  simpa using h7
theorem wpList_append_rowi {w : World} {ops : Array Oper} {rest : List Oper} {o : Oper} {a : Act} {Q : Exit → Act → World → Prop} (hgd : o.guard = none) (s x : Operand)
    (ho : o.op = .call { callee := .builtin .append, args := #[s, x], argTypes := #[27, 27] })
    (wb : World) (v : Value) (us : List Value) (R : List (List RI)) (hs : a.eval s = v) (hown : OwnM wb w v us R)
    (g c : Nat) (hx : a.eval x = .slice (some ⟨g, 0, none⟩) 1 c) (ra : Option Addr) (rc : Nat) (r : List RI) (hr : RowI w ra r) (hoff : Off v ra w) (hrl : r.length ≤ 1100000)
    (hcell : w.cell? ⟨g, 0, none⟩ = some (.slice ra r.length rc)) (hlen : R.length + 1 ≤ 9000000)
    (h : ∀ v' us' w', OwnM wb w' v' us' (R ++ [r]) → wpList Tryz.prog ops Q rest (a.put o.dst v') w') :
    wpList Tryz.prog ops Q (o :: rest) a w := by
  obtain ⟨i0, hi, hz0, hz1, hz2⟩ := info_parts infoSlI
  obtain ⟨hk, hown1, hall, hle, hrows⟩ := hown
  refine wpList_append_all w NoU hgd s x 27 ho wb.heap.size 24 i0 (.slice none 0 0) 1 24 Tryz.underlying27 hi hz0 hz1 hz2 rfl (by decide) v us.length us hs hown1
    ⟨g, 0, none⟩ 1 c [.slice ra r.length rc] hx rfl ?_ ?_ (by decide) (by unfold maxLen; omega) (by omega) hk.size hall ?_ ?_ ?_
  · intro j u hj
    match j, hj with
    | 0, hj => cases hj; simpa [Addr.add] using hcell
    | j + 1, hj => simp at hj
  · intro u hu
    simp only [List.mem_cons, List.not_mem_nil, or_false] at hu
    subst hu; rfl
  · intro u hu y e
    simp only [List.mem_cons, List.not_mem_nil, or_false] at hu
    subst hu; cases e
  · intro u hu y e
    simp [Value.cells] at hu
    subst hu; cases e
  intro g' cap w' h1 h2 h3 h6
  have hb : Below wb.heap.size w w' := (Below.refl wb.heap.size w).grown h2 hk.size (fun k hk => (hown1.lt k hk).1)
  have hv : v.ownBlock = (Value.slice (some ⟨g', 0, none⟩) (us.length + 1) cap).ownBlock ∨ (Value.slice (some ⟨g', 0, none⟩) (us.length + 1) cap).ownBlock = some w.heap.size := by
    rcases h3 with h3 | h3
    · exact .inl h3
    · subst h3; exact .inr rfl
  refine h _ (us ++ [.slice ra r.length rc]) w' ⟨Below.trans hk hb, ?_, h6, by simp [hle], fun i q hq => ?_⟩
  · rw [List.length_append]; simpa using h1
  by_cases hi2 : i < R.length
  · rw [List.getElem?_append_left hi2] at hq
    obtain ⟨q1, pa, pc, q2, q3, q4⟩ := hrows i q hq
    refine ⟨q1, pa, pc, ?_, q3.far h2 hall q4, q4.far h2.size hv⟩
    rw [List.getElem?_append_left (by omega)]; exact q2
  rw [List.getElem?_append_right (by omega)] at hq
  have hi3 : i = R.length := by
    have := (List.getElem?_eq_some_iff.1 hq).1
    simp at this; omega
  subst hi3
  simp at hq
  subst hq
  refine ⟨hrl, ra, rc, ?_, hr.far h2 hall hoff, hoff.far h2.size hv⟩
  rw [List.getElem?_append_right (by omega), hle]; simp
theorem OwnM.new {wb w : World} {v : Value} {us : List Value} {R : List (List RI)} (h : OwnM wb w v us R) : ∀ g, v.ownBlock = some g → g < w.heap.size := fun g hg => (h.2.1.lt g hg).2
theorem mprecise_any (p : Int) (w : World) :
    Calls Tryz.prog 146 #[.int .i64 p] w fun e w' => e = .returned (.bool (preB p)) ∧ w = w' := by
  by_cases h1 : 8 ≤ p
  rotate_left
  · have H := Lib.hid (show preB p = false from decide_eq_false (by omega))
    go_enter Tryz.func146, Tryz.ntmps146
    go_wp2_with fail
    go_ret
    exact ⟨ret_bool (by first | exact H.out.symm | (rw [H.out]; simp; omega)), rfl⟩
  by_cases h2 : p ≤ 512
  · have H := Lib.hid (show preB p = true from decide_eq_true ⟨h1, h2⟩)
    go_enter Tryz.func146, Tryz.ntmps146
    go_wp2_with fail
    go_ret
    exact ⟨ret_bool (by first | exact H.out.symm | (rw [H.out]; simp; omega)), rfl⟩
  have H := Lib.hid (show preB p = false from decide_eq_false (by omega))
  go_enter Tryz.func146, Tryz.ntmps146
  go_wp2_with fail
  go_ret
  exact ⟨ret_bool (by first | exact H.out.symm | (rw [H.out]; simp; omega)), rfl⟩
theorem enters_IValid : Enters Tryz.prog 20 := fun _ _ => by kernel_rfl
theorem storeF (a : Addr) (f : Fn) (ts cap : Array Value) (m : Mode) (w : World) : (store a (.func f ts cap) m).run Tryz.prog w = Go.stored Tryz.prog w a (.func f ts cap) m := run_store _ w a _ m rfl
set_option maxHeartbeats 2000000 in
theorem rect11_any (x : RI) (b : Nat) (w : World) (hx : x.rd w) (hf : w.cell? ⟨b, 0, none⟩ = some (.func (.func 20) #[] #[])) :
    Calls Tryz.prog 137 #[.agg #[.bool x.lo.neg, .slice x.lo.a x.lo.xs.length x.lo.c, .int .i64 x.lo.e, .bool x.hi.neg, .slice x.hi.a x.hi.xs.length x.hi.c, .int .i64 x.hi.e, .bool x.all], .pointer (some ⟨b, 0, none⟩)] w fun e w' => e = .returned (.bool (!x.vl)) ∧ Kp w w' := by
  have hgo : ∀ args w, (callFunc 20 args).run Tryz.prog w = .ok (.enter 20 args) w := enters_IValid
  have k1 := (Kp.refl w).alloc (.cells #[.bool x.lo.neg, .slice x.lo.a x.lo.xs.length x.lo.c, .int .i64 x.lo.e, .bool x.hi.neg, .slice x.hi.a x.hi.xs.length x.hi.c, .int .i64 x.hi.e, .bool x.all] 44)
  have hf1 := k1.cell hf
  have hlt := World.block_lt_of_cell? w _ hf
  clear hf
  go_enter Tryz.func137, Tryz.ntmps137
  go_wp2_with fail
  go_fit (IValid_raw x _ (hx.kp k1))
  rintro e w1 ⟨rfl, k2⟩
  cases hv : x.vl with
  | false =>
    go_wp2_with fail
    go_ret
    exact ⟨ret_bool (by rw [hv]; rfl), k1.trans k2⟩
  | true =>
  go_wp2_with fail
  go_ret
  exact ⟨ret_bool (by rw [hv]; rfl), k1.trans k2⟩
def badR (m : List (List RI)) (r : List RI) : Bool := decide (r.length ≠ colsM m) || r.any fun x => !x.vl
theorem vlM_any (m : List (List RI)) : vlM m = (decide (1 ≤ m.length ∧ m.length ≤ 8) && (decide (1 ≤ colsM m ∧ colsM m ≤ 8) && !m.any (badR m))) := by
  unfold vlM
  congr 2
  rw [List.not_any_eq_all_not]
  congr 1
  funext r
  unfold badR
  rw [Bool.not_or, List.not_any_eq_all_not]
  simp
set_option maxHeartbeats 4000000 in
theorem rect1_any (m : List (List RI)) (r : List RI) (a ra : Option Addr) (c rc bm bo : Nat) (w : World) (hm : RowM w a m) (hm0 : 0 < m.length) (hl : m.length ≤ 1100000) (hr : RowI w ra r) (hrl : r.length ≤ 1100000)
    (h1 : w.cell? ⟨bm, 0, none⟩ = some (.slice a m.length c)) (h2 : w.cell? ⟨bo, 0, none⟩ = some (.func (.func 20) #[] #[])) :
    Calls Tryz.prog 136 #[.slice ra r.length rc, .pointer (some ⟨bm, 0, none⟩), .pointer (some ⟨bo, 0, none⟩)] w fun e w' => e = .returned (.bool (badR m r)) ∧ Kp w w' := by
  obtain ⟨r0, h0⟩ : ∃ r0, m[0]? = some r0 := ⟨_, List.getElem?_eq_getElem hm0⟩
  have hc0 : colsM m = r0.length := by
    unfold colsM
    cases m with
    | nil => simp at hm0
    | cons x t => simp at h0; subst h0; rfl
  obtain ⟨b, o, ra0, rc0, rfl, hcell, _, hl0⟩ := hm 0 r0 h0
  rw [Nat.add_zero] at hcell
  have HB := Lib.hid (show badR m r = (decide (r.length ≠ r0.length) || r.any fun x => !x.vl) by unfold badR; rw [hc0])
  have hp : AnsI Tryz.prog 137 #[.pointer (some ⟨bo, 0, none⟩)] w r (fun x => !x.vl) := ⟨fun _ _ => by kernel_rfl, fun x hx w1 k => rect11_any x bo w1 ((hr.rdI hx).kp k) (k.cell h2)⟩
  have hcn := containsI ra r rc _ _ w _ hrl hr hp
  have HC := Lib.hid hcn
  have hi0 : (0 : Int) < (m.length : Int) := by omega
  clear hm hm0 hc0 h0 hp hcn hr
  by_cases hlen : r.length = r0.length
  rotate_left
  · have hne : ((r.length : Int) != (r0.length : Int)) = true := by simpa using (by omega : ¬ (r.length : Int) = (r0.length : Int))
    have HB2 := Lib.hid (show badR m r = true by rw [HB.out, decide_eq_true (by simpa using hlen)]; rfl)
    clear hlen HB
    go_enter Tryz.func136, Tryz.ntmps136
    go_wp2_with fail
    go_ret
    exact ⟨ret_bool HB2.out.symm, .refl _⟩
  have hne : ((r.length : Int) != (r0.length : Int)) = false := by rw [hlen]; simp
  have HB2 := Lib.hid (show badR m r = r.any (fun x => !x.vl) by rw [HB.out, decide_eq_false (by simpa using hlen)]; rfl)
  clear hlen HB
  go_enter Tryz.func136, Tryz.ntmps136
  go_wp2_with fail
  go_fit HC.out
  rintro e w1 ⟨rfl, k1⟩
  go_wp2_with fail
  go_ret
  exact ⟨ret_bool HB2.out.symm, k1⟩
set_option maxHeartbeats 4000000 in
theorem rect_any (a : Option Addr) (m : List (List RI)) (c : Nat) (w : World) (hm : RowM w a m) (hl : m.length ≤ 1100000) :
    Calls Tryz.prog 69 #[.slice a m.length c, .func (.func 20) #[] #[]] w fun e w' => e = .returned (.bool (vlM m)) ∧ Kp w w' := by
  have HV := Lib.hid (vlM_any m)
  have hsf := storeF
  rcases Nat.eq_zero_or_pos m.length with hz | hpos
  · have H := Lib.hid (show vlM m = false by rw [HV.out, hz]; rfl)
    rw [hz]
    clear hz HV
    go_enter Tryz.func69, Tryz.ntmps69
    go_wp2_with fail
    go_ret
    exact ⟨ret_bool H.out.symm, ((Kp.refl w).alloc _).alloc _⟩
  have hn1 : ¬ (m.length : Int) < 1 := by omega
  by_cases h8 : 8 < m.length
  · have H := Lib.hid (show vlM m = false by rw [HV.out, decide_eq_false (by omega)]; rfl)
    have hn2 : (8 : Int) < (m.length : Int) := by omega
    clear h8 HV hpos
    go_enter Tryz.func69, Tryz.ntmps69
    go_wp2_with fail
    go_ret
    exact ⟨ret_bool H.out.symm, ((Kp.refl w).alloc _).alloc _⟩
  have hn2 : ¬ (8 : Int) < (m.length : Int) := by omega
  have hn3 : (0 : Int) < (m.length : Int) := by omega
  obtain ⟨r0, h0⟩ : ∃ r0, m[0]? = some r0 := ⟨_, List.getElem?_eq_getElem hpos⟩
  have hc0 : colsM m = r0.length := by
    unfold colsM
    cases m with
    | nil => simp at hpos
    | cons x t => simp at h0; subst h0; rfl
  obtain ⟨b, o, ra0, rc0, rfl, hcell, _, hl0⟩ := hm 0 r0 h0
  rw [Nat.add_zero] at hcell
  have HV1 := Lib.hid (show vlM m = (decide (1 ≤ r0.length ∧ r0.length ≤ 8) && !m.any (badR m)) by rw [HV.out, hc0, decide_eq_true (by omega)]; rfl)
  have hk2 := ((Kp.refl w).alloc (.cells #[.slice (some ⟨b, o, none⟩) m.length c] 27)).alloc (.cells #[.func (.func 20) #[] #[]] 51)
  have hcl := hk2.cell hcell
  have hlt := World.block_lt_of_cell? w _ hcell
  by_cases hz : r0.length = 0
  · have H := Lib.hid (show vlM m = false by rw [HV1.out, decide_eq_false (by omega)]; rfl)
    have g1 : (r0.length : Int) < 1 := by omega
    clear HV HV1 h0 hc0 hm hpos h8 hz
    go_enter Tryz.func69, Tryz.ntmps69
    go_wp2_with fail
    go_ret
    exact ⟨ret_bool H.out.symm, ((Kp.refl w).alloc _).alloc _⟩
  have g1 : ¬ (r0.length : Int) < 1 := by omega
  by_cases h9 : 8 < r0.length
  · have H := Lib.hid (show vlM m = false by rw [HV1.out, decide_eq_false (by omega)]; rfl)
    have g2 : (8 : Int) < (r0.length : Int) := by omega
    clear HV HV1 h0 hc0 hm hpos h8 hz h9
    go_enter Tryz.func69, Tryz.ntmps69
    go_wp2_with fail
    go_ret
    exact ⟨ret_bool H.out.symm, ((Kp.refl w).alloc _).alloc _⟩
  have g2 : ¬ (8 : Int) < (r0.length : Int) := by omega
  have H := Lib.hid (show vlM m = !m.any (badR m) by rw [HV1.out, decide_eq_true (by omega)]; rfl)
  have HM := Lib.hid hm
  have Hpos := Lib.hid hpos
  clear HV HV1 h0 hc0 hpos h8 hz h9 hm
  go_enter Tryz.func69, Tryz.ntmps69
  go_wp2_with fail
  have hA : AnsR Tryz.prog 136 #[.pointer (some ⟨w.heap.size, 0, none⟩), .pointer (some ⟨w.heap.size + 1, 0, none⟩)] ((w.alloc (.cells #[.slice (some ⟨b, o, none⟩) m.length c] 27)).alloc (.cells #[.func (.func 20) #[] #[]] 51)) m (badR m) := ⟨fun _ _ => by kernel_rfl, fun r hr ra rc w1 k hrow => rect1_any m r _ ra c rc _ _ w1 ((HM.out.kp hk2).kp k) Hpos.out hl hrow.1 hrow.2 (k.cell (by simp)) (k.cell (by simp))⟩
  go_fit (containsR _ m c _ _ _ (badR m) hl (HM.out.kp hk2) hA)
  rintro e w1 ⟨rfl, k1⟩
  go_wp2_with fail
  go_ret
  exact ⟨ret_bool H.out.symm, hk2.trans k1⟩
set_option maxHeartbeats 1000000 in
theorem mvalid_any (a : Option Addr) (m : List (List RI)) (c : Nat) (w : World) (hm : RowM w a m) (hl : m.length ≤ 1100000) :
    Calls Tryz.prog 17 #[.slice a m.length c] w fun e w' => e = .returned (.bool (vlM m)) ∧ Kp w w' := by
  have H := Lib.hid (rect_any a m c w hm hl)
  clear hm
  go_enter Tryz.func17, Tryz.ntmps17
  go_wp2_with fail
  go_fit H.out
  rintro e w1 ⟨rfl, k1⟩
  go_wp2_with fail
  go_ret
  exact ⟨rfl, k1⟩
end Go.Proofs.YtbhmhfnfceakoaaGreatDoor
