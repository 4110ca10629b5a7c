/-
  Walks: box.Points, Meet.
  The call's own slice of numbers, and of slices of numbers, and append to these.
-/
import Derived.Test.YtkohlmlmoapedaaGreatDoorMRoB
import Derived.Test.YtkohlmlmoapedaaGreatDoorMOwnI
import Derived.Test.YtkohlmlmoapedaaGreatDoorMIdxD
section
namespace Go.Proofs.YtkohlmlmoapedaaGreatDoor
open Go.RowKit

/-- append of an interval to the call's own slice, in a region in the order of the text -/
theorem wpList_append_ivl {w : World} {ops : Array Oper} {rest : List Oper} {o : Oper} {a : Act} {Q : Exit → Act → World → Prop} (hgd : o.guard = none) (s x : Operand)
    (ho : o.op = .call { callee := .builtin .append, args := #[s, x], argTypes := #[22, 22] })
    (wb : World) (v : Value) (zs : List RI) (hs : a.eval s = v) (hown : OwnI wb w v zs)
    (g c : Nat) (hx : a.eval x = .slice (some ⟨g, 0, none⟩) 1 c) (y : RI) (hy : y.rd wb)
    (hcell : w.cell? ⟨g, 0, none⟩ = some (.bool y.lo.neg) ∧ w.cell? ⟨g, 1, none⟩ = some (.slice y.lo.a y.lo.xs.length y.lo.c) ∧ w.cell? ⟨g, 2, none⟩ = some (.int .i64 y.lo.e) ∧ w.cell? ⟨g, 3, none⟩ = some (.bool y.hi.neg) ∧ w.cell? ⟨g, 4, none⟩ = some (.slice y.hi.a y.hi.xs.length y.hi.c) ∧ w.cell? ⟨g, 5, none⟩ = some (.int .i64 y.hi.e) ∧ w.cell? ⟨g, 6, none⟩ = some (.bool y.all)) (hlen : zs.length + 1 ≤ 9000000)
    (h : ∀ a' c' w', OwnI wb w' (.slice a' (zs.length + 1) c') (zs ++ [y]) → Below wb.heap.size w w' → wpList Tryz.prog ops Q rest (a.put o.dst (.slice a' (zs.length + 1) c')) w') :
    wpList Tryz.prog ops Q (o :: rest) a w := by
  obtain ⟨i0, hi, hz0, hz1, hz2⟩ := info_parts infoIvl
  refine wpList_append_lies w hgd s x 22 ho wb.heap.size 34 i0 (.agg #[.bool false, .slice none 0 0, .int .i64 0, .bool false, .slice none 0 0, .int .i64 0, .bool false]) 7 88 Tryz.underlying22 hi hz0 hz1 hz2 rfl (by decide) v zs.length (zs.flatMap RI.cells) hs hown.2
    ⟨g, 0, none⟩ 1 c y.cells hx rfl ?_ ?_ (by decide) (by unfold maxLen; omega) (by omega) hown.1.2.size w.heap.size rfl ?_
  · intro j u hj
    obtain ⟨h0, h1, h2, h3, h4, h5, h6⟩ := hcell
    match j, hj with
    | 0, hj => cases hj; simpa [Addr.add] using h0
    | 1, hj => cases hj; simpa [Addr.add] using h1
    | 2, hj => cases hj; simpa [Addr.add] using h2
    | 3, hj => cases hj; simpa [Addr.add] using h3
    | 4, hj => cases hj; simpa [Addr.add] using h4
    | 5, hj => cases hj; simpa [Addr.add] using h5
    | 6, hj => cases hj; simpa [Addr.add] using h6
    | j + 7, hj => simp [RI.cells] at hj
  · intro u hu
    simp only [RI.cells, List.mem_cons, List.not_mem_nil, or_false] at hu
    rcases hu with rfl | rfl | rfl | rfl | rfl | rfl | rfl <;> rfl
  · intro g' cap w' h1 h2 _ _
    have hb : Below wb.heap.size w w' := (Below.refl wb.heap.size w).grown h2 hown.1.2.size (fun k hk => (hown.2.lt k hk).1)
    refine h _ _ w' ⟨⟨fun x hx => ?_, Below.trans hown.1.2 hb⟩, ?_⟩ hb
    · rcases List.mem_append.1 hx with hx | hx
      · exact hown.1.1 x hx
      · simp only [List.mem_singleton] at hx; subst hx; exact hy
    · rw [List.flatMap_append, List.length_append]
      simpa using h1
/-- the interval of a number -/
def ptI (d : RD) : RI := ⟨d, d, false⟩
theorem IPoint_pt (d : RD) (w : World) (hy : d.ok w) :
    Calls Tryz.prog 40 #[.agg #[.bool d.neg, .slice d.a d.xs.length d.c, .int .i64 d.e]] w fun e w' => e = .returned (.agg #[.bool (ptI d).lo.neg, .slice (ptI d).lo.a (ptI d).lo.xs.length (ptI d).lo.c, .int .i64 (ptI d).lo.e, .bool (ptI d).hi.neg, .slice (ptI d).hi.a (ptI d).hi.xs.length (ptI d).hi.c, .int .i64 (ptI d).hi.e, .bool (ptI d).all]) ∧ Kp w w' := IPoint_ok d w hy
theorem ptI_rd {w : World} {d : RD} (h : d.rd w) : (ptI d).rd w := ⟨h, h⟩
theorem ptI_ok {w : World} {d : RD} (h : d.ok w) : (ptI d).ok w := RI.ok_mk h h (Int.le_refl _)
/-- the box of a point -/
def ptsB (ys : List RD) : List RI := if vlP ys then ys.map ptI else []
theorem map_snoc {α β : Type} {f : α → β} {zs : List α} {k : Nat} {x : α} (hx : zs[k]? = some x) : (zs.take (k + 1)).map f = (zs.take k).map f ++ [f x] := by
  obtain ⟨h1, rfl⟩ := List.getElem?_eq_some_iff.1 hx
  rw [List.take_succ_eq_append_getElem h1, List.map_append]; rfl
set_option maxRecDepth 100000 in
set_option maxHeartbeats 4000000 in
theorem BPoints_any (b : Option Addr) (ys : List RD) (d : Nat) (w : World) (h' : RowD w b ys) (hl' : ys.length ≤ 1100000) :
    Calls Tryz.prog 13 #[.slice b ys.length d] w (ShowsI w (ptsB ys)) := by
  have H := Lib.hid (show ptsB ys = if vlP ys then ys.map ptI else [] from rfl)
  go_enter Tryz.func13, Tryz.ntmps13
  go_wp2_with fail
  refine (point_any b ys d _ h' hl').mono ?_
  rintro e w1 ⟨rfl, hk1⟩
  cases hz : vlP ys with
  | false =>
    rw [hz] at H
    clear hz
    go_wp2_with fail
    go_ret
    rw [H.out]
    exact ⟨none, 0, rfl, fun i x hi => by simp at hi, Nat.le_refl _, by unfold maxLen; omega, hk1⟩
  | true =>
    rw [hz] at H
    have v1 := Lib.hid hz
    have hl8 := (vlP_iff.1 hz).2.1
    clear hz
    go_wp2_with fail
    go_loopw [3, 11] (fun v x wr => ∃ k : Nat, k ≤ ys.length ∧ x = .int .i64 k ∧ OwnI w wr v ((ys.take k).map ptI)) (fun _ x _ => ys.length - (intOf x).toNat)
    case atStart => exact ⟨0, by omega, rfl, OwnI.nil hk1⟩
    case round =>
      obtain ⟨k, hk, rfl, hown⟩ := hrel
      have hk2 := hown.1.2
      obtain ⟨L, hL⟩ : ∃ L, L = (ys.take k).map ptI := ⟨_, rfl⟩
      rw [← hL] at hown
      have hlen8 : L.length + 1 ≤ 9000000 := by rw [hL]; simp; omega
      have HL := Lib.hid hL
      clear hL
      by_cases hlt : k < ys.length
      · have hy := (vlP_ok (h'.kp hk2) v1.out (List.getElem_mem hlt))
        obtain ⟨b2, o2, rfl, hyw, _⟩ := h' k (ys[k]) (List.getElem?_eq_getElem hlt)
        obtain ⟨_, _, e1, _, j0, j1, j2⟩ := (h'.kp hk2) k (ys[k]) (List.getElem?_eq_getElem hlt)
        cases e1
        have Hg := Lib.hid (List.getElem?_eq_getElem hlt)
        generalize ys[k] = y at *
        have hi1 : (0 : Int) ≤ (k : Int) := by omega
        have hi2 : (k : Int) < (ys.length : Int) := by omega
        have hzok := ptI_rd hyw
        have Hs := Lib.hid (map_snoc (f := ptI) Hg.out)
        clear h'
        go_wp2_with fail
        have hk3 := (Kp.refl wr).alloc (.cells #[.bool y.neg, .slice y.a y.xs.length y.c, .int .i64 y.e] 25)
        refine (IPoint_pt y _ (hy.kp hk3)).mono ?_
        rintro e w4 ⟨rfl, hk4⟩
        have hown4 := hown.kp ((hk3.trans hk4).alloc (.cells #[.bool (ptI y).lo.neg, .slice (ptI y).lo.a (ptI y).lo.xs.length (ptI y).lo.c, .int .i64 (ptI y).lo.e, .bool (ptI y).hi.neg, .slice (ptI y).hi.a (ptI y).hi.xs.length (ptI y).hi.c, .int .i64 (ptI y).hi.e, .bool (ptI y).all] 34))
        go_wp2_with (at_builtin; refine wpList_append_ivl rfl _ _ rfl w _ _ rfl hown4 _ _ rfl (ptI y) hzok (by simp) hlen8 ?_; intro a' c' w5 hown5 hb5)
        go_roundw
        case rel => exact ⟨k + 1, by omega, by go_num, by rw [Hs.out, ← HL.out]; exact hown5⟩
        case measure => simp [intOf]; omega
      · obtain ⟨a3, c3, rfl, h1, h2, h3⟩ := hown.value
        have Hz := Lib.hid (show L = ptsB ys by
          rw [H.out, HL.out]
          simp only [if_true]
          rw [List.take_of_length_le (by omega)])
        go_wp2
        go_ret
        rw [← Hz.out]
        exact ⟨a3, c3, rfl, h3, h1, h2, hk2⟩
end Go.Proofs.YtkohlmlmoapedaaGreatDoor
end

section
namespace Go.Proofs.YtkohlmlmoapedaaGreatDoor
open Go.RowKit

/-- the three cells of a number -/
def RD.cells (x : RD) : List Value := [.bool x.neg, .slice x.a x.xs.length x.c, .int .i64 x.e]
theorem RD.cells_len (x : RD) : x.cells.length = 3 := rfl
/-- The call's own slice v, in a block that was not there in the world wb, of the numbers zs, which were there. -/
def OwnD (wb w : World) (v : Value) (zs : List RD) : Prop :=
  ((∀ x, x ∈ zs → x.rd wb) ∧ Kp wb w) ∧ w.ownsRow wb.heap.size 25 3 v zs.length (zs.flatMap RD.cells)
theorem flatD_len (zs : List RD) : (zs.flatMap RD.cells).length = zs.length * 3 := by
  induction zs with
  | nil => rfl
  | cons z zs ih => rw [List.flatMap_cons, List.length_append, ih, RD.cells_len, List.length_cons]; omega
theorem flatD_get {zs : List RD} {i : Nat} {x : RD} (h : zs[i]? = some x) {j : Nat} (hj : j < 3) : (zs.flatMap RD.cells)[i * 3 + j]? = x.cells[j]? := by
  induction zs generalizing i with
  | nil => simp at h
  | cons z zs ih =>
    rw [List.flatMap_cons]
    cases i with
    | zero =>
      simp only [List.getElem?_cons_zero, Option.some.injEq] at h
      subst h
      rw [List.getElem?_append_left (by rw [RD.cells_len]; omega), Nat.zero_mul, Nat.zero_add]
    | succ i =>
      rw [List.getElem?_cons_succ] at h
      rw [List.getElem?_append_right (by rw [RD.cells_len]; omega), RD.cells_len, ← ih h]
      congr 1; omega
theorem OwnD.nil {wb w : World} (k : Kp wb w) : OwnD wb w (.slice none 0 0) [] := ⟨⟨fun _ h => by simp at h, k⟩, World.ownsRow_nil _ _ _ _⟩
theorem OwnD.value {wb w : World} {v : Value} {zs : List RD} (h : OwnD wb w v zs) : ∃ a c, v = .slice a zs.length c ∧ zs.length ≤ c ∧ c ≤ maxLen ∧ RowD w a zs := by
  obtain ⟨h1, h2, h3⟩ := h
  rcases h3 with ⟨rfl, h3⟩ | ⟨g, cap, cur, rfl, hb, hg, hn, hc, hs, ht⟩
  · have h0 : zs = [] := List.length_eq_zero_iff.1 h3
    subst h0
    exact ⟨none, 0, rfl, Nat.le_refl _, by decide, fun i x hi => by simp at hi⟩
  · refine ⟨_, _, rfl, hn, hc, fun i x hi => ⟨g, 0, rfl, (h1.1 x (List.mem_of_getElem? hi)).kp h1.2, ?_⟩⟩
    have hil : i < zs.length := (List.getElem?_eq_some_iff.1 hi).1
    have key (j : Nat) (hj : j < 3) (u : Value) (hu : x.cells[j]? = some u) : w.cell? ⟨g, i * 3 + j, none⟩ = some u := by
      rw [cell_of_row w g _ cur _ _ hg]
      have h5 : (cur.toList.take (zs.length * 3))[i * 3 + j]? = some u := by rw [ht, flatD_get hi hj, hu]
      rw [List.getElem?_take, if_pos (by omega)] at h5
      simpa using h5
    simp only [Nat.zero_add]
    exact ⟨key 0 (by decide) _ rfl, key 1 (by decide) _ rfl, key 2 (by decide) _ rfl⟩
theorem OwnD.block {wb w : World} {v : Value} {zs : List RD} (h : OwnD wb w v zs) (hpos : 0 < zs.length) : ∃ g c, v = .slice (some ⟨g, 0, none⟩) zs.length c ∧ wb.heap.size ≤ g ∧ g < w.heap.size ∧ RowD w (some ⟨g, 0, none⟩) zs := by
  obtain ⟨a, c, e, _, _, hr⟩ := h.value
  obtain ⟨h1, h2, h3⟩ := h
  rcases h3 with ⟨rfl, h3⟩ | ⟨g, cap, cur, h4, hb, hg, hn, hc, hs, ht⟩
  · omega
  · rw [h4] at e
    cases e
    exact ⟨g, c, h4, hb, (Array.getElem?_eq_some_iff.1 hg).1, hr⟩
theorem OwnD.kp {wb w w' : World} {v : Value} {zs : List RD} (h : OwnD wb w v zs) (k : Kp w w') : OwnD wb w' v zs := by
  refine ⟨⟨h.1.1, h.1.2.trans k⟩, ?_⟩
  obtain ⟨_, h2, h3⟩ := h
  refine ⟨h2, ?_⟩
  rcases h3 with h3 | ⟨g, cap, cur, h4, hb, hg, hr⟩
  · exact .inl h3
  · exact .inr ⟨g, cap, cur, h4, hb, k.heap hg, hr⟩
theorem infoDyd : (Tryz.prog.info? 25).map (fun i => (i.zero, i.size, i.bytes)) = some (some (.agg #[.bool false, .slice none 0 0, .int .i64 0]), 3, 40) := by kernel_rfl
/-- append of a number to the call's own slice, in a region in the order of the text -/
theorem wpList_append_dyd {w : World} {ops : Array Oper} {rest : List Oper} {o : Oper} {a : Act} {Q : Exit → Act → World → Prop} (hgd : o.guard = none) (s x : Operand)
    (ho : o.op = .call { callee := .builtin .append, args := #[s, x], argTypes := #[28, 28] })
    (wb : World) (v : Value) (zs : List RD) (hs : a.eval s = v) (hown : OwnD wb w v zs)
    (g c : Nat) (hx : a.eval x = .slice (some ⟨g, 0, none⟩) 1 c) (y : RD) (hy : y.rd wb)
    (hcell : w.cell? ⟨g, 0, none⟩ = some (.bool y.neg) ∧ w.cell? ⟨g, 1, none⟩ = some (.slice y.a y.xs.length y.c) ∧ w.cell? ⟨g, 2, none⟩ = some (.int .i64 y.e)) (hlen : zs.length + 1 ≤ 9000000)
    (h : ∀ a' c' w', OwnD wb w' (.slice a' (zs.length + 1) c') (zs ++ [y]) → Below wb.heap.size w w' → wpList Tryz.prog ops Q rest (a.put o.dst (.slice a' (zs.length + 1) c')) w') :
    wpList Tryz.prog ops Q (o :: rest) a w := by
  obtain ⟨i0, hi, hz0, hz1, hz2⟩ := info_parts infoDyd
  refine wpList_append_lies w hgd s x 28 ho wb.heap.size 25 i0 (.agg #[.bool false, .slice none 0 0, .int .i64 0]) 3 40 Tryz.underlying28 hi hz0 hz1 hz2 rfl (by decide) v zs.length (zs.flatMap RD.cells) hs hown.2
    ⟨g, 0, none⟩ 1 c y.cells hx rfl ?_ ?_ (by decide) (by unfold maxLen; omega) (by omega) hown.1.2.size w.heap.size rfl ?_
  · intro j u hj
    obtain ⟨h0, h1, h2⟩ := hcell
    match j, hj with
    | 0, hj => cases hj; simpa [Addr.add] using h0
    | 1, hj => cases hj; simpa [Addr.add] using h1
    | 2, hj => cases hj; simpa [Addr.add] using h2
    | j + 3, hj => simp [RD.cells] at hj
  · intro u hu
    simp only [RD.cells, List.mem_cons, List.not_mem_nil, or_false] at hu
    rcases hu with rfl | rfl | rfl <;> rfl
  · intro g' cap w' h1 h2 _ _
    have hb : Below wb.heap.size w w' := (Below.refl wb.heap.size w).grown h2 hown.1.2.size (fun k hk => (hown.2.lt k hk).1)
    refine h _ _ w' ⟨⟨fun x hx => ?_, Below.trans hown.1.2 hb⟩, ?_⟩ hb
    · rcases List.mem_append.1 hx with hx | hx
      · exact hown.1.1 x hx
      · simp only [List.mem_singleton] at hx; subst hx; exact hy
    · rw [List.flatMap_append, List.length_append]
      simpa using h1

theorem infoSlD : (Tryz.prog.info? 28).map (fun i => (i.zero, i.size, i.bytes)) = some (some (.slice none 0 0), 1, 24) := by kernel_rfl
/-- The call's own slice v of slices us, each of which shows a row. -/
def OwnR (wb w : World) (v : Value) (us : List Value) (rows : List (List RD)) : Prop :=
  (us.length = rows.length ∧ Kp wb w) ∧ w.ownsRow wb.heap.size 28 1 v us.length us ∧
  ∀ (i : Nat) (r : List RD), rows[i]? = some r → (∀ x, x ∈ r → x.rd wb) ∧ ∃ (g c : Nat), us[i]? = some (Value.slice (some ⟨g, 0, none⟩) r.length c) ∧ RowD w (some ⟨g, 0, none⟩) r ∧ v.ownBlock ≠ some g ∧ g < w.heap.size
theorem OwnR.nil {wb w : World} (k : Kp wb w) : OwnR wb w (.slice none 0 0) [] [] := ⟨⟨rfl, k⟩, World.ownsRow_nil _ _ _ _, fun i r h => by simp at h⟩
theorem OwnR.kp {wb w w' : World} {v : Value} {us : List Value} {rows : List (List RD)} (h : OwnR wb w v us rows) (k : Kp w w') : OwnR wb w' v us rows := by
  obtain ⟨h1, ⟨h2, h3⟩, h4⟩ := h
  refine ⟨⟨h1.1, h1.2.trans k⟩, ⟨h2, ?_⟩, fun i r hi => ?_⟩
  · rcases h3 with h3 | ⟨g, cap, cur, h4, hb, hg, hr⟩
    · exact .inl h3
    · exact .inr ⟨g, cap, cur, h4, hb, k.heap hg, hr⟩
  · obtain ⟨h5, g, c, h6, h7, h8, h9⟩ := h4 i r hi
    exact ⟨h5, g, c, h6, h7.kp k, h8, Nat.lt_of_lt_of_le h9 k.size⟩
theorem RowD.far {w w' : World} {row : Option Nat} {g : Nat} {r : List RD} (h : RowD w (some ⟨g, 0, none⟩) r) (hg : w.grownBy w' row) (hlt : g < w.heap.size) (hne : some g ≠ row) (hr : ∀ x, x ∈ r → x.rd w') : RowD w' (some ⟨g, 0, none⟩) r := by
  intro i x hi
  obtain ⟨b, o, e, _, h0, h1, h2⟩ := h i x hi
  cases e
  refine ⟨g, 0, rfl, hr x (List.mem_of_getElem? hi), ?_, ?_, ?_⟩
  · rw [hg.cell_far _ hlt hne]; exact h0
  · rw [hg.cell_far _ hlt hne]; exact h1
  · rw [hg.cell_far _ hlt hne]; exact h2
theorem wpList_append_row {w : World} {ops : Array Oper} {rest : List Oper} {o : Oper} {a : Act} {Q : Exit → Act → World → Prop} (hgd : o.guard = none) (s x : Operand)
    (ho : o.op = .call { callee := .builtin .append, args := #[s, x], argTypes := #[41, 41] })
    (wb : World) (v : Value) (us : List Value) (rows : List (List RD)) (hs : a.eval s = v) (hown : OwnR wb w v us rows)
    (B c : Nat) (hx : a.eval x = .slice (some ⟨B, 0, none⟩) 1 c) (g c1 : Nat) (r : List RD) (hr : ∀ x, x ∈ r → x.rd wb) (hrow : RowD w (some ⟨g, 0, none⟩) r) (hne : v.ownBlock ≠ some g) (hlt : g < w.heap.size)
    (hcell : w.cell? ⟨B, 0, none⟩ = some (.slice (some ⟨g, 0, none⟩) r.length c1)) (hlen : us.length + 1 ≤ 9000000)
    (h : ∀ v' w', OwnR wb w' v' (us ++ [.slice (some ⟨g, 0, none⟩) r.length c1]) (rows ++ [r]) → Below wb.heap.size w w' → wpList Tryz.prog ops Q rest (a.put o.dst v') w') :
    wpList Tryz.prog ops Q (o :: rest) a w := by
  obtain ⟨i0, hi, hz0, hz1, hz2⟩ := info_parts infoSlD
  obtain ⟨⟨hl, hk⟩, hown1, hrows⟩ := hown
  refine wpList_append_lies w hgd s x 41 ho wb.heap.size 28 i0 (.slice none 0 0) 1 24 Tryz.underlying41 hi hz0 hz1 hz2 rfl (by decide) v us.length us hs hown1
    ⟨B, 0, none⟩ 1 c [.slice (some ⟨g, 0, none⟩) r.length c1] hx rfl ?_ ?_ (by decide) (by unfold maxLen; omega) (by omega) hk.size w.heap.size rfl ?_
  · intro j u hj
    match j, hj with
    | 0, hj => cases hj; simpa [Addr.add] using hcell
    | j + 1, hj => simp at hj
  · intro u hu
    simp only [List.mem_singleton] at hu
    subst hu; rfl
  · intro g' cap w' h1 h2 h3 _
    have hb : Below wb.heap.size w w' := (Below.refl wb.heap.size w).grown h2 hk.size (fun k hk => (hown1.lt k hk).1)
    have hkw : Kp wb w' := Below.trans hk hb
    refine h _ w' ⟨⟨by simp [hl], hkw⟩, by simpa using h1, fun i q hi => ?_⟩ hb
    have hnew : ∀ k, v.ownBlock ≠ some k → k < w.heap.size → (Value.slice (some ⟨g', 0, none⟩) (us.length + 1) cap).ownBlock ≠ some k := fun k h4 h5 e => by
      have e' : g' = k := by simpa [Value.ownBlock] using e
      subst e'
      rcases h3 with h3 | h3
      · exact h4 h3
      · omega
    by_cases hil : i < rows.length
    · rw [List.getElem?_append_left hil] at hi
      obtain ⟨h5, g1, c2, h6, h7, h8, h9⟩ := hrows i q hi
      refine ⟨h5, g1, c2, ?_, h7.far h2 h9 (Ne.symm h8) (fun x hx => (h5 x hx).kp hkw), hnew _ h8 h9, Nat.lt_of_lt_of_le h9 h2.size⟩
      rw [List.getElem?_append_left (by omega)]; exact h6
    · have hie : i = rows.length := by
        have := (List.getElem?_eq_some_iff.1 hi).1
        simp at this; omega
      subst hie
      rw [List.getElem?_append_right (Nat.le_refl _), Nat.sub_self] at hi
      simp only [List.getElem?_cons_zero, Option.some.injEq] at hi
      subst hi
      refine ⟨hr, g, c1, ?_, hrow.far h2 hlt (Ne.symm hne) (fun x hx => (hr x hx).kp hkw), hnew _ hne hlt, Nat.lt_of_lt_of_le hlt h2.size⟩
      rw [← hl, List.getElem?_append_right (Nat.le_refl _), Nat.sub_self]; rfl
/-- the slices that OwnR shows, as cells -/
theorem OwnR.value {wb w : World} {v : Value} {us : List Value} {rows : List (List RD)} (h : OwnR wb w v us rows) (hpos : 0 < rows.length) : ∃ b c, v = .slice (some ⟨b, 0, none⟩) rows.length c ∧ ∀ (i : Nat) (r : List RD), rows[i]? = some r → ∃ g c1, w.cell? ⟨b, i, none⟩ = some (.slice (some ⟨g, 0, none⟩) r.length c1) ∧ RowD w (some ⟨g, 0, none⟩) r := by
  obtain ⟨⟨hl, hk⟩, ⟨_, h3⟩, h4⟩ := h
  rcases h3 with ⟨_, h3⟩ | ⟨b, cap, cur, rfl, hb, hg, hn, hc, hs, ht⟩
  · omega
  · refine ⟨b, cap, by rw [hl], fun i r hi => ?_⟩
    obtain ⟨_, g, c1, h6, h7, _⟩ := h4 i r hi
    refine ⟨g, c1, ?_, h7⟩
    have hil : i < us.length := (List.getElem?_eq_some_iff.1 h6).1
    rw [cell_of_row w b _ cur _ _ hg]
    have h5 : (cur.toList.take (us.length * 1))[i]? = some (.slice (some ⟨g, 0, none⟩) r.length c1) := by rw [ht]; exact h6
    rw [List.getElem?_take, if_pos (by omega)] at h5
    simpa using h5
end Go.Proofs.YtkohlmlmoapedaaGreatDoor
end
