/-
  The call's own slice of numbers, and of slices of numbers, and append to these.
  Walks: box.Corners.
  Walks: the law's awake.
-/
import Derived.Test.YtkohlmlmoapedaaDoorMOwnI
import Derived.Test.YtkohlmlmoapedaaDoorMIdxD
import Derived.Test.YtkohlmlmoapedaaDoorMRoC
import Derived.Test.YtkohlmlmoapedaaDoorMBoxD
import Derived.Test.YtkohlmlmoapedaaDoorMBoxG
section
namespace Go.Proofs.YtkohlmlmoapedaaDoor
open Go.RowKit

/-- the three cells of a number -/
def RD.cells (x : RD) : List Value := [.bool x.neg, .slice x.a x.xs.length x.c, .int .i64 x.e]
theorem RD.cells_len (x : RD) : x.cells.length = 3 := rfl
/-- The call's own slice v, in a block that was not there in the world wb, of the numbers zs, which were there. -/
def OwnD (wb w : World) (v : Value) (zs : List RD) : Prop :=
  ((∀ x, x ∈ zs → x.rd wb) ∧ Kp wb w) ∧ w.ownsRow wb.heap.size 36 3 v zs.length (zs.flatMap RD.cells)
theorem flatD_len (zs : List RD) : (zs.flatMap RD.cells).length = zs.length * 3 := by
  induction zs with
  | nil => rfl
  | cons z zs ih => rw [List.flatMap_cons, List.length_append, ih, RD.cells_len, List.length_cons]; omega
theorem flatD_get {zs : List RD} {i : Nat} {x : RD} (h : zs[i]? = some x) {j : Nat} (hj : j < 3) : (zs.flatMap RD.cells)[i * 3 + j]? = x.cells[j]? := by
  induction zs generalizing i with
  | nil => simp at h
  | cons z zs ih =>
    rw [List.flatMap_cons]
    cases i with
    | zero =>
      simp only [List.getElem?_cons_zero, Option.some.injEq] at h
      subst h
      rw [List.getElem?_append_left (by rw [RD.cells_len]; omega), Nat.zero_mul, Nat.zero_add]
    | succ i =>
      rw [List.getElem?_cons_succ] at h
      rw [List.getElem?_append_right (by rw [RD.cells_len]; omega), RD.cells_len, ← ih h]
      congr 1; omega
theorem OwnD.nil {wb w : World} (k : Kp wb w) : OwnD wb w (.slice none 0 0) [] := ⟨⟨fun _ h => by simp at h, k⟩, World.ownsRow_nil _ _ _ _⟩
theorem OwnD.value {wb w : World} {v : Value} {zs : List RD} (h : OwnD wb w v zs) : ∃ a c, v = .slice a zs.length c ∧ zs.length ≤ c ∧ c ≤ maxLen ∧ RowD w a zs := by
  obtain ⟨h1, h2, h3⟩ := h
  rcases h3 with ⟨rfl, h3⟩ | ⟨g, cap, cur, rfl, hb, hg, hn, hc, hs, ht⟩
  · have h0 : zs = [] := List.length_eq_zero_iff.1 h3
    subst h0
    exact ⟨none, 0, rfl, Nat.le_refl _, by decide, fun i x hi => by simp at hi⟩
  · refine ⟨_, _, rfl, hn, hc, fun i x hi => ⟨g, 0, rfl, (h1.1 x (List.mem_of_getElem? hi)).kp h1.2, ?_⟩⟩
    have hil : i < zs.length := (List.getElem?_eq_some_iff.1 hi).1
    have key (j : Nat) (hj : j < 3) (u : Value) (hu : x.cells[j]? = some u) : w.cell? ⟨g, i * 3 + j, none⟩ = some u := by
      rw [cell_of_row w g _ cur _ _ hg]
      have h5 : (cur.toList.take (zs.length * 3))[i * 3 + j]? = some u := by rw [ht, flatD_get hi hj, hu]
      rw [List.getElem?_take, if_pos (by omega)] at h5
      simpa using h5
    simp only [Nat.zero_add]
    exact ⟨key 0 (by decide) _ rfl, key 1 (by decide) _ rfl, key 2 (by decide) _ rfl⟩
theorem OwnD.block {wb w : World} {v : Value} {zs : List RD} (h : OwnD wb w v zs) (hpos : 0 < zs.length) : ∃ g c, v = .slice (some ⟨g, 0, none⟩) zs.length c ∧ wb.heap.size ≤ g ∧ g < w.heap.size ∧ RowD w (some ⟨g, 0, none⟩) zs := by
  obtain ⟨a, c, e, _, _, hr⟩ := h.value
  obtain ⟨h1, h2, h3⟩ := h
  rcases h3 with ⟨rfl, h3⟩ | ⟨g, cap, cur, h4, hb, hg, hn, hc, hs, ht⟩
  · omega
  · rw [h4] at e
    cases e
    exact ⟨g, c, h4, hb, (Array.getElem?_eq_some_iff.1 hg).1, hr⟩
theorem OwnD.kp {wb w w' : World} {v : Value} {zs : List RD} (h : OwnD wb w v zs) (k : Kp w w') : OwnD wb w' v zs := by
  refine ⟨⟨h.1.1, h.1.2.trans k⟩, ?_⟩
  obtain ⟨_, h2, h3⟩ := h
  refine ⟨h2, ?_⟩
  rcases h3 with h3 | ⟨g, cap, cur, h4, hb, hg, hr⟩
  · exact .inl h3
  · exact .inr ⟨g, cap, cur, h4, hb, k.heap hg, hr⟩
theorem infoDyd : (Tryd.prog.info? 36).map (fun i => (i.zero, i.size, i.bytes)) = some (some (.agg #[.bool false, .slice none 0 0, .int .i64 0]), 3, 40) := by kernel_rfl
/-- append of a number to the call's own slice, in a region in the order of the text -/
theorem wpList_append_dyd {w : World} {ops : Array Oper} {rest : List Oper} {o : Oper} {a : Act} {Q : Exit → Act → World → Prop} (hgd : o.guard = none) (s x : Operand)
    (ho : o.op = .call { callee := .builtin .append, args := #[s, x], argTypes := #[31, 31] })
    (wb : World) (v : Value) (zs : List RD) (hs : a.eval s = v) (hown : OwnD wb w v zs)
    (g c : Nat) (hx : a.eval x = .slice (some ⟨g, 0, none⟩) 1 c) (y : RD) (hy : y.rd wb)
    (hcell : w.cell? ⟨g, 0, none⟩ = some (.bool y.neg) ∧ w.cell? ⟨g, 1, none⟩ = some (.slice y.a y.xs.length y.c) ∧ w.cell? ⟨g, 2, none⟩ = some (.int .i64 y.e)) (hlen : zs.length + 1 ≤ 9000000)
    (h : ∀ a' c' w', OwnD wb w' (.slice a' (zs.length + 1) c') (zs ++ [y]) → Below wb.heap.size w w' → wpList Tryd.prog ops Q rest (a.put o.dst (.slice a' (zs.length + 1) c')) w') :
    wpList Tryd.prog ops Q (o :: rest) a w := by
  obtain ⟨i0, hi, hz0, hz1, hz2⟩ := info_parts infoDyd
  refine wpList_append_lies w hgd s x 31 ho wb.heap.size 36 i0 (.agg #[.bool false, .slice none 0 0, .int .i64 0]) 3 40 Tryd.underlying31 hi hz0 hz1 hz2 rfl (by decide) v zs.length (zs.flatMap RD.cells) hs hown.2
    ⟨g, 0, none⟩ 1 c y.cells hx rfl ?_ ?_ (by decide) (by unfold maxLen; omega) (by omega) hown.1.2.size w.heap.size rfl ?_
  · intro j u hj
    obtain ⟨h0, h1, h2⟩ := hcell
    match j, hj with
    | 0, hj => cases hj; simpa [Addr.add] using h0
    | 1, hj => cases hj; simpa [Addr.add] using h1
    | 2, hj => cases hj; simpa [Addr.add] using h2
    | j + 3, hj => simp [RD.cells] at hj
  · intro u hu
    simp only [RD.cells, List.mem_cons, List.not_mem_nil, or_false] at hu
    rcases hu with rfl | rfl | rfl <;> rfl
  · intro g' cap w' h1 h2 _ _
    have hb : Below wb.heap.size w w' := (Below.refl wb.heap.size w).grown h2 hown.1.2.size (fun k hk => (hown.2.lt k hk).1)
    refine h _ _ w' ⟨⟨fun x hx => ?_, Below.trans hown.1.2 hb⟩, ?_⟩ hb
    · rcases List.mem_append.1 hx with hx | hx
      · exact hown.1.1 x hx
      · simp only [List.mem_singleton] at hx; subst hx; exact hy
    · rw [List.flatMap_append, List.length_append]
      simpa using h1

theorem infoSlD : (Tryd.prog.info? 31).map (fun i => (i.zero, i.size, i.bytes)) = some (some (.slice none 0 0), 1, 24) := by kernel_rfl
/-- The call's own slice v of slices us, each of which shows a row. -/
def OwnR (wb w : World) (v : Value) (us : List Value) (rows : List (List RD)) : Prop :=
  (us.length = rows.length ∧ Kp wb w) ∧ w.ownsRow wb.heap.size 31 1 v us.length us ∧
  ∀ (i : Nat) (r : List RD), rows[i]? = some r → (∀ x, x ∈ r → x.rd wb) ∧ ∃ (g c : Nat), us[i]? = some (Value.slice (some ⟨g, 0, none⟩) r.length c) ∧ RowD w (some ⟨g, 0, none⟩) r ∧ v.ownBlock ≠ some g ∧ g < w.heap.size
theorem OwnR.nil {wb w : World} (k : Kp wb w) : OwnR wb w (.slice none 0 0) [] [] := ⟨⟨rfl, k⟩, World.ownsRow_nil _ _ _ _, fun i r h => by simp at h⟩
theorem OwnR.kp {wb w w' : World} {v : Value} {us : List Value} {rows : List (List RD)} (h : OwnR wb w v us rows) (k : Kp w w') : OwnR wb w' v us rows := by
  obtain ⟨h1, ⟨h2, h3⟩, h4⟩ := h
  refine ⟨⟨h1.1, h1.2.trans k⟩, ⟨h2, ?_⟩, fun i r hi => ?_⟩
  · rcases h3 with h3 | ⟨g, cap, cur, h4, hb, hg, hr⟩
    · exact .inl h3
    · exact .inr ⟨g, cap, cur, h4, hb, k.heap hg, hr⟩
  · obtain ⟨h5, g, c, h6, h7, h8, h9⟩ := h4 i r hi
    exact ⟨h5, g, c, h6, h7.kp k, h8, Nat.lt_of_lt_of_le h9 k.size⟩
theorem RowD.far {w w' : World} {row : Option Nat} {g : Nat} {r : List RD} (h : RowD w (some ⟨g, 0, none⟩) r) (hg : w.grownBy w' row) (hlt : g < w.heap.size) (hne : some g ≠ row) (hr : ∀ x, x ∈ r → x.rd w') : RowD w' (some ⟨g, 0, none⟩) r := by
  intro i x hi
  obtain ⟨b, o, e, _, h0, h1, h2⟩ := h i x hi
  cases e
  refine ⟨g, 0, rfl, hr x (List.mem_of_getElem? hi), ?_, ?_, ?_⟩
  · rw [hg.cell_far _ hlt hne]; exact h0
  · rw [hg.cell_far _ hlt hne]; exact h1
  · rw [hg.cell_far _ hlt hne]; exact h2
theorem wpList_append_row {w : World} {ops : Array Oper} {rest : List Oper} {o : Oper} {a : Act} {Q : Exit → Act → World → Prop} (hgd : o.guard = none) (s x : Operand)
    (ho : o.op = .call { callee := .builtin .append, args := #[s, x], argTypes := #[40, 40] })
    (wb : World) (v : Value) (us : List Value) (rows : List (List RD)) (hs : a.eval s = v) (hown : OwnR wb w v us rows)
    (B c : Nat) (hx : a.eval x = .slice (some ⟨B, 0, none⟩) 1 c) (g c1 : Nat) (r : List RD) (hr : ∀ x, x ∈ r → x.rd wb) (hrow : RowD w (some ⟨g, 0, none⟩) r) (hne : v.ownBlock ≠ some g) (hlt : g < w.heap.size)
    (hcell : w.cell? ⟨B, 0, none⟩ = some (.slice (some ⟨g, 0, none⟩) r.length c1)) (hlen : us.length + 1 ≤ 9000000)
    (h : ∀ v' w', OwnR wb w' v' (us ++ [.slice (some ⟨g, 0, none⟩) r.length c1]) (rows ++ [r]) → Below wb.heap.size w w' → wpList Tryd.prog ops Q rest (a.put o.dst v') w') :
    wpList Tryd.prog ops Q (o :: rest) a w := by
  obtain ⟨i0, hi, hz0, hz1, hz2⟩ := info_parts infoSlD
  obtain ⟨⟨hl, hk⟩, hown1, hrows⟩ := hown
  refine wpList_append_lies w hgd s x 40 ho wb.heap.size 31 i0 (.slice none 0 0) 1 24 Tryd.underlying40 hi hz0 hz1 hz2 rfl (by decide) v us.length us hs hown1
    ⟨B, 0, none⟩ 1 c [.slice (some ⟨g, 0, none⟩) r.length c1] hx rfl ?_ ?_ (by decide) (by unfold maxLen; omega) (by omega) hk.size w.heap.size rfl ?_
  · intro j u hj
    match j, hj with
    | 0, hj => cases hj; simpa [Addr.add] using hcell
    | j + 1, hj => simp at hj
  · intro u hu
    simp only [List.mem_singleton] at hu
    subst hu; rfl
  · intro g' cap w' h1 h2 h3 _
    have hb : Below wb.heap.size w w' := (Below.refl wb.heap.size w).grown h2 hk.size (fun k hk => (hown1.lt k hk).1)
    have hkw : Kp wb w' := Below.trans hk hb
    refine h _ w' ⟨⟨by simp [hl], hkw⟩, by simpa using h1, fun i q hi => ?_⟩ hb
    have hnew : ∀ k, v.ownBlock ≠ some k → k < w.heap.size → (Value.slice (some ⟨g', 0, none⟩) (us.length + 1) cap).ownBlock ≠ some k := fun k h4 h5 e => by
      have e' : g' = k := by simpa [Value.ownBlock] using e
      subst e'
      rcases h3 with h3 | h3
      · exact h4 h3
      · omega
    by_cases hil : i < rows.length
    · rw [List.getElem?_append_left hil] at hi
      obtain ⟨h5, g1, c2, h6, h7, h8, h9⟩ := hrows i q hi
      refine ⟨h5, g1, c2, ?_, h7.far h2 h9 (Ne.symm h8) (fun x hx => (h5 x hx).kp hkw), hnew _ h8 h9, Nat.lt_of_lt_of_le h9 h2.size⟩
      rw [List.getElem?_append_left (by omega)]; exact h6
    · have hie : i = rows.length := by
        have := (List.getElem?_eq_some_iff.1 hi).1
        simp at this; omega
      subst hie
      rw [List.getElem?_append_right (Nat.le_refl _), Nat.sub_self] at hi
      simp only [List.getElem?_cons_zero, Option.some.injEq] at hi
      subst hi
      refine ⟨hr, g, c1, ?_, hrow.far h2 hlt (Ne.symm hne) (fun x hx => (hr x hx).kp hkw), hnew _ hne hlt, Nat.lt_of_lt_of_le hlt h2.size⟩
      rw [← hl, List.getElem?_append_right (Nat.le_refl _), Nat.sub_self]; rfl
/-- the slices that OwnR shows, as cells -/
theorem OwnR.value {wb w : World} {v : Value} {us : List Value} {rows : List (List RD)} (h : OwnR wb w v us rows) (hpos : 0 < rows.length) : ∃ b c, v = .slice (some ⟨b, 0, none⟩) rows.length c ∧ ∀ (i : Nat) (r : List RD), rows[i]? = some r → ∃ g c1, w.cell? ⟨b, i, none⟩ = some (.slice (some ⟨g, 0, none⟩) r.length c1) ∧ RowD w (some ⟨g, 0, none⟩) r := by
  obtain ⟨⟨hl, hk⟩, ⟨_, h3⟩, h4⟩ := h
  rcases h3 with ⟨_, h3⟩ | ⟨b, cap, cur, rfl, hb, hg, hn, hc, hs, ht⟩
  · omega
  · refine ⟨b, cap, by rw [hl], fun i r hi => ?_⟩
    obtain ⟨_, g, c1, h6, h7, _⟩ := h4 i r hi
    refine ⟨g, c1, ?_, h7⟩
    have hil : i < us.length := (List.getElem?_eq_some_iff.1 h6).1
    rw [cell_of_row w b _ cur _ _ hg]
    have h5 : (cur.toList.take (us.length * 1))[i]? = some (.slice (some ⟨g, 0, none⟩) r.length c1) := by rw [ht]; exact h6
    rw [List.getElem?_take, if_pos (by omega)] at h5
    simpa using h5
end Go.Proofs.YtkohlmlmoapedaaDoor
end

section
namespace Go.Proofs.YtkohlmlmoapedaaDoor
open Go.RowKit

/-- the corner with the number k -/
def cornF : List RI → Nat → List RD
  | [], _ => []
  | x :: zs, k => (if k % 2 = 1 then x.hi else x.lo) :: cornF zs (k / 2)
theorem cornF_len (zs : List RI) (k : Nat) : (cornF zs k).length = zs.length := by
  induction zs generalizing k with
  | nil => rfl
  | cons x zs ih => simp [cornF, ih]
theorem cornF_get {zs : List RI} {i : Nat} {x : RI} (h : zs[i]? = some x) (k : Nat) : (cornF zs k)[i]? = some (if k / 2 ^ i % 2 = 1 then x.hi else x.lo) := by
  induction zs generalizing i k with
  | nil => simp at h
  | cons z zs ih =>
    cases i with
    | zero =>
      simp only [List.getElem?_cons_zero, Option.some.injEq] at h
      subst h
      simp [cornF]
    | succ i =>
      rw [List.getElem?_cons_succ] at h
      rw [cornF, List.getElem?_cons_succ, ih h, Nat.pow_succ, Nat.mul_comm, Nat.div_div_eq_div_mul]
theorem range_snoc {α : Type} (f : Nat → α) (k : Nat) : (List.range (k + 1)).map f = (List.range k).map f ++ [f k] := by rw [List.range_succ, List.map_append]; rfl
theorem and_one : ∀ n : Fin 17, (Go.bits BinOp.and IntKind.i64 ((n.val : Nat) : Int) 1 == 1) = decide (n.val % 2 = 1) := by decide +kernel
theorem bit_test {k j : Nat} (hk : k ≤ 16) : (Go.bits BinOp.and IntKind.i64 ((k : Int) / 2 ^ j) 1 == 1) = decide (k / 2 ^ j % 2 = 1) := by
  have e : ((k : Int) / 2 ^ j) = ((k / 2 ^ j : Nat) : Int) := by rw [Int.natCast_ediv, Int.natCast_pow]; rfl
  rw [e]
  have := Nat.div_le_self k (2 ^ j)
  exact and_one ⟨k / 2 ^ j, by omega⟩
theorem take_get {α : Type} {L : List α} {j : Nat} {x : α} (h : L[j]? = some x) : L.take (j + 1) = L.take j ++ [x] := by
  obtain ⟨h1, rfl⟩ := List.getElem?_eq_some_iff.1 h
  rw [List.take_succ_eq_append_getElem h1]
set_option maxRecDepth 100000 in
set_option maxHeartbeats 8000000 in
theorem Corners_ok (a : Option Addr) (zs : List RI) (c : Nat) (w : World) (h : RowI w a zs) (hv : vlB zs = true) (h4 : zs.length ≤ 4) :
    Calls Tryd.prog 17 #[.slice a zs.length c] w fun e w' => ∃ v us, e = .returned v ∧ OwnR w w' v us ((List.range (2 ^ zs.length)).map (cornF zs)) := by
  have Hv := Lib.hid hv
  have hpos := (vlB_iff.1 hv).1
  have hl8 := vlB_len hv
  clear hv
  have hBV := BValid_any a zs c w h (by omega)
  rw [Hv.out] at hBV
  go_enter Tryd.func17, Tryd.ntmps17
  go_wp2_with fail
  refine hBV.mono ?_
  rintro e w1 ⟨rfl, hk1⟩
  clear hBV
  have h44 : ¬ (4 : Int) < (zs.length : Int) := by omega
  have h45 : ¬ 4 < zs.length := by omega
  go_wp2_with fail
  obtain ⟨M, hM, hM1⟩ : ∃ M : Nat, M = 2 ^ zs.length ∧ M ≤ 16 := ⟨_, rfl, by
    have : 2 ^ zs.length ≤ 2 ^ 4 := Nat.pow_le_pow_right (by decide) h4
    simpa using this⟩
  have hpow : wrap64 ((2 : Int) ^ zs.length) = (M : Int) := by
    have : ((2 : Int) ^ zs.length) = (M : Int) := by rw [hM, Int.natCast_pow]; rfl
    rw [this]
    unfold wrap64
    omega

  have HM := Lib.hid hM
  clear hM
  rw [hpow]
  clear hpow
  go_loopw [3, 19] (fun v x wr => ∃ (k : Nat) (us : List Value), k ≤ M ∧ x = .int .i64 k ∧ OwnR w wr v us ((List.range k).map (cornF zs))) (fun _ x _ => M - (intOf x).toNat)
  case atStart => exact ⟨0, [], by omega, rfl, OwnR.nil hk1⟩
  case round =>
    obtain ⟨k, us, hk, rfl, hown⟩ := hrel
    by_cases hlt : k < M
    · have hki : (k : Int) < (M : Int) := by omega
      go_wp2_with fail
      obtain ⟨wo, hwo⟩ : ∃ wo : World, wo = wr := ⟨_, rfl⟩
      subst hwo
      go_loopw [5, 24] (fun v y wi => ∃ j : Nat, j ≤ zs.length ∧ y = .int .i64 j ∧ OwnD wo wi v ((cornF zs k).take j)) (fun _ y _ => zs.length - (intOf y).toNat)
      case atStart => exact ⟨0, by omega, rfl, OwnD.nil (Kp.refl _)⟩
      case round =>
        obtain ⟨j, hj, rfl, hin⟩ := hrel
        have hkw := hown.1.2.trans hin.1.2
        obtain ⟨L, hL⟩ : ∃ L, L = (cornF zs k).take j := ⟨_, rfl⟩
        rw [← hL] at hin
        have hlen8 : L.length + 1 ≤ 9000000 := by rw [hL]; simp; omega
        have HL := Lib.hid hL
        clear hL
        by_cases hlt2 : j < zs.length
        · obtain ⟨b2, o2, e2, hyw, j0, j1, j2, j3, j4, j5, j6⟩ := (h.kp hkw) j (zs[j]) (List.getElem?_eq_getElem hlt2)
          subst e2
          have hyo := (h.kp hown.1.2).rd (List.getElem_mem hlt2)
          have Hg := Lib.hid (cornF_get (List.getElem?_eq_getElem hlt2) k)
          generalize zs[j] = x at *
          have hi1 : (0 : Int) ≤ (j : Int) := by omega
          have hi2 : (j : Int) < (zs.length : Int) := by omega
          clear h
          have hbt := bit_test (k := k) (j := j) (by omega)
          by_cases hb : k / 2 ^ j % 2 = 1
          · rw [decide_eq_true hb] at hbt
            have Hs := Lib.hid (take_get (Hg.out.trans (congrArg some (if_pos hb))))
            clear hb
            go_wp2_with (at_builtin; refine wpList_append_dyd rfl _ _ rfl wo _ _ rfl (hin.kp (((Kp.refl wr).alloc (.cells #[.bool x.lo.neg, .slice x.lo.a x.lo.xs.length x.lo.c, .int .i64 x.lo.e, .bool x.hi.neg, .slice x.hi.a x.hi.xs.length x.hi.c, .int .i64 x.hi.e, .bool x.all] 39)).alloc (.cells #[.bool x.hi.neg, .slice x.hi.a x.hi.xs.length x.hi.c, .int .i64 x.hi.e] 36))) _ _ rfl x.hi hyo.2 (by simp) hlen8 ?_; intro a' c' w5 hown5 hb5)
            go_roundw
            case rel => exact ⟨j + 1, by omega, by go_num, by rw [Hs.out, ← HL.out]; exact hown5⟩
            case measure => simp [intOf]; omega
          · rw [decide_eq_false hb] at hbt
            have Hs := Lib.hid (take_get (Hg.out.trans (congrArg some (if_neg hb))))
            clear hb
            go_wp2_with (at_builtin; refine wpList_append_dyd rfl _ _ rfl wo _ _ rfl (hin.kp (((Kp.refl wr).alloc (.cells #[.bool x.lo.neg, .slice x.lo.a x.lo.xs.length x.lo.c, .int .i64 x.lo.e, .bool x.hi.neg, .slice x.hi.a x.hi.xs.length x.hi.c, .int .i64 x.hi.e, .bool x.all] 39)).alloc (.cells #[.bool x.lo.neg, .slice x.lo.a x.lo.xs.length x.lo.c, .int .i64 x.lo.e] 36))) _ _ rfl x.lo hyo.1 (by simp) hlen8 ?_; intro a' c' w5 hown5 hb5)
            go_roundw
            case rel => exact ⟨j + 1, by omega, by go_num, by rw [Hs.out, ← HL.out]; exact hown5⟩
            case measure => simp [intOf]; omega
        · have hLk : L = cornF zs k := by rw [HL.out, List.take_of_length_le (by rw [cornF_len]; omega)]
          have hLlen : L.length = zs.length := by rw [hLk, cornF_len]
          obtain ⟨g, c1, e1, hg1, hg2, hrow⟩ := hin.block (by omega)
          subst e1
          have hown2 := (hown.kp hin.1.2).kp ((Kp.refl wr).alloc (.cells #[.slice (some ⟨g, 0, none⟩) L.length c1] 31))
          have hlt3 : g < (wr.alloc (.cells #[.slice (some ⟨g, 0, none⟩) L.length c1] 31)).heap.size := by simp; omega
          have hrow2 := hrow.kp ((Kp.refl wr).alloc (.cells #[.slice (some ⟨g, 0, none⟩) L.length c1] 31))
          have hne : u3.ownBlock ≠ some g := fun e => by
            have := (hown.2.1.lt g e).2; omega
          have hrd : ∀ x, x ∈ L → x.rd w := fun x hx => by
            rw [hLk] at hx
            obtain ⟨i, hi⟩ := List.getElem?_of_mem hx
            have hil : i < zs.length := by have := (List.getElem?_eq_some_iff.1 hi).1; rwa [cornF_len] at this
            rw [cornF_get (List.getElem?_eq_getElem hil)] at hi
            cases hi
            have := h.rd (List.getElem_mem hil)
            split
            · exact this.2
            · exact this.1
          have hul : us.length + 1 ≤ 9000000 := by rw [hown.1.1]; simp; omega
          have HLk := Lib.hid hLk
          have Hrs := Lib.hid (range_snoc (cornF zs) k)
          clear hLk hLlen
          go_wp2_with (at_builtin; refine wpList_append_row rfl _ _ rfl w _ us _ rfl hown2 _ _ rfl g c1 L hrd hrow2 hne hlt3 (by simp) hul ?_; intro v' w5 hown5 hb5)
          go_roundw
          case rel => exact ⟨k + 1, _, by omega, by go_num, by rw [Hrs.out, ← HLk.out]; exact hown5⟩
          case measure => simp [intOf]; omega
    · have hke : k = M := by omega
      subst hke
      go_wp2
      go_ret
      rw [← HM.out]
      exact ⟨_, us, rfl, hown⟩
end Go.Proofs.YtkohlmlmoapedaaDoor
end

section
namespace Go.Proofs.YtkohlmlmoapedaaDoor
open Go.RowKit

/-- a whole number -/
def dyN (n : Nat) : Dy := canon false n 0
theorem dyN_ok {n : Nat} (h : n ≤ 1000000) : (dyN n).ok := by
  unfold dyN
  by_cases h0 : n = 0
  · subst h0; exact Dy.ok_zero
  have hb : bits n ≤ 20 := bits_le.2 (by omega)
  have hb1 := bits_oddp h0
  have hp := bits_pos (oddp_ne_zero h0)
  refine (canon_ok_iff _ _ _).2 (.inr ?_)
  rw [show (canon false n 0).m = oddp n by unfold canon; rw [if_neg h0], show (canon false n 0).e = (0 : Int) + tz n by unfold canon; rw [if_neg h0]]
  omega
theorem dyN_iv (n : Nat) : ∃ k : Nat, k = ((0 : Int) + 16384).toNat ∧ (dyN n).iv = ((n * 2 ^ k : Nat) : Int) := ⟨_, rfl, canon_iv false n 0 (by decide)⟩
theorem dyN_mono {m n : Nat} (h : m ≤ n) : (dyN m).iv ≤ (dyN n).iv := by
  obtain ⟨k, hk, e⟩ := dyN_iv n
  obtain ⟨j, hj, f⟩ := dyN_iv m
  rw [e, f, hj, ← hk]
  have := Nat.mul_le_mul_right (2 ^ k) h
  omega
theorem awake1_num (n : Nat) (w : World) (hn : n ≤ 1000000) :
    Calls Tryd.prog 15 #[.int .i64 n] w (NumOut w (dyN n)) := by
  refine (awake1_any n w (by omega)).mono fun e w' h => ?_
  obtain ⟨a, c, h1, h2, h3, h4, h5⟩ := h
  exact ⟨rdOf (dyN n) a c, h1, rdOf_rd (dyN_ok hn) h2 h3 h4, rdOf_dy _ _ _, fun hd => rdOf_vl hd _ _, h5⟩
theorem oddp_one : oddp 1 = 1 := oddp_odd rfl
theorem tz_one : tz 1 = 0 := tz_odd rfl
theorem bits_one : bits 1 = 1 := bits_two_pow 0
theorem canon_one (e : Int) : canon false 1 e = ⟨false, 1, e⟩ := by
  unfold canon
  rw [if_neg (by decide), oddp_one, tz_one]; simp
theorem dyN_one : dyN 1 = ⟨false, 1, 0⟩ := canon_one 0
theorem limbs_one : limbs 1 = [1] := by rw [limbs_pos (by decide), limbs_zero]
/-- a half -/
def dyH : Dy := ⟨false, 1, -1⟩
theorem dyH_ok : dyH.ok := .inr ⟨rfl, by show bits 1 ≤ 4096; rw [bits_one]; decide, by decide, by decide, by show (bits 1 : Int) + -1 ≤ 16384; rw [bits_one]; decide⟩
theorem rcut_one : rcut 1 0 false 8 false = some (dyN 1) := by
  have hu : runit 1 0 8 = -7 := by unfold runit; rw [bits_one]; decide
  have hq : rq 1 0 false 8 false = 2 ^ 7 := by
    unfold rq
    rw [hu]
    simp only [Bool.false_and, Bool.false_eq_true, if_false]
    unfold rlow
    rw [if_pos (by decide)]; decide
  unfold rcut
  rw [hu, hq, bits_two_pow, if_neg (by decide)]
  have := canon_shift false 1 7 (-7)
  rw [Nat.one_mul] at this
  rw [this]; rfl
theorem chk_half : chk (canon (dyN 1).neg (dyN 1).m ((dyN 1).e + -1)) = (dyH, 0) := by
  rw [dyN_one]
  show chk (canon false 1 (0 + -1)) = _
  rw [canon_one]
  exact chk_of_ok dyH_ok
theorem iv_false (m : Nat) (e : Int) : Dy.iv ⟨false, m, e⟩ = ((m * 2 ^ (e + 16384).toNat : Nat) : Int) := rfl
theorem half_iv : 0 ≤ dyH.iv ∧ dyH.iv ≤ (dyN 1).iv := by
  obtain ⟨k, hk, e⟩ := dyN_iv 1
  obtain ⟨j, hj⟩ : ∃ j : Nat, j = ((-1 : Int) + 16384).toNat := ⟨_, rfl⟩
  have h : dyH.iv = ((1 * 2 ^ j : Nat) : Int) := by unfold dyH; rw [iv_false, hj]
  have hjk : j ≤ k := by rw [hk, hj]; decide
  have := Nat.pow_le_pow_right (n := 2) (by decide) hjk
  rw [h, e]
  clear h e hk hj
  omega
theorem eqR_of {w w' : World} {x y : RD} (hx : x.rd w) (hy : y.rd w') (vx : x.vl = true) (vy : y.vl = true) (h : x.dy = y.dy) : eqR x y = true := by
  unfold eqR
  have h1 : x.neg = y.neg := congrArg Dy.neg h
  have h2 : x.e = y.e := congrArg Dy.e h
  have h3 : x.xs = y.xs := by rw [← RD.limbs hx vx, ← RD.limbs hy vy, h]
  simp [h1, h2, h3]
end Go.Proofs.YtkohlmlmoapedaaDoor
end
