/-
  Walks: slices.Clone of trees; tree.clone.
-/
import Derived.Test.YthaphbbeiglolaaDepN
import Derived.Test.YthaphbbeiglolaaTreO
namespace Go.Proofs.Ythaphbbeiglolaa
open Go.RowKit Go.Sort

theorem infoExp : (Try.prog.info? 26).map (fun i => (i.zero, i.size, i.bytes)) = some (some (.agg #[.int .i64 0, .int .i64 0, .int .i64 0, .string ByteArray.empty, .int .i64 0, .slice none 0 0]), 6, 72) := by kernel_rfl
theorem nil_exp (w : World) (a : Option Addr) (n c n' c' : Nat) : (binOp .eql 24 (.slice a n c) (.slice none n' c')).run Try.prog w = .ok (.bool a.isNone) w :=
  Lib.run_eql_slice_nil w _ _ a n c n' c' Try.underlying24
/-- what an own row of trees shows -/
theorem rowC_of {w : World} {base n : Nat} {v : Value} {xs : List Ex} (h : w.ownsRow base 26 6 v xs.length (xs.flatMap Ex.cells)) (hn : xs.length = n) :
    ∃ a c, v = .slice a n c ∧ n ≤ c ∧ c ≤ maxLen ∧ (xs = [] ∨ ∃ g, a = some ⟨g, 0, none⟩ ∧ base ≤ g ∧ RowC w g xs) := by
  subst hn
  obtain ⟨h2, h3⟩ := h
  rcases h3 with ⟨rfl, h3⟩ | ⟨g, cap, cur, rfl, hb, hg, hn, hc, hs, ht⟩
  · have h0 : xs = [] := List.length_eq_zero_iff.1 h3
    subst h0
    exact ⟨none, 0, rfl, Nat.le_refl _, by decide, .inl rfl⟩
  · refine ⟨_, _, rfl, hn, hc, .inr ⟨g, rfl, hb, fun i x hi => ?_, fun i _ => frozen_of_row w g i cur _ hg, (Array.getElem?_eq_some_iff.1 hg).1⟩⟩
    have hil : i < xs.length := (List.getElem?_eq_some_iff.1 hi).1
    have key (j : Nat) (hj : j < 6) (u : Value) (hu : x.cells[j]? = some u) : w.cell? ⟨g, i * 6 + j, none⟩ = some u := by
      rw [cell_of_row w g _ cur _ _ hg]
      have h5 : (cur.toList.take (xs.length * 6))[i * 6 + j]? = some u := by rw [ht, flatX_get hi hj, hu]
      rw [List.getElem?_take, if_pos (by omega)] at h5
      simpa using h5
    exact ⟨key 0 (by decide) _ rfl, key 1 (by decide) _ rfl, key 2 (by decide) _ rfl, key 3 (by decide) _ rfl, key 4 (by decide) _ rfl, key 5 (by decide) _ rfl⟩
/-- append of trees that are read to the call's own slice -/
theorem wpList_append_exs {w : World} {ops : Array Oper} {rest : List Oper} {o : Oper} {a : Act} {Q : Exit → Act → World → Prop} (hgd : o.guard = none) (s x : Operand)
    (ho : o.op = .call { callee := .builtin .append, args := #[s, x], argTypes := #[24, 24] })
    (base : Nat) (v : Value) (zs : List Ex) (hs : a.eval s = v) (hown : w.ownsRow base 26 6 v zs.length (zs.flatMap Ex.cells)) (hbase : base ≤ w.heap.size)
    (ad : Addr) (B c : Nat) (ys : List Ex) (hx : a.eval x = .slice (some ad) ys.length c)
    (hrow : RowX w B (some ad) ys) (hlen : zs.length + ys.length ≤ 9000000)
    (h : ∀ v' w', w'.ownsRow base 26 6 v' (zs ++ ys).length ((zs ++ ys).flatMap Ex.cells) → Below base w w' → wpList Try.prog ops Q rest (a.put o.dst v') w') :
    wpList Try.prog ops Q (o :: rest) a w := by
  obtain ⟨i0, hi, hz0, hz1, hz2⟩ := info_parts infoExp
  refine wpList_append_own w hgd s x 24 ho base 26 i0 _ 6 72 Try.underlying24 hi hz0 hz1 hz2 rfl (by decide) v zs.length (zs.flatMap Ex.cells) hs hown
    ad ys.length c (ys.flatMap Ex.cells) hx (flatX_len ys) ?_ ?_ (by unfold maxLen; omega) (by omega) hbase ?_
  · intro j u hj
    have hjl : j < ys.length * 6 := by have := (List.getElem?_eq_some_iff.1 hj).1; rwa [flatX_len] at this
    obtain ⟨k, r, hr, rfl⟩ : ∃ k r, r < 6 ∧ j = k * 6 + r := ⟨j / 6, j % 6, Nat.mod_lt _ (by decide), by omega⟩
    have hk : k < ys.length := by omega
    obtain ⟨b', o', e', _, h0, h1, h2, h3, h4, h5⟩ := hrow k ys[k] (List.getElem?_eq_getElem hk)
    cases e'
    rw [flatX_get (List.getElem?_eq_getElem hk) hr] at hj
    rw [Addr.add_lit]
    match r, hr, hj with
    | 0, _, hj => cases hj; exact h0
    | 1, _, hj => cases hj; exact h1
    | 2, _, hj => cases hj; exact h2
    | 3, _, hj => cases hj; exact h3
    | 4, _, hj => cases hj; exact h4
    | 5, _, hj => cases hj; exact h5
    | r + 6, hr, _ => omega
  · intro u hu
    obtain ⟨y, _, hu⟩ := List.mem_flatMap.1 hu
    simp only [Ex.cells, List.mem_cons, List.not_mem_nil, or_false] at hu
    rcases hu with rfl | rfl | rfl | rfl | rfl | rfl <;> rfl
  · intro v' w' h1 h2 _
    have hb : Below base w w' := (Below.refl base w).grown h2 hbase (fun k hk => (hown.lt k hk).1)
    refine h v' w' ?_ hb
    rw [List.flatMap_append, List.length_append]
    exact h1
set_option maxHeartbeats 4000000 in
theorem clonex_any (a : Option Addr) (c B : Nat) (l : List Ex) (w : World) (h : RowX w B a l) (hl : l.length ≤ 1100000) :
    Calls Try.prog 58 #[.slice a l.length c] w fun e w' => ∃ a' c', e = .returned (.slice a' l.length c') ∧ l.length ≤ c' ∧ c' ≤ maxLen ∧ Kp w w' ∧ (l = [] ∨ ∃ g, a' = some ⟨g, 0, none⟩ ∧ w.heap.size ≤ g ∧ RowC w' g l) := by
  have hn := nil_exp
  have hrow := h.kp ((Kp.refl w).alloc (.cells #[] 26))
  cases a with
  | none =>
    have hys : l = [] := by
      cases l with
      | nil => rfl
      | cons x t => obtain ⟨b, o, e, _⟩ := h 0 x rfl; cases e
    subst hys
    clear h hrow
    go_enter Try.func58, Try.ntmps58
    go_wp2_with fail
    go_ret
    exact ⟨none, 0, rfl, Nat.le_refl _, by unfold maxLen; omega, .refl _, .inl (by first | rfl | trivial)⟩
  | some ad =>
    clear h
    go_enter Try.func58, Try.ntmps58
    go_wp2_with (at_builtin; refine wpList_append_exs rfl _ _ rfl w.heap.size _ [] rfl (World.ownsRow_made w #[] 0 (Nat.le_refl _) (Nat.zero_le _) rfl) (by simp) ad B c l rfl hrow (by simp; omega) ?_; intro v' w5 hown5 hb5; rw [List.nil_append] at hown5; obtain ⟨a', c', rfl, hc1, hc2, hr⟩ := rowC_of hown5 rfl)
    go_ret
    exact ⟨a', c', rfl, hc1, hc2, ((Kp.refl w).alloc _).below.trans hb5, hr⟩
theorem cellset_ne {w : World} {g i : Nat} {p : Addr} {v : Value} (h : (⟨g, i, none⟩ : Addr) ≠ p) : (w.setCell ⟨g, i, none⟩ v).cell? p = w.cell? p := by
  rw [World.cell?_setCell_other]; exact h
theorem cellset_eq {w : World} {g i : Nat} {v u : Value} (h : w.cell? ⟨g, i, none⟩ = some u) : (w.setCell ⟨g, i, none⟩ v).cell? ⟨g, i, none⟩ = some v := by
  apply World.cell?_setCell_same; exact h
/-- six cells stored from offset o on -/
def Stored6 (g o : Nat) (x : Ex) (w W : World) : Prop := (W.cell? ⟨g, o, none⟩ = some (.int .i64 x.kind) ∧ W.cell? ⟨g, o + 1, none⟩ = some (.int .i64 x.rn) ∧ W.cell? ⟨g, o + 2, none⟩ = some (.int .i64 x.rd) ∧ W.cell? ⟨g, o + 3, none⟩ = some (.string x.name) ∧ W.cell? ⟨g, o + 4, none⟩ = some (.int .i64 x.pw) ∧ W.cell? ⟨g, o + 5, none⟩ = some (.slice x.a x.l.length x.c)) ∧ (∀ p : Addr, p.block ≠ g ∨ p.off < o ∨ o + 6 ≤ p.off → W.cell? p = w.cell? p) ∧ (∀ p, W.frozen? p = w.frozen? p) ∧ W.heap.size = w.heap.size ∧ ∀ a : World, Kp a w → a.heap.size ≤ g → Kp a W
theorem stored6X {w : World} {g o : Nat} {y : Ex} (x : Ex) (q : w.cell? ⟨g, o, none⟩ = some (.int .i64 y.kind) ∧ w.cell? ⟨g, o + 1, none⟩ = some (.int .i64 y.rn) ∧ w.cell? ⟨g, o + 2, none⟩ = some (.int .i64 y.rd) ∧ w.cell? ⟨g, o + 3, none⟩ = some (.string y.name) ∧ w.cell? ⟨g, o + 4, none⟩ = some (.int .i64 y.pw) ∧ w.cell? ⟨g, o + 5, none⟩ = some (.slice y.a y.l.length y.c)) :
    Stored6 g o x w ((((((w.setCell ⟨g, o, none⟩ (.int .i64 x.kind)).setCell ⟨g, o + 1, none⟩ (.int .i64 x.rn)).setCell ⟨g, o + 2, none⟩ (.int .i64 x.rd)).setCell ⟨g, o + 3, none⟩ (.string x.name)).setCell ⟨g, o + 4, none⟩ (.int .i64 x.pw)).setCell ⟨g, o + 5, none⟩ (.slice x.a x.l.length x.c)) := by
  obtain ⟨q0, q1, q2, q3, q4, q5⟩ := q
  have ne (i j : Nat) (h : i ≠ j) : (⟨g, i, none⟩ : Addr) ≠ ⟨g, j, none⟩ := fun e => h (by injection e)
  refine ⟨⟨?_, ?_, ?_, ?_, ?_, ?_⟩, fun p hp => ?_, fun p => by simp, by simp, fun a k hg => (((((k.set hg _).set hg _).set hg _).set hg _).set hg _).set hg _⟩
  · rw [cellset_ne (ne _ _ (by omega)), cellset_ne (ne _ _ (by omega)), cellset_ne (ne _ _ (by omega)), cellset_ne (ne _ _ (by omega)), cellset_ne (ne _ _ (by omega))]
    exact cellset_eq q0
  · rw [cellset_ne (ne _ _ (by omega)), cellset_ne (ne _ _ (by omega)), cellset_ne (ne _ _ (by omega)), cellset_ne (ne _ _ (by omega))]
    exact cellset_eq (by rw [cellset_ne (ne _ _ (by omega))]; exact q1)
  · rw [cellset_ne (ne _ _ (by omega)), cellset_ne (ne _ _ (by omega)), cellset_ne (ne _ _ (by omega))]
    exact cellset_eq (by rw [cellset_ne (ne _ _ (by omega)), cellset_ne (ne _ _ (by omega))]; exact q2)
  · rw [cellset_ne (ne _ _ (by omega)), cellset_ne (ne _ _ (by omega))]
    exact cellset_eq (by rw [cellset_ne (ne _ _ (by omega)), cellset_ne (ne _ _ (by omega)), cellset_ne (ne _ _ (by omega))]; exact q3)
  · rw [cellset_ne (ne _ _ (by omega))]
    exact cellset_eq (by rw [cellset_ne (ne _ _ (by omega)), cellset_ne (ne _ _ (by omega)), cellset_ne (ne _ _ (by omega)), cellset_ne (ne _ _ (by omega))]; exact q4)
  · exact cellset_eq (by rw [cellset_ne (ne _ _ (by omega)), cellset_ne (ne _ _ (by omega)), cellset_ne (ne _ _ (by omega)), cellset_ne (ne _ _ (by omega)), cellset_ne (ne _ _ (by omega))]; exact q5)
  · have hne (i : Nat) (hi : i < 6) : (⟨g, o + i, none⟩ : Addr) ≠ p := fun e => by
      rw [← e] at hp
      simp only at hp
      omega
    rw [cellset_ne (hne 5 (by omega)), cellset_ne (hne 4 (by omega)), cellset_ne (hne 3 (by omega)), cellset_ne (hne 2 (by omega)), cellset_ne (hne 1 (by omega))]
    exact cellset_ne (hne 0 (by omega))
theorem RowC.stored {w W : World} {g k : Nat} {xs : List Ex} {x y : Ex} (h : RowC w g xs) (hk : xs[k]? = some y) (hs : Stored6 g (k * 6) x w W) : RowC W g (xs.set k x) :=
  h.set hk hs.1 (fun p hp _ => hs.2.1 p hp) hs.2.2.1 hs.2.2.2.1
end Go.Proofs.Ythaphbbeiglolaa
