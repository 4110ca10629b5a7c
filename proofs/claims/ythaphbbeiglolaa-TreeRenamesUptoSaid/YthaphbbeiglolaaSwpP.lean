/-
  Trees that are built of others: which blocks they keep off; the reference's Swap, plain.
-/
import Derived.Maps.AppendAt
import Derived.Test.YthaphbbeiglolaaRFlN
namespace Go.Proofs.Ythaphbbeiglolaa
open Go.RowKit Go.Sort

/-- all blocks in which elements lie have the property -/
def Ex.off (P : Nat → Prop) (e : Ex) : Prop := ∀ x ∈ e.flat, x.l ≠ [] → ∀ ad, x.a = some ad → P ad.block
theorem Ex.off_self {P : Nat → Prop} {e : Ex} (h : e.off P) (hl : e.l ≠ []) : ∀ ad, e.a = some ad → P ad.block := h e (flat_self e) hl
theorem Ex.off_child {P : Nat → Prop} {e x : Ex} (h : e.off P) (hx : x ∈ e.l) : x.off P := fun y hy => h y (flat_child hx hy)
theorem Ex.off_mono {P Q : Nat → Prop} {e : Ex} (h : e.off P) (hPQ : ∀ b, P b → Q b) : e.off Q := fun x hx hl ad ha => hPQ _ (h x hx hl ad ha)
theorem Ex.off_and {P Q : Nat → Prop} {e : Ex} (h : e.off P) (h2 : e.off Q) : e.off fun b => P b ∧ Q b := fun x hx hl ad ha => ⟨h x hx hl ad ha, h2 x hx hl ad ha⟩
theorem Ex.off_node {P : Nat → Prop} {k r d p : Int} {s : ByteArray} {a : Option Addr} {c : Nat} {l : List Ex} (h1 : l ≠ [] → ∀ ad, a = some ad → P ad.block) (h2 : ∀ x ∈ l, x.off P) : (Ex.mk k r d s p a c l).off P := by
  intro x hx hl ad ha
  rw [Ex.flat_eq] at hx
  rcases List.mem_cons.1 hx with rfl | hx
  · exact h1 hl ad ha
  · obtain ⟨y, hy, hx⟩ := flatL_of hx
    exact h2 y hy x hx hl ad ha
theorem at_off {w w' : World} {B : Nat} {P : Nat → Prop} (hc : ∀ b i v, b < B → P b → w.cell? ⟨b, i, none⟩ = some v → w'.cell? ⟨b, i, none⟩ = some v) : ∀ e : Ex, e.at w B → e.off P → e.at w' B := by
  refine Ex.ind fun e ih h ho => ?_
  obtain ⟨h1, h2, h3⟩ := Ex.at_iff.1 h
  refine Ex.at_iff.2 ⟨h1, fun i x hx => ?_, fun x hx => ih x hx (h3 x hx) (Ex.off_child (P := P) ho hx)⟩
  obtain ⟨b, o, ha, hb, c0, c1, c2, c3, c4, c5⟩ := h2 i x hx
  have hP : P b := Ex.off_self (P := P) ho (fun e0 => by rw [e0] at hx; simp at hx) _ ha
  exact ⟨b, o, ha, hb, hc _ _ _ hb hP c0, hc _ _ _ hb hP c1, hc _ _ _ hb hP c2, hc _ _ _ hb hP c3, hc _ _ _ hb hP c4, hc _ _ _ hb hP c5⟩
theorem at_lt {w : World} {B : Nat} {e : Ex} (h : e.at w B) : e.off fun b => b < B := by
  intro x hx hl ad ha
  obtain ⟨_, h2, _⟩ := Ex.at_iff.1 (flat_at e h x hx)
  cases hxl : x.l with
  | nil => exact absurd hxl hl
  | cons y t =>
    obtain ⟨b, o, ha2, hb, _⟩ := h2 0 y (by rw [hxl]; rfl)
    rw [ha] at ha2
    cases ha2
    exact hb
theorem at_grow {w : World} {B B' : Nat} {e : Ex} (hB : B ≤ B') (h : e.at w B) : e.at w B' := Ex.same hB (fun _ _ _ _ h => h) e h
theorem cell_below {lo : Nat} {w w' : World} (h : Below lo w w') {b : Nat} (hb : b < lo) (i : Nat) : w'.cell? ⟨b, i, none⟩ = w.cell? ⟨b, i, none⟩ := by
  unfold World.cell?
  rw [h.block b hb]
theorem frozen_below {lo : Nat} {w w' : World} (h : Below lo w w') {b : Nat} (hb : b < lo) (i : Nat) : w'.frozen? ⟨b, i, none⟩ = w.frozen? ⟨b, i, none⟩ := by
  unfold World.frozen?
  rw [h.block b hb]
theorem BoxX.below {lo : Nat} {w w' : World} {g : Nat} {x : Ex} (h : BoxX w g x) (hb : Below lo w w') (hg : g < lo) : BoxX w' g x := by
  obtain ⟨⟨q0, q1, q2, q3, q4, q5⟩, hf, hl⟩ := h
  exact ⟨⟨(cell_below hb hg 0).trans q0, (cell_below hb hg 1).trans q1, (cell_below hb hg 2).trans q2, (cell_below hb hg 3).trans q3, (cell_below hb hg 4).trans q4, (cell_below hb hg 5).trans q5⟩, fun i => (frozen_below hb hg i).trans (hf i), Nat.lt_of_lt_of_le hl hb.size⟩
/-- the elements made so far: an own slice from block lo on, the trees in it in blocks of the arguments (below B) or own ones, none in the slice's own block -/
def SwpS (w0 : World) (B lo : Nat) (w : World) (v : Value) (xs : List Ex) : Prop :=
  Kp w0 w ∧ w.ownsRow lo 26 6 v xs.length (xs.flatMap Ex.cells) ∧ ∀ x ∈ xs, x.at w w.heap.size ∧ x.off fun b => b < B ∨ (lo ≤ b ∧ v.ownBlock ≠ some b)
theorem owns_kp {w w' : World} {base : Nat} {e : TypeId} {size n : Nat} {xs : List Value} {v : Value} (h : w.ownsRow base e size v n xs) (k : Kp w w') : w'.ownsRow base e size v n xs := by
  refine ⟨h.1, ?_⟩
  rcases h.2 with h3 | ⟨g, cap, cur, h4, hb, hg, hr⟩
  · exact .inl h3
  · exact .inr ⟨g, cap, cur, h4, hb, by rw [k.below.block g (Array.getElem?_eq_some_iff.1 hg).1]; exact hg, hr⟩
theorem SwpS.kp {w0 w w' : World} {B lo : Nat} {v : Value} {xs : List Ex} (h : SwpS w0 B lo w v xs) (k : Kp w w') : SwpS w0 B lo w' v xs :=
  ⟨h.1.trans k, owns_kp h.2.1 k, fun x hx => ⟨at_grow k.size (Ex.at_kp (h.2.2 x hx).1 k), (h.2.2 x hx).2⟩⟩
theorem SwpS.nil {w0 w : World} {B lo : Nat} (k : Kp w0 w) : SwpS w0 B lo w (.slice none 0 0) [] := ⟨k, World.ownsRow_nil _ _ _ _, fun x hx => by simp at hx⟩
theorem SwpS.put {w0 w : World} {B lo g i : Nat} {v : Value} {xs : List Ex} (h : SwpS w0 B lo w v xs) (h0 : w0.heap.size ≤ g) (hB : B ≤ g) (hg : g < lo) (u : Value) : SwpS w0 B lo (w.setCell ⟨g, i, none⟩ u) v xs := by
  refine ⟨h.1.set h0 u, ownsRow_setCell_below h.2.1 hg u, fun x hx => ⟨?_, (h.2.2 x hx).2⟩⟩
  rw [World.size_setCell]
  refine at_off (P := fun b => b < B ∨ (lo ≤ b ∧ v.ownBlock ≠ some b)) (fun b j z _ hP hc => ?_) x (h.2.2 x hx).1 (h.2.2 x hx).2
  rw [cellset_ne (fun e => by injection e with e1; rcases hP with hP | hP <;> omega)]
  exact hc
theorem SwpS.app {w0 w w' : World} {B lo : Nat} {v v' : Value} {xs : List Ex} {y : Ex} (h : SwpS w0 B lo w v xs) (hB : B ≤ lo) (h0 : w0.heap.size ≤ lo) (hlo : lo ≤ w.heap.size)
    (hy : y.at w w.heap.size) (hyo : y.off fun b => b < B ∨ (lo ≤ b ∧ v.ownBlock ≠ some b))
    (hown : w'.ownsRow lo 26 6 v' (xs.length + 1) (xs.flatMap Ex.cells ++ y.cells)) (hg : w.grownBy w' v.ownBlock) (hv : v'.ownBlock = v.ownBlock ∨ v'.ownBlock = some w.heap.size) : SwpS w0 B lo w' v' (xs ++ [y]) := by
  have hlt := fun k hk => (h.2.1.lt k hk).1
  have hb : Below w0.heap.size w w' := (Below.refl w0.heap.size w).grown hg (by omega) (fun k hk => Nat.le_trans h0 (hlt k hk))
  refine ⟨Below.trans h.1 hb, by rw [List.length_append, List.flatMap_append]; simpa using hown, fun x hx => ?_⟩
  have hx' : x.at w w.heap.size ∧ x.off fun b => b < B ∨ (lo ≤ b ∧ v.ownBlock ≠ some b) := by
    rcases List.mem_append.1 hx with hx | hx
    · exact h.2.2 x hx
    · simp only [List.mem_singleton] at hx
      subst hx
      exact ⟨hy, hyo⟩
  have hne : ∀ b, (b < B ∨ (lo ≤ b ∧ v.ownBlock ≠ some b)) → some b ≠ v.ownBlock := fun b hP e => by
    rcases hP with hP | hP
    · have := hlt b e.symm; omega
    · exact hP.2 e.symm
  refine ⟨at_grow hg.size (at_off (fun b i z hbz hP hc => ?_) x hx'.1 hx'.2), Ex.off_mono (Ex.off_and hx'.2 (at_lt hx'.1)) fun b hP => ?_⟩
  · have := hg.block b hbz (hne b hP)
    unfold World.cell? at hc ⊢
    rw [this]
    exact hc
  · rcases hP.1 with h1 | h1
    · exact .inl h1
    · refine .inr ⟨h1.1, fun e => ?_⟩
      rcases hv with hv | hv
      · rw [hv] at e; exact h1.2 e
      · rw [hv] at e
        injection e with e
        have := hP.2
        omega
theorem step_append_swp {w : World} {ops : Array Oper} {o : Oper} {a : Act} {K : Act → World → Prop} {Q : Exit → Act → World → Prop} {E : Prop} (hgd : o.guard = none) (s x : Operand)
    (ho : o.op = .call { callee := .builtin .append, args := #[s, x], argTypes := #[24, 24] })
    (w0 : World) (B lo : Nat) (v : Value) (xs : List Ex) (hs : a.eval s = v) (h : SwpS w0 B lo w v xs) (hB : B ≤ lo) (h0 : w0.heap.size ≤ lo) (hlo : lo ≤ w.heap.size)
    (g c : Nat) (hx : a.eval x = .slice (some ⟨g, 0, none⟩) 1 c) (y : Ex) (hy : y.at w w.heap.size) (hyo : y.off fun b => b < B ∨ (lo ≤ b ∧ v.ownBlock ≠ some b))
    (hcell : w.cell? ⟨g, 0, none⟩ = some (.int .i64 y.kind) ∧ w.cell? ⟨g, 1, none⟩ = some (.int .i64 y.rn) ∧ w.cell? ⟨g, 2, none⟩ = some (.int .i64 y.rd) ∧ w.cell? ⟨g, 3, none⟩ = some (.string y.name) ∧ w.cell? ⟨g, 4, none⟩ = some (.int .i64 y.pw) ∧ w.cell? ⟨g, 5, none⟩ = some (.slice y.a y.l.length y.c)) (hlen : xs.length + 1 ≤ 9000000)
    (hK : ∀ g' c' w', SwpS w0 B lo w' (.slice (some ⟨g', 0, none⟩) (xs.length + 1) c') (xs ++ [y]) → Below lo w w' → K (a.put o.dst (.slice (some ⟨g', 0, none⟩) (xs.length + 1) c')) w') :
    if Region.wanted o (yielded ops a.tmps) = true then Oper.wp Try.prog o a w K Q else E := by
  have hw : Region.wanted o (yielded ops a.tmps) = true := by simp [Region.wanted, hgd]
  rw [if_pos hw]
  obtain ⟨i0, hi, hz0, hz1, hz2⟩ := info_parts infoExp
  obtain ⟨v', w', hr, h1, h2, _, h3⟩ := run_append_own_at (P := Try.prog) w lo 24 o.type 26 i0 _ 6 72 Try.underlying24 hi hz0 hz1 hz2 rfl (by decide) v xs.length (xs.flatMap Ex.cells) h.2.1
    ⟨g, 0, none⟩ 1 c y.cells rfl (by
      intro j u hj
      obtain ⟨q0, q1, q2, q3, q4, q5⟩ := hcell
      match j, hj with
      | 0, hj => cases hj; simpa [Addr.add] using q0
      | 1, hj => cases hj; simpa [Addr.add] using q1
      | 2, hj => cases hj; simpa [Addr.add] using q2
      | 3, hj => cases hj; simpa [Addr.add] using q3
      | 4, hj => cases hj; simpa [Addr.add] using q4
      | 5, hj => cases hj; simpa [Addr.add] using q5
      | j + 6, hj => simp [Ex.cells] at hj) (by
      intro u hu
      simp only [Ex.cells, List.mem_cons, List.not_mem_nil, or_false] at hu
      rcases hu with rfl | rfl | rfl | rfl | rfl | rfl <;> rfl) (by unfold maxLen; omega) (by omega) hlo
  have hS := h.app hB h0 hlo hy hyo h1 h2 h3
  have hb : Below lo w w' := (Below.refl lo w).grown h2 hlo (fun k hk => (h.2.1.lt k hk).1)
  obtain ⟨a', c', rfl, _, _, hr3⟩ := rowC_of hS.2.1 (show (xs ++ [y]).length = xs.length + 1 by rw [List.length_append]; rfl)
  rcases hr3 with hr3 | ⟨g', rfl, _⟩
  · exact absurd hr3 (by simp)
  · unfold Oper.wp execOp
    simp only [ho, resolve, invoke, builtin, Sem.run_bind, Sem.run_pure, Result.andThen_ok, List.map_toArray, List.map_cons, List.map_nil, hs, hx, hr]
    exact hK g' c' w' hS hb
/-- the first pair's tree -/
def lukF : List ByteArray → List Ex → ByteArray → Option Ex
  | n :: ns, y :: ys, s => if n = s then some y else lukF ns ys s
  | _, _, _ => none
theorem lukF_one (s : ByteArray) (y : Ex) : lukF [s] [y] = oneS s y := by
  funext n
  unfold lukF oneS
  by_cases h : n = s
  · rw [if_pos h, if_pos h.symm]
  · rw [if_neg h, if_neg (fun e => h e.symm)]; rfl
theorem lukF_hit : ∀ (ns : List ByteArray) (ys : List Ex) (i : Nat) (s : ByteArray) (y : Ex), (∀ j n, j < i → ns[j]? = some n → n ≠ s) → ns[i]? = some s → ys[i]? = some y → lukF ns ys s = some y
  | n :: ns, z :: ys, 0, s, y, _, h1, h2 => by
    cases h1; cases h2
    exact if_pos rfl
  | n :: ns, z :: ys, i + 1, s, y, h, h1, h2 => by
    show (if n = s then some z else lukF ns ys s) = some y
    rw [if_neg (h 0 n (by omega) rfl)]
    exact lukF_hit ns ys i s y (fun j m hj hm => h (j + 1) m (by omega) hm) h1 h2
  | [], _, _, _, _, _, h1, _ => by simp at h1
  | _ :: _, [], _, _, _, _, _, h2 => by simp at h2
theorem lukF_miss : ∀ (ns : List ByteArray) (ys : List Ex) (s : ByteArray), (∀ (j : Nat) (n : ByteArray), ns[j]? = some n → n ≠ s) → lukF ns ys s = none
  | [], _, _, _ => by unfold lukF; rfl
  | _ :: _, [], _, _ => by unfold lukF; rfl
  | n :: ns, z :: ys, s, h => by
    show (if n = s then some z else lukF ns ys s) = none
    rw [if_neg (h 0 n rfl)]
    exact lukF_miss ns ys s fun j m hm => h (j + 1) m hm
end Go.Proofs.Ythaphbbeiglolaa
