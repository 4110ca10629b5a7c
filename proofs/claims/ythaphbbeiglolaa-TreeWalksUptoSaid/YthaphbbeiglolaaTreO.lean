/-
  Trees that a call has made: where they lie; own slices of trees.
-/
import Derived.Test.YthaphbbeiglolaaTreM
import Derived.Deep.AppendLies
namespace Go.Proofs.Ythaphbbeiglolaa
open Go.RowKit

/-- the six cells of a node -/
def Ex.cells (x : Ex) : List Value := [.int .i64 x.kind, .int .i64 x.rn, .int .i64 x.rd, .string x.name, .int .i64 x.pw, .slice x.a x.l.length x.c]
theorem Ex.cells_len (x : Ex) : x.cells.length = 6 := rfl
theorem flatX_len (zs : List Ex) : (zs.flatMap Ex.cells).length = zs.length * 6 := by
  induction zs with
  | nil => rfl
  | cons z zs ih => rw [List.flatMap_cons, List.length_append, ih, Ex.cells_len, List.length_cons]; omega
theorem flatX_get {zs : List Ex} {i : Nat} {x : Ex} (h : zs[i]? = some x) {j : Nat} (hj : j < 6) : (zs.flatMap Ex.cells)[i * 6 + j]? = x.cells[j]? := by
  induction zs generalizing i with
  | nil => simp at h
  | cons z zs ih =>
    rw [List.flatMap_cons]
    cases i with
    | zero =>
      simp only [List.getElem?_cons_zero, Option.some.injEq] at h
      subst h
      rw [List.getElem?_append_left (by rw [Ex.cells_len]; omega), Nat.zero_mul, Nat.zero_add]
    | succ i =>
      rw [List.getElem?_cons_succ] at h
      rw [List.getElem?_append_right (by rw [Ex.cells_len]; omega), Ex.cells_len, ← ih h]
      congr 1; omega
mutual
/-- the elements lie in blocks from lo on, below hi, each tree behind the one before it; none is frozen -/
def Ex.own (w : World) : Ex → Nat → Nat → Prop
  | .mk _ _ _ _ _ a _ l, lo, hi => lo ≤ hi ∧ (l = [] ∨ ∃ b, a = some ⟨b, 0, none⟩ ∧ lo ≤ b ∧ (∀ i, i < l.length * 6 → w.frozen? ⟨b, i, none⟩ = false) ∧ Ex.ownL w l (b + 1) hi)
def Ex.ownL (w : World) : List Ex → Nat → Nat → Prop
  | [], lo, hi => lo ≤ hi
  | x :: t, lo, hi => ∃ m, x.own w lo m ∧ Ex.ownL w t m hi
end
theorem Ex.own_iff {w : World} {e : Ex} {lo hi : Nat} : e.own w lo hi ↔ lo ≤ hi ∧ (e.l = [] ∨ ∃ b, e.a = some ⟨b, 0, none⟩ ∧ lo ≤ b ∧ (∀ i, i < e.l.length * 6 → w.frozen? ⟨b, i, none⟩ = false) ∧ Ex.ownL w e.l (b + 1) hi) := by
  cases e; rw [Ex.own]; exact Iff.rfl
theorem Ex.ownL_nil {w : World} {lo hi : Nat} : Ex.ownL w [] lo hi ↔ lo ≤ hi := by rw [Ex.ownL]
theorem Ex.ownL_cons {w : World} {x : Ex} {t : List Ex} {lo hi : Nat} : Ex.ownL w (x :: t) lo hi ↔ ∃ m, x.own w lo m ∧ Ex.ownL w t m hi := by rw [Ex.ownL]
theorem Ex.own_le {w : World} {e : Ex} {lo hi : Nat} (h : e.own w lo hi) : lo ≤ hi := (Ex.own_iff.1 h).1
theorem Ex.ownL_le {w : World} : ∀ {l : List Ex} {lo hi : Nat}, Ex.ownL w l lo hi → lo ≤ hi
  | [], _, _, h => Ex.ownL_nil.1 h
  | _ :: _, _, _, h => by
    obtain ⟨m, h1, h2⟩ := Ex.ownL_cons.1 h
    exact Nat.le_trans (Ex.own_le h1) (Ex.ownL_le h2)
theorem Ex.ownL_up {w : World} : ∀ {l : List Ex} {lo hi hi' : Nat}, (∀ x ∈ l, ∀ lo hi hi', hi ≤ hi' → x.own w lo hi → x.own w lo hi') → hi ≤ hi' → Ex.ownL w l lo hi → Ex.ownL w l lo hi'
  | [], _, _, _, _, hh, h => Ex.ownL_nil.2 (Nat.le_trans (Ex.ownL_nil.1 h) hh)
  | x :: t, _, _, _, hx, hh, h => by
    obtain ⟨m, h1, h2⟩ := Ex.ownL_cons.1 h
    exact Ex.ownL_cons.2 ⟨m, h1, Ex.ownL_up (fun y hy => hx y (.tail _ hy)) hh h2⟩
theorem Ex.own_up' {w : World} : ∀ (e : Ex) (lo hi hi' : Nat), hi ≤ hi' → e.own w lo hi → e.own w lo hi' := by
  refine Ex.ind fun e ih lo hi hi' hh h => ?_
  obtain ⟨h1, h2⟩ := Ex.own_iff.1 h
  refine Ex.own_iff.2 ⟨by omega, ?_⟩
  rcases h2 with h2 | ⟨b, h3, h4, h5, h6⟩
  · exact .inl h2
  · exact .inr ⟨b, h3, h4, h5, Ex.ownL_up (fun x hx => ih x hx) hh h6⟩
theorem Ex.own_up {w : World} {e : Ex} {lo hi hi' : Nat} (h : e.own w lo hi) (hh : hi ≤ hi') : e.own w lo hi' := Ex.own_up' e lo hi hi' hh h
theorem Ex.ownL_hi {w : World} {l : List Ex} {lo hi hi' : Nat} (h : Ex.ownL w l lo hi) (hh : hi ≤ hi') : Ex.ownL w l lo hi' := Ex.ownL_up (fun x _ => Ex.own_up' x) hh h
theorem Ex.own_down {w : World} {e : Ex} {lo lo' hi : Nat} (h : e.own w lo hi) (hh : lo' ≤ lo) : e.own w lo' hi := by
  obtain ⟨h1, h2⟩ := Ex.own_iff.1 h
  refine Ex.own_iff.2 ⟨by omega, ?_⟩
  rcases h2 with h2 | ⟨b, h3, h4, h5, h6⟩
  · exact .inl h2
  · exact .inr ⟨b, h3, by omega, h5, h6⟩
theorem Ex.ownL_snoc {w : World} {x : Ex} : ∀ {l : List Ex} {lo m hi : Nat}, Ex.ownL w l lo m → x.own w m hi → Ex.ownL w (l ++ [x]) lo hi
  | [], lo, m, hi, h, hx => Ex.ownL_cons.2 ⟨hi, Ex.own_down hx (Ex.ownL_nil.1 h), Ex.ownL_nil.2 (Nat.le_refl _)⟩
  | y :: t, lo, m, hi, h, hx => by
    obtain ⟨m', h1, h2⟩ := Ex.ownL_cons.1 h
    exact Ex.ownL_cons.2 ⟨m', h1, Ex.ownL_snoc h2 hx⟩
/-- what lies below hi alone matters -/
theorem Ex.ownL_same {w w' : World} : ∀ {l : List Ex} {lo hi : Nat}, (∀ x ∈ l, ∀ lo hi, (∀ b i, lo ≤ b → b < hi → w'.frozen? ⟨b, i, none⟩ = w.frozen? ⟨b, i, none⟩) → x.own w lo hi → x.own w' lo hi) →
    (∀ b i, lo ≤ b → b < hi → w'.frozen? ⟨b, i, none⟩ = w.frozen? ⟨b, i, none⟩) → Ex.ownL w l lo hi → Ex.ownL w' l lo hi
  | [], _, _, _, _, h => Ex.ownL_nil.2 (Ex.ownL_nil.1 h)
  | x :: t, lo, hi, hx, hf, h => by
    obtain ⟨m, h1, h2⟩ := Ex.ownL_cons.1 h
    have h3 := Ex.own_le h1
    have h4 := Ex.ownL_le h2
    exact Ex.ownL_cons.2 ⟨m, hx x (.head _) _ _ (fun b i hb hb2 => hf b i hb (by omega)) h1, Ex.ownL_same (fun y hy => hx y (.tail _ hy)) (fun b i hb hb2 => hf b i (by omega) hb2) h2⟩
theorem Ex.own_same {w w' : World} : ∀ (e : Ex) (lo hi : Nat), (∀ b i, lo ≤ b → b < hi → w'.frozen? ⟨b, i, none⟩ = w.frozen? ⟨b, i, none⟩) → e.own w lo hi → e.own w' lo hi := by
  refine Ex.ind fun e ih lo hi hf h => ?_
  obtain ⟨h1, h2⟩ := Ex.own_iff.1 h
  refine Ex.own_iff.2 ⟨h1, ?_⟩
  rcases h2 with h2 | ⟨b, h3, h4, h5, h6⟩
  · exact .inl h2
  · have h7 := Ex.ownL_le h6
    exact .inr ⟨b, h3, h4, fun i hi => (hf b i h4 (by omega)).trans (h5 i hi), Ex.ownL_same (fun x hx => ih x hx) (fun b' i hb hb2 => hf b' i (by omega) hb2) h6⟩
theorem Ex.ownL_kp {w w' : World} {l : List Ex} {lo hi : Nat} (h : Ex.ownL w l lo hi) (hf : ∀ b i, lo ≤ b → b < hi → w'.frozen? ⟨b, i, none⟩ = w.frozen? ⟨b, i, none⟩) : Ex.ownL w' l lo hi := Ex.ownL_same (fun x _ => Ex.own_same x) hf h
/-- a tree that lies in its own blocks stays there if they stay -/
theorem Ex.at_own' {w w' : World} {B B' : Nat} (hB : B ≤ B') : ∀ (e : Ex) (lo hi : Nat), e.own w lo hi → (∀ b i v, lo ≤ b → b < hi → w.cell? ⟨b, i, none⟩ = some v → w'.cell? ⟨b, i, none⟩ = some v) → e.at w B → e.at w' B' := by
  refine Ex.ind fun e ih lo hi ho hc h => ?_
  obtain ⟨h1, h2, h3⟩ := Ex.at_iff.1 h
  obtain ⟨_, ho2⟩ := Ex.own_iff.1 ho
  rcases ho2 with he | ⟨b, ha, hb, _, hL⟩
  · exact Ex.at_iff.2 ⟨h1, fun i x hx => by rw [he] at hx; simp at hx, fun x hx => by rw [he] at hx; simp at hx⟩
  · have hbh := Ex.ownL_le hL
    have key : ∀ (l : List Ex) (lo' : Nat), b + 1 ≤ lo' → Ex.ownL w l lo' hi → (∀ x ∈ l, x ∈ e.l) → ∀ x ∈ l, x.at w' B' := by
      intro l
      induction l with
      | nil => intro _ _ _ _ x hx; cases hx
      | cons y t iht =>
        intro lo' hlo hl hm x hx
        obtain ⟨m, k1, k2⟩ := Ex.ownL_cons.1 hl
        have k3 := Ex.own_le k1
        have k4 := Ex.ownL_le k2
        rcases List.mem_cons.1 hx with rfl | hx
        · exact ih x (hm x (.head _)) lo' m k1 (fun b' i v q1 q2 => hc b' i v (by omega) (by omega)) (h3 x (hm x (.head _)))
        · exact iht m (by omega) k2 (fun z hz => hm z (.tail _ hz)) x hx
    refine Ex.at_iff.2 ⟨h1, fun i x hx => ?_, key e.l (b + 1) (Nat.le_refl _) hL fun x hx => hx⟩
    obtain ⟨b', o, e1, hb', c0, c1, c2, c3, c4, c5⟩ := h2 i x hx
    rw [ha] at e1
    cases e1
    exact ⟨b, 0, ha, by omega, hc _ _ _ hb (by omega) c0, hc _ _ _ hb (by omega) c1, hc _ _ _ hb (by omega) c2, hc _ _ _ hb (by omega) c3, hc _ _ _ hb (by omega) c4, hc _ _ _ hb (by omega) c5⟩
/-- a tree made since the world w0 -/
def Ex.made (w0 w : World) (e : Ex) : Prop := e.at w w.heap.size ∧ e.own w w0.heap.size w.heap.size
theorem Ex.at_up {w : World} {e : Ex} {B B' : Nat} (h : e.at w B) (hB : B ≤ B') : e.at w B' := Ex.same hB (fun _ _ _ _ h => h) e h
theorem frozen_kpT {w w' : World} (k : Kp w w') {b i : Nat} (hb : b < w.heap.size) : w'.frozen? ⟨b, i, none⟩ = w.frozen? ⟨b, i, none⟩ := Below.frozen (p := ⟨b, i, none⟩) k hb
theorem Ex.made_kp {w0 w w' : World} {e : Ex} (h : e.made w0 w) (k : Kp w w') : e.made w0 w' :=
  ⟨Ex.at_up (Ex.at_kp h.1 k) k.size, Ex.own_up (Ex.own_same e _ _ (fun _ _ _ hb => frozen_kpT k hb) h.2) k.size⟩
theorem Ex.made_from {w0 w1 w : World} {e : Ex} (h : e.made w1 w) (k : w0.heap.size ≤ w1.heap.size) : e.made w0 w := ⟨h.1, Ex.own_down h.2 k⟩
/-- block g shows the trees' nodes; none is frozen -/
def RowC (w : World) (g : Nat) (xs : List Ex) : Prop := (∀ (i : Nat) (x : Ex), xs[i]? = some x → w.cell? ⟨g, i * 6, none⟩ = some (.int .i64 x.kind) ∧ w.cell? ⟨g, i * 6 + 1, none⟩ = some (.int .i64 x.rn) ∧ w.cell? ⟨g, i * 6 + 2, none⟩ = some (.int .i64 x.rd) ∧ w.cell? ⟨g, i * 6 + 3, none⟩ = some (.string x.name) ∧ w.cell? ⟨g, i * 6 + 4, none⟩ = some (.int .i64 x.pw) ∧ w.cell? ⟨g, i * 6 + 5, none⟩ = some (.slice x.a x.l.length x.c)) ∧ (∀ i, i < xs.length * 6 → w.frozen? ⟨g, i, none⟩ = false) ∧ g < w.heap.size
theorem RowC.kp {w w' : World} {g : Nat} {xs : List Ex} (h : RowC w g xs) (k : Kp w w') : RowC w' g xs :=
  ⟨fun i x hx => keepE6 k (h.1 i x hx), fun i hi => (frozen_kpT k h.2.2).trans (h.2.1 i hi), Nat.lt_of_lt_of_le h.2.2 k.size⟩
theorem RowC.row {w : World} {g B : Nat} {xs : List Ex} (h : RowC w g xs) (hB : w.heap.size ≤ B) : RowX w B (some ⟨g, 0, none⟩) xs := fun i x hx => by
  obtain ⟨h0, h1, h2, h3, h4, h5⟩ := h.1 i x hx
  have e : 0 + i * 6 = i * 6 := by omega
  refine ⟨g, 0, rfl, Nat.lt_of_lt_of_le h.2.2 hB, ?_⟩
  rw [e]
  exact ⟨h0, h1, h2, h3, h4, h5⟩
/-- six cells stored into a row -/
theorem RowC.set {w W : World} {g k : Nat} {xs : List Ex} {x y : Ex} (h : RowC w g xs) (hk : xs[k]? = some y)
    (hs : W.cell? ⟨g, k * 6, none⟩ = some (.int .i64 x.kind) ∧ W.cell? ⟨g, k * 6 + 1, none⟩ = some (.int .i64 x.rn) ∧ W.cell? ⟨g, k * 6 + 2, none⟩ = some (.int .i64 x.rd) ∧ W.cell? ⟨g, k * 6 + 3, none⟩ = some (.string x.name) ∧ W.cell? ⟨g, k * 6 + 4, none⟩ = some (.int .i64 x.pw) ∧ W.cell? ⟨g, k * 6 + 5, none⟩ = some (.slice x.a x.l.length x.c)) (ho : ∀ p : Addr, p.block ≠ g ∨ p.off < k * 6 ∨ k * 6 + 6 ≤ p.off → p.spot = none → W.cell? p = w.cell? p) (hf : ∀ p, W.frozen? p = w.frozen? p) (hz : W.heap.size = w.heap.size) : RowC W g (xs.set k x) := by
  refine ⟨fun i z hi => ?_, fun i hi => (hf _).trans (h.2.1 i (by simpa using hi)), by rw [hz]; exact h.2.2⟩
  by_cases hik : k = i
  · subst hik
    have hkl := (List.getElem?_eq_some_iff.1 hk).1
    rw [List.getElem?_set_self hkl] at hi
    cases hi
    exact hs
  · rw [List.getElem?_set_ne hik] at hi
    obtain ⟨h0, h1, h2, h3, h4, h5⟩ := h.1 i z hi
    have q (j : Nat) (hj : j < 6) : W.cell? ⟨g, i * 6 + j, none⟩ = w.cell? ⟨g, i * 6 + j, none⟩ := ho ⟨g, i * 6 + j, none⟩ (by simp only; omega) rfl
    exact ⟨(q 0 (by omega)).trans h0, (q 1 (by omega)).trans h1, (q 2 (by omega)).trans h2, (q 3 (by omega)).trans h3, (q 4 (by omega)).trans h4, (q 5 (by omega)).trans h5⟩
end Go.Proofs.Ythaphbbeiglolaa
