/-
  Walks: tree.clone.
-/
import Derived.Test.YthaphbbeiglolaaCloN
namespace Go.Proofs.Ythaphbbeiglolaa
open Go.RowKit Go.Sort

theorem new6 (u : World) (x : Ex) (s : Nat) (h : u.heap.size = s) : (u.alloc (.cells #[.int .i64 x.kind, .int .i64 x.rn, .int .i64 x.rd, .string x.name, .int .i64 x.pw, .slice x.a x.l.length x.c] 26)).cell? ⟨s, 0, none⟩ = some (.int .i64 x.kind) ∧ (u.alloc (.cells #[.int .i64 x.kind, .int .i64 x.rn, .int .i64 x.rd, .string x.name, .int .i64 x.pw, .slice x.a x.l.length x.c] 26)).cell? ⟨s, 1, none⟩ = some (.int .i64 x.rn) ∧ (u.alloc (.cells #[.int .i64 x.kind, .int .i64 x.rn, .int .i64 x.rd, .string x.name, .int .i64 x.pw, .slice x.a x.l.length x.c] 26)).cell? ⟨s, 2, none⟩ = some (.int .i64 x.rd) ∧ (u.alloc (.cells #[.int .i64 x.kind, .int .i64 x.rn, .int .i64 x.rd, .string x.name, .int .i64 x.pw, .slice x.a x.l.length x.c] 26)).cell? ⟨s, 3, none⟩ = some (.string x.name) ∧ (u.alloc (.cells #[.int .i64 x.kind, .int .i64 x.rn, .int .i64 x.rd, .string x.name, .int .i64 x.pw, .slice x.a x.l.length x.c] 26)).cell? ⟨s, 4, none⟩ = some (.int .i64 x.pw) ∧ (u.alloc (.cells #[.int .i64 x.kind, .int .i64 x.rn, .int .i64 x.rd, .string x.name, .int .i64 x.pw, .slice x.a x.l.length x.c] 26)).cell? ⟨s, 5, none⟩ = some (.slice x.a x.l.length x.c) := by subst h; simp
theorem newF (u : World) (v : Array Value) (t : TypeId) (s i : Nat) (h : u.heap.size = s) : (u.alloc (.cells v t)).frozen? ⟨s, i, none⟩ = false := by subst h; simp
/-- the zero value -/
def Ex.zero : Ex := .mk 0 0 0 ⟨#[]⟩ 0 none 0 []
/-- a box of a tree's node: its cells, none frozen -/
def BoxX (w : World) (g : Nat) (x : Ex) : Prop := (w.cell? ⟨g, 0, none⟩ = some (.int .i64 x.kind) ∧ w.cell? ⟨g, 1, none⟩ = some (.int .i64 x.rn) ∧ w.cell? ⟨g, 2, none⟩ = some (.int .i64 x.rd) ∧ w.cell? ⟨g, 3, none⟩ = some (.string x.name) ∧ w.cell? ⟨g, 4, none⟩ = some (.int .i64 x.pw) ∧ w.cell? ⟨g, 5, none⟩ = some (.slice x.a x.l.length x.c)) ∧ (∀ i, w.frozen? ⟨g, i, none⟩ = false) ∧ g < w.heap.size
theorem BoxX.kp {w w' : World} {g : Nat} {x : Ex} (h : BoxX w g x) (k : Kp w w') : BoxX w' g x :=
  ⟨keepE6 k h.1, fun i => (frozen_kpT k h.2.2).trans (h.2.1 i), Nat.lt_of_lt_of_le h.2.2 k.size⟩
theorem BoxX.new (u : World) (x : Ex) (s : Nat) (h : u.heap.size = s) : BoxX (u.alloc (.cells #[.int .i64 x.kind, .int .i64 x.rn, .int .i64 x.rd, .string x.name, .int .i64 x.pw, .slice x.a x.l.length x.c] 26)) s x :=
  ⟨new6 u x s h, fun i => newF u _ _ s i h, by subst h; simp⟩
/-- another block is written -/
theorem BoxX.other {w W : World} {g : Nat} {x : Ex} (h : BoxX w g x) (hc : ∀ p : Addr, p.block = g → W.cell? p = w.cell? p) (hf : ∀ p, W.frozen? p = w.frozen? p) (hz : W.heap.size = w.heap.size) : BoxX W g x :=
  ⟨⟨(hc _ rfl).trans h.1.1, (hc _ rfl).trans h.1.2.1, (hc _ rfl).trans h.1.2.2.1, (hc _ rfl).trans h.1.2.2.2.1, (hc _ rfl).trans h.1.2.2.2.2.1, (hc _ rfl).trans h.1.2.2.2.2.2⟩, fun i => (hf _).trans (h.2.1 i), by rw [hz]; exact h.2.2⟩
/-- the elements of a box are laid anew -/
theorem BoxX.setL {w : World} {g : Nat} {k r d p : Int} {s : ByteArray} {a a' : Option Addr} {c c' : Nat} {l l' : List Ex} (h : BoxX w g (.mk k r d s p a c l)) :
    BoxX (w.setCell ⟨g, 5, none⟩ (.slice a' l'.length c')) g (.mk k r d s p a' c' l') := by
  have ne (j : Nat) (h : 5 ≠ j) : (⟨g, 5, none⟩ : Addr) ≠ ⟨g, j, none⟩ := fun e => h (by injection e)
  obtain ⟨⟨q0, q1, q2, q3, q4, q5⟩, hf, hl⟩ := h
  exact ⟨⟨by rw [cellset_ne (ne 0 (by decide))]; exact q0, by rw [cellset_ne (ne 1 (by decide))]; exact q1, by rw [cellset_ne (ne 2 (by decide))]; exact q2, by rw [cellset_ne (ne 3 (by decide))]; exact q3, by rw [cellset_ne (ne 4 (by decide))]; exact q4, cellset_eq q5⟩, fun i => by simpa using hf i, by simpa using hl⟩
theorem stored60 {w W : World} {g : Nat} {y : Ex} (x : Ex) (h : BoxX w g y)
    (hW : ((((((w.setCell ⟨g, 0, none⟩ (.int .i64 x.kind)).setCell ⟨g, 1, none⟩ (.int .i64 x.rn)).setCell ⟨g, 2, none⟩ (.int .i64 x.rd)).setCell ⟨g, 3, none⟩ (.string x.name)).setCell ⟨g, 4, none⟩ (.int .i64 x.pw)).setCell ⟨g, 5, none⟩ (.slice x.a x.l.length x.c)) = W) :
    Stored6 g 0 x w W := by
  subst hW
  exact stored6X (o := 0) x (y := y) h.1
theorem BoxX.stored {w W : World} {g : Nat} {x y : Ex} (h : BoxX w g y) (hs : Stored6 g 0 x w W) : BoxX W g x := by
  obtain ⟨⟨q0, q1, q2, q3, q4, q5⟩, _, h2, h3, _⟩ := hs
  exact ⟨⟨q0, q1, q2, q3, q4, q5⟩, fun i => (h2 _).trans (h.2.1 i), by rw [h3]; exact h.2.2⟩
theorem RowC.fr6 {w : World} {g k : Nat} {xs : List Ex} (h : RowC w g xs) (hk : k < xs.length) : w.frozen? ⟨g, k * 6, none⟩ = false ∧ w.frozen? ⟨g, k * 6 + 1, none⟩ = false ∧ w.frozen? ⟨g, k * 6 + 2, none⟩ = false ∧ w.frozen? ⟨g, k * 6 + 3, none⟩ = false ∧ w.frozen? ⟨g, k * 6 + 4, none⟩ = false ∧ w.frozen? ⟨g, k * 6 + 5, none⟩ = false :=
  ⟨h.2.1 _ (by omega), h.2.1 _ (by omega), h.2.1 _ (by omega), h.2.1 _ (by omega), h.2.1 _ (by omega), h.2.1 _ (by omega)⟩
theorem ownL_mem {w : World} {x : Ex} : ∀ {l : List Ex} {lo hi : Nat}, Ex.ownL w l lo hi → x ∈ l → ∃ lo' hi', lo ≤ lo' ∧ hi' ≤ hi ∧ x.own w lo' hi'
  | y :: t, lo, hi, h, hx => by
    obtain ⟨m, h1, h2⟩ := Ex.ownL_cons.1 h
    have h3 := Ex.own_le h1
    have h4 := Ex.ownL_le h2
    rcases List.mem_cons.1 hx with rfl | hx
    · exact ⟨lo, m, Nat.le_refl _, h4, h1⟩
    · obtain ⟨lo', hi', a, b, c⟩ := ownL_mem h2 hx
      exact ⟨lo', hi', by omega, b, c⟩
theorem set_done {done l : List Ex} {k : Nat} {x e' : Ex} (hd : done.length = k) (hx : l[k]? = some x) : (done ++ l.drop k).set k e' = (done ++ [e']) ++ l.drop (k + 1) := by
  obtain ⟨hk, hx⟩ := List.getElem?_eq_some_iff.1 hx
  rw [List.set_append_right _ _ (by omega), hd, Nat.sub_self, List.drop_eq_getElem_cons hk, List.set_cons_zero, List.append_assoc]
  rfl
theorem get_done {done l : List Ex} {k : Nat} (hd : done.length = k) : (done ++ l.drop k)[k]? = l[k]? := by
  rw [List.getElem?_append_right (by omega), hd, Nat.sub_self, List.getElem?_drop, Nat.add_zero]
/-- the loop that copies the elements in place: done are the copies -/
def CopyS (W wr : World) (a' : Option Addr) (l : List Ex) (f : Ex → Ex) (k : Nat) (done : List Ex) : Prop :=
  (k ≤ l.length ∧ done.length = k ∧ done.map Ex.er = (l.take k).map f) ∧ (∀ x ∈ done, x.at wr wr.heap.size) ∧ Kp W wr ∧ (l = [] ∨ ∃ g, a' = some ⟨g, 0, none⟩ ∧ W.heap.size ≤ g ∧ RowC wr g (done ++ l.drop k) ∧ Ex.ownL wr done (g + 1) wr.heap.size)
theorem CopyS.start {W w2 : World} {a' : Option Addr} {l : List Ex} {f : Ex → Ex} (k : Kp W w2) (h : l = [] ∨ ∃ g, a' = some ⟨g, 0, none⟩ ∧ W.heap.size ≤ g ∧ RowC w2 g l) : CopyS W w2 a' l f 0 [] := by
  refine ⟨⟨by omega, rfl, rfl⟩, fun x hx => (by cases hx), k, ?_⟩
  rcases h with h | ⟨g, h1, h2, h3⟩
  · exact .inl h
  · exact .inr ⟨g, h1, h2, h3, Ex.ownL_nil.2 h3.2.2⟩
theorem CopyS.step {W wr w1 w3 W4 : World} {a' : Option Addr} {l : List Ex} {f : Ex → Ex} {k g : Nat} {done : List Ex} {x e' : Ex} (h : CopyS W wr a' l f k done) (hx : l[k]? = some x) (ha : a' = some ⟨g, 0, none⟩)
    (k1 : Kp wr w1) (k3 : Kp w1 w3) (he : e'.er = f x) (hm : e'.made w1 w3) (hs : Stored6 g (k * 6) e' w3 W4) : CopyS W W4 a' l f (k + 1) (done ++ [e']) := by
  obtain ⟨⟨h1, h2, h3⟩, h4, h5, h6⟩ := h
  have hk := (List.getElem?_eq_some_iff.1 hx).1
  have kw := k1.trans k3
  rcases h6 with h6 | ⟨g', e, hg, hr, ho⟩
  · rw [h6] at hx; simp at hx
  rw [ha] at e
  cases e
  have hz : W4.heap.size = w3.heap.size := hs.2.2.2.1
  have hgl : g + 1 ≤ wr.heap.size := Ex.ownL_le ho
  have ho3 : Ex.ownL w3 done (g + 1) wr.heap.size := Ex.ownL_kp ho fun b i _ hb => frozen_kpT kw hb
  have hcell : ∀ b i v, g + 1 ≤ b → w3.cell? ⟨b, i, none⟩ = some v → W4.cell? ⟨b, i, none⟩ = some v := fun b i v hb hc => by
    rw [hs.2.1 ⟨b, i, none⟩ (.inl (by show b ≠ g; omega))]; exact hc
  refine ⟨⟨by omega, by simp [h2], ?_⟩, fun y hy => ?_, hs.2.2.2.2 W (h5.trans kw) hg, .inr ⟨g, ha, hg, ?_, ?_⟩⟩
  · rw [List.map_append, h3, List.map_cons, List.map_nil, he, List.take_add_one, hx, List.map_append]; rfl
  · rcases List.mem_append.1 hy with hy | hy
    · obtain ⟨lo, hi, q1, q2, q3⟩ := ownL_mem ho3 hy
      exact Ex.at_own' (by rw [hz]; exact Nat.le_refl _) y lo hi q3 (fun b i v hb _ hc => hcell b i v (by omega) hc) (Ex.at_up (Ex.at_kp (h4 y hy) kw) kw.size)
    · rcases List.mem_singleton.1 hy with rfl
      exact Ex.at_own' (by rw [hz]; exact Nat.le_refl _) y _ _ hm.2 (fun b i v hb _ hc => hcell b i v (by have := k1.size; omega) hc) hm.1
  · have hr3 : RowC w3 g (done ++ l.drop k) := hr.kp kw
    have := RowC.stored hr3 ((get_done h2).trans hx) hs
    rw [set_done h2 hx] at this
    exact this
  · refine Ex.ownL_snoc (m := wr.heap.size) (Ex.ownL_kp ho3 fun b i _ _ => hs.2.2.1 _) ?_
    rw [hz]
    exact Ex.own_same _ _ _ (fun b i _ _ => hs.2.2.1 _) (Ex.own_down hm.2 k1.size)
/-- what the loop leaves is a tree's list of elements -/
theorem CopyS.end {W wr W4 : World} {a' : Option Addr} {l : List Ex} {f : Ex → Ex} {done : List Ex} {k r d p : Int} {s : ByteArray} {c' lo : Nat} (h : CopyS W wr a' l f l.length done) (hlo : lo ≤ W.heap.size)
    (hc : ∀ b i v, W.heap.size ≤ b → wr.cell? ⟨b, i, none⟩ = some v → W4.cell? ⟨b, i, none⟩ = some v) (hf : ∀ p, W4.frozen? p = wr.frozen? p) (hz : W4.heap.size = wr.heap.size)
    (hlc : l.length ≤ c') (hcm : c' ≤ maxLen) (hs : s.size ≤ maxLen) (hl : l.length ≤ 1048576) :
    (Ex.mk k r d s p a' c' done).at W4 W4.heap.size ∧ (Ex.mk k r d s p a' c' done).own W4 lo W4.heap.size ∧ done.map Ex.er = l.map f := by
  obtain ⟨⟨h1, h2, h3⟩, h4, h5, h6⟩ := h
  rw [List.take_length] at h3
  have hn : done.length = l.length := h2
  have hsz := h5.size
  rcases h6 with h6 | ⟨g, e, hg, hr, ho⟩
  · have hd : done = [] := by rw [h6] at hn; exact List.length_eq_zero_iff.1 hn
    subst hd
    refine ⟨Ex.at_iff.2 ⟨⟨Nat.zero_le _, hcm, hs, Nat.zero_le _⟩, fun i x hx => by simp [Ex.l] at hx, fun x hx => by simp [Ex.l] at hx⟩, Ex.own_iff.2 ⟨by omega, .inl rfl⟩, h3⟩
  · subst e
    rw [List.drop_length, List.append_nil] at hr
    refine ⟨Ex.at_iff.2 ⟨⟨?_, hcm, hs, ?_⟩, fun i x hx => ?_, fun x hx => ?_⟩, Ex.own_iff.2 ⟨by omega, .inr ⟨g, rfl, by omega, fun i hi => (hf _).trans (hr.2.1 i hi), Ex.ownL_kp (by rw [hz]; exact ho) fun b i _ _ => hf _⟩⟩, h3⟩
    · show done.length ≤ c'; omega
    · show done.length ≤ 1048576; omega
    · obtain ⟨q0, q1, q2, q3, q4, q5⟩ := hr.1 i x hx
      have e : 0 + i * 6 = i * 6 := by omega
      refine ⟨g, 0, rfl, by rw [hz]; exact hr.2.2, ?_⟩
      rw [e]
      exact ⟨hc _ _ _ hg q0, hc _ _ _ hg q1, hc _ _ _ hg q2, hc _ _ _ hg q3, hc _ _ _ hg q4, hc _ _ _ hg q5⟩
    · obtain ⟨lo', hi', q1, q2, q3⟩ := ownL_mem ho hx
      exact Ex.at_own' (by rw [hz]; exact Nat.le_refl _) x _ _ q3 (fun b i v hb _ hcc => hc b i v (by omega) hcc) (h4 x hx)
def CloneAt (e : Ex) : Prop := ∀ (B : Nat) (w : World), e.at w B → B ≤ w.heap.size → Calls Try.prog 45 #[.agg #[.int .i64 e.kind, .int .i64 e.rn, .int .i64 e.rd, .string e.name, .int .i64 e.pw, .slice e.a e.l.length e.c]] w fun r w' => ∃ e' : Ex, r = .returned (.agg #[.int .i64 e'.kind, .int .i64 e'.rn, .int .i64 e'.rd, .string e'.name, .int .i64 e'.pw, .slice e'.a e'.l.length e'.c]) ∧ e'.er = e.er ∧ Kp w w' ∧ e'.made w w'
end Go.Proofs.Ythaphbbeiglolaa
