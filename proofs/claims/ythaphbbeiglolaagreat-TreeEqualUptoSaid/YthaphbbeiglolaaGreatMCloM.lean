/-
  Walks: tree.clone.
  Walks: tree.clone.
  Maps from names to trees: one block; laws for the walk.
  Walks: tree.change.
  Walks: tree.Replace.
-/
import Derived.Test.YthaphbbeiglolaaGreatMIdxX
import Derived.Maps.OwnSet
import Derived.Carry
section
namespace Go.Proofs.YthaphbbeiglolaaGreat
open Go.RowKit Go.Sort

theorem new6 (u : World) (x : Ex) (s : Nat) (h : u.heap.size = s) : (u.alloc (.cells #[.int .i64 x.kind, .int .i64 x.rn, .int .i64 x.rd, .string x.name, .int .i64 x.pw, .slice x.a x.l.length x.c] 26)).cell? ⟨s, 0, none⟩ = some (.int .i64 x.kind) ∧ (u.alloc (.cells #[.int .i64 x.kind, .int .i64 x.rn, .int .i64 x.rd, .string x.name, .int .i64 x.pw, .slice x.a x.l.length x.c] 26)).cell? ⟨s, 1, none⟩ = some (.int .i64 x.rn) ∧ (u.alloc (.cells #[.int .i64 x.kind, .int .i64 x.rn, .int .i64 x.rd, .string x.name, .int .i64 x.pw, .slice x.a x.l.length x.c] 26)).cell? ⟨s, 2, none⟩ = some (.int .i64 x.rd) ∧ (u.alloc (.cells #[.int .i64 x.kind, .int .i64 x.rn, .int .i64 x.rd, .string x.name, .int .i64 x.pw, .slice x.a x.l.length x.c] 26)).cell? ⟨s, 3, none⟩ = some (.string x.name) ∧ (u.alloc (.cells #[.int .i64 x.kind, .int .i64 x.rn, .int .i64 x.rd, .string x.name, .int .i64 x.pw, .slice x.a x.l.length x.c] 26)).cell? ⟨s, 4, none⟩ = some (.int .i64 x.pw) ∧ (u.alloc (.cells #[.int .i64 x.kind, .int .i64 x.rn, .int .i64 x.rd, .string x.name, .int .i64 x.pw, .slice x.a x.l.length x.c] 26)).cell? ⟨s, 5, none⟩ = some (.slice x.a x.l.length x.c) := by subst h; simp
theorem newF (u : World) (v : Array Value) (t : TypeId) (s i : Nat) (h : u.heap.size = s) : (u.alloc (.cells v t)).frozen? ⟨s, i, none⟩ = false := by subst h; simp
/-- the zero value -/
def Ex.zero : Ex := .mk 0 0 0 ⟨#[]⟩ 0 none 0 []
/-- a box of a tree's node: its cells, none frozen -/
def BoxX (w : World) (g : Nat) (x : Ex) : Prop := (w.cell? ⟨g, 0, none⟩ = some (.int .i64 x.kind) ∧ w.cell? ⟨g, 1, none⟩ = some (.int .i64 x.rn) ∧ w.cell? ⟨g, 2, none⟩ = some (.int .i64 x.rd) ∧ w.cell? ⟨g, 3, none⟩ = some (.string x.name) ∧ w.cell? ⟨g, 4, none⟩ = some (.int .i64 x.pw) ∧ w.cell? ⟨g, 5, none⟩ = some (.slice x.a x.l.length x.c)) ∧ (∀ i, w.frozen? ⟨g, i, none⟩ = false) ∧ g < w.heap.size
theorem BoxX.kp {w w' : World} {g : Nat} {x : Ex} (h : BoxX w g x) (k : Kp w w') : BoxX w' g x :=
  ⟨keepE6 k h.1, fun i => (frozen_kpT k h.2.2).trans (h.2.1 i), Nat.lt_of_lt_of_le h.2.2 k.size⟩
theorem BoxX.new (u : World) (x : Ex) (s : Nat) (h : u.heap.size = s) : BoxX (u.alloc (.cells #[.int .i64 x.kind, .int .i64 x.rn, .int .i64 x.rd, .string x.name, .int .i64 x.pw, .slice x.a x.l.length x.c] 26)) s x :=
  ⟨new6 u x s h, fun i => newF u _ _ s i h, by subst h; simp⟩
/-- another block is written -/
theorem BoxX.other {w W : World} {g : Nat} {x : Ex} (h : BoxX w g x) (hc : ∀ p : Addr, p.block = g → W.cell? p = w.cell? p) (hf : ∀ p, W.frozen? p = w.frozen? p) (hz : W.heap.size = w.heap.size) : BoxX W g x :=
  ⟨⟨(hc _ rfl).trans h.1.1, (hc _ rfl).trans h.1.2.1, (hc _ rfl).trans h.1.2.2.1, (hc _ rfl).trans h.1.2.2.2.1, (hc _ rfl).trans h.1.2.2.2.2.1, (hc _ rfl).trans h.1.2.2.2.2.2⟩, fun i => (hf _).trans (h.2.1 i), by rw [hz]; exact h.2.2⟩
theorem stored60 {w W : World} {g : Nat} {y : Ex} (x : Ex) (h : BoxX w g y)
    (hW : ((((((w.setCell ⟨g, 0, none⟩ (.int .i64 x.kind)).setCell ⟨g, 1, none⟩ (.int .i64 x.rn)).setCell ⟨g, 2, none⟩ (.int .i64 x.rd)).setCell ⟨g, 3, none⟩ (.string x.name)).setCell ⟨g, 4, none⟩ (.int .i64 x.pw)).setCell ⟨g, 5, none⟩ (.slice x.a x.l.length x.c)) = W) :
    Stored6 g 0 x w W := by
  subst hW
  exact stored6X (o := 0) x (y := y) h.1
theorem BoxX.stored {w W : World} {g : Nat} {x y : Ex} (h : BoxX w g y) (hs : Stored6 g 0 x w W) : BoxX W g x := by
  obtain ⟨⟨q0, q1, q2, q3, q4, q5⟩, _, h2, h3, _⟩ := hs
  exact ⟨⟨q0, q1, q2, q3, q4, q5⟩, fun i => (h2 _).trans (h.2.1 i), by rw [h3]; exact h.2.2⟩
theorem RowC.fr6 {w : World} {g k : Nat} {xs : List Ex} (h : RowC w g xs) (hk : k < xs.length) : w.frozen? ⟨g, k * 6, none⟩ = false ∧ w.frozen? ⟨g, k * 6 + 1, none⟩ = false ∧ w.frozen? ⟨g, k * 6 + 2, none⟩ = false ∧ w.frozen? ⟨g, k * 6 + 3, none⟩ = false ∧ w.frozen? ⟨g, k * 6 + 4, none⟩ = false ∧ w.frozen? ⟨g, k * 6 + 5, none⟩ = false :=
  ⟨h.2.1 _ (by omega), h.2.1 _ (by omega), h.2.1 _ (by omega), h.2.1 _ (by omega), h.2.1 _ (by omega), h.2.1 _ (by omega)⟩
theorem ownL_mem {w : World} {x : Ex} : ∀ {l : List Ex} {lo hi : Nat}, Ex.ownL w l lo hi → x ∈ l → ∃ lo' hi', lo ≤ lo' ∧ hi' ≤ hi ∧ x.own w lo' hi'
  | y :: t, lo, hi, h, hx => by
    obtain ⟨m, h1, h2⟩ := Ex.ownL_cons.1 h
    have h3 := Ex.own_le h1
    have h4 := Ex.ownL_le h2
    rcases List.mem_cons.1 hx with rfl | hx
    · exact ⟨lo, m, Nat.le_refl _, h4, h1⟩
    · obtain ⟨lo', hi', a, b, c⟩ := ownL_mem h2 hx
      exact ⟨lo', hi', by omega, b, c⟩
theorem set_done {done l : List Ex} {k : Nat} {x e' : Ex} (hd : done.length = k) (hx : l[k]? = some x) : (done ++ l.drop k).set k e' = (done ++ [e']) ++ l.drop (k + 1) := by
  obtain ⟨hk, hx⟩ := List.getElem?_eq_some_iff.1 hx
  rw [List.set_append_right _ _ (by omega), hd, Nat.sub_self, List.drop_eq_getElem_cons hk, List.set_cons_zero, List.append_assoc]
  rfl
theorem get_done {done l : List Ex} {k : Nat} (hd : done.length = k) : (done ++ l.drop k)[k]? = l[k]? := by
  rw [List.getElem?_append_right (by omega), hd, Nat.sub_self, List.getElem?_drop, Nat.add_zero]
/-- the loop that copies the elements in place: done are the copies -/
def CopyS (W wr : World) (a' : Option Addr) (l : List Ex) (f : Ex → Ex) (k : Nat) (done : List Ex) : Prop :=
  (k ≤ l.length ∧ done.length = k ∧ done.map Ex.er = (l.take k).map f) ∧ (∀ x ∈ done, x.at wr wr.heap.size) ∧ Kp W wr ∧ (l = [] ∨ ∃ g, a' = some ⟨g, 0, none⟩ ∧ W.heap.size ≤ g ∧ RowC wr g (done ++ l.drop k) ∧ Ex.ownL wr done (g + 1) wr.heap.size)
theorem CopyS.start {W w2 : World} {a' : Option Addr} {l : List Ex} {f : Ex → Ex} (k : Kp W w2) (h : l = [] ∨ ∃ g, a' = some ⟨g, 0, none⟩ ∧ W.heap.size ≤ g ∧ RowC w2 g l) : CopyS W w2 a' l f 0 [] := by
  refine ⟨⟨by omega, rfl, rfl⟩, fun x hx => (by cases hx), k, ?_⟩
  rcases h with h | ⟨g, h1, h2, h3⟩
  · exact .inl h
  · exact .inr ⟨g, h1, h2, h3, Ex.ownL_nil.2 h3.2.2⟩
theorem CopyS.step {W wr w1 w3 W4 : World} {a' : Option Addr} {l : List Ex} {f : Ex → Ex} {k g : Nat} {done : List Ex} {x e' : Ex} (h : CopyS W wr a' l f k done) (hx : l[k]? = some x) (ha : a' = some ⟨g, 0, none⟩)
    (k1 : Kp wr w1) (k3 : Kp w1 w3) (he : e'.er = f x) (hm : e'.made w1 w3) (hs : Stored6 g (k * 6) e' w3 W4) : CopyS W W4 a' l f (k + 1) (done ++ [e']) := by
  obtain ⟨⟨h1, h2, h3⟩, h4, h5, h6⟩ := h
  have hk := (List.getElem?_eq_some_iff.1 hx).1
  have kw := k1.trans k3
  rcases h6 with h6 | ⟨g', e, hg, hr, ho⟩
  · rw [h6] at hx; simp at hx
  rw [ha] at e
  cases e
  have hz : W4.heap.size = w3.heap.size := hs.2.2.2.1
  have hgl : g + 1 ≤ wr.heap.size := Ex.ownL_le ho
  have ho3 : Ex.ownL w3 done (g + 1) wr.heap.size := Ex.ownL_kp ho fun b i _ hb => frozen_kpT kw hb
  have hcell : ∀ b i v, g + 1 ≤ b → w3.cell? ⟨b, i, none⟩ = some v → W4.cell? ⟨b, i, none⟩ = some v := fun b i v hb hc => by
    rw [hs.2.1 ⟨b, i, none⟩ (.inl (by show b ≠ g; omega))]; exact hc
  refine ⟨⟨by omega, by simp [h2], ?_⟩, fun y hy => ?_, hs.2.2.2.2 W (h5.trans kw) hg, .inr ⟨g, ha, hg, ?_, ?_⟩⟩
  · rw [List.map_append, h3, List.map_cons, List.map_nil, he, List.take_add_one, hx, List.map_append]; rfl
  · rcases List.mem_append.1 hy with hy | hy
    · obtain ⟨lo, hi, q1, q2, q3⟩ := ownL_mem ho3 hy
      exact Ex.at_own' (by rw [hz]; exact Nat.le_refl _) y lo hi q3 (fun b i v hb _ hc => hcell b i v (by omega) hc) (Ex.at_up (Ex.at_kp (h4 y hy) kw) kw.size)
    · rcases List.mem_singleton.1 hy with rfl
      exact Ex.at_own' (by rw [hz]; exact Nat.le_refl _) y _ _ hm.2 (fun b i v hb _ hc => hcell b i v (by have := k1.size; omega) hc) hm.1
  · have hr3 : RowC w3 g (done ++ l.drop k) := hr.kp kw
    have := RowC.stored hr3 ((get_done h2).trans hx) hs
    rw [set_done h2 hx] at this
    exact this
  · refine Ex.ownL_snoc (m := wr.heap.size) (Ex.ownL_kp ho3 fun b i _ _ => hs.2.2.1 _) ?_
    rw [hz]
    exact Ex.own_same _ _ _ (fun b i _ _ => hs.2.2.1 _) (Ex.own_down hm.2 k1.size)
/-- what the loop leaves is a tree's list of elements -/
theorem CopyS.end {W wr W4 : World} {a' : Option Addr} {l : List Ex} {f : Ex → Ex} {done : List Ex} {k r d p : Int} {s : ByteArray} {c' lo : Nat} (h : CopyS W wr a' l f l.length done) (hlo : lo ≤ W.heap.size)
    (hc : ∀ b i v, W.heap.size ≤ b → wr.cell? ⟨b, i, none⟩ = some v → W4.cell? ⟨b, i, none⟩ = some v) (hf : ∀ p, W4.frozen? p = wr.frozen? p) (hz : W4.heap.size = wr.heap.size)
    (hlc : l.length ≤ c') (hcm : c' ≤ maxLen) (hs : s.size ≤ maxLen) (hl : l.length ≤ 1048576) :
    (Ex.mk k r d s p a' c' done).at W4 W4.heap.size ∧ (Ex.mk k r d s p a' c' done).own W4 lo W4.heap.size ∧ done.map Ex.er = l.map f := by
  obtain ⟨⟨h1, h2, h3⟩, h4, h5, h6⟩ := h
  rw [List.take_length] at h3
  have hn : done.length = l.length := h2
  have hsz := h5.size
  rcases h6 with h6 | ⟨g, e, hg, hr, ho⟩
  · have hd : done = [] := by rw [h6] at hn; exact List.length_eq_zero_iff.1 hn
    subst hd
    refine ⟨Ex.at_iff.2 ⟨⟨Nat.zero_le _, hcm, hs, Nat.zero_le _⟩, fun i x hx => by simp [Ex.l] at hx, fun x hx => by simp [Ex.l] at hx⟩, Ex.own_iff.2 ⟨by omega, .inl rfl⟩, h3⟩
  · subst e
    rw [List.drop_length, List.append_nil] at hr
    refine ⟨Ex.at_iff.2 ⟨⟨?_, hcm, hs, ?_⟩, fun i x hx => ?_, fun x hx => ?_⟩, Ex.own_iff.2 ⟨by omega, .inr ⟨g, rfl, by omega, fun i hi => (hf _).trans (hr.2.1 i hi), Ex.ownL_kp (by rw [hz]; exact ho) fun b i _ _ => hf _⟩⟩, h3⟩
    · show done.length ≤ c'; omega
    · show done.length ≤ 1048576; omega
    · obtain ⟨q0, q1, q2, q3, q4, q5⟩ := hr.1 i x hx
      have e : 0 + i * 6 = i * 6 := by omega
      refine ⟨g, 0, rfl, by rw [hz]; exact hr.2.2, ?_⟩
      rw [e]
      exact ⟨hc _ _ _ hg q0, hc _ _ _ hg q1, hc _ _ _ hg q2, hc _ _ _ hg q3, hc _ _ _ hg q4, hc _ _ _ hg q5⟩
    · obtain ⟨lo', hi', q1, q2, q3⟩ := ownL_mem ho hx
      exact Ex.at_own' (by rw [hz]; exact Nat.le_refl _) x _ _ q3 (fun b i v hb _ hcc => hc b i v (by omega) hcc) (h4 x hx)
def CloneAt (e : Ex) : Prop := ∀ (B : Nat) (w : World), e.at w B → B ≤ w.heap.size → Calls Tryz.prog 75 #[.agg #[.int .i64 e.kind, .int .i64 e.rn, .int .i64 e.rd, .string e.name, .int .i64 e.pw, .slice e.a e.l.length e.c]] w fun r w' => ∃ e' : Ex, r = .returned (.agg #[.int .i64 e'.kind, .int .i64 e'.rn, .int .i64 e'.rd, .string e'.name, .int .i64 e'.pw, .slice e'.a e'.l.length e'.c]) ∧ e'.er = e.er ∧ Kp w w' ∧ e'.made w w'
end Go.Proofs.YthaphbbeiglolaaGreat
end

section
namespace Go.Proofs.YthaphbbeiglolaaGreat
open Go.RowKit Go.Sort

set_option maxHeartbeats 4000000 in
set_option maxRecDepth 20000 in
theorem clone_anyT : ∀ e : Ex, CloneAt e := by
  refine Ex.ind fun e ih B w hat hB => ?_
  have k1 : Kp w ((w.alloc (.cells #[.int .i64 e.kind, .int .i64 e.rn, .int .i64 e.rd, .string e.name, .int .i64 e.pw, .slice e.a e.l.length e.c] 26)).alloc (.cells #[.int .i64 0, .int .i64 0, .int .i64 0, .string ⟨#[]⟩, .int .i64 0, .slice none 0 0] 26)) := ((Kp.refl w).alloc _).alloc _
  have hB1 : BoxX ((w.alloc (.cells #[.int .i64 e.kind, .int .i64 e.rn, .int .i64 e.rd, .string e.name, .int .i64 e.pw, .slice e.a e.l.length e.c] 26)).alloc (.cells #[.int .i64 0, .int .i64 0, .int .i64 0, .string ⟨#[]⟩, .int .i64 0, .slice none 0 0] 26)) w.heap.size e := (BoxX.new w e _ rfl).kp ((Kp.refl _).alloc _)
  have hB2 : BoxX ((w.alloc (.cells #[.int .i64 e.kind, .int .i64 e.rn, .int .i64 e.rd, .string e.name, .int .i64 e.pw, .slice e.a e.l.length e.c] 26)).alloc (.cells #[.int .i64 0, .int .i64 0, .int .i64 0, .string ⟨#[]⟩, .int .i64 0, .slice none 0 0] 26)) (w.heap.size + 1) Ex.zero := BoxX.new _ Ex.zero _ (by simp)
  have hz0 : ((w.alloc (.cells #[.int .i64 e.kind, .int .i64 e.rn, .int .i64 e.rd, .string e.name, .int .i64 e.pw, .slice e.a e.l.length e.c] 26)).alloc (.cells #[.int .i64 0, .int .i64 0, .int .i64 0, .string ⟨#[]⟩, .int .i64 0, .slice none 0 0] 26)).heap.size = w.heap.size + 2 := by simp
  obtain ⟨⟨hlc, hcm, hnm, hl⟩, hrow, hch⟩ := Ex.at_iff.1 hat
  go_enter Tryz.func75, Tryz.ntmps75
  go_upto_region 1 with fail
  generalize World.alloc _ _ = W at *
  have HC := Lib.hid (clonex_any e.a e.c B e.l W (hrow.kp k1) (by omega))
  have HI := Lib.hid fun x hx => ih x hx
  have HA := Lib.hid fun x hx => Ex.at_kp (hch x hx) k1
  have K1 := Lib.hid k1
  have HZ := Lib.hid hz0
  have HB2 := Lib.hid hB2
  have HB1 := Lib.hid hB1
  obtain ⟨⟨q0, q1, q2, q3, q4, q5⟩, qf, _⟩ := hB1
  clear hrow hch ih k1 hat hB2 hz0 qf
  go_upto_region 2 with (go_at_call 76; go_fit HC.out; rintro r W2 ⟨a', c', rfl, hc1, hc2, k2, hd⟩)
  have hS := CopyS.start (f := Ex.er) k2 (hd.imp id fun ⟨g, h1, h2, h3⟩ => ⟨g, h1, h2, h3⟩)
  clear k2 hd q0 q1 q2 q3 q4 q5 HC
  go_wp2
  go_loopw [10] (fun x wr => ∃ (k : Nat) (done : List Ex), x = .int .i64 (k : Int) ∧ CopyS W wr a' e.l Ex.er k done) (fun x _ => e.l.length - (intOf x).toNat)
  case atStart => exact ⟨0, [], rfl, hS⟩
  case round =>
    obtain ⟨k, done, rfl, hs⟩ := hrel
    clear hS
    have hk := hs.1.1
    by_cases hlt : k < e.l.length
    · obtain ⟨x, hx⟩ : ∃ x, e.l[k]? = some x := ⟨_, List.getElem?_eq_getElem hlt⟩
      have hxm := List.mem_of_getElem? hx
      obtain ⟨g, rfl, hg, hr⟩ : ∃ g, a' = some ⟨g, 0, none⟩ ∧ W.heap.size ≤ g ∧ RowC wr g (done ++ e.l.drop k) := by
        rcases hs.2.2.2 with h | ⟨g, h1, h2, h3, _⟩
        · rw [h] at hlt; exact absurd hlt (Nat.not_lt_zero _)
        · exact ⟨g, h1, h2, h3⟩
      obtain ⟨h0, h1, h2, h3, h4, h5⟩ := hr.1 k x ((get_done hs.1.2.1).trans hx)
      have HX := Lib.hid (HI.out x hxm B wr (Ex.at_kp (HA.out x hxm) hs.2.2.1) (by have := hs.2.2.1.size; have := HZ.out; omega))
      have Hs := Lib.hid hs
      have Hx := Lib.hid hx
      have Hr := Lib.hid hr
      clear hs hx hxm hr
      go_wp2_with (go_at_call 75; go_fit HX.out; rintro r w3 ⟨e', rfl, he, k3, hm⟩; obtain ⟨f0, f1, f2, f3, f4, f5⟩ := (Hr.out.kp k3).fr6 (k := k) (by have := Hs.out.1.2.1; simp; omega); obtain ⟨t0, t1, t2, t3, t4, t5⟩ := (Hr.out.kp k3).1 k x ((get_done Hs.out.1.2.1).trans Hx.out))
      generalize hW4 : ((((((w3.setCell _ _).setCell _ _).setCell _ _).setCell _ _).setCell _ _).setCell _ _) = W4
      have hst : Stored6 g (k * 6) e' w3 W4 := by
        subst hW4
        exact stored6X e' ((Hr.out.kp k3).1 k x ((get_done Hs.out.1.2.1).trans Hx.out))
      clear hW4
      go_roundw
      case rel => exact ⟨k + 1, done ++ [e'], by go_num, Hs.out.step Hx.out rfl (.refl _) k3 he hm hst⟩
      case measure => simp [intOf]; omega
    · obtain rfl : k = e.l.length := by omega
      obtain ⟨⟨q0, q1, q2, q3, q4, q5⟩, qf, _⟩ := HB1.out.kp hs.2.2.1
      obtain ⟨⟨z0, z1, z2, z3, z4, z5⟩, zf, _⟩ := HB2.out.kp hs.2.2.1
      have f5 := qf 5
      have g0 := zf 0
      have g1 := zf 1
      have g2 := zf 2
      have g3 := zf 3
      have g4 := zf 4
      have g5 := zf 5
      have Hs := Lib.hid hs
      clear hs qf zf
      go_wp2
      generalize hW4 : (((((((wr.setCell _ _).setCell _ _).setCell _ _).setCell _ _).setCell _ _).setCell _ _).setCell _ _) = W4
      have hn := Hs.out.1.2.1
      have kw := K1.out.trans Hs.out.2.2.1
      have hz := HZ.out
      rw [← hn] at hW4
      have hb2 : BoxX (wr.setCell ⟨w.heap.size, 5, none⟩ (.slice a' done.length c')) (w.heap.size + 1) Ex.zero := (HB2.out.kp Hs.out.2.2.1).other (fun p hp => cellset_ne (fun e => by rw [← e] at hp; simp only at hp; omega)) (fun p => by simp) (by simp)
      have hst : Stored6 (w.heap.size + 1) 0 (.mk e.kind e.rn e.rd e.name e.pw a' c' done) (wr.setCell ⟨w.heap.size, 5, none⟩ (.slice a' done.length c')) W4 := stored60 (.mk e.kind e.rn e.rd e.name e.pw a' c' done) hb2 hW4
      obtain ⟨r1, r2, r3⟩ := Hs.out.end (W4 := W4) (k := e.kind) (r := e.rn) (d := e.rd) (p := e.pw) (s := e.name) (c' := c') (lo := w.heap.size) (by omega)
        (fun b i v hb hc => by
          rw [hst.2.1 ⟨b, i, none⟩ (.inl (by show b ≠ w.heap.size + 1; omega)), cellset_ne (fun e => by injection e with e1; omega)]; exact hc)
        (fun p => (hst.2.2.1 p).trans (by simp)) (hst.2.2.2.1.trans (by simp)) hc1 hc2 hnm hl
      obtain ⟨⟨s0, s1, s2, s3, s4, s5⟩, _⟩ := hb2.stored hst
      refine bodyPost_ret (v := .agg #[.int .i64 e.kind, .int .i64 e.rn, .int .i64 e.rd, .string e.name, .int .i64 e.pw, .slice a' done.length c']) (by simp [results, Tryz.results75, go_sem, s0, s1, s2, s3, s4, s5, Ex.kind, Ex.rn, Ex.rd, Ex.name, Ex.pw, Ex.a, Ex.c, Ex.l]) rfl ?_
      refine ⟨.mk e.kind e.rn e.rd e.name e.pw a' c' done, rfl, ?_, hst.2.2.2.2 w (kw.set (Nat.le_refl _) _) (by omega), r1, r2⟩
      rw [Ex.er_iff]
      exact ⟨⟨rfl, rfl, rfl, rfl, rfl⟩, r3⟩
end Go.Proofs.YthaphbbeiglolaaGreat
end

section
namespace Go.Proofs.YthaphbbeiglolaaGreat
open Go.RowKit Go.Sort Go.Maps

/-- how an element reads: as itself -/
def heldR (v : Value) : Option (DataW Value × List MemPlace) := some (.held v, [])
/-- block b is a map of at most n entries; f is what it holds -/
def MapX (w : World) (b n : Nat) (f : ByteArray → Option Ex) : Prop :=
  ∃ D : DataW Value, w.ownsMap Tryz.prog 9 heldR b n D ∧ IsMap D ∧ ∀ s : ByteArray, Maps.has D (.string s.data.toList) = (f s).isSome ∧ ∀ x, f s = some x → ∀ z, D.atKey (.string s.data.toList) z = .held (.agg #[.int .i64 x.kind, .int .i64 x.rn, .int .i64 x.rd, .string x.name, .int .i64 x.pw, .slice x.a x.l.length x.c])
theorem keyT {s : ByteArray} (hs : s.size ≤ maxLen) : keyOf Tryz.prog 9 (.string s) = some (.string s.data.toList) := WideMaps.keyOf_string_mk Tryz.underlying9 hs
theorem zeroX (w : World) : (zeroValue 26).run Tryz.prog w = .ok (.agg #[.int .i64 Ex.zero.kind, .int .i64 Ex.zero.rn, .int .i64 Ex.zero.rd, .string Ex.zero.name, .int .i64 Ex.zero.pw, .slice Ex.zero.a Ex.zero.l.length Ex.zero.c]) w := by kernel_rfl
theorem lit_ne {s t : ByteArray} (h : t ≠ s) : (Lit.string t.data.toList) ≠ .string s.data.toList := fun e => h (by
  injection e with e
  cases s; cases t
  simp only at e
  congr 1
  exact Array.toList_inj.1 e)
theorem keylit (s : ByteArray) (hs : s.size ≤ maxLen) : WideAt.IsKeyLit (.string s.data.toList) := (string_keyed Tryz.underlying9).key (keyT hs)
theorem MapX.made (w : World) : MapX (w.alloc (.map #[] 0)) w.heap.size 0 (fun _ => none) :=
  ⟨.map [], World.ownsMap_made _ _ _ _, isMap_empty, fun s => ⟨rfl, fun x hx => by cases hx⟩⟩
theorem MapX.kp {w w' : World} {b n : Nat} {f : ByteArray → Option Ex} (h : MapX w b n f) (k : Kp w w') : MapX w' b n f := by
  obtain ⟨D, ⟨es, clock, hb, r⟩, h2⟩ := h
  exact ⟨D, ⟨es, clock, k.heap hb, r⟩, h2⟩
theorem MapX.set {w : World} {b n g i : Nat} {f : ByteArray → Option Ex} (h : MapX w b n f) (hg : b ≠ g) (v : Value) : MapX (w.setCell ⟨g, i, none⟩ v) b n f := by
  obtain ⟨D, h1, h2⟩ := h
  exact ⟨D, h1.setCell hg v, h2⟩
theorem MapX.lt {w : World} {b n : Nat} {f : ByteArray → Option Ex} (h : MapX w b n f) : b < w.heap.size := by
  obtain ⟨D, h1, _⟩ := h
  exact h1.lt
/-- one entry more -/
def updF (f : ByteArray → Option Ex) (s : ByteArray) (x : Ex) : ByteArray → Option Ex := fun t => if t = s then some x else f t
/-- the world but for the map in block b -/
structure Turn (b : Nat) (w w' : World) : Prop where
  kp : ∀ a : World, Kp a w → a.heap.size ≤ b → Kp a w'
  cell : ∀ p : Addr, p.block ≠ b → w'.cell? p = w.cell? p
  frozen : ∀ p : Addr, w'.frozen? p = w.frozen? p
  size : w'.heap.size = w.heap.size
theorem turn_of {w w' : World} {b : Nat} (h : w.mapTurned w' b) : Turn b w w' where
  kp := fun a k hb => Below.grown k h.grown k.size (fun j e => by cases e; exact hb)
  cell := fun p hp => by
    obtain ⟨es, clock, es', clock', hb, rfl⟩ := h
    have := ChangeMaps.heap_setBlock_other hb (.map es' clock') hp
    unfold World.cell?
    rw [this]
  frozen := fun p => h.frozen p
  size := by
    obtain ⟨es, clock, es', clock', hb, rfl⟩ := h
    simp [ChangeMaps.setBlock]
/-- 'v, ok := m[s]' -/
theorem wpList_lookup_map {w : World} {ops : Array Oper} {rest : List Oper} {o : Oper} {a : Act} {Q : Exit → Act → World → Prop} (hg : o.guard = none) (m x : Operand) (hop : o.op = Op.lookup 82 m x true)
    (b n : Nat) (f : ByteArray → Option Ex) (hm : a.eval m = .map (some b)) (hown : MapX w b n f) (s : ByteArray) (hx : a.eval x = .string s) (hs : s.size ≤ maxLen) (y : Ex) (ok : Bool) (hok : (f s).isSome = ok) (hy : (f s).getD Ex.zero = y)
    (hK : wpList Tryz.prog ops Q rest (a.put o.dst (.tuple #[.agg #[.int .i64 y.kind, .int .i64 y.rn, .int .i64 y.rd, .string y.name, .int .i64 y.pw, .slice y.a y.l.length y.c], .bool ok])) w) : wpList Tryz.prog ops Q (o :: rest) a w := by
  obtain ⟨D, h1, _, h2⟩ := hown
  obtain ⟨h3, h4⟩ := h2 s
  refine wpList_lookup_own_ok w hg m x 82 hop 9 26 (string_keyed Tryz.underlying9) Tryz.underlying82 heldR (zeroX w) (.held (.agg #[.int .i64 Ex.zero.kind, .int .i64 Ex.zero.rn, .int .i64 Ex.zero.rd, .string Ex.zero.name, .int .i64 Ex.zero.pw, .slice Ex.zero.a Ex.zero.l.length Ex.zero.c])) [] rfl b n D hm h1 (.string s) (.string s.data.toList) hx (keyT hs) fun v ps hv => ?_
  rw [h3, hok]
  have hv' : v = .agg #[.int .i64 y.kind, .int .i64 y.rn, .int .i64 y.rd, .string y.name, .int .i64 y.pw, .slice y.a y.l.length y.c] := by
    unfold heldR at hv
    simp only [Option.some.injEq, Prod.mk.injEq] at hv
    have hv := hv.1
    cases hf : f s with
    | none =>
      rw [hf] at h3 hy
      rw [atKey_of_not_has h3] at hv
      injection hv with hv
      rw [hv, ← hy]; rfl
    | some z =>
      rw [hf] at hy
      rw [h4 z hf] at hv
      injection hv with hv
      rw [hv, ← hy]; rfl
  rw [hv']
  exact hK
theorem run_store_map {w : World} {b n : Nat} {f : ByteArray → Option Ex} (hown : MapX w b n f) (hn : n < maxLen) (s : ByteArray) (hs : s.size ≤ maxLen) (y : Ex) :
    ∃ w', (Instr.mapUpdate 82 (.map (some b)) (.string s) (.agg #[.int .i64 y.kind, .int .i64 y.rn, .int .i64 y.rd, .string y.name, .int .i64 y.pw, .slice y.a y.l.length y.c])).run Tryz.prog w = .ok () w' ∧ MapX w' b (n + 1) (updF f s y) ∧ Turn b w w' := by
  obtain ⟨D, h1, hI, h2⟩ := hown
  obtain ⟨w', hrun, r1, r2⟩ := h1.store (string_keyed Tryz.underlying9) Tryz.underlying82 hn (keyT hs) (val := .agg #[.int .i64 y.kind, .int .i64 y.rn, .int .i64 y.rd, .string y.name, .int .i64 y.pw, .slice y.a y.l.length y.c]) rfl
  refine ⟨w', hrun, ⟨_, r1, hI.put _ _, fun t => ?_⟩, turn_of r2⟩
  unfold updF
  by_cases ht : t = s
  · subst ht
    rw [if_pos rfl]
    exact ⟨has_put_same hI (keylit t hs) _, fun x hx z => by cases hx; exact atKey_put_same hI (keylit t hs) _ z⟩
  · rw [if_neg ht]
    obtain ⟨h3, h4⟩ := h2 t
    exact ⟨(has_put_other (lit_ne ht) _).trans h3, fun x hx z => (atKey_put_other (lit_ne ht) _ z).trans (h4 x hx z)⟩
/-- 'map[string]T{.. s: x ..}' -/
theorem wpList_insert_map {w : World} {ops : Array Oper} {rest : List Oper} {o : Oper} {a : Act} {Q : Exit → Act → World → Prop} (hg : o.guard = none) (m x v : Operand) (hop : o.op = Op.insert 82 m x v)
    (b n : Nat) (f : ByteArray → Option Ex) (hm : a.eval m = .map (some b)) (hown : MapX w b n f) (hn : n < maxLen) (s : ByteArray) (hx : a.eval x = .string s) (hs : s.size ≤ maxLen) (y : Ex) (hv : a.eval v = .agg #[.int .i64 y.kind, .int .i64 y.rn, .int .i64 y.rd, .string y.name, .int .i64 y.pw, .slice y.a y.l.length y.c])
    (hK : ∀ w', MapX w' b (n + 1) (updF f s y) → Turn b w w' → wpList Tryz.prog ops Q rest (a.put o.dst undef) w') : wpList Tryz.prog ops Q (o :: rest) a w := by
  refine wpList_plain hg fun K' hK' => ?_
  obtain ⟨w', hrun, r1, r2⟩ := run_store_map hown hn s hs y
  unfold Oper.wp
  simp [execOp, hop, hm, hx, hv, hrun, Result.andThen]
  exact hK' _ _ (hK w' r1 r2)
end Go.Proofs.YthaphbbeiglolaaGreat
end

section
namespace Go.Proofs.YthaphbbeiglolaaGreat
open Go.RowKit Go.Sort

/-- every entry of the map is a tree below B -/
def FunX (w : World) (B : Nat) (f : ByteArray → Option Ex) : Prop := ∀ s x, f s = some x → x.at w B
def ChangeAt (e : Ex) : Prop := ∀ (B b n : Nat) (f : ByteArray → Option Ex) (w : World), e.at w B → B ≤ w.heap.size → MapX w b n f → FunX w B f →
  Calls Tryz.prog 45 #[.agg #[.int .i64 e.kind, .int .i64 e.rn, .int .i64 e.rd, .string e.name, .int .i64 e.pw, .slice e.a e.l.length e.c], .map (some b)] w fun r w' => ∃ e' : Ex, r = .returned (.agg #[.int .i64 e'.kind, .int .i64 e'.rn, .int .i64 e'.rd, .string e'.name, .int .i64 e'.pw, .slice e'.a e'.l.length e'.c]) ∧ e'.er = (e.sub f).er ∧ Kp w w' ∧ e'.made w w'
set_option maxHeartbeats 4000000 in
set_option maxRecDepth 20000 in
theorem change_any : ∀ e : Ex, ChangeAt e := by
  refine Ex.ind fun e ih B b n f w hat hB hmap hfun => ?_
  have k1 : Kp w ((w.alloc (.cells #[.int .i64 e.kind, .int .i64 e.rn, .int .i64 e.rd, .string e.name, .int .i64 e.pw, .slice e.a e.l.length e.c] 26)).alloc (.cells #[.int .i64 0, .int .i64 0, .int .i64 0, .string ⟨#[]⟩, .int .i64 0, .slice none 0 0] 26)) := ((Kp.refl w).alloc _).alloc _
  have hB1 : BoxX ((w.alloc (.cells #[.int .i64 e.kind, .int .i64 e.rn, .int .i64 e.rd, .string e.name, .int .i64 e.pw, .slice e.a e.l.length e.c] 26)).alloc (.cells #[.int .i64 0, .int .i64 0, .int .i64 0, .string ⟨#[]⟩, .int .i64 0, .slice none 0 0] 26)) w.heap.size e := (BoxX.new w e _ rfl).kp ((Kp.refl _).alloc _)
  have hB2 : BoxX ((w.alloc (.cells #[.int .i64 e.kind, .int .i64 e.rn, .int .i64 e.rd, .string e.name, .int .i64 e.pw, .slice e.a e.l.length e.c] 26)).alloc (.cells #[.int .i64 0, .int .i64 0, .int .i64 0, .string ⟨#[]⟩, .int .i64 0, .slice none 0 0] 26)) (w.heap.size + 1) Ex.zero := BoxX.new _ Ex.zero _ (by simp)
  have hz0 : ((w.alloc (.cells #[.int .i64 e.kind, .int .i64 e.rn, .int .i64 e.rd, .string e.name, .int .i64 e.pw, .slice e.a e.l.length e.c] 26)).alloc (.cells #[.int .i64 0, .int .i64 0, .int .i64 0, .string ⟨#[]⟩, .int .i64 0, .slice none 0 0] 26)).heap.size = w.heap.size + 2 := by simp
  obtain ⟨⟨hlc, hcm, hnm, hl⟩, hrow, hch⟩ := Ex.at_iff.1 hat
  have HSub := Lib.hid (Ex.sub_eq f e)
  go_enter Tryz.func45, Tryz.ntmps45
  go_upto_region 1 with fail
  generalize World.alloc _ _ = W at *
  have HM := Lib.hid (hmap.kp k1)
  have HF := Lib.hid fun s x (h : f s = some x) => Ex.at_kp (hfun s x h) k1
  have HC := Lib.hid (hrow.kp k1)
  have HI := Lib.hid fun x hx => ih x hx
  have HA := Lib.hid fun x hx => Ex.at_kp (hch x hx) k1
  have K1 := Lib.hid k1
  have HZ := Lib.hid hz0
  have HB2 := Lib.hid hB2
  have HB1 := Lib.hid hB1
  obtain ⟨y, hy⟩ : ∃ y, (f e.name).getD Ex.zero = y := ⟨_, rfl⟩
  obtain ⟨ok, hok⟩ : ∃ ok, (f e.name).isSome = ok := ⟨_, rfl⟩
  have HY := Lib.hid hy
  have HO := Lib.hid hok
  obtain ⟨⟨q0, q1, q2, q3, q4, q5⟩, qf, _⟩ := hB1
  clear hrow hch ih k1 hat hB2 hz0 qf hmap hfun hy hok
  go_upto_region 2 with (at_lookup; refine wpList_lookup_map rfl _ _ rfl b n f rfl HM.out e.name rfl hnm y ok HO.out HY.out ?_)
  have kv : Kp W (W.alloc (.cells #[.int .i64 y.kind, .int .i64 y.rn, .int .i64 y.rd, .string y.name, .int .i64 y.pw, .slice y.a y.l.length y.c] 26)) := (Kp.refl W).alloc _
  have hB3 : BoxX (W.alloc (.cells #[.int .i64 y.kind, .int .i64 y.rn, .int .i64 y.rd, .string y.name, .int .i64 y.pw, .slice y.a y.l.length y.c] 26)) W.heap.size y := BoxX.new W y _ rfl
  have hzv : (W.alloc (.cells #[.int .i64 y.kind, .int .i64 y.rn, .int .i64 y.rd, .string y.name, .int .i64 y.pw, .slice y.a y.l.length y.c] 26)).heap.size = W.heap.size + 1 := by simp
  generalize W.alloc _ = V at *
  have HA := Lib.hid fun x hx => Ex.at_kp (HA.out x hx) kv
  have HF := Lib.hid fun s x h => Ex.at_kp (HF.out s x h) kv
  have HM := Lib.hid (HM.out.kp kv)
  have hrow := HC.out.kp kv
  have HB1 := Lib.hid (HB1.out.kp kv)
  have HB2 := Lib.hid (HB2.out.kp kv)
  have K1 := Lib.hid (K1.out.trans kv)
  have HZ := Lib.hid (show w.heap.size + 2 ≤ V.heap.size by have := HZ.out; omega)
  have HC := Lib.hid (clonex_any e.a e.c B e.l V hrow (by omega))
  obtain ⟨q0, q1, q2, q3, q4, q5⟩ := keepE6 kv ⟨q0, q1, q2, q3, q4, q5⟩
  obtain ⟨⟨y0, y1, y2, y3, y4, y5⟩, _⟩ := hB3
  clear kv hzv hrow
  cases ok with
  | true =>
    by_cases c2 : e.kind = 2
    · have ck : (e.kind == 2) = true := by rw [c2]; rfl
      have hsome : f e.name = some y := by
        have h1 := HO.out
        have h2 := HY.out
        cases hf : f e.name with
        | none => rw [hf] at h1; cases h1
        | some z => rw [hf] at h2; exact congrArg some h2
      have HN := Lib.hid (clone_anyT y B V (HF.out e.name y hsome) (by have := HZ.out; omega))
      have HE := Lib.hid (show e.sub f = y by rw [HSub.out, if_pos ⟨c2, HO.out⟩, hsome]; rfl)
      clear HA HF HM HC HI HSub c2 hsome HY HO hlc hcm hl hnm
      go_wp2_with (go_at_call 75; go_fit HN.out; rintro r w3 ⟨e', rfl, he, k3, hm⟩; obtain ⟨⟨z0, z1, z2, z3, z4, z5⟩, zf, _⟩ := HB2.out.kp k3; have g0 := zf 0; have g1 := zf 1; have g2 := zf 2; have g3 := zf 3; have g4 := zf 4; have g5 := zf 5)
      generalize hW4 : ((((((w3.setCell _ _).setCell _ _).setCell _ _).setCell _ _).setCell _ _).setCell _ _) = W4
      have hb2 := HB2.out.kp k3
      have hst : Stored6 (w.heap.size + 1) 0 e' w3 W4 := stored60 e' hb2 hW4
      obtain ⟨⟨s0, s1, s2, s3, s4, s5⟩, _⟩ := hb2.stored hst
      have hz := HZ.out
      have hz3 : W4.heap.size = w3.heap.size := hst.2.2.2.1
      refine bodyPost_ret (v := .agg #[.int .i64 e'.kind, .int .i64 e'.rn, .int .i64 e'.rd, .string e'.name, .int .i64 e'.pw, .slice e'.a e'.l.length e'.c]) (by simp [results, Tryz.results45, go_sem, s0, s1, s2, s3, s4, s5]) rfl ?_
      refine ⟨e', rfl, by rw [HE.out, he], hst.2.2.2.2 w (K1.out.trans k3) (by omega), ?_, ?_⟩
      · exact Ex.at_own' (by rw [hz3]; exact Nat.le_refl _) e' _ _ hm.2 (fun b i v hb _ hc => by rw [hst.2.1 ⟨b, i, none⟩ (.inl (by show b ≠ w.heap.size + 1; omega))]; exact hc) hm.1
      · rw [hz3]
        exact Ex.own_same _ _ _ (fun b i _ _ => hst.2.2.1 _) (Ex.own_down hm.2 (by omega))
    · have ck : (e.kind == 2) = false := by rw [beq_eq_false_iff_ne]; exact c2
      have HSub := Lib.hid (show e.sub f = _ from HSub.out.trans (if_neg fun h => c2 h.1))
      clear c2 HY HO
      go_upto_region 5 with (go_at_call 76; go_fit HC.out; rintro r W2 ⟨a', c', rfl, hc1, hc2, k2, hd⟩)
      have hS := CopyS.start (f := fun x => (Ex.sub f x).er) k2 (hd.imp id fun ⟨g, h1, h2, h3⟩ => ⟨g, h1, h2, h3⟩)
      clear k2 hd q0 q1 q2 q3 q4 q5 y0 y1 y2 y3 y4 y5 HC
      go_wp2
      go_loopw [29] (fun x wr => ∃ (k : Nat) (done : List Ex), x = .int .i64 (k : Int) ∧ CopyS V wr a' e.l (fun x => (Ex.sub f x).er) k done) (fun x _ => e.l.length - (intOf x).toNat)
      case atStart => exact ⟨0, [], rfl, hS⟩
      case round =>
        obtain ⟨k, done, rfl, hs⟩ := hrel
        clear hS
        have hk := hs.1.1
        by_cases hlt : k < e.l.length
        · obtain ⟨x, hx⟩ : ∃ x, e.l[k]? = some x := ⟨_, List.getElem?_eq_getElem hlt⟩
          have hxm := List.mem_of_getElem? hx
          obtain ⟨g, rfl, hg, hr⟩ : ∃ g, a' = some ⟨g, 0, none⟩ ∧ V.heap.size ≤ g ∧ RowC wr g (done ++ e.l.drop k) := by
            rcases hs.2.2.2 with h | ⟨g, h1, h2, h3, _⟩
            · rw [h] at hlt; exact absurd hlt (Nat.not_lt_zero _)
            · exact ⟨g, h1, h2, h3⟩
          obtain ⟨h0, h1, h2, h3, h4, h5⟩ := hr.1 k x ((get_done hs.1.2.1).trans hx)
          have HX := Lib.hid (HI.out x hxm B b n f wr (Ex.at_kp (HA.out x hxm) hs.2.2.1) (by have := hs.2.2.1.size; have := HZ.out; omega) (HM.out.kp hs.2.2.1) (fun s z hz => Ex.at_kp (HF.out s z hz) hs.2.2.1))
          have Hs := Lib.hid hs
          have Hx := Lib.hid hx
          have Hr := Lib.hid hr
          clear hs hx hxm hr
          go_wp2_with (go_at_call 45; go_fit HX.out; rintro r w3 ⟨e', rfl, he, k3, hm⟩; obtain ⟨f0, f1, f2, f3, f4, f5⟩ := (Hr.out.kp k3).fr6 (k := k) (by have := Hs.out.1.2.1; simp; omega); obtain ⟨t0, t1, t2, t3, t4, t5⟩ := (Hr.out.kp k3).1 k x ((get_done Hs.out.1.2.1).trans Hx.out))
          generalize hW4 : ((((((w3.setCell _ _).setCell _ _).setCell _ _).setCell _ _).setCell _ _).setCell _ _) = W4
          have hst : Stored6 g (k * 6) e' w3 W4 := by
            subst hW4
            exact stored6X e' ((Hr.out.kp k3).1 k x ((get_done Hs.out.1.2.1).trans Hx.out))
          clear hW4
          go_roundw
          case rel => exact ⟨k + 1, done ++ [e'], by go_num, Hs.out.step Hx.out rfl (.refl _) k3 he hm hst⟩
          case measure => simp [intOf]; omega
        · obtain rfl : k = e.l.length := by omega
          obtain ⟨⟨q0, q1, q2, q3, q4, q5⟩, qf, _⟩ := HB1.out.kp hs.2.2.1
          obtain ⟨⟨z0, z1, z2, z3, z4, z5⟩, zf, _⟩ := HB2.out.kp hs.2.2.1
          have f5 := qf 5
          have g0 := zf 0
          have g1 := zf 1
          have g2 := zf 2
          have g3 := zf 3
          have g4 := zf 4
          have g5 := zf 5
          have Hs := Lib.hid hs
          clear hs qf zf
          go_wp2
          generalize hW4 : (((((((wr.setCell _ _).setCell _ _).setCell _ _).setCell _ _).setCell _ _).setCell _ _).setCell _ _) = W4
          have hn := Hs.out.1.2.1
          have kw := K1.out.trans Hs.out.2.2.1
          have hz := HZ.out
          rw [← hn] at hW4
          have hb2 : BoxX (wr.setCell ⟨w.heap.size, 5, none⟩ (.slice a' done.length c')) (w.heap.size + 1) Ex.zero := (HB2.out.kp Hs.out.2.2.1).other (fun p hp => cellset_ne (fun e => by rw [← e] at hp; simp only at hp; omega)) (fun p => by simp) (by simp)
          have hst : Stored6 (w.heap.size + 1) 0 (.mk e.kind e.rn e.rd e.name e.pw a' c' done) (wr.setCell ⟨w.heap.size, 5, none⟩ (.slice a' done.length c')) W4 := stored60 (.mk e.kind e.rn e.rd e.name e.pw a' c' done) hb2 hW4
          obtain ⟨r1, r2, r3⟩ := Hs.out.end (W4 := W4) (k := e.kind) (r := e.rn) (d := e.rd) (p := e.pw) (s := e.name) (c' := c') (lo := w.heap.size) (by omega)
            (fun b i v hb hc => by
              rw [hst.2.1 ⟨b, i, none⟩ (.inl (by show b ≠ w.heap.size + 1; omega)), cellset_ne (fun e => by injection e with e1; omega)]; exact hc)
            (fun p => (hst.2.2.1 p).trans (by simp)) (hst.2.2.2.1.trans (by simp)) hc1 hc2 hnm hl
          obtain ⟨⟨s0, s1, s2, s3, s4, s5⟩, _⟩ := hb2.stored hst
          refine bodyPost_ret (v := .agg #[.int .i64 e.kind, .int .i64 e.rn, .int .i64 e.rd, .string e.name, .int .i64 e.pw, .slice a' done.length c']) (by simp [results, Tryz.results45, go_sem, s0, s1, s2, s3, s4, s5, Ex.kind, Ex.rn, Ex.rd, Ex.name, Ex.pw, Ex.a, Ex.c, Ex.l]) rfl ?_
          refine ⟨.mk e.kind e.rn e.rd e.name e.pw a' c' done, rfl, ?_, hst.2.2.2.2 w (kw.set (Nat.le_refl _) _) (by omega), r1, r2⟩
          rw [HSub.out, Ex.er_iff]
          exact ⟨⟨rfl, rfl, rfl, rfl, rfl⟩, r3.trans (by rw [show (Ex.mk e.kind e.rn e.rd e.name e.pw none 0 (e.l.map (Ex.sub f))).l = e.l.map (Ex.sub f) from rfl, List.map_map]; rfl)⟩
  | false =>
    have HSub := Lib.hid (show e.sub f = _ from HSub.out.trans (if_neg fun h => by rw [HO.out] at h; exact absurd h.2 (by decide)))
    clear HY HO
    go_upto_region 5 with (go_at_call 76; go_fit HC.out; rintro r W2 ⟨a', c', rfl, hc1, hc2, k2, hd⟩)
    have hS := CopyS.start (f := fun x => (Ex.sub f x).er) k2 (hd.imp id fun ⟨g, h1, h2, h3⟩ => ⟨g, h1, h2, h3⟩)
    clear k2 hd q0 q1 q2 q3 q4 q5 y0 y1 y2 y3 y4 y5 HC
    go_wp2
    go_loopw [29] (fun x wr => ∃ (k : Nat) (done : List Ex), x = .int .i64 (k : Int) ∧ CopyS V wr a' e.l (fun x => (Ex.sub f x).er) k done) (fun x _ => e.l.length - (intOf x).toNat)
    case atStart => exact ⟨0, [], rfl, hS⟩
    case round =>
      obtain ⟨k, done, rfl, hs⟩ := hrel
      clear hS
      have hk := hs.1.1
      by_cases hlt : k < e.l.length
      · obtain ⟨x, hx⟩ : ∃ x, e.l[k]? = some x := ⟨_, List.getElem?_eq_getElem hlt⟩
        have hxm := List.mem_of_getElem? hx
        obtain ⟨g, rfl, hg, hr⟩ : ∃ g, a' = some ⟨g, 0, none⟩ ∧ V.heap.size ≤ g ∧ RowC wr g (done ++ e.l.drop k) := by
          rcases hs.2.2.2 with h | ⟨g, h1, h2, h3, _⟩
          · rw [h] at hlt; exact absurd hlt (Nat.not_lt_zero _)
          · exact ⟨g, h1, h2, h3⟩
        obtain ⟨h0, h1, h2, h3, h4, h5⟩ := hr.1 k x ((get_done hs.1.2.1).trans hx)
        have HX := Lib.hid (HI.out x hxm B b n f wr (Ex.at_kp (HA.out x hxm) hs.2.2.1) (by have := hs.2.2.1.size; have := HZ.out; omega) (HM.out.kp hs.2.2.1) (fun s z hz => Ex.at_kp (HF.out s z hz) hs.2.2.1))
        have Hs := Lib.hid hs
        have Hx := Lib.hid hx
        have Hr := Lib.hid hr
        clear hs hx hxm hr
        go_wp2_with (go_at_call 45; go_fit HX.out; rintro r w3 ⟨e', rfl, he, k3, hm⟩; obtain ⟨f0, f1, f2, f3, f4, f5⟩ := (Hr.out.kp k3).fr6 (k := k) (by have := Hs.out.1.2.1; simp; omega); obtain ⟨t0, t1, t2, t3, t4, t5⟩ := (Hr.out.kp k3).1 k x ((get_done Hs.out.1.2.1).trans Hx.out))
        generalize hW4 : ((((((w3.setCell _ _).setCell _ _).setCell _ _).setCell _ _).setCell _ _).setCell _ _) = W4
        have hst : Stored6 g (k * 6) e' w3 W4 := by
          subst hW4
          exact stored6X e' ((Hr.out.kp k3).1 k x ((get_done Hs.out.1.2.1).trans Hx.out))
        clear hW4
        go_roundw
        case rel => exact ⟨k + 1, done ++ [e'], by go_num, Hs.out.step Hx.out rfl (.refl _) k3 he hm hst⟩
        case measure => simp [intOf]; omega
      · obtain rfl : k = e.l.length := by omega
        obtain ⟨⟨q0, q1, q2, q3, q4, q5⟩, qf, _⟩ := HB1.out.kp hs.2.2.1
        obtain ⟨⟨z0, z1, z2, z3, z4, z5⟩, zf, _⟩ := HB2.out.kp hs.2.2.1
        have f5 := qf 5
        have g0 := zf 0
        have g1 := zf 1
        have g2 := zf 2
        have g3 := zf 3
        have g4 := zf 4
        have g5 := zf 5
        have Hs := Lib.hid hs
        clear hs qf zf
        go_wp2
        generalize hW4 : (((((((wr.setCell _ _).setCell _ _).setCell _ _).setCell _ _).setCell _ _).setCell _ _).setCell _ _) = W4
        have hn := Hs.out.1.2.1
        have kw := K1.out.trans Hs.out.2.2.1
        have hz := HZ.out
        rw [← hn] at hW4
        have hb2 : BoxX (wr.setCell ⟨w.heap.size, 5, none⟩ (.slice a' done.length c')) (w.heap.size + 1) Ex.zero := (HB2.out.kp Hs.out.2.2.1).other (fun p hp => cellset_ne (fun e => by rw [← e] at hp; simp only at hp; omega)) (fun p => by simp) (by simp)
        have hst : Stored6 (w.heap.size + 1) 0 (.mk e.kind e.rn e.rd e.name e.pw a' c' done) (wr.setCell ⟨w.heap.size, 5, none⟩ (.slice a' done.length c')) W4 := stored60 (.mk e.kind e.rn e.rd e.name e.pw a' c' done) hb2 hW4
        obtain ⟨r1, r2, r3⟩ := Hs.out.end (W4 := W4) (k := e.kind) (r := e.rn) (d := e.rd) (p := e.pw) (s := e.name) (c' := c') (lo := w.heap.size) (by omega)
          (fun b i v hb hc => by
            rw [hst.2.1 ⟨b, i, none⟩ (.inl (by show b ≠ w.heap.size + 1; omega)), cellset_ne (fun e => by injection e with e1; omega)]; exact hc)
          (fun p => (hst.2.2.1 p).trans (by simp)) (hst.2.2.2.1.trans (by simp)) hc1 hc2 hnm hl
        obtain ⟨⟨s0, s1, s2, s3, s4, s5⟩, _⟩ := hb2.stored hst
        refine bodyPost_ret (v := .agg #[.int .i64 e.kind, .int .i64 e.rn, .int .i64 e.rd, .string e.name, .int .i64 e.pw, .slice a' done.length c']) (by simp [results, Tryz.results45, go_sem, s0, s1, s2, s3, s4, s5, Ex.kind, Ex.rn, Ex.rd, Ex.name, Ex.pw, Ex.a, Ex.c, Ex.l]) rfl ?_
        refine ⟨.mk e.kind e.rn e.rd e.name e.pw a' c' done, rfl, ?_, hst.2.2.2.2 w (kw.set (Nat.le_refl _) _) (by omega), r1, r2⟩
        rw [HSub.out, Ex.er_iff]
        exact ⟨⟨rfl, rfl, rfl, rfl, rfl⟩, r3.trans (by rw [show (Ex.mk e.kind e.rn e.rd e.name e.pw none 0 (e.l.map (Ex.sub f))).l = e.l.map (Ex.sub f) from rfl, List.map_map]; rfl)⟩
end Go.Proofs.YthaphbbeiglolaaGreat
end

section
namespace Go.Proofs.YthaphbbeiglolaaGreat
open Go.RowKit Go.Sort

/-- one name, replaced -/
def oneF (name : ByteArray) (y : Ex) : ByteArray → Option Ex := updF (fun _ => none) name y
/-- Replace's error -/
def replF (e : Ex) (name : ByteArray) (y : Ex) : Int := if e.ok = true ∧ y.ok = true ∧ nameB name = true then (if (e.sub (oneF name y)).ok = true then 0 else 5) else 1
theorem zero_made {w0 w : World} (h : w0.heap.size ≤ w.heap.size) : Ex.zero.made w0 w :=
  ⟨Ex.at_iff.2 ⟨⟨Nat.le_refl _, by decide, by decide, Nat.zero_le _⟩, fun i x hx => by simp [Ex.zero, Ex.l] at hx, fun x hx => by simp [Ex.zero, Ex.l] at hx⟩, Ex.own_iff.2 ⟨h, .inl rfl⟩⟩
theorem replF_eq (e : Ex) (name : ByteArray) (y : Ex) : replF e name y = if e.ok = true ∧ y.ok = true ∧ nameB name = true then (if (e.sub (oneF name y)).ok = true then 0 else 5) else 1 := rfl
/-- what Replace answers -/
def ReplOut (w w' : World) (e : Ex) (name : ByteArray) (y x : Ex) : Prop := Kp w w' ∧ x.made w w' ∧ ((replF e name y = 0 ∧ x.er = (e.sub (oneF name y)).er) ∨ (replF e name y ≠ 0 ∧ x = Ex.zero))
set_option maxHeartbeats 4000000 in
set_option maxRecDepth 20000 in
theorem replace_any (e y : Ex) (name : ByteArray) (B : Nat) (w : World) (hat : e.at w B) (hay : y.at w B) (hB : B ≤ w.heap.size) (hnm : name.size ≤ maxLen) :
    Calls Tryz.prog 17 #[.agg #[.int .i64 e.kind, .int .i64 e.rn, .int .i64 e.rd, .string e.name, .int .i64 e.pw, .slice e.a e.l.length e.c], .string name, .agg #[.int .i64 y.kind, .int .i64 y.rn, .int .i64 y.rd, .string y.name, .int .i64 y.pw, .slice y.a y.l.length y.c]] w fun r w' => ∃ x : Ex, r = .returned (.tuple #[.agg #[.int .i64 x.kind, .int .i64 x.rn, .int .i64 x.rd, .string x.name, .int .i64 x.pw, .slice x.a x.l.length x.c], .int .i64 (replF e name y)]) ∧ ReplOut w w' e name y x := by
  have k1 : Kp w (((w.alloc (.cells #[.int .i64 e.kind, .int .i64 e.rn, .int .i64 e.rd, .string e.name, .int .i64 e.pw, .slice e.a e.l.length e.c] 26)).alloc (.cells #[.int .i64 y.kind, .int .i64 y.rn, .int .i64 y.rd, .string y.name, .int .i64 y.pw, .slice y.a y.l.length y.c] 26)).alloc (.cells #[.int .i64 0, .int .i64 0, .int .i64 0, .string ⟨#[]⟩, .int .i64 0, .slice none 0 0] 26)) := (((Kp.refl w).alloc _).alloc _).alloc _
  have hB1 : BoxX (((w.alloc (.cells #[.int .i64 e.kind, .int .i64 e.rn, .int .i64 e.rd, .string e.name, .int .i64 e.pw, .slice e.a e.l.length e.c] 26)).alloc (.cells #[.int .i64 y.kind, .int .i64 y.rn, .int .i64 y.rd, .string y.name, .int .i64 y.pw, .slice y.a y.l.length y.c] 26)).alloc (.cells #[.int .i64 0, .int .i64 0, .int .i64 0, .string ⟨#[]⟩, .int .i64 0, .slice none 0 0] 26)) w.heap.size e := (BoxX.new w e _ rfl).kp (((Kp.refl _).alloc _).alloc _)
  have hB2 : BoxX (((w.alloc (.cells #[.int .i64 e.kind, .int .i64 e.rn, .int .i64 e.rd, .string e.name, .int .i64 e.pw, .slice e.a e.l.length e.c] 26)).alloc (.cells #[.int .i64 y.kind, .int .i64 y.rn, .int .i64 y.rd, .string y.name, .int .i64 y.pw, .slice y.a y.l.length y.c] 26)).alloc (.cells #[.int .i64 0, .int .i64 0, .int .i64 0, .string ⟨#[]⟩, .int .i64 0, .slice none 0 0] 26)) (w.heap.size + 1) y := (BoxX.new _ y _ (by simp)).kp ((Kp.refl _).alloc _)
  have hB3 : BoxX (((w.alloc (.cells #[.int .i64 e.kind, .int .i64 e.rn, .int .i64 e.rd, .string e.name, .int .i64 e.pw, .slice e.a e.l.length e.c] 26)).alloc (.cells #[.int .i64 y.kind, .int .i64 y.rn, .int .i64 y.rd, .string y.name, .int .i64 y.pw, .slice y.a y.l.length y.c] 26)).alloc (.cells #[.int .i64 0, .int .i64 0, .int .i64 0, .string ⟨#[]⟩, .int .i64 0, .slice none 0 0] 26)) (w.heap.size + 1 + 1) Ex.zero := BoxX.new _ Ex.zero _ (by simp)
  have hz0 : (((w.alloc (.cells #[.int .i64 e.kind, .int .i64 e.rn, .int .i64 e.rd, .string e.name, .int .i64 e.pw, .slice e.a e.l.length e.c] 26)).alloc (.cells #[.int .i64 y.kind, .int .i64 y.rn, .int .i64 y.rd, .string y.name, .int .i64 y.pw, .slice y.a y.l.length y.c] 26)).alloc (.cells #[.int .i64 0, .int .i64 0, .int .i64 0, .string ⟨#[]⟩, .int .i64 0, .slice none 0 0] 26)).heap.size = w.heap.size + 3 := by simp
  have HR := Lib.hid (replF_eq e name y)
  have hmm := @run_makeMap Tryz.prog
  go_enter Tryz.func17, Tryz.ntmps17
  go_upto_region 1 with fail
  generalize World.alloc _ _ = W at *
  have HA := Lib.hid (Ex.at_kp hat k1)
  have HAY := Lib.hid (Ex.at_kp hay k1)
  have K1 := Lib.hid k1
  have HZ := Lib.hid hz0
  have HB1 := Lib.hid hB1
  have HB2 := Lib.hid hB2
  have HB3 := Lib.hid hB3
  have hBW : B ≤ W.heap.size := by omega
  have HV1 := Lib.hid (tvalid_any e B W HA.out hBW)
  have HV2 := Lib.hid fun W' (k : Kp W W') => tvalid_any y B W' (Ex.at_kp HAY.out k) (Nat.le_trans hBW k.size)
  have HN := Lib.hid fun W' => lname_any name W' hnm
  obtain ⟨⟨q0, q1, q2, q3, q4, q5⟩, _⟩ := hB1
  clear k1 hat hay hB2 hB3 hz0
  rcases Bool.eq_false_or_eq_true e.ok with h1 | h1
  rotate_left
  · rw [h1] at HV1
    have H1 := Lib.hid h1
    clear h1 HA HAY HV2 HN hmm
    go_wp2_with (first | (go_at_call 6; go_fit HV1.out; rintro r w2 ⟨rfl, k2⟩; clear HV1; obtain ⟨⟨z0, z1, z2, z3, z4, z5⟩, zf, _⟩ := HB3.out.kp k2; have g0 := zf 0; have g1 := zf 1; have g2 := zf 2; have g3 := zf 3; have g4 := zf 4; have g5 := zf 5) | fail)
    generalize hW9 : ((((((w2.setCell _ _).setCell _ _).setCell _ _).setCell _ _).setCell _ _).setCell _ _) = W9
    have hb := HB3.out.kp k2
    have hst : Stored6 (w.heap.size + 1 + 1) 0 Ex.zero w2 W9 := stored60 Ex.zero hb hW9
    obtain ⟨⟨s0, s1, s2, s3, s4, s5⟩, _⟩ := hb.stored hst
    have hz := HZ.out
    have hz9 := hst.2.2.2.1
    have hkw := (K1.out.trans k2).size
    refine bodyPost_ret (v := .tuple #[.agg #[.int .i64 Ex.zero.kind, .int .i64 Ex.zero.rn, .int .i64 Ex.zero.rd, .string Ex.zero.name, .int .i64 Ex.zero.pw, .slice Ex.zero.a Ex.zero.l.length Ex.zero.c], .int .i64 1]) (by simp [results, Tryz.results17, go_sem, s0, s1, s2, s3, s4, s5]) rfl ?_
    have hrf : replF e name y = 1 := by rw [HR.out, if_neg (by rw [H1.out]; exact fun h => absurd h.1 (by decide))]
    refine ⟨Ex.zero, by rw [hrf], hst.2.2.2.2 w (K1.out.trans k2) (by omega), zero_made (by omega), .inr ⟨by rw [hrf]; decide, rfl⟩⟩
  rcases Bool.eq_false_or_eq_true y.ok with h2 | h2
  rotate_left
  · rw [h1] at HV1
    rw [h2] at HV2
    have H2 := Lib.hid h2
    clear h1 h2 HA HAY HN hmm
    go_wp2_with (first | (go_at_call 6; go_fit HV1.out; rintro r w2 ⟨rfl, k2⟩; clear HV1; obtain ⟨⟨y0, y1, y2, y3, y4, y5⟩, _⟩ := HB2.out.kp k2) | (go_at_call 6; go_fit (HV2.out _ k2); rintro r w3 ⟨rfl, k3⟩; have kk := k2.trans k3; clear HV2; obtain ⟨⟨z0, z1, z2, z3, z4, z5⟩, zf, _⟩ := HB3.out.kp kk; have g0 := zf 0; have g1 := zf 1; have g2 := zf 2; have g3 := zf 3; have g4 := zf 4; have g5 := zf 5) | fail)
    generalize hW9 : ((((((w3.setCell _ _).setCell _ _).setCell _ _).setCell _ _).setCell _ _).setCell _ _) = W9
    have hb := HB3.out.kp kk
    have hst : Stored6 (w.heap.size + 1 + 1) 0 Ex.zero w3 W9 := stored60 Ex.zero hb hW9
    obtain ⟨⟨s0, s1, s2, s3, s4, s5⟩, _⟩ := hb.stored hst
    have hz := HZ.out
    have hz9 := hst.2.2.2.1
    have hkw := (K1.out.trans kk).size
    refine bodyPost_ret (v := .tuple #[.agg #[.int .i64 Ex.zero.kind, .int .i64 Ex.zero.rn, .int .i64 Ex.zero.rd, .string Ex.zero.name, .int .i64 Ex.zero.pw, .slice Ex.zero.a Ex.zero.l.length Ex.zero.c], .int .i64 1]) (by simp [results, Tryz.results17, go_sem, s0, s1, s2, s3, s4, s5]) rfl ?_
    have hrf : replF e name y = 1 := by rw [HR.out, if_neg (by rw [H2.out]; exact fun h => absurd h.2.1 (by decide))]
    refine ⟨Ex.zero, by rw [hrf], hst.2.2.2.2 w (K1.out.trans kk) (by omega), zero_made (by omega), .inr ⟨by rw [hrf]; decide, rfl⟩⟩
  rcases Bool.eq_false_or_eq_true (nameB name) with h3 | h3
  rotate_left
  · rw [h1] at HV1
    rw [h2] at HV2
    rw [h3] at HN
    have H3 := Lib.hid h3
    clear h1 h2 h3 HA HAY hmm
    go_wp2_with (first | (go_at_call 6; go_fit HV1.out; rintro r w2 ⟨rfl, k2⟩; clear HV1; obtain ⟨⟨y0, y1, y2, y3, y4, y5⟩, _⟩ := HB2.out.kp k2) | (go_at_call 6; go_fit (HV2.out _ k2); rintro r w3 ⟨rfl, k3⟩; have kk := k2.trans k3; clear HV2; obtain ⟨⟨z0, z1, z2, z3, z4, z5⟩, zf, _⟩ := HB3.out.kp kk; have g0 := zf 0; have g1 := zf 1; have g2 := zf 2; have g3 := zf 3; have g4 := zf 4; have g5 := zf 5) | (go_at_call 44; go_fit (HN.out w3); rintro r w4 ⟨rfl, h4⟩; replace h4 := h4.symm; subst h4) | fail)
    generalize hW9 : ((((((w3.setCell _ _).setCell _ _).setCell _ _).setCell _ _).setCell _ _).setCell _ _) = W9
    have hb := HB3.out.kp kk
    have hst : Stored6 (w.heap.size + 1 + 1) 0 Ex.zero w3 W9 := stored60 Ex.zero hb hW9
    obtain ⟨⟨s0, s1, s2, s3, s4, s5⟩, _⟩ := hb.stored hst
    have hz := HZ.out
    have hz9 := hst.2.2.2.1
    have hkw := (K1.out.trans kk).size
    refine bodyPost_ret (v := .tuple #[.agg #[.int .i64 Ex.zero.kind, .int .i64 Ex.zero.rn, .int .i64 Ex.zero.rd, .string Ex.zero.name, .int .i64 Ex.zero.pw, .slice Ex.zero.a Ex.zero.l.length Ex.zero.c], .int .i64 1]) (by simp [results, Tryz.results17, go_sem, s0, s1, s2, s3, s4, s5]) rfl ?_
    have hrf : replF e name y = 1 := by rw [HR.out, if_neg (by rw [H3.out]; exact fun h => absurd h.2.2 (by decide))]
    refine ⟨Ex.zero, by rw [hrf], hst.2.2.2.2 w (K1.out.trans kk) (by omega), zero_made (by omega), .inr ⟨by rw [hrf]; decide, rfl⟩⟩
  · have HR := Lib.hid (show replF e name y = _ from HR.out.trans (if_pos ⟨h1, h2, h3⟩))
    rw [h1] at HV1
    rw [h2] at HV2
    rw [h3] at HN
    clear h1 h2 h3
    go_upto_region 3 with (first | (go_at_call 6; go_fit HV1.out; rintro r w2 ⟨rfl, k2⟩; clear HV1; obtain ⟨⟨y0, y1, y2, y3, y4, y5⟩, _⟩ := HB2.out.kp k2) | (go_at_call 6; go_fit (HV2.out _ k2); rintro r w3 ⟨rfl, k3⟩; have kk := k2.trans k3; clear HV2) | (go_at_call 44; go_fit (HN.out w3); rintro r w4 ⟨rfl, h4⟩; replace h4 := h4.symm; subst h4) | fail)
    clear HN
    have K3 := Lib.hid (K1.out.trans kk)
    have HB1 := Lib.hid (HB1.out.kp kk)
    have HB2 := Lib.hid (HB2.out.kp kk)
    have HB3 := Lib.hid (HB3.out.kp kk)
    have HZ := Lib.hid (show w.heap.size + 3 ≤ w3.heap.size by have := HZ.out; have := kk.size; omega)
    have HA := Lib.hid (Ex.at_kp HA.out kk)
    have HAY := Lib.hid (Ex.at_kp HAY.out kk)
    clear k2 k3 kk K1 q0 q1 q2 q3 q4 q5 y0 y1 y2 y3 y4 y5
    obtain ⟨⟨q0, q1, q2, q3, q4, q5⟩, _⟩ := HB1.out
    obtain ⟨⟨y0, y1, y2, y3, y4, y5⟩, _⟩ := HB2.out.kp ((Kp.refl w3).alloc (.map #[] 0))
    have HM := Lib.hid (MapX.made w3)
    have HCh := Lib.hid fun w5 (h : MapX w5 w3.heap.size 1 (oneF name y)) (k : Kp w3 w5) => change_any e B w3.heap.size 1 (oneF name y) w5 (Ex.at_kp HA.out k) (Nat.le_trans (Nat.le_trans hB K3.out.size) k.size) h (fun s x hx => by
      unfold oneF updF at hx
      split at hx
      · cases hx; exact Ex.at_kp HAY.out k
      · cases hx)
    have k0 := (Kp.refl w3).alloc (.map #[] 0)
    go_upto_region 4 with (first
      | (refine wpList_insert_map rfl _ _ _ rfl w3.heap.size 0 _ rfl HM.out (by decide) name rfl hnm y rfl ?_; intro w5 hm5 ht5; have k5 := ht5.kp w3 k0 (Nat.le_refl _))
      | (go_at_call 45; go_fit (HCh.out w5 hm5 k5); rintro r w6 ⟨x, rfl, hx, k6, hm⟩)
      | fail)
    have k7 : Kp w6 (w6.alloc (.cells #[.int .i64 x.kind, .int .i64 x.rn, .int .i64 x.rd, .string x.name, .int .i64 x.pw, .slice x.a x.l.length x.c] 26)) := (Kp.refl w6).alloc _
    have hb7 : BoxX (w6.alloc (.cells #[.int .i64 x.kind, .int .i64 x.rn, .int .i64 x.rd, .string x.name, .int .i64 x.pw, .slice x.a x.l.length x.c] 26)) w6.heap.size x := BoxX.new w6 x _ rfl
    generalize w6.alloc _ = w7 at *
    have kk := k5.trans (k6.trans k7)
    have K7 := Lib.hid (K3.out.trans kk)
    have HM7 := Lib.hid (Ex.made_kp (Ex.made_from hm k5.size) k7)
    have HX7 := Lib.hid hx
    have HB3 := Lib.hid (HB3.out.kp kk)
    have hok : x.ok = (e.sub (oneF name y)).ok := ok_er hx
    have HV := Lib.hid (tvalid_any x w7.heap.size w7 HM7.out.1 (Nat.le_refl _))
    have HB7 := Lib.hid hb7
    have HZ := Lib.hid (show w.heap.size + 3 ≤ w3.heap.size from HZ.out)
    clear hm5 ht5 k5 k6 k7 kk hm hx q0 q1 q2 q3 q4 q5 y0 y1 y2 y3 y4 y5 k0 HB1 HB2 HM HCh
    obtain ⟨⟨q0, q1, q2, q3, q4, q5⟩, _⟩ := hb7
    rcases Bool.eq_false_or_eq_true x.ok with h4 | h4
    · have hrf : replF e name y = 0 := by rw [HR.out, if_pos (by rw [← hok]; exact h4)]
      have HRf := Lib.hid hrf
      rw [h4] at HV
      clear h4 hok hrf HR
      go_wp2_with (first | (go_at_call 6; go_fit HV.out; rintro r w8 ⟨rfl, k8⟩; obtain ⟨⟨z0, z1, z2, z3, z4, z5⟩, zf, _⟩ := HB3.out.kp k8; have g0 := zf 0; have g1 := zf 1; have g2 := zf 2; have g3 := zf 3; have g4 := zf 4; have g5 := zf 5; obtain ⟨⟨y0, y1, y2, y3, y4, y5⟩, _⟩ := HB7.out.kp k8) | fail)
      generalize hW9 : ((((((w8.setCell _ _).setCell _ _).setCell _ _).setCell _ _).setCell _ _).setCell _ _) = W9
      have hb := HB3.out.kp k8
      have hst : Stored6 (w.heap.size + 1 + 1) 0 x w8 W9 := stored60 x hb hW9
      obtain ⟨⟨s0, s1, s2, s3, s4, s5⟩, _⟩ := hb.stored hst
      have hz := HZ.out
      have hz9 := hst.2.2.2.1
      have hm8 := Ex.made_kp HM7.out k8
      refine bodyPost_ret (v := .tuple #[.agg #[.int .i64 x.kind, .int .i64 x.rn, .int .i64 x.rd, .string x.name, .int .i64 x.pw, .slice x.a x.l.length x.c], .int .i64 0]) (by simp [results, Tryz.results17, go_sem, s0, s1, s2, s3, s4, s5]) rfl ?_
      refine ⟨x, by rw [HRf.out], hst.2.2.2.2 w (K7.out.trans k8) (by omega), ?_, .inl ⟨HRf.out, HX7.out⟩⟩
      refine Ex.made_from (w1 := w3) ⟨?_, ?_⟩ (by omega)
      · exact Ex.at_own' (by rw [hz9]; exact Nat.le_refl _) x _ _ hm8.2 (fun b i v hb _ hc => by rw [hst.2.1 ⟨b, i, none⟩ (.inl (by show b ≠ w.heap.size + 1 + 1; omega))]; exact hc) hm8.1
      · rw [hz9]
        exact Ex.own_same _ _ _ (fun b i _ _ => hst.2.2.1 _) hm8.2
    · have HR := Lib.hid (show replF e name y = 5 by rw [HR.out, if_neg (by rw [← hok, h4]; decide)])
      rw [h4] at HV
      clear h4 hok
      go_wp2_with (first | (go_at_call 6; go_fit HV.out; rintro r w8 ⟨rfl, k8⟩; obtain ⟨⟨z0, z1, z2, z3, z4, z5⟩, zf, _⟩ := HB3.out.kp k8; have g0 := zf 0; have g1 := zf 1; have g2 := zf 2; have g3 := zf 3; have g4 := zf 4; have g5 := zf 5) | fail)
      have K1 := K7
      have HZ := Lib.hid HZ.out
      generalize hW9 : ((((((w8.setCell _ _).setCell _ _).setCell _ _).setCell _ _).setCell _ _).setCell _ _) = W9
      have hb := HB3.out.kp k8
      have hst : Stored6 (w.heap.size + 1 + 1) 0 Ex.zero w8 W9 := stored60 Ex.zero hb hW9
      obtain ⟨⟨s0, s1, s2, s3, s4, s5⟩, _⟩ := hb.stored hst
      have hz := HZ.out
      have hz9 := hst.2.2.2.1
      have hkw7 := (K3.out).size
      have hkw := (K7.out.trans k8).size
      refine bodyPost_ret (v := .tuple #[.agg #[.int .i64 Ex.zero.kind, .int .i64 Ex.zero.rn, .int .i64 Ex.zero.rd, .string Ex.zero.name, .int .i64 Ex.zero.pw, .slice Ex.zero.a Ex.zero.l.length Ex.zero.c], .int .i64 5]) (by simp [results, Tryz.results17, go_sem, s0, s1, s2, s3, s4, s5]) rfl ?_
      have hrf : replF e name y = 5 := HR.out
      refine ⟨Ex.zero, by rw [hrf], hst.2.2.2.2 w (K7.out.trans k8) (by omega), zero_made (by omega), .inr ⟨by rw [hrf]; decide, rfl⟩⟩
end Go.Proofs.YthaphbbeiglolaaGreat
end
