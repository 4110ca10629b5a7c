/-
  Walks: the law's spoil: it writes into the tree's own blocks alone.
-/
import Derived.Test.YthaphbbeiglolaaBakP
namespace Go.Proofs.Ythaphbbeiglolaa
open Go.RowKit Go.Sort Go.Shelf

/-- nothing but blocks from lo on, below hi, is written -/
structure Away (lo hi : Nat) (w w' : World) : Prop where
  os : w'.os = w.os
  tape : w'.tape = w.tape
  output : w'.output = w.output
  size : w.heap.size ≤ w'.heap.size
  block : ∀ k, k < w.heap.size → (k < lo ∨ hi ≤ k) → w'.heap[k]? = w.heap[k]?
theorem Away.of {lo hi : Nat} {w w' : World} (k : Kp w w') : Away lo hi w w' := ⟨k.os, k.tape, k.output, k.size, fun j hj _ => k.block j hj⟩
theorem Away.trans {lo hi : Nat} {a b c : World} (h : Away lo hi a b) (k : Away lo hi b c) : Away lo hi a c :=
  ⟨k.os.trans h.os, k.tape.trans h.tape, k.output.trans h.output, Nat.le_trans h.size k.size, fun j hj hb => (k.block j (Nat.lt_of_lt_of_le hj h.size) hb).trans (h.block j hj hb)⟩
theorem Away.wide {lo hi lo' hi' : Nat} {w w' : World} (h : Away lo hi w w') (h1 : lo' ≤ lo) (h2 : hi ≤ hi') : Away lo' hi' w w' :=
  ⟨h.os, h.tape, h.output, h.size, fun j hj hb => h.block j hj (by omega)⟩
theorem Away.cell {lo hi : Nat} {w w' : World} (h : Away lo hi w w') {b i : Nat} {v : Value} (hb : b < lo ∨ hi ≤ b) (hc : w.cell? ⟨b, i, none⟩ = some v) : w'.cell? ⟨b, i, none⟩ = some v := by
  rw [cell_same (h.block b (cell_ltT hc) hb) i]; exact hc
theorem Away.frozen {lo hi : Nat} {w w' : World} (h : Away lo hi w w') {b i : Nat} (hb : b < lo ∨ hi ≤ b) (hl : b < w.heap.size) : w'.frozen? ⟨b, i, none⟩ = w.frozen? ⟨b, i, none⟩ := World.frozen?_of_block (a := ⟨b, i, none⟩) (h.block b hl hb)
theorem Away.kp {lo hi : Nat} {a w w' : World} (k : Kp a w) (h : Away lo hi w w') (hl : a.heap.size ≤ lo) : Kp a w' :=
  ⟨h.os.trans k.os, h.tape.trans k.tape, h.output.trans k.output, Nat.le_trans k.size h.size, fun j hj => (h.block j (Nat.lt_of_lt_of_le hj k.size) (.inl (by omega))).trans (k.block j hj)⟩
theorem Away.set1 {lo hi g i : Nat} {a w : World} (h : Away lo hi a w) (h1 : lo ≤ g) (h2 : g < hi) (v : Value) : Away lo hi a (w.setCell ⟨g, i, none⟩ v) :=
  ⟨h.os, h.tape, h.output, by rw [World.size_setCell]; exact h.size, fun k hk hb => by rw [Below.heap_setCell _ _ _ _ (show k ≠ g by omega)]; exact h.block k hk hb⟩
/-- six cells stored into a block of the window -/
theorem Away.store {lo hi g o : Nat} {a w W : World} {x : Ex} (h : Away lo hi a w) (h1 : lo ≤ g) (h2 : g < hi)
    (hW : ((((((w.setCell ⟨g, o, none⟩ (.int .i64 x.kind)).setCell ⟨g, o + 1, none⟩ (.int .i64 x.rn)).setCell ⟨g, o + 2, none⟩ (.int .i64 x.rd)).setCell ⟨g, o + 3, none⟩ (.string x.name)).setCell ⟨g, o + 4, none⟩ (.int .i64 x.pw)).setCell ⟨g, o + 5, none⟩ (.slice x.a x.l.length x.c)) = W) : Away lo hi a W := by
  rw [← hW]
  exact (((((h.set1 h1 h2 _).set1 h1 h2 _).set1 h1 h2 _).set1 h1 h2 _).set1 h1 h2 _).set1 h1 h2 _
/-- trees in windows outside stay -/
theorem at_away {lo hi l h : Nat} {B : Nat} {w w' : World} {e : Ex} (ha : Away lo hi w w') (ho : e.own w l h) (hw : h ≤ lo ∨ hi ≤ l) (hat : e.at w B) : e.at w' B :=
  Ex.at_own' (Nat.le_refl _) e l h ho (fun b i v h1 h2 hc => ha.cell (by omega) hc) hat
theorem ownL_away {lo hi l h : Nat} {w w' : World} {es : List Ex} (ha : Away lo hi w w') (ho : Ex.ownL w es l h) (hw : h ≤ lo ∨ hi ≤ l) (hs : h ≤ w.heap.size) : Ex.ownL w' es l h :=
  Ex.ownL_kp ho fun b i h1 h2 => ha.frozen (by omega) (by omega)
/-- the nodes from the k-th on, where they lie, before the k-th is spoiled -/
def SpoilS (w wr : World) (B b lo hi : Nat) (es : List Ex) (k : Nat) : Prop :=
  k ≤ es.length ∧ Away lo hi w wr ∧ (∀ (j : Nat) (x : Ex), es[j]? = some x → k ≤ j → wr.cell? ⟨b, j * 6, none⟩ = some (.int .i64 x.kind) ∧ wr.cell? ⟨b, j * 6 + 1, none⟩ = some (.int .i64 x.rn) ∧ wr.cell? ⟨b, j * 6 + 2, none⟩ = some (.int .i64 x.rd) ∧ wr.cell? ⟨b, j * 6 + 3, none⟩ = some (.string x.name) ∧ wr.cell? ⟨b, j * 6 + 4, none⟩ = some (.int .i64 x.pw) ∧ wr.cell? ⟨b, j * 6 + 5, none⟩ = some (.slice x.a x.l.length x.c)) ∧ (∀ i, i < es.length * 6 → wr.frozen? ⟨b, i, none⟩ = false) ∧ ∃ lk, b + 1 ≤ lk ∧ Ex.ownL wr (es.drop k) lk hi ∧ ∀ x ∈ es.drop k, x.at wr B
theorem drop_cons {es : List Ex} {k : Nat} {x : Ex} (hx : es[k]? = some x) : es.drop k = x :: es.drop (k + 1) := by
  obtain ⟨hk, hx⟩ := List.getElem?_eq_some_iff.1 hx
  rw [List.drop_eq_getElem_cons hk, hx]
theorem SpoilS.step {w wr w3 W4 : World} {B b lo hi k lk m : Nat} {es : List Ex} {x z : Ex} (h : SpoilS w wr B b lo hi es k) (hx : es[k]? = some x) (hlo : lo ≤ b) (hsz : hi ≤ w.heap.size)
    (hb : b + 1 ≤ lk) (o1 : x.own wr lk m) (o2 : Ex.ownL wr (es.drop (k + 1)) m hi) (hat : ∀ y ∈ es.drop (k + 1), y.at wr B) (ar : Away lk m wr w3)
    (hW : ((((((w3.setCell ⟨b, k * 6, none⟩ (.int .i64 z.kind)).setCell ⟨b, k * 6 + 1, none⟩ (.int .i64 z.rn)).setCell ⟨b, k * 6 + 2, none⟩ (.int .i64 z.rd)).setCell ⟨b, k * 6 + 3, none⟩ (.string z.name)).setCell ⟨b, k * 6 + 4, none⟩ (.int .i64 z.pw)).setCell ⟨b, k * 6 + 5, none⟩ (.slice z.a z.l.length z.c)) = W4) :
    SpoilS w W4 B b lo hi es (k + 1) := by
  obtain ⟨hk, ha, hc, hf, _⟩ := h
  have hkl := (List.getElem?_eq_some_iff.1 hx).1
  have hm := Ex.ownL_le o2
  have hlm := Ex.own_le o1
  have hsr : hi ≤ wr.heap.size := Nat.le_trans hsz ha.size
  have hcell3 : w3.cell? ⟨b, k * 6, none⟩ = some (.int .i64 x.kind) ∧ w3.cell? ⟨b, k * 6 + 1, none⟩ = some (.int .i64 x.rn) ∧ w3.cell? ⟨b, k * 6 + 2, none⟩ = some (.int .i64 x.rd) ∧ w3.cell? ⟨b, k * 6 + 3, none⟩ = some (.string x.name) ∧ w3.cell? ⟨b, k * 6 + 4, none⟩ = some (.int .i64 x.pw) ∧ w3.cell? ⟨b, k * 6 + 5, none⟩ = some (.slice x.a x.l.length x.c) := by
    obtain ⟨c0, c1, c2, c3, c4, c5⟩ := hc k x hx (Nat.le_refl _)
    exact ⟨ar.cell (.inl (by omega)) c0, ar.cell (.inl (by omega)) c1, ar.cell (.inl (by omega)) c2, ar.cell (.inl (by omega)) c3, ar.cell (.inl (by omega)) c4, ar.cell (.inl (by omega)) c5⟩
  have hst : Stored6 b (k * 6) z w3 W4 := by subst hW; exact stored6X z hcell3
  have hbl : b < wr.heap.size := cell_ltT (hc k x hx (Nat.le_refl _)).1
  have o3 := ownL_away ar o2 (.inr (Nat.le_refl _)) hsr
  refine ⟨by omega, (ha.trans (ar.wide (by omega) hm)).store hlo (by omega) hW, fun j y hj hkj => ?_, fun i hi => ?_, m, by omega, ?_, fun y hy => ?_⟩
  · obtain ⟨c0, c1, c2, c3, c4, c5⟩ := hc j y hj (by omega)
    have q (r : Nat) (hr : r < 6) (v : Value) (h : wr.cell? ⟨b, j * 6 + r, none⟩ = some v) : W4.cell? ⟨b, j * 6 + r, none⟩ = some v := by
      rw [hst.2.1 ⟨b, j * 6 + r, none⟩ (.inr (.inr (by show k * 6 + 6 ≤ j * 6 + r; omega)))]
      exact ar.cell (.inl (by omega)) h
    exact ⟨q 0 (by omega) _ c0, q 1 (by omega) _ c1, q 2 (by omega) _ c2, q 3 (by omega) _ c3, q 4 (by omega) _ c4, q 5 (by omega) _ c5⟩
  · rw [hst.2.2.1, ar.frozen (.inl (by omega)) hbl]
    exact hf i hi
  · exact Ex.ownL_kp o3 fun b i _ _ => hst.2.2.1 _
  · obtain ⟨l', h', q1, q2, q3⟩ := ownL_mem o2 hy
    have q4 := at_away ar q3 (.inr q1) (hat y hy)
    have q5 : y.own w3 l' h' := Ex.own_same y l' h' (fun b i h1 h2 => ar.frozen (by omega) (by omega)) q3
    exact Ex.at_own' (Nat.le_refl _) y l' h' q5 (fun b' i v h1 _ hcc => by rw [hst.2.1 ⟨b', i, none⟩ (.inl (by show b' ≠ b; omega))]; exact hcc) q4
theorem spoil_cells {lk m b k : Nat} {es : List Ex} {x : Ex} {w w3 : World} (a3 : Away lk m w w3) (hb : b + 1 ≤ lk) (hbw : b < w.heap.size) (hlt : k < es.length) (hc : w.cell? ⟨b, k * 6, none⟩ = some (.int .i64 x.kind) ∧ w.cell? ⟨b, k * 6 + 1, none⟩ = some (.int .i64 x.rn) ∧ w.cell? ⟨b, k * 6 + 2, none⟩ = some (.int .i64 x.rd) ∧ w.cell? ⟨b, k * 6 + 3, none⟩ = some (.string x.name) ∧ w.cell? ⟨b, k * 6 + 4, none⟩ = some (.int .i64 x.pw) ∧ w.cell? ⟨b, k * 6 + 5, none⟩ = some (.slice x.a x.l.length x.c)) (hf : ∀ i, i < es.length * 6 → w.frozen? ⟨b, i, none⟩ = false) :
    (w3.cell? ⟨b, k * 6, none⟩ = some (.int .i64 x.kind) ∧ w3.cell? ⟨b, k * 6 + 1, none⟩ = some (.int .i64 x.rn) ∧ w3.cell? ⟨b, k * 6 + 2, none⟩ = some (.int .i64 x.rd) ∧ w3.cell? ⟨b, k * 6 + 3, none⟩ = some (.string x.name) ∧ w3.cell? ⟨b, k * 6 + 4, none⟩ = some (.int .i64 x.pw) ∧ w3.cell? ⟨b, k * 6 + 5, none⟩ = some (.slice x.a x.l.length x.c)) ∧ w3.frozen? ⟨b, k * 6, none⟩ = false ∧ w3.frozen? ⟨b, k * 6 + 1, none⟩ = false ∧ w3.frozen? ⟨b, k * 6 + 2, none⟩ = false ∧ w3.frozen? ⟨b, k * 6 + 3, none⟩ = false ∧ w3.frozen? ⟨b, k * 6 + 4, none⟩ = false ∧ w3.frozen? ⟨b, k * 6 + 5, none⟩ = false := by
  obtain ⟨c0, c1, c2, c3, c4, c5⟩ := hc
  have h1 : b < lk ∨ m ≤ b := .inl (by omega)
  refine ⟨⟨a3.cell h1 c0, a3.cell h1 c1, a3.cell h1 c2, a3.cell h1 c3, a3.cell h1 c4, a3.cell h1 c5⟩, ?_, ?_, ?_, ?_, ?_, ?_⟩
  all_goals
    rw [a3.frozen h1 hbw]
    exact hf _ (by omega)
def SpoilAt (e : Ex) : Prop := ∀ (B lo hi : Nat) (w : World), e.at w B → e.own w lo hi → hi ≤ w.heap.size → Calls Try.prog 30 #[.agg #[.int .i64 e.kind, .int .i64 e.rn, .int .i64 e.rd, .string e.name, .int .i64 e.pw, .slice e.a e.l.length e.c]] w fun r w' => r = .returned (.tuple #[]) ∧ Away lo hi w w'
set_option maxHeartbeats 4000000 in
set_option maxRecDepth 20000 in
theorem spoil_any : ∀ e : Ex, SpoilAt e := by
  refine Ex.ind fun e ih B lo hi w hat ho hsz => ?_
  have k1 : Kp w (w.alloc (.cells #[.int .i64 e.kind, .int .i64 e.rn, .int .i64 e.rd, .string e.name, .int .i64 e.pw, .slice e.a e.l.length e.c] 26)) := (Kp.refl w).alloc _
  have hB1 : BoxX (w.alloc (.cells #[.int .i64 e.kind, .int .i64 e.rn, .int .i64 e.rd, .string e.name, .int .i64 e.pw, .slice e.a e.l.length e.c] 26)) w.heap.size e := BoxX.new w e _ rfl
  obtain ⟨⟨_, _, _, hl⟩, hrow, hch⟩ := Ex.at_iff.1 hat
  obtain ⟨hle, ho2⟩ := Ex.own_iff.1 ho
  go_enter Try.func30, Try.ntmps30
  go_upto_region 1 with fail
  generalize w.alloc _ = W at *
  have K1 := Lib.hid k1
  have HI := Lib.hid ih
  have HB1 := Lib.hid hB1
  have hcases : e.l = [] ∨ ∃ b, e.a = some ⟨b, 0, none⟩ ∧ lo ≤ b ∧ SpoilS W W B b lo hi e.l 0 := by
    rcases ho2 with h | ⟨b, h1, h2, h3, h4⟩
    · exact .inl h
    · refine .inr ⟨b, h1, h2, Nat.zero_le _, Away.of (.refl _), fun j x hj _ => ?_, fun i hi => ?_, b + 1, Nat.le_refl _, ?_, fun x hx => Ex.at_kp (hch x hx) k1⟩
      · obtain ⟨b', o, e1, _, c0, c1, c2, c3, c4, c5⟩ := hrow j x hj
        rw [h1] at e1
        cases e1
        rw [Nat.zero_add] at c0 c1 c2 c3 c4 c5
        exact ⟨k1.cell c0, k1.cell c1, k1.cell c2, k1.cell c3, k1.cell c4, k1.cell c5⟩
      · have hb := Ex.ownL_le h4
        rw [frozen_kpT k1 (by omega)]
        exact h3 i hi
      · exact Ex.ownL_kp h4 fun b i _ h => frozen_kpT k1 (by omega)
  have hszW : hi ≤ W.heap.size := Nat.le_trans hsz k1.size
  have hbx : hi ≤ w.heap.size := hsz
  obtain ⟨⟨q0, q1, q2, q3, q4, q5⟩, _⟩ := hB1
  clear hrow hch ih k1 hat ho ho2
  go_wp2
  go_loopw [6] (fun x wr => ∃ k : Nat, x = .int .i64 k ∧ k ≤ e.l.length ∧ Away lo hi W wr ∧ (e.l = [] ∨ ∃ b, e.a = some ⟨b, 0, none⟩ ∧ lo ≤ b ∧ SpoilS W wr B b lo hi e.l k)) (fun x _ => e.l.length - (intOf x).toNat)
  case atStart => exact ⟨0, rfl, Nat.zero_le _, Away.of (.refl _), hcases⟩
  case round =>
    obtain ⟨k, rfl, hk, ha, hs⟩ := hrel
    clear hcases
    have z5 := ha.cell (.inr hbx) q5
    by_cases hlt : k < e.l.length
    · obtain ⟨x, hx⟩ : ∃ x, e.l[k]? = some x := ⟨_, List.getElem?_eq_getElem hlt⟩
      obtain ⟨b, hea, hlb, hS⟩ : ∃ b, e.a = some ⟨b, 0, none⟩ ∧ lo ≤ b ∧ SpoilS W wr B b lo hi e.l k := by
        rcases hs with h | h
        · rw [h] at hlt; exact absurd hlt (Nat.not_lt_zero _)
        · exact h
      obtain ⟨c0, c1, c2, c3, c4, c5⟩ := hS.2.2.1 k x hx (Nat.le_refl _)
      have Hfr := Lib.hid hS.2.2.2.1
      obtain ⟨lk, hbl, hoL, hatL⟩ := hS.2.2.2.2
      rw [drop_cons hx] at hoL hatL
      obtain ⟨m, o1, o2⟩ := Ex.ownL_cons.1 hoL
      have hm := Ex.ownL_le o2
      have HO := Lib.hid o1
      have HO2 := Lib.hid o2
      have HL := Lib.hid (fun y (hy : y ∈ e.l.drop (k + 1)) => hatL y (.tail _ hy))
      have HX := Lib.hid (HI.out x (List.mem_of_getElem? hx) B lk m wr (hatL x (.head _)) o1 (by have := ha.size; omega))
      have HS := Lib.hid hS
      have Hx := Lib.hid hx
      have Ha := Lib.hid ha
      have Hbl := Lib.hid hbl
      have Hm := Lib.hid hm
      have Hlm := Lib.hid (Ex.own_le o1)
      have hbw : b < wr.heap.size := cell_ltT c0
      rw [hea] at z5 ⊢
      clear hS hx hs hoL hatL o1 o2 ha
      go_wp2_with (first
        | (go_at_call 30; go_fit HX.out; rintro r w3 ⟨rfl, a3⟩; have y5 := a3.cell (.inr (Nat.le_trans Hm.out hbx)) z5; obtain ⟨⟨t0, t1, t2, t3, t4, t5⟩, ⟨f0, f1, f2, f3, f4, f5⟩⟩ := spoil_cells a3 Hbl.out hbw hlt ⟨c0, c1, c2, c3, c4, c5⟩ Hfr.out)
        | fail)
      have st := SpoilS.step (z := ⟨99, 0, 0, ⟨#[]⟩, 0, none, 0, []⟩) HS.out Hx.out hlb hszW Hbl.out HO.out HO2.out HL.out a3 rfl
      refine ⟨⟨k + 1, by congr, by omega, st.2.1, .inr ⟨b, rfl, hlb, st⟩⟩, ?_⟩
      simp [intOf]
      omega
    · obtain rfl : k = e.l.length := by omega
      go_wp2
      go_end0
      exact ⟨rfl, (Away.of K1.out).trans ha⟩
end Go.Proofs.Ythaphbbeiglolaa
