/-
  Walks: ref13.Flat.
-/
import Derived.Laws.OwnMore
import Derived.Test.YthaphbbeiglolaaRequN
import Derived.Test.YthaphbbeiglolaaCloN
namespace Go.Proofs.Ythaphbbeiglolaa
open Go.RowKit Go.Sort

theorem kp_owns {wb w w' : World} {e : TypeId} {size n : Nat} {xs : List Value} {v : Value} (h : w.ownsRow wb.heap.size e size v n xs) (k : Kp w w') : w'.ownsRow wb.heap.size e size v n xs := by
  refine ⟨h.1, ?_⟩
  rcases h.2 with h3 | ⟨g, cap, cur, h4, hb, hg, hr⟩
  · exact .inl h3
  · exact .inr ⟨g, cap, cur, h4, hb, by rw [k.below.block g (Array.getElem?_eq_some_iff.1 hg).1]; exact hg, hr⟩
/-- the call's own slice of trees -/
def OwnT (wb w : World) (v : Value) (xs : List Ex) : Prop := Kp wb w ∧ w.ownsRow wb.heap.size 26 6 v xs.length (xs.flatMap Ex.cells)
theorem OwnT.kp {wb w w' : World} {v : Value} {xs : List Ex} (h : OwnT wb w v xs) (k : Kp w w') : OwnT wb w' v xs := ⟨h.1.trans k, kp_owns h.2 k⟩
theorem OwnT.row {wb w : World} {v : Value} {xs : List Ex} (h : OwnT wb w v xs) (h0 : 0 < xs.length) : ∃ g c, v = .slice (some ⟨g, 0, none⟩) xs.length c ∧ xs.length ≤ c ∧ c ≤ maxLen ∧ wb.heap.size ≤ g ∧ RowC w g xs := by
  obtain ⟨a, c, rfl, h1, h2, h3⟩ := rowC_of h.2 rfl
  rcases h3 with h3 | ⟨g, rfl, hg, hr⟩
  · rw [h3] at h0; exact absurd h0 (Nat.lt_irrefl 0)
  · exact ⟨g, c, rfl, h1, h2, hg, hr⟩
theorem OwnT.one (wb w : World) (k : Kp wb w) (x : Ex) : OwnT wb (w.alloc (.cells #[.int .i64 x.kind, .int .i64 x.rn, .int .i64 x.rd, .string x.name, .int .i64 x.pw, .slice x.a x.l.length x.c] 26)) (.slice (some ⟨w.heap.size, 0, none⟩) 1 1) [x] :=
  ⟨k.alloc _, World.ownsRow_lit w #[.int .i64 x.kind, .int .i64 x.rn, .int .i64 x.rd, .string x.name, .int .i64 x.pw, .slice x.a x.l.length x.c] 1 k.size (by decide) rfl⟩
theorem wpList_append_tr {w : World} {ops : Array Oper} {rest : List Oper} {o : Oper} {a : Act} {Q : Exit → Act → World → Prop} (hgd : o.guard = none) (s x : Operand)
    (ho : o.op = .call { callee := .builtin .append, args := #[s, x], argTypes := #[24, 24] })
    (wb : World) (v : Value) (zs : List Ex) (hs : a.eval s = v) (hown : OwnT wb w v zs)
    (ad : Addr) (B c : Nat) (ys : List Ex) (n m : Nat) (hn : zs.length = n) (hm : ys.length = m) (hx : a.eval x = .slice (some ad) m c)
    (hrow : RowX w B (some ad) ys) (hpos : 0 < n + m) (hlen : n + m ≤ 9000000)
    (h : ∀ g' c' w', OwnT wb w' (.slice (some ⟨g', 0, none⟩) (n + m) c') (zs ++ ys) → wpList Try.prog ops Q rest (a.put o.dst (.slice (some ⟨g', 0, none⟩) (n + m) c')) w') :
    wpList Try.prog ops Q (o :: rest) a w := by
  subst hn
  subst hm
  refine wpList_append_exs hgd s x ho wb.heap.size v zs hs hown.2 hown.1.size ad B c ys hx hrow hlen ?_
  intro v' w' h1 h2
  have hO : OwnT wb w' v' (zs ++ ys) := ⟨Below.trans hown.1 h2, h1⟩
  obtain ⟨g, c', rfl, _⟩ := hO.row (by rw [List.length_append]; exact hpos)
  rw [List.length_append] at hO ⊢
  exact h g c' w' hO
theorem flat_at {w : World} {B : Nat} : ∀ e : Ex, e.at w B → ∀ x ∈ e.flat, x.at w B := by
  refine Ex.ind fun e ih h x hx => ?_
  rw [e.flat_eq] at hx
  rcases List.mem_cons.1 hx with rfl | hx
  · exact h
  · have hch := (Ex.at_iff.1 h).2.2
    have key : ∀ l : List Ex, (∀ y ∈ l, y ∈ e.l) → x ∈ Ex.flatL l → x.at w B := by
      intro l
      induction l with
      | nil => intro _ h; rw [Ex.flatL_nil] at h; cases h
      | cons y t iht =>
        intro hy h
        rw [Ex.flatL_cons] at h
        rcases List.mem_append.1 h with h | h
        · exact ih y (hy y (.head _)) (hch y (hy y (.head _))) x h
        · exact iht (fun z hz => hy z (.tail _ hz)) h
    exact key e.l (fun _ h => h) hx
theorem flatL_size (l : List Ex) : (Ex.flatL l).length = Ex.sizeL l := flatL_len fun x _ => x.flat_len
theorem flatL_step {l : List Ex} {k : Nat} {x : Ex} (h : l[k]? = some x) : Ex.flatL (l.take (k + 1)) = Ex.flatL (l.take k) ++ x.flat := by
  rw [List.take_add_one, h]
  show Ex.flatL (l.take k ++ [x]) = _
  have key : ∀ m : List Ex, Ex.flatL (m ++ [x]) = Ex.flatL m ++ x.flat := by
    intro m
    induction m with
    | nil => rw [List.nil_append, Ex.flatL_cons, Ex.flatL_nil, List.append_nil, List.nil_append]
    | cons y t ih => rw [List.cons_append, Ex.flatL_cons, Ex.flatL_cons, ih, List.append_assoc]
  exact key _
theorem sizeL_memT {l : List Ex} {x : Ex} (h : x ∈ l) : x.size ≤ Ex.sizeL l := by
  induction l with
  | nil => cases h
  | cons y t ih =>
    rw [Ex.sizeL_cons]
    rcases List.mem_cons.1 h with rfl | h
    · omega
    · have := ih h; omega
theorem sizeL_takeT {l : List Ex} (k : Nat) : Ex.sizeL (l.take k) ≤ Ex.sizeL l := by
  induction l generalizing k with
  | nil => simp
  | cons y t ih =>
    cases k with
    | zero => rw [List.take_zero, Ex.sizeL_nil]; omega
    | succ k => rw [List.take_succ_cons, Ex.sizeL_cons, Ex.sizeL_cons]; have := ih k; omega
def FlatOut (w w' : World) (xs : List Ex) (n : Nat) (r : Ending) : Prop := (∃ g c, r = .returned (.slice (some ⟨g, 0, none⟩) n c) ∧ w.heap.size ≤ g ∧ RowC w' g xs) ∧ Kp w w'
def RFlatAt (e : Ex) : Prop := ∀ (B : Nat) (w : World), e.at w B → e.size ≤ 1000 → Calls Try.prog 28 #[.agg #[.int .i64 e.kind, .int .i64 e.rn, .int .i64 e.rd, .string e.name, .int .i64 e.pw, .slice e.a e.l.length e.c]] w fun r w' => FlatOut w w' e.flat e.size r
set_option maxHeartbeats 2000000 in
set_option maxRecDepth 20000 in
theorem rflat_any : ∀ e : Ex, RFlatAt e := by
  refine Ex.ind fun e ih B w hat hd => ?_
  have k1 : Kp w (w.alloc (.cells #[.int .i64 e.kind, .int .i64 e.rn, .int .i64 e.rd, .string e.name, .int .i64 e.pw, .slice e.a e.l.length e.c] 26)) := (Kp.refl w).alloc _
  have hS : ((w.alloc (.cells #[.int .i64 e.kind, .int .i64 e.rn, .int .i64 e.rd, .string e.name, .int .i64 e.pw, .slice e.a e.l.length e.c] 26)).cell? ⟨w.heap.size, 0, none⟩ = some (.int .i64 e.kind) ∧ (w.alloc (.cells #[.int .i64 e.kind, .int .i64 e.rn, .int .i64 e.rd, .string e.name, .int .i64 e.pw, .slice e.a e.l.length e.c] 26)).cell? ⟨w.heap.size, 1, none⟩ = some (.int .i64 e.rn) ∧ (w.alloc (.cells #[.int .i64 e.kind, .int .i64 e.rn, .int .i64 e.rd, .string e.name, .int .i64 e.pw, .slice e.a e.l.length e.c] 26)).cell? ⟨w.heap.size, 2, none⟩ = some (.int .i64 e.rd) ∧ (w.alloc (.cells #[.int .i64 e.kind, .int .i64 e.rn, .int .i64 e.rd, .string e.name, .int .i64 e.pw, .slice e.a e.l.length e.c] 26)).cell? ⟨w.heap.size, 3, none⟩ = some (.string e.name) ∧ (w.alloc (.cells #[.int .i64 e.kind, .int .i64 e.rn, .int .i64 e.rd, .string e.name, .int .i64 e.pw, .slice e.a e.l.length e.c] 26)).cell? ⟨w.heap.size, 4, none⟩ = some (.int .i64 e.pw) ∧ (w.alloc (.cells #[.int .i64 e.kind, .int .i64 e.rn, .int .i64 e.rd, .string e.name, .int .i64 e.pw, .slice e.a e.l.length e.c] 26)).cell? ⟨w.heap.size, 5, none⟩ = some (.slice e.a e.l.length e.c)) := by simp
  obtain ⟨⟨hlc, hcm, hnm, hl⟩, hrow, hch⟩ := Ex.at_iff.1 hat
  have HF := Lib.hid e.flat_eq
  have HD := Lib.hid e.size_eq
  have Hsz := Lib.hid (show Ex.sizeL e.l ≤ 1000 by have := e.size_eq; omega)
  go_enter Try.func28, Try.ntmps28
  go_upto_region 1 with fail
  generalize w.alloc _ = W at *
  have HR := Lib.hid (hrow.kp k1)
  have HC := Lib.hid fun x hx => Ex.at_kp (hch x hx) k1
  have HI := Lib.hid ih
  have K1 := Lib.hid k1
  have HO := Lib.hid (OwnT.one W W (Kp.refl W) e)
  clear hrow hch ih k1 hat
  obtain ⟨s0, s1, s2, s3, s4, s5⟩ := hS
  go_upto_region 3 with fail
  generalize W.alloc _ = W2 at *
  clear s0 s1 s2 s3 s4
  go_loopw [3, 4] (fun x y wr => ∃ k g c : Nat, k ≤ e.l.length ∧ x = .slice (some ⟨g, 0, none⟩) (1 + Ex.sizeL (e.l.take k)) c ∧ y = .int .i64 (k : Int) ∧ OwnT W wr (.slice (some ⟨g, 0, none⟩) (1 + Ex.sizeL (e.l.take k)) c) (e :: Ex.flatL (e.l.take k))) (fun _ y _ => e.l.length - (intOf y).toNat)
  case atStart => exact ⟨0, W.heap.size, 1, by omega, rfl, rfl, HO.out⟩
  case round =>
    obtain ⟨k, g, c, hk, rfl, rfl, hown⟩ := hrel
    have hlen : (e :: Ex.flatL (e.l.take k)).length = 1 + Ex.sizeL (e.l.take k) := by rw [List.length_cons, flatL_size, Nat.add_comm]
    have HL := Lib.hid hlen; clear hlen
    have HW := Lib.hid hown; clear hown
    have hkp := HW.out.1
    have z5 := hkp.cell s5
    by_cases hlt : k < e.l.length
    · obtain ⟨x, hx⟩ : ∃ x, e.l[k]? = some x := ⟨_, List.getElem?_eq_getElem hlt⟩
      have Hst := Lib.hid (flatL_step hx)
      have hxm := List.mem_of_getElem? hx
      obtain ⟨b, o, ha, hb, h0, h1, h2, h3, h4, h5⟩ := (HR.out.kp hkp) k x hx
      have Hxs := Lib.hid (sizeL_memT hxm)
      have Htk := Lib.hid (sizeL_takeT (l := e.l) k)
      have HX := Lib.hid (HI.out x hxm B wr (Ex.at_kp (HC.out x hxm) hkp) (by have := Hsz.out; have := Hxs.out; omega))
      have Hfl := Lib.hid x.flat_len
      have Hps := Lib.hid x.size_pos
      clear hx hxm hkp
      rw [ha] at z5 ⊢
      generalize hN : 1 + Ex.sizeL (e.l.take k) = n at *
      go_wp2_with (first
        | (go_at_call 28; go_fit HX.out; rintro r w2 ⟨⟨g2, c2, rfl, hg2, hrc⟩, k2⟩)
        | (at_builtin; refine wpList_append_tr rfl _ _ rfl W _ _ rfl (HW.out.kp k2) ⟨g2, 0, none⟩ _ _ x.flat n x.size HL.out Hfl.out rfl (hrc.row (Nat.le_refl _)) (by have := Hps.out; omega) (by have := Htk.out; have := Hsz.out; have := Hxs.out; omega) ?_; intro g' c' w3 hO)
        | fail)
      go_roundw
      case rel =>
        have hz : n + x.size = 1 + Ex.sizeL (e.l.take (k + 1)) := by
          have h6 := congrArg List.length Hst.out
          rw [List.length_append, flatL_size, flatL_size, Hfl.out] at h6
          omega
        refine ⟨k + 1, g', c', by omega, by rw [hz], by go_num, ?_⟩
        rw [Hst.out, ← hz]
        exact hO
      case measure => simp [intOf]; omega
    · obtain rfl : k = e.l.length := by omega
      have hf : Ex.flatL (e.l.take e.l.length) = Ex.flatL e.l := by rw [List.take_length]
      have Hf := Lib.hid hf; clear hf hkp
      go_wp2
      go_ret
      obtain ⟨g', c', he, _, _, hg, hrow⟩ := HW.out.row (by rw [HL.out]; omega)
      injection he with he1 he2 he3
      injection he1 with he1
      injection he1 with he1 _ _
      rw [Hf.out, ← HF.out] at hrow
      have hl2 := HL.out
      rw [Hf.out, ← HF.out, e.flat_len] at hl2
      subst he1
      exact ⟨⟨g, c, ret_len hl2.symm, by have := K1.out.size; omega, hrow⟩, K1.out.trans HW.out.1⟩
end Go.Proofs.Ythaphbbeiglolaa
