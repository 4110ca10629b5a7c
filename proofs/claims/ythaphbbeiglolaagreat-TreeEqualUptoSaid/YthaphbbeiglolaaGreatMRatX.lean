/-
  Walks: tree.Rational.
  Walks: slices.EqualFunc at []api.Expr, []api.Expr.
  Walks: tree.equal, tree.Equal.
  Walks: tree.Equal.
  Walks: slices.IndexFunc, ContainsFunc at []string; tree.every at strings; the law's names.
-/
import Derived.Test.YthaphbbeiglolaaGreatMEvrN
section
namespace Go.Proofs.YthaphbbeiglolaaGreat
open Go.RowKit Go.Sort Go.Shelf
attribute [local go_sem] Oper.semAt_some

theorem boxX_kept {W W' : World} {row : Option Nat} {g : Nat} {x : Ex} (h : BoxX W g x) (hg : W.grownBy W' row) (hrow : ∀ r, row = some r → ∃ o : Obj, W.heap[r]? = some o ∧ o.isCells = false) : BoxX W' g x := by
  obtain ⟨⟨q0, q1, q2, q3, q4, q5⟩, hf, hl⟩ := h
  obtain ⟨o, ho, hc⟩ := cells_of_cell q0
  have he := grownBy_keeps_cells hg hrow ho hc
  exact ⟨⟨cell_kept q0 hg hrow, cell_kept q1 hg hrow, cell_kept q2 hg hrow, cell_kept q3 hg hrow, cell_kept q4 hg hrow, cell_kept q5 hg hrow⟩, fun i => (World.frozen?_of_block (a := ⟨g, i, none⟩) he).trans (hf i), Nat.lt_of_lt_of_le hl hg.size⟩
end Go.Proofs.YthaphbbeiglolaaGreat
end

section
namespace Go.Proofs.YthaphbbeiglolaaGreat
open Go.RowKit

/-- equally long, and alike by p -/
def allXX (p : Ex → Ex → Bool) (zs : List Ex) (ys : List Ex) : Bool := decide (zs.length = ys.length) && (zs.zip ys).all fun q => p q.1 q.2
theorem allXX_true {p : Ex → Ex → Bool} {zs : List Ex} {ys : List Ex} : allXX p zs ys = true ↔ zs.length = ys.length ∧ ∀ (i : Nat) (x : Ex) (y : Ex), zs[i]? = some x → ys[i]? = some y → p x y = true := by
  unfold allXX
  rw [Bool.and_eq_true, decide_eq_true_eq, List.all_eq_true]
  refine and_congr_right fun hl => ⟨fun h i x y hx hy => ?_, fun h q hq => ?_⟩
  · refine h (x, y) (List.mem_of_getElem? (i := i) ?_)
    rw [List.getElem?_zip_eq_some]; exact ⟨hx, hy⟩
  · obtain ⟨i, hi⟩ := List.getElem?_of_mem hq
    have hi2 := List.getElem?_zip_eq_some.1 hi
    exact h i _ _ hi2.1 hi2.2
theorem allXX_false {p : Ex → Ex → Bool} {zs : List Ex} {ys : List Ex} {i : Nat} {x : Ex} {y : Ex} (hx : zs[i]? = some x) (hy : ys[i]? = some y) (h : p x y = false) : allXX p zs ys = false := by
  cases ha : allXX p zs ys with
  | false => rfl
  | true => rw [(allXX_true.1 ha).2 i x y hx hy] at h; cases h
/-- the function g answers p at each two elements, in whatever later world, and keeps all that was there -/
def AnsXX (P : Program) (g : FuncId) (cap : Array Value) (w : World) (zs : List Ex) (ys : List Ex) (p : Ex → Ex → Bool) : Prop :=
  Enters P g ∧ ∀ x, x ∈ zs → ∀ y, y ∈ ys → ∀ w1, Kp w w1 → Calls P g (#[.agg #[.int .i64 x.kind, .int .i64 x.rn, .int .i64 x.rd, .string x.name, .int .i64 x.pw, .slice x.a x.l.length x.c], .agg #[.int .i64 y.kind, .int .i64 y.rn, .int .i64 y.rd, .string y.name, .int .i64 y.pw, .slice y.a y.l.length y.c]] ++ cap) w1 fun e w2 => e = .returned (.bool (p x y)) ∧ Kp w1 w2

set_option maxHeartbeats 4000000 in
theorem eqfXX (a b' : Option Addr) (zs : List Ex) (ys : List Ex) (c d B : Nat) (g : FuncId) (cap : Array Value) (w : World) (p : Ex → Ex → Bool) (hm : zs.length ≤ 1100000) (h : RowX w B a zs) (h' : RowX w B b' ys) (hp : AnsXX Tryz.prog g cap w zs ys p) :
    Calls Tryz.prog 71 #[.slice a zs.length c, .slice b' ys.length d, .func (.func g) #[] cap] w fun e w' => e = .returned (.bool (allXX p zs ys)) ∧ Kp w w' := by
  go_enter Tryz.func71, Tryz.ntmps71
  by_cases hlen : zs.length = ys.length
  · have Hlen := Lib.hid hlen
    rw [← hlen]
    clear hlen
    go_wp2
    go_loopw [17] (fun x wr => ∃ k : Nat, k ≤ zs.length ∧ x = .int .i64 k ∧ (∀ (i : Nat) (x : Ex) (y : Ex), zs[i]? = some x → ys[i]? = some y → i < k → p x y = true) ∧ Kp w wr) (fun x _ => zs.length - (intOf x).toNat)
    case atStart => exact ⟨0, by omega, rfl, fun i x y _ _ h1 => by omega, .refl _⟩
    case round =>
      obtain ⟨k, hk, rfl, hz, hkp⟩ := hrel
      have Hz := Lib.hid hz; clear hz
      by_cases hlt : k < zs.length
      · have hlt2 : k < ys.length := by have := Hlen.out; omega
        obtain ⟨b, o, rfl, hr, h0, h1, h2, h3, h4, h5⟩ := (h.kp hkp) k (zs[k]) (List.getElem?_eq_getElem hlt)
        obtain ⟨b2, o2, rfl, hr2, j0, j1, j2, j3, j4, j5⟩ := (h'.kp (hkp.alloc (.cells #[.int .i64 zs[k].kind, .int .i64 zs[k].rn, .int .i64 zs[k].rd, .string zs[k].name, .int .i64 zs[k].pw, .slice zs[k].a zs[k].l.length zs[k].c] 26))) k (ys[k]) (List.getElem?_eq_getElem hlt2)
        have Hg := Lib.hid (List.getElem?_eq_getElem hlt)
        have Hg2 := Lib.hid (List.getElem?_eq_getElem hlt2)
        have hgo : ∀ args w, (callFunc g args).run Tryz.prog w = .ok (.enter g args) w := hp.1
        have hcall := fun w1 (hk1 : Kp w w1) => hp.2 _ (List.getElem_mem hlt) _ (List.getElem_mem hlt2) w1 hk1
        clear hp h h'
        generalize zs[k] = x at *
        generalize ys[k] = y at *
        clear hlt2
        cases hq : p x y with
        | true =>
          rw [hq] at hcall
          have Hc := Lib.hid hcall
          have Hq := Lib.hid hq
          clear hcall hq
          go_wp2_with (refine (Hc.out _ ((hkp.alloc _).alloc _)).mono ?_; rintro e w2 ⟨rfl, hk2⟩)
          go_roundw
          case rel =>
            refine ⟨k + 1, by omega, by go_num, fun i x' y' hx hy hi => ?_, ((hkp.alloc _).alloc _).trans hk2⟩
            by_cases h : i = k
            · subst h; rw [Hg.out] at hx; rw [Hg2.out] at hy; cases hx; cases hy; exact Hq.out
            · exact Hz.out i x' y' hx hy (by omega)
          case measure => simp [intOf]; omega
        | false =>
          rw [hq] at hcall
          have Hc := Lib.hid hcall
          have Hq := Lib.hid (allXX_false Hg.out Hg2.out hq)
          clear hcall hq
          go_wp2_with (refine (Hc.out _ ((hkp.alloc _).alloc _)).mono ?_; rintro e w2 ⟨rfl, hk2⟩)
          go_ret
          exact ⟨ret_bool Hq.out.symm, ((hkp.alloc _).alloc _).trans hk2⟩
      · have Hthis := Lib.hid (allXX_true.2 ⟨Hlen.out, fun i x y hx hy => Hz.out i x y hx hy (by have := (List.getElem?_eq_some_iff.1 hx).1; omega)⟩)
        go_wp2
        go_ret
        exact ⟨ret_bool Hthis.out.symm, hkp⟩
  · have hl2 : ((zs.length : Int) == (ys.length : Int)) = false := beq_eq_false_iff_ne.2 (by omega)
    have H := Lib.hid (show allXX p zs ys = false by unfold allXX; rw [decide_eq_false hlen]; rfl)
    clear hlen
    go_wp2
    go_ret
    exact ⟨ret_bool H.out.symm, .refl _⟩
end Go.Proofs.YthaphbbeiglolaaGreat
end

section
namespace Go.Proofs.YthaphbbeiglolaaGreat
open Go.RowKit Go.Sort

theorem strNe {s t : ByteArray} (h : s ≠ t) : (s.toList == t.toList) = false := beq_eq_false_iff_ne.2 fun e => h (by
  rw [ByteArray.toList_eq, ByteArray.toList_eq] at e
  exact Go.WideShapes.bytes_inj e)
theorem eqL_all : ∀ (l m : List Ex), Ex.eqL l m = allXX Ex.eqv l m
  | [], [] => by rw [Ex.eqL]; rfl
  | [], y :: u => by rw [Ex.eqL]; unfold allXX; simp
  | x :: t, [] => by rw [Ex.eqL]; unfold allXX; simp
  | x :: t, y :: u => by
    rw [Ex.eqL, eqL_all t u]
    unfold allXX
    simp only [List.length_cons, List.zip_cons_cons, List.all_cons, Nat.add_right_cancel_iff]
    cases x.eqv y <;> cases decide (t.length = u.length) <;> simp
def EqualAt (x : Ex) : Prop := ∀ (y : Ex) (B : Nat) (w : World), x.at w B → y.at w B → Calls Tryz.prog 32 #[.agg #[.int .i64 x.kind, .int .i64 x.rn, .int .i64 x.rd, .string x.name, .int .i64 x.pw, .slice x.a x.l.length x.c], .agg #[.int .i64 y.kind, .int .i64 y.rn, .int .i64 y.rd, .string y.name, .int .i64 y.pw, .slice y.a y.l.length y.c]] w fun r w' => r = .returned (.bool (x.eqv y)) ∧ Kp w w'
theorem equal_step (k r d p k' r' d' p' : Int) (s s' : ByteArray) (a a' : Option Addr) (c c' : Nat) (l l' : List Ex) (B : Nat) (w : World) (hl : l.length ≤ 1048576) (hrow : RowX w B a l) (hrow' : RowX w B a' l')
    (hp : AnsXX Tryz.prog 32 #[] w l l' Ex.eqv) (b0 : Bool) (h0 : ((decide (k = k') && (decide (r = r' ∧ d = d') && (decide (s = s') && decide (p = p')))) && allXX Ex.eqv l l') = b0) :
    Calls Tryz.prog 32 #[.agg #[.int .i64 k, .int .i64 r, .int .i64 d, .string s, .int .i64 p, .slice a l.length c], .agg #[.int .i64 k', .int .i64 r', .int .i64 d', .string s', .int .i64 p', .slice a' l'.length c']] w
      fun e w' => e = .returned (.bool b0) ∧ Kp w w' := by
  have k1 : Kp w ((w.alloc (.cells #[.int .i64 k, .int .i64 r, .int .i64 d, .string s, .int .i64 p, .slice a l.length c] 26)).alloc (.cells #[.int .i64 k', .int .i64 r', .int .i64 d', .string s', .int .i64 p', .slice a' l'.length c'] 26)) := ((Kp.refl w).alloc _).alloc _
  have hB1 : BoxX ((w.alloc (.cells #[.int .i64 k, .int .i64 r, .int .i64 d, .string s, .int .i64 p, .slice a l.length c] 26)).alloc (.cells #[.int .i64 k', .int .i64 r', .int .i64 d', .string s', .int .i64 p', .slice a' l'.length c'] 26)) w.heap.size (.mk k r d s p a c l) := (BoxX.new w (.mk k r d s p a c l) _ rfl).kp ((Kp.refl _).alloc _)
  have hB2 : BoxX ((w.alloc (.cells #[.int .i64 k, .int .i64 r, .int .i64 d, .string s, .int .i64 p, .slice a l.length c] 26)).alloc (.cells #[.int .i64 k', .int .i64 r', .int .i64 d', .string s', .int .i64 p', .slice a' l'.length c'] 26)) (w.heap.size + 1) (.mk k' r' d' s' p' a' c' l') := BoxX.new _ (.mk k' r' d' s' p' a' c' l') _ (by simp)
  go_enter Tryz.func32, Tryz.ntmps32
  go_upto_region 1 with fail
  generalize World.alloc _ _ = W at *
  have HE := Lib.hid (eqfXX a a' l l' c c' B 32 #[] W Ex.eqv (by omega) (hrow.kp k1) (hrow'.kp k1) ⟨hp.1, fun x hx y hy w1 hk => hp.2 x hx y hy w1 (k1.trans hk)⟩)
  have K1 := Lib.hid k1
  obtain ⟨⟨q0, q1, q2, q3, q4, q5⟩, _⟩ := hB1
  obtain ⟨⟨t0, t1, t2, t3, t4, t5⟩, _⟩ := hB2
  simp only [Ex.kind, Ex.rn, Ex.rd, Ex.name, Ex.pw, Ex.a, Ex.c, Ex.l] at q0 q1 q2 q3 q4 q5 t0 t1 t2 t3 t4 t5
  clear hrow hrow' hp k1 hl
  by_cases c1 : k = k'
  · subst c1
    by_cases c2 : r = r'
    · subst c2
      by_cases c3 : d = d'
      · subst c3
        by_cases c4 : s = s'
        · subst c4
          by_cases c5 : p = p'
          · subst c5
            have hz : allXX Ex.eqv l l' = b0 := by rw [← h0]; simp
            rw [hz] at HE
            clear h0 hz
            go_wp2_with (go_at_call 71; go_fit HE.out; rintro r w2 ⟨rfl, k2⟩)
            go_ret
            exact ⟨rfl, K1.out.trans k2⟩
          · skip
            have hz : b0 = false := by rw [← h0]; rw [decide_eq_false c5]; simp
            subst hz
            clear HE h0
            have h5 : (p == p') = false := beq_eq_false_iff_ne.2 c5
            go_wp2_with fail
            all_goals go_ret
            all_goals exact ⟨rfl, K1.out⟩
        · skip
          have hz : b0 = false := by rw [← h0]; rw [decide_eq_false c4]; simp
          subst hz
          clear HE h0
          have h4 : (s.toList == s'.toList) = false := strNe c4
          go_wp2_with fail
          all_goals go_ret
          all_goals exact ⟨rfl, K1.out⟩
      · skip
        have hz : b0 = false := by rw [← h0]; rw [decide_eq_false (p := r = r ∧ d = d') (fun h => c3 h.2)]; simp
        subst hz
        clear HE h0
        have h3 : (d == d') = false := beq_eq_false_iff_ne.2 c3
        go_wp2_with fail
        all_goals go_ret
        all_goals exact ⟨rfl, K1.out⟩
    · skip
      have hz : b0 = false := by rw [← h0]; rw [decide_eq_false (p := r = r' ∧ d = d') (fun h => c2 h.1)]; simp
      subst hz
      clear HE h0
      have h2 : (r == r') = false := beq_eq_false_iff_ne.2 c2
      go_wp2_with fail
      all_goals go_ret
      all_goals exact ⟨rfl, K1.out⟩
  · skip
    have hz : b0 = false := by rw [← h0]; rw [decide_eq_false c1]; simp
    subst hz
    clear HE h0
    have h1 : (k == k') = false := beq_eq_false_iff_ne.2 c1
    go_wp2_with fail
    all_goals go_ret
    all_goals exact ⟨rfl, K1.out⟩
theorem equal_any : ∀ x : Ex, EqualAt x := by
  refine Ex.ind fun x ih y B w hx hy => ?_
  obtain ⟨⟨_, _, _, hl⟩, hrow, hch⟩ := Ex.at_iff.1 hx
  obtain ⟨_, hrow', hch'⟩ := Ex.at_iff.1 hy
  refine equal_step x.kind x.rn x.rd x.pw y.kind y.rn y.rd y.pw x.name y.name x.a y.a x.c y.c x.l y.l B w hl hrow hrow' ⟨fun _ _ => by kernel_rfl, fun u hu v hv w1 hk => ?_⟩ _ ?_
  · exact ih u hu v B w1 (Ex.at_kp (hch u hu) hk) (Ex.at_kp (hch' v hv) hk)
  · rw [x.eqv_eq, eqL_all]
end Go.Proofs.YthaphbbeiglolaaGreat
end

section
namespace Go.Proofs.YthaphbbeiglolaaGreat
open Go.RowKit Go.Sort

/-- Equal's answer -/
def eqO (x y : Ex) : Bool := x.ok && (y.ok && x.eqv y)
set_option maxHeartbeats 4000000 in
set_option maxRecDepth 20000 in
theorem tequal_any (x y : Ex) (B : Nat) (w : World) (hx : x.at w B) (hy : y.at w B) (hB : B ≤ w.heap.size) : Calls Tryz.prog 10 #[.agg #[.int .i64 x.kind, .int .i64 x.rn, .int .i64 x.rd, .string x.name, .int .i64 x.pw, .slice x.a x.l.length x.c], .agg #[.int .i64 y.kind, .int .i64 y.rn, .int .i64 y.rd, .string y.name, .int .i64 y.pw, .slice y.a y.l.length y.c]] w fun r w' => r = .returned (.bool (eqO x y)) ∧ Kp w w' := by
  have k1 : Kp w ((w.alloc (.cells #[.int .i64 x.kind, .int .i64 x.rn, .int .i64 x.rd, .string x.name, .int .i64 x.pw, .slice x.a x.l.length x.c] 26)).alloc (.cells #[.int .i64 y.kind, .int .i64 y.rn, .int .i64 y.rd, .string y.name, .int .i64 y.pw, .slice y.a y.l.length y.c] 26)) := ((Kp.refl w).alloc _).alloc _
  have hB1 : BoxX ((w.alloc (.cells #[.int .i64 x.kind, .int .i64 x.rn, .int .i64 x.rd, .string x.name, .int .i64 x.pw, .slice x.a x.l.length x.c] 26)).alloc (.cells #[.int .i64 y.kind, .int .i64 y.rn, .int .i64 y.rd, .string y.name, .int .i64 y.pw, .slice y.a y.l.length y.c] 26)) w.heap.size x := (BoxX.new w x _ rfl).kp ((Kp.refl _).alloc _)
  have hB2 : BoxX ((w.alloc (.cells #[.int .i64 x.kind, .int .i64 x.rn, .int .i64 x.rd, .string x.name, .int .i64 x.pw, .slice x.a x.l.length x.c] 26)).alloc (.cells #[.int .i64 y.kind, .int .i64 y.rn, .int .i64 y.rd, .string y.name, .int .i64 y.pw, .slice y.a y.l.length y.c] 26)) (w.heap.size + 1) y := BoxX.new _ y _ (by simp)
  obtain ⟨b0, hb0⟩ : ∃ b0, eqO x y = b0 := ⟨_, rfl⟩
  rw [hb0]
  have HQ := Lib.hid (show b0 = (x.ok && (y.ok && x.eqv y)) from hb0.symm)
  clear hb0
  go_enter Tryz.func10, Tryz.ntmps10
  go_upto_region 1 with fail
  generalize World.alloc _ _ = W at *
  have hBW := Nat.le_trans hB k1.size
  have HX := Lib.hid (Ex.at_kp hx k1)
  have HY := Lib.hid (Ex.at_kp hy k1)
  have HV1 := Lib.hid (tvalid_any x B W HX.out hBW)
  have HV2 := Lib.hid fun W' (k : Kp W W') => tvalid_any y B W' (Ex.at_kp HY.out k) (Nat.le_trans hBW k.size)
  have HE := Lib.hid fun W' (k : Kp W W') => equal_any x y B W' (Ex.at_kp HX.out k) (Ex.at_kp HY.out k)
  have K1 := Lib.hid k1
  have HB1 := Lib.hid hB1
  have HB2 := Lib.hid hB2
  obtain ⟨⟨q0, q1, q2, q3, q4, q5⟩, _⟩ := hB1
  clear hB2 k1 hx hy
  rcases Bool.eq_false_or_eq_true x.ok with h1 | h1
  · rw [h1] at HV1
    rcases Bool.eq_false_or_eq_true y.ok with h2 | h2
    · rw [h2] at HV2
      have hz : x.eqv y = b0 := by rw [HQ.out, h1, h2]; rfl
      rw [hz] at HE
      clear HQ h1 h2 hz
      go_wp2_with (first
        | (go_at_call 6; go_fit HV1.out; rintro r w2 ⟨rfl, k2⟩; clear HV1; obtain ⟨⟨t0, t1, t2, t3, t4, t5⟩, _⟩ := HB2.out.kp k2)
        | (go_at_call 6; go_fit (HV2.out _ k2); rintro r w3 ⟨rfl, k3⟩; clear HV2; have kk := k2.trans k3; obtain ⟨⟨y0, y1, y2, y3, y4, y5⟩, _⟩ := HB2.out.kp kk; obtain ⟨⟨x0, x1, x2, x3, x4, x5⟩, _⟩ := HB1.out.kp kk)
        | (go_at_call 32; go_fit (HE.out _ kk); rintro r w4 ⟨rfl, k4⟩)
        | fail)
      go_ret
      exact ⟨rfl, K1.out.trans (kk.trans k4)⟩
    · rw [h2] at HV2
      have hz : false = b0 := by rw [HQ.out, h1, h2]; rfl
      subst hz
      clear HQ h1 h2 HE
      go_wp2_with (first
        | (go_at_call 6; go_fit HV1.out; rintro r w2 ⟨rfl, k2⟩; clear HV1; obtain ⟨⟨t0, t1, t2, t3, t4, t5⟩, _⟩ := HB2.out.kp k2)
        | (go_at_call 6; go_fit (HV2.out _ k2); rintro r w3 ⟨rfl, k3⟩; clear HV2)
        | fail)
      go_ret
      exact ⟨rfl, K1.out.trans (k2.trans k3)⟩
  · rw [h1] at HV1
    have hz : false = b0 := by rw [HQ.out, h1]; rfl
    subst hz
    clear HQ h1 HE HV2
    go_wp2_with (first
      | (go_at_call 6; go_fit HV1.out; rintro r w2 ⟨rfl, k2⟩; clear HV1)
      | fail)
    go_ret
    exact ⟨rfl, K1.out.trans k2⟩
end Go.Proofs.YthaphbbeiglolaaGreat
end

section
namespace Go.Proofs.YthaphbbeiglolaaGreat
open Go.RowKit Go.Sort

/-- a slice of texts lies there -/
def RowS (w : World) (a : Option Addr) (ss : List ByteArray) : Prop := ∀ (i : Nat) (s : ByteArray), ss[i]? = some s → ∃ b o, a = some ⟨b, o, none⟩ ∧ w.cell? ⟨b, o + i, none⟩ = some (.string s)
theorem RowS.kp {w w' : World} {a : Option Addr} {ss : List ByteArray} (h : RowS w a ss) (k : Kp w w') : RowS w' a ss := fun i s hs => by
  obtain ⟨b, o, e, hc⟩ := h i s hs
  exact ⟨b, o, e, k.cell hc⟩
end Go.Proofs.YthaphbbeiglolaaGreat
end
