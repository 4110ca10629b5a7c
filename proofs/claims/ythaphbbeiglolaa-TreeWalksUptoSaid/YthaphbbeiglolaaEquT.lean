/-
  Walks: tree.equal, tree.Equal.
-/
import Derived.Test.YthaphbbeiglolaaEqfX
namespace Go.Proofs.Ythaphbbeiglolaa
open Go.RowKit Go.Sort

theorem strNe {s t : ByteArray} (h : s ≠ t) : (s.toList == t.toList) = false := beq_eq_false_iff_ne.2 fun e => h (by
  rw [ByteArray.toList_eq, ByteArray.toList_eq] at e
  exact Go.WideShapes.bytes_inj e)
theorem eqL_all : ∀ (l m : List Ex), Ex.eqL l m = allXX Ex.eqv l m
  | [], [] => by rw [Ex.eqL]; rfl
  | [], y :: u => by rw [Ex.eqL]; unfold allXX; simp
  | x :: t, [] => by rw [Ex.eqL]; unfold allXX; simp
  | x :: t, y :: u => by
    rw [Ex.eqL, eqL_all t u]
    unfold allXX
    simp only [List.length_cons, List.zip_cons_cons, List.all_cons, Nat.add_right_cancel_iff]
    cases x.eqv y <;> cases decide (t.length = u.length) <;> simp
def EqualAt (x : Ex) : Prop := ∀ (y : Ex) (B : Nat) (w : World), x.at w B → y.at w B → Calls Try.prog 55 #[.agg #[.int .i64 x.kind, .int .i64 x.rn, .int .i64 x.rd, .string x.name, .int .i64 x.pw, .slice x.a x.l.length x.c], .agg #[.int .i64 y.kind, .int .i64 y.rn, .int .i64 y.rd, .string y.name, .int .i64 y.pw, .slice y.a y.l.length y.c]] w fun r w' => r = .returned (.bool (x.eqv y)) ∧ Kp w w'
theorem equal_step (k r d p k' r' d' p' : Int) (s s' : ByteArray) (a a' : Option Addr) (c c' : Nat) (l l' : List Ex) (B : Nat) (w : World) (hl : l.length ≤ 1048576) (hrow : RowX w B a l) (hrow' : RowX w B a' l')
    (hp : AnsXX Try.prog 55 #[] w l l' Ex.eqv) (b0 : Bool) (h0 : ((decide (k = k') && (decide (r = r' ∧ d = d') && (decide (s = s') && decide (p = p')))) && allXX Ex.eqv l l') = b0) :
    Calls Try.prog 55 #[.agg #[.int .i64 k, .int .i64 r, .int .i64 d, .string s, .int .i64 p, .slice a l.length c], .agg #[.int .i64 k', .int .i64 r', .int .i64 d', .string s', .int .i64 p', .slice a' l'.length c']] w
      fun e w' => e = .returned (.bool b0) ∧ Kp w w' := by
  have k1 : Kp w ((w.alloc (.cells #[.int .i64 k, .int .i64 r, .int .i64 d, .string s, .int .i64 p, .slice a l.length c] 26)).alloc (.cells #[.int .i64 k', .int .i64 r', .int .i64 d', .string s', .int .i64 p', .slice a' l'.length c'] 26)) := ((Kp.refl w).alloc _).alloc _
  have hB1 : BoxX ((w.alloc (.cells #[.int .i64 k, .int .i64 r, .int .i64 d, .string s, .int .i64 p, .slice a l.length c] 26)).alloc (.cells #[.int .i64 k', .int .i64 r', .int .i64 d', .string s', .int .i64 p', .slice a' l'.length c'] 26)) w.heap.size (.mk k r d s p a c l) := (BoxX.new w (.mk k r d s p a c l) _ rfl).kp ((Kp.refl _).alloc _)
  have hB2 : BoxX ((w.alloc (.cells #[.int .i64 k, .int .i64 r, .int .i64 d, .string s, .int .i64 p, .slice a l.length c] 26)).alloc (.cells #[.int .i64 k', .int .i64 r', .int .i64 d', .string s', .int .i64 p', .slice a' l'.length c'] 26)) (w.heap.size + 1) (.mk k' r' d' s' p' a' c' l') := BoxX.new _ (.mk k' r' d' s' p' a' c' l') _ (by simp)
  go_enter Try.func55, Try.ntmps55
  go_upto_region 1 with fail
  generalize World.alloc _ _ = W at *
  have HE := Lib.hid (eqfXX a a' l l' c c' B 55 #[] W Ex.eqv (by omega) (hrow.kp k1) (hrow'.kp k1) ⟨hp.1, fun x hx y hy w1 hk => hp.2 x hx y hy w1 (k1.trans hk)⟩)
  have K1 := Lib.hid k1
  obtain ⟨⟨q0, q1, q2, q3, q4, q5⟩, _⟩ := hB1
  obtain ⟨⟨t0, t1, t2, t3, t4, t5⟩, _⟩ := hB2
  simp only [Ex.kind, Ex.rn, Ex.rd, Ex.name, Ex.pw, Ex.a, Ex.c, Ex.l] at q0 q1 q2 q3 q4 q5 t0 t1 t2 t3 t4 t5
  clear hrow hrow' hp k1 hl
  by_cases c1 : k = k'
  · subst c1
    by_cases c2 : r = r'
    · subst c2
      by_cases c3 : d = d'
      · subst c3
        by_cases c4 : s = s'
        · subst c4
          by_cases c5 : p = p'
          · subst c5
            have hz : allXX Ex.eqv l l' = b0 := by rw [← h0]; simp
            rw [hz] at HE
            clear h0 hz
            go_wp2_with (go_at_call 27; go_fit HE.out; rintro r w2 ⟨rfl, k2⟩)
            go_ret
            exact ⟨rfl, K1.out.trans k2⟩
          · skip
            have hz : b0 = false := by rw [← h0]; rw [decide_eq_false c5]; simp
            subst hz
            clear HE h0
            have h5 : (p == p') = false := beq_eq_false_iff_ne.2 c5
            go_wp2_with fail
            all_goals go_ret
            all_goals exact ⟨rfl, K1.out⟩
        · skip
          have hz : b0 = false := by rw [← h0]; rw [decide_eq_false c4]; simp
          subst hz
          clear HE h0
          have h4 : (s.toList == s'.toList) = false := strNe c4
          go_wp2_with fail
          all_goals go_ret
          all_goals exact ⟨rfl, K1.out⟩
      · skip
        have hz : b0 = false := by rw [← h0]; rw [decide_eq_false (p := r = r ∧ d = d') (fun h => c3 h.2)]; simp
        subst hz
        clear HE h0
        have h3 : (d == d') = false := beq_eq_false_iff_ne.2 c3
        go_wp2_with fail
        all_goals go_ret
        all_goals exact ⟨rfl, K1.out⟩
    · skip
      have hz : b0 = false := by rw [← h0]; rw [decide_eq_false (p := r = r' ∧ d = d') (fun h => c2 h.1)]; simp
      subst hz
      clear HE h0
      have h2 : (r == r') = false := beq_eq_false_iff_ne.2 c2
      go_wp2_with fail
      all_goals go_ret
      all_goals exact ⟨rfl, K1.out⟩
  · skip
    have hz : b0 = false := by rw [← h0]; rw [decide_eq_false c1]; simp
    subst hz
    clear HE h0
    have h1 : (k == k') = false := beq_eq_false_iff_ne.2 c1
    go_wp2_with fail
    all_goals go_ret
    all_goals exact ⟨rfl, K1.out⟩
theorem equal_any : ∀ x : Ex, EqualAt x := by
  refine Ex.ind fun x ih y B w hx hy => ?_
  obtain ⟨⟨_, _, _, hl⟩, hrow, hch⟩ := Ex.at_iff.1 hx
  obtain ⟨_, hrow', hch'⟩ := Ex.at_iff.1 hy
  refine equal_step x.kind x.rn x.rd x.pw y.kind y.rn y.rd y.pw x.name y.name x.a y.a x.c y.c x.l y.l B w hl hrow hrow' ⟨fun _ _ => by kernel_rfl, fun u hu v hv w1 hk => ?_⟩ _ ?_
  · exact ih u hu v B w1 (Ex.at_kp (hch u hu) hk) (Ex.at_kp (hch' v hv) hk)
  · rw [x.eqv_eq, eqL_all]
end Go.Proofs.Ythaphbbeiglolaa
