/-
  Walks: tree.Replace.
-/
import Derived.Test.YthaphbbeiglolaaChaN
namespace Go.Proofs.Ythaphbbeiglolaa
open Go.RowKit Go.Sort

/-- one name, replaced -/
def oneF (name : ByteArray) (y : Ex) : ByteArray → Option Ex := updF (fun _ => none) name y
/-- Replace's error -/
def replF (e : Ex) (name : ByteArray) (y : Ex) : Int := if e.ok = true ∧ y.ok = true ∧ nameB name = true then (if (e.sub (oneF name y)).ok = true then 0 else 5) else 1
theorem zero_made {w0 w : World} (h : w0.heap.size ≤ w.heap.size) : Ex.zero.made w0 w :=
  ⟨Ex.at_iff.2 ⟨⟨Nat.le_refl _, by decide, by decide, Nat.zero_le _⟩, fun i x hx => by simp [Ex.zero, Ex.l] at hx, fun x hx => by simp [Ex.zero, Ex.l] at hx⟩, Ex.own_iff.2 ⟨h, .inl rfl⟩⟩
theorem replF_eq (e : Ex) (name : ByteArray) (y : Ex) : replF e name y = if e.ok = true ∧ y.ok = true ∧ nameB name = true then (if (e.sub (oneF name y)).ok = true then 0 else 5) else 1 := rfl
/-- what Replace answers -/
def ReplOut (w w' : World) (e : Ex) (name : ByteArray) (y x : Ex) : Prop := Kp w w' ∧ x.made w w' ∧ ((replF e name y = 0 ∧ x.er = (e.sub (oneF name y)).er) ∨ (replF e name y ≠ 0 ∧ x = Ex.zero))
set_option maxHeartbeats 4000000 in
set_option maxRecDepth 20000 in
theorem replace_any (e y : Ex) (name : ByteArray) (B : Nat) (w : World) (hat : e.at w B) (hay : y.at w B) (hB : B ≤ w.heap.size) (hnm : name.size ≤ maxLen) :
    Calls Try.prog 11 #[.agg #[.int .i64 e.kind, .int .i64 e.rn, .int .i64 e.rd, .string e.name, .int .i64 e.pw, .slice e.a e.l.length e.c], .string name, .agg #[.int .i64 y.kind, .int .i64 y.rn, .int .i64 y.rd, .string y.name, .int .i64 y.pw, .slice y.a y.l.length y.c]] w fun r w' => ∃ x : Ex, r = .returned (.tuple #[.agg #[.int .i64 x.kind, .int .i64 x.rn, .int .i64 x.rd, .string x.name, .int .i64 x.pw, .slice x.a x.l.length x.c], .int .i64 (replF e name y)]) ∧ ReplOut w w' e name y x := by
  have k1 : Kp w (((w.alloc (.cells #[.int .i64 e.kind, .int .i64 e.rn, .int .i64 e.rd, .string e.name, .int .i64 e.pw, .slice e.a e.l.length e.c] 26)).alloc (.cells #[.int .i64 y.kind, .int .i64 y.rn, .int .i64 y.rd, .string y.name, .int .i64 y.pw, .slice y.a y.l.length y.c] 26)).alloc (.cells #[.int .i64 0, .int .i64 0, .int .i64 0, .string ⟨#[]⟩, .int .i64 0, .slice none 0 0] 26)) := (((Kp.refl w).alloc _).alloc _).alloc _
  have hB1 : BoxX (((w.alloc (.cells #[.int .i64 e.kind, .int .i64 e.rn, .int .i64 e.rd, .string e.name, .int .i64 e.pw, .slice e.a e.l.length e.c] 26)).alloc (.cells #[.int .i64 y.kind, .int .i64 y.rn, .int .i64 y.rd, .string y.name, .int .i64 y.pw, .slice y.a y.l.length y.c] 26)).alloc (.cells #[.int .i64 0, .int .i64 0, .int .i64 0, .string ⟨#[]⟩, .int .i64 0, .slice none 0 0] 26)) w.heap.size e := (BoxX.new w e _ rfl).kp (((Kp.refl _).alloc _).alloc _)
  have hB2 : BoxX (((w.alloc (.cells #[.int .i64 e.kind, .int .i64 e.rn, .int .i64 e.rd, .string e.name, .int .i64 e.pw, .slice e.a e.l.length e.c] 26)).alloc (.cells #[.int .i64 y.kind, .int .i64 y.rn, .int .i64 y.rd, .string y.name, .int .i64 y.pw, .slice y.a y.l.length y.c] 26)).alloc (.cells #[.int .i64 0, .int .i64 0, .int .i64 0, .string ⟨#[]⟩, .int .i64 0, .slice none 0 0] 26)) (w.heap.size + 1) y := (BoxX.new _ y _ (by simp)).kp ((Kp.refl _).alloc _)
  have hB3 : BoxX (((w.alloc (.cells #[.int .i64 e.kind, .int .i64 e.rn, .int .i64 e.rd, .string e.name, .int .i64 e.pw, .slice e.a e.l.length e.c] 26)).alloc (.cells #[.int .i64 y.kind, .int .i64 y.rn, .int .i64 y.rd, .string y.name, .int .i64 y.pw, .slice y.a y.l.length y.c] 26)).alloc (.cells #[.int .i64 0, .int .i64 0, .int .i64 0, .string ⟨#[]⟩, .int .i64 0, .slice none 0 0] 26)) (w.heap.size + 1 + 1) Ex.zero := BoxX.new _ Ex.zero _ (by simp)
  have hz0 : (((w.alloc (.cells #[.int .i64 e.kind, .int .i64 e.rn, .int .i64 e.rd, .string e.name, .int .i64 e.pw, .slice e.a e.l.length e.c] 26)).alloc (.cells #[.int .i64 y.kind, .int .i64 y.rn, .int .i64 y.rd, .string y.name, .int .i64 y.pw, .slice y.a y.l.length y.c] 26)).alloc (.cells #[.int .i64 0, .int .i64 0, .int .i64 0, .string ⟨#[]⟩, .int .i64 0, .slice none 0 0] 26)).heap.size = w.heap.size + 3 := by simp
  have HR := Lib.hid (replF_eq e name y)
  have hmm := @run_makeMap Try.prog
  go_enter Try.func11, Try.ntmps11
  go_upto_region 1 with fail
  generalize World.alloc _ _ = W at *
  have HA := Lib.hid (Ex.at_kp hat k1)
  have HAY := Lib.hid (Ex.at_kp hay k1)
  have K1 := Lib.hid k1
  have HZ := Lib.hid hz0
  have HB1 := Lib.hid hB1
  have HB2 := Lib.hid hB2
  have HB3 := Lib.hid hB3
  have hBW : B ≤ W.heap.size := by omega
  have HV1 := Lib.hid (tvalid_any e B W HA.out hBW)
  have HV2 := Lib.hid fun W' (k : Kp W W') => tvalid_any y B W' (Ex.at_kp HAY.out k) (Nat.le_trans hBW k.size)
  have HN := Lib.hid fun W' => lname_any name W' hnm
  obtain ⟨⟨q0, q1, q2, q3, q4, q5⟩, _⟩ := hB1
  clear k1 hat hay hB2 hB3 hz0
  rcases Bool.eq_false_or_eq_true e.ok with h1 | h1
  rotate_left
  · rw [h1] at HV1
    have H1 := Lib.hid h1
    clear h1 HA HAY HV2 HN hmm
    go_wp2_with (first | (go_at_call 31; go_fit HV1.out; rintro r w2 ⟨rfl, k2⟩; clear HV1; obtain ⟨⟨z0, z1, z2, z3, z4, z5⟩, zf, _⟩ := HB3.out.kp k2; have g0 := zf 0; have g1 := zf 1; have g2 := zf 2; have g3 := zf 3; have g4 := zf 4; have g5 := zf 5) | fail)
    generalize hW9 : ((((((w2.setCell _ _).setCell _ _).setCell _ _).setCell _ _).setCell _ _).setCell _ _) = W9
    have hb := HB3.out.kp k2
    have hst : Stored6 (w.heap.size + 1 + 1) 0 Ex.zero w2 W9 := stored60 Ex.zero hb hW9
    obtain ⟨⟨s0, s1, s2, s3, s4, s5⟩, _⟩ := hb.stored hst
    have hz := HZ.out
    have hz9 := hst.2.2.2.1
    have hkw := (K1.out.trans k2).size
    refine bodyPost_ret (v := .tuple #[.agg #[.int .i64 Ex.zero.kind, .int .i64 Ex.zero.rn, .int .i64 Ex.zero.rd, .string Ex.zero.name, .int .i64 Ex.zero.pw, .slice Ex.zero.a Ex.zero.l.length Ex.zero.c], .int .i64 1]) (by simp [results, Try.results11, go_sem, s0, s1, s2, s3, s4, s5]) rfl ?_
    have hrf : replF e name y = 1 := by rw [HR.out, if_neg (by rw [H1.out]; exact fun h => absurd h.1 (by decide))]
    refine ⟨Ex.zero, by rw [hrf], hst.2.2.2.2 w (K1.out.trans k2) (by omega), zero_made (by omega), .inr ⟨by rw [hrf]; decide, rfl⟩⟩
  rcases Bool.eq_false_or_eq_true y.ok with h2 | h2
  rotate_left
  · rw [h1] at HV1
    rw [h2] at HV2
    have H2 := Lib.hid h2
    clear h1 h2 HA HAY HN hmm
    go_wp2_with (first | (go_at_call 31; go_fit HV1.out; rintro r w2 ⟨rfl, k2⟩; clear HV1; obtain ⟨⟨y0, y1, y2, y3, y4, y5⟩, _⟩ := HB2.out.kp k2) | (go_at_call 31; go_fit (HV2.out _ k2); rintro r w3 ⟨rfl, k3⟩; have kk := k2.trans k3; clear HV2; obtain ⟨⟨z0, z1, z2, z3, z4, z5⟩, zf, _⟩ := HB3.out.kp kk; have g0 := zf 0; have g1 := zf 1; have g2 := zf 2; have g3 := zf 3; have g4 := zf 4; have g5 := zf 5) | fail)
    generalize hW9 : ((((((w3.setCell _ _).setCell _ _).setCell _ _).setCell _ _).setCell _ _).setCell _ _) = W9
    have hb := HB3.out.kp kk
    have hst : Stored6 (w.heap.size + 1 + 1) 0 Ex.zero w3 W9 := stored60 Ex.zero hb hW9
    obtain ⟨⟨s0, s1, s2, s3, s4, s5⟩, _⟩ := hb.stored hst
    have hz := HZ.out
    have hz9 := hst.2.2.2.1
    have hkw := (K1.out.trans kk).size
    refine bodyPost_ret (v := .tuple #[.agg #[.int .i64 Ex.zero.kind, .int .i64 Ex.zero.rn, .int .i64 Ex.zero.rd, .string Ex.zero.name, .int .i64 Ex.zero.pw, .slice Ex.zero.a Ex.zero.l.length Ex.zero.c], .int .i64 1]) (by simp [results, Try.results11, go_sem, s0, s1, s2, s3, s4, s5]) rfl ?_
    have hrf : replF e name y = 1 := by rw [HR.out, if_neg (by rw [H2.out]; exact fun h => absurd h.2.1 (by decide))]
    refine ⟨Ex.zero, by rw [hrf], hst.2.2.2.2 w (K1.out.trans kk) (by omega), zero_made (by omega), .inr ⟨by rw [hrf]; decide, rfl⟩⟩
  rcases Bool.eq_false_or_eq_true (nameB name) with h3 | h3
  rotate_left
  · rw [h1] at HV1
    rw [h2] at HV2
    rw [h3] at HN
    have H3 := Lib.hid h3
    clear h1 h2 h3 HA HAY hmm
    go_wp2_with (first | (go_at_call 31; go_fit HV1.out; rintro r w2 ⟨rfl, k2⟩; clear HV1; obtain ⟨⟨y0, y1, y2, y3, y4, y5⟩, _⟩ := HB2.out.kp k2) | (go_at_call 31; go_fit (HV2.out _ k2); rintro r w3 ⟨rfl, k3⟩; have kk := k2.trans k3; clear HV2; obtain ⟨⟨z0, z1, z2, z3, z4, z5⟩, zf, _⟩ := HB3.out.kp kk; have g0 := zf 0; have g1 := zf 1; have g2 := zf 2; have g3 := zf 3; have g4 := zf 4; have g5 := zf 5) | (go_at_call 38; go_fit (HN.out w3); rintro r w4 ⟨rfl, h4⟩; replace h4 := h4.symm; subst h4) | fail)
    generalize hW9 : ((((((w3.setCell _ _).setCell _ _).setCell _ _).setCell _ _).setCell _ _).setCell _ _) = W9
    have hb := HB3.out.kp kk
    have hst : Stored6 (w.heap.size + 1 + 1) 0 Ex.zero w3 W9 := stored60 Ex.zero hb hW9
    obtain ⟨⟨s0, s1, s2, s3, s4, s5⟩, _⟩ := hb.stored hst
    have hz := HZ.out
    have hz9 := hst.2.2.2.1
    have hkw := (K1.out.trans kk).size
    refine bodyPost_ret (v := .tuple #[.agg #[.int .i64 Ex.zero.kind, .int .i64 Ex.zero.rn, .int .i64 Ex.zero.rd, .string Ex.zero.name, .int .i64 Ex.zero.pw, .slice Ex.zero.a Ex.zero.l.length Ex.zero.c], .int .i64 1]) (by simp [results, Try.results11, go_sem, s0, s1, s2, s3, s4, s5]) rfl ?_
    have hrf : replF e name y = 1 := by rw [HR.out, if_neg (by rw [H3.out]; exact fun h => absurd h.2.2 (by decide))]
    refine ⟨Ex.zero, by rw [hrf], hst.2.2.2.2 w (K1.out.trans kk) (by omega), zero_made (by omega), .inr ⟨by rw [hrf]; decide, rfl⟩⟩
  · have HR := Lib.hid (show replF e name y = _ from HR.out.trans (if_pos ⟨h1, h2, h3⟩))
    rw [h1] at HV1
    rw [h2] at HV2
    rw [h3] at HN
    clear h1 h2 h3
    go_upto_region 3 with (first | (go_at_call 31; go_fit HV1.out; rintro r w2 ⟨rfl, k2⟩; clear HV1; obtain ⟨⟨y0, y1, y2, y3, y4, y5⟩, _⟩ := HB2.out.kp k2) | (go_at_call 31; go_fit (HV2.out _ k2); rintro r w3 ⟨rfl, k3⟩; have kk := k2.trans k3; clear HV2) | (go_at_call 38; go_fit (HN.out w3); rintro r w4 ⟨rfl, h4⟩; replace h4 := h4.symm; subst h4) | fail)
    clear HN
    have K3 := Lib.hid (K1.out.trans kk)
    have HB1 := Lib.hid (HB1.out.kp kk)
    have HB2 := Lib.hid (HB2.out.kp kk)
    have HB3 := Lib.hid (HB3.out.kp kk)
    have HZ := Lib.hid (show w.heap.size + 3 ≤ w3.heap.size by have := HZ.out; have := kk.size; omega)
    have HA := Lib.hid (Ex.at_kp HA.out kk)
    have HAY := Lib.hid (Ex.at_kp HAY.out kk)
    clear k2 k3 kk K1 q0 q1 q2 q3 q4 q5 y0 y1 y2 y3 y4 y5
    obtain ⟨⟨q0, q1, q2, q3, q4, q5⟩, _⟩ := HB1.out
    obtain ⟨⟨y0, y1, y2, y3, y4, y5⟩, _⟩ := HB2.out.kp ((Kp.refl w3).alloc (.map #[] 0))
    have HM := Lib.hid (MapX.made w3)
    have HCh := Lib.hid fun w5 (h : MapX w5 w3.heap.size 1 (oneF name y)) (k : Kp w3 w5) => change_any e B w3.heap.size 1 (oneF name y) w5 (Ex.at_kp HA.out k) (Nat.le_trans (Nat.le_trans hB K3.out.size) k.size) h (fun s x hx => by
      unfold oneF updF at hx
      split at hx
      · cases hx; exact Ex.at_kp HAY.out k
      · cases hx)
    have k0 := (Kp.refl w3).alloc (.map #[] 0)
    go_upto_region 4 with (first
      | (refine wpList_insert_map rfl _ _ _ rfl w3.heap.size 0 _ rfl HM.out (by decide) name rfl hnm y rfl ?_; intro w5 hm5 ht5; have k5 := ht5.kp w3 k0 (Nat.le_refl _))
      | (go_at_call 39; go_fit (HCh.out w5 hm5 k5); rintro r w6 ⟨x, rfl, hx, k6, hm⟩)
      | fail)
    have k7 : Kp w6 (w6.alloc (.cells #[.int .i64 x.kind, .int .i64 x.rn, .int .i64 x.rd, .string x.name, .int .i64 x.pw, .slice x.a x.l.length x.c] 26)) := (Kp.refl w6).alloc _
    have hb7 : BoxX (w6.alloc (.cells #[.int .i64 x.kind, .int .i64 x.rn, .int .i64 x.rd, .string x.name, .int .i64 x.pw, .slice x.a x.l.length x.c] 26)) w6.heap.size x := BoxX.new w6 x _ rfl
    generalize w6.alloc _ = w7 at *
    have kk := k5.trans (k6.trans k7)
    have K7 := Lib.hid (K3.out.trans kk)
    have HM7 := Lib.hid (Ex.made_kp (Ex.made_from hm k5.size) k7)
    have HX7 := Lib.hid hx
    have HB3 := Lib.hid (HB3.out.kp kk)
    have hok : x.ok = (e.sub (oneF name y)).ok := ok_er hx
    have HV := Lib.hid (tvalid_any x w7.heap.size w7 HM7.out.1 (Nat.le_refl _))
    have HB7 := Lib.hid hb7
    have HZ := Lib.hid (show w.heap.size + 3 ≤ w3.heap.size from HZ.out)
    clear hm5 ht5 k5 k6 k7 kk hm hx q0 q1 q2 q3 q4 q5 y0 y1 y2 y3 y4 y5 k0 HB1 HB2 HM HCh
    obtain ⟨⟨q0, q1, q2, q3, q4, q5⟩, _⟩ := hb7
    rcases Bool.eq_false_or_eq_true x.ok with h4 | h4
    · have hrf : replF e name y = 0 := by rw [HR.out, if_pos (by rw [← hok]; exact h4)]
      have HRf := Lib.hid hrf
      rw [h4] at HV
      clear h4 hok hrf HR
      go_wp2_with (first | (go_at_call 31; go_fit HV.out; rintro r w8 ⟨rfl, k8⟩; obtain ⟨⟨z0, z1, z2, z3, z4, z5⟩, zf, _⟩ := HB3.out.kp k8; have g0 := zf 0; have g1 := zf 1; have g2 := zf 2; have g3 := zf 3; have g4 := zf 4; have g5 := zf 5; obtain ⟨⟨y0, y1, y2, y3, y4, y5⟩, _⟩ := HB7.out.kp k8) | fail)
      generalize hW9 : ((((((w8.setCell _ _).setCell _ _).setCell _ _).setCell _ _).setCell _ _).setCell _ _) = W9
      have hb := HB3.out.kp k8
      have hst : Stored6 (w.heap.size + 1 + 1) 0 x w8 W9 := stored60 x hb hW9
      obtain ⟨⟨s0, s1, s2, s3, s4, s5⟩, _⟩ := hb.stored hst
      have hz := HZ.out
      have hz9 := hst.2.2.2.1
      have hm8 := Ex.made_kp HM7.out k8
      refine bodyPost_ret (v := .tuple #[.agg #[.int .i64 x.kind, .int .i64 x.rn, .int .i64 x.rd, .string x.name, .int .i64 x.pw, .slice x.a x.l.length x.c], .int .i64 0]) (by simp [results, Try.results11, go_sem, s0, s1, s2, s3, s4, s5]) rfl ?_
      refine ⟨x, by rw [HRf.out], hst.2.2.2.2 w (K7.out.trans k8) (by omega), ?_, .inl ⟨HRf.out, HX7.out⟩⟩
      refine Ex.made_from (w1 := w3) ⟨?_, ?_⟩ (by omega)
      · exact Ex.at_own' (by rw [hz9]; exact Nat.le_refl _) x _ _ hm8.2 (fun b i v hb _ hc => by rw [hst.2.1 ⟨b, i, none⟩ (.inl (by show b ≠ w.heap.size + 1 + 1; omega))]; exact hc) hm8.1
      · rw [hz9]
        exact Ex.own_same _ _ _ (fun b i _ _ => hst.2.2.1 _) hm8.2
    · have HR := Lib.hid (show replF e name y = 5 by rw [HR.out, if_neg (by rw [← hok, h4]; decide)])
      rw [h4] at HV
      clear h4 hok
      go_wp2_with (first | (go_at_call 31; go_fit HV.out; rintro r w8 ⟨rfl, k8⟩; obtain ⟨⟨z0, z1, z2, z3, z4, z5⟩, zf, _⟩ := HB3.out.kp k8; have g0 := zf 0; have g1 := zf 1; have g2 := zf 2; have g3 := zf 3; have g4 := zf 4; have g5 := zf 5) | fail)
      have K1 := K7
      have HZ := Lib.hid HZ.out
      generalize hW9 : ((((((w8.setCell _ _).setCell _ _).setCell _ _).setCell _ _).setCell _ _).setCell _ _) = W9
      have hb := HB3.out.kp k8
      have hst : Stored6 (w.heap.size + 1 + 1) 0 Ex.zero w8 W9 := stored60 Ex.zero hb hW9
      obtain ⟨⟨s0, s1, s2, s3, s4, s5⟩, _⟩ := hb.stored hst
      have hz := HZ.out
      have hz9 := hst.2.2.2.1
      have hkw7 := (K3.out).size
      have hkw := (K7.out.trans k8).size
      refine bodyPost_ret (v := .tuple #[.agg #[.int .i64 Ex.zero.kind, .int .i64 Ex.zero.rn, .int .i64 Ex.zero.rd, .string Ex.zero.name, .int .i64 Ex.zero.pw, .slice Ex.zero.a Ex.zero.l.length Ex.zero.c], .int .i64 5]) (by simp [results, Try.results11, go_sem, s0, s1, s2, s3, s4, s5]) rfl ?_
      have hrf : replF e name y = 5 := HR.out
      refine ⟨Ex.zero, by rw [hrf], hst.2.2.2.2 w (K7.out.trans k8) (by omega), zero_made (by omega), .inr ⟨by rw [hrf]; decide, rfl⟩⟩
end Go.Proofs.Ythaphbbeiglolaa
