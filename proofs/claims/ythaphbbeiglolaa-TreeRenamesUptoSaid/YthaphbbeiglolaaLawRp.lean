/-
  Walks: the law's zero; TreeReplaces.
-/
import Derived.Test.YthaphbbeiglolaaAwkW
import Derived.Test.YthaphbbeiglolaaSwpN
namespace Go.Proofs.Ythaphbbeiglolaa
open Go.RowKit Go.Sort

set_option maxHeartbeats 1000000 in
set_option maxRecDepth 20000 in
/-- zero: of the zero value -/
theorem zero_any (w : World) : Calls Try.prog 14 #[.agg #[.int .i64 Ex.zero.kind, .int .i64 Ex.zero.rn, .int .i64 Ex.zero.rd, .string Ex.zero.name, .int .i64 Ex.zero.pw, .slice Ex.zero.a Ex.zero.l.length Ex.zero.c]] w fun r w' => r = .returned (.bool true) ∧ Kp w w' := by
  show Calls Try.prog 14 #[.agg #[.int .i64 0, .int .i64 0, .int .i64 0, .string ⟨#[]⟩, .int .i64 0, .slice none 0 0]] w _
  have k1 : Kp w (w.alloc (.cells #[.int .i64 0, .int .i64 0, .int .i64 0, .string ⟨#[]⟩, .int .i64 0, .slice none 0 0] 26)) := (Kp.refl w).alloc _
  go_enter Try.func14, Try.ntmps14
  go_wp2
  go_ret
  exact ⟨rfl, k1⟩
theorem oneF_eqR (s : ByteArray) (b : Ex) : oneF s b = oneS s b := rfl
set_option maxHeartbeats 4000000 in
set_option maxRecDepth 100000 in
theorem Replaces_ok (e y : Ex) (name : ByteArray) (w : World) (hat : e.at w w.heap.size) (hay : y.at w w.heap.size) (hn : name.size ≤ maxLen) :
    Calls Try.prog 3 #[.agg #[.int .i64 e.kind, .int .i64 e.rn, .int .i64 e.rd, .string e.name, .int .i64 e.pw, .slice e.a e.l.length e.c], .string name, .agg #[.int .i64 y.kind, .int .i64 y.rn, .int .i64 y.rd, .string y.name, .int .i64 y.pw, .slice y.a y.l.length y.c]] w fun r w' => r = .returned (.bool true) ∧ Kp w w' := by
  have k1 : Kp w ((w.alloc (.cells #[.int .i64 e.kind, .int .i64 e.rn, .int .i64 e.rd, .string e.name, .int .i64 e.pw, .slice e.a e.l.length e.c] 26)).alloc (.cells #[.int .i64 y.kind, .int .i64 y.rn, .int .i64 y.rd, .string y.name, .int .i64 y.pw, .slice y.a y.l.length y.c] 26)) := ((Kp.refl w).alloc _).alloc _
  have hB1 : BoxX ((w.alloc (.cells #[.int .i64 e.kind, .int .i64 e.rn, .int .i64 e.rd, .string e.name, .int .i64 e.pw, .slice e.a e.l.length e.c] 26)).alloc (.cells #[.int .i64 y.kind, .int .i64 y.rn, .int .i64 y.rd, .string y.name, .int .i64 y.pw, .slice y.a y.l.length y.c] 26)) w.heap.size e := (BoxX.new w e _ rfl).kp ((Kp.refl _).alloc _)
  have hB2 : BoxX ((w.alloc (.cells #[.int .i64 e.kind, .int .i64 e.rn, .int .i64 e.rd, .string e.name, .int .i64 e.pw, .slice e.a e.l.length e.c] 26)).alloc (.cells #[.int .i64 y.kind, .int .i64 y.rn, .int .i64 y.rd, .string y.name, .int .i64 y.pw, .slice y.a y.l.length y.c] 26)) (w.heap.size + 1) y := BoxX.new _ y _ (by simp)
  have hrf := replF_eq e name y
  go_enter Try.func3, Try.ntmps3
  go_upto_region 1 with fail
  generalize World.alloc _ _ = W at *
  have KC := Lib.hid k1
  have HE := Lib.hid (Ex.at_kp hat k1)
  have HY := Lib.hid (Ex.at_kp hay k1)
  have HB1 := Lib.hid hB1
  have HB2 := Lib.hid hB2
  have HRF := Lib.hid hrf
  clear hat hay hB1 hB2 k1 hrf
  go_upto_region 3 with (first | (go_at_call 10; go_fit (awake_one _); rintro r w1 ⟨rfl, k1⟩) | fail)
  have KC := Lib.hid (KC.out.trans k1)
  have HE := Lib.hid (Ex.at_kp HE.out k1)
  have HY := Lib.hid (Ex.at_kp HY.out k1)
  have HB1 := Lib.hid (HB1.out.kp k1)
  have HB2 := Lib.hid (HB2.out.kp k1)
  have hs1 : w.heap.size ≤ w1.heap.size := KC.out.size
  clear k1
  obtain ⟨⟨p0, p1, p2, p3, p4, p5⟩, _⟩ := id HB1.out
  obtain ⟨⟨y0, y1, y2, y3, y4, y5⟩, _⟩ := id HB2.out
  have HR := Lib.hid (replace_any e y name w.heap.size w1 HE.out HY.out hs1 hn)
  obtain ⟨f, hf⟩ : ∃ f, replF e name y = f := ⟨_, rfl⟩
  have HF := Lib.hid hf
  rw [hf] at HR
  clear hf
  go_upto_region 4 with (first | (go_at_call 11; go_fit HR.out; rintro r w2 ⟨a, rfl, k2, hma, hea⟩) | fail)
  clear HR p0 p1 p2 p3 p4 p5 y0 y1 y2 y3 y4 y5
  have k2 := k2.trans ((Kp.refl w2).alloc (.cells #[.int .i64 a.kind, .int .i64 a.rn, .int .i64 a.rd, .string a.name, .int .i64 a.pw, .slice a.a a.l.length a.c] 26))
  have hba : BoxX (w2.alloc (.cells #[.int .i64 a.kind, .int .i64 a.rn, .int .i64 a.rd, .string a.name, .int .i64 a.pw, .slice a.a a.l.length a.c] 26)) w2.heap.size a := BoxX.new w2 a _ rfl
  have HMA := Lib.hid (Ex.made_kp hma ((Kp.refl w2).alloc (.cells #[.int .i64 a.kind, .int .i64 a.rn, .int .i64 a.rd, .string a.name, .int .i64 a.pw, .slice a.a a.l.length a.c] 26))).1
  have HEA := Lib.hid hea
  clear hma hea
  generalize hW : w2.alloc _ = w3 at *
  clear hW
  have KC := Lib.hid (KC.out.trans k2)
  have HE := Lib.hid (Ex.at_kp HE.out k2)
  have HY := Lib.hid (Ex.at_kp HY.out k2)
  have HB1 := Lib.hid (HB1.out.kp k2)
  have HB2 := Lib.hid (HB2.out.kp k2)
  have HBA := Lib.hid hba
  have hs3 : w.heap.size ≤ w3.heap.size := Nat.le_trans hs1 k2.size
  clear k2 hba
  have HVe := Lib.hid fun W' (k : Kp w3 W') => rvalid13_any e w.heap.size W' (Ex.at_kp HE.out k)
  have HVy := Lib.hid fun W' (k : Kp w3 W') => rvalid13_any y w.heap.size W' (Ex.at_kp HY.out k)
  have HN := Lib.hid fun W' => r12name_any name W' hn
  have KJ := Lib.hid (Kp.refl w3)
  obtain ⟨⟨p0, p1, p2, p3, p4, p5⟩, _⟩ := id HB1.out
  cases h1 : e.ok with
  | false =>
    have hf : f = 1 := by rw [← HF.out, HRF.out, if_neg (by rw [h1]; exact fun h => absurd h.1 (by decide))]
    subst hf
    rw [h1] at HVe
    clear h1
    have ha : a = Ex.zero := HEA.out.elim (fun h => absurd (HF.out.symm.trans h.1) (by decide)) And.right
    subst ha
    go_wp2_with (first
      | (go_at_call 12; go_fit (HVe.out _ KJ.out); rintro r w4 ⟨rfl, k4⟩; replace KJ := Lib.hid (KJ.out.trans k4); obtain ⟨⟨y0, y1, y2, y3, y4, y5⟩, _⟩ := HB2.out.kp KJ.out; obtain ⟨⟨a0, a1, a2, a3, a4, a5⟩, _⟩ := HBA.out.kp KJ.out)
      | (go_at_call 12; go_fit (HVy.out _ KJ.out); rintro r w5 ⟨rfl, k5⟩; replace KJ := Lib.hid (KJ.out.trans k5); obtain ⟨⟨c0, c1, c2, c3, c4, c5⟩, _⟩ := HBA.out.kp KJ.out)
      | (go_at_call 13; go_fit (HN.out _); rintro r w6 ⟨rfl, k6⟩; replace KJ := Lib.hid (KJ.out.trans k6); obtain ⟨⟨d0, d1, d2, d3, d4, d5⟩, _⟩ := HBA.out.kp KJ.out)
      | (go_at_call 14; go_fit (zero_any _); rintro r w7 ⟨rfl, k7⟩; replace KJ := Lib.hid (KJ.out.trans k7))
      | fail)
    go_ret
    exact ⟨rfl, KC.out.trans KJ.out⟩
  | true =>
    rw [h1] at HVe
    cases h2 : y.ok with
    | false =>
      have hf : f = 1 := by rw [← HF.out, HRF.out, if_neg (by rw [h2]; exact fun h => absurd h.2.1 (by decide))]
      subst hf
      rw [h2] at HVy
      clear h1 h2
      have ha : a = Ex.zero := HEA.out.elim (fun h => absurd (HF.out.symm.trans h.1) (by decide)) And.right
      subst ha
      go_wp2_with (first
        | (go_at_call 12; go_fit (HVe.out _ KJ.out); rintro r w4 ⟨rfl, k4⟩; replace KJ := Lib.hid (KJ.out.trans k4); obtain ⟨⟨y0, y1, y2, y3, y4, y5⟩, _⟩ := HB2.out.kp KJ.out; obtain ⟨⟨a0, a1, a2, a3, a4, a5⟩, _⟩ := HBA.out.kp KJ.out)
        | (go_at_call 12; go_fit (HVy.out _ KJ.out); rintro r w5 ⟨rfl, k5⟩; replace KJ := Lib.hid (KJ.out.trans k5); obtain ⟨⟨c0, c1, c2, c3, c4, c5⟩, _⟩ := HBA.out.kp KJ.out)
        | (go_at_call 13; go_fit (HN.out _); rintro r w6 ⟨rfl, k6⟩; replace KJ := Lib.hid (KJ.out.trans k6); obtain ⟨⟨d0, d1, d2, d3, d4, d5⟩, _⟩ := HBA.out.kp KJ.out)
        | (go_at_call 14; go_fit (zero_any _); rintro r w7 ⟨rfl, k7⟩; replace KJ := Lib.hid (KJ.out.trans k7))
        | fail)
      go_ret
      exact ⟨rfl, KC.out.trans KJ.out⟩
    | true =>
      rw [h2] at HVy
      cases h3 : nameB name with
      | false =>
        have hf : f = 1 := by rw [← HF.out, HRF.out, if_neg (by rw [h3]; exact fun h => absurd h.2.2 (by decide))]
        subst hf
        rw [h3] at HN
        clear h1 h2 h3
        have ha : a = Ex.zero := HEA.out.elim (fun h => absurd (HF.out.symm.trans h.1) (by decide)) And.right
        subst ha
        go_wp2_with (first
          | (go_at_call 12; go_fit (HVe.out _ KJ.out); rintro r w4 ⟨rfl, k4⟩; replace KJ := Lib.hid (KJ.out.trans k4); obtain ⟨⟨y0, y1, y2, y3, y4, y5⟩, _⟩ := HB2.out.kp KJ.out; obtain ⟨⟨a0, a1, a2, a3, a4, a5⟩, _⟩ := HBA.out.kp KJ.out)
          | (go_at_call 12; go_fit (HVy.out _ KJ.out); rintro r w5 ⟨rfl, k5⟩; replace KJ := Lib.hid (KJ.out.trans k5); obtain ⟨⟨c0, c1, c2, c3, c4, c5⟩, _⟩ := HBA.out.kp KJ.out)
          | (go_at_call 13; go_fit (HN.out _); rintro r w6 ⟨rfl, k6⟩; replace KJ := Lib.hid (KJ.out.trans k6); obtain ⟨⟨d0, d1, d2, d3, d4, d5⟩, _⟩ := HBA.out.kp KJ.out)
          | (go_at_call 14; go_fit (zero_any _); rintro r w7 ⟨rfl, k7⟩; replace KJ := Lib.hid (KJ.out.trans k7))
          | fail)
        go_ret
        exact ⟨rfl, KC.out.trans KJ.out⟩
      | true =>
        rw [h3] at HN
        have hf := HRF.out
        rw [if_pos ⟨h1, h2, h3⟩, HF.out] at hf
        have Hf := Lib.hid hf
        clear h1 h2 h3 hf
        go_upto_region 6 with (first
          | (go_at_call 12; go_fit (HVe.out _ KJ.out); rintro r w4 ⟨rfl, k4⟩; replace KJ := Lib.hid (KJ.out.trans k4); obtain ⟨⟨y0, y1, y2, y3, y4, y5⟩, _⟩ := HB2.out.kp KJ.out)
          | (go_at_call 12; go_fit (HVy.out _ KJ.out); rintro r w5 ⟨rfl, k5⟩; replace KJ := Lib.hid (KJ.out.trans k5))
          | (go_at_call 13; go_fit (HN.out _); rintro r w6 ⟨rfl, k6⟩; replace KJ := Lib.hid (KJ.out.trans k6))
          | fail)
        clear p0 p1 p2 p3 p4 p5 y0 y1 y2 y3 y4 y5
        have kA := (Kp.refl w6).alloc (.cells #[.string name] 9)
        have kB := kA.alloc (.cells #[.int .i64 y.kind, .int .i64 y.rn, .int .i64 y.rd, .string y.name, .int .i64 y.pw, .slice y.a y.l.length y.c] 26)
        have hrn : RowS ((w6.alloc (.cells #[.string name] 9)).alloc (.cells #[.int .i64 y.kind, .int .i64 y.rn, .int .i64 y.rd, .string y.name, .int .i64 y.pw, .slice y.a y.l.length y.c] 26)) (some ⟨w6.heap.size, 0, none⟩) [name] := fun i s hs => by
          match i, hs with
          | 0, hs => cases hs; exact ⟨_, _, rfl, ((Kp.refl _).alloc _).cell (new_cell _ _ _ _ rfl)⟩
          | i + 1, hs => simp at hs
        have hry : RowX ((w6.alloc (.cells #[.string name] 9)).alloc (.cells #[.int .i64 y.kind, .int .i64 y.rn, .int .i64 y.rd, .string y.name, .int .i64 y.pw, .slice y.a y.l.length y.c] 26)) ((w6.alloc (.cells #[.string name] 9)).alloc (.cells #[.int .i64 y.kind, .int .i64 y.rn, .int .i64 y.rd, .string y.name, .int .i64 y.pw, .slice y.a y.l.length y.c] 26)).heap.size (some ⟨w6.heap.size + 1, 0, none⟩) [y] := fun i x hx => by
          match i, hx with
          | 0, hx => cases hx; exact ⟨_, _, rfl, by simp, (BoxX.new _ y _ (by simp)).1⟩
          | i + 1, hx => simp at hx
        have hyB : y.at ((w6.alloc (.cells #[.string name] 9)).alloc (.cells #[.int .i64 y.kind, .int .i64 y.rn, .int .i64 y.rd, .string y.name, .int .i64 y.pw, .slice y.a y.l.length y.c] 26)) ((w6.alloc (.cells #[.string name] 9)).alloc (.cells #[.int .i64 y.kind, .int .i64 y.rn, .int .i64 y.rd, .string y.name, .int .i64 y.pw, .slice y.a y.l.length y.c] 26)).heap.size := at_grow (Nat.le_trans hs3 (KJ.out.trans kB).size) (Ex.at_kp HY.out (KJ.out.trans kB))
        have heB : e.at ((w6.alloc (.cells #[.string name] 9)).alloc (.cells #[.int .i64 y.kind, .int .i64 y.rn, .int .i64 y.rd, .string y.name, .int .i64 y.pw, .slice y.a y.l.length y.c] 26)) ((w6.alloc (.cells #[.string name] 9)).alloc (.cells #[.int .i64 y.kind, .int .i64 y.rn, .int .i64 y.rd, .string y.name, .int .i64 y.pw, .slice y.a y.l.length y.c] 26)).heap.size := at_grow (Nat.le_trans hs3 (KJ.out.trans kB).size) (Ex.at_kp HE.out (KJ.out.trans kB))
        have HSw := Lib.hid (swap_any e _ _ [name] [y] _ _ 1 1 1 heB (Nat.le_refl _) hrn hry (fun z hz => by simp at hz; subst hz; exact hyB) rfl rfl (by decide))
        rw [lukF_one] at HSw
        have KB := Lib.hid kB
        obtain ⟨⟨p0, p1, p2, p3, p4, p5⟩, _⟩ := HB1.out.kp KJ.out
        obtain ⟨⟨q0, q1, q2, q3, q4, q5⟩, _⟩ := HB1.out.kp (KJ.out.trans kA)
        obtain ⟨⟨y0, y1, y2, y3, y4, y5⟩, _⟩ := HB2.out.kp (KJ.out.trans kA)
        clear hrn hry hyB heB kA kB
        go_upto_region 7 with (first
          | (go_at_call 15; go_fit HSw.out; rintro r w7 ⟨x, rfl, k7, hx1, _, hx3⟩)
          | fail)
        clear p0 p1 p2 p3 p4 p5 q0 q1 q2 q3 q4 q5 y0 y1 y2 y3 y4 y5
        have kC := k7.trans ((Kp.refl w7).alloc (.cells #[.int .i64 x.kind, .int .i64 x.rn, .int .i64 x.rd, .string x.name, .int .i64 x.pw, .slice x.a x.l.length x.c] 26))
        have hbx : BoxX (w7.alloc (.cells #[.int .i64 x.kind, .int .i64 x.rn, .int .i64 x.rd, .string x.name, .int .i64 x.pw, .slice x.a x.l.length x.c] 26)) w7.heap.size x := BoxX.new w7 x _ rfl
        have HX1 := Lib.hid (Ex.at_kp hx1 ((Kp.refl w7).alloc (.cells #[.int .i64 x.kind, .int .i64 x.rn, .int .i64 x.rd, .string x.name, .int .i64 x.pw, .slice x.a x.l.length x.c] 26)))
        generalize hW : w7.alloc _ = w8 at *
        clear hW
        have KJ := Lib.hid (KJ.out.trans (KB.out.trans kC))
        have HBX := Lib.hid hbx
        have hox : x.ok = (e.sub (oneS name y)).ok := ok_er hx3
        have HX3 := Lib.hid hx3
        obtain ⟨⟨x0, x1, x2, x3, x4, x5⟩, _⟩ := id hbx
        have HVx := Lib.hid (rvalid13_any x w7.heap.size w8 HX1.out)
        rw [hox] at HVx
        have hf := Hf.out
        rw [oneF_eqR] at hf
        clear kC hbx hx3 hox
        cases h4 : (e.sub (oneS name y)).ok with
        | false =>
          rw [h4] at HVx
          rw [if_neg (by rw [h4]; decide)] at hf
          subst hf
          have ha : a = Ex.zero := HEA.out.elim (fun h => absurd (HF.out.symm.trans h.1) (by decide)) And.right
          subst ha
          clear h4
          go_wp2_with (first
            | (go_at_call 12; go_fit HVx.out; rintro r w9 ⟨rfl, k9⟩; replace KJ := Lib.hid (KJ.out.trans k9); obtain ⟨⟨a0, a1, a2, a3, a4, a5⟩, _⟩ := HBA.out.kp KJ.out)
            | (go_at_call 14; go_fit (zero_any _); rintro r w10 ⟨rfl, k10⟩; replace KJ := Lib.hid (KJ.out.trans k10))
            | fail)
          go_ret
          exact ⟨rfl, KC.out.trans KJ.out⟩
        | true =>
          rw [h4] at HVx
          rw [if_pos h4] at hf
          subst hf
          have hea : a.er = x.er := HEA.out.elim (fun h => h.2.trans HX3.out.symm) (fun h => absurd HF.out h.1)
          have Hev := Lib.hid ((eqv_iff a x).2 hea)
          clear h4 hea
          have hEq := fun W' (k : Kp w8 W') => requal_any a x W'.heap.size W' (at_grow (Nat.le_refl _) (Ex.at_kp (at_grow (KJ.out.size) (Ex.at_kp HMA.out KJ.out)) k) |> at_grow k.size) (at_grow k.size (Ex.at_kp (at_grow (by exact (Nat.le_of_lt HBX.out.2.2)) HX1.out) k))
          rw [Hev.out] at hEq
          have HEq := Lib.hid hEq
          clear hEq
          go_wp2_with (first
            | (go_at_call 12; go_fit HVx.out; rintro r w9 ⟨rfl, k9⟩; obtain ⟨⟨a0, a1, a2, a3, a4, a5⟩, _⟩ := HBA.out.kp (KJ.out.trans k9); obtain ⟨⟨b0, b1, b2, b3, b4, b5⟩, _⟩ := HBX.out.kp k9)
            | (go_at_call 16; go_fit (HEq.out _ k9); rintro r w10 ⟨rfl, k10⟩; replace KJ := Lib.hid (KJ.out.trans (k9.trans k10)))
            | fail)
          go_ret
          exact ⟨rfl, KC.out.trans KJ.out⟩
end Go.Proofs.Ythaphbbeiglolaa
