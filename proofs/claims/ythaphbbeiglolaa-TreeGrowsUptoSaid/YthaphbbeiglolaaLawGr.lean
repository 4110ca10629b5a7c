/-
  Walks: TreeGrows.
-/
import Derived.Test.YthaphbbeiglolaaBakP
namespace Go.Proofs.Ythaphbbeiglolaa
open Go.RowKit Go.Sort Go.Shelf
attribute [local go_sem] Oper.semAt_some

/-- the places of a name in a list of nodes -/
def cntN (s : ByteArray) (pre : List Ex) : Nat := (pre.filter fun x => decide (x.kind = 2 ∧ x.name = s)).length
theorem cntN_snoc (s : ByteArray) (pre : List Ex) (x : Ex) : cntN s (pre ++ [x]) = cntN s pre + if x.kind = 2 ∧ x.name = s then 1 else 0 := by
  unfold cntN
  rw [List.filter_append, List.length_append, List.filter_cons]
  by_cases h : x.kind = 2 ∧ x.name = s
  · rw [if_pos h, if_pos (decide_eq_true h)]; rfl
  · rw [if_neg h, if_neg (by simpa using h)]; rfl
theorem cntN_le (s : ByteArray) (pre : List Ex) : cntN s pre ≤ pre.length := List.length_filter_le _ _
theorem cntN_er (s : ByteArray) : ∀ xs : List Ex, cntN s (xs.map Ex.er) = cntN s xs
  | [] => rfl
  | x :: t => by
    have := cntN_er s t
    unfold cntN at *
    rw [List.map_cons, List.filter_cons, List.filter_cons, Ex.er_kind, Ex.er_name]
    by_cases h : x.kind = 2 ∧ x.name = s
    · rw [if_pos (decide_eq_true h), if_pos (decide_eq_true h), List.length_cons, List.length_cons, this]
    · rw [if_neg (by simpa using h), if_neg (by simpa using h), this]
theorem sizGr {e : Ex} (h : e.ok = true) : sizO e = (e.size : Int) := by unfold sizO; rw [flatE_len h]
theorem depO_ok {e : Ex} (h : e.ok = true) : depO e = (e.depth : Int) := if_pos h
/-- what TreeGrows asks -/
theorem grow_facts {e y r : Ex} {s : ByteArray} (hf : replF e s y = 0) (hr : r.er = (e.sub (oneF s y)).er) :
    ∃ (n a b d1 d2 d3 : Nat), cntN s (flatE e) = n ∧ sizO e = (a : Int) ∧ sizO y = (b : Int) + 1 ∧ sizO r = (a : Int) + (n : Int) * (b : Int) ∧ depO r = (d1 : Int) ∧ depO e = (d2 : Int) ∧ depO y = (d3 : Int) ∧ d1 < d2 + d3 ∧ d2 ≤ d1 ∧ n ≤ 200 ∧ a ≤ 200 ∧ b ≤ 200 ∧ n * b ≤ 200 ∧ d1 ≤ 20 ∧ d2 ≤ 20 ∧ d3 ≤ 20 := by
  rw [replF_eq] at hf
  split at hf
  · next h1 =>
    split at hf
    · next h2 =>
      rw [oneF_eq] at h2 hr
      have ho : r.ok = true := by rw [ok_er hr]; exact h2
      obtain ⟨e1, e2, e3⟩ := ok_parts h1.1
      obtain ⟨y1, y2, y3⟩ := ok_parts h1.2.1
      obtain ⟨r1, r2, r3⟩ := ok_parts ho
      have hsz : r.size = (e.sub (oneS s y)).size := by rw [← r.er_size, hr, Ex.er_size]
      have hdp : r.depth = (e.sub (oneS s y)).depth := by rw [← r.er_depth, hr, Ex.er_depth]
      have hs := sub_size s y e e1
      have hd1 := sub_depth_le s y e
      have hd2 := sub_depth_ge s y e e1
      have hc : cntN s (flatE e) = e.occ s := by
        unfold flatE
        rw [if_pos h1.1, cntN_er, occ_count]
        rfl
      have hn : e.occ s ≤ 200 := by
        rw [← hc]
        exact Nat.le_trans (cntN_le _ _) (flatE_le e)
      have hp := y.size_pos
      obtain ⟨b, hb⟩ : ∃ b, y.size = b + 1 := ⟨y.size - 1, by omega⟩
      rw [hb, Nat.mul_succ] at hs
      refine ⟨e.occ s, e.size, b, r.depth, e.depth, y.depth, hc, sizGr h1.1, ?_, ?_, depO_ok ho, depO_ok h1.1, depO_ok h1.2.1, by omega, by omega, hn, e3, by omega, by omega, r2, e2, y2⟩
      · rw [sizGr h1.2.1, hb]; rfl
      · rw [sizGr ho, hsz]
        have : (e.sub (oneS s y)).size = e.size + e.occ s * b := by omega
        rw [this]
        push_cast
        rfl
    · cases hf
  · cases hf
theorem keepGr {w w' : World} (k : Kp w w') {p0 p1 p2 p3 p4 p5 q0 q1 q2 q3 q4 q5 r0 r1 r2 r3 r4 r5 c : Addr} {v0 v1 v2 v3 v4 v5 u0 u1 u2 u3 u4 u5 t0 t1 t2 t3 t4 t5 d : Value}
    (h : (w.cell? p0 = some v0 ∧ w.cell? p1 = some v1 ∧ w.cell? p2 = some v2 ∧ w.cell? p3 = some v3 ∧ w.cell? p4 = some v4 ∧ w.cell? p5 = some v5) ∧ (w.cell? q0 = some u0 ∧ w.cell? q1 = some u1 ∧ w.cell? q2 = some u2 ∧ w.cell? q3 = some u3 ∧ w.cell? q4 = some u4 ∧ w.cell? q5 = some u5) ∧
      (w.cell? r0 = some t0 ∧ w.cell? r1 = some t1 ∧ w.cell? r2 = some t2 ∧ w.cell? r3 = some t3 ∧ w.cell? r4 = some t4 ∧ w.cell? r5 = some t5) ∧ w.cell? c = some d) :
    (w'.cell? p0 = some v0 ∧ w'.cell? p1 = some v1 ∧ w'.cell? p2 = some v2 ∧ w'.cell? p3 = some v3 ∧ w'.cell? p4 = some v4 ∧ w'.cell? p5 = some v5) ∧ (w'.cell? q0 = some u0 ∧ w'.cell? q1 = some u1 ∧ w'.cell? q2 = some u2 ∧ w'.cell? q3 = some u3 ∧ w'.cell? q4 = some u4 ∧ w'.cell? q5 = some u5) ∧
      (w'.cell? r0 = some t0 ∧ w'.cell? r1 = some t1 ∧ w'.cell? r2 = some t2 ∧ w'.cell? r3 = some t3 ∧ w'.cell? r4 = some t4 ∧ w'.cell? r5 = some t5) ∧ w'.cell? c = some d :=
  ⟨keepE6 k h.1, keepE6 k h.2.1, keepE6 k h.2.2.1, k.cell h.2.2.2⟩
set_option maxHeartbeats 8000000 in
set_option maxRecDepth 20000 in
theorem Grows_ok (e y : Ex) (name : ByteArray) (w : World) (hat : e.at w w.heap.size) (hay : y.at w w.heap.size) (hn : name.size ≤ maxLen) :
    Calls Try.prog 4 #[.agg #[.int .i64 e.kind, .int .i64 e.rn, .int .i64 e.rd, .string e.name, .int .i64 e.pw, .slice e.a e.l.length e.c], .string name, .agg #[.int .i64 y.kind, .int .i64 y.rn, .int .i64 y.rd, .string y.name, .int .i64 y.pw, .slice y.a y.l.length y.c]] w fun r w' => r = .returned (.bool true) ∧ Kp w w' := by
  have k1 : Kp w (((w.alloc (.cells #[.int .i64 e.kind, .int .i64 e.rn, .int .i64 e.rd, .string e.name, .int .i64 e.pw, .slice e.a e.l.length e.c] 26)).alloc (.cells #[.string name] 9)).alloc (.cells #[.int .i64 y.kind, .int .i64 y.rn, .int .i64 y.rd, .string y.name, .int .i64 y.pw, .slice y.a y.l.length y.c] 26)) := (((Kp.refl w).alloc _).alloc _).alloc _
  have hB1 : BoxX (((w.alloc (.cells #[.int .i64 e.kind, .int .i64 e.rn, .int .i64 e.rd, .string e.name, .int .i64 e.pw, .slice e.a e.l.length e.c] 26)).alloc (.cells #[.string name] 9)).alloc (.cells #[.int .i64 y.kind, .int .i64 y.rn, .int .i64 y.rd, .string y.name, .int .i64 y.pw, .slice y.a y.l.length y.c] 26)) w.heap.size e := (BoxX.new w e _ rfl).kp (((Kp.refl _).alloc _).alloc _)
  have hB2 : BoxX (((w.alloc (.cells #[.int .i64 e.kind, .int .i64 e.rn, .int .i64 e.rd, .string e.name, .int .i64 e.pw, .slice e.a e.l.length e.c] 26)).alloc (.cells #[.string name] 9)).alloc (.cells #[.int .i64 y.kind, .int .i64 y.rn, .int .i64 y.rd, .string y.name, .int .i64 y.pw, .slice y.a y.l.length y.c] 26)) (w.heap.size + 1 + 1) y := BoxX.new _ y _ (by simp)
  have hB3 : (((w.alloc (.cells #[.int .i64 e.kind, .int .i64 e.rn, .int .i64 e.rd, .string e.name, .int .i64 e.pw, .slice e.a e.l.length e.c] 26)).alloc (.cells #[.string name] 9)).alloc (.cells #[.int .i64 y.kind, .int .i64 y.rn, .int .i64 y.rd, .string y.name, .int .i64 y.pw, .slice y.a y.l.length y.c] 26)).cell? ⟨w.heap.size + 1, 0, none⟩ = some (.string name) := ((Kp.refl _).alloc _).cell (new_cell _ _ _ _ (by simp))
  obtain ⟨f, hf⟩ : ∃ f, replF e name y = f := ⟨_, rfl⟩
  refine (callsIn_wide (n := 3)).1 ?_
  refine callsIn_of_wp_marks Try.func4 rfl trivial ?_ rfl
  simp only [Try.ntmps4, List.size_toArray, List.length_cons, List.length_nil, Nat.reduceAdd, Nat.reduceSub, Array.replicate_succ, Array.replicate_zero, List.push_toArray, List.append_toArray, List.nil_append, List.cons_append]
  refine wpIn_wide.2 ?_
  generalize hQ : bodyPostM Fence.wide 3 _ _ _ = Q
  have HQ := Lib.hid hQ
  clear hQ
  go_upto_region 1 with fail
  generalize World.alloc _ _ = W at *
  have KC := Lib.hid k1
  have HE := Lib.hid (Ex.at_kp hat k1)
  have HY := Lib.hid (Ex.at_kp hay k1)
  have HB1 := Lib.hid hB1
  have HB2 := Lib.hid hB2
  have HB3 := Lib.hid hB3
  have HF := Lib.hid hf
  clear hat hay hB1 hB2 hB3 k1 hf
  go_upto_region 3 with (first | (go_at_call 10; go_fit (awake_one _); rintro r w1 ⟨rfl, k1⟩) | fail)
  have KC := Lib.hid (KC.out.trans k1)
  have HE := Lib.hid (Ex.at_kp HE.out k1)
  have HY := Lib.hid (Ex.at_kp HY.out k1)
  have HB1 := Lib.hid (HB1.out.kp k1)
  have HB2 := Lib.hid (HB2.out.kp k1)
  have HB3 := Lib.hid (k1.cell HB3.out)
  have hs1 : w.heap.size ≤ w1.heap.size := KC.out.size
  clear k1
  obtain ⟨⟨p0, p1, p2, p3, p4, p5⟩, _⟩ := id HB1.out
  obtain ⟨⟨y0, y1, y2, y3, y4, y5⟩, _⟩ := id HB2.out
  have n0 := HB3.out
  have HR := Lib.hid (replace_any e y name w.heap.size w1 HE.out HY.out hs1 hn)
  rw [HF.out] at HR
  go_upto_region 4 with (first | (go_at_call 11; go_fit HR.out; rintro r w2 ⟨a, rfl, k2, hma, hea⟩) | fail)
  clear HR p0 p1 p2 p3 p4 p5 y0 y1 y2 y3 y4 y5 n0
  have k2 := k2.trans ((Kp.refl w2).alloc (.cells #[.int .i64 a.kind, .int .i64 a.rn, .int .i64 a.rd, .string a.name, .int .i64 a.pw, .slice a.a a.l.length a.c] 26))
  have hba : BoxX (w2.alloc (.cells #[.int .i64 a.kind, .int .i64 a.rn, .int .i64 a.rd, .string a.name, .int .i64 a.pw, .slice a.a a.l.length a.c] 26)) w2.heap.size a := BoxX.new w2 a _ rfl
  have HMA := Lib.hid (Ex.made_kp hma ((Kp.refl w2).alloc (.cells #[.int .i64 a.kind, .int .i64 a.rn, .int .i64 a.rd, .string a.name, .int .i64 a.pw, .slice a.a a.l.length a.c] 26))).1
  have HEA := Lib.hid hea
  clear hma hea
  generalize hW : w2.alloc _ = w3 at *
  clear hW
  have KC := Lib.hid (KC.out.trans k2)
  have HE := Lib.hid (Ex.at_kp HE.out k2)
  have HY := Lib.hid (Ex.at_kp HY.out k2)
  have HB1 := Lib.hid (HB1.out.kp k2)
  have HB2 := Lib.hid (HB2.out.kp k2)
  have HB3 := Lib.hid (k2.cell HB3.out)
  have HBA := Lib.hid hba
  have hs3 : w.heap.size ≤ w3.heap.size := Nat.le_trans hs1 k2.size
  clear k2 hba
  by_cases hf0 : f = 0
  rotate_left
  · go_wp2
    rw [← HQ.out]
    exact ⟨_, results_tmp rfl _ _ _, rfl, KC.out⟩
  subst hf0
  have hfacts := HEA.out.elim (fun h => grow_facts h.1 h.2) (fun h => absurd HF.out h.1)
  obtain ⟨n, na, nb, d1, d2, d3, g1, g2, g3, g4, g5, g6, g7, g8, g9, g10, g11, g12, g13, g14, g15, g16⟩ := hfacts
  have HG1 := Lib.hid g1
  have HT1 := Lib.hid g2
  have HT2 := Lib.hid g3
  have HT3 := Lib.hid g4
  have HD1 := Lib.hid g5
  have HD2 := Lib.hid g6
  have HD3 := Lib.hid g7
  clear g1 g2 g3 g4 g5 g6 g7
  go_upto_region 7 with fail
  obtain ⟨⟨p0, p1, p2, p3, p4, p5⟩, _⟩ := HB1.out.kp ((Kp.refl w3).alloc (.cells #[.int .i64 0] 3))
  go_upto_region 8 with (first | (go_at_call 17; go_fit (twalk_any e _); rintro r w' ⟨rfl, rfl⟩) | fail)
  have k3W : Kp w3 ((w3.alloc (.cells #[.int .i64 0] 3)).alloc (.cells #[.int .i64 e.kind, .int .i64 e.rn, .int .i64 e.rd, .string e.name, .int .i64 e.pw, .slice e.a e.l.length e.c] 26)) := ((Kp.refl w3).alloc _).alloc _
  have hc0 : ((w3.alloc (.cells #[.int .i64 0] 3)).alloc (.cells #[.int .i64 e.kind, .int .i64 e.rn, .int .i64 e.rd, .string e.name, .int .i64 e.pw, .slice e.a e.l.length e.c] 26)).cell? ⟨w3.heap.size, 0, none⟩ = some (.int .i64 0) := ((Kp.refl _).alloc _).cell (new_cell _ _ _ _ rfl)
  have hf0 : ((w3.alloc (.cells #[.int .i64 0] 3)).alloc (.cells #[.int .i64 e.kind, .int .i64 e.rn, .int .i64 e.rd, .string e.name, .int .i64 e.pw, .slice e.a e.l.length e.c] 26)).frozen? ⟨w3.heap.size, 0, none⟩ = false := ((Kp.refl _).alloc _).frozen (new_cell _ _ _ _ rfl) (newF _ _ _ _ _ rfl)
  have hb2 : BoxX ((w3.alloc (.cells #[.int .i64 0] 3)).alloc (.cells #[.int .i64 e.kind, .int .i64 e.rn, .int .i64 e.rd, .string e.name, .int .i64 e.pw, .slice e.a e.l.length e.c] 26)) (w3.heap.size + 1) e := BoxX.new _ e _ (by simp)
  have hz : ((w3.alloc (.cells #[.int .i64 0] 3)).alloc (.cells #[.int .i64 e.kind, .int .i64 e.rn, .int .i64 e.rd, .string e.name, .int .i64 e.pw, .slice e.a e.l.length e.c] 26)).heap.size = w3.heap.size + 2 := by simp
  clear p0 p1 p2 p3 p4 p5
  generalize ((w3.alloc (.cells #[.int .i64 0] 3)).alloc (.cells #[.int .i64 e.kind, .int .i64 e.rn, .int .i64 e.rd, .string e.name, .int .i64 e.pw, .slice e.a e.l.length e.c] 26)) = W0 at *
  refine (wpIn_wide (n := 3)).1 ?_
  refine wpIn_rangeFunc_ownH rfl (by omega) (gf := 43) (lb := #[.pointer (some ⟨w3.heap.size + 1, 0, none⟩)]) rfl trivial (enters_of Try.func43 (by kernel_rfl) rfl)
    (walkc_stops (3 - 1) e (w3.heap.size + 1) w.heap.size W0 (tBox w3.heap.size) (by show w3.heap.size < W0.heap.size; omega) (Ex.at_kp HE.out k3W) (Nat.le_trans hs3 k3W.size) hb2)
    KpT.trans (fun W l o o' _ hl ho _ => kpT_put W l o o' hl ho) (Below.refl _ _) (fun _ => rfl)
    (fun pre W => (W.cell? ⟨w3.heap.size, 0, none⟩ = some (.int .i64 (cntN name pre : Int)) ∧ W.frozen? ⟨w3.heap.size, 0, none⟩ = false) ∧ Below w3.heap.size w3 W)
    (fun _ _ _ => False)
    (OwnFrom.and (Own.from (fun s A B row hs hg hr => ⟨cell_kept hs.1 hg hr, (frozen_kept hs.1 hg hr).trans hs.2⟩) _) (ownFrom_below (Nat.le_refl _) (by omega)))
    (fun _ _ _ _ _ hs _ _ => hs)
    ⟨⟨hc0, hf0⟩, k3W⟩
    (fun x a' W => ∃ Bx, w3.heap.size < Bx ∧ BoxX W Bx x ∧ a' = { tmps := #[.agg #[.int .i64 e.kind, .int .i64 e.rn, .int .i64 e.rd, .string e.name, .int .i64 e.pw, .slice e.a e.l.length e.c], .string name, .agg #[.int .i64 y.kind, .int .i64 y.rn, .int .i64 y.rd, .string y.name, .int .i64 y.pw, .slice y.a y.l.length y.c], .pointer (some ⟨w.heap.size, 0, none⟩), .pointer (some ⟨w.heap.size + 1, 0, none⟩), .pointer (some ⟨w.heap.size + 1 + 1, 0, none⟩), .bool false, .pointer (some ⟨w2.heap.size, 0, none⟩), .int .i64 0, .pointer (some ⟨w3.heap.size, 0, none⟩), .pointer (some ⟨Bx, 0, none⟩), .bool true, .bool false, .tuple #[.agg #[.int .i64 a.kind, .int .i64 a.rn, .int .i64 a.rd, .string a.name, .int .i64 a.pw, .slice a.a a.l.length a.c], .int .i64 0], .agg #[.int .i64 e.kind, .int .i64 e.rn, .int .i64 e.rd, .string e.name, .int .i64 e.pw, .slice e.a e.l.length e.c], .string name, .agg #[.int .i64 y.kind, .int .i64 y.rn, .int .i64 y.rd, .string y.name, .int .i64 y.pw, .slice y.a y.l.length y.c], .tuple #[.agg #[.int .i64 a.kind, .int .i64 a.rn, .int .i64 a.rd, .string a.name, .int .i64 a.pw, .slice a.a a.l.length a.c], .int .i64 0], .agg #[.int .i64 a.kind, .int .i64 a.rn, .int .i64 a.rd, .string a.name, .int .i64 a.pw, .slice a.a a.l.length a.c], .int .i64 0, .int .i64 0, .bool false, .agg #[.int .i64 e.kind, .int .i64 e.rn, .int .i64 e.rd, .string e.name, .int .i64 e.pw, .slice e.a e.l.length e.c], .func (.func 43) #[] #[.pointer (some ⟨w3.heap.size + 1, 0, none⟩)], .agg #[.int .i64 x.kind, .int .i64 x.rn, .int .i64 x.rd, .string x.name, .int .i64 x.pw, .slice x.a x.l.length x.c], undef, undef, undef, undef, undef, undef, undef, undef, undef, undef, undef, undef, undef, undef, undef, undef, undef, undef, undef, undef, undef, undef, undef, undef, undef, undef, undef, undef, undef, undef, undef, undef, undef, undef, undef, undef, undef, undef, undef], defers := [] })
    (fun x a' _ X Y row hs hg hr => by obtain ⟨Bx, h1, h2, h3⟩ := hs; exact ⟨Bx, h1, boxX_kept h2 hg (fun r e => (hr r e).2), h3⟩)
    ?assign ?body ?done ?stop
  case assign =>
    rintro l pre x W K ⟨⟨h3, h4⟩, hB1⟩ hK
    simp only [List.zip_toArray, List.zip_cons_cons, List.zip_nil_right, List.foldl_toArray', List.foldl_cons, List.foldl_nil]
    gi_wp2
    exact hK _ _ ((KeepsOthers.alloc _ _).from _) (Kp.kpT ((Kp.refl W).alloc _)) ⟨⟨((Kp.refl W).alloc _).cell h3, ((Kp.refl W).alloc _).frozen h3 h4⟩, hB1.alloc hB1.size _⟩ ⟨W.heap.size, cell_ltT h3, BoxX.new W x _ rfl, rfl⟩
  case body =>
    rintro l pre x a' W hl ⟨r, hr⟩ ⟨⟨hc, hf⟩, hB⟩ ⟨Bx, hBx, ⟨⟨x0, x1, x2, x3, x4, x5⟩, _⟩, rfl⟩ hlt
    have hN := flatE_le e
    have hcl := cntN_le name pre
    have hsn := cntN_snoc name pre x
    have n0 := Kp.cell hB HB3.out
    have HSN := Lib.hid hsn
    clear hsn
    by_cases hk : x.kind = 2
    · have hk2 : (x.kind == 2) = true := by rw [hk]; rfl
      by_cases hnm : x.name = name
      · have hs : (x.name.toList == name.toList) = true := by rw [str_eq]; exact decide_eq_true hnm
        gi_wp2
        refine ⟨(KeepsOthers.setCell _ _ _).from _, kpT_of (by simp) (fun k hk hx => Below.heap_setCell _ _ _ _ (fun e => hx (show k = w3.heap.size by simpa using e))) (fun h => by show w3.heap.size < (World.setCell _ _ _).heap.size; rw [World.size_setCell]; exact h) (fun _ k h => .inl h), ⟨?_, by rw [World.frozen?_setCell]; exact hf⟩, hB.setCell (p := ⟨w3.heap.size, 0, none⟩) (by simp) _⟩
        rw [cellset_eq hc, HSN.out, if_pos ⟨hk, hnm⟩]
        rfl
      · have hs : (x.name.toList == name.toList) = false := by rw [str_eq]; exact decide_eq_false hnm
        gi_wp2
        exact ⟨KeepsFrom.refl _ _, (Kp.refl W).kpT, ⟨by rw [HSN.out, if_neg fun h => hnm h.2]; exact hc, hf⟩, hB⟩
    · have hk2 : (x.kind == 2) = false := beq_eq_false_iff_ne.2 hk
      gi_wp2
      exact ⟨KeepsFrom.refl _ _, (Kp.refl W).kpT, ⟨by rw [HSN.out, if_neg fun h => hk h.1]; exact hc, hf⟩, hB⟩
  case done =>
    rintro D xs W hD hxs ⟨⟨hc, hf⟩, hB⟩ hK
    have hcn : cntN name xs = n := by rw [← HG1.out, ← hxs, cntN_er]
    rw [hcn] at hc
    have HD := Lib.hid hD
    have HK := Lib.hid hK
    have KW : Kp w3 W := hB
    have hB1 := HB1.out.kp KW
    have hB2 := HB2.out.kp KW
    have hBA := HBA.out.kp KW
    have hsW : w.heap.size ≤ W.heap.size := Nat.le_trans hs3 KW.size
    have HSa := Lib.hid fun W' (k : Kp W W') => tsize_any a w3.heap.size W' (Ex.at_kp (Ex.at_kp HMA.out KW) k) (Nat.le_trans KW.size k.size)
    have HSe := Lib.hid fun W' (k : Kp W W') => tsize_any e w.heap.size W' (Ex.at_kp (Ex.at_kp HE.out KW) k) (Nat.le_trans hsW k.size)
    have HSy := Lib.hid fun W' (k : Kp W W') => tsize_any y w.heap.size W' (Ex.at_kp (Ex.at_kp HY.out KW) k) (Nat.le_trans hsW k.size)
    have HDa := Lib.hid fun W' (k : Kp W W') => tdepth_any a w3.heap.size W' (Ex.at_kp (Ex.at_kp HMA.out KW) k) (Nat.le_trans KW.size k.size)
    have HDe := Lib.hid fun W' (k : Kp W W') => tdepth_any e w.heap.size W' (Ex.at_kp (Ex.at_kp HE.out KW) k) (Nat.le_trans hsW k.size)
    have HDy := Lib.hid fun W' (k : Kp W W') => tdepth_any y w.heap.size W' (Ex.at_kp (Ex.at_kp HY.out KW) k) (Nat.le_trans hsW k.size)
    rw [HT3.out] at HSa
    rw [HT1.out] at HSe
    rw [HT2.out] at HSy
    rw [HD1.out] at HDa
    rw [HD2.out] at HDe
    rw [HD3.out] at HDy
    have HKW := Lib.hid KW
    clear hxs hB hD hK KW hcn HB1 HB2 HBA HB3 HE HY HMA HEA HF HT1 HT2 HT3 HD1 HD2 HD3 HG1
    go_upto_region 11 with fail
    have hSd : (W.drew.cell? ⟨w2.heap.size, 0, none⟩ = some (.int .i64 a.kind) ∧ W.drew.cell? ⟨w2.heap.size, 1, none⟩ = some (.int .i64 a.rn) ∧ W.drew.cell? ⟨w2.heap.size, 2, none⟩ = some (.int .i64 a.rd) ∧ W.drew.cell? ⟨w2.heap.size, 3, none⟩ = some (.string a.name) ∧ W.drew.cell? ⟨w2.heap.size, 4, none⟩ = some (.int .i64 a.pw) ∧ W.drew.cell? ⟨w2.heap.size, 5, none⟩ = some (.slice a.a a.l.length a.c)) ∧ (W.drew.cell? ⟨w.heap.size, 0, none⟩ = some (.int .i64 e.kind) ∧ W.drew.cell? ⟨w.heap.size, 1, none⟩ = some (.int .i64 e.rn) ∧ W.drew.cell? ⟨w.heap.size, 2, none⟩ = some (.int .i64 e.rd) ∧ W.drew.cell? ⟨w.heap.size, 3, none⟩ = some (.string e.name) ∧ W.drew.cell? ⟨w.heap.size, 4, none⟩ = some (.int .i64 e.pw) ∧ W.drew.cell? ⟨w.heap.size, 5, none⟩ = some (.slice e.a e.l.length e.c)) ∧ (W.drew.cell? ⟨(w.heap.size + 1 + 1), 0, none⟩ = some (.int .i64 y.kind) ∧ W.drew.cell? ⟨(w.heap.size + 1 + 1), 1, none⟩ = some (.int .i64 y.rn) ∧ W.drew.cell? ⟨(w.heap.size + 1 + 1), 2, none⟩ = some (.int .i64 y.rd) ∧ W.drew.cell? ⟨(w.heap.size + 1 + 1), 3, none⟩ = some (.string y.name) ∧ W.drew.cell? ⟨(w.heap.size + 1 + 1), 4, none⟩ = some (.int .i64 y.pw) ∧ W.drew.cell? ⟨(w.heap.size + 1 + 1), 5, none⟩ = some (.slice y.a y.l.length y.c)) ∧ W.drew.cell? ⟨w3.heap.size, 0, none⟩ = some (.int .i64 (n : Int)) := keepGr ((Kp.refl W).drew) ⟨hBA.1, hB1.1, hB2.1, hc⟩
    have KJ := Lib.hid ((Kp.refl W).drew)
    have hp1 : (0 : Int) ≤ (n : Int) * (nb : Int) := by exact_mod_cast Nat.zero_le (n * nb)
    have hp2 : (n : Int) * (nb : Int) ≤ 200 := by exact_mod_cast g13
    have s1 : IntKind.i64.wrap (nb : Int) = nb := IntWalk.i64_in _ (by omega)
    have s2 : IntKind.i64.wrap ((n : Int) * (nb : Int)) = (n : Int) * (nb : Int) := IntWalk.i64_in _ (by omega)
    have s3 : IntKind.i64.wrap ((na : Int) + (n : Int) * (nb : Int)) = (na : Int) + (n : Int) * (nb : Int) := IntWalk.i64_in _ (by omega)
    have s4 : IntKind.i64.wrap ((d2 : Int) + (d3 : Int)) = (d2 : Int) + (d3 : Int) := IntWalk.i64_in _ (by omega)
    have hG1 : decide ((d1 : Int) < d2 + d3) = true := decide_eq_true (by omega)
    have hG2 : decide ((d2 : Int) ≤ d1) = true := decide_eq_true (by omega)
    clear hB1 hB2 hBA hc hf
    go_region_held3 (fun w' => (w'.cell? ⟨w2.heap.size, 0, none⟩ = some (.int .i64 a.kind) ∧ w'.cell? ⟨w2.heap.size, 1, none⟩ = some (.int .i64 a.rn) ∧ w'.cell? ⟨w2.heap.size, 2, none⟩ = some (.int .i64 a.rd) ∧ w'.cell? ⟨w2.heap.size, 3, none⟩ = some (.string a.name) ∧ w'.cell? ⟨w2.heap.size, 4, none⟩ = some (.int .i64 a.pw) ∧ w'.cell? ⟨w2.heap.size, 5, none⟩ = some (.slice a.a a.l.length a.c)) ∧ (w'.cell? ⟨w.heap.size, 0, none⟩ = some (.int .i64 e.kind) ∧ w'.cell? ⟨w.heap.size, 1, none⟩ = some (.int .i64 e.rn) ∧ w'.cell? ⟨w.heap.size, 2, none⟩ = some (.int .i64 e.rd) ∧ w'.cell? ⟨w.heap.size, 3, none⟩ = some (.string e.name) ∧ w'.cell? ⟨w.heap.size, 4, none⟩ = some (.int .i64 e.pw) ∧ w'.cell? ⟨w.heap.size, 5, none⟩ = some (.slice e.a e.l.length e.c)) ∧ (w'.cell? ⟨(w.heap.size + 1 + 1), 0, none⟩ = some (.int .i64 y.kind) ∧ w'.cell? ⟨(w.heap.size + 1 + 1), 1, none⟩ = some (.int .i64 y.rn) ∧ w'.cell? ⟨(w.heap.size + 1 + 1), 2, none⟩ = some (.int .i64 y.rd) ∧ w'.cell? ⟨(w.heap.size + 1 + 1), 3, none⟩ = some (.string y.name) ∧ w'.cell? ⟨(w.heap.size + 1 + 1), 4, none⟩ = some (.int .i64 y.pw) ∧ w'.cell? ⟨(w.heap.size + 1 + 1), 5, none⟩ = some (.slice y.a y.l.length y.c)) ∧ w'.cell? ⟨w3.heap.size, 0, none⟩ = some (.int .i64 (n : Int))) (first | with_reducible assumption | with_reducible exact keepGr (by assumption) (by assumption) | fail) (first
      | (go_at_call 18; go_fit (HSa.out _ KJ.out); rintro r w4 ⟨rfl, k4⟩; replace KJ := Lib.hid (KJ.out.trans k4))
      | (go_at_call 18; go_fit (HSe.out _ KJ.out); rintro r w5 ⟨rfl, k5⟩; replace KJ := Lib.hid (KJ.out.trans k5))
      | (go_at_call 18; go_fit (HSy.out _ KJ.out); rintro r w6 ⟨rfl, k6⟩; replace KJ := Lib.hid (KJ.out.trans k6))
      | (go_at_call 19; go_fit (HDa.out _ KJ.out); rintro r w7 ⟨rfl, k7⟩; replace KJ := Lib.hid (KJ.out.trans k7))
      | (go_at_call 19; go_fit (HDe.out _ KJ.out); rintro r w8 ⟨rfl, k8⟩; replace KJ := Lib.hid (KJ.out.trans k8))
      | (go_at_call 19; go_fit (HDy.out _ KJ.out); rintro r w9 ⟨rfl, k9⟩; replace KJ := Lib.hid (KJ.out.trans k9))
      | fail)
    go_wp2
    have hD := HD.out
    have hK' := KJ.out.heap HK.out
    rw [← HQ.out]
    refine ⟨by simp, .inl ⟨_, _, rfl, run_takeDeferred hK', ?_⟩⟩
    exact ⟨_, results_tmp rfl _ _ _, rfl, Below.trans (show Below w.heap.size w _ from KC.out.trans (HKW.out.trans KJ.out)) (belowK_b (w := w) (Nat.le_refl _) _ D _ _ (by omega) hK' rfl rfl)⟩
  case stop =>
    rintro D c pre W _ _ h _
    exact h.elim
end Go.Proofs.Ythaphbbeiglolaa
