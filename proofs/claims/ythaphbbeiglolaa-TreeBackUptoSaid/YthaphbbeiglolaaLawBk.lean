/-
  Walks: TreeBack.
-/
import Derived.Test.YthaphbbeiglolaaBakP
namespace Go.Proofs.Ythaphbbeiglolaa
open Go.RowKit Go.Sort Go.Shelf

/-- is a name in a list? -/
def inS (ss : List ByteArray) (x : ByteArray) : Bool := ss.any fun y => decide (y = x)
theorem inS_iff {ss : List ByteArray} {x : ByteArray} : inS ss x = true ↔ x ∈ ss := by
  unfold inS
  rw [List.any_eq_true]
  exact ⟨fun ⟨y, hy, e⟩ => of_decide_eq_true e ▸ hy, fun h => ⟨x, h, decide_eq_true rfl⟩⟩
theorem inS_no {ss : List ByteArray} {x : ByteArray} (h : x ∉ ss) : inS ss x = false := Bool.eq_false_iff.2 fun e => h (inS_iff.1 e)
theorem conS_any (a : Option Addr) (c : Nat) (ss : List ByteArray) (x : ByteArray) (w : World) (h : RowS w a ss) (hl : ss.length ≤ 1100000) :
    Calls Try.prog 32 #[.slice a ss.length c, .string x] w fun e w' => e = .returned (.bool (inS ss x)) ∧ w' = w := by
  by_cases h0 : ss = []
  · subst h0
    refine (Any.slices_Contains_string_empty lays110 a c x w).mono fun e w' hh => ?_
    obtain ⟨e1, e2⟩ := hh
    exact ⟨e1, e2⟩
  · obtain ⟨b, o, rfl, hc⟩ := rowS_cells h h0
    refine (Any.slices_Contains_string lays110 b o ss.length c ss x w (Nat.le_refl _) (by omega) hc).mono fun e w' hh => ?_
    obtain ⟨e1, e2⟩ := hh
    rw [List.take_length] at e1
    refine ⟨e1.trans (ret_bool ?_), e2⟩
    rw [Bool.eq_iff_iff, inS_iff]
    exact Lib.containsS_iff ss x
theorem namO_le (e : Ex) : (namO e).length ≤ 200 := by
  have h := namO_sort e
  have h1 : ((namO e).map (·.data.toList)).length ≤ (nmL (flatE e)).length := by
    rw [← h]
    refine Nat.le_trans (Lib.compact_length_le _) ?_
    rw [(sortB_perm _).length_eq]
    exact Nat.le_refl _
  rw [List.length_map] at h1
  have := nmL_le (flatE e)
  have := flatE_le e
  omega
theorem row1S {w : World} {s : Nat} {t : ByteArray} (hc : w.cell? ⟨s, 0, none⟩ = some (.string t)) : RowS w (some ⟨s, 0, none⟩) [t] := fun i z hz => by
  match i, hz with
  | 0, hz => cases hz; exact ⟨s, 0, rfl, hc⟩
  | i + 1, hz => simp at hz
set_option maxHeartbeats 8000000 in
set_option maxRecDepth 20000 in
theorem Back_ok (e y : Ex) (name other : ByteArray) (w : World) (hat : e.at w w.heap.size) (hay : y.at w w.heap.size) (hn : name.size ≤ maxLen) (ho : other.size ≤ maxLen) :
    Calls Try.prog 9 #[.agg #[.int .i64 e.kind, .int .i64 e.rn, .int .i64 e.rd, .string e.name, .int .i64 e.pw, .slice e.a e.l.length e.c], .string name, .string other, .agg #[.int .i64 y.kind, .int .i64 y.rn, .int .i64 y.rd, .string y.name, .int .i64 y.pw, .slice y.a y.l.length y.c]] w fun r w' => r = .returned (.bool true) ∧ Kp w w' := by
  have k1 : Kp w ((w.alloc (.cells #[.int .i64 e.kind, .int .i64 e.rn, .int .i64 e.rd, .string e.name, .int .i64 e.pw, .slice e.a e.l.length e.c] 26)).alloc (.cells #[.int .i64 y.kind, .int .i64 y.rn, .int .i64 y.rd, .string y.name, .int .i64 y.pw, .slice y.a y.l.length y.c] 26)) := ((Kp.refl w).alloc _).alloc _
  have hB1 : BoxX ((w.alloc (.cells #[.int .i64 e.kind, .int .i64 e.rn, .int .i64 e.rd, .string e.name, .int .i64 e.pw, .slice e.a e.l.length e.c] 26)).alloc (.cells #[.int .i64 y.kind, .int .i64 y.rn, .int .i64 y.rd, .string y.name, .int .i64 y.pw, .slice y.a y.l.length y.c] 26)) w.heap.size e := (BoxX.new w e _ rfl).kp ((Kp.refl _).alloc _)
  have hB2 : BoxX ((w.alloc (.cells #[.int .i64 e.kind, .int .i64 e.rn, .int .i64 e.rd, .string e.name, .int .i64 e.pw, .slice e.a e.l.length e.c] 26)).alloc (.cells #[.int .i64 y.kind, .int .i64 y.rn, .int .i64 y.rd, .string y.name, .int .i64 y.pw, .slice y.a y.l.length y.c] 26)) (w.heap.size + 1) y := BoxX.new _ y _ (by simp)
  go_enter Try.func9, Try.ntmps9
  go_upto_region 1 with fail
  generalize World.alloc _ _ = W at *
  have KC := Lib.hid k1
  have HE := Lib.hid (Ex.at_kp hat k1)
  have HY := Lib.hid (Ex.at_kp hay k1)
  have HB1 := Lib.hid hB1
  have HB2 := Lib.hid hB2
  have hsz : w.heap.size ≤ W.heap.size := k1.size
  clear hat hay hB1 hB2 k1
  go_upto_region 3 with (first | (go_at_call 10; go_fit (awake_one _); rintro r w1 ⟨rfl, k1⟩) | fail)
  have KC := Lib.hid (KC.out.trans k1)
  have HE := Lib.hid (Ex.at_kp HE.out k1)
  have HY := Lib.hid (Ex.at_kp HY.out k1)
  have HB1 := Lib.hid (HB1.out.kp k1)
  have HB2 := Lib.hid (HB2.out.kp k1)
  have hs1 : w.heap.size ≤ w1.heap.size := KC.out.size
  clear k1
  obtain ⟨⟨p0, p1, p2, p3, p4, p5⟩, _⟩ := id HB1.out
  go_upto_region 4 with (first | (go_at_call 20; go_fit (tnames_any e w.heap.size w1 HE.out hs1); rintro r w2 ⟨v, rfl, hv, k2⟩; obtain ⟨va, vc, rfl, hrow⟩ := rowS_own hv) | fail)
  have KC := Lib.hid (KC.out.trans k2)
  have HE := Lib.hid (Ex.at_kp HE.out k2)
  have HY := Lib.hid (Ex.at_kp HY.out k2)
  have HB1 := Lib.hid (HB1.out.kp k2)
  have HB2 := Lib.hid (HB2.out.kp k2)
  have HRow := Lib.hid hrow
  have hs2 : w.heap.size ≤ w2.heap.size := KC.out.size
  clear k2 hv hrow p0 p1 p2 p3 p4 p5
  obtain ⟨⟨p0, p1, p2, p3, p4, p5⟩, _⟩ := id HB1.out
  have HV := Lib.hid (tvalid_any e w.heap.size w2 HE.out hs2)
  have HVn := Lib.hid fun W' (k : Kp w2 W') => tvalid_any (varE name) w.heap.size W' (varE_at hn) (Nat.le_trans hs2 k.size)
  have HVo := Lib.hid fun W' (k : Kp w2 W') => tvalid_any (varE other) w.heap.size W' (varE_at ho) (Nat.le_trans hs2 k.size)
  have HC := Lib.hid fun W' (k : Kp w2 W') => conS_any va vc (namO e) other W' (HRow.out.kp k) (Nat.le_trans (namO_le e) (by decide))
  rw [varE_ok] at HVn HVo
  rcases Bool.eq_false_or_eq_true e.ok with h1 | h1
  rotate_left
  · rw [h1] at HV
    clear h1
    go_wp2_with (first
      | (go_at_call 31; go_fit HV.out; rintro r w3 ⟨rfl, k3⟩; clear HV)
      | fail)
    go_ret
    exact ⟨rfl, KC.out.trans k3⟩
  rcases Bool.eq_false_or_eq_true (nameB name) with h2 | h2
  rotate_left
  · rw [h1] at HV
    rw [h2] at HVn
    clear h1 h2
    go_wp2_with (first
      | (go_at_call 31; go_fit HV.out; rintro r w3 ⟨rfl, k3⟩; clear HV)
      | (go_at_call 34; go_fit (lawv_any name w3); rintro r w4 ⟨rfl, k4⟩)
      | (go_at_call 31; go_fit (HVn.out w4 (k3.trans k4)); rintro r w5 ⟨rfl, k5⟩; clear HVn; have k35 := k3.trans (k4.trans k5))
      | fail)
    go_ret
    exact ⟨rfl, KC.out.trans k35⟩
  rcases Bool.eq_false_or_eq_true (nameB other) with h3 | h3
  rotate_left
  · rw [h1] at HV
    rw [h2] at HVn
    rw [h3] at HVo
    clear h1 h2 h3
    go_wp2_with (first
      | (go_at_call 31; go_fit HV.out; rintro r w3 ⟨rfl, k3⟩; clear HV)
      | (go_at_call 34; go_fit (lawv_any name w3); rintro r w4 ⟨rfl, k4⟩)
      | (go_at_call 31; go_fit (HVn.out w4 (k3.trans k4)); rintro r w5 ⟨rfl, k5⟩; clear HVn; have k35 := k3.trans (k4.trans k5))
      | (go_at_call 34; go_fit (lawv_any other w5); rintro r w6 ⟨rfl, k6⟩)
      | (go_at_call 31; go_fit (HVo.out w6 (k35.trans k6)); rintro r w7 ⟨rfl, k7⟩; clear HVo; have k37 := k35.trans (k6.trans k7))
      | fail)
    go_ret
    exact ⟨rfl, KC.out.trans k37⟩
  rcases Classical.em (other ∈ namO e) with h4 | h4
  · rw [h1] at HV
    rw [h2] at HVn
    rw [h3] at HVo
    rw [inS_iff.2 h4] at HC
    clear h1 h2 h3 h4
    go_wp2_with (first
      | (go_at_call 31; go_fit HV.out; rintro r w3 ⟨rfl, k3⟩; clear HV)
      | (go_at_call 34; go_fit (lawv_any name w3); rintro r w4 ⟨rfl, k4⟩)
      | (go_at_call 31; go_fit (HVn.out w4 (k3.trans k4)); rintro r w5 ⟨rfl, k5⟩; clear HVn; have k35 := k3.trans (k4.trans k5))
      | (go_at_call 34; go_fit (lawv_any other w5); rintro r w6 ⟨rfl, k6⟩)
      | (go_at_call 31; go_fit (HVo.out w6 (k35.trans k6)); rintro r w7 ⟨rfl, k7⟩; clear HVo; have k37 := k35.trans (k6.trans k7))
      | (go_at_call 32; go_fit (HC.out w7 k37); rintro r w8 ⟨rfl, h8⟩; replace h8 := h8.symm; subst h8)
      | fail)
    go_ret
    exact ⟨rfl, KC.out.trans k37⟩
  rw [h1] at HV
  rw [h2] at HVn
  rw [h3] at HVo
  rw [inS_no h4] at HC
  have H1 := Lib.hid h1
  have H2 := Lib.hid h2
  have H3 := Lib.hid h3
  have H4 := Lib.hid h4
  clear h1 h2 h3 h4
  go_upto_region 6 with (first
    | (go_at_call 31; go_fit HV.out; rintro r w3 ⟨rfl, k3⟩; clear HV)
    | (go_at_call 34; go_fit (lawv_any name w3); rintro r w4 ⟨rfl, k4⟩)
    | (go_at_call 31; go_fit (HVn.out w4 (k3.trans k4)); rintro r w5 ⟨rfl, k5⟩; clear HVn; have k35 := k3.trans (k4.trans k5))
    | (go_at_call 34; go_fit (lawv_any other w5); rintro r w6 ⟨rfl, k6⟩)
    | (go_at_call 31; go_fit (HVo.out w6 (k35.trans k6)); rintro r w7 ⟨rfl, k7⟩; clear HVo; have k37 := k35.trans (k6.trans k7))
    | (go_at_call 32; go_fit (HC.out w7 k37); rintro r w8 ⟨rfl, h8⟩; replace h8 := h8.symm; subst h8)
    | fail)
  have KC := Lib.hid (KC.out.trans k37)
  have HE := Lib.hid (Ex.at_kp HE.out k37)
  have HY := Lib.hid (Ex.at_kp HY.out k37)
  have HB1 := Lib.hid (HB1.out.kp k37)
  have HB2 := Lib.hid (HB2.out.kp k37)
  have hs7 : w.heap.size ≤ w7.heap.size := KC.out.size
  clear k3 k4 k5 k6 k7 k35 k37 p0 p1 p2 p3 p4 p5 HC HRow
  obtain ⟨⟨p0, p1, p2, p3, p4, p5⟩, _⟩ := id HB1.out
  have HR := Lib.hid fun W' (k : Kp w7 W') (s t : Nat) (hs : W'.cell? ⟨s, 0, none⟩ = some (.string name)) (ht : W'.cell? ⟨t, 0, none⟩ = some (.string other)) =>
    rename_any e [name] [other] (some ⟨s, 0, none⟩) (some ⟨t, 0, none⟩) 1 1 w.heap.size W' (Ex.at_kp HE.out k) (Nat.le_trans hs7 k.size) (row1S hs) (row1S ht) (by show (1 : Nat) ≤ 1048576; decide) (by show (1 : Nat) ≤ 1048576; decide) (fun z hz => by rw [List.mem_singleton.1 hz]; exact hn) (fun z hz => by rw [List.mem_singleton.1 hz]; exact ho)
  rw [renF_one H1.out H2.out H3.out] at HR
  go_upto_region 7 with (first
    | (go_at_call 29; go_fit (HR.out _ (((Kp.refl w7).alloc _).alloc _) w7.heap.size (w7.heap.size + 1) (((Kp.refl _).alloc _).cell (new_cell _ _ _ _ rfl)) (new_cell _ _ _ _ (by simp))); rintro r w8 ⟨a, rfl, hr8⟩)
    | fail)
  have hA : Kp w7 w8 ∧ a.at w8 w8.heap.size ∧ a.er = (e.sub (oneS name (varE other))).er := by
    obtain ⟨h1, h2, h3⟩ := hr8
    refine ⟨(((Kp.refl w7).alloc _).alloc _).trans h1, h2.1, ?_⟩
    rcases h3 with ⟨_, h3⟩ | ⟨h3, _⟩
    · rw [h3, renM_one]
    · exact absurd (renF_one H1.out H2.out H3.out) h3
  clear hr8 HR p0 p1 p2 p3 p4 p5
  obtain ⟨k8, hat8, her8⟩ := hA
  have ka : Kp w8 (w8.alloc (.cells #[.int .i64 a.kind, .int .i64 a.rn, .int .i64 a.rd, .string a.name, .int .i64 a.pw, .slice a.a a.l.length a.c] 26)) := (Kp.refl w8).alloc _
  have hba : BoxX (w8.alloc (.cells #[.int .i64 a.kind, .int .i64 a.rn, .int .i64 a.rd, .string a.name, .int .i64 a.pw, .slice a.a a.l.length a.c] 26)) w8.heap.size a := BoxX.new w8 a _ rfl
  generalize hW9 : w8.alloc _ = w9 at *
  clear hW9
  have kk := k8.trans ka
  have KC := Lib.hid (KC.out.trans kk)
  have HE := Lib.hid (Ex.at_kp HE.out kk)
  have HY := Lib.hid (Ex.at_kp HY.out kk)
  have HB1 := Lib.hid (HB1.out.kp kk)
  have HB2 := Lib.hid (HB2.out.kp kk)
  have HAA := Lib.hid (Ex.at_up (Ex.at_kp hat8 ka) ka.size)
  have HBA := Lib.hid hba
  have HRA := Lib.hid her8
  have hs9 : w.heap.size ≤ w9.heap.size := KC.out.size
  have hok : a.ok = true := by rw [ok_er her8]; exact ren_ok H1.out H3.out
  have HOK := Lib.hid hok
  have HR := Lib.hid fun W' (k : Kp w9 W') (s t : Nat) (hs : W'.cell? ⟨s, 0, none⟩ = some (.string other)) (ht : W'.cell? ⟨t, 0, none⟩ = some (.string name)) =>
    rename_any a [other] [name] (some ⟨s, 0, none⟩) (some ⟨t, 0, none⟩) 1 1 w9.heap.size W' (Ex.at_kp HAA.out k) k.size (row1S hs) (row1S ht) (by show (1 : Nat) ≤ 1048576; decide) (by show (1 : Nat) ≤ 1048576; decide) (fun z hz => by rw [List.mem_singleton.1 hz]; exact ho) (fun z hz => by rw [List.mem_singleton.1 hz]; exact hn)
  rw [renF_one hok H3.out H2.out] at HR
  obtain ⟨⟨q0, q1, q2, q3, q4, q5⟩, _⟩ := hba
  clear k8 hat8 her8 ka kk hok
  go_upto_region 8 with (first
    | (go_at_call 29; go_fit (HR.out _ (((Kp.refl w9).alloc _).alloc _) w9.heap.size (w9.heap.size + 1) (((Kp.refl _).alloc _).cell (new_cell _ _ _ _ rfl)) (new_cell _ _ _ _ (by simp))); rintro r w10 ⟨b, rfl, hr10⟩)
    | fail)
  have hB : Kp w9 w10 ∧ b.at w10 w10.heap.size ∧ b.er = e.er := by
    obtain ⟨h1, h2, h3⟩ := hr10
    refine ⟨(((Kp.refl w9).alloc _).alloc _).trans h1, h2.1, ?_⟩
    rcases h3 with ⟨_, h3⟩ | ⟨h3, _⟩
    · rw [renM_one] at h3
      exact back_er H1.out H4.out HRA.out h3
    · exact absurd (renF_one HOK.out H3.out H2.out) h3
  clear hr10 HR q0 q1 q2 q3 q4 q5
  obtain ⟨k10, hat10, her10⟩ := hB
  have kb : Kp w10 (w10.alloc (.cells #[.int .i64 b.kind, .int .i64 b.rn, .int .i64 b.rd, .string b.name, .int .i64 b.pw, .slice b.a b.l.length b.c] 26)) := (Kp.refl w10).alloc _
  have hbb : BoxX (w10.alloc (.cells #[.int .i64 b.kind, .int .i64 b.rn, .int .i64 b.rd, .string b.name, .int .i64 b.pw, .slice b.a b.l.length b.c] 26)) w10.heap.size b := BoxX.new w10 b _ rfl
  generalize hW11 : w10.alloc _ = w11 at *
  clear hW11
  have kk := k10.trans kb
  have KC := Lib.hid (KC.out.trans kk)
  have HE := Lib.hid (Ex.at_kp HE.out kk)
  have HY := Lib.hid (Ex.at_kp HY.out kk)
  have HB1 := Lib.hid (HB1.out.kp kk)
  have HB2 := Lib.hid (HB2.out.kp kk)
  have HAA := Lib.hid (Ex.at_up (Ex.at_kp HAA.out kk) kk.size)
  have HBA := Lib.hid (HBA.out.kp kk)
  have HBB := Lib.hid (Ex.at_up (Ex.at_kp hat10 kb) kb.size)
  have hs11 : w.heap.size ≤ w11.heap.size := KC.out.size
  have HEq := Lib.hid (tequal_any b e w11.heap.size w11 HBB.out (Ex.at_up HE.out hs11) (Nat.le_refl _))
  rw [eqO_er her10 H1.out] at HEq
  have HNa := Lib.hid fun W' (k : Kp w11 W') => tnames_any a w11.heap.size W' (Ex.at_kp HAA.out k) k.size
  have HCa := Lib.hid fun W' (va : Option Addr) (vc : Nat) (h : RowS W' va (namO a)) => conS_any va vc (namO a) name W' h (Nat.le_trans (namO_le a) (by decide))
  have hcase : (name = other ∧ ∃ bb, inS (namO a) name = bb) ∨ (name ≠ other ∧ inS (namO a) name = false) := by
    rcases Classical.em (name = other) with h | h
    · exact .inl ⟨h, _, rfl⟩
    · exact .inr ⟨h, inS_no (gone_names H3.out H1.out h HRA.out)⟩
  obtain ⟨⟨t0, t1, t2, t3, t4, t5⟩, _⟩ := hbb
  obtain ⟨⟨p0, p1, p2, p3, p4, p5⟩, _⟩ := id HB1.out
  clear k10 hat10 her10 kb kk
  rcases hcase with ⟨hc, bb, hbb⟩ | ⟨hc, hin⟩
  · replace hc := hc.symm
    subst hc
    rw [hbb] at HCa
    clear hbb
    cases bb
    all_goals
      go_upto_region 10 with (first
        | (go_at_call 35; go_fit HEq.out; rintro r w12 ⟨rfl, k12⟩; obtain ⟨⟨q0, q1, q2, q3, q4, q5⟩, _⟩ := HBA.out.kp k12)
        | (go_at_call 20; go_fit (HNa.out _ k12); rintro r w13 ⟨v, rfl, hv, k13⟩; obtain ⟨va2, vc2, rfl, hrow2⟩ := rowS_own hv)
        | (go_at_call 32; go_fit (HCa.out _ va2 vc2 hrow2); rintro r w14 ⟨rfl, h14⟩; replace h14 := h14.symm; subst h14)
        | fail)
      clear p0 p1 p2 p3 p4 p5 q0 q1 q2 q3 q4 q5 t0 t1 t2 t3 t4 t5
      have kz := k12.trans k13
      have KC := Lib.hid (KC.out.trans kz)
      have HE := Lib.hid (Ex.at_kp HE.out kz)
      have HY := Lib.hid (Ex.at_kp HY.out kz)
      have HB1 := Lib.hid (HB1.out.kp kz)
      have HB2 := Lib.hid (HB2.out.kp kz)
      have hs13 : w.heap.size ≤ w13.heap.size := KC.out.size
      have HVy := Lib.hid (tvalid_any y w.heap.size w13 HY.out hs13)
      obtain ⟨⟨y0, y1, y2, y3, y4, y5⟩, _⟩ := id HB2.out
      rcases Bool.eq_false_or_eq_true y.ok with hy | hy
      rotate_left
      · rw [hy] at HVy
        clear hy
        go_wp2_with (first
          | (go_at_call 31; go_fit HVy.out; rintro r w15 ⟨rfl, k15⟩)
          | fail)
        go_ret
        exact ⟨rfl, KC.out.trans k15⟩
      · rw [hy] at HVy
        have HYK := Lib.hid hy
        clear hy
        have HRp := Lib.hid fun W' (k : Kp w13 W') => replace_any e y other w.heap.size W' (Ex.at_kp HE.out k) (Ex.at_kp HY.out k) (Nat.le_trans hs13 k.size) ho
        rw [replF_unused H1.out HYK.out H3.out H4.out] at HRp
        go_upto_region 13 with (first
          | (go_at_call 31; go_fit HVy.out; rintro r w15 ⟨rfl, k15⟩; clear y0 y1 y2 y3 y4 y5; obtain ⟨⟨y0, y1, y2, y3, y4, y5⟩, _⟩ := HB2.out.kp k15; obtain ⟨⟨p0, p1, p2, p3, p4, p5⟩, _⟩ := HB1.out.kp k15)
          | (go_at_call 11; go_fit (HRp.out _ k15); rintro r w16 ⟨x, rfl, hr16⟩)
          | fail)
        have hX : Kp w15 w16 ∧ x.at w16 w16.heap.size ∧ x.er = e.er := by
          obtain ⟨g1, g2, g3⟩ := hr16
          refine ⟨g1, g2.1, ?_⟩
          rcases g3 with ⟨_, g3⟩ | ⟨g3, _⟩
          · rw [g3]; exact unused_er H1.out H4.out
          · exact absurd (replF_unused H1.out HYK.out H3.out H4.out) g3
        clear hr16 HRp p0 p1 p2 p3 p4 p5 y0 y1 y2 y3 y4 y5
        obtain ⟨k16, hat16, her16⟩ := hX
        have kx : Kp w16 (w16.alloc (.cells #[.int .i64 x.kind, .int .i64 x.rn, .int .i64 x.rd, .string x.name, .int .i64 x.pw, .slice x.a x.l.length x.c] 26)) := (Kp.refl w16).alloc _
        have hbx : BoxX (w16.alloc (.cells #[.int .i64 x.kind, .int .i64 x.rn, .int .i64 x.rd, .string x.name, .int .i64 x.pw, .slice x.a x.l.length x.c] 26)) w16.heap.size x := BoxX.new w16 x _ rfl
        generalize hW17 : w16.alloc _ = w17 at *
        clear hW17
        have kk := k15.trans (k16.trans kx)
        have KC := Lib.hid (KC.out.trans kk)
        have HB1 := Lib.hid (HB1.out.kp kk)
        have HE := Lib.hid (Ex.at_kp HE.out kk)
        have hs17 : w.heap.size ≤ w17.heap.size := KC.out.size
        have HEq := Lib.hid (tequal_any x e w17.heap.size w17 (Ex.at_up (Ex.at_kp hat16 kx) kx.size) (Ex.at_up HE.out hs17) (Nat.le_refl _))
        rw [eqO_er her16 H1.out] at HEq
        obtain ⟨⟨x0, x1, x2, x3, x4, x5⟩, _⟩ := hbx
        obtain ⟨⟨p0, p1, p2, p3, p4, p5⟩, _⟩ := id HB1.out
        clear k15 k16 kx kk hat16 her16
        go_wp2_with (first
          | (go_at_call 35; go_fit HEq.out; rintro r w18 ⟨rfl, k18⟩)
          | fail)
        go_ret
        exact ⟨rfl, KC.out.trans k18⟩
  · rw [hin] at HCa
    clear hin hc
    go_upto_region 10 with (first
      | (go_at_call 35; go_fit HEq.out; rintro r w12 ⟨rfl, k12⟩; obtain ⟨⟨q0, q1, q2, q3, q4, q5⟩, _⟩ := HBA.out.kp k12)
      | (go_at_call 20; go_fit (HNa.out _ k12); rintro r w13 ⟨v, rfl, hv, k13⟩; obtain ⟨va2, vc2, rfl, hrow2⟩ := rowS_own hv)
      | (go_at_call 32; go_fit (HCa.out _ va2 vc2 hrow2); rintro r w14 ⟨rfl, h14⟩; replace h14 := h14.symm; subst h14)
      | fail)
    clear p0 p1 p2 p3 p4 p5 q0 q1 q2 q3 q4 q5 t0 t1 t2 t3 t4 t5
    have kz := k12.trans k13
    have KC := Lib.hid (KC.out.trans kz)
    have HE := Lib.hid (Ex.at_kp HE.out kz)
    have HY := Lib.hid (Ex.at_kp HY.out kz)
    have HB1 := Lib.hid (HB1.out.kp kz)
    have HB2 := Lib.hid (HB2.out.kp kz)
    have hs13 : w.heap.size ≤ w13.heap.size := KC.out.size
    have HVy := Lib.hid (tvalid_any y w.heap.size w13 HY.out hs13)
    obtain ⟨⟨y0, y1, y2, y3, y4, y5⟩, _⟩ := id HB2.out
    rcases Bool.eq_false_or_eq_true y.ok with hy | hy
    rotate_left
    · rw [hy] at HVy
      clear hy
      go_wp2_with (first
        | (go_at_call 31; go_fit HVy.out; rintro r w15 ⟨rfl, k15⟩)
        | fail)
      go_ret
      exact ⟨rfl, KC.out.trans k15⟩
    · rw [hy] at HVy
      have HYK := Lib.hid hy
      clear hy
      have HRp := Lib.hid fun W' (k : Kp w13 W') => replace_any e y other w.heap.size W' (Ex.at_kp HE.out k) (Ex.at_kp HY.out k) (Nat.le_trans hs13 k.size) ho
      rw [replF_unused H1.out HYK.out H3.out H4.out] at HRp
      go_upto_region 13 with (first
        | (go_at_call 31; go_fit HVy.out; rintro r w15 ⟨rfl, k15⟩; clear y0 y1 y2 y3 y4 y5; obtain ⟨⟨y0, y1, y2, y3, y4, y5⟩, _⟩ := HB2.out.kp k15; obtain ⟨⟨p0, p1, p2, p3, p4, p5⟩, _⟩ := HB1.out.kp k15)
        | (go_at_call 11; go_fit (HRp.out _ k15); rintro r w16 ⟨x, rfl, hr16⟩)
        | fail)
      have hX : Kp w15 w16 ∧ x.at w16 w16.heap.size ∧ x.er = e.er := by
        obtain ⟨g1, g2, g3⟩ := hr16
        refine ⟨g1, g2.1, ?_⟩
        rcases g3 with ⟨_, g3⟩ | ⟨g3, _⟩
        · rw [g3]; exact unused_er H1.out H4.out
        · exact absurd (replF_unused H1.out HYK.out H3.out H4.out) g3
      clear hr16 HRp p0 p1 p2 p3 p4 p5 y0 y1 y2 y3 y4 y5
      obtain ⟨k16, hat16, her16⟩ := hX
      have kx : Kp w16 (w16.alloc (.cells #[.int .i64 x.kind, .int .i64 x.rn, .int .i64 x.rd, .string x.name, .int .i64 x.pw, .slice x.a x.l.length x.c] 26)) := (Kp.refl w16).alloc _
      have hbx : BoxX (w16.alloc (.cells #[.int .i64 x.kind, .int .i64 x.rn, .int .i64 x.rd, .string x.name, .int .i64 x.pw, .slice x.a x.l.length x.c] 26)) w16.heap.size x := BoxX.new w16 x _ rfl
      generalize hW17 : w16.alloc _ = w17 at *
      clear hW17
      have kk := k15.trans (k16.trans kx)
      have KC := Lib.hid (KC.out.trans kk)
      have HB1 := Lib.hid (HB1.out.kp kk)
      have HE := Lib.hid (Ex.at_kp HE.out kk)
      have hs17 : w.heap.size ≤ w17.heap.size := KC.out.size
      have HEq := Lib.hid (tequal_any x e w17.heap.size w17 (Ex.at_up (Ex.at_kp hat16 kx) kx.size) (Ex.at_up HE.out hs17) (Nat.le_refl _))
      rw [eqO_er her16 H1.out] at HEq
      obtain ⟨⟨x0, x1, x2, x3, x4, x5⟩, _⟩ := hbx
      obtain ⟨⟨p0, p1, p2, p3, p4, p5⟩, _⟩ := id HB1.out
      clear k15 k16 kx kk hat16 her16
      go_wp2_with (first
        | (go_at_call 35; go_fit HEq.out; rintro r w18 ⟨rfl, k18⟩)
        | fail)
      go_ret
      exact ⟨rfl, KC.out.trans k18⟩
end Go.Proofs.Ythaphbbeiglolaa
