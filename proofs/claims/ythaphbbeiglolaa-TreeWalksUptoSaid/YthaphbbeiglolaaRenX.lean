/-
  Walks: tree.Rename.
-/
import Derived.Test.YthaphbbeiglolaaEvrS
namespace Go.Proofs.Ythaphbbeiglolaa
open Go.RowKit Go.Sort

/-- the map of a renaming -/
def renM (ps : List (ByteArray × ByteArray)) : ByteArray → Option Ex := ps.foldl (fun f q => updF f q.1 (varE q.2)) (fun _ => none)
theorem renM_snoc (ps : List (ByteArray × ByteArray)) (q : ByteArray × ByteArray) : renM (ps ++ [q]) = updF (renM ps) q.1 (varE q.2) := by unfold renM; rw [List.foldl_append]; rfl
theorem fold_some : ∀ (ps : List (ByteArray × ByteArray)) (f : ByteArray → Option Ex) (n : ByteArray), ((ps.foldl (fun f q => updF f q.1 (varE q.2)) f) n).isSome = true ↔ (f n).isSome = true ∨ n ∈ ps.map Prod.fst
  | [], f, n => by simp
  | q :: t, f, n => by
    rw [List.foldl_cons, fold_some t, List.map_cons, List.mem_cons]
    unfold updF
    by_cases h : n = q.1
    · rw [if_pos h]; simp [h]
    · rw [if_neg h]; simp [h]
theorem renM_some (ps : List (ByteArray × ByteArray)) (n : ByteArray) : (renM ps n).isSome = true ↔ n ∈ ps.map Prod.fst := by
  unfold renM; rw [fold_some]; simp
theorem fold_var : ∀ (ps : List (ByteArray × ByteArray)) (f : ByteArray → Option Ex), (∀ n x, f n = some x → ∃ s, s ∈ ps.map Prod.snd ∧ x = varE s ∨ f n = some x) → ∀ n x, (ps.foldl (fun f q => updF f q.1 (varE q.2)) f) n = some x → (∃ s ∈ ps.map Prod.snd, x = varE s) ∨ f n = some x
  | [], f, _, n, x, h => .inr h
  | q :: t, f, _, n, x, h => by
    rw [List.foldl_cons] at h
    rcases fold_var t _ (fun n x h => ⟨ByteArray.empty, .inr h⟩) n x h with ⟨s, hs, e⟩ | h1
    · exact .inl ⟨s, .tail _ hs, e⟩
    · unfold updF at h1
      split at h1
      · cases h1; exact .inl ⟨q.2, .head _, rfl⟩
      · exact .inr h1
theorem renM_var {ps : List (ByteArray × ByteArray)} {n : ByteArray} {x : Ex} (h : renM ps n = some x) : ∃ s ∈ ps.map Prod.snd, x = varE s := by
  rcases fold_var ps _ (fun n x h => ⟨ByteArray.empty, .inr h⟩) n x h with h | h
  · exact h
  · cases h
/-- Rename's error -/
def renF (e : Ex) (fs ts : List ByteArray) : Int := if e.ok = true ∧ fs.length = ts.length ∧ fs.length ≤ 200 ∧ fs.all nameB = true ∧ ts.all nameB = true ∧ fs.Nodup then 0 else 1
theorem renF_eq (e : Ex) (fs ts : List ByteArray) : renF e fs ts = if e.ok = true ∧ fs.length = ts.length ∧ fs.length ≤ 200 ∧ fs.all nameB = true ∧ ts.all nameB = true ∧ fs.Nodup then 0 else 1 := rfl
/-- what Rename answers -/
def RenOut (w w' : World) (e : Ex) (fs ts : List ByteArray) (x : Ex) : Prop := Kp w w' ∧ x.made w w' ∧ ((renF e fs ts = 0 ∧ x.er = (e.sub (renM (fs.zip ts))).er) ∨ (renF e fs ts ≠ 0 ∧ x = Ex.zero))
theorem nodup_take {fs : List ByteArray} {k : Nat} {s : ByteArray} (hs : fs[k]? = some s) (h : (fs.take k).Nodup) (hn : s ∉ fs.take k) : (fs.take (k + 1)).Nodup := by
  rw [List.take_add_one, hs]
  exact List.nodup_append.2 ⟨h, by simp, fun a ha b hb e => by simp at hb; subst hb; subst e; exact hn ha⟩
theorem dup_take {fs : List ByteArray} {k : Nat} {s : ByteArray} (hs : fs[k]? = some s) (hn : s ∈ fs.take k) : ¬ fs.Nodup := fun h => by
  obtain ⟨hk, e⟩ := List.getElem?_eq_some_iff.1 hs
  obtain ⟨i, hi⟩ := List.getElem?_of_mem hn
  rw [List.getElem?_take] at hi
  split at hi
  · next hik =>
    obtain ⟨hl, e2⟩ := List.getElem?_eq_some_iff.1 hi
    exact List.pairwise_iff_getElem.1 h i k hl hk hik (e2.trans e.symm)
  · cases hi
theorem zip_take {fs ts : List ByteArray} {k : Nat} {s t : ByteArray} (hs : fs[k]? = some s) (ht : ts[k]? = some t) : (fs.zip ts).take (k + 1) = (fs.zip ts).take k ++ [(s, t)] := by
  rw [List.take_add_one, (List.getElem?_zip_eq_some (z := (s, t))).2 ⟨hs, ht⟩]; rfl
theorem zip_fst_take {fs ts : List ByteArray} {k : Nat} (hl : fs.length = ts.length) : ((fs.zip ts).take k).map Prod.fst = fs.take k := by
  rw [List.map_take, List.map_fst_zip (by omega)]
theorem varE_at {w : World} {B : Nat} {s : ByteArray} (h : s.size ≤ maxLen) : (varE s).at w B :=
  Ex.at_iff.2 ⟨⟨Nat.zero_le _, Nat.zero_le _, h, Nat.zero_le _⟩, fun i x hx => by simp [varE, Ex.l] at hx, fun x hx => by simp [varE, Ex.l] at hx⟩
set_option maxHeartbeats 8000000 in
set_option maxRecDepth 20000 in
theorem rename_any (e : Ex) (fs ts : List ByteArray) (fa ta : Option Addr) (fc tc B : Nat) (w : World) (hat : e.at w B) (hB : B ≤ w.heap.size) (hfs : RowS w fa fs) (hts : RowS w ta ts) (hfl : fs.length ≤ 1048576) (htl : ts.length ≤ 1048576)
    (hfz : ∀ s ∈ fs, s.size ≤ maxLen) (htz : ∀ s ∈ ts, s.size ≤ maxLen) :
    Calls Try.prog 29 #[.agg #[.int .i64 e.kind, .int .i64 e.rn, .int .i64 e.rd, .string e.name, .int .i64 e.pw, .slice e.a e.l.length e.c], .slice fa fs.length fc, .slice ta ts.length tc] w fun r w' => ∃ x : Ex, r = .returned (.tuple #[.agg #[.int .i64 x.kind, .int .i64 x.rn, .int .i64 x.rd, .string x.name, .int .i64 x.pw, .slice x.a x.l.length x.c], .int .i64 (renF e fs ts)]) ∧ RenOut w w' e fs ts x := by
  have k1 : Kp w ((w.alloc (.cells #[.int .i64 e.kind, .int .i64 e.rn, .int .i64 e.rd, .string e.name, .int .i64 e.pw, .slice e.a e.l.length e.c] 26)).alloc (.cells #[.int .i64 0, .int .i64 0, .int .i64 0, .string ⟨#[]⟩, .int .i64 0, .slice none 0 0] 26)) := ((Kp.refl w).alloc _).alloc _
  have hB1 : BoxX ((w.alloc (.cells #[.int .i64 e.kind, .int .i64 e.rn, .int .i64 e.rd, .string e.name, .int .i64 e.pw, .slice e.a e.l.length e.c] 26)).alloc (.cells #[.int .i64 0, .int .i64 0, .int .i64 0, .string ⟨#[]⟩, .int .i64 0, .slice none 0 0] 26)) w.heap.size e := (BoxX.new w e _ rfl).kp ((Kp.refl _).alloc _)
  have hB2 : BoxX ((w.alloc (.cells #[.int .i64 e.kind, .int .i64 e.rn, .int .i64 e.rd, .string e.name, .int .i64 e.pw, .slice e.a e.l.length e.c] 26)).alloc (.cells #[.int .i64 0, .int .i64 0, .int .i64 0, .string ⟨#[]⟩, .int .i64 0, .slice none 0 0] 26)) (w.heap.size + 1) Ex.zero := BoxX.new _ Ex.zero _ (by simp)
  have hz0 : ((w.alloc (.cells #[.int .i64 e.kind, .int .i64 e.rn, .int .i64 e.rd, .string e.name, .int .i64 e.pw, .slice e.a e.l.length e.c] 26)).alloc (.cells #[.int .i64 0, .int .i64 0, .int .i64 0, .string ⟨#[]⟩, .int .i64 0, .slice none 0 0] 26)).heap.size = w.heap.size + 2 := by simp
  obtain ⟨b0, hb0⟩ : ∃ b0, renF e fs ts = b0 := ⟨_, rfl⟩
  have HR := Lib.hid (show b0 = _ from hb0.symm.trans (renF_eq e fs ts))
  have HO : ∀ (w' : World) (x : Ex), Kp w w' → x.made w w' → ((b0 = 0 ∧ x.er = (e.sub (renM (fs.zip ts))).er) ∨ (b0 ≠ 0 ∧ x = Ex.zero)) → RenOut w w' e fs ts x := fun w' x h1 h2 h3 => ⟨h1, h2, by rw [hb0]; exact h3⟩
  have HO := Lib.hid HO
  rw [hb0]
  clear hb0
  have hmm := @run_makeMap Try.prog
  go_enter Try.func29, Try.ntmps29
  go_upto_region 1 with fail
  generalize World.alloc _ _ = W at *
  have HA := Lib.hid (Ex.at_kp hat k1)
  have K1 := Lib.hid k1
  have HZ := Lib.hid hz0
  have HB1 := Lib.hid hB1
  have HB2 := Lib.hid hB2
  have hBW : B ≤ W.heap.size := by omega
  have HV := Lib.hid (tvalid_any e B W HA.out hBW)
  have HFS := Lib.hid (hfs.kp k1)
  have HTS := Lib.hid (hts.kp k1)
  have HFZ := Lib.hid hfz
  have HTZ := Lib.hid htz
  have HN1 := Lib.hid fun W' (k : Kp W W') => everyS_any fa fs fc 38 #[] W' nameB (by omega) (HFS.out.kp k) ⟨fun _ _ => by kernel_rfl, fun s hs w1 _ => (lname_any s w1 (hfz s hs)).mono fun r w2 h => ⟨h.1, by rw [h.2]; exact .refl _⟩⟩
  have HN2 := Lib.hid fun W' (k : Kp W W') => everyS_any ta ts tc 38 #[] W' nameB (by omega) (HTS.out.kp k) ⟨fun _ _ => by kernel_rfl, fun s hs w1 _ => (lname_any s w1 (htz s hs)).mono fun r w2 h => ⟨h.1, by rw [h.2]; exact .refl _⟩⟩
  obtain ⟨⟨q0, q1, q2, q3, q4, q5⟩, _⟩ := hB1
  clear k1 hat hB2 hz0 hfs hts hfz htz
  rcases Bool.eq_false_or_eq_true e.ok with h1 | h1
  rotate_left
  · rw [h1] at HV
    have H1 := Lib.hid h1
    clear h1 HN1 HN2 hmm
    go_wp2_with (first | (go_at_call 31; go_fit HV.out; rintro r w2 ⟨rfl, k2⟩; clear HV; obtain ⟨⟨z0, z1, z2, z3, z4, z5⟩, zf, _⟩ := HB2.out.kp k2; have g0 := zf 0; have g1 := zf 1; have g2 := zf 2; have g3 := zf 3; have g4 := zf 4; have g5 := zf 5) | fail)
    have hz : b0 = 1 := by rw [HR.out, if_neg (fun h => by rw [H1.out] at h; exact absurd h.1 (by decide))]
    subst hz
    generalize hW9 : ((((((w2.setCell _ _).setCell _ _).setCell _ _).setCell _ _).setCell _ _).setCell _ _) = W9
    have hb := HB2.out.kp k2
    have hst : Stored6 (w.heap.size + 1) 0 Ex.zero w2 W9 := stored60 Ex.zero hb hW9
    obtain ⟨⟨s0, s1, s2, s3, s4, s5⟩, _⟩ := hb.stored hst
    have hz := HZ.out
    have hz9 := hst.2.2.2.1
    have hkw := (K1.out.trans k2).size
    refine bodyPost_ret (v := .tuple #[.agg #[.int .i64 Ex.zero.kind, .int .i64 Ex.zero.rn, .int .i64 Ex.zero.rd, .string Ex.zero.name, .int .i64 Ex.zero.pw, .slice Ex.zero.a Ex.zero.l.length Ex.zero.c], .int .i64 1]) (by simp [results, Try.results29, go_sem, s0, s1, s2, s3, s4, s5]) rfl ?_
    exact ⟨Ex.zero, rfl, HO.out _ _ (hst.2.2.2.2 w (K1.out.trans k2) (by omega)) (zero_made (by omega)) (.inr ⟨by decide, rfl⟩)⟩
  have H1 := Lib.hid h1
  rw [h1] at HV
  clear h1
  by_cases h2 : fs.length = ts.length
  rotate_left
  · have H2 := Lib.hid h2
    have h3 : ((fs.length : Int) != (ts.length : Int)) = true := by rw [bne_iff_ne]; omega
    clear h2 HN1 HN2 hmm
    go_wp2_with (first | (go_at_call 31; go_fit HV.out; rintro r w2 ⟨rfl, k2⟩; clear HV; obtain ⟨⟨z0, z1, z2, z3, z4, z5⟩, zf, _⟩ := HB2.out.kp k2; have g0 := zf 0; have g1 := zf 1; have g2 := zf 2; have g3 := zf 3; have g4 := zf 4; have g5 := zf 5) | fail)
    have hz : b0 = 1 := by rw [HR.out, if_neg (fun h => H2.out h.2.1)]
    subst hz
    generalize hW9 : ((((((w2.setCell _ _).setCell _ _).setCell _ _).setCell _ _).setCell _ _).setCell _ _) = W9
    have hb := HB2.out.kp k2
    have hst : Stored6 (w.heap.size + 1) 0 Ex.zero w2 W9 := stored60 Ex.zero hb hW9
    obtain ⟨⟨s0, s1, s2, s3, s4, s5⟩, _⟩ := hb.stored hst
    have hz := HZ.out
    have hz9 := hst.2.2.2.1
    have hkw := (K1.out.trans k2).size
    refine bodyPost_ret (v := .tuple #[.agg #[.int .i64 Ex.zero.kind, .int .i64 Ex.zero.rn, .int .i64 Ex.zero.rd, .string Ex.zero.name, .int .i64 Ex.zero.pw, .slice Ex.zero.a Ex.zero.l.length Ex.zero.c], .int .i64 1]) (by simp [results, Try.results29, go_sem, s0, s1, s2, s3, s4, s5]) rfl ?_
    exact ⟨Ex.zero, rfl, HO.out _ _ (hst.2.2.2.2 w (K1.out.trans k2) (by omega)) (zero_made (by omega)) (.inr ⟨by decide, rfl⟩)⟩
  have H2 := Lib.hid h2
  rw [← h2] at HN2 ⊢
  clear h2 htl
  by_cases h3 : fs.length ≤ 200
  rotate_left
  · have H3 := Lib.hid h3
    have h4 : (200 : Int) < (fs.length : Int) := by omega
    clear h3 HN1 HN2 hmm
    go_wp2_with (first | (go_at_call 31; go_fit HV.out; rintro r w2 ⟨rfl, k2⟩; clear HV; obtain ⟨⟨z0, z1, z2, z3, z4, z5⟩, zf, _⟩ := HB2.out.kp k2; have g0 := zf 0; have g1 := zf 1; have g2 := zf 2; have g3 := zf 3; have g4 := zf 4; have g5 := zf 5) | fail)
    have hz : b0 = 1 := by rw [HR.out, if_neg (fun h => H3.out h.2.2.1)]
    subst hz
    generalize hW9 : ((((((w2.setCell _ _).setCell _ _).setCell _ _).setCell _ _).setCell _ _).setCell _ _) = W9
    have hb := HB2.out.kp k2
    have hst : Stored6 (w.heap.size + 1) 0 Ex.zero w2 W9 := stored60 Ex.zero hb hW9
    obtain ⟨⟨s0, s1, s2, s3, s4, s5⟩, _⟩ := hb.stored hst
    have hz := HZ.out
    have hz9 := hst.2.2.2.1
    have hkw := (K1.out.trans k2).size
    refine bodyPost_ret (v := .tuple #[.agg #[.int .i64 Ex.zero.kind, .int .i64 Ex.zero.rn, .int .i64 Ex.zero.rd, .string Ex.zero.name, .int .i64 Ex.zero.pw, .slice Ex.zero.a Ex.zero.l.length Ex.zero.c], .int .i64 1]) (by simp [results, Try.results29, go_sem, s0, s1, s2, s3, s4, s5]) rfl ?_
    exact ⟨Ex.zero, rfl, HO.out _ _ (hst.2.2.2.2 w (K1.out.trans k2) (by omega)) (zero_made (by omega)) (.inr ⟨by decide, rfl⟩)⟩
  have H3 := Lib.hid h3
  have h4 : ¬ (200 : Int) < (fs.length : Int) := by omega
  clear h3
  rcases Bool.eq_false_or_eq_true (fs.all nameB) with h5 | h5
  rotate_left
  · rw [h5] at HN1
    have H5 := Lib.hid h5
    clear h5 HN2 hmm
    go_wp2_with (first | (go_at_call 31; go_fit HV.out; rintro r w2 ⟨rfl, k2⟩; clear HV) | (go_at_call 50; go_fit (HN1.out _ k2); rintro r w3 ⟨rfl, k3⟩; clear HN1; have kk := k2.trans k3; obtain ⟨⟨z0, z1, z2, z3, z4, z5⟩, zf, _⟩ := HB2.out.kp kk; have g0 := zf 0; have g1 := zf 1; have g2 := zf 2; have g3 := zf 3; have g4 := zf 4; have g5 := zf 5) | fail)
    have hz : b0 = 1 := by rw [HR.out, if_neg (fun h => by rw [H5.out] at h; exact absurd h.2.2.2.1 (by decide))]
    subst hz
    generalize hW9 : ((((((w3.setCell _ _).setCell _ _).setCell _ _).setCell _ _).setCell _ _).setCell _ _) = W9
    have hb := HB2.out.kp kk
    have hst : Stored6 (w.heap.size + 1) 0 Ex.zero w3 W9 := stored60 Ex.zero hb hW9
    obtain ⟨⟨s0, s1, s2, s3, s4, s5⟩, _⟩ := hb.stored hst
    have hz := HZ.out
    have hz9 := hst.2.2.2.1
    have hkw := (K1.out.trans kk).size
    refine bodyPost_ret (v := .tuple #[.agg #[.int .i64 Ex.zero.kind, .int .i64 Ex.zero.rn, .int .i64 Ex.zero.rd, .string Ex.zero.name, .int .i64 Ex.zero.pw, .slice Ex.zero.a Ex.zero.l.length Ex.zero.c], .int .i64 1]) (by simp [results, Try.results29, go_sem, s0, s1, s2, s3, s4, s5]) rfl ?_
    exact ⟨Ex.zero, rfl, HO.out _ _ (hst.2.2.2.2 w (K1.out.trans kk) (by omega)) (zero_made (by omega)) (.inr ⟨by decide, rfl⟩)⟩
  have H5 := Lib.hid h5
  rw [h5] at HN1
  clear h5
  rcases Bool.eq_false_or_eq_true (ts.all nameB) with h6 | h6
  rotate_left
  · rw [h6] at HN2
    have H6 := Lib.hid h6
    clear h6 hmm
    go_wp2_with (first | (go_at_call 31; go_fit HV.out; rintro r w2 ⟨rfl, k2⟩; clear HV) | (go_at_call 50; go_fit (HN1.out _ k2); rintro r w3 ⟨rfl, k3⟩; clear HN1; have kk := k2.trans k3) | (go_at_call 50; go_fit (HN2.out _ kk); rintro r w4 ⟨rfl, k4⟩; clear HN2; have kz := kk.trans k4; obtain ⟨⟨z0, z1, z2, z3, z4, z5⟩, zf, _⟩ := HB2.out.kp kz; have g0 := zf 0; have g1 := zf 1; have g2 := zf 2; have g3 := zf 3; have g4 := zf 4; have g5 := zf 5) | fail)
    have hz : b0 = 1 := by rw [HR.out, if_neg (fun h => by rw [H6.out] at h; exact absurd h.2.2.2.2.1 (by decide))]
    subst hz
    generalize hW9 : ((((((w4.setCell _ _).setCell _ _).setCell _ _).setCell _ _).setCell _ _).setCell _ _) = W9
    have hb := HB2.out.kp kz
    have hst : Stored6 (w.heap.size + 1) 0 Ex.zero w4 W9 := stored60 Ex.zero hb hW9
    obtain ⟨⟨s0, s1, s2, s3, s4, s5⟩, _⟩ := hb.stored hst
    have hz := HZ.out
    have hz9 := hst.2.2.2.1
    have hkw := (K1.out.trans kz).size
    refine bodyPost_ret (v := .tuple #[.agg #[.int .i64 Ex.zero.kind, .int .i64 Ex.zero.rn, .int .i64 Ex.zero.rd, .string Ex.zero.name, .int .i64 Ex.zero.pw, .slice Ex.zero.a Ex.zero.l.length Ex.zero.c], .int .i64 1]) (by simp [results, Try.results29, go_sem, s0, s1, s2, s3, s4, s5]) rfl ?_
    exact ⟨Ex.zero, rfl, HO.out _ _ (hst.2.2.2.2 w (K1.out.trans kz) (by omega)) (zero_made (by omega)) (.inr ⟨by decide, rfl⟩)⟩
  have H6 := Lib.hid h6
  rw [h6] at HN2
  clear h6
  go_upto_region 4 with (first | (go_at_call 31; go_fit HV.out; rintro r w2 ⟨rfl, k2⟩; clear HV) | (go_at_call 50; go_fit (HN1.out _ k2); rintro r w3 ⟨rfl, k3⟩; clear HN1; have kk := k2.trans k3) | (go_at_call 50; go_fit (HN2.out _ kk); rintro r w4 ⟨rfl, k4⟩; clear HN2; have kz := kk.trans k4) | fail)
  have HB1 := Lib.hid (HB1.out.kp kz)
  have HB2 := Lib.hid (HB2.out.kp kz)
  have HZ := Lib.hid (show w.heap.size + 2 ≤ w4.heap.size by have := HZ.out; have := kz.size; omega)
  have HA := Lib.hid (Ex.at_kp HA.out kz)
  have HFS := Lib.hid (HFS.out.kp kz)
  have HTS := Lib.hid (HTS.out.kp kz)
  have K4 := Lib.hid (K1.out.trans kz)
  have hBW4 : B ≤ w4.heap.size := Nat.le_trans hBW kz.size
  clear k2 k3 kk k4 kz q0 q1 q2 q3 q4 q5 hBW K1
  have HM := Lib.hid (MapX.made w4)
  have k5 : Kp w4 (w4.alloc (.map #[] 0)) := (Kp.refl w4).alloc _
  have HK5 := Lib.hid k5
  clear k5
  go_wp2
  go_loopw [42] (fun x wr => ∃ k : Nat, k ≤ fs.length ∧ x = .int .i64 k ∧ (MapX wr w4.heap.size k (renM ((fs.zip ts).take k)) ∧ (fs.take k).Nodup) ∧ Kp w4 wr) (fun x _ => fs.length - (intOf x).toNat)
  case atStart => exact ⟨0, by omega, rfl, ⟨HM.out, by rw [List.take_zero]; exact List.nodup_nil⟩, HK5.out⟩
  case round =>
    obtain ⟨k, hk, rfl, ⟨hmp, hnd⟩, hkp⟩ := hrel
    have HMP := Lib.hid hmp
    have HND := Lib.hid hnd
    have HKP := Lib.hid hkp
    clear hmp hnd hkp HM HK5
    by_cases hlt : k < fs.length
    · obtain ⟨s, hs⟩ : ∃ s, fs[k]? = some s := ⟨_, List.getElem?_eq_getElem hlt⟩
      obtain ⟨t, ht⟩ : ∃ t, ts[k]? = some t := ⟨_, List.getElem?_eq_getElem (by have := H2.out; omega)⟩
      obtain ⟨fb, fo, rfl, hf0⟩ := HFS.out.kp HKP.out k s hs
      obtain ⟨tb, tof, rfl, ht0⟩ := HTS.out k t ht
      have hsz := HFZ.out s (List.mem_of_getElem? hs)
      have htz := HTZ.out t (List.mem_of_getElem? ht)
      have Hs := Lib.hid hs
      have Ht := Lib.hid ht
      clear hs ht
      rcases Bool.eq_false_or_eq_true (renM ((fs.zip ts).take k) s).isSome with ho | ho
      · have HO1 := Lib.hid ho
        obtain ⟨⟨z0, z1, z2, z3, z4, z5⟩, zf, _⟩ := HB2.out.kp (HKP.out.alloc (.cells #[.int .i64 ((renM ((fs.zip ts).take k) s).getD Ex.zero).kind, .int .i64 ((renM ((fs.zip ts).take k) s).getD Ex.zero).rn, .int .i64 ((renM ((fs.zip ts).take k) s).getD Ex.zero).rd, .string ((renM ((fs.zip ts).take k) s).getD Ex.zero).name, .int .i64 ((renM ((fs.zip ts).take k) s).getD Ex.zero).pw, .slice ((renM ((fs.zip ts).take k) s).getD Ex.zero).a ((renM ((fs.zip ts).take k) s).getD Ex.zero).l.length ((renM ((fs.zip ts).take k) s).getD Ex.zero).c] 26))
        have g0 := zf 0
        have g1 := zf 1
        have g2 := zf 2
        have g3 := zf 3
        have g4 := zf 4
        have g5 := zf 5
        clear ho
        obtain ⟨y, hy⟩ : ∃ y, (renM ((fs.zip ts).take k) s).getD Ex.zero = y := ⟨_, rfl⟩
        rw [hy] at z0 z1 z2 z3 z4 z5 g0 g1 g2 g3 g4 g5
        have HY := Lib.hid hy
        clear hy zf
        have kk := HKP.out.alloc (.cells #[.int .i64 y.kind, .int .i64 y.rn, .int .i64 y.rd, .string y.name, .int .i64 y.pw, .slice y.a y.l.length y.c] 26)
        have KK := Lib.hid kk
        clear kk
        go_wp2_with (first | (at_lookup; refine wpList_lookup_map rfl _ _ rfl w4.heap.size k _ rfl HMP.out s rfl hsz y true HO1.out HY.out ?_) | fail)
        have hz : b0 = 1 := by rw [HR.out, if_neg (fun h => dup_take Hs.out (by rw [← zip_fst_take (k := k) H2.out]; exact (renM_some _ _).1 HO1.out) h.2.2.2.2.2)]
        subst hz
        generalize hW9 : (((((((wr.alloc _).setCell _ _).setCell _ _).setCell _ _).setCell _ _).setCell _ _).setCell _ _) = W9
        have hb := HB2.out.kp KK.out
        have hst : Stored6 (w.heap.size + 1) 0 Ex.zero (wr.alloc _) W9 := stored60 Ex.zero hb hW9
        obtain ⟨⟨s0, s1, s2, s3, s4, s5⟩, _⟩ := hb.stored hst
        have hz := HZ.out
        have hz9 := hst.2.2.2.1
        have hkw := (K4.out.trans KK.out).size
        refine bodyPost_ret (v := .tuple #[.agg #[.int .i64 Ex.zero.kind, .int .i64 Ex.zero.rn, .int .i64 Ex.zero.rd, .string Ex.zero.name, .int .i64 Ex.zero.pw, .slice Ex.zero.a Ex.zero.l.length Ex.zero.c], .int .i64 1]) (by simp [results, Try.results29, go_sem, s0, s1, s2, s3, s4, s5]) rfl ?_
        exact ⟨Ex.zero, rfl, HO.out _ _ (hst.2.2.2.2 w (K4.out.trans KK.out) (by omega)) (zero_made (by omega)) (.inr ⟨by decide, rfl⟩)⟩
      · have HO1 := Lib.hid ho
        have HY := Lib.hid (show (renM ((fs.zip ts).take k) s).getD Ex.zero = Ex.zero by
          cases hq : renM ((fs.zip ts).take k) s with
          | none => rfl
          | some z => rw [hq] at ho; cases ho)
        have ka : Kp wr (wr.alloc (.cells #[.int .i64 Ex.zero.kind, .int .i64 Ex.zero.rn, .int .i64 Ex.zero.rd, .string Ex.zero.name, .int .i64 Ex.zero.pw, .slice Ex.zero.a Ex.zero.l.length Ex.zero.c] 26)) := (Kp.refl wr).alloc _
        have HMA := Lib.hid (HMP.out.kp ka)
        have KA := Lib.hid ka
        have hta := (HKP.out.trans ka).cell ht0
        clear ho ka ht0
        go_wp2_with (first
          | (at_lookup; refine wpList_lookup_map rfl _ _ rfl w4.heap.size k _ rfl HMP.out s rfl hsz Ex.zero false HO1.out HY.out ?_)
          | (at_mapUpdate; refine wpList_store_map rfl _ _ _ rfl w4.heap.size k _ rfl HMA.out (by unfold maxLen; omega) s rfl hsz (varE t) rfl ?_; intro w6 hm6 ht6)
          | fail)
        go_roundw
        case rel =>
          refine ⟨k + 1, by omega, by go_num, ⟨?_, nodup_take Hs.out HND.out fun hm => ?_⟩, ht6.kp w4 (HKP.out.trans KA.out) (Nat.le_refl _)⟩
          · rw [zip_take Hs.out Ht.out, renM_snoc]; exact hm6
          · have := (renM_some ((fs.zip ts).take k) s).2 (by rw [zip_fst_take H2.out]; exact hm)
            rw [HO1.out] at this; cases this
        case measure => simp [intOf]; omega
    · obtain rfl : k = fs.length := by omega
      have hzt : (fs.zip ts).take fs.length = fs.zip ts := List.take_of_length_le (by rw [List.length_zip]; omega)
      have HMP := Lib.hid (show MapX wr w4.heap.size fs.length (renM (fs.zip ts)) by have := HMP.out; rw [hzt] at this; exact this)
      have HND := Lib.hid (show fs.Nodup by have := HND.out; rw [List.take_length] at this; exact this)
      have HCh := Lib.hid (change_any e B w4.heap.size fs.length (renM (fs.zip ts)) wr (Ex.at_kp HA.out HKP.out) (Nat.le_trans hBW4 HKP.out.size) HMP.out (fun n x hx => by
        obtain ⟨t, ht, rfl⟩ := renM_var hx
        exact varE_at (HTZ.out t (by
          obtain ⟨q, hq, rfl⟩ := List.mem_map.1 ht
          exact (List.of_mem_zip hq).2))))
      have hz : b0 = 0 := by rw [HR.out, if_pos ⟨H1.out, H2.out, H3.out, H5.out, H6.out, HND.out⟩]
      subst hz
      obtain ⟨⟨q0, q1, q2, q3, q4, q5⟩, _⟩ := HB1.out.kp HKP.out
      clear hzt
      go_wp2_with (first
        | (go_at_call 39; go_fit HCh.out; rintro r w6 ⟨x, rfl, hx, k6, hm⟩; obtain ⟨⟨z0, z1, z2, z3, z4, z5⟩, zf, _⟩ := HB2.out.kp (HKP.out.trans k6); have g0 := zf 0; have g1 := zf 1; have g2 := zf 2; have g3 := zf 3; have g4 := zf 4; have g5 := zf 5)
        | fail)
      generalize hW9 : ((((((w6.setCell _ _).setCell _ _).setCell _ _).setCell _ _).setCell _ _).setCell _ _) = W9
      have hb := HB2.out.kp (HKP.out.trans k6)
      have hst : Stored6 (w.heap.size + 1) 0 x w6 W9 := stored60 x hb hW9
      obtain ⟨⟨s0, s1, s2, s3, s4, s5⟩, _⟩ := hb.stored hst
      have hz := HZ.out
      have hz9 := hst.2.2.2.1
      have hkw := HKP.out.size
      refine bodyPost_ret (v := .tuple #[.agg #[.int .i64 x.kind, .int .i64 x.rn, .int .i64 x.rd, .string x.name, .int .i64 x.pw, .slice x.a x.l.length x.c], .int .i64 0]) (by simp [results, Try.results29, go_sem, s0, s1, s2, s3, s4, s5]) rfl ?_
      refine ⟨x, rfl, HO.out _ _ (hst.2.2.2.2 w (K4.out.trans (HKP.out.trans k6)) (by omega)) ?_ (.inl ⟨by first | rfl | trivial, hx⟩)⟩
      refine Ex.made_from (w1 := wr) ⟨?_, ?_⟩ (by omega)
      · exact Ex.at_own' (by rw [hz9]; exact Nat.le_refl _) x _ _ hm.2 (fun b i v hb _ hc => by rw [hst.2.1 ⟨b, i, none⟩ (.inl (by show b ≠ w.heap.size + 1; omega))]; exact hc) hm.1
      · rw [hz9]
        exact Ex.own_same _ _ _ (fun b i _ _ => hst.2.2.1 _) hm.2
end Go.Proofs.Ythaphbbeiglolaa
