/-
  Walks: slices.Equal at declarations; ref13.sameDecls.
-/
import Derived.Deep.QuietTactic
import Derived.BigQuiet
import Derived.Test.YthaphbbeiglolaaGreatMEqwN
namespace Go.Proofs.YthaphbbeiglolaaGreat
open Go.RowKit Go.Sort

theorem deq_eq {x y : De} (h : deqB x y = true) : x = y := by
  unfold deqB at h
  simp only [Bool.and_eq_true, decide_eq_true_eq] at h
  cases x; cases y
  simp_all
theorem deq_ne {x y : De} (h : deqB x y = false) : x.name ≠ y.name ∨ (x.name = y.name ∧ (x.ln ≠ y.ln ∨ (x.ln = y.ln ∧ (x.ld ≠ y.ld ∨ (x.ld = y.ld ∧ (x.hn ≠ y.hn ∨ (x.hn = y.hn ∧ x.hd ≠ y.hd))))))) := by
  unfold deqB at h
  by_cases h1 : x.name = y.name
  · refine .inr ⟨h1, ?_⟩
    by_cases h2 : x.ln = y.ln
    · refine .inr ⟨h2, ?_⟩
      by_cases h3 : x.ld = y.ld
      · refine .inr ⟨h3, ?_⟩
        by_cases h4 : x.hn = y.hn
        · refine .inr ⟨h4, fun h5 => ?_⟩
          rw [decide_eq_true h1, decide_eq_true h2, decide_eq_true h3, decide_eq_true h4, decide_eq_true h5] at h
          cases h
        · exact .inl h4
      · exact .inl h3
    · exact .inl h2
  · exact .inl h1
-- GEN
set_option maxHeartbeats 4000000 in
theorem sdecls_any (a a' : Option Addr) (zs ys : List De) (c d B : Nat) (w : World) (hm : zs.length ≤ 1100000) (_hm2 : ys.length ≤ 1100000) (h : RowV De.cells 5 w B a zs) (h' : RowV De.cells 5 w B a' ys) :
    Calls Tryz.prog 43 #[.slice a zs.length c, .slice a' ys.length d] w fun e w' => e = .returned (.bool (allW deqB zs ys)) ∧ Kp w w' := by
  obtain ⟨b0, hb0⟩ : ∃ b0, allW deqB zs ys = b0 := ⟨_, rfl⟩
  rw [hb0]
  have HB := Lib.hid hb0
  have HR := Lib.hid h
  have HR' := Lib.hid h'
  clear h h' hb0
  by_cases hlen : zs.length = ys.length
  · go_enter Tryz.func43, Tryz.ntmps43
    have Hlen := Lib.hid hlen
    have hle : ((zs.length : Int) == (ys.length : Int)) = true := by rw [hlen]; exact beq_self_eq_true _
    generalize hn : zs.length = n at *
    generalize hn' : ys.length = n' at *
    have Hn := Lib.hid hn
    have Hn' := Lib.hid hn'
    clear hlen hn hn'
    go_wp2
    go_loopw [5] (fun x wr => ∃ k : Nat, k ≤ n ∧ x = .int .i64 k ∧ (∀ (i : Nat) (x y : De), zs[i]? = some x → ys[i]? = some y → i < k → deqB x y = true) ∧ Kp w wr) (fun x _ => n - (intOf x).toNat)
    case atStart => exact ⟨0, by omega, rfl, fun i x y _ _ h1 => by omega, .refl _⟩
    case round =>
      obtain ⟨k, hk, rfl, hz, hkp⟩ := hrel
      have Hz := Lib.hid hz; clear hz
      by_cases hlt : k < n
      · have hlt2 : k < n' := by have := Hlen.out; omega
        obtain ⟨x, hx⟩ : ∃ x, zs[k]? = some x := ⟨_, List.getElem?_eq_getElem (by rw [Hn.out]; exact hlt)⟩
        obtain ⟨y, hy⟩ : ∃ y, ys[k]? = some y := ⟨_, List.getElem?_eq_getElem (by rw [Hn'.out]; exact hlt2)⟩
        obtain ⟨b, o, rfl, _, h0⟩ := (HR.out.kp hkp) k x hx
        obtain ⟨b2, o2, rfl, _, j0⟩ := (HR'.out.kp hkp) k y hy
        have Hg := Lib.hid hx
        have Hg2 := Lib.hid hy
        have Hkp := Lib.hid hkp
        have q0 : wr.cell? ⟨b, o + k * 5, none⟩ = some (.string x.name) := h0 0 _ rfl; have q1 : wr.cell? ⟨b, o + k * 5 + 1, none⟩ = some (.int .i64 x.ln) := h0 1 _ rfl; have q2 : wr.cell? ⟨b, o + k * 5 + 2, none⟩ = some (.int .i64 x.ld) := h0 2 _ rfl; have q3 : wr.cell? ⟨b, o + k * 5 + 3, none⟩ = some (.int .i64 x.hn) := h0 3 _ rfl; have q4 : wr.cell? ⟨b, o + k * 5 + 4, none⟩ = some (.int .i64 x.hd) := h0 4 _ rfl
        have s0 : wr.cell? ⟨b2, o2 + k * 5, none⟩ = some (.string y.name) := j0 0 _ rfl; have s1 : wr.cell? ⟨b2, o2 + k * 5 + 1, none⟩ = some (.int .i64 y.ln) := j0 1 _ rfl; have s2 : wr.cell? ⟨b2, o2 + k * 5 + 2, none⟩ = some (.int .i64 y.ld) := j0 2 _ rfl; have s3 : wr.cell? ⟨b2, o2 + k * 5 + 3, none⟩ = some (.int .i64 y.hn) := j0 3 _ rfl; have s4 : wr.cell? ⟨b2, o2 + k * 5 + 4, none⟩ = some (.int .i64 y.hd) := j0 4 _ rfl
        clear h0 j0 hx hy hkp
        cases hq : deqB x y with
        | true =>
          have hxy := deq_eq hq
          subst hxy
          have Hq := Lib.hid hq
          clear hq
          go_upto_region 4 with fail
          go_quiet (fail)
          go_wp2
          go_roundw
          case rel =>
            refine ⟨k + 1, by omega, by go_num, fun i x' y' hx hy hi => ?_, Hkp.out.trans ((Kp.refl wr).drewN _)⟩
            by_cases h : i = k
            · subst h; rw [Hg.out] at hx; rw [Hg2.out] at hy; cases hx; cases hy; exact Hq.out
            · exact Hz.out i x' y' hx hy (by omega)
          case measure => simp [intOf]; omega
        | false =>
          have Ha := Lib.hid (allW_false Hg.out Hg2.out hq)
          have hne := deq_ne hq
          clear hq
          rcases hne with e1 | ⟨e1, e2 | ⟨e2, e3 | ⟨e3, e4 | ⟨e4, e5⟩⟩⟩⟩
          · have f := strNe e1
            clear e1
            go_upto_region 4 with fail
            go_quiet (fail)
            go_wp2
            go_ret
            exact ⟨ret_bool (by rw [← HB.out, Ha.out]), Hkp.out.trans ((Kp.refl wr).drewN _)⟩
          · rw [← e1] at s0; have f : (x.ln == y.ln) = false := beq_eq_false_iff_ne.2 e2
            clear e1 e2
            go_upto_region 4 with fail
            go_quiet (fail)
            go_wp2
            go_ret
            exact ⟨ret_bool (by rw [← HB.out, Ha.out]), Hkp.out.trans ((Kp.refl wr).drewN _)⟩
          · rw [← e1] at s0; rw [← e2] at s1; have f : (x.ld == y.ld) = false := beq_eq_false_iff_ne.2 e3
            clear e1 e2 e3
            go_upto_region 4 with fail
            go_quiet (fail)
            go_wp2
            go_ret
            exact ⟨ret_bool (by rw [← HB.out, Ha.out]), Hkp.out.trans ((Kp.refl wr).drewN _)⟩
          · rw [← e1] at s0; rw [← e2] at s1; rw [← e3] at s2; have f : (x.hn == y.hn) = false := beq_eq_false_iff_ne.2 e4
            clear e1 e2 e3 e4
            go_upto_region 4 with fail
            go_quiet (fail)
            go_wp2
            go_ret
            exact ⟨ret_bool (by rw [← HB.out, Ha.out]), Hkp.out.trans ((Kp.refl wr).drewN _)⟩
          · rw [← e1] at s0; rw [← e2] at s1; rw [← e3] at s2; rw [← e4] at s3; have f : (x.hd == y.hd) = false := beq_eq_false_iff_ne.2 e5
            clear e1 e2 e3 e4 e5
            go_upto_region 4 with fail
            go_quiet (fail)
            go_wp2
            go_ret
            exact ⟨ret_bool (by rw [← HB.out, Ha.out]), Hkp.out.trans ((Kp.refl wr).drewN _)⟩
      · have Ha := Lib.hid (allW_true.2 ⟨Hn.out.trans (Hlen.out.trans Hn'.out.symm), fun i x y hx hy => Hz.out i x y hx hy (by have := (List.getElem?_eq_some_iff.1 hx).1; have := Hn.out; omega)⟩)
        have Hkp := Lib.hid hkp
        clear hkp
        go_wp2
        go_ret
        exact ⟨ret_bool (by rw [← HB.out, Ha.out]), Hkp.out⟩
  · have hle : ((zs.length : Int) == (ys.length : Int)) = false := beq_eq_false_iff_ne.2 (by omega)
    have Ha := Lib.hid (allW_len (p := deqB) hlen)
    clear hlen
    go_enter Tryz.func43, Tryz.ntmps43
    go_wp2
    go_loopw [5] (fun x wr => x = .int .i64 0 ∧ wr = w) (fun _ _ => 0)
    case atStart => exact ⟨rfl, rfl⟩
    case round =>
      obtain ⟨rfl, rfl⟩ := hrel
      by_cases h0 : 0 < zs.length
      · go_wp2
        go_ret
        exact ⟨ret_bool (by rw [← HB.out, Ha.out]), .refl _⟩
      · go_wp2
        go_ret
        exact ⟨ret_bool (by rw [← HB.out, Ha.out]), .refl _⟩
set_option maxHeartbeats 4000000 in
theorem eqdec_any (a a' : Option Addr) (zs ys : List De) (c d B : Nat) (w : World) (hm : zs.length ≤ 1100000) (_hm2 : ys.length ≤ 1100000) (h : RowV De.cells 5 w B a zs) (h' : RowV De.cells 5 w B a' ys) :
    Calls Tryz.prog 37 #[.slice a zs.length c, .slice a' ys.length d] w fun e w' => e = .returned (.bool (allW deqB zs ys)) ∧ Kp w w' := by
  obtain ⟨b0, hb0⟩ : ∃ b0, allW deqB zs ys = b0 := ⟨_, rfl⟩
  rw [hb0]
  have HB := Lib.hid hb0
  have HR := Lib.hid h
  have HR' := Lib.hid h'
  clear h h' hb0
  by_cases hlen : zs.length = ys.length
  · go_enter Tryz.func37, Tryz.ntmps37
    have Hlen := Lib.hid hlen
    have hle : ((zs.length : Int) != (ys.length : Int)) = false := by rw [hlen]; simp
    generalize hn : zs.length = n at *
    generalize hn' : ys.length = n' at *
    have Hn := Lib.hid hn
    have Hn' := Lib.hid hn'
    clear hlen hn hn'
    go_wp2
    go_loopw [13] (fun x wr => ∃ k : Nat, k ≤ n ∧ x = .int .i64 k ∧ (∀ (i : Nat) (x y : De), zs[i]? = some x → ys[i]? = some y → i < k → deqB x y = true) ∧ Kp w wr) (fun x _ => n - (intOf x).toNat)
    case atStart => exact ⟨0, by omega, rfl, fun i x y _ _ h1 => by omega, .refl _⟩
    case round =>
      obtain ⟨k, hk, rfl, hz, hkp⟩ := hrel
      have Hz := Lib.hid hz; clear hz
      by_cases hlt : k < n
      · have hlt2 : k < n' := by have := Hlen.out; omega
        obtain ⟨x, hx⟩ : ∃ x, zs[k]? = some x := ⟨_, List.getElem?_eq_getElem (by rw [Hn.out]; exact hlt)⟩
        obtain ⟨y, hy⟩ : ∃ y, ys[k]? = some y := ⟨_, List.getElem?_eq_getElem (by rw [Hn'.out]; exact hlt2)⟩
        obtain ⟨b, o, rfl, _, h0⟩ := (HR.out.kp hkp) k x hx
        obtain ⟨b2, o2, rfl, _, j0⟩ := (HR'.out.kp hkp) k y hy
        have Hg := Lib.hid hx
        have Hg2 := Lib.hid hy
        have Hkp := Lib.hid hkp
        have q0 : wr.cell? ⟨b, o + k * 5, none⟩ = some (.string x.name) := h0 0 _ rfl; have q1 : wr.cell? ⟨b, o + k * 5 + 1, none⟩ = some (.int .i64 x.ln) := h0 1 _ rfl; have q2 : wr.cell? ⟨b, o + k * 5 + 2, none⟩ = some (.int .i64 x.ld) := h0 2 _ rfl; have q3 : wr.cell? ⟨b, o + k * 5 + 3, none⟩ = some (.int .i64 x.hn) := h0 3 _ rfl; have q4 : wr.cell? ⟨b, o + k * 5 + 4, none⟩ = some (.int .i64 x.hd) := h0 4 _ rfl
        have s0 : wr.cell? ⟨b2, o2 + k * 5, none⟩ = some (.string y.name) := j0 0 _ rfl; have s1 : wr.cell? ⟨b2, o2 + k * 5 + 1, none⟩ = some (.int .i64 y.ln) := j0 1 _ rfl; have s2 : wr.cell? ⟨b2, o2 + k * 5 + 2, none⟩ = some (.int .i64 y.ld) := j0 2 _ rfl; have s3 : wr.cell? ⟨b2, o2 + k * 5 + 3, none⟩ = some (.int .i64 y.hn) := j0 3 _ rfl; have s4 : wr.cell? ⟨b2, o2 + k * 5 + 4, none⟩ = some (.int .i64 y.hd) := j0 4 _ rfl
        clear h0 j0 hx hy hkp
        cases hq : deqB x y with
        | true =>
          have hxy := deq_eq hq
          subst hxy
          have Hq := Lib.hid hq
          clear hq
          go_upto_region 6 with fail
          go_quiet (fail)
          go_wp2
          go_roundw
          case rel =>
            refine ⟨k + 1, by omega, by go_num, fun i x' y' hx hy hi => ?_, Hkp.out.trans ((Kp.refl wr).drewN _)⟩
            by_cases h : i = k
            · subst h; rw [Hg.out] at hx; rw [Hg2.out] at hy; cases hx; cases hy; exact Hq.out
            · exact Hz.out i x' y' hx hy (by omega)
          case measure => simp [intOf]; omega
        | false =>
          have Ha := Lib.hid (allW_false Hg.out Hg2.out hq)
          have hne := deq_ne hq
          clear hq
          rcases hne with e1 | ⟨e1, e2 | ⟨e2, e3 | ⟨e3, e4 | ⟨e4, e5⟩⟩⟩⟩
          · have f := strNe e1
            clear e1
            go_upto_region 6 with fail
            go_quiet (fail)
            go_wp2
            go_ret
            exact ⟨ret_bool (by rw [← HB.out, Ha.out]), Hkp.out.trans ((Kp.refl wr).drewN _)⟩
          · rw [← e1] at s0; have f : (x.ln == y.ln) = false := beq_eq_false_iff_ne.2 e2
            clear e1 e2
            go_upto_region 6 with fail
            go_quiet (fail)
            go_wp2
            go_ret
            exact ⟨ret_bool (by rw [← HB.out, Ha.out]), Hkp.out.trans ((Kp.refl wr).drewN _)⟩
          · rw [← e1] at s0; rw [← e2] at s1; have f : (x.ld == y.ld) = false := beq_eq_false_iff_ne.2 e3
            clear e1 e2 e3
            go_upto_region 6 with fail
            go_quiet (fail)
            go_wp2
            go_ret
            exact ⟨ret_bool (by rw [← HB.out, Ha.out]), Hkp.out.trans ((Kp.refl wr).drewN _)⟩
          · rw [← e1] at s0; rw [← e2] at s1; rw [← e3] at s2; have f : (x.hn == y.hn) = false := beq_eq_false_iff_ne.2 e4
            clear e1 e2 e3 e4
            go_upto_region 6 with fail
            go_quiet (fail)
            go_wp2
            go_ret
            exact ⟨ret_bool (by rw [← HB.out, Ha.out]), Hkp.out.trans ((Kp.refl wr).drewN _)⟩
          · rw [← e1] at s0; rw [← e2] at s1; rw [← e3] at s2; rw [← e4] at s3; have f : (x.hd == y.hd) = false := beq_eq_false_iff_ne.2 e5
            clear e1 e2 e3 e4 e5
            go_upto_region 6 with fail
            go_quiet (fail)
            go_wp2
            go_ret
            exact ⟨ret_bool (by rw [← HB.out, Ha.out]), Hkp.out.trans ((Kp.refl wr).drewN _)⟩
      · have Ha := Lib.hid (allW_true.2 ⟨Hn.out.trans (Hlen.out.trans Hn'.out.symm), fun i x y hx hy => Hz.out i x y hx hy (by have := (List.getElem?_eq_some_iff.1 hx).1; have := Hn.out; omega)⟩)
        have Hkp := Lib.hid hkp
        clear hkp
        go_wp2
        go_ret
        exact ⟨ret_bool (by rw [← HB.out, Ha.out]), Hkp.out⟩
  · have hle : ((zs.length : Int) != (ys.length : Int)) = true := bne_iff_ne.2 (by omega)
    have Ha := Lib.hid (allW_len (p := deqB) hlen)
    clear hlen
    go_enter Tryz.func37, Tryz.ntmps37
    go_wp2
    go_ret
    exact ⟨ret_bool (by rw [← HB.out, Ha.out]), .refl _⟩
end Go.Proofs.YthaphbbeiglolaaGreat
