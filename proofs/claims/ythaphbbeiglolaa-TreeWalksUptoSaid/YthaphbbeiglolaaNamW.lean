/-
  Walks: tree.Names.
-/
import Derived.Test.YthaphbbeiglolaaNamX
namespace Go.Proofs.Ythaphbbeiglolaa
open Go.RowKit Go.Sort Go.Shelf
attribute [local go_sem] Oper.semAt_some

set_option maxHeartbeats 4000000 in
set_option maxRecDepth 20000 in
theorem tnames_any (e : Ex) (B : Nat) (w : World) (hat : e.at w B) (hB : B ≤ w.heap.size) : Calls Try.prog 20 #[.agg #[.int .i64 e.kind, .int .i64 e.rn, .int .i64 e.rd, .string e.name, .int .i64 e.pw, .slice e.a e.l.length e.c]] w fun r w' => ∃ v, r = .returned v ∧ OwnS w' w.heap.size v ((namO e).map (·.data.toList)) ∧ Kp w w' := by
  have k1 : Kp w ((w.alloc (.cells #[.int .i64 e.kind, .int .i64 e.rn, .int .i64 e.rd, .string e.name, .int .i64 e.pw, .slice e.a e.l.length e.c] 26)).alloc (.cells #[.slice none 0 0] 34)) := ((Kp.refl w).alloc _).alloc _
  have hB1 : BoxX ((w.alloc (.cells #[.int .i64 e.kind, .int .i64 e.rn, .int .i64 e.rd, .string e.name, .int .i64 e.pw, .slice e.a e.l.length e.c] 26)).alloc (.cells #[.slice none 0 0] 34)) w.heap.size e := (BoxX.new w e _ rfl).kp ((Kp.refl _).alloc _)
  have hn : Boxed ((w.alloc (.cells #[.int .i64 e.kind, .int .i64 e.rn, .int .i64 e.rd, .string e.name, .int .i64 e.pw, .slice e.a e.l.length e.c] 26)).alloc (.cells #[.slice none 0 0] 34)) (w.heap.size + 1) 34 (.slice none 0 0) := by
    have := Boxed.new (w.alloc (.cells #[.int .i64 e.kind, .int .i64 e.rn, .int .i64 e.rd, .string e.name, .int .i64 e.pw, .slice e.a e.l.length e.c] 26)) 34 (.slice none 0 0)
    rwa [World.size_alloc] at this
  have k3 := (Kp.refl ((w.alloc (.cells #[.int .i64 e.kind, .int .i64 e.rn, .int .i64 e.rd, .string e.name, .int .i64 e.pw, .slice e.a e.l.length e.c] 26)).alloc (.cells #[.slice none 0 0] 34))).alloc (.cells #[.int .i64 e.kind, .int .i64 e.rn, .int .i64 e.rd, .string e.name, .int .i64 e.pw, .slice e.a e.l.length e.c] 26)
  obtain ⟨i0, hi, hz0, hz1, hz2⟩ := info_parts infoStr
  refine (callsIn_wide (n := 3)).1 ?_
  refine callsIn_of_wp_marks Try.func20 rfl trivial ?_ rfl
  simp only [Try.ntmps20, List.size_toArray, List.length_cons, List.length_nil, Nat.reduceAdd, Nat.reduceSub, Array.replicate_succ, Array.replicate_zero, List.push_toArray, List.append_toArray, List.nil_append, List.cons_append]
  have HB := Lib.hid hB1
  obtain ⟨⟨q0, q1, q2, q3, q4, q5⟩, _⟩ := hB1
  gi_wp2_with (refine ⟨trivial, ?_⟩; gi_at_call 17; refine (callsIn_wide.2 (twalk_any e _)).mono ?_; rintro r w' ⟨rfl, rfl⟩)
  have k2 := k1.trans k3
  have hb2 : BoxX (((w.alloc (.cells #[.int .i64 e.kind, .int .i64 e.rn, .int .i64 e.rd, .string e.name, .int .i64 e.pw, .slice e.a e.l.length e.c] 26)).alloc (.cells #[.slice none 0 0] 34)).alloc (.cells #[.int .i64 e.kind, .int .i64 e.rn, .int .i64 e.rd, .string e.name, .int .i64 e.pw, .slice e.a e.l.length e.c] 26)) (w.heap.size + 1 + 1) e := BoxX.new _ e _ (by simp)
  have hn2 := hn.alloc (.cells #[.int .i64 e.kind, .int .i64 e.rn, .int .i64 e.rd, .string e.name, .int .i64 e.pw, .slice e.a e.l.length e.c] 26)
  have hz : (((w.alloc (.cells #[.int .i64 e.kind, .int .i64 e.rn, .int .i64 e.rd, .string e.name, .int .i64 e.pw, .slice e.a e.l.length e.c] 26)).alloc (.cells #[.slice none 0 0] 34)).alloc (.cells #[.int .i64 e.kind, .int .i64 e.rn, .int .i64 e.rd, .string e.name, .int .i64 e.pw, .slice e.a e.l.length e.c] 26)).heap.size = w.heap.size + 3 := by simp
  clear q0 q1 q2 q3 q4 q5 hn k1 HB k3
  generalize (((w.alloc (.cells #[.int .i64 e.kind, .int .i64 e.rn, .int .i64 e.rd, .string e.name, .int .i64 e.pw, .slice e.a e.l.length e.c] 26)).alloc (.cells #[.slice none 0 0] 34)).alloc (.cells #[.int .i64 e.kind, .int .i64 e.rn, .int .i64 e.rd, .string e.name, .int .i64 e.pw, .slice e.a e.l.length e.c] 26)) = W0 at *
  refine wpIn_rangeFunc_ownH rfl (by omega) (gf := 43) (lb := #[.pointer (some ⟨w.heap.size + 1 + 1, 0, none⟩)]) rfl trivial (enters_of Try.func43 (by kernel_rfl) rfl)
    (walkc_stops (3 - 1) e (w.heap.size + 1 + 1) B W0 (tSlice (w.heap.size + 1)) ⟨boxed_cellsAt hn2, fun g n c hc => by rw [hn2.cell] at hc; cases hc⟩ (Ex.at_kp hat k2) (Nat.le_trans hB k2.size) hb2)
    KpT.trans (fun W l o o' _ hl ho _ => kpT_put W l o o' hl ho) (Below.refl _ _) (fun _ => rfl)
    (fun pre W => (∃ v, Boxed W (w.heap.size + 1) 34 v ∧ W.ownsRow w.heap.size 9 1 v (nmL pre).length ((nmL pre).map encStr) ∧ True) ∧ Below w.heap.size w W)
    (fun _ _ _ => False)
    (OwnFrom.and (Own.from (holdsRow_own w.heap.size (w.heap.size + 1) 34 9 1 (fun pre => (nmL pre).length) (fun pre => (nmL pre).map encStr) (fun _ _ => True)) _) (ownFrom_below (Nat.le_refl _) (by omega)))
    (fun _ _ _ _ _ hs _ _ => hs)
    ⟨⟨_, hn2, World.ownsRow_nil _ _ _ _, trivial⟩, k2⟩
    (fun x a' W => ∃ Bx, w.heap.size + 1 < Bx ∧ BoxX W Bx x ∧ a' = { tmps := #[.agg #[.int .i64 e.kind, .int .i64 e.rn, .int .i64 e.rd, .string e.name, .int .i64 e.pw, .slice e.a e.l.length e.c], .pointer (some ⟨w.heap.size, 0, none⟩), .slice none 0 0, .pointer (some ⟨w.heap.size + 1, 0, none⟩), .pointer (some ⟨Bx, 0, none⟩), .agg #[.int .i64 e.kind, .int .i64 e.rn, .int .i64 e.rd, .string e.name, .int .i64 e.pw, .slice e.a e.l.length e.c], .func (.func 43) #[] #[.pointer (some ⟨w.heap.size + 1 + 1, 0, none⟩)], .agg #[.int .i64 x.kind, .int .i64 x.rn, .int .i64 x.rd, .string x.name, .int .i64 x.pw, .slice x.a x.l.length x.c], undef, undef, undef, undef, undef, undef, undef, undef, undef, undef, undef, undef], defers := [] })
    (fun x a' _ X Y row hs hg hr => by obtain ⟨Bx, h1, h2, h3⟩ := hs; exact ⟨Bx, h1, boxX_kept h2 hg (fun r e => (hr r e).2), h3⟩)
    ?assign ?body ?done ?stop
  case assign =>
    rintro l pre x W K ⟨⟨v, h1, h2, _⟩, hB1⟩ hK
    simp only [List.zip_toArray, List.zip_cons_cons, List.zip_nil_right, List.foldl_toArray', List.foldl_cons, List.foldl_nil]
    gi_wp2
    exact hK _ _ ((KeepsOthers.alloc _ _).from _) (Kp.kpT ((Kp.refl W).alloc _)) ⟨⟨v, h1.alloc _, h2.alloc _, trivial⟩, hB1.alloc hB1.size _⟩ ⟨W.heap.size, h1.lt, BoxX.new W x _ rfl, rfl⟩
  case body =>
    rintro l pre x a' W hl ⟨r, hr⟩ ⟨⟨v, h1, h2, _⟩, hB1⟩ ⟨Bx, hBx, ⟨⟨x0, x1, x2, x3, x4, x5⟩, _⟩, rfl⟩ hlt
    have hsn := nmL_snoc pre x
    have hc := h1.cell
    have hle := flatE_le e
    have hle2 := nmL_le pre
    by_cases hk : x.kind = 2
    · rw [if_pos hk] at hsn
      have hk2 : (x.kind == 2) = true := by rw [hk]; rfl
      clear hk
      gi_wp2_with (gi_at_builtin; refine wpListIn_append_own_at _ rfl _ _ 34 rfl w.heap.size 9 i0 (.string ⟨#[]⟩) 1 16 Try.underlying34 hi hz0 hz1 hz2 rfl (by decide) _ _ _ rfl (h2.alloc _) ⟨W.heap.size, 0, none⟩ 1 1 [.string x.name] rfl rfl (cell_one_new _ _ _) (by simp [Value.oneCell']) (by unfold maxLen; omega) (by omega) (by have := hB1.size; simp; omega) ?_; intro v' w1 hown' hgrow _ hat'; obtain ⟨g', cap', rfl⟩ := ownsRow_succ hown'; obtain ⟨hv1, hv2, hr2, hk2, hb2⟩ := h1.appended (by decide) h2 hB1.size (by omega) hown' hgrow; have hc1 := hv1.cell; have hf1 := hv1.frozen)
      refine ⟨hk2.from _, tSlice_append h1 h2 hown' hv2 hgrow hat', ⟨_, hv2, ?_, trivial⟩, hB1.trans hb2⟩
      rw [hsn]
      simpa using hr2
    · rw [if_neg hk, List.append_nil] at hsn
      have hk2 : (x.kind == 2) = false := beq_eq_false_iff_ne.2 hk
      clear hk
      gi_wp2
      exact ⟨KeepsFrom.refl _ _, (Kp.refl W).kpT, ⟨v, h1, by rw [hsn]; exact h2, trivial⟩, hB1⟩
  case done =>
    rintro D xs W hD hxs ⟨⟨v, h1, h2, _⟩, hB1⟩ hK
    have hnm : nmL xs = nmL (flatE e) := by rw [← hxs, nmL_er]
    rw [hnm] at h2
    have hle := nmL_le (flatE e)
    have hle2 := flatE_le e
    have hc := h1.cell
    have HS := Lib.hid (sortS_any w.heap.size v (nmL (flatE e)) W h2 (by omega))
    gi_wp2_with (refine ⟨trivial, ?_⟩; gi_at_call 47; refine (callsIn_wide.2 HS.out).mono ?_; rintro r w2 ⟨rfl, hg2, ho2⟩; have hv2 := h1.kept hg2 (h1.not_row (by decide) h2); have hc2 := hv2.cell)
    have ho3 := ho2
    have HC := Lib.hid (compS_any w.heap.size v ((nmL (flatE e)).mergeSort leB) w2 ho3 (by rw [(sortB_perm _).length_eq]; omega))
    have hlt2 : w.heap.size ≤ w2.heap.size := Nat.le_trans hB1.size hg2.size
    have hb2' := hB1.grown hg2 hB1.size (fun k hk => (h2.lt k hk).1)
    have hKD : w2.heap[D]? = some (.deferred (some [])) := (hg2.block D (Array.getElem?_eq_some_iff.1 hK).1 (fun e1 => by
      rcases h2.2 with ⟨rfl, _⟩ | ⟨g, cap, cur, rfl, _, hgb, _⟩
      · cases e1
      · simp only [Value.ownBlock, Option.some.injEq] at e1
        subst e1
        rw [hK] at hgb
        cases hgb)).trans hK
    refine ⟨trivial, ?_⟩
    refine (callsIn_wide.2 HC.out).mono ?_
    rintro r w3 ⟨v3, rfl, hg3, ho4⟩
    rw [namO_sort] at ho4
    have hKD3 : w3.heap[D]? = some (.deferred (some [])) := (hg3.block D (Array.getElem?_eq_some_iff.1 hKD).1 (fun e1 => by
      rcases ho3.2 with ⟨rfl, _⟩ | ⟨g, cap, cur, rfl, _, hgb, _⟩
      · cases e1
      · simp only [Value.ownBlock, Option.some.injEq] at e1
        subst e1
        rw [hKD] at hgb
        cases hgb)).trans hKD
    have hb3 := hb2'.grown hg3 hlt2 (fun k hk => (ho3.lt k hk).1)
    gi_wp2
    refine ⟨by simp, .inl ⟨_, _, rfl, run_takeDeferred hKD3, ?_⟩⟩
    exact ⟨_, results_tmp rfl _ _ _, v3, rfl, ownsRow_putObj ho4 _ hKD3 rfl, hb3.trans (belowK_b (w := w) (Nat.le_refl _) w3 D _ _ (by omega) hKD3 rfl rfl)⟩
  case stop =>
    rintro D c pre W _ _ h _
    exact h.elim
end Go.Proofs.Ythaphbbeiglolaa
