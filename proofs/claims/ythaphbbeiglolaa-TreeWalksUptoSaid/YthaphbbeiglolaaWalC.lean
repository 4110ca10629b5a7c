/-
  Walks: tree.Walk and the function that it returns.
-/
import Derived.Test.YthaphbbeiglolaaWalN
namespace Go.Proofs.Ythaphbbeiglolaa
open Go.RowKit Go.Sort Go.Shelf
attribute [local go_sem] Oper.semAt_some

theorem Ex.er_flat : ∀ e : Ex, e.er.flat = e.flat.map Ex.er := by
  refine Ex.ind fun e ih => ?_
  rw [Ex.flat_eq, e.flat_eq, Ex.er_l, List.map_cons]
  congr 1
  have key : ∀ l : List Ex, (∀ x ∈ l, x.er.flat = x.flat.map Ex.er) → Ex.flatL (l.map Ex.er) = (Ex.flatL l).map Ex.er := by
    intro l
    induction l with
    | nil => intro _; rw [List.map_nil, Ex.flatL_nil]; rfl
    | cons x t iht => intro h; rw [List.map_cons, Ex.flatL_cons, Ex.flatL_cons, List.map_append, h x (.head _), iht fun y hy => h y (.tail _ hy)]
  exact key e.l ih
theorem flat_er {x y : Ex} (h : x.er = y.er) : x.flat.map Ex.er = y.flat.map Ex.er := by rw [← x.er_flat, ← y.er_flat, h]
/-- the nodes that Walk yields, without addresses -/
def flatE (e : Ex) : List Ex := if e.ok = true then e.flat.map Ex.er else []
theorem flatE_len {e : Ex} (h : e.ok = true) : (flatE e).length = e.size := by unfold flatE; rw [if_pos h, List.length_map, e.flat_len]
theorem ok_size {e : Ex} (h : e.ok = true) : e.size ≤ 200 := by
  unfold Ex.ok at h
  simp only [Bool.and_eq_true, decide_eq_true_eq] at h
  exact h.2.2
theorem flatE_le (e : Ex) : (flatE e).length ≤ 200 := by
  by_cases h : e.ok = true
  · rw [flatE_len h]; exact ok_size h
  · unfold flatE; rw [if_neg h]; exact Nat.zero_le _
theorem roomW {F : Fence} (hd : F.depth = none) (k : Nat) : F.room k := fun d h => by rw [hd] at h; cases h
theorem yieldAny {m : Nat} (m' : Nat) {P : Program} {l : Nat} {args : Array Value} {W : World} {R : Ending → World → Prop} (h : YieldAt Fence.wide m P l args W R) : YieldAt Fence.wide m' P l args W R := by
  obtain ⟨fn, tmps, assign, body, hy, hR⟩ := h
  exact ⟨fn, tmps, assign, body, hy, hR.1, fun c cs _ => hR.2 c cs (roomW rfl _)⟩
theorem safe_clone {T : Turf} {W w2 w3 : World} {e e' : Ex} (hG : T.G W) (k2 : Kp W w2) (k3 : Kp w2 w3) (he : e'.er = e.er) (hm : e'.made w2 w3) : ∃ M, Safe T M w3 ∧ e'.inM M ∧ ([] : List Ex).length + e'.size ≤ e.size := by
  have hs0 : Safe T (fun _ => False) w2 := ⟨(T.kp _ _ hG k2).1, fun _ h => h.elim, fun _ h => h.elim⟩
  refine ⟨_, hs0.add k3 (fun k => w2.heap.size ≤ k ∧ CellsAt w3 k) (fun _ h => h), Ex.inM_mono (fun _ h => Or.inr h) e' (inM_own e' _ _ hm.2 hm.1), ?_⟩
  rw [← e'.er_size, he, e.er_size, List.length_nil]
  omega
set_option maxHeartbeats 2000000 in
set_option maxRecDepth 20000 in
theorem walkc_stops (n : Nat) (e : Ex) (eb B : Nat) (w : World) (T : Turf) (hG : T.G w) (hat : e.at w B) (hB : B ≤ w.heap.size) (hb : BoxX w eb e) :
    SeqStopsK Fence.wide n Try.prog 43 #[.pointer (some ⟨eb, 0, none⟩)] (fun x : Ex => #[.agg #[.int .i64 x.kind, .int .i64 x.rn, .int .i64 x.rd, .string x.name, .int .i64 x.pw, .slice x.a x.l.length x.c]]) (KpT T) (fun xs => xs.map Ex.er = flatE e) (fun pre => pre.map Ex.er <+: flatE e) (flatE e).length w := fun l J Jx W hW hJ hJx hY h0 => by
  refine callsIn_wide.2 ?_
  show Calls Try.prog 43 #[.func (.yield l) #[] #[], .pointer (some ⟨eb, 0, none⟩)] W _
  have kW : Kp w W := hW
  have hat1 := Ex.at_kp hat kW
  have hB1 := Nat.le_trans hB kW.size
  have hbW := hb.kp kW
  have HGW := Lib.hid (T.kp w W hG kW).1
  have HV := Lib.hid (tvalid_any e B W hat1 hB1)
  have HC := Lib.hid fun W' (k : Kp W W') => clone_anyT e B W' (Ex.at_kp hat1 k) (Nat.le_trans hB1 k.size)
  have HF := Lib.hid (show flatE e = _ from rfl)
  have HJ := Lib.hid hJ
  have H0 := Lib.hid h0
  have HB := Lib.hid hbW
  obtain ⟨⟨q0, q1, q2, q3, q4, q5⟩, _⟩ := hbW
  have HY := Lib.hid hY
  clear hY hJx hJ h0 hat1 hat hb hG kW hW
  rcases Bool.eq_false_or_eq_true e.ok with h1 | h1
  · rw [h1] at HV
    have H1 := Lib.hid h1
    have HWk := Lib.hid (walk_any n l e.size W.heap.size T J Jx HJ.out fun m pre x W1 hj hl => yieldAny m (HY.out pre x W1 hj (by rw [flatE_len h1]; exact hl)))
    clear h1 HY
    go_enter Try.func43, Try.ntmps43
    go_wp2_with (first
      | (go_at_call 31; go_fit HV.out; rintro r w2 ⟨rfl, k2⟩; obtain ⟨⟨t0, t1, t2, t3, t4, t5⟩, _⟩ := HB.out.kp k2)
      | (go_at_call 45; go_loud (go_fit (HC.out _ k2); rintro r w3 ⟨e', rfl, he, k3, hm⟩; obtain ⟨M, hs, hin, hsz⟩ := safe_clone HGW.out k2 k3 he hm))
      | (go_at_call 44; go_fit (HWk.out e' [] w3 M _ hm.1 hin hs (abides_kp HJ.out H0.out (k2.trans k3)) (hsz)); rintro r w4 (⟨rfl, g1, g2⟩ | ⟨rfl, q, g1, g2⟩))
      | fail)
    · go_end0
      exact ⟨⟨_, rfl⟩, .inl ⟨e'.flat, by unfold flatE; rw [if_pos H1.out]; exact flat_er he, by simpa using g1⟩⟩
    · go_end0
      refine ⟨⟨_, rfl⟩, .inr ⟨q, ?_, by simpa using g2⟩⟩
      unfold flatE
      rw [if_pos H1.out, ← flat_er he]
      exact g1.map Ex.er
  · rw [h1] at HV
    have H1 := Lib.hid h1
    clear h1 HC HY
    go_enter Try.func43, Try.ntmps43
    go_wp2_with (go_at_call 31; go_fit HV.out; rintro r w2 ⟨rfl, k2⟩)
    go_end0
    exact ⟨⟨_, rfl⟩, .inl ⟨[], by unfold flatE; rw [if_neg (by rw [H1.out]; decide)]; rfl, abides_kp HJ.out H0.out k2⟩⟩
set_option maxHeartbeats 1000000 in
theorem twalk_any (e : Ex) (w : World) : Calls Try.prog 17 #[.agg #[.int .i64 e.kind, .int .i64 e.rn, .int .i64 e.rd, .string e.name, .int .i64 e.pw, .slice e.a e.l.length e.c]] w fun r w' => r = .returned (.func (.func 43) #[] #[.pointer (some ⟨w.heap.size, 0, none⟩)]) ∧ w' = w.alloc (.cells #[.int .i64 e.kind, .int .i64 e.rn, .int .i64 e.rd, .string e.name, .int .i64 e.pw, .slice e.a e.l.length e.c] 26) := by
  go_enter Try.func17, Try.ntmps17
  go_wp2_with fail
  go_ret
  exact ⟨rfl, rfl⟩
end Go.Proofs.Ythaphbbeiglolaa
