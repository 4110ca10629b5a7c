/-
  Walks: tree.walk.
-/
import Derived.Test.YthaphbbeiglolaaWalM
namespace Go.Proofs.Ythaphbbeiglolaa
open Go.RowKit Go.Sort Go.Shelf
attribute [local go_sem] Oper.semAt_some

/-- what a walk through a part of a tree leaves -/
def WalkOut (T : Turf) (M : Nat → Prop) (J Jx : List Ex → World → Prop) (pre ys : List Ex) (W : World) (r : Ending) (W' : World) : Prop :=
  (r = .returned (.bool true) ∧ J (pre ++ ys) W' ∧ Grown T M W W') ∨ (r = .returned (.bool false) ∧ ∃ q, q <+: ys ∧ Jx (pre ++ q) W')
def WalkAt (l N _B0 : Nat) (T : Turf) (J Jx : List Ex → World → Prop) (e : Ex) : Prop :=
  ∀ (pre : List Ex) (W : World) (M : Nat → Prop) (B : Nat), e.at W B → e.inM M → Safe T M W → J pre W → pre.length + e.size ≤ N →
    Calls Try.prog 44 #[.agg #[.int .i64 e.kind, .int .i64 e.rn, .int .i64 e.rd, .string e.name, .int .i64 e.pw, .slice e.a e.l.length e.c], .func (.yield l) #[] #[]] W (WalkOut T M J Jx pre e.flat W)
set_option maxHeartbeats 2000000 in
set_option maxRecDepth 20000 in
theorem walk1_any (l N B0 : Nat) (T : Turf) (J Jx : List Ex → World → Prop) (hJ : AbidesFrom B0 J) (x : Ex) (hx : WalkAt l N B0 T J Jx x) (pre : List Ex) (W : World) (M : Nat → Prop) (B yb : Nat) (hat : x.at W B) (hin : x.inM M) (hs : Safe T M W) (h0 : J pre W) (hN : pre.length + x.size ≤ N)
    (hy : W.cell? ⟨yb, 0, none⟩ = some (.func (.yield l) #[] #[])) :
    Calls Try.prog 64 #[.agg #[.int .i64 x.kind, .int .i64 x.rn, .int .i64 x.rd, .string x.name, .int .i64 x.pw, .slice x.a x.l.length x.c], .pointer (some ⟨yb, 0, none⟩)] W (WalkOut T M J Jx pre x.flat W) := by
  have k1 : Kp W (W.alloc (.cells #[.int .i64 x.kind, .int .i64 x.rn, .int .i64 x.rd, .string x.name, .int .i64 x.pw, .slice x.a x.l.length x.c] 26)) := (Kp.refl W).alloc _
  have hS : ((W.alloc (.cells #[.int .i64 x.kind, .int .i64 x.rn, .int .i64 x.rd, .string x.name, .int .i64 x.pw, .slice x.a x.l.length x.c] 26)).cell? ⟨W.heap.size, 0, none⟩ = some (.int .i64 x.kind) ∧ (W.alloc (.cells #[.int .i64 x.kind, .int .i64 x.rn, .int .i64 x.rd, .string x.name, .int .i64 x.pw, .slice x.a x.l.length x.c] 26)).cell? ⟨W.heap.size, 1, none⟩ = some (.int .i64 x.rn) ∧ (W.alloc (.cells #[.int .i64 x.kind, .int .i64 x.rn, .int .i64 x.rd, .string x.name, .int .i64 x.pw, .slice x.a x.l.length x.c] 26)).cell? ⟨W.heap.size, 2, none⟩ = some (.int .i64 x.rd) ∧ (W.alloc (.cells #[.int .i64 x.kind, .int .i64 x.rn, .int .i64 x.rd, .string x.name, .int .i64 x.pw, .slice x.a x.l.length x.c] 26)).cell? ⟨W.heap.size, 3, none⟩ = some (.string x.name) ∧ (W.alloc (.cells #[.int .i64 x.kind, .int .i64 x.rn, .int .i64 x.rd, .string x.name, .int .i64 x.pw, .slice x.a x.l.length x.c] 26)).cell? ⟨W.heap.size, 4, none⟩ = some (.int .i64 x.pw) ∧ (W.alloc (.cells #[.int .i64 x.kind, .int .i64 x.rn, .int .i64 x.rd, .string x.name, .int .i64 x.pw, .slice x.a x.l.length x.c] 26)).cell? ⟨W.heap.size, 5, none⟩ = some (.slice x.a x.l.length x.c)) := by simp
  go_enter Try.func64, Try.ntmps64
  go_upto_region 1 with fail
  generalize W.alloc _ = V at *
  have HW := Lib.hid (hx pre V M B (Ex.at_kp hat k1) hin (hs.kp k1).1 (abides_kp hJ h0 k1) hN)
  have HG := Lib.hid (hs.kp k1)
  have y1 := k1.cell hy
  clear hx hat hin hs h0 k1 hy hJ
  obtain ⟨q0, q1, q2, q3, q4, q5⟩ := hS
  go_wp2_with (go_at_call 44; go_fit HW.out; rintro r w2 (⟨rfl, h1, h2⟩ | ⟨rfl, h1⟩))
  · go_ret
    exact .inl ⟨rfl, h1, HG.out.trans h2⟩
  · go_ret
    exact .inr ⟨rfl, h1⟩
theorem flatL_take {l : List Ex} {k : Nat} {x : Ex} (hx : l[k]? = some x) : Ex.flatL (l.take (k + 1)) = Ex.flatL (l.take k) ++ x.flat := by
  rw [List.take_add_one, hx]
  have key : ∀ t : List Ex, Ex.flatL (t ++ [x]) = Ex.flatL t ++ x.flat := by
    intro t
    induction t with
    | nil => rw [List.nil_append, Ex.flatL_cons, Ex.flatL_nil, List.append_nil, List.nil_append]
    | cons y t ih => rw [List.cons_append, Ex.flatL_cons, Ex.flatL_cons, ih, List.append_assoc]
  exact key _
theorem flatL_split {l : List Ex} {k : Nat} {x : Ex} (hx : l[k]? = some x) : Ex.flatL l = Ex.flatL (l.take k) ++ (x.flat ++ Ex.flatL (l.drop (k + 1))) := by
  have key : ∀ (t u : List Ex), Ex.flatL (t ++ u) = Ex.flatL t ++ Ex.flatL u := by
    intro t u
    induction t with
    | nil => rw [List.nil_append, Ex.flatL_nil, List.nil_append]
    | cons y t ih => rw [List.cons_append, Ex.flatL_cons, Ex.flatL_cons, ih, List.append_assoc]
  obtain ⟨hk, hx⟩ := List.getElem?_eq_some_iff.1 hx
  conv => lhs; rw [← List.take_append_drop k l, List.drop_eq_getElem_cons hk, hx]
  rw [key, Ex.flatL_cons]
/-- every, at a node's elements, behind the node's own round -/
theorem every_walk (l N B0 : Nat) (T : Turf) (J Jx : List Ex → World → Prop) (e : Ex) (pre : List Ex) (W1 w2 : World) (M : Nat → Prop) (B b0 : Nat) (hat : e.at W1 B) (hin : e.inM M)
    (hM1 : Safe T (fun j => M j ∨ (j = b0 ∨ j = b0 + 1)) W1) (hN : pre.length + e.size ≤ N) (hY1 : W1.cell? ⟨b0 + 1, 0, none⟩ = some (.func (.yield l) #[] #[])) (hJ : AbidesFrom B0 J)
    (ih : ∀ x ∈ e.l, WalkAt l N B0 T J Jx x) (hj2 : J (pre ++ [e]) w2) (hk2 : KpT T W1 w2) :
    Calls Try.prog 63 #[.slice e.a e.l.length e.c, .func (.func 64) #[] #[.pointer (some ⟨b0 + 1, 0, none⟩)]] w2 fun r W' =>
      (r = .returned (.bool true) ∧ J (pre ++ e.flat) W' ∧ Grown T M W1 W') ∨ (r = .returned (.bool false) ∧ ∃ q, q <+: e.flat ∧ Jx (pre ++ q) W') := by
  obtain ⟨⟨_, _, _, hl⟩, hrow, hch⟩ := Ex.at_iff.1 hat
  obtain ⟨hin1, hin2⟩ := Ex.inM_iff.1 hin
  have g12 := hk2 _ hM1
  refine every_any e.a e.l e.c 64 #[.pointer (some ⟨b0 + 1, 0, none⟩)] w2 _ (by omega) fun W3 sb k3 hsb hbox => ?_
  have hcb : CellsAt W3 sb := ⟨_, _, _, hbox⟩
  have hM3 : Safe T (fun j => (M j ∨ (j = b0 ∨ j = b0 + 1)) ∨ j = sb) W3 := g12.1.add k3 (fun j => j = sb) fun j hj => by subst hj; exact ⟨hsb, hcb⟩
  have g13 : Grown T (fun j => M j ∨ (j = b0 ∨ j = b0 + 1)) W1 W3 := g12.trans (g12.1.kp k3)
  have hJ3 : J (pre ++ [e]) W3 := abides_kp hJ hj2 k3
  refine ⟨B, fun k W => J (pre ++ [e] ++ Ex.flatL (e.l.take k)) W ∧ Grown T (fun j => (M j ∨ (j = b0 ∨ j = b0 + 1)) ∨ j = sb) W3 W, fun k W => ∃ q, q <+: e.flat ∧ Jx (pre ++ q) W,
    ⟨by rw [List.take_zero, Ex.flatL_nil, List.append_nil]; exact hJ3, .refl hM3⟩, fun k W h => ⟨?_, ?_⟩, fun k W W' h k' => ⟨abides_kp hJ h.1 k', h.2.trans (h.2.1.kp k')⟩, ⟨fun _ _ => by kernel_rfl, fun k x hx W h => ?_⟩, fun W h => .inl ⟨rfl, ?_, ?_⟩, fun k W h => .inr ⟨rfl, h⟩⟩
  · refine rowX_same hrow (hin1.imp id fun ⟨b, e1, hb⟩ => ⟨b, e1, ?_⟩)
    exact (h.2.2 b (.inl (.inl hb))).trans (g13.2 b (.inl hb))
  · rw [cell_same (h.2.2 sb (.inr rfl)) 0]
    simp [World.cell?, hbox]
  · have hxm := List.mem_of_getElem? hx
    have hsp := flatL_split hx
    have hlen : (Ex.flatL (e.l.take k)).length + x.size ≤ Ex.sizeL e.l := by
      have h1 := flatL_len (l := e.l) fun y _ => y.flat_len
      rw [hsp, List.length_append, List.length_append, x.flat_len] at h1
      omega
    have hsame : ∀ j, M j → W.heap[j]? = W1.heap[j]? := fun j hj => (h.2.2 j (.inl (.inl hj))).trans (g13.2 j (.inl hj))
    have hy : W.cell? ⟨b0 + 1, 0, none⟩ = some (.func (.yield l) #[] #[]) := by
      rw [cell_same ((h.2.2 (b0 + 1) (.inl (.inr (.inr rfl)))).trans (g13.2 (b0 + 1) (.inr (.inr rfl)))) 0]; exact hY1
    refine (walk1_any l N B0 T J Jx hJ x (ih x hxm) (pre ++ [e] ++ Ex.flatL (e.l.take k)) W (fun j => (M j ∨ (j = b0 ∨ j = b0 + 1)) ∨ j = sb) B (b0 + 1) (Ex.at_inM hsame x (hin2 x hxm) (hch x hxm)) (Ex.inM_mono (fun j hj => .inl (.inl hj)) x (hin2 x hxm)) h.2.1 h.1 ?_ hy).mono ?_
    · have := e.size_eq
      simp only [List.length_append, List.length_cons, List.length_nil]
      omega
    · rintro r W' (⟨rfl, h1, h2⟩ | ⟨rfl, q, hq, h1⟩)
      · refine .inl ⟨rfl, ?_, h.2.trans h2⟩
        rw [flatL_take hx, ← List.append_assoc]; exact h1
      · refine .inr ⟨rfl, [e] ++ Ex.flatL (e.l.take k) ++ q, ?_, by simpa [List.append_assoc] using h1⟩
        obtain ⟨t, ht⟩ := hq
        refine ⟨t ++ Ex.flatL (e.l.drop (k + 1)), ?_⟩
        rw [e.flat_eq, hsp, ← ht]
        simp
  · have h1 := h.1
    rw [List.take_length] at h1
    rw [e.flat_eq]
    simpa [List.append_assoc] using h1
  · exact (g13.mono fun j hj => .inl hj).trans (h.2.mono fun j hj => .inl (.inl hj))
set_option maxHeartbeats 4000000 in
set_option maxRecDepth 20000 in
theorem walk_any (n l N B0 : Nat) (T : Turf) (J Jx : List Ex → World → Prop) (hJ : AbidesFrom B0 J)
    (hY : ∀ m pre x W, J pre W → pre.length < N → YieldAt Fence.wide m Try.prog l #[.agg #[.int .i64 x.kind, .int .i64 x.rn, .int .i64 x.rd, .string x.name, .int .i64 x.pw, .slice x.a x.l.length x.c]] W fun e W' => (e = .returned (.bool true) ∧ J (pre ++ [x]) W' ∧ KpT T W W') ∨ (e = .returned (.bool false) ∧ Jx (pre ++ [x]) W')) :
    ∀ e : Ex, WalkAt l N B0 T J Jx e := by
  refine Ex.ind fun e ih pre w M B hat hin hsafe h0 hN => ?_
  have k1 : Kp w ((w.alloc (.cells #[.int .i64 e.kind, .int .i64 e.rn, .int .i64 e.rd, .string e.name, .int .i64 e.pw, .slice e.a e.l.length e.c] 26)).alloc (.cells #[.func (.yield l) #[] #[]] 31)) := ((Kp.refl w).alloc _).alloc _
  have hB1 : BoxX ((w.alloc (.cells #[.int .i64 e.kind, .int .i64 e.rn, .int .i64 e.rd, .string e.name, .int .i64 e.pw, .slice e.a e.l.length e.c] 26)).alloc (.cells #[.func (.yield l) #[] #[]] 31)) w.heap.size e := (BoxX.new w e _ rfl).kp ((Kp.refl _).alloc _)
  have hY1 : ((w.alloc (.cells #[.int .i64 e.kind, .int .i64 e.rn, .int .i64 e.rd, .string e.name, .int .i64 e.pw, .slice e.a e.l.length e.c] 26)).alloc (.cells #[.func (.yield l) #[] #[]] 31)).cell? ⟨w.heap.size + 1, 0, none⟩ = some (.func (.yield l) #[] #[]) := new_cell _ _ _ _ (by simp)
  have hdd : ∀ k : Nat, (Fence.wide.depth.isSome = true → 1 ≤ k) := fun k h => by cases h
  refine (callsIn_wide (n := n)).1 ?_
  refine callsIn_of_wp Try.func44 rfl trivial ?_ rfl
  simp only [Try.ntmps44, List.size_toArray, List.length_cons, List.length_nil, Nat.reduceAdd, Nat.reduceSub, Array.replicate_succ, Array.replicate_zero, List.push_toArray, List.append_toArray, List.nil_append, List.cons_append]
  generalize hW1 : (w.alloc (.cells #[.int .i64 e.kind, .int .i64 e.rn, .int .i64 e.rd, .string e.name, .int .i64 e.pw, .slice e.a e.l.length e.c] 26)).alloc (.cells #[.func (.yield l) #[] #[]] 31) = W1 at *
  obtain ⟨fn, tmps, assign, body, hy, hR⟩ := hY (n - 1) pre e W1 (abides_kp hJ h0 k1) (by have := e.size_pos; omega)
  have HS1 := Lib.hid (hsafe.kp k1)
  have HM1 := Lib.hid (hsafe.add k1 (fun j => j = w.heap.size ∨ j = w.heap.size + 1) (fun j hj => hj.elim (fun h => by subst h; exact ⟨Nat.le_refl _, cellsAt_of hB1.1.1⟩) (fun h => by subst h; exact ⟨by omega, cellsAt_of hY1⟩)))
  have HA := Lib.hid (Ex.at_kp hat k1)
  have HIN := Lib.hid hin
  have HI := Lib.hid ih
  have HJ := Lib.hid hJ
  have HN := Lib.hid hN
  have HB1 := Lib.hid hB1
  have HY1 := Lib.hid hY1
  obtain ⟨⟨q0, q1, q2, q3, q4, q5⟩, _⟩ := hB1
  clear hsafe hat hin ih hJ h0 hN hY k1
  have HE := Lib.hid fun (w2 : World) (hj2 : J (pre ++ [e]) w2) (hk2 : KpT T W1 w2) => every_walk l N B0 T J Jx e pre W1 w2 M B w.heap.size HA.out HIN.out HM1.out HN.out HY1.out HJ.out HI.out hj2 hk2
  subst hW1
  gi_wp2_with (first
    | ((try refine ⟨hdd _, ?_⟩); refine hR.mono ?_; clear hR; rintro r w2 (⟨rfl, hj2, hk2⟩ | ⟨rfl, hx2⟩) <;> (try have q52 := (cell_same ((hk2 _ HM1.out).2 _ (.inr (.inl rfl))) 5).trans q5))
    | fail)
  · refine ⟨trivial, hdd _, ?_⟩
    refine (callsIn_wide.2 (HE.out _ hj2 hk2)).mono ?_
    rintro r w3 (⟨rfl, h1, h2⟩ | ⟨rfl, h1⟩)
    · gi_wp2
      go_ret
      exact .inl ⟨rfl, h1, HS1.out.trans h2⟩
    · gi_wp2
      go_ret
      exact .inr ⟨rfl, h1⟩
  · refine ⟨trivial, ?_⟩
    gi_wp2
    go_ret
    exact .inr ⟨rfl, [e], by rw [Ex.flat_eq]; exact ⟨_, rfl⟩, hx2⟩
end Go.Proofs.Ythaphbbeiglolaa
