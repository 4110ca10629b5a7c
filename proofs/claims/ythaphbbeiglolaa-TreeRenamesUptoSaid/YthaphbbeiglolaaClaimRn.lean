/-
  TreeRenames returns true for every tree and every two lists of texts whose bulk together is at most the form's bound, and leaves them as they were.
-/
import Derived.Test.YthaphbbeiglolaaOpnT
import Derived.Test.YthaphbbeiglolaaLawRn
namespace Go.Proofs.Ythaphbbeiglolaa.treeRenames
open Go.ChangeShapes Go.WideShapes Go.ChangeAt Go.RowKit

set_option maxHeartbeats 2000000 in
set_option maxRecDepth 100000 in
/-- the contract, for every argument of the form's bulk -/
theorem contract (H : Type) (enc : TypeId × Value → H) (W : World) (base : Nat) (args : Array Value) (ds gs : List (DataW H)) (before : List MemPlace)
    (hval : ∀ (j : Nat) t v, Try.f8.params[j]? = some t → args[j]? = some v → Value.okWide Try.prog W .any base t v)
    (hW : DataW.Whole enc Try.prog Try.f8.params.toList Rows.treeRenamesSpec.vars false W args.toList ds gs before) (hk : Rows.uptoSmall H (ds ++ gs) = true) :
    Calls Try.prog 8 args W fun e W' => ∃ v, e = .returned v ∧ Rows.treeRenamesSpec.post enc Try.prog Try.f8 false true false false W args v W' := by
  have hW' := hW
  have hlt : ∀ p ∈ before, p.block < W.heap.size := fun p hp => hW'.lt p hp
  obtain ⟨p, q, hA0, hV, rfl, hfz, hnd⟩ := hW
  have hA : DataW.TrodAll enc Try.prog W 0 (fun _ => true) true Try.f8.params.toList args.toList ds p := hA0
  rw [Try.params8] at hA hval
  obtain ⟨v0, vs0, d0, ds0, p0, q0, hargs, rfl, rfl, h0, r0⟩ := trodAll_cons hA
  obtain ⟨v1, vs1, d1, ds1, p1, q1, rfl, rfl, rfl, h1, r1⟩ := trodAll_cons r0
  obtain ⟨v2, vs2, d2, ds2, p2, q2, rfl, rfl, rfl, h2, r2⟩ := trodAll_cons r1
  obtain ⟨rfl, rfl, rfl⟩ := trodAll_nil r2
  obtain rfl : args = #[v0, v1, v2] := by cases args; simp_all
  obtain ⟨rfl, rfl⟩ := trodVars_none hV
  obtain ⟨cs0, rfl, _⟩ := okWide_struct Try.underlying26 (hval 0 26 v0 rfl rfl)
  obtain ⟨a1, l1, c1, rfl⟩ := okWide_slice Try.underlying34 (hval 1 34 v1 rfl rfl)
  obtain ⟨a2, l2, c2, rfl⟩ := okWide_slice Try.underlying34 (hval 2 34 v2 rfl rfl)
  clear hA0 hA r0 r1
  have u0 : Rows.uptoBulk d0 ≤ 1048576 := bulk_bound hk (by simp)
  obtain ⟨f0, hf0⟩ := id h0
  have u1 : Rows.uptoBulk d1 ≤ 1048576 := bulk_bound hk (by simp)
  obtain ⟨f1, hf1⟩ := id h1
  have u2 : Rows.uptoBulk d2 ≤ 1048576 := bulk_bound hk (by simp)
  obtain ⟨f2, hf2⟩ := id h2
  obtain ⟨x0, e0, hx0⟩ := open_ex f0 f0 _ _ (Nat.le_refl _) hf0 u0
  obtain rfl : cs0 = #[.int .i64 x0.kind, .int .i64 x0.rn, .int .i64 x0.rd, .string x0.name, .int .i64 x0.pw, .slice x0.a x0.l.length x0.c] := by
    have e3 : cs0.toList = [.int .i64 x0.kind, .int .i64 x0.rn, .int .i64 x0.rd, .string x0.name, .int .i64 x0.pw, .slice x0.a x0.l.length x0.c] := e0
    rw [← Array.toList_inj]; exact e3
  obtain ⟨a1', z1, c1', e1, hz1, hl1, hm1⟩ := open_strs hf1 u1
  simp only [Value.cells, List.cons.injEq, and_true, Value.slice.injEq] at e1
  obtain ⟨rfl, rfl, rfl⟩ := e1
  obtain ⟨a2', z2, c2', e2, hz2, hl2, hm2⟩ := open_strs hf2 u2
  simp only [Value.cells, List.cons.injEq, and_true, Value.slice.injEq] at e2
  obtain ⟨rfl, rfl, rfl⟩ := e2
  refine (Renames_ok x0 z1 z2 a1 a2 c1 c2 W hx0 hz1 hz2 hl1 hl2 hm1 hm2).mono fun e W' ⟨he, hb⟩ => ?_
  subst he
  have hb : Below W.heap.size W W' := hb
  refine ⟨_, rfl, post_of_below (pa := p0 ++ (p1 ++ (p2 ++ []))) (pv := []) hW' (fun _ _ _ => trodAll_cons_mk (shut_bool Try.underlying4 _) trodAll_mk0) (fun sp hs => ?_) (fun _ _ => rfl) (by simp) hb (ok_one (by kernel_rfl) rfl (okWide_bool_mk Try.underlying4 _))⟩
  rw [Try.params8]
  exact trodAll_cons_mk (WideElems.Trod_stays laidOutSeat (by kernel_rfl) (of_decide_eq_true (by kernel_rfl)) h0 (fun x hx => hb.same (hlt x (by simp [hx]))) (fun x hx => hs x (by simp [hx])))
    (trodAll_cons_mk (WideElems.Trod_stays laidOutSeat (by kernel_rfl) (of_decide_eq_true (by kernel_rfl)) h1 (fun x hx => hb.same (hlt x (by simp [hx]))) (fun x hx => hs x (by simp [hx])))
    (trodAll_cons_mk (WideElems.Trod_stays laidOutSeat (by kernel_rfl) (of_decide_eq_true (by kernel_rfl)) h2 (fun x hx => hb.same (hlt x (by simp [hx]))) (fun x hx => hs x (by simp [hx])))
    trodAll_mk0))

set_option maxRecDepth 100000 in
theorem liftedUpto (os : Os) (started : os.Started) (H : Type) (enc : TypeId × Value → H) (F : Stop.Interp) :
    ReturnsInHanded {} Try.checked os 8 .any ((Rows.OpenSpec.upto Rows.treeRenamesSpec).pre6 enc Try.prog Try.f8 Rows.treeRenamesUptoRow.domain false) (((Rows.OpenSpec.upto Rows.treeRenamesSpec).at F).post enc Try.prog Try.f8 false true false false) := by
  refine returnsInHanded_of_cond (C := Try.checked) (s := Rows.OpenSpec.upto Rows.treeRenamesSpec) (k := Rows.uptoSmall) rfl ownKnobs started (by kernel_rfl) Try.func8
    (OpenSpec.witness (enc := enc) (C := Try.checked) (s := Rows.OpenSpec.upto Rows.treeRenamesSpec) (k := Rows.uptoSmall) rfl false ⟨#[], #[.agg #[.int .i64 0, .int .i64 0, .int .i64 0, .string ⟨#[]⟩, .int .i64 0, .slice none 0 0], .slice none 0 0, .slice none 0 0], []⟩ 8 (by kernel_rfl) (by kernel_rfl) (by kernel_rfl)
      (x := ([.agg [.lit (.int .i64 0), .agg [.lit (.int .i64 0), .lit (.int .i64 0)], .lit (.string []), .lit (.int .i64 0), .nil], .nil, .nil], [], [])) (by kernel_rfl) rfl (by kernel_rfl)) ?_
  intro W base args ds gs before hval hW _ hk _
  exact contract H enc W base args ds gs before hval hW hk

theorem saidUpto : Rows.TreeRenamesUptoSaid :=
  OpenClaim.holds_of_cond 8 Try.f8 rfl rfl rfl rfl rfl rfl rfl ⟨rfl, rfl, rfl, rfl, rfl⟩ rfl rfl rfl rfl rfl (by kernel_rfl) Try.func8 (by kernel_rfl)
    (of_decide_eq_true (by kernel_rfl)) (by unfold Func.isWrapper; first | (rw [if_pos (by decide +kernel)]; kernel_rfl) | (rw [if_neg (by decide +kernel)]; exact ⟨rfl, rfl⟩))
    (fun os started H enc _ F => liftedUpto os started H enc F)
#print axioms saidUpto
end Go.Proofs.Ythaphbbeiglolaa.treeRenames
