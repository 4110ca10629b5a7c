/-
  TreeWalks returns true for every tree and every number whose bulk together is at most the form's bound, and leaves them as they were.
-/
import Derived.Test.YthaphbbeiglolaaOpnT
import Derived.Test.YthaphbbeiglolaaLawWk
namespace Go.Proofs.Ythaphbbeiglolaa.treeWalks
open Go.ChangeShapes Go.WideShapes Go.ChangeAt Go.RowKit

theorem u8_bd {n : Int} (h : (Lit.int .u8 n).wf = true) : 0 ≤ n ∧ n < 256 := by
  simp [Lit.wf, IntKind.min, IntKind.max, IntKind.signed, IntKind.bits] at h
  omega
set_option maxHeartbeats 2000000 in
set_option maxRecDepth 100000 in
/-- the contract, for every argument of the form's bulk -/
theorem contract (H : Type) (enc : TypeId × Value → H) (W : World) (base : Nat) (args : Array Value) (ds gs : List (DataW H)) (before : List MemPlace)
    (hval : ∀ (j : Nat) t v, Try.f6.params[j]? = some t → args[j]? = some v → Value.okWide Try.prog W .any base t v)
    (hW : DataW.Whole enc Try.prog Try.f6.params.toList Rows.treeWalksSpec.vars false W args.toList ds gs before) (hk : Rows.uptoSmall H (ds ++ gs) = true) :
    Calls Try.prog 6 args W fun e W' => ∃ v, e = .returned v ∧ Rows.treeWalksSpec.post enc Try.prog Try.f6 false true false false W args v W' := by
  have hW' := hW
  have hlt : ∀ p ∈ before, p.block < W.heap.size := fun p hp => hW'.lt p hp
  obtain ⟨p, q, hA0, hV, rfl, hfz, hnd⟩ := hW
  have hA : DataW.TrodAll enc Try.prog W 0 (fun _ => true) true Try.f6.params.toList args.toList ds p := hA0
  rw [Try.params6] at hA hval
  obtain ⟨v0, vs0, d0, ds0, p0, q0, hargs, rfl, rfl, h0, r0⟩ := trodAll_cons hA
  obtain ⟨v1, vs1, d1, ds1, p1, q1, rfl, rfl, rfl, h1, r1⟩ := trodAll_cons r0
  obtain ⟨rfl, rfl, rfl⟩ := trodAll_nil r1
  obtain rfl : args = #[v0, v1] := by cases args; simp_all
  obtain ⟨rfl, rfl⟩ := trodVars_none hV
  obtain ⟨cs0, rfl, _⟩ := okWide_struct Try.underlying26 (hval 0 26 v0 rfl rfl)
  obtain ⟨n1, rfl⟩ := okWide_int Try.underlying5 (hval 1 5 v1 rfl rfl)
  clear hA0 hA r0
  have u0 : Rows.uptoBulk d0 ≤ 1048576 := bulk_bound hk (by simp)
  obtain ⟨f0, hf0⟩ := id h0
  have u1 : Rows.uptoBulk d1 ≤ 1048576 := bulk_bound hk (by simp)
  obtain ⟨f1, hf1⟩ := id h1
  obtain ⟨x0, e0, hx0⟩ := open_ex f0 f0 _ _ (Nat.le_refl _) hf0 u0
  obtain rfl : cs0 = #[.int .i64 x0.kind, .int .i64 x0.rn, .int .i64 x0.rd, .string x0.name, .int .i64 x0.pw, .slice x0.a x0.l.length x0.c] := by
    have e3 : cs0.toList = [.int .i64 x0.kind, .int .i64 x0.rn, .int .i64 x0.rd, .string x0.name, .int .i64 x0.pw, .slice x0.a x0.l.length x0.c] := e0
    rw [← Array.toList_inj]; exact e3
  obtain ⟨m1, hm1, rfl⟩ : ∃ m : Nat, m < 256 ∧ n1 = m := by
    obtain ⟨e, e2, _, hw⟩ := DataW.trod_int Try.underlying5 hf1
    simp only [Value.cells, List.cons.injEq, and_true, Value.int.injEq, true_and] at e2
    subst e2
    have := u8_bd hw
    exact ⟨n1.toNat, by omega, by omega⟩
  refine (Walks_ok x0 m1 W hx0 hm1).mono fun e W' ⟨he, hb⟩ => ?_
  subst he
  have hb : Below W.heap.size W W' := hb
  refine ⟨_, rfl, post_of_below (pa := p0 ++ (p1 ++ [])) (pv := []) hW' (fun _ _ _ => trodAll_cons_mk (shut_bool Try.underlying4 _) trodAll_mk0) (fun sp hs => ?_) (fun _ _ => rfl) (by simp) hb (ok_one (by kernel_rfl) rfl (okWide_bool_mk Try.underlying4 _))⟩
  rw [Try.params6]
  exact trodAll_cons_mk (WideElems.Trod_stays laidOutSeat (by kernel_rfl) (of_decide_eq_true (by kernel_rfl)) h0 (fun x hx => hb.same (hlt x (by simp [hx]))) (fun x hx => hs x (by simp [hx])))
    (trodAll_cons_mk (WideElems.Trod_stays laidOutSeat (by kernel_rfl) (of_decide_eq_true (by kernel_rfl)) h1 (fun x hx => hb.same (hlt x (by simp [hx]))) (fun x hx => hs x (by simp [hx])))
    trodAll_mk0)

set_option maxRecDepth 100000 in
theorem liftedUpto (os : Os) (started : os.Started) (H : Type) (enc : TypeId × Value → H) (F : Stop.Interp) :
    ReturnsInHanded {} Try.checked os 6 .any ((Rows.OpenSpec.upto Rows.treeWalksSpec).pre6 enc Try.prog Try.f6 Rows.treeWalksUptoRow.domain false) (((Rows.OpenSpec.upto Rows.treeWalksSpec).at F).post enc Try.prog Try.f6 false true false false) := by
  refine returnsInHanded_of_cond (C := Try.checked) (s := Rows.OpenSpec.upto Rows.treeWalksSpec) (k := Rows.uptoSmall) rfl ownKnobs started (by kernel_rfl) Try.func6
    (OpenSpec.witness (enc := enc) (C := Try.checked) (s := Rows.OpenSpec.upto Rows.treeWalksSpec) (k := Rows.uptoSmall) rfl false ⟨#[], #[.agg #[.int .i64 0, .int .i64 0, .int .i64 0, .string ⟨#[]⟩, .int .i64 0, .slice none 0 0], .int .u8 0], []⟩ 8 (by kernel_rfl) (by kernel_rfl) (by kernel_rfl)
      (x := ([.agg [.lit (.int .i64 0), .agg [.lit (.int .i64 0), .lit (.int .i64 0)], .lit (.string []), .lit (.int .i64 0), .nil], .lit (.int .u8 0)], [], [])) (by kernel_rfl) rfl (by kernel_rfl)) ?_
  intro W base args ds gs before hval hW _ hk _
  exact contract H enc W base args ds gs before hval hW hk

theorem saidUpto : Rows.TreeWalksUptoSaid :=
  OpenClaim.holds_of_cond 6 Try.f6 rfl rfl rfl rfl rfl rfl rfl ⟨rfl, rfl, rfl, rfl, rfl⟩ rfl rfl rfl rfl rfl (by kernel_rfl) Try.func6 (by kernel_rfl)
    (of_decide_eq_true (by kernel_rfl)) (by unfold Func.isWrapper; first | (rw [if_pos (by decide +kernel)]; kernel_rfl) | (rw [if_neg (by decide +kernel)]; exact ⟨rfl, rfl⟩))
    (fun os started H enc _ F => liftedUpto os started H enc F)
#print axioms saidUpto
end Go.Proofs.Ythaphbbeiglolaa.treeWalks
