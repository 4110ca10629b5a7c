/-
  TreeValid returns true for every tree and every problem whose bulk together is at most the form's bound, and leaves them as they were.
-/
import Derived.Test.YthaphbbeiglolaaGreatOpnP
import Derived.Test.YthaphbbeiglolaaGreatLawVa
namespace Go.Proofs.YthaphbbeiglolaaGreat.treeValid
open Go.ChangeShapes Go.WideShapes Go.ChangeAt Go.RowKit

set_option maxHeartbeats 2000000 in
set_option maxRecDepth 100000 in
/-- the contract, for every argument of the form's bulk -/
theorem contract (H : Type) (enc : TypeId × Value → H) (W : World) (base : Nat) (args : Array Value) (ds gs : List (DataW H)) (before : List MemPlace)
    (hval : ∀ (j : Nat) t v, Tryz.f3.params[j]? = some t → args[j]? = some v → Value.okWide Tryz.prog W .any base t v)
    (hW : DataW.Whole enc Tryz.prog Tryz.f3.params.toList Rows.treeValidSpec.vars false W args.toList ds gs before) (hk : Rows.uptoSmall H (ds ++ gs) = true) :
    Calls Tryz.prog 3 args W fun e W' => ∃ v, e = .returned v ∧ Rows.treeValidSpec.post enc Tryz.prog Tryz.f3 false true false false W args v W' := by
  have hW' := hW
  have hlt : ∀ p ∈ before, p.block < W.heap.size := fun p hp => hW'.lt p hp
  obtain ⟨p, q, hA0, hV, rfl, hfz, hnd⟩ := hW
  have hA : DataW.TrodAll enc Tryz.prog W 0 (fun _ => true) true Tryz.f3.params.toList args.toList ds p := hA0
  rw [Tryz.params3] at hA hval
  obtain ⟨v0, vs0, d0, ds0, p0, q0, hargs, rfl, rfl, h0, r0⟩ := trodAll_cons hA
  obtain ⟨v1, vs1, d1, ds1, p1, q1, rfl, rfl, rfl, h1, r1⟩ := trodAll_cons r0
  obtain ⟨rfl, rfl, rfl⟩ := trodAll_nil r1
  obtain rfl : args = #[v0, v1] := by cases args; simp_all
  obtain ⟨rfl, rfl⟩ := trodVars_none hV
  obtain ⟨cs0, rfl, _⟩ := okWide_struct Tryz.underlying26 (hval 0 26 v0 rfl rfl)
  obtain ⟨cs1, rfl, _⟩ := okWide_struct Tryz.underlying30 (hval 1 30 v1 rfl rfl)
  clear hA0 hA r0
  have u0 : Rows.uptoBulk d0 ≤ 1048576 := bulk_bound hk (by simp)
  obtain ⟨f0, hf0⟩ := id h0
  have u1 : Rows.uptoBulk d1 ≤ 1048576 := bulk_bound hk (by simp)
  obtain ⟨f1, hf1⟩ := id h1
  obtain ⟨x0, e0, hx0⟩ := open_ex f0 f0 _ _ (Nat.le_refl _) hf0 u0
  obtain rfl : cs0 = #[.int .i64 x0.kind, .int .i64 x0.rn, .int .i64 x0.rd, .string x0.name, .int .i64 x0.pw, .slice x0.a x0.l.length x0.c] := by
    have e3 : cs0.toList = [.int .i64 x0.kind, .int .i64 x0.rn, .int .i64 x0.rd, .string x0.name, .int .i64 x0.pw, .slice x0.a x0.l.length x0.c] := e0
    rw [← Array.toList_inj]; exact e3
  obtain ⟨x1, e1, hx1⟩ := open_pr hf1 u1
  obtain rfl : cs1 = #[.slice x1.sa x1.ss.length x1.sc, .slice x1.pa x1.ps.length x1.pc, .slice x1.ma x1.ms.length x1.mc, .int .i64 x1.tn, .int .i64 x1.td] := by
    have e3 : cs1.toList = [.slice x1.sa x1.ss.length x1.sc, .slice x1.pa x1.ps.length x1.pc, .slice x1.ma x1.ms.length x1.mc, .int .i64 x1.tn, .int .i64 x1.td] := e1
    rw [← Array.toList_inj]; exact e3
  refine (Valid_ok x0 x1 W hx0 hx1).mono fun e W' ⟨he, hb⟩ => ?_
  subst he
  have hb : Below W.heap.size W W' := hb
  refine ⟨_, rfl, post_of_below (pa := p0 ++ (p1 ++ [])) (pv := []) hW' (fun _ _ _ => trodAll_cons_mk (shut_bool Tryz.underlying4 _) trodAll_mk0) (fun sp hs => ?_) (fun _ _ => rfl) (by simp) hb (ok_one (by kernel_rfl) rfl (okWide_bool_mk Tryz.underlying4 _))⟩
  rw [Tryz.params3]
  exact trodAll_cons_mk (WideElems.Trod_stays laidOutSeat (by kernel_rfl) (of_decide_eq_true (by kernel_rfl)) h0 (fun x hx => hb.same (hlt x (by simp [hx]))) (fun x hx => hs x (by simp [hx])))
    (trodAll_cons_mk (WideElems.Trod_stays laidOutSeat (by kernel_rfl) (of_decide_eq_true (by kernel_rfl)) h1 (fun x hx => hb.same (hlt x (by simp [hx]))) (fun x hx => hs x (by simp [hx])))
    trodAll_mk0)

set_option maxRecDepth 100000 in
theorem liftedUpto (os : Os) (started : os.Started) (H : Type) (enc : TypeId × Value → H) (F : Stop.Interp) :
    ReturnsInHanded {} Tryz.checked os 3 .any ((Rows.OpenSpec.upto Rows.treeValidSpec).pre6 enc Tryz.prog Tryz.f3 Rows.treeValidUptoRow.domain false) (((Rows.OpenSpec.upto Rows.treeValidSpec).at F).post enc Tryz.prog Tryz.f3 false true false false) := by
  refine returnsInHanded_of_cond (C := Tryz.checked) (s := Rows.OpenSpec.upto Rows.treeValidSpec) (k := Rows.uptoSmall) rfl ownKnobs started (by kernel_rfl) Tryz.func3
    (OpenSpec.witness (enc := enc) (C := Tryz.checked) (s := Rows.OpenSpec.upto Rows.treeValidSpec) (k := Rows.uptoSmall) rfl false ⟨#[], #[.agg #[.int .i64 0, .int .i64 0, .int .i64 0, .string ⟨#[]⟩, .int .i64 0, .slice none 0 0], .agg #[.slice none 0 0, .slice none 0 0, .slice none 0 0, .int .i64 0, .int .i64 0]], []⟩ 8 (by kernel_rfl) (by kernel_rfl) (by kernel_rfl)
      (x := ([.agg [.lit (.int .i64 0), .agg [.lit (.int .i64 0), .lit (.int .i64 0)], .lit (.string []), .lit (.int .i64 0), .nil], .agg [.nil, .nil, .nil, .agg [.lit (.int .i64 0), .lit (.int .i64 0)]]], [], [])) (by kernel_rfl) rfl (by kernel_rfl)) ?_
  intro W base args ds gs before hval hW _ hk _
  exact contract H enc W base args ds gs before hval hW hk

theorem saidUpto : Rows.TreeValidUptoSaid :=
  OpenClaim.holds_of_cond 3 Tryz.f3 rfl rfl rfl rfl rfl rfl rfl ⟨rfl, rfl, rfl, rfl, rfl⟩ rfl rfl rfl rfl rfl (by kernel_rfl) Tryz.func3 (by kernel_rfl)
    (of_decide_eq_true (by kernel_rfl)) (by unfold Func.isWrapper; first | (rw [if_pos (by decide +kernel)]; kernel_rfl) | (rw [if_neg (by decide +kernel)]; exact ⟨rfl, rfl⟩))
    (fun os started H enc _ F => liftedUpto os started H enc F)
#print axioms saidUpto
end Go.Proofs.YthaphbbeiglolaaGreat.treeValid
