/-
  TreeEqual returns true for every two trees and every two problems whose bulk together is at most the form's bound, and leaves them as they were.
-/
import Derived.Test.YthaphbbeiglolaaGreatMRCoN
import Derived.Test.YthaphbbeiglolaaGreatMLawEq
namespace Go.Proofs.YthaphbbeiglolaaGreat.treeEqual
open Go.ChangeShapes Go.WideShapes Go.ChangeAt Go.RowKit

set_option maxHeartbeats 2000000 in
set_option maxRecDepth 100000 in
/-- the contract, for every argument of the form's bulk -/
theorem contract (H : Type) (enc : TypeId × Value → H) (W : World) (base : Nat) (args : Array Value) (ds gs : List (DataW H)) (before : List MemPlace)
    (hval : ∀ (j : Nat) t v, Tryz.f4.params[j]? = some t → args[j]? = some v → Value.okWide Tryz.prog W .any base t v)
    (hW : DataW.Whole enc Tryz.prog Tryz.f4.params.toList Rows.treeEqualSpec.vars false W args.toList ds gs before) (hk : Rows.uptoSmall H (ds ++ gs) = true) :
    Calls Tryz.prog 4 args W fun e W' => ∃ v, e = .returned v ∧ Rows.treeEqualSpec.post enc Tryz.prog Tryz.f4 false true false false W args v W' := by
  have hW' := hW
  have hlt : ∀ p ∈ before, p.block < W.heap.size := fun p hp => hW'.lt p hp
  obtain ⟨p, q, hA0, hV, rfl, hfz, hnd⟩ := hW
  have hA : DataW.TrodAll enc Tryz.prog W 0 (fun _ => true) true Tryz.f4.params.toList args.toList ds p := hA0
  rw [Tryz.params4] at hA hval
  obtain ⟨v0, vs0, d0, ds0, p0, q0, hargs, rfl, rfl, h0, r0⟩ := trodAll_cons hA
  obtain ⟨v1, vs1, d1, ds1, p1, q1, rfl, rfl, rfl, h1, r1⟩ := trodAll_cons r0
  obtain ⟨v2, vs2, d2, ds2, p2, q2, rfl, rfl, rfl, h2, r2⟩ := trodAll_cons r1
  obtain ⟨v3, vs3, d3, ds3, p3, q3, rfl, rfl, rfl, h3, r3⟩ := trodAll_cons r2
  obtain ⟨rfl, rfl, rfl⟩ := trodAll_nil r3
  obtain rfl : args = #[v0, v1, v2, v3] := by cases args; simp_all
  obtain ⟨rfl, rfl⟩ := trodVars_none hV
  obtain ⟨cs0, rfl, _⟩ := okWide_struct Tryz.underlying26 (hval 0 26 v0 rfl rfl)
  obtain ⟨cs1, rfl, _⟩ := okWide_struct Tryz.underlying26 (hval 1 26 v1 rfl rfl)
  obtain ⟨cs2, rfl, _⟩ := okWide_struct Tryz.underlying30 (hval 2 30 v2 rfl rfl)
  obtain ⟨cs3, rfl, _⟩ := okWide_struct Tryz.underlying30 (hval 3 30 v3 rfl rfl)
  clear hA0 hA r0 r1 r2
  have u0 : Rows.uptoBulk d0 ≤ 1048576 := bulk_bound hk (by simp)
  obtain ⟨f0, hf0⟩ := id h0
  have u1 : Rows.uptoBulk d1 ≤ 1048576 := bulk_bound hk (by simp)
  obtain ⟨f1, hf1⟩ := id h1
  have u2 : Rows.uptoBulk d2 ≤ 1048576 := bulk_bound hk (by simp)
  obtain ⟨f2, hf2⟩ := id h2
  have u3 : Rows.uptoBulk d3 ≤ 1048576 := bulk_bound hk (by simp)
  obtain ⟨f3, hf3⟩ := id h3
  obtain ⟨x0, e0, hx0⟩ := open_ex f0 f0 _ _ (Nat.le_refl _) hf0 u0
  obtain rfl : cs0 = #[.int .i64 x0.kind, .int .i64 x0.rn, .int .i64 x0.rd, .string x0.name, .int .i64 x0.pw, .slice x0.a x0.l.length x0.c] := by
    have e3 : cs0.toList = [.int .i64 x0.kind, .int .i64 x0.rn, .int .i64 x0.rd, .string x0.name, .int .i64 x0.pw, .slice x0.a x0.l.length x0.c] := e0
    rw [← Array.toList_inj]; exact e3
  obtain ⟨x1, e1, hx1⟩ := open_ex f1 f1 _ _ (Nat.le_refl _) hf1 u1
  obtain rfl : cs1 = #[.int .i64 x1.kind, .int .i64 x1.rn, .int .i64 x1.rd, .string x1.name, .int .i64 x1.pw, .slice x1.a x1.l.length x1.c] := by
    have e3 : cs1.toList = [.int .i64 x1.kind, .int .i64 x1.rn, .int .i64 x1.rd, .string x1.name, .int .i64 x1.pw, .slice x1.a x1.l.length x1.c] := e1
    rw [← Array.toList_inj]; exact e3
  obtain ⟨x2, e2, hx2⟩ := open_pr hf2 u2
  obtain rfl : cs2 = #[.slice x2.sa x2.ss.length x2.sc, .slice x2.pa x2.ps.length x2.pc, .slice x2.ma x2.ms.length x2.mc, .int .i64 x2.tn, .int .i64 x2.td] := by
    have e3 : cs2.toList = [.slice x2.sa x2.ss.length x2.sc, .slice x2.pa x2.ps.length x2.pc, .slice x2.ma x2.ms.length x2.mc, .int .i64 x2.tn, .int .i64 x2.td] := e2
    rw [← Array.toList_inj]; exact e3
  obtain ⟨x3, e3, hx3⟩ := open_pr hf3 u3
  obtain rfl : cs3 = #[.slice x3.sa x3.ss.length x3.sc, .slice x3.pa x3.ps.length x3.pc, .slice x3.ma x3.ms.length x3.mc, .int .i64 x3.tn, .int .i64 x3.td] := by
    have e3 : cs3.toList = [.slice x3.sa x3.ss.length x3.sc, .slice x3.pa x3.ps.length x3.pc, .slice x3.ma x3.ms.length x3.mc, .int .i64 x3.tn, .int .i64 x3.td] := e3
    rw [← Array.toList_inj]; exact e3
  refine (Equal_ok x0 x1 x2 x3 W hx0 hx1 hx2 hx3).mono fun e W' ⟨he, hb⟩ => ?_
  subst he
  have hb : Below W.heap.size W W' := hb
  refine ⟨_, rfl, post_of_below (pa := p0 ++ (p1 ++ (p2 ++ (p3 ++ [])))) (pv := []) hW' (fun _ _ _ => trodAll_cons_mk (shut_bool Tryz.underlying4 _) trodAll_mk0) (fun sp hs => ?_) (fun _ _ => rfl) (by simp) hb (ok_one (by kernel_rfl) rfl (okWide_bool_mk Tryz.underlying4 _))⟩
  rw [Tryz.params4]
  exact trodAll_cons_mk (WideElems.Trod_stays laidOutSeat (by kernel_rfl) (of_decide_eq_true (by kernel_rfl)) h0 (fun x hx => hb.same (hlt x (by simp [hx]))) (fun x hx => hs x (by simp [hx])))
    (trodAll_cons_mk (WideElems.Trod_stays laidOutSeat (by kernel_rfl) (of_decide_eq_true (by kernel_rfl)) h1 (fun x hx => hb.same (hlt x (by simp [hx]))) (fun x hx => hs x (by simp [hx])))
    (trodAll_cons_mk (WideElems.Trod_stays laidOutSeat (by kernel_rfl) (of_decide_eq_true (by kernel_rfl)) h2 (fun x hx => hb.same (hlt x (by simp [hx]))) (fun x hx => hs x (by simp [hx])))
    (trodAll_cons_mk (WideElems.Trod_stays laidOutSeat (by kernel_rfl) (of_decide_eq_true (by kernel_rfl)) h3 (fun x hx => hb.same (hlt x (by simp [hx]))) (fun x hx => hs x (by simp [hx])))
    trodAll_mk0)))

set_option maxRecDepth 100000 in
theorem liftedUpto (os : Os) (started : os.Started) (H : Type) (enc : TypeId × Value → H) (F : Stop.Interp) :
    ReturnsInHanded {} Tryz.checked os 4 .any ((Rows.OpenSpec.upto Rows.treeEqualSpec).pre6 enc Tryz.prog Tryz.f4 Rows.treeEqualUptoRow.domain false) (((Rows.OpenSpec.upto Rows.treeEqualSpec).at F).post enc Tryz.prog Tryz.f4 false true false false) := by
  refine returnsInHanded_of_cond (C := Tryz.checked) (s := Rows.OpenSpec.upto Rows.treeEqualSpec) (k := Rows.uptoSmall) rfl ownKnobs started (by kernel_rfl) Tryz.func4
    (OpenSpec.witness (enc := enc) (C := Tryz.checked) (s := Rows.OpenSpec.upto Rows.treeEqualSpec) (k := Rows.uptoSmall) rfl false ⟨#[], #[.agg #[.int .i64 0, .int .i64 0, .int .i64 0, .string ⟨#[]⟩, .int .i64 0, .slice none 0 0], .agg #[.int .i64 0, .int .i64 0, .int .i64 0, .string ⟨#[]⟩, .int .i64 0, .slice none 0 0], .agg #[.slice none 0 0, .slice none 0 0, .slice none 0 0, .int .i64 0, .int .i64 0], .agg #[.slice none 0 0, .slice none 0 0, .slice none 0 0, .int .i64 0, .int .i64 0]], []⟩ 8 (by kernel_rfl) (by kernel_rfl) (by kernel_rfl)
      (x := ([.agg [.lit (.int .i64 0), .agg [.lit (.int .i64 0), .lit (.int .i64 0)], .lit (.string []), .lit (.int .i64 0), .nil], .agg [.lit (.int .i64 0), .agg [.lit (.int .i64 0), .lit (.int .i64 0)], .lit (.string []), .lit (.int .i64 0), .nil], .agg [.nil, .nil, .nil, .agg [.lit (.int .i64 0), .lit (.int .i64 0)]], .agg [.nil, .nil, .nil, .agg [.lit (.int .i64 0), .lit (.int .i64 0)]]], [], [])) (by kernel_rfl) rfl (by kernel_rfl)) ?_
  intro W base args ds gs before hval hW _ hk _
  exact contract H enc W base args ds gs before hval hW hk

theorem saidUpto : Rows.TreeEqualUptoSaid :=
  OpenClaim.holds_of_cond 4 Tryz.f4 rfl rfl rfl rfl rfl rfl rfl ⟨rfl, rfl, rfl, rfl, rfl⟩ rfl rfl rfl rfl rfl (by kernel_rfl) Tryz.func4 (by kernel_rfl)
    (of_decide_eq_true (by kernel_rfl)) (by unfold Func.isWrapper; first | (rw [if_pos (by decide +kernel)]; kernel_rfl) | (rw [if_neg (by decide +kernel)]; exact ⟨rfl, rfl⟩))
    (fun os started H enc _ F => liftedUpto os started H enc F)
#print axioms saidUpto
end Go.Proofs.YthaphbbeiglolaaGreat.treeEqual
