/-
  LinearEigenvalues returns true for every number, list of bytes and value whose bulk together is at most the form's bound, and leaves them as they were.
-/
import Derived.Test.YtpocjagbhiahdaaGreatDoorMIvA
import Derived.Test.YtpocjagbhiahdaaGreatDoorMPts8
import Derived.Test.YtpocjagbhiahdaaGreatDoorMLaw8V
namespace Go.Proofs.YtpocjagbhiahdaaGreatDoor.linearEigenvalues
open Go.ChangeShapes Go.WideShapes Go.ChangeAt Go.RowKit

theorem u8_bd {n : Int} (h : (Lit.int .u8 n).wf = true) : 0 ≤ n ∧ n < 256 := by
  simp [Lit.wf, IntKind.min, IntKind.max, IntKind.signed, IntKind.bits] at h
  omega
theorem open_u8 {H : Type} {enc : TypeId × Value → H} {w : World} {base : Nat} {spare : Nat → Bool} {held : Bool} {fuel : Nat} {n : Int} {x : DataW H × List MemPlace} (h : DataW.trod enc Tryz.prog w base spare held fuel 5 (Value.int .u8 n).cells.toList = some x) :
    ∃ m : Nat, m < 256 ∧ n = m := by
  obtain ⟨e, e2, _, hw⟩ := DataW.trod_int Tryz.underlying5 h
  simp only [Value.cells, List.cons.injEq, and_true, Value.int.injEq, true_and] at e2
  subst e2
  obtain ⟨h0, h1⟩ := u8_bd hw
  exact ⟨n.toNat, by omega, by omega⟩
theorem i8_bd {n : Int} (h : (Lit.int .i8 n).wf = true) : -128 ≤ n ∧ n ≤ 127 := by
  simp [Lit.wf, IntKind.min, IntKind.max, IntKind.signed, IntKind.bits] at h
  omega
theorem open_i8 {H : Type} {enc : TypeId × Value → H} {w : World} {base : Nat} {spare : Nat → Bool} {held : Bool} {fuel : Nat} {n : Int} {x : DataW H × List MemPlace} (h : DataW.trod enc Tryz.prog w base spare held fuel 48 (Value.int .i8 n).cells.toList = some x) :
    -128 ≤ n ∧ n ≤ 127 := by
  obtain ⟨e, e2, _, hw⟩ := DataW.trod_int Tryz.underlying48 h
  simp only [Value.cells, List.cons.injEq, and_true, Value.int.injEq, true_and] at e2
  subst e2
  exact i8_bd hw
set_option maxHeartbeats 2000000 in
set_option maxRecDepth 100000 in
theorem contract (H : Type) (enc : TypeId × Value → H) (W : World) (base : Nat) (args : Array Value) (ds gs : List (DataW H)) (before : List MemPlace)
    (hval : ∀ (j : Nat) t v, Tryz.f5.params[j]? = some t → args[j]? = some v → Value.okWide Tryz.prog W .any base t v)
    (hW : DataW.Whole enc Tryz.prog Tryz.f5.params.toList Rows.linearEigenvaluesSpec.vars false W args.toList ds gs before) (hk : Rows.uptoSmall H (ds ++ gs) = true) (hL : laidMetH Tryz.prog Rows.linearEigenvaluesUptoRow.laid W) :
    Calls Tryz.prog 5 args W fun e W' => ∃ v, e = .returned v ∧ Rows.linearEigenvaluesSpec.post enc Tryz.prog Tryz.f5 false true false false W args v W' := by
  have hW' := hW
  have hlt : ∀ p ∈ before, p.block < W.heap.size := fun p hp => hW'.lt p hp
  obtain ⟨p, q, hA0, hV, rfl, hfz, hnd⟩ := hW
  have hA : DataW.TrodAll enc Tryz.prog W 0 (fun _ => true) true Tryz.f5.params.toList args.toList ds p := hA0
  rw [Tryz.params5] at hA hval
  obtain ⟨v0, vs0, d0, ds0, p0, q0, hargs, rfl, rfl, h0, r0⟩ := trodAll_cons hA
  obtain ⟨v1, vs1, d1, ds1, p1, q1, rfl, rfl, rfl, h1, r1⟩ := trodAll_cons r0
  obtain ⟨v2, vs2, d2, ds2, p2, q2, rfl, rfl, rfl, h2, r2⟩ := trodAll_cons r1
  obtain ⟨rfl, rfl, rfl⟩ := trodAll_nil r2
  obtain rfl : args = #[v0, v1, v2] := by cases args; simp_all
  obtain ⟨rfl, rfl⟩ := trodVars_none hV
  obtain ⟨n0, rfl⟩ := okWide_int Tryz.underlying5 (hval 0 5 v0 rfl rfl)
  obtain ⟨a1, l1, c1, rfl⟩ := okWide_slice Tryz.underlying47 (hval 1 47 v1 rfl rfl)
  obtain ⟨n2, rfl⟩ := okWide_int Tryz.underlying48 (hval 2 48 v2 rfl rfl)
  clear hA0 hA r0 r1
  have u1 : Rows.uptoBulk d1 ≤ 1048576 := bulk_bound hk (by simp)
  obtain ⟨f0, hf0⟩ := id h0
  obtain ⟨f1, hf1⟩ := id h1
  obtain ⟨f2, hf2⟩ := id h2
  obtain ⟨m0, hm0, rfl⟩ := open_u8 hf0
  obtain ⟨a1', z1, c1', e1, hz1, hl1⟩ := open_rowY hf1 u1
  simp only [Value.cells, List.cons.injEq, and_true, Value.slice.injEq] at e1
  obtain ⟨rfl, rfl, rfl⟩ := e1
  have hm2 := open_i8 hf2
  refine (Eigen8_ok m0 z1 n2 a1 c1 W hm0 hz1.1 (Nat.le_trans hl1 (of_decide_eq_true rfl)) hz1.2 hm2 (tab_of_laid hL)).mono fun e W' ⟨he, hb⟩ => ?_
  subst he
  have hb : Below W.heap.size W W' := hb
  refine ⟨_, rfl, post_of_below (pa := p0 ++ (p1 ++ (p2 ++ []))) (pv := []) hW' (fun _ _ _ => trodAll_cons_mk (shut_bool Tryz.underlying4 _) trodAll_mk0) (fun sp hs => ?_) (fun _ _ => rfl) (by simp) hb (ok_one (by kernel_rfl) rfl (okWide_bool_mk Tryz.underlying4 _))⟩
  rw [Tryz.params5]
  exact trodAll_cons_mk (WideElems.Trod_stays laidOutSeat (by kernel_rfl) (of_decide_eq_true (by kernel_rfl)) h0 (fun x hx => hb.same (hlt x (by simp [hx]))) (fun x hx => hs x (by simp [hx])))
    (trodAll_cons_mk (WideElems.Trod_stays laidOutSeat (by kernel_rfl) (of_decide_eq_true (by kernel_rfl)) h1 (fun x hx => hb.same (hlt x (by simp [hx]))) (fun x hx => hs x (by simp [hx])))
    (trodAll_cons_mk (WideElems.Trod_stays laidOutSeat (by kernel_rfl) (of_decide_eq_true (by kernel_rfl)) h2 (fun x hx => hb.same (hlt x (by simp [hx]))) (fun x hx => hs x (by simp [hx])))
    trodAll_mk0))
theorem laid_met (os : Os) : laidMet Tryz.prog Rows.linearEigenvaluesUptoRow.laid ((laidWorld os).forCall (fun _ _ => 0) ⟨#[], #[.int .u8 0, .slice none 0 0, .int .i8 0], []⟩).memory :=
  laidMet_of_run' 8 (by kernel_rfl) (by kernel_rfl)
theorem reads (os : Os) {H : Type} (enc : TypeId × Value → H) : ∃ places, DataW.whole enc Tryz.prog ((laidWorld os).forCall (fun _ _ => 0) ⟨#[], #[.int .u8 0, .slice none 0 0, .int .i8 0], []⟩).memory Tryz.f5.params.toList Rows.linearEigenvaluesSpec.vars false #[Value.int .u8 0, Value.slice none 0 0, Value.int .i8 0].toList 8 = some ([.lit (.int .u8 0), .nil, .lit (.int .i8 0)], [], places) :=
  ⟨[], by kernel_rfl⟩

set_option maxRecDepth 100000 in
theorem liftedUpto (os : Os) (started : os.Started) (H : Type) (enc : TypeId × Value → H) (F : Stop.Interp) :
    ReturnsInHanded {} Tryz.checked os 5 .any ((Rows.OpenSpec.upto Rows.linearEigenvaluesSpec).preRow enc Tryz.prog Tryz.f5 Rows.linearEigenvaluesUptoRow.domain false Rows.linearEigenvaluesUptoRow.laid) (((Rows.OpenSpec.upto Rows.linearEigenvaluesSpec).at F).post enc Tryz.prog Tryz.f5 false true false false) := by
  obtain ⟨places, hx⟩ := reads os enc
  refine returnsInHanded_of_row (C := Tryz.checked) (s := Rows.OpenSpec.upto Rows.linearEigenvaluesSpec) ownKnobs started (by kernel_rfl) Tryz.func5
    (witness_row_at (enc := enc) (C := Tryz.checked) false (laidWorld os) #[.int .u8 0, .slice none 0 0, .int .i8 0] rfl (by kernel_rfl) (by kernel_rfl) (by kernel_rfl)
      (OpenSpec.preRow_of_cond 8 hx (by kernel_rfl) (fun k hk => by cases hk; kernel_rfl) (by kernel_rfl) (laid_met os))) ?_
  intro W base args ds gs before hval hW _ hcond _ hL _ _
  exact contract H enc W base args ds gs before hval hW (hcond _ rfl) hL
theorem saidUpto : Rows.LinearEigenvaluesUptoSaid :=
  OpenClaim.holds_of_cond 5 Tryz.f5 rfl rfl rfl rfl rfl rfl rfl ⟨rfl, rfl, rfl, rfl, rfl⟩ rfl rfl rfl rfl rfl (by kernel_rfl) Tryz.func5 (by kernel_rfl)
    (of_decide_eq_true (by kernel_rfl)) (by unfold Func.isWrapper; first | (rw [if_pos (by decide +kernel)]; kernel_rfl) | (rw [if_neg (by decide +kernel)]; exact ⟨rfl, rfl⟩))
    (fun os started H enc _ F => by rw [OpenClaim.pre_eq_preRow]; exact liftedUpto os started H enc F)

theorem plain (f : FuncId) (fn : Func) (hf : Tryz.pinned.checked.prog.funcNamed "flowpipe/flowpipelaw08.LinearEigenvalues" = some f) (hfn : Tryz.pinned.checked.prog.funcs[f]? = some fn) :
    false = Tryz.pinned.checked.prog.looks [] ∧ ∀ (j : Nat) t, fn.params[j]? = some t → Tryz.pinned.checked.prog.wantsStandIn t = false := by
  obtain rfl : f = 5 := Option.some.inj ((show Tryz.prog.funcNamed "flowpipe/flowpipelaw08.LinearEigenvalues" = some 5 by kernel_rfl).symm.trans hf) |>.symm
  obtain rfl : fn = Tryz.f5 := (Option.some.inj (Tryz.func5.symm.trans hfn)).symm
  refine ⟨by kernel_rfl, fun j t ht => ?_⟩
  rw [Tryz.params5] at ht
  have hm := Array.mem_of_getElem? ht
  simp only [List.mem_toArray, List.mem_cons, List.not_mem_nil, or_false] at hm
  rcases hm with rfl | rfl | rfl
  · exact (show Tryz.prog.wantsStandIn 5 = false by kernel_rfl)
  · exact (show Tryz.prog.wantsStandIn 47 = false by kernel_rfl)
  exact (show Tryz.prog.wantsStandIn 48 = false by kernel_rfl)
theorem cardUpto : Rows.LinearEigenvaluesUptoCardSaid :=
  Claim7.holds_tied_plain_at .later [] _ _ _ _ saidUpto (fun _ h => by cases h) (by kernel_rfl) (fun _ h => by cases h) linearEigenvaluesUpto_row_tie rfl ⟨rfl, rfl⟩ (by kernel_rfl) rfl plain (by kernel_rfl)
#print axioms cardUpto
end Go.Proofs.YtpocjagbhiahdaaGreatDoor.linearEigenvalues
