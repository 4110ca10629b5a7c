/-
  FrameInside returns true for every two frames, matrix of numbers and precision whose bulk together is at most the form's bound, and leaves them as they were.
-/
import Derived.Test.YtbhmhfnfceakoaaGreatDoorMOpen
import Derived.Test.YtbhmhfnfceakoaaGreatDoorMEchM
import Derived.Test.YtbhmhfnfceakoaaGreatDoorMLaw31I
namespace Go.Proofs.YtbhmhfnfceakoaaGreatDoor.frameInside
open Go.ChangeShapes Go.WideShapes Go.ChangeAt Go.RowKit
set_option maxHeartbeats 2000000 in
set_option maxRecDepth 100000 in
theorem contract (H:Type) (enc:TypeId×Value→H) (W:World) (base:Nat) (args:Array Value) (ds gs:List (DataW H)) (before:List MemPlace)
  (hval:∀ (j:Nat) t v,Tryz.f6.params[j]? = some t→args[j]? = some v→Value.okWide Tryz.prog W .any base t v)
  (hW:DataW.Whole enc Tryz.prog Tryz.f6.params.toList Rows.frameInsideSpec.vars false W args.toList ds gs before) (hk:Rows.uptoSmall H (ds++gs)=true) (hL:laidMetH Tryz.prog Rows.frameInsideUptoRow.laid W) :
  Calls Tryz.prog 6 args W fun e W'=>∃ v,e=.returned v∧Rows.frameInsideSpec.post enc Tryz.prog Tryz.f6 false true false false W args v W':=by
 have hW':=hW
 have hlt:∀ p∈before,p.block<W.heap.size:=fun p hp=>hW'.lt p hp
 obtain⟨p,q,hA0,hV,rfl,hfz,hnd⟩:=hW
 have hA:DataW.TrodAll enc Tryz.prog W 0 (fun _=>true) true Tryz.f6.params.toList args.toList ds p:=hA0
 rw[Tryz.params6] at hA hval
 obtain⟨v0,vs0,d0,ds0,p0,q0,hargs,rfl,rfl,h0,r0⟩:=trodAll_cons hA
 obtain⟨v1,vs1,d1,ds1,p1,q1,rfl,rfl,rfl,h1,r1⟩:=trodAll_cons r0
 obtain⟨v2,vs2,d2,ds2,p2,q2,rfl,rfl,rfl,h2,r2⟩:=trodAll_cons r1
 obtain⟨v3,vs3,d3,ds3,p3,q3,rfl,rfl,rfl,h3,r3⟩:=trodAll_cons r2
 obtain⟨rfl,rfl,rfl⟩:=trodAll_nil r3
 obtain rfl:args=#[v0,v1,v2,v3]:=by cases args;simp_all
 obtain⟨rfl,rfl⟩:=trodVars_none hV
 obtain⟨cs0,rfl,_⟩:=okWide_struct Tryz.underlying26 (hval 0 26 v0 rfl rfl)
 obtain⟨cs1,rfl,_⟩:=okWide_struct Tryz.underlying26 (hval 1 26 v1 rfl rfl)
 obtain⟨a2,l2,c2,rfl⟩:=okWide_slice Tryz.underlying23 (hval 2 23 v2 rfl rfl)
 obtain⟨i3,rfl⟩:=okWide_int Tryz.underlying3 (hval 3 3 v3 rfl rfl)
 clear hA0 hA r0 r1 r2
 have u0:Rows.uptoBulk d0≤1048576:=bulk_bound hk (by simp)
 have u1:Rows.uptoBulk d1≤1048576:=bulk_bound hk (by simp)
 have u2:Rows.uptoBulk d2≤1048576:=bulk_bound hk (by simp)
 obtain⟨f0,hf0⟩:=id h0
 obtain⟨f1,hf1⟩:=id h1
 obtain⟨f2,hf2⟩:=id h2
 obtain⟨x0,e0,hx0⟩:=open_frm hf0 u0
 obtain⟨x1,e1,hx1⟩:=open_frm hf1 u1
 obtain⟨a2',z2,c2',e2,hz2,hl2⟩:=open_rowN hf2 u2
 simp only[Value.cells,List.cons.injEq,and_true,Value.slice.injEq] at e2
 obtain⟨rfl,rfl,rfl⟩:=e2
 obtain rfl:cs0=#[.slice x0.ca x0.cs.length x0.cc,.slice x0.aa x0.ms.length x0.ac,.slice x0.ra x0.rs.length x0.rc]:=by
  have e3:cs0.toList=[.slice x0.ca x0.cs.length x0.cc,.slice x0.aa x0.ms.length x0.ac,.slice x0.ra x0.rs.length x0.rc]:=e0
  rw[← Array.toList_inj];exact e3
 obtain rfl:cs1=#[.slice x1.ca x1.cs.length x1.cc,.slice x1.aa x1.ms.length x1.ac,.slice x1.ra x1.rs.length x1.rc]:=by
  have e3:cs1.toList=[.slice x1.ca x1.cs.length x1.cc,.slice x1.aa x1.ms.length x1.ac,.slice x1.ra x1.rs.length x1.rc]:=e1
  rw[← Array.toList_inj];exact e3
 refine (FInside_ok x0 x1 a2 z2 c2 i3 W hx0 hx1 hz2 (Nat.le_trans hl2 (of_decide_eq_true rfl)) (tab_of_laid hL)).mono fun e W' ⟨he,hb⟩=>?_
 subst he
 have hb:Below W.heap.size W W':=hb
 refine⟨_,rfl,post_of_below (pa:=p0++(p1++(p2++(p3++[])))) (pv:=[]) hW' (fun _ _ _=>trodAll_cons_mk (shut_bool Tryz.underlying4 _) trodAll_mk0) (fun sp hs=>?_) (fun _ _=>rfl) (by simp) hb (ok_one (by kernel_rfl) rfl (okWide_bool_mk Tryz.underlying4 _))⟩
 rw[Tryz.params6]
 exact trodAll_cons_mk (WideElems.Trod_stays laidOutSeat (by kernel_rfl) (of_decide_eq_true (by kernel_rfl)) h0 (fun x hx=>hb.same (hlt x (by simp[hx]))) (fun x hx=>hs x (by simp[hx])))
  (trodAll_cons_mk (WideElems.Trod_stays laidOutSeat (by kernel_rfl) (of_decide_eq_true (by kernel_rfl)) h1 (fun x hx=>hb.same (hlt x (by simp[hx]))) (fun x hx=>hs x (by simp[hx])))
  (trodAll_cons_mk (WideElems.Trod_stays laidOutSeat (by kernel_rfl) (of_decide_eq_true (by kernel_rfl)) h2 (fun x hx=>hb.same (hlt x (by simp[hx]))) (fun x hx=>hs x (by simp[hx])))
  (trodAll_cons_mk (WideElems.Trod_stays laidOutSeat (by kernel_rfl) (of_decide_eq_true (by kernel_rfl)) h3 (fun x hx=>hb.same (hlt x (by simp[hx]))) (fun x hx=>hs x (by simp[hx])))
  trodAll_mk0)))
theorem laid_met (os:Os):laidMet Tryz.prog Rows.frameInsideUptoRow.laid ((laidWorld os).forCall (fun _ _=>0) ⟨#[],#[.agg #[.slice none 0 0,.slice none 0 0,.slice none 0 0],.agg #[.slice none 0 0,.slice none 0 0,.slice none 0 0],.slice none 0 0,.int .i64 0],[]⟩).memory :=
 laidMet_of_run' 8 (by kernel_rfl) (by kernel_rfl)
theorem reads (os:Os) {H:Type} (enc:TypeId×Value→H):∃ places,DataW.whole enc Tryz.prog ((laidWorld os).forCall (fun _ _=>0) ⟨#[],#[.agg #[.slice none 0 0,.slice none 0 0,.slice none 0 0],.agg #[.slice none 0 0,.slice none 0 0,.slice none 0 0],.slice none 0 0,.int .i64 0],[]⟩).memory Tryz.f6.params.toList Rows.frameInsideSpec.vars false #[Value.agg #[.slice none 0 0,.slice none 0 0,.slice none 0 0],Value.agg #[.slice none 0 0,.slice none 0 0,.slice none 0 0],Value.slice none 0 0,Value.int .i64 0].toList 8=some ([.agg [.nil,.nil,.nil],.agg [.nil,.nil,.nil],.nil,.lit (.int .i64 0)],[],places) :=
 ⟨[],by kernel_rfl⟩
set_option maxRecDepth 100000 in
theorem liftedUpto (os:Os) (started:os.Started) (H:Type) (enc:TypeId×Value→H) (F:Stop.Interp) :
  ReturnsInHanded {} Tryz.checked os 6 .any ((Rows.OpenSpec.upto Rows.frameInsideSpec).preRow enc Tryz.prog Tryz.f6 Rows.frameInsideUptoRow.domain false Rows.frameInsideUptoRow.laid) (((Rows.OpenSpec.upto Rows.frameInsideSpec).at F).post enc Tryz.prog Tryz.f6 false true false false):=by
 obtain⟨places,hx⟩:=reads os enc
 refine returnsInHanded_of_row (C:=Tryz.checked) (s:=Rows.OpenSpec.upto Rows.frameInsideSpec) ownKnobs started (by kernel_rfl) Tryz.func6
  (witness_row_at (enc:=enc) (C:=Tryz.checked) false (laidWorld os) #[.agg #[.slice none 0 0,.slice none 0 0,.slice none 0 0],.agg #[.slice none 0 0,.slice none 0 0,.slice none 0 0],.slice none 0 0,.int .i64 0] rfl (by kernel_rfl) (by kernel_rfl) (by kernel_rfl)
   (OpenSpec.preRow_of_cond 8 hx (by kernel_rfl) (fun k hk=>by cases hk;kernel_rfl) (by kernel_rfl) (laid_met os))) ?_
 intro W base args ds gs before hval hW _ hcond _ hL _ _
 exact contract H enc W base args ds gs before hval hW (hcond _ rfl) hL
theorem saidUpto:Rows.FrameInsideUptoSaid :=
 OpenClaim.holds_of_cond 6 Tryz.f6 rfl rfl rfl rfl rfl rfl rfl ⟨rfl,rfl,rfl,rfl,rfl⟩ rfl rfl rfl rfl rfl (by kernel_rfl) Tryz.func6 (by kernel_rfl)
  (of_decide_eq_true (by kernel_rfl)) (by unfold Func.isWrapper;first | (rw[if_pos (by decide +kernel)];kernel_rfl) | (rw[if_neg (by decide +kernel)];exact⟨rfl,rfl⟩))
  (fun os started H enc _ F=>by rw[OpenClaim.pre_eq_preRow];exact liftedUpto os started H enc F)
theorem plain (f : FuncId) (fn : Func) (hf : Tryz.pinned.checked.prog.funcNamed "flowpipe/flowpipelaw31.FrameInside" = some f) (hfn : Tryz.pinned.checked.prog.funcs[f]? = some fn) :
  false=Tryz.pinned.checked.prog.looks []∧∀ (j:Nat) t,fn.params[j]? = some t→Tryz.pinned.checked.prog.wantsStandIn t=false:=by
 obtain rfl : f = 6 := Option.some.inj ((show Tryz.prog.funcNamed "flowpipe/flowpipelaw31.FrameInside" = some 6 by kernel_rfl).symm.trans hf) |>.symm
 obtain rfl:fn=Tryz.f6:=(Option.some.inj (Tryz.func6.symm.trans hfn)).symm
 refine⟨by kernel_rfl,fun j t ht=>?_⟩
 rw[Tryz.params6] at ht
 have hm:=Array.mem_of_getElem? ht
 simp only[List.mem_toArray,List.mem_cons,List.not_mem_nil,or_false] at hm
 rcases hm with rfl | rfl | rfl | rfl
 ·exact (show Tryz.prog.wantsStandIn 26=false by kernel_rfl)
 ·exact (show Tryz.prog.wantsStandIn 26=false by kernel_rfl)
 ·exact (show Tryz.prog.wantsStandIn 23=false by kernel_rfl)
 exact (show Tryz.prog.wantsStandIn 3=false by kernel_rfl)
theorem cardUpto:Rows.FrameInsideUptoCardSaid :=
 Claim7.holds_tied_plain_at .later [] _ _ _ _ saidUpto nofun (by kernel_rfl) nofun frameInsideUpto_row_tie rfl ⟨rfl,rfl⟩ (by kernel_rfl) rfl plain (by kernel_rfl)
#print axioms cardUpto
end Go.Proofs.YtbhmhfnfceakoaaGreatDoor.frameInside
