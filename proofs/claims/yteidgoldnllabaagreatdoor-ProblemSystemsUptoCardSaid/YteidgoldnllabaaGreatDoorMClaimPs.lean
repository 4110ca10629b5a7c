/-
  ProblemSystems returns true for every problem, text and precision whose bulk together is at most the form's bound, and leaves them as they were.
-/
import Derived.Test.YteidgoldnllabaaGreatDoorMRCoN
import Derived.Test.YteidgoldnllabaaGreatDoorMRxpN
namespace Go.Proofs.YteidgoldnllabaaGreatDoor.problemSystems
open Go.ChangeShapes Go.WideShapes Go.ChangeAt Go.RowKit
set_option maxHeartbeats 2000000 in
set_option maxRecDepth 100000 in
theorem contract (H:Type) (enc:TypeId×Value→H) (W:World) (base:Nat) (args:Array Value) (ds gs:List (DataW H)) (before:List MemPlace)
  (hval:∀ (j:Nat) t v,Tryz.f7.params[j]? = some t→args[j]? = some v→Value.okWide Tryz.prog W .any base t v)
  (hW:DataW.Whole enc Tryz.prog Tryz.f7.params.toList Rows.problemSystemsSpec.vars false W args.toList ds gs before) (hk:Rows.uptoSmall H (ds++gs)=true) (hL:laidMetH Tryz.prog Rows.problemSystemsUptoRow.laid W) :
  Calls Tryz.prog 7 args W fun e W'=>∃ v,e=.returned v∧Rows.problemSystemsSpec.post enc Tryz.prog Tryz.f7 false true false false W args v W':=by
 have hW':=hW
 have hlt:∀ p∈before,p.block<W.heap.size:=fun p hp=>hW'.lt p hp
 obtain⟨p,q,hA0,hV,rfl,hfz,hnd⟩:=hW
 have hA:DataW.TrodAll enc Tryz.prog W 0 (fun _=>true) true Tryz.f7.params.toList args.toList ds p:=hA0
 rw[Tryz.params7] at hA hval
 obtain⟨v0,vs0,d0,ds0,p0,q0,hargs,rfl,rfl,h0,r0⟩:=trodAll_cons hA
 obtain⟨v1,vs1,d1,ds1,p1,q1,rfl,rfl,rfl,h1,r1⟩:=trodAll_cons r0
 obtain⟨v2,vs2,d2,ds2,p2,q2,rfl,rfl,rfl,h2,r2⟩:=trodAll_cons r1
 obtain⟨rfl,rfl,rfl⟩:=trodAll_nil r2
 obtain rfl:args=#[v0,v1,v2]:=by cases args;simp_all
 obtain⟨rfl,rfl⟩:=trodVars_none hV
 obtain⟨cs0,rfl,_⟩:=okWide_struct Tryz.underlying27 (hval 0 27 v0 rfl rfl)
 obtain⟨s1,rfl⟩:=okWide_string Tryz.underlying9 (hval 1 9 v1 rfl rfl)
 obtain⟨i2,rfl⟩:=okWide_int Tryz.underlying3 (hval 2 3 v2 rfl rfl)
 clear hA0 hA r0 r1
 have u0:Rows.uptoBulk d0≤1048576:=bulk_bound hk (by simp)
 have u1:Rows.uptoBulk d1≤1048576:=bulk_bound hk (by simp)
 obtain⟨f0,hf0⟩:=id h0
 obtain⟨f1,hf1⟩:=id h1
 obtain⟨x0,e0,hx0⟩:=open_pr hf0 u0
 have hs1:s1.size≤maxLen:=by
  obtain⟨s,e1,_,h3⟩:=DataW.trod_string Tryz.underlying9 hf1
  simp only[Value.cells,List.cons.injEq,and_true,Value.string.injEq] at e1
  rw[e1];exact h3
 obtain rfl:cs0=#[.slice x0.sa x0.ss.length x0.sc,.slice x0.pa x0.ps.length x0.pc,.slice x0.ma x0.ms.length x0.mc,.int .i64 x0.tn,.int .i64 x0.td]:=by
  have e3:cs0.toList=[.slice x0.sa x0.ss.length x0.sc,.slice x0.pa x0.ps.length x0.pc,.slice x0.ma x0.ms.length x0.mc,.int .i64 x0.tn,.int .i64 x0.td]:=e0
  rw[← Array.toList_inj];exact e3
 refine (Systems_ok x0 s1 i2 W hx0 hs1 (tab_of_laid hL)).mono fun e W' ⟨he,hb⟩=>?_
 subst he
 have hb:Below W.heap.size W W':=hb
 refine⟨_,rfl,post_of_below (pa:=p0++(p1++(p2++[]))) (pv:=[]) hW' (fun _ _ _=>trodAll_cons_mk (shut_bool Tryz.underlying4 _) trodAll_mk0) (fun sp hs=>?_) (fun _ _=>rfl) (by simp) hb (ok_one (by kernel_rfl) rfl (okWide_bool_mk Tryz.underlying4 _))⟩
 rw[Tryz.params7]
 exact trodAll_cons_mk (WideElems.Trod_stays laidOutSeat (by kernel_rfl) (of_decide_eq_true (by kernel_rfl)) h0 (fun x hx=>hb.same (hlt x (by simp[hx]))) (fun x hx=>hs x (by simp[hx])))
  (trodAll_cons_mk (WideElems.Trod_stays laidOutSeat (by kernel_rfl) (of_decide_eq_true (by kernel_rfl)) h1 (fun x hx=>hb.same (hlt x (by simp[hx]))) (fun x hx=>hs x (by simp[hx])))
  (trodAll_cons_mk (WideElems.Trod_stays laidOutSeat (by kernel_rfl) (of_decide_eq_true (by kernel_rfl)) h2 (fun x hx=>hb.same (hlt x (by simp[hx]))) (fun x hx=>hs x (by simp[hx])))
  trodAll_mk0))
theorem laid_met (os:Os):laidMet Tryz.prog Rows.problemSystemsUptoRow.laid ((laidWorld os).forCall (fun _ _=>0) ⟨#[],#[.agg #[.slice none 0 0,.slice none 0 0,.slice none 0 0,.int .i64 0,.int .i64 0],.string ⟨#[]⟩,.int .i64 0],[]⟩).memory :=
 laidMet_of_run' 8 (by kernel_rfl) (by kernel_rfl)
theorem reads (os:Os) {H:Type} (enc:TypeId×Value→H):∃ places,DataW.whole enc Tryz.prog ((laidWorld os).forCall (fun _ _=>0) ⟨#[],#[.agg #[.slice none 0 0,.slice none 0 0,.slice none 0 0,.int .i64 0,.int .i64 0],.string ⟨#[]⟩,.int .i64 0],[]⟩).memory Tryz.f7.params.toList Rows.problemSystemsSpec.vars false #[Value.agg #[.slice none 0 0,.slice none 0 0,.slice none 0 0,.int .i64 0,.int .i64 0],Value.string ⟨#[]⟩,Value.int .i64 0].toList 8=some ([.agg [.nil,.nil,.nil,.agg [.lit (.int .i64 0),.lit (.int .i64 0)]],.lit (.string []),.lit (.int .i64 0)],[],places) :=
 ⟨[],by kernel_rfl⟩
set_option maxRecDepth 100000 in
theorem liftedUpto (os:Os) (started:os.Started) (H:Type) (enc:TypeId×Value→H) (F:Stop.Interp) :
  ReturnsInHanded {} Tryz.checked os 7 .any ((Rows.OpenSpec.upto Rows.problemSystemsSpec).preRow enc Tryz.prog Tryz.f7 Rows.problemSystemsUptoRow.domain false Rows.problemSystemsUptoRow.laid) (((Rows.OpenSpec.upto Rows.problemSystemsSpec).at F).post enc Tryz.prog Tryz.f7 false true false false):=by
 obtain⟨places,hx⟩:=reads os enc
 refine returnsInHanded_of_row (C:=Tryz.checked) (s:=Rows.OpenSpec.upto Rows.problemSystemsSpec) ownKnobs started (by kernel_rfl) Tryz.func7
  (witness_row_at (enc:=enc) (C:=Tryz.checked) false (laidWorld os) #[.agg #[.slice none 0 0,.slice none 0 0,.slice none 0 0,.int .i64 0,.int .i64 0],.string ⟨#[]⟩,.int .i64 0] rfl (by kernel_rfl) (by kernel_rfl) (by kernel_rfl)
   (OpenSpec.preRow_of_cond 8 hx (by kernel_rfl) (fun k hk=>by cases hk;kernel_rfl) (by kernel_rfl) (laid_met os))) ?_
 intro W base args ds gs before hval hW _ hcond _ hL _ _
 exact contract H enc W base args ds gs before hval hW (hcond _ rfl) hL
theorem e_inp:(Rows.problemSystemsUptoRow.inPlace==Tryz.pinned.checked.prog.inPlace 7)=true:=by kernel_rfl
theorem e_unf:(Rows.problemSystemsUptoRow.unfollowed==Tryz.pinned.checked.prog.unfollowed 7)=true:=by kernel_rfl
theorem e_rec:(Rows.problemSystemsUptoRow.recurses==Tryz.pinned.checked.prog.recurses 7)=true:=by kernel_rfl
theorem e_nam:(Rows.problemSystemsUptoRow.named==Tryz.pinned.checked.prog.varsNamed 7)=true:=by kernel_rfl
theorem e_lps:(Rows.problemSystemsUptoRow.loops==(Tryz.f7.params.toList++(Rows.OpenSpec.upto Rows.problemSystemsSpec).bare.plain.varTypes Tryz.pinned.checked.prog).any (Tryz.pinned.checked.prog.loopsFrom ·))=true:=by kernel_rfl
theorem closed:joinedFacts Tryz.pinned.checked.prog 7 Tryz.f7 (Rows.OpenSpec.upto Rows.problemSystemsSpec).bare Rows.problemSystemsUptoRow=true:=by
 unfold joinedFacts
 rw[e_inp,e_unf,e_rec,e_nam,e_lps,pe_laid,pe_maps,pe_heard,pe_enter]
 kernel_rfl
theorem saidUpto:Rows.ProblemSystemsUptoSaid :=
 OpenClaim.holds_of_cond 7 Tryz.f7 rfl rfl rfl rfl rfl rfl rfl ⟨rfl,rfl,rfl,rfl,rfl⟩ rfl rfl rfl rfl rfl (by kernel_rfl) Tryz.func7 closed
  (of_decide_eq_true (by kernel_rfl)) (by unfold Func.isWrapper;first | (rw[if_pos (by decide +kernel)];kernel_rfl) | (rw[if_neg (by decide +kernel)];exact⟨rfl,rfl⟩))
  (fun os started H enc _ F=>by rw[OpenClaim.pre_eq_preRow];exact liftedUpto os started H enc F)
theorem plain (f : FuncId) (fn : Func) (hf : Tryz.pinned.checked.prog.funcNamed "flowpipe/flowpipelaw16.ProblemSystems" = some f) (hfn : Tryz.pinned.checked.prog.funcs[f]? = some fn) :
  true=Tryz.pinned.checked.prog.looks []∧∀ (j:Nat) t,fn.params[j]? = some t→Tryz.pinned.checked.prog.wantsStandIn t=false:=by
 obtain rfl : f = 7 := Option.some.inj ((show Tryz.prog.funcNamed "flowpipe/flowpipelaw16.ProblemSystems" = some 7 by kernel_rfl).symm.trans hf) |>.symm
 obtain rfl:fn=Tryz.f7:=(Option.some.inj (Tryz.func7.symm.trans hfn)).symm
 refine⟨by kernel_rfl,fun j t ht=>?_⟩
 rw[Tryz.params7] at ht
 have hm:=Array.mem_of_getElem? ht
 simp only[List.mem_toArray,List.mem_cons,List.not_mem_nil,or_false] at hm
 rcases hm with rfl | rfl | rfl
 ·exact (show Tryz.prog.wantsStandIn 27=false by kernel_rfl)
 ·exact (show Tryz.prog.wantsStandIn 9=false by kernel_rfl)
 exact (show Tryz.prog.wantsStandIn 3=false by kernel_rfl)
theorem cardUpto:Rows.ProblemSystemsUptoCardSaid :=
 Claim7.holds_tied_plain_at .later [] _ _ _ _ saidUpto nofun (by kernel_rfl) nofun problemSystemsUpto_row_tie rfl ⟨rfl,rfl⟩ (by kernel_rfl) rfl plain (by kernel_rfl)
#print axioms cardUpto
end Go.Proofs.YteidgoldnllabaaGreatDoor.problemSystems
