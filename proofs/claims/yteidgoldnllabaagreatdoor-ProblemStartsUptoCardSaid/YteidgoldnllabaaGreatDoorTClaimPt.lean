/-
  ProblemStarts returns true for every problem and precision whose bulk together is at most the form's bound, and leaves them as they were.
-/
import Derived.Test.YteidgoldnllabaaGreatDoorTRCoN
import Derived.Test.YteidgoldnllabaaGreatDoorTLawPt
namespace Go.Proofs.YteidgoldnllabaaGreatDoor.problemStarts
open Go.ChangeShapes Go.WideShapes Go.ChangeAt Go.RowKit
set_option maxHeartbeats 2000000 in
set_option maxRecDepth 100000 in
theorem contract (H:Type) (enc:TypeId×Value→H) (W:World) (base:Nat) (args:Array Value) (ds gs:List (DataW H)) (before:List MemPlace)
  (hval:∀ (j:Nat) t v,Tryz.f12.params[j]? = some t→args[j]? = some v→Value.okWide Tryz.prog W .any base t v)
  (hW:DataW.Whole enc Tryz.prog Tryz.f12.params.toList Rows.problemStartsSpec.vars false W args.toList ds gs before) (hk:Rows.uptoSmall H (ds++gs)=true) (hL:laidMetH Tryz.prog Rows.problemStartsUptoRow.laid W) :
  Calls Tryz.prog 12 args W fun e W'=>∃ v,e=.returned v∧Rows.problemStartsSpec.post enc Tryz.prog Tryz.f12 false true false false W args v W':=by
 have hW':=hW
 have hlt:∀ p∈before,p.block<W.heap.size:=fun p hp=>hW'.lt p hp
 obtain⟨p,q,hA0,hV,rfl,hfz,hnd⟩:=hW
 have hA:DataW.TrodAll enc Tryz.prog W 0 (fun _=>true) true Tryz.f12.params.toList args.toList ds p:=hA0
 rw[Tryz.params12] at hA hval
 obtain⟨v0,vs0,d0,ds0,p0,q0,hargs,rfl,rfl,h0,r0⟩:=trodAll_cons hA
 obtain⟨v1,vs1,d1,ds1,p1,q1,rfl,rfl,rfl,h1,r1⟩:=trodAll_cons r0
 obtain⟨rfl,rfl,rfl⟩:=trodAll_nil r1
 obtain rfl:args=#[v0,v1]:=by cases args;simp_all
 obtain⟨rfl,rfl⟩:=trodVars_none hV
 obtain⟨cs0,rfl,_⟩:=okWide_struct Tryz.underlying27 (hval 0 27 v0 rfl rfl)
 obtain⟨i1,rfl⟩:=okWide_int Tryz.underlying3 (hval 1 3 v1 rfl rfl)
 clear hA0 hA r0
 have u0:Rows.uptoBulk d0≤1048576:=bulk_bound hk (by simp)
 obtain⟨f0,hf0⟩:=id h0
 obtain⟨x0,e0,hx0⟩:=open_pr hf0 u0
 obtain rfl:cs0=#[.slice x0.sa x0.ss.length x0.sc,.slice x0.pa x0.ps.length x0.pc,.slice x0.ma x0.ms.length x0.mc,.int .i64 x0.tn,.int .i64 x0.td]:=by
  have e3:cs0.toList=[.slice x0.sa x0.ss.length x0.sc,.slice x0.pa x0.ps.length x0.pc,.slice x0.ma x0.ms.length x0.mc,.int .i64 x0.tn,.int .i64 x0.td]:=e0
  rw[← Array.toList_inj];exact e3
 refine (Starts_ok x0 i1 W hx0 (tab_of_laid hL)).mono fun e W' ⟨he,hb⟩=>?_
 subst he
 have hb:Below W.heap.size W W':=hb
 refine⟨_,rfl,post_of_below (pa:=p0++(p1++[])) (pv:=[]) hW' (fun _ _ _=>trodAll_cons_mk (shut_bool Tryz.underlying4 _) trodAll_mk0) (fun sp hs=>?_) (fun _ _=>rfl) (by simp) hb (ok_one (by kernel_rfl) rfl (okWide_bool_mk Tryz.underlying4 _))⟩
 rw[Tryz.params12]
 exact trodAll_cons_mk (WideElems.Trod_stays laidOutSeat (by kernel_rfl) (of_decide_eq_true (by kernel_rfl)) h0 (fun x hx=>hb.same (hlt x (by simp[hx]))) (fun x hx=>hs x (by simp[hx])))
  (trodAll_cons_mk (WideElems.Trod_stays laidOutSeat (by kernel_rfl) (of_decide_eq_true (by kernel_rfl)) h1 (fun x hx=>hb.same (hlt x (by simp[hx]))) (fun x hx=>hs x (by simp[hx])))
  trodAll_mk0)
theorem laid_met (os:Os):laidMet Tryz.prog Rows.problemStartsUptoRow.laid ((laidWorld os).forCall (fun _ _=>0) ⟨#[],#[.agg #[.slice none 0 0,.slice none 0 0,.slice none 0 0,.int .i64 0,.int .i64 0],.int .i64 0],[]⟩).memory :=
 laidMet_of_run' 8 (by kernel_rfl) (by kernel_rfl)
theorem reads (os:Os) {H:Type} (enc:TypeId×Value→H):∃ places,DataW.whole enc Tryz.prog ((laidWorld os).forCall (fun _ _=>0) ⟨#[],#[.agg #[.slice none 0 0,.slice none 0 0,.slice none 0 0,.int .i64 0,.int .i64 0],.int .i64 0],[]⟩).memory Tryz.f12.params.toList Rows.problemStartsSpec.vars false #[Value.agg #[.slice none 0 0,.slice none 0 0,.slice none 0 0,.int .i64 0,.int .i64 0],Value.int .i64 0].toList 8=some ([.agg [.nil,.nil,.nil,.agg [.lit (.int .i64 0),.lit (.int .i64 0)]],.lit (.int .i64 0)],[],places) :=
 ⟨[],by kernel_rfl⟩
set_option maxRecDepth 100000 in
theorem liftedUpto (os:Os) (started:os.Started) (H:Type) (enc:TypeId×Value→H) (F:Stop.Interp) :
  ReturnsInHanded {} Tryz.checked os 12 .any ((Rows.OpenSpec.upto Rows.problemStartsSpec).preRow enc Tryz.prog Tryz.f12 Rows.problemStartsUptoRow.domain false Rows.problemStartsUptoRow.laid) (((Rows.OpenSpec.upto Rows.problemStartsSpec).at F).post enc Tryz.prog Tryz.f12 false true false false):=by
 obtain⟨places,hx⟩:=reads os enc
 refine returnsInHanded_of_row (C:=Tryz.checked) (s:=Rows.OpenSpec.upto Rows.problemStartsSpec) ownKnobs started (by kernel_rfl) Tryz.func12
  (witness_row_at (enc:=enc) (C:=Tryz.checked) false (laidWorld os) #[.agg #[.slice none 0 0,.slice none 0 0,.slice none 0 0,.int .i64 0,.int .i64 0],.int .i64 0] rfl (by kernel_rfl) (by kernel_rfl) (by kernel_rfl)
   (OpenSpec.preRow_of_cond 8 hx (by kernel_rfl) (fun k hk=>by cases hk;kernel_rfl) (by kernel_rfl) (laid_met os))) ?_
 intro W base args ds gs before hval hW _ hcond _ hL _ _
 exact contract H enc W base args ds gs before hval hW (hcond _ rfl) hL
theorem e_inp:(Rows.problemStartsUptoRow.inPlace==Tryz.pinned.checked.prog.inPlace 12)=true:=by kernel_rfl
theorem e_unf:(Rows.problemStartsUptoRow.unfollowed==Tryz.pinned.checked.prog.unfollowed 12)=true:=by kernel_rfl
theorem e_rec:(Rows.problemStartsUptoRow.recurses==Tryz.pinned.checked.prog.recurses 12)=true:=by kernel_rfl
theorem e_nam:(Rows.problemStartsUptoRow.named==Tryz.pinned.checked.prog.varsNamed 12)=true:=by kernel_rfl
theorem e_lps:(Rows.problemStartsUptoRow.loops==(Tryz.f12.params.toList++(Rows.OpenSpec.upto Rows.problemStartsSpec).bare.plain.varTypes Tryz.pinned.checked.prog).any (Tryz.pinned.checked.prog.loopsFrom ·))=true:=by kernel_rfl
theorem closed:joinedFacts Tryz.pinned.checked.prog 12 Tryz.f12 (Rows.OpenSpec.upto Rows.problemStartsSpec).bare Rows.problemStartsUptoRow=true:=by
 unfold joinedFacts
 rw[e_inp,e_unf,e_rec,e_nam,e_lps,pe_laid,pe_maps,pe_heard,pe_enter]
 kernel_rfl
theorem saidUpto:Rows.ProblemStartsUptoSaid :=
 OpenClaim.holds_of_cond 12 Tryz.f12 rfl rfl rfl rfl rfl rfl rfl ⟨rfl,rfl,rfl,rfl,rfl⟩ rfl rfl rfl rfl rfl (by kernel_rfl) Tryz.func12 closed
  (of_decide_eq_true (by kernel_rfl)) (by unfold Func.isWrapper;first | (rw[if_pos (by decide +kernel)];kernel_rfl) | (rw[if_neg (by decide +kernel)];exact⟨rfl,rfl⟩))
  (fun os started H enc _ F=>by rw[OpenClaim.pre_eq_preRow];exact liftedUpto os started H enc F)
theorem plain (f : FuncId) (fn : Func) (hf : Tryz.pinned.checked.prog.funcNamed "flowpipe/flowpipelaw16.ProblemStarts" = some f) (hfn : Tryz.pinned.checked.prog.funcs[f]? = some fn) :
  true=Tryz.pinned.checked.prog.looks []∧∀ (j:Nat) t,fn.params[j]? = some t→Tryz.pinned.checked.prog.wantsStandIn t=false:=by
 obtain rfl : f = 12 := Option.some.inj ((show Tryz.prog.funcNamed "flowpipe/flowpipelaw16.ProblemStarts" = some 12 by kernel_rfl).symm.trans hf) |>.symm
 obtain rfl:fn=Tryz.f12:=(Option.some.inj (Tryz.func12.symm.trans hfn)).symm
 refine⟨by kernel_rfl,fun j t ht=>?_⟩
 rw[Tryz.params12] at ht
 have hm:=Array.mem_of_getElem? ht
 simp only[List.mem_toArray,List.mem_cons,List.not_mem_nil,or_false] at hm
 rcases hm with rfl | rfl
 ·exact (show Tryz.prog.wantsStandIn 27=false by kernel_rfl)
 exact (show Tryz.prog.wantsStandIn 3=false by kernel_rfl)
theorem cardUpto:Rows.ProblemStartsUptoCardSaid :=
 Claim7.holds_tied_plain_at .later [] _ _ _ _ saidUpto nofun (by kernel_rfl) nofun problemStartsUpto_row_tie rfl ⟨rfl,rfl⟩ (by kernel_rfl) rfl plain (by kernel_rfl)
#print axioms cardUpto
end Go.Proofs.YteidgoldnllabaaGreatDoor.problemStarts
