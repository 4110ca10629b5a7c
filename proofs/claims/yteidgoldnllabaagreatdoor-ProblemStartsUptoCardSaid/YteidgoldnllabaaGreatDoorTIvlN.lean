/-
  Walks: problem.interval, intervals, precise.
-/
import Derived.Deep.CutRange
import Derived.Deep.DeepFit
import Derived.Test.YteidgoldnllabaaGreatDoorTEncN
import Derived.Test.YteidgoldnllabaaGreatDoorTFndN
import Derived.Test.YteidgoldnllabaaGreatDoorTTail
import Derived.Test.YteidgoldnllabaaGreatDoorTBoxB
import Derived.Test.YteidgoldnllabaaGreatDoorTTpoN
import Derived.Test.YteidgoldnllabaaGreatDoorTRCoN
import Derived.Test.YteidgoldnllabaaGreatDoorTBoxV
import Derived.Test.YteidgoldnllabaaGreatDoorTAwkT
set_option maxHeartbeats 8000000
set_option maxRecDepth 100000
namespace Go.Proofs.YteidgoldnllabaaGreatDoor
open Go.RowKit
open Lib (hid)
theorem run_fieldI0 (x0 x1 x2 x3 x4 x5 x6:Value) (w:World):(Instr.field 115 (.agg #[x0,x1,x2,x3,x4,x5,x6]) 0).run Tryz.prog w=.ok (.agg #[x0,x1,x2]) w:=by kernel_rfl
theorem run_fieldI1 (x0 x1 x2 x3 x4 x5 x6:Value) (w:World):(Instr.field 115 (.agg #[x0,x1,x2,x3,x4,x5,x6]) 1).run Tryz.prog w=.ok (.agg #[x3,x4,x5]) w:=by kernel_rfl
def valI (z:RI):Dy×Dy×Bool:=(z.lo.dy,z.hi.dy,z.all)
def rngV (p:Nat) (d:De):Dy×Dy×Bool:=((encR d.ln d.ld p).1,(encR d.hn d.hd p).2.1,false)
def IvlOut (w:World) (p:Nat) (d:De) (e:Ending) (w':World):Prop:=∃ z:RI,e=.returned (.agg #[.bool z.lo.neg,.slice z.lo.a z.lo.xs.length z.lo.c,.int .i64 z.lo.e,.bool z.hi.neg,.slice z.hi.a z.hi.xs.length z.hi.c,.int .i64 z.hi.e,.bool z.all])∧(z.lo.ok w'∧z.hi.ok w')∧valI z=rngV p d∧Kp w w'
theorem keep4V {w w':World} (k:Kp w w') {p0 p1 p2 p3:Addr} {v0 v1 v2 v3:Value} (h:w.cell? p0=some v0∧w.cell? p1=some v1∧w.cell? p2=some v2∧w.cell? p3=some v3) :
  w'.cell? p0=some v0∧w'.cell? p1=some v1∧w'.cell? p2=some v2∧w'.cell? p3=some v3:=⟨k.cell h.1,k.cell h.2.1,k.cell h.2.2.1,k.cell h.2.2.2⟩
theorem ivl_any (d:De) (p:Nat) (w:World) (hv:declB d=true) (h0:8≤p) (h1:p≤512) (hT:Tab w) :
  Calls Tryz.prog 140 #[.agg #[.int .i64 d.ln,.int .i64 d.ld,.int .i64 d.hn,.int .i64 d.hd],.int .i64 (p:Int)] w (IvlOut w p d):=by
 obtain⟨v1,v2⟩:=declB_rat hv
 have k1:Kp w ((w.alloc (.cells #[.int .i64 d.ln,.int .i64 d.ld,.int .i64 d.hn,.int .i64 d.hd] 66)).alloc (.cells #[.bool false,.slice none 0 0,.int .i64 0,.bool false,.slice none 0 0,.int .i64 0,.bool false] 115)):=((Kp.refl w).alloc _).alloc _
 have hA:BoxV ((w.alloc (.cells #[.int .i64 d.ln,.int .i64 d.ld,.int .i64 d.hn,.int .i64 d.hd] 66)).alloc (.cells #[.bool false,.slice none 0 0,.int .i64 0,.bool false,.slice none 0 0,.int .i64 0,.bool false] 115)) w.heap.size [.int .i64 d.ln,.int .i64 d.ld,.int .i64 d.hn,.int .i64 d.hd]:=(BoxV.new w [_,_,_,_] _ _ rfl).kp ((Kp.refl _).alloc _)
 have hB:Var7 ((w.alloc (.cells #[.int .i64 d.ln,.int .i64 d.ld,.int .i64 d.hn,.int .i64 d.hd] 66)).alloc (.cells #[.bool false,.slice none 0 0,.int .i64 0,.bool false,.slice none 0 0,.int .i64 0,.bool false] 115)) (w.heap.size+1):=by
  have:=Var7.new (w.alloc (.cells #[.int .i64 d.ln,.int .i64 d.ld,.int .i64 d.hn,.int .i64 d.hd] 66)) 115
  rwa [World.size_alloc] at this
 have HE1:=hid fun W (T:Tab W)=>enc_any d.ln d.ld p W v1 h0 h1 T
 have HE2:=hid fun W (T:Tab W)=>enc_any d.hn d.hd p W v2 h0 h1 T
 have hf0:=run_fieldI0
 have hf1:=run_fieldI1
 clear hv v1 v2
 go_enter Tryz.func140,Tryz.ntmps140
 go_upto_region 1 with fail
 generalize World.alloc _ _=W at *
 have hSd:W.drew.cell? ⟨w.heap.size,0,none⟩=some (.int .i64 d.ln)∧W.drew.cell? ⟨w.heap.size,1,none⟩=some (.int .i64 d.ld)∧W.drew.cell? ⟨w.heap.size,2,none⟩=some (.int .i64 d.hn)∧W.drew.cell? ⟨w.heap.size,3,none⟩=some (.int .i64 d.hd):=keep4V (Kp.refl W).drew ⟨hA.cell 0 rfl,hA.cell 1 rfl,hA.cell 2 rfl,hA.cell 3 rfl⟩
 have HB:=hid (hB.kp (Kp.refl W).drew)
 have HT:=hid (hT.kp (k1.trans (Kp.refl W).drew))
 have K1:=hid (k1.trans (Kp.refl W).drew)
 have HD:=hid hSd
 refine wp_region_held_drew (S:=fun w'=>w'.cell? ⟨w.heap.size,0,none⟩=some (.int .i64 d.ln)∧w'.cell? ⟨w.heap.size,1,none⟩=some (.int .i64 d.ld)∧w'.cell? ⟨w.heap.size,2,none⟩=some (.int .i64 d.hn)∧w'.cell? ⟨w.heap.size,3,none⟩=some (.int .i64 d.hd)) (by kernel_rfl) hSd (fun hHeld=>?_)
 clear hSd hA hB hT k1
 refine tk 0 ?_;refine tk 1 ?_;refine tk 2 ?_;refine tk 5 ?_;refine tk 6 ?_;refine tk 7 ?_;(try simp only[aput])
 refine cm 3 (fun K hK=>?_)
 (go_simp;go_fit (HE1.out _ HT.out);rintro r w3 ⟨z1,rfl,o1,e1,k3⟩)
 have HD3:=hid (keep4V k3 HD.out)
 refine hK.out _ _ HD3.out (fun hHeld=>?_);clear hK K
 have O1:=hid (And.intro o1 e1)
 have K3:=hid k3
 clear o1 e1 k3
 refine tk 4 ?_;(try simp only[aput])
 refine cm 8 (fun K hK=>?_)
 (go_simp;go_fit (HE2.out _ (HT.out.kp K3.out));rintro r w4 ⟨z2,rfl,o2,e2,k4⟩)
 have HD4:=hid (keep4V k4 HD3.out)
 refine hK.out _ _ HD4.out (fun hHeld=>?_);clear hK K
 have O2:=hid (And.intro o2 e2)
 have HB4:=hid (HB.out.kp (K3.out.trans k4))
 have HK4:=hid (K1.out.trans (K3.out.trans k4))
 have O1b:=hid (And.intro (O1.out.1.1.kp k4) O1.out.2)
 clear o2 e2 k4
 refine tk 9 ?_;refine tk 10 ?_;(try simp only[aput])
 obtain⟨⟨q0,q1,q2,q3,q4,q5,q6⟩,f0,f1,f2,f3,f4,f5,f6⟩:=id HB4.out
 refine cm 11 (fun K hK=>?_)
 go_simp
 generalize hW9:((((((w4.setCell _ _).setCell _ _).setCell _ _).setCell _ _).setCell _ _).setCell _ _).setCell _ _=W9
 obtain⟨⟨s0,s1,s2,s3,s4,s5,s6⟩,hU⟩:=stored7 (show Box7 w4 _ _ _ _ _ _ _ _ from ⟨q0,q1,q2,q3,q4,q5,q6⟩) nofun nofun nofun nofun nofun nofun nofun _ _ _ _ _ _ _ hW9
 clear hW9 q0 q1 q2 q3 q4 q5 q6 f0 f1 f2 f3 f4 f5 f6
 have hne (j:Nat):W9.cell? ⟨w.heap.size,j,none⟩=w4.cell? ⟨w.heap.size,j,none⟩:=hU.2.2.2.1 ⟨w.heap.size,j,none⟩ (by show w.heap.size≠w.heap.size+1;omega)
 refine hK.out _ _ ⟨(hne 0).trans HD4.out.1,(hne 1).trans HD4.out.2.1,(hne 2).trans HD4.out.2.2.1,(hne 3).trans HD4.out.2.2.2⟩ (fun hHeld=>?_)
 clear hK K
 refine wpAnyH_done (by kernel_rfl) ?_ _
 go_wp2_with fail
 refine bodyPost_ret (v:=.agg #[.bool (RI.mk z1.lo z2.hi false).lo.neg,.slice (RI.mk z1.lo z2.hi false).lo.a (RI.mk z1.lo z2.hi false).lo.xs.length (RI.mk z1.lo z2.hi false).lo.c,.int .i64 (RI.mk z1.lo z2.hi false).lo.e,.bool (RI.mk z1.lo z2.hi false).hi.neg,.slice (RI.mk z1.lo z2.hi false).hi.a (RI.mk z1.lo z2.hi false).hi.xs.length (RI.mk z1.lo z2.hi false).hi.c,.int .i64 (RI.mk z1.lo z2.hi false).hi.e,.bool (RI.mk z1.lo z2.hi false).all]) (by simp[results,Tryz.results140,go_sem,s0,s1,s2,s3,s4,s5,s6]) rfl ?_
 refine⟨RI.mk z1.lo z2.hi false,rfl,⟨⟨hU.rdD O1b.out.1.1,O1b.out.1.2⟩,⟨hU.rdD O2.out.1.2.1,O2.out.1.2.2⟩⟩,?_,hU.2.2.1 _ HK4.out (by omega)⟩
 have h1:=O1b.out.2
 have h2:=O2.out.2
 unfold valI rngV
 rw[← h1,← h2]
theorem pprecise_any (n:Int) (w:World):Calls Tryz.prog 83 #[.int .i64 n] w fun r w'=>r=.returned (.bool (preB n))∧w'=w:=by
 by_cases h1:8≤n
 rotate_left
 ·have HZ:=hid (show preB n=false from Bool.eq_false_iff.2 fun h=>h1 (preB_iff.1 h).1)
  go_enter Tryz.func83,Tryz.ntmps83
  go_wp2
  go_ret
  exact⟨by rw[HZ.out];first | rfl | simp,rfl⟩
 by_cases h2:n≤512
 ·have HZ:=hid (show preB n=true from preB_iff.2 ⟨h1,h2⟩)
  go_enter Tryz.func83,Tryz.ntmps83
  go_wp2
  go_ret
  exact⟨by rw[HZ.out];first | rfl | simp,rfl⟩
 have HZ:=hid (show preB n=false from Bool.eq_false_iff.2 fun h=>h2 (preB_iff.1 h).2)
 go_enter Tryz.func83,Tryz.ntmps83
 go_wp2
 go_ret
 exact⟨by rw[HZ.out];first | rfl | simp,rfl⟩
theorem ivls_any (l:List De) (a:Option Addr) (c B:Nat) (p:Nat) (w:World) (hr:RowV De.cells 5 w B a l) (hl:l.length≤1000000) (hv:∀ d∈l,declB d=true) (h0:8≤p) (h1:p≤512) (hT:Tab w) :
   Calls Tryz.prog 87 #[.slice a l.length c,.int .i64 (p:Int)] w fun r w'=>∃ v zs,r=.returned v∧OwnN w w' v zs∧zs.map valI=l.map (rngV p)∧∀ z∈zs,z.lo.vl=true∧z.hi.vl=true:=by
 have HR:=hid hr
 have HT:=hid hT
 have HV:=hid hv
 clear hr hT hv
 go_enter Tryz.func87,Tryz.ntmps87
 go_upto_region 3 with fail
 go_loopw [5,10] (fun y x wr=>∃ (k:Nat) (zs:List RI),k≤l.length∧x=.int .i64 k∧OwnN w wr y zs∧zs.map valI=(l.take k).map (rngV p)∧∀ z∈zs,z.lo.vl=true∧z.hi.vl=true) (fun _ x _=>l.length-(intOf x).toNat)
 case atStart=>exact⟨0,[],by omega,rfl,OwnN.nil (Kp.refl _),rfl,fun z h=>by simp at h⟩
 case round =>
 obtain⟨k,zs,hk,rfl,hO,hm,hz⟩:=hrel
 have hkw:=hO.1
 have HO:=hid hO
 have HM:=hid (And.intro hm hz)
 have hzl:zs.length≤1000000:=by
   have:=congrArg List.length hm
   rw[List.length_map,List.length_map,List.length_take] at this
   omega
 by_cases hlt:k<l.length
 rotate_left
 · have hk2:k=l.length:=by omega
   subst hk2
   rw[List.take_length] at HM
   clear hO hkw hm hz
   go_wp2
   go_ret
   exact⟨_,zs,rfl,HO.out,HM.out.1,HM.out.2⟩
 obtain⟨d,hs⟩:∃ d,l[k]? = some d:=⟨_,List.getElem?_eq_getElem hlt⟩
 obtain⟨b,o,ha,_,hc⟩:=HR.out.kp hkw k d hs
 have HTk:=hid (take_map (rngV p) hs)
 have k2:Kp wr (wr.alloc (.cells #[.string d.name,.int .i64 d.ln,.int .i64 d.ld,.int .i64 d.hn,.int .i64 d.hd] 68)):=(Kp.refl wr).alloc _
 have hb2:BoxV (wr.alloc (.cells #[.string d.name,.int .i64 d.ln,.int .i64 d.ld,.int .i64 d.hn,.int .i64 d.hd] 68)) wr.heap.size d.cells:=BoxV.new wr d.cells _ _ rfl
 have HI:=hid fun W (k:Kp w W)=>ivl_any d p W (HV.out d (List.mem_of_getElem? hs)) h0 h1 (HT.out.kp k)
 have q0:wr.cell? ⟨b,o+k*5,none⟩=some (.string d.name):=hc 0 _ rfl;have q1:=hc 1 _ rfl;have q2:=hc 2 _ rfl;have q3:=hc 3 _ rfl;have q4:=hc 4 _ rfl
 have Ha:=ha
 have HKW:=hid (hkw.trans k2)
 clear hc hs hkw ha hO hm hz
 rw[Ha]
 go_upto_region 5 with fail
 generalize wr.alloc _=W2 at *
 have HO2:=hid (HO.out.kp k2)
 have p1:=hb2.cell 1 rfl
 have p2:=hb2.cell 2 rfl
 have p3:=hb2.cell 3 rfl
 have p4:=hb2.cell 4 rfl
 clear hb2 q0 q1 q2 q3 q4 k2 HO
 go_wp2_with (first
   | (go_at_call 140; go_fit (HI.out _ HKW.out); rintro r v1 ⟨z, rfl, oz, ez, j1⟩
      have hownA:=HO2.out.kp (j1.alloc (.cells #[.bool z.lo.neg,.slice z.lo.a z.lo.xs.length z.lo.c,.int .i64 z.lo.e,.bool z.hi.neg,.slice z.hi.a z.hi.xs.length z.hi.c,.int .i64 z.hi.e,.bool z.all] 115))
      have hzA:=(show z.rd v1 from ⟨oz.1.1,oz.2.1⟩).kp ((Kp.refl v1).alloc (.cells #[.bool z.lo.neg,.slice z.lo.a z.lo.xs.length z.lo.c,.int .i64 z.lo.e,.bool z.hi.neg,.slice z.hi.a z.hi.xs.length z.hi.c,.int .i64 z.hi.e,.bool z.all] 115))
      have ZP:=hid (And.intro oz ez)
      clear oz ez)
   | (at_builtin;refine wpList_append_ivn rfl _ _ rfl w _ zs rfl hownA _ _ rfl z hzA (by simp) (by omega) ?_;intro a' c' w9 hown9 hgrow)
   | fail)
 go_roundw
 case measure=>simp only[intOf];omega
 case rel =>
 refine⟨k+1,zs++[z],by omega,by go_num,hown9,?_,?_⟩
 · rw[HTk.out,List.map_append,HM.out.1]
   show _++[valI z]=_
   rw[ZP.out.2]
 intro y hy
 rcases List.mem_append.1 hy with h | h
 · exact HM.out.2 y h
 simp only[List.mem_singleton] at h
 subst h
 exact⟨ZP.out.1.1.2,ZP.out.1.2.2⟩
theorem orF_none_iff {a b:Flt}:orF a b=none↔a=none∧b=none:=by
 cases a with
 | some x=>exact⟨fun h=>(by cases h),fun h=>(by cases h.1)⟩
 | none=>exact⟨fun h=>⟨rfl,h⟩,fun h=>h.2⟩
theorem needF_none {ok:Bool} {c:Int} {s:ByteArray} (h:needF ok c s=none):ok=true:=by
 unfold needF at h
 split at h
 ·assumption
 cases h
theorem okF_none {p:Pr} (h:okF p=true):checkF p=none:=by
 unfold okF at h
 cases hc:checkF p with
 | some f=>rw[hc] at h;cases h
 | none=>rfl
theorem okF_modes {p:Pr} (h:okF p=true):modesF (stN p) (allN p) (mdN p) p.ms=none:=by
 have:=okF_none h
 rw[checkF_eq] at this
 exact (orF_none_iff.1 (orF_none_iff.1 (orF_none_iff.1 (orF_none_iff.1 (orF_none_iff.1 this).2).2).2).2).2
theorem modesF_none {st all mds:List ByteArray}:∀ {ms:List Mo},modesF st all mds ms=none→∀ m∈ms,modeF st all mds m=none
 | [],_,m,hm=>by cases hm
 | x::t,h,m,hm=>by
  rw[modesF] at h
  obtain⟨h1,h2⟩:=orF_none_iff.1 h
  rcases List.mem_cons.1 hm with rfl | hm
  ·exact h1
  ·exact modesF_none h2 m hm
theorem missF_none {hv:List ByteArray}:∀ {st:List ByteArray},missF hv st=none→∀ s∈st,s∈hv
 | [],_,s,hs=>by cases hs
 | x::t,h,s,hs=>by
  rw[missF] at h
  obtain⟨h1,h2⟩:=orF_none_iff.1 h
  rcases List.mem_cons.1 hs with rfl | hs
  ·exact inS_iff.1 (needF_none h1)
  ·exact missF_none h2 s hs
theorem side_some {p:Pr} {m:Mo} (h:okF p=true) (hm:m∈p.ms) {d:De} (hd:d∈p.ss):∃ q,m.fs.find? (fun q=>decide (q.name=d.name))=some q:=by
 have h1:=modesF_none (okF_modes h) m hm
 unfold modeF at h1
 have h2:=(orF_none_iff.1 (orF_none_iff.1 h1).2).1
 have h3:=missF_none h2 d.name (List.mem_map_of_mem hd)
 obtain⟨q,hq,hn⟩:=List.mem_map.1 h3
 cases hf:m.fs.find? (fun q=>decide (q.name=d.name)) with
 | some q=>exact⟨q,rfl⟩
 | none =>
 have:=List.find?_eq_none.1 hf q hq
 simp[hn] at this
theorem okF_mode {p:Pr} {m:Mo} (h:okF p=true) (hm:m∈p.ms):modeB m=true:=by
 have h1:=okF_prob h
 unfold probB at h1
 simp only[Bool.and_eq_true,List.all_eq_true] at h1
 exact h1.2.2.2.1 m hm
theorem okF_eqn {p:Pr} {m:Mo} (h:okF p=true) (hm:m∈p.ms) {q:Qe} (hq:q∈m.fs):q.e.ok=true:=by
 have h1:=okF_mode h hm
 unfold modeB at h1
 simp only[Bool.and_eq_true,List.all_eq_true] at h1
 have h2:=h1.2.2.2.1 q hq
 unfold eqnB at h2
 simp only[Bool.and_eq_true] at h2
 exact h2.2
theorem modeO_mem {p:Pr} {s:ByteArray} {m:Mo} (h:modeO p s=some m):okF p=true∧m∈p.ms:=by
 unfold modeO at h
 split at h
 ·rename_i ho
  exact⟨ho,List.mem_of_find?_eq_some h⟩
 cases h
def sideE (m:Mo) (d:De):Ex:=match m.fs.find? (fun q=>decide (q.name=d.name)) with
 | some q=>q.e
 | none=>Ex.zero
def rightsF (p:Pr) (m:Mo):List Ex:=p.ss.map (sideE m)
theorem sideE_some {m:Mo} {d:De} {q:Qe} (h:m.fs.find? (fun q=>decide (q.name=d.name))=some q):sideE m d=q.e:=by unfold sideE;rw[h]
theorem rights_ok {p:Pr} {m:Mo} (h:okF p=true) (hm:m∈p.ms):∀ x∈rightsF p m,x.ok=true∧∃ q∈m.fs,x=q.e:=by
 intro x hx
 obtain⟨d,hd,rfl⟩:=List.mem_map.1 hx
 obtain⟨q,hq⟩:=side_some h hm hd
 have hqm:=List.mem_of_find?_eq_some hq
 rw[sideE_some hq]
 exact⟨okF_eqn h hm hqm,q,hqm,rfl⟩
theorem ex_ok {x:Ex} (h:x.ok=true):x.fin∧x.size≤200:=by
 unfold Ex.ok at h
 simp only[Bool.and_eq_true,decide_eq_true_eq] at h
 exact⟨ok_fin x h.1,h.2.2⟩
structure Sy where
 ins:Int
 oa:Option Addr
 oc:Nat
 ops:List Opn
 ua:Option Addr
 uc:Nat
 outs:List Int
 st:Int
 pa:Option Addr
 pc:Nat
 ps:List RI
def Sy.cells (x:Sy):List Value:=[.int .i64 x.ins,.slice x.oa x.ops.length x.oc,.slice x.ua x.outs.length x.uc,.int .i64 x.st,.slice x.pa x.ps.length x.pc]
def Sy.zero:Sy:=⟨0,none,0,[],none,0,[],0,none,0,[]⟩
def Sy.at (x:Sy) (w:World):Prop:=RowV Opn.cells 6 w w.heap.size x.oa x.ops∧RowV numC 1 w w.heap.size x.ua x.outs∧RowI w x.pa x.ps∧∀ z∈x.ps,z.lo.vl=true∧z.hi.vl=true
def Sy.val (x:Sy):Int×List Opn×List Int×Int×List (Dy×Dy×Bool):=(x.ins,x.ops,x.outs,x.st,x.ps.map valI)
def sysE (p:Pr) (s:ByteArray) (prec:Int):Int :=
 if okF p=false then 1 else if preB prec=false then 2 else match modeO p s with
  | none=>7
  | some m=>if 200<(tapeF (allN p) [] (rightsF p m)).1.length then 5 else 0
def sysV (p:Pr) (s:ByteArray) (prec:Int):Int×List Opn×List Int×Int×List (Dy×Dy×Bool):=match modeO p s with
 | none=>Sy.zero.val
 | some m=>if preB prec=true∧¬ 200<(tapeF (allN p) [] (rightsF p m)).1.length then (((allN p).length:Int),(tapeF (allN p) [] (rightsF p m)).1,(tapeF (allN p) [] (rightsF p m)).2,(p.ss.length:Int),p.ps.map (rngV prec.toNat)) else Sy.zero.val
def SysOut (w:World) (p:Pr) (s:ByteArray) (prec:Int) (r:Ending) (w':World):Prop :=
 ∃ x:Sy,r=.returned (.tuple #[.agg x.cells.toArray,.int .i64 (sysE p s prec)])∧x.at w'∧x.val=sysV p s prec∧Kp w w'∧x.ops.length≤x.oc
section
open Go.RowKit Go.Sort
theorem place_any (a:Option Addr) (c:Nat) (ss:List ByteArray) (s:ByteArray) (w:World) (hrow:RowS w a ss) (hm:ss.length≤1100000) :
  Calls Tryz.prog 133 #[.slice a ss.length c,.string s] w fun e w'=>e=.returned (.int .i64 (placeF s ss))∧Kp w w':=by
 have HR:=hid hrow
 clear hrow
 go_enter Tryz.func133,Tryz.ntmps133
 go_wp2
 go_loopw [5] (fun x wr=>∃ k:Nat,k≤ss.length∧x=.int .i64 k∧(∀ i,i<k→ss[i]?≠some s)∧Kp w wr) (fun x _=>ss.length-(intOf x).toNat)
 case atStart=>exact⟨0,by omega,rfl,fun i h=>absurd h (Nat.not_lt_zero _),.refl _⟩
 case round =>
 obtain⟨k,hk,rfl,hz,hkp⟩:=hrel
 have Hz:=hid hz
 have Hk:=hid hkp
 clear hz
 by_cases hlt:k<ss.length
 rotate_left
 ·have Ha:=hid (show placeF s ss=-1 from placeF_no fun hs=>by
   obtain⟨i,hi⟩:=List.getElem?_of_mem hs
   exact Hz.out i (by have:=(List.getElem?_eq_some_iff.1 hi).1;omega) hi)
  clear hkp
  go_wp2
  go_ret
  exact⟨by rw[Ha.out];first | rfl | skip,Hk.out⟩
 obtain⟨t,ht⟩:∃ t,ss[k]? = some t:=⟨_,List.getElem?_eq_getElem hlt⟩
 obtain⟨b,o,rfl,h0⟩:=HR.out.kp hkp k t ht
 have Hs:=hid ht
 clear ht hkp
 by_cases hq:t=s
 ·subst hq
  have Ha:=hid (placeF_at Hs.out Hz.out)
  go_wp2
  go_ret
  exact⟨by rw[Ha.out];first | rfl | skip,Hk.out⟩
 have hq3:(t.toList==s.toList)=false:=strNe hq
 go_wp2
 go_roundw
 case measure=>simp only[intOf];omega
 case rel =>
 refine⟨k+1,by omega,by go_num,fun i hi=>?_,Hk.out⟩
 by_cases h:i=k
 ·subst h;rw[Hs.out];intro e;cases e;exact hq rfl
 exact Hz.out i (by omega)
def rfltV:Flt→Value
 | none=>.agg #[.int .i64 0,.string ⟨#[]⟩]
 | some x=>.agg #[.int .i64 x.1,.string x.2]
theorem box2_set {w W:World} {g:Nat} {v0 v1:Value} (h:BoxV W g [v0,v1]) (k:Kp w W) (hg:w.heap.size≤g) (x0 x1:Value) {W':World} (hW:((W.setCell ⟨g,0,none⟩ x0).setCell ⟨g,1,none⟩ x1)=W') :
  BoxV W' g [x0,x1]∧Kp w W':=by
 subst hW
 exact⟨(h.set (i:=0) (by simp) x0).set (i:=1) (by simp) x1,(k.set hg x0).set hg x1⟩
theorem rfault_any (c:Int) (s:ByteArray) (w:World):Calls Tryz.prog 69 #[.int .i64 c,.string s] w fun r w'=>r=.returned (.agg #[.int .i64 c,.string s])∧Kp w w':=by
 have k1:Kp w (w.alloc (.cells #[.int .i64 c,.string s] 36)):=(Kp.refl w).alloc _
 have hb:BoxV (w.alloc (.cells #[.int .i64 c,.string s] 36)) w.heap.size [.int .i64 c,.string s]:=BoxV.new w [_,_] _ _ rfl
 go_enter Tryz.func69,Tryz.ntmps69
 go_wp2_with fail
 generalize w.alloc _=W9 at *
 have s0:=hb.cell 0 rfl
 have s1:=hb.cell 1 rfl
 refine bodyPost_ret (v:=.agg #[.int .i64 c,.string s]) (by simp[results,Tryz.results69,go_sem,s0,s1]) rfl ?_
 exact⟨rfl,k1⟩
end
section
open Go.RowKit Go.Sort
theorem nmU_er (xs:List Ex):nmU (xs.map Ex.er)=nmU xs:=by
 unfold nmU
 congr 1
 induction xs with
 | nil=>rfl
 | cons x t ih =>
  rw[List.map_cons,List.filter_cons,List.filter_cons,Ex.er_kind]
  split
  ·rw[List.map_cons,List.map_cons,Ex.er_name,ih]
  ·exact ih
theorem namO_ok {e:Ex} (h:e.ok=true):namO e=nmU e.flat:=by
 rw[← nmU_er]
 unfold namO flatE
 rw[if_pos h]
 rfl
theorem unknF_step {all ns:List ByteArray} {k:Nat} {s:ByteArray} (h:ns[k]? = some s):unknF all (ns.drop k)=orF (needF (isIn s all) 7 s) (unknF all (ns.drop (k+1))):=by
 obtain⟨hl,he⟩:=List.getElem?_eq_some_iff.1 h
 rw[List.drop_eq_getElem_cons hl,unknF,he]
theorem rknown_any (all:List ByteArray) (a:Option Addr) (c:Nat) (e:Ex) (w:World) (B:Nat) (hall:RowS w a all) (hal:all.length≤1000) (hat:e.at w B) (hok:e.ok=true) :
  Calls Tryz.prog 99 #[.slice a all.length c,.agg #[.int .i64 e.kind,.int .i64 e.rn,.int .i64 e.rd,.string e.name,.int .i64 e.pw,.slice e.a e.l.length e.c]] w fun r w'=>r=.returned (rfltV (knownF all e))∧Kp w w':=by
 have k1:Kp w ((w.alloc (.cells #[.int .i64 e.kind,.int .i64 e.rn,.int .i64 e.rd,.string e.name,.int .i64 e.pw,.slice e.a e.l.length e.c] 71)).alloc (.cells #[.int .i64 0,.string ⟨#[]⟩] 36)):=((Kp.refl w).alloc _).alloc _
 have h0:BoxV ((w.alloc (.cells #[.int .i64 e.kind,.int .i64 e.rn,.int .i64 e.rd,.string e.name,.int .i64 e.pw,.slice e.a e.l.length e.c] 71)).alloc (.cells #[.int .i64 0,.string ⟨#[]⟩] 36)) w.heap.size e.cells:=(BoxV.new w e.cells _ _ rfl).kp ((Kp.refl _).alloc _)
 have h1:BoxV ((w.alloc (.cells #[.int .i64 e.kind,.int .i64 e.rn,.int .i64 e.rd,.string e.name,.int .i64 e.pw,.slice e.a e.l.length e.c] 71)).alloc (.cells #[.int .i64 0,.string ⟨#[]⟩] 36)) (w.heap.size+1) [.int .i64 0,.string ⟨#[]⟩]:=BoxV.new _ [_,_] _ _ (by simp)
 go_enter Tryz.func99,Tryz.ntmps99
 go_upto_region 1 with fail
 generalize World.alloc _ _=W at *
 have HA:=hid (hall.kp k1)
 have HR:=hid h1
 have K1:=hid k1
 have hsz:=(ex_ok hok).2
 have hnm:=rnames_any e B W (Ex.at_kp hat k1) (by omega)
 rw[← namO_ok hok] at hnm
 have HN:=hid hnm
 have hnl:=namO_le e
 have q0:=h0.cell 0 rfl
 have q1:=h0.cell 1 rfl
 have q2:=h0.cell 2 rfl
 have q3:=h0.cell 3 rfl
 have q4:=h0.cell 4 rfl
 have q5:=h0.cell 5 rfl
 clear h0 h1 hall hat hnm k1
 go_upto_region 3 with (first | (go_at_call 152;go_fit HN.out;rintro r w2 ⟨⟨na,n,nc,rfl,⟨hln,hrow2,_⟩⟩,k2⟩;subst hln) | fail)
 have HNr:=hid hrow2
 have K2:=hid k2
 clear hrow2 k2 q0 q1 q2 q3 q4 q5 HN
 generalize hNN:namO e=NN at *
 have HKN:=hid (show knownF all e=unknF all NN by unfold knownF;rw[hNN])
 clear hNN
 go_loopw [6] (fun x wr=>∃ k:Nat,k≤NN.length∧x=.int .i64 k∧knownF all e=unknF all (NN.drop k)∧Kp w2 wr) (fun x _=>NN.length-(intOf x).toNat)
 case atStart=>exact⟨0,by omega,rfl,HKN.out,.refl _⟩
 case round =>
 obtain⟨k,hk,rfl,hz,hkp⟩:=hrel
 have Hk:=hid hkp
 by_cases hlt:k<NN.length
 rotate_left
 ·have hd:NN.drop k=[]:=List.drop_eq_nil_of_le (by omega)
  rw[hd] at hz
  have Hz:=hid (show knownF all e=none from hz)
  have hR:=HR.out.kp (K2.out.trans hkp)
  have r0:=hR.cell 0 rfl
  have r1:=hR.cell 1 rfl
  have f0:=hR.2.1 0
  have f1:=hR.2.1 1
  have HRR:=hid hR
  clear hR hz hkp hd
  go_wp2_with fail
  generalize hW9:(World.setCell _ _ _).setCell _ _=W9
  obtain⟨hF,hK⟩:=box2_set HRR.out (K1.out.trans (K2.out.trans Hk.out)) (show w.heap.size≤w.heap.size+1 by omega) _ _ hW9
  have s0:=hF.cell 0 rfl
  have s1:=hF.cell 1 rfl
  refine bodyPost_ret (v:=.agg #[.int .i64 0,.string ⟨#[]⟩]) (by simp[results,Tryz.results99,go_sem,s0,s1]) rfl ?_
  rw[Hz.out]
  exact⟨rfl,hK⟩
 obtain⟨s,hs⟩:∃ s,NN[k]? = some s:=⟨_,List.getElem?_eq_getElem hlt⟩
 obtain⟨b,o,rfl,h0⟩:=HNr.out.kp hkp k s hs
 rw[unknF_step hs] at hz
 have HP:=hid (place_any a c all s wr (HA.out.kp (K2.out.trans hkp)) (by omega))
 have H0:=hid h0
 clear hs hkp
 cases hq:inS all s with
 | true =>
  have hp:¬ placeF s all<0:=fun h=>placeF_neg.1 h (inS_iff.1 hq)
  have Hz:=hid (show knownF all e=unknF all (NN.drop (k+1)) by rw[hz];unfold isIn;rw[hq];rfl)
  clear hz hq
  go_wp2_with (first | (go_at_call 133;go_fit HP.out;rintro r w3 ⟨rfl,k3⟩) | fail)
  go_roundw
  case measure=>simp only[intOf];omega
  case rel=>exact⟨k+1,by omega,by go_num,Hz.out,Hk.out.trans k3⟩
 | false =>
 have hp:placeF s all<0:=placeF_neg.2 (fun h=>by rw[inS_iff.2 h] at hq;cases hq)
 have Hz:=hid (show knownF all e=some (7,s) by rw[hz];unfold isIn;rw[hq];rfl)
 clear hz hq
 go_wp2_with (first
  | (go_at_call 133;go_fit HP.out;rintro r w3 ⟨rfl,k3⟩;clear h0;have h0:=k3.cell H0.out)
  | (go_at_call 69;go_fit (rfault_any 7 s w3);rintro r w4 ⟨rfl,k4⟩;have hR:=HR.out.kp (K2.out.trans (Hk.out.trans (k3.trans k4)));have r0:=hR.cell 0 rfl;have r1:=hR.cell 1 rfl;have f0:=hR.2.1 0;have f1:=hR.2.1 1;have HRR:=hid hR;clear hR)
  | fail)
 generalize hW9:(World.setCell _ _ _).setCell _ _=W9
 obtain⟨hF,hK⟩:=box2_set HRR.out (K1.out.trans (K2.out.trans (Hk.out.trans (k3.trans k4)))) (show w.heap.size≤w.heap.size+1 by omega) _ _ hW9
 have s0:=hF.cell 0 rfl
 have s1:=hF.cell 1 rfl
 refine bodyPost_ret (v:=.agg #[.int .i64 7,.string s]) (by simp[results,Tryz.results99,go_sem,s0,s1]) rfl ?_
 rw[Hz.out]
 exact⟨rfl,hK⟩
end
section
def nRun:ByteArray:=⟨#[114,117,110]⟩
def exG (a1 a2:Option Addr):Ex:=.mk 7 0 0 ⟨#[]⟩ 0 a2 1 [.mk 5 0 0 ⟨#[]⟩ 0 a1 2 [varE nX,varE nX]]
def exM (fa a1 a2:Option Addr):Mo:=⟨nRun,fa,2,[⟨nY,exG a1 a2⟩,⟨nX,varE nY⟩],none,0,[]⟩
def exP (sa ma fa a1 a2:Option Addr):Pr:=⟨sa,2,[⟨nX,1,1,1,1⟩,⟨nY,1,1,1,1⟩],none,0,[],ma,1,[exM fa a1 a2],1,1⟩
theorem exG_er (a1 a2:Option Addr):(exG a1 a2).er=(exG none none).er:=rfl
theorem exG_ok (a1 a2:Option Addr):(exG a1 a2).ok=true:=by
 rw[ok_er (exG_er a1 a2)];kernel_rfl
theorem exV_ok:(varE nY).ok=true:=by kernel_rfl
theorem namO_exG (a1 a2:Option Addr):namO (exG a1 a2)=[nX]:=by
 unfold namO flatE
 rw[if_pos (exG_ok _ _)]
 show namesL [nX,nX]=[nX]
 show insS [nX] nX=[nX]
 unfold insS
 rw[if_neg (by rw[blt_irrefl];decide),if_pos rfl]
theorem namO_exV:namO (varE nY)=[nY]:=by
 unfold namO flatE
 rw[if_pos exV_ok]
 rfl
theorem inX:inS [nX,nY] nX=true:=by kernel_rfl
theorem inY:inS [nX,nY] nY=true:=by kernel_rfl
theorem exG_known (a1 a2:Option Addr):knownF [nX,nY] (exG a1 a2)=none:=by
 unfold knownF
 rw[namO_exG]
 simp only[unknF,isIn,inX,needF,orF,if_true]
theorem exV_known:knownF [nX,nY] (varE nY)=none:=by
 unfold knownF
 rw[namO_exV]
 simp only[unknF,isIn,inY,needF,orF,if_true]
theorem nRun_name:nameB nRun=true:=by kernel_rfl
theorem exD_ok:[(⟨nX,1,1,1,1⟩:De),⟨nY,1,1,1,1⟩].all declB=true:=by kernel_rfl
theorem rat11:ratB 1 1=true:=by kernel_rfl
theorem exP_prob (sa ma fa a1 a2:Option Addr):probB (exP sa ma fa a1 a2)=true:=by
 have h1:eqnB ⟨nY,exG a1 a2⟩=true:=by
  unfold eqnB
  simp only[exG_ok,nY_name,Bool.and_self]
 have h2:eqnB ⟨nX,varE nY⟩=true:=by
  unfold eqnB
  simp only[exV_ok,nX_name,Bool.and_self]
 have h3:modeB (exM fa a1 a2)=true:=by
  have e:modeB (exM fa a1 a2)=(nameB nRun&&(true&&(true&&((eqnB ⟨nY,exG a1 a2⟩&&(eqnB ⟨nX,varE nY⟩&&true))&&true)))):=rfl
  rw[e,h1,h2,nRun_name]
  rfl
 have e:probB (exP sa ma fa a1 a2)=((true&&(true&&true))&&([(⟨nX,1,1,1,1⟩:De),⟨nY,1,1,1,1⟩].all declB&&(true&&((modeB (exM fa a1 a2)&&true)&&ratB 1 1)))):=rfl
 rw[e,h3,exD_ok,rat11]
 rfl
theorem exMiss:missF [nY,nX] [nX,nY]=none:=by kernel_rfl
theorem exOnce1:onceF [] [nX,nY]=none:=by kernel_rfl
theorem exOnce2:onceF [] [nRun]=none:=by kernel_rfl
theorem exRng:rngF [⟨nX,1,1,1,1⟩,⟨nY,1,1,1,1⟩]=none:=by kernel_rfl
theorem exIn:isIn nX ([]++[nY])=false:=by kernel_rfl
theorem exP_check (sa ma fa a1 a2:Option Addr):checkF (exP sa ma fa a1 a2)=none:=by
 have hm:modesF [nX,nY] [nX,nY] [nRun] [exM fa a1 a2]=none:=by
  have h1:flowF [nX,nY] [nX,nY] [] [⟨nY,exG a1 a2⟩,⟨nX,varE nY⟩]=none:=by
   have e1:isIn nY []=false:=rfl
   have e2:=exIn
   simp only[flowF,givenF,exG_known,exV_known,e1,e2]
   simp only[isIn,inX,inY,needF,orF,if_true,Bool.not_false]
  have h2:missF ([⟨nY,exG a1 a2⟩,⟨nX,varE nY⟩].map Qe.name) [nX,nY]=none:=by
   exact exMiss
  unfold modesF modeF exM
  simp only[h1]
  rw[orF_none,show missF (List.map Qe.name [{ name:=nY,e:=exG a1 a2 },{ name:=nX,e:=varE nY }]) [nX,nY]=none from h2]
  rfl
 unfold checkF
 rw[exP_prob]
 show orF (needF true 1 _) (orF (onceF [] [nX,nY]) (orF (onceF [] [nRun]) (orF (rngF [⟨nX,1,1,1,1⟩,⟨nY,1,1,1,1⟩]) (orF (needF (decide ((0:Int)<1)) 2 _) (modesF [nX,nY] [nX,nY] [nRun] [exM fa a1 a2])))))=none
 rw[hm,exOnce1,exOnce2,exRng]
 rfl
theorem exP_okF (sa ma fa a1 a2:Option Addr):okF (exP sa ma fa a1 a2)=true:=by
 unfold okF
 rw[exP_check];rfl
theorem exP_mode (sa ma fa a1 a2:Option Addr):modeO (exP sa ma fa a1 a2) nRun=some (exM fa a1 a2):=by
 unfold modeO
 rw[if_pos (exP_okF _ _ _ _ _)]
 show [exM fa a1 a2].find? _=_
 rw[List.find?_cons,show decide ((exM fa a1 a2).name=nRun)=true from decide_eq_true rfl]
theorem exP_tape (sa ma fa a1 a2:Option Addr):tapeF (allN (exP sa ma fa a1 a2)) [] (rightsF (exP sa ma fa a1 a2) (exM fa a1 a2))=([⟨5,0,0,0,0,0⟩,⟨7,2,0,0,0,0⟩],[1,3]):=by
 kernel_rfl
theorem exP_sysE (sa ma fa a1 a2:Option Addr):sysE (exP sa ma fa a1 a2) nRun 60=0:=by
 unfold sysE
 rw[if_neg (by rw[exP_okF];decide),if_neg (by decide),exP_mode]
 simp only
 rw[exP_tape]
 rfl
theorem exP_sysV (sa ma fa a1 a2:Option Addr):sysV (exP sa ma fa a1 a2) nRun 60=(2,[⟨5,0,0,0,0,0⟩,⟨7,2,0,0,0,0⟩],[1,3],2,[]):=by
 unfold sysV
 rw[exP_mode]
 simp only
 rw[exP_tape]
 rw[if_pos ⟨by decide,by decide⟩]
 rfl
end
end Go.Proofs.YteidgoldnllabaaGreatDoor
