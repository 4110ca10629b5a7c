/-
  Walks: ref16.edge.
-/
import Derived.Deep.CutRange
import Derived.Test.YteidgoldnllabaaGreatDoorTLawQa
set_option maxHeartbeats 16000000
set_option maxRecDepth 20000
namespace Go.Proofs.YteidgoldnllabaaGreatDoor
open Go.RowKit Go.Sort
def NzF (F:Flt):Prop:=∀ x,F=some x→x.1≠0
theorem nz_need {ok:Bool} {c:Int} {s:ByteArray} (h:c≠0):NzF (needF ok c s):=fun x hx=>by
 unfold needF at hx
 split at hx
 ·cases hx
 ·injection hx with hx;subst hx;exact h
theorem nz_or {a b:Flt} (ha:NzF a) (hb:NzF b):NzF (orF a b):=fun x hx=>by
 cases a with
 | none=>exact hb x hx
 | some y=>injection hx with hx;subst hx;exact ha y rfl
theorem nz_unk (all:List ByteArray):∀ ss,NzF (unknF all ss)
 | []=>fun x hx=>by cases hx
 | s::t=>nz_or (nz_need (by decide)) (nz_unk all t)
theorem nz_known (all:List ByteArray) (e:Ex):NzF (knownF all e):=nz_unk all _
theorem nz_given (st all:List ByteArray) (q:Qe) (bf:List ByteArray):NzF (givenF st all q bf):=nz_or (nz_need (by decide)) (nz_or (nz_need (by decide)) (nz_known all _))
theorem nz_flow (st all:List ByteArray):∀ fs bf,NzF (flowF st all bf fs)
 | [],_=>fun x hx=>by cases hx
 | q::r,bf=>nz_or (nz_given st all q bf) (nz_flow st all r _)
theorem nz_edge (st all md:List ByteArray) (x:Ed):NzF (edgeF st all md x):=nz_or (nz_need (by decide)) (nz_or (nz_known all _) (nz_flow st all _ _))
theorem nz_edges (st all md:List ByteArray):∀ es,NzF (edgesF st all md es)
 | []=>fun x hx=>by cases hx
 | e::t=>nz_or (nz_edge st all md e) (nz_edges st all md t)
theorem nz_miss (hv:List ByteArray):∀ st,NzF (missF hv st)
 | []=>fun x hx=>by cases hx
 | s::t=>nz_or (nz_need (by decide)) (nz_miss hv t)
theorem nz_mode (st all md:List ByteArray) (m:Mo):NzF (modeF st all md m):=nz_or (nz_flow st all _ _) (nz_or (nz_miss _ _) (nz_edges st all md _))
def fltN:Flt→Int
 | none=>0
 | some x=>x.1
def fltS:Flt→ByteArray
 | none=>⟨#[]⟩
 | some x=>x.2
theorem rfltV_eq (F:Flt):rfltV F=.agg #[.int .i64 (fltN F),.string (fltS F)]:=by cases F <;> rfl
theorem fltN_none {F:Flt} (hn:NzF F):fltN F=0↔F=none:=by
 cases F with
 | some x=>exact⟨fun h=>absurd h (hn x rfl),fun h=>by cases h⟩
 | none=>exact⟨fun _=>rfl,fun _=>rfl⟩
theorem edgeB_parts {x:Ed} (h:edgeB x=true):x.g.ok=true∧x.rs.length≤4∧∀ q∈x.rs,q.e.ok=true:=by
 unfold edgeB at h
 simp only[Bool.and_eq_true,List.all_eq_true,decide_eq_true_eq] at h
 refine⟨h.1,h.2.2.2.1,fun q hq=>?_⟩
 have:=h.2.2.2.2 q hq
 unfold eqnB at this
 simp only[Bool.and_eq_true] at this
 exact this.2
theorem flowF_at {st all:List ByteArray} {fs:List Qe} {k:Nat} {q:Qe} (h:fs[k]? = some q) :
  flowF st all ((fs.take k).map Qe.name) (fs.drop k)=orF (givenF st all q ((fs.take k).map Qe.name)) (flowF st all ((fs.take (k+1)).map Qe.name) (fs.drop (k+1))):=by
 rw[drop_eq h,take_map _ h];rfl
theorem assigned_flt (st all bf:List ByteArray) (a1 a2 a3:Option Addr) (c1 c2 c3:Nat) (q:Qe) (w:World) (B:Nat) (h1:RowS w a1 st) (h2:RowS w a2 all) (h3:RowS w a3 bf) (l1:st.length≤1000) (l2:all.length≤1000) (l3:bf.length≤1000) (hat:q.e.at w B) (hok:q.e.ok=true) :
  Calls Tryz.prog 135 #[.slice a1 st.length c1,.slice a2 all.length c2,.slice a3 bf.length c3,.string q.name,.agg #[.int .i64 q.e.kind,.int .i64 q.e.rn,.int .i64 q.e.rd,.string q.e.name,.int .i64 q.e.pw,.slice q.e.a q.e.l.length q.e.c]] w fun r w'=>r=.returned (.agg #[.int .i64 (fltN (givenF st all q bf)),.string (fltS (givenF st all q bf))])∧Kp w w' :=
 (rassigned_any st all bf a1 a2 a3 c1 c2 c3 q w B h1 h2 h3 l1 l2 l3 hat hok).mono fun r w' h=>⟨by rw[h.1,rfltV_eq],h.2⟩
theorem known_flt (all:List ByteArray) (a:Option Addr) (c:Nat) (e:Ex) (w:World) (B:Nat) (hall:RowS w a all) (hal:all.length≤1000) (hat:e.at w B) (hok:e.ok=true) :
  Calls Tryz.prog 99 #[.slice a all.length c,.agg #[.int .i64 e.kind,.int .i64 e.rn,.int .i64 e.rd,.string e.name,.int .i64 e.pw,.slice e.a e.l.length e.c]] w fun r w'=>r=.returned (.agg #[.int .i64 (fltN (knownF all e)),.string (fltS (knownF all e))])∧Kp w w' :=
 (rknown_any all a c e w B hall hal hat hok).mono fun r w' h=>⟨by rw[h.1,rfltV_eq],h.2⟩
theorem keep8 {w w':World} (k:Kp w w') {p0 p1 p2 p3 p4 p5 p6 p7:Addr} {v0 v1 v2 v3 v4 v5 v6 v7:Value} (h:w.cell? p0=some v0∧w.cell? p1=some v1∧w.cell? p2=some v2∧w.cell? p3=some v3∧w.cell? p4=some v4∧w.cell? p5=some v5∧w.cell? p6=some v6∧w.cell? p7=some v7) :
  w'.cell? p0=some v0∧w'.cell? p1=some v1∧w'.cell? p2=some v2∧w'.cell? p3=some v3∧w'.cell? p4=some v4∧w'.cell? p5=some v5∧w'.cell? p6=some v6∧w'.cell? p7=some v7 :=
 ⟨k.cell h.1,k.cell h.2.1,k.cell h.2.2.1,k.cell h.2.2.2.1,k.cell h.2.2.2.2.1,k.cell h.2.2.2.2.2.1,k.cell h.2.2.2.2.2.2.1,k.cell h.2.2.2.2.2.2.2⟩
theorem r16edge_any (st all md:List ByteArray) (a1 a2 a3:Option Addr) (c1 c2 c3:Nat) (x:Ed) (w:World) (B:Nat) (h1:RowS w a1 st) (h2:RowS w a2 all) (h3:RowS w a3 md) (l1:st.length≤1000) (l2:all.length≤1000) (l3:md.length≤1000) (hat:x.at w B) (hok:edgeB x=true) :
  Calls Tryz.prog 136 #[.slice a1 st.length c1,.slice a2 all.length c2,.slice a3 md.length c3,.agg #[.int .i64 x.g.kind,.int .i64 x.g.rn,.int .i64 x.g.rd,.string x.g.name,.int .i64 x.g.pw,.slice x.g.a x.g.l.length x.g.c,.int .i64 x.dir,.string x.tx,.slice x.a x.rs.length x.c]] w fun r w'=>r=.returned (rfltV (edgeF st all md x))∧Kp w w':=by
 have k1:Kp w ((w.alloc (.cells #[.int .i64 x.g.kind,.int .i64 x.g.rn,.int .i64 x.g.rd,.string x.g.name,.int .i64 x.g.pw,.slice x.g.a x.g.l.length x.g.c,.int .i64 x.dir,.string x.tx,.slice x.a x.rs.length x.c] 103)).alloc (.cells #[.int .i64 0,.string ⟨#[]⟩] 36)):=((Kp.refl w).alloc _).alloc _
 have h0:BoxV ((w.alloc (.cells #[.int .i64 x.g.kind,.int .i64 x.g.rn,.int .i64 x.g.rd,.string x.g.name,.int .i64 x.g.pw,.slice x.g.a x.g.l.length x.g.c,.int .i64 x.dir,.string x.tx,.slice x.a x.rs.length x.c] 103)).alloc (.cells #[.int .i64 0,.string ⟨#[]⟩] 36)) w.heap.size x.cells:=(BoxV.new w x.cells _ _ rfl).kp ((Kp.refl _).alloc _)
 have hf:BoxV ((w.alloc (.cells #[.int .i64 x.g.kind,.int .i64 x.g.rn,.int .i64 x.g.rd,.string x.g.name,.int .i64 x.g.pw,.slice x.g.a x.g.l.length x.g.c,.int .i64 x.dir,.string x.tx,.slice x.a x.rs.length x.c] 103)).alloc (.cells #[.int .i64 0,.string ⟨#[]⟩] 36)) (w.heap.size+1) [.int .i64 0,.string ⟨#[]⟩]:=BoxV.new _ [_,_] _ _ (by simp)
 obtain⟨hog,hrl,hoq⟩:=edgeB_parts hok
 obtain⟨F,hF⟩:∃ F,edgeF st all md x=F:=⟨_,rfl⟩
 have HF:=Lib.hid (show F=orF (needF (isIn x.tx md) 7 x.tx) (orF (knownF all x.g) (flowF st all [] x.rs)) from hF.symm)
 rw[hF]
 clear hF hok
 go_enter Tryz.func136,Tryz.ntmps136
 go_upto_region 1 with fail
 generalize World.alloc _ _=W at *
 have HAT:=Lib.hid (Ed.at_kp hat k1)
 have HP:=Lib.hid (place_any a3 c3 md x.tx W (h3.kp k1) (by omega))
 have HKn:=Lib.hid fun W' (k:Kp W W')=>known_flt all a2 c2 x.g W' B (h2.kp (k1.trans k)) l2 (Ex.at_kp hat.1.1 (k1.trans k)) hog
 have HAs:=Lib.hid fun (bf:List ByteArray) (a:Option Addr) (c:Nat) (q:Qe) (W':World) (k:Kp W W') (hb:RowS W' a bf) (lb:bf.length≤1000) (hq:q∈x.rs)=>assigned_flt st all bf a1 a2 a c1 c2 c q W' B (h1.kp (k1.trans k)) (h2.kp (k1.trans k)) hb l1 l2 lb (Qe.at_kp (HAT.out.2.2 q hq) k).2 (hoq q hq)
 have HR:=Lib.hid hf
 have H0:=Lib.hid h0
 have K1:=Lib.hid k1
 have HNk:=Lib.hid (nz_known all x.g)
 have HNg:=Lib.hid fun (q:Qe) (bf:List ByteArray)=>nz_given st all q bf
 have q2:=h0.cell 7 rfl
 clear h0 hf h1 h2 h3 hat k1
 cases hq:inS md x.tx with
 | false =>
  have hp:placeF x.tx md<0:=placeF_neg.2 (fun h=>by rw[inS_iff.2 h] at hq;cases hq)
  have Hz:=Lib.hid (show F=some (7,x.tx) by rw[HF.out];unfold isIn;rw[hq];rfl)
  clear hq
  go_wp2_with (first
   | (go_at_call 133;go_fit HP.out;rintro r w2 ⟨rfl,k2⟩;clear q2;have q2:=(H0.out.kp k2).cell 7 rfl)
   | (go_at_call 69;go_fit (rfault_any 7 x.tx w2);rintro r w3 ⟨rfl,k3⟩;have hR:=HR.out.kp (k2.trans k3);have r0:=hR.cell 0 rfl;have r1:=hR.cell 1 rfl;have f0:=hR.2.1 0;have f1:=hR.2.1 1;have HRR:=Lib.hid hR;clear hR)
   | fail)
  generalize hW9:(World.setCell _ _ _).setCell _ _=W9
  obtain⟨hF,hK⟩:=box2_set HRR.out (K1.out.trans (k2.trans k3)) (show w.heap.size≤w.heap.size+1 by omega) _ _ hW9
  have s0:=hF.cell 0 rfl
  have s1:=hF.cell 1 rfl
  refine bodyPost_ret (v:=.agg #[.int .i64 7,.string x.tx]) (by simp[results,Tryz.results136,go_sem,s0,s1]) rfl ?_
  rw[Hz.out]
  exact⟨rfl,hK⟩
 | true =>
 have hp:¬ placeF x.tx md<0:=fun h=>placeF_neg.1 h (inS_iff.1 hq)
 have HF2:=Lib.hid (show F=orF (knownF all x.g) (flowF st all [] x.rs) by rw[HF.out];unfold isIn;rw[hq];rfl)
 clear hq HF
 go_upto_region 4 with (first
  | (go_at_call 133;go_fit HP.out;rintro r w2 ⟨rfl,k2⟩;clear q2;have hq:=H0.out.kp k2;have q0:=hq.cell 0 rfl;have q1:=hq.cell 1 rfl;have q2:=hq.cell 2 rfl;have q3:=hq.cell 3 rfl;have q4:=hq.cell 4 rfl;have q5:=hq.cell 5 rfl;have q6:=hq.cell 6 rfl;have q7:=hq.cell 7 rfl;have q8:=hq.cell 8 rfl;clear hq)
  | (go_at_call 99;go_fit (HKn.out w2 k2);rintro r w3 ⟨rfl,k3⟩)
  | fail)
 clear q0 q1 q2 q3 q4 q5 q6 q7 q8 HP HKn hp
 generalize hG:knownF all x.g=G at *
 have kA:=(Kp.refl w3).alloc (.cells #[.int .i64 (fltN G),.string (fltS G)] 36)
 have hB:BoxV (w3.alloc (.cells #[.int .i64 (fltN G),.string (fltS G)] 36)) w3.heap.size [.int .i64 (fltN G),.string (fltS G)]:=BoxV.new w3 [_,_] _ _ rfl
 have KV:=Lib.hid (k2.trans (k3.trans kA))
 have HB3:=Lib.hid hB
 clear kA k2 k3 hG
 generalize w3.alloc _=V at *
 have b0:=hB.cell 0 rfl
 have b1:=hB.cell 1 rfl
 clear hB
 by_cases hg:G=none
 rotate_left
 ·have hn0:¬ fltN G=0:=fun h=>hg ((fltN_none HNk.out).1 h)
  have HZ2:=Lib.hid (show rfltV F=.agg #[.int .i64 (fltN G),.string (fltS G)] by
   rw[HF2.out]
   cases G with
   | none=>exact absurd rfl hg
   | some y=>rfl)
  have hR:=HR.out.kp KV.out
  have r0:=hR.cell 0 rfl
  have r1:=hR.cell 1 rfl
  have f0:=hR.2.1 0
  have f1:=hR.2.1 1
  have HRR:=Lib.hid hR
  clear hR hg
  go_wp2_with fail
  generalize hW9:(World.setCell _ _ _).setCell _ _=W9
  obtain⟨hF,hK⟩:=box2_set HRR.out (K1.out.trans KV.out) (show w.heap.size≤w.heap.size+1 by omega) _ _ hW9
  have s0:=hF.cell 0 rfl
  have s1:=hF.cell 1 rfl
  refine bodyPost_ret (v:=.agg #[.int .i64 (fltN G),.string (fltS G)]) (by simp[results,Tryz.results136,go_sem,s0,s1]) rfl ?_
  rw[HZ2.out]
  exact⟨rfl,hK⟩
 have hn0:fltN G=0:=(fltN_none HNk.out).2 hg
 have HF3:=Lib.hid (show F=flowF st all [] x.rs by rw[HF2.out,hg];rfl)
 clear hg HF2
 go_upto_region 8 with fail
 clear b0 b1 hn0
 go_loopw [10,11] (fun y z wr=>∃ k:Nat,k≤x.rs.length∧z=.int .i64 k∧OwnU V wr y ((x.rs.take k).map Qe.name)∧F=flowF st all ((x.rs.take k).map Qe.name) (x.rs.drop k)) (fun _ z _=>x.rs.length-(intOf z).toNat)
 case atStart=>exact⟨0,by omega,rfl,OwnU.nil (.refl _),HF3.out⟩
 case round =>
 obtain⟨k,hk,rfl,hO,hz⟩:=hrel
 have HO:=Lib.hid hO
 have HKw:=Lib.hid (KV.out.trans hO.1)
 have hq:=H0.out.kp HKw.out
 have q3:=hq.cell 8 rfl
 clear hq
 by_cases hlt:k<x.rs.length
 rotate_left
 ·have hd:x.rs.drop k=[]:=List.drop_eq_nil_of_le (by omega)
  rw[hd] at hz
  have HZ2:=Lib.hid (show rfltV F=.agg #[.int .i64 0,.string ⟨#[]⟩] by rw[hz];rfl)
  have hR:=HR.out.kp HKw.out
  have r0:=hR.cell 0 rfl
  have r1:=hR.cell 1 rfl
  have f0:=hR.2.1 0
  have f1:=hR.2.1 1
  have HRR:=Lib.hid hR
  clear hR hz hO hd
  go_wp2_with fail
  generalize hW9:(World.setCell _ _ _).setCell _ _=W9
  obtain⟨hF,hK⟩:=box2_set HRR.out (K1.out.trans HKw.out) (show w.heap.size≤w.heap.size+1 by omega) _ _ hW9
  have s0:=hF.cell 0 rfl
  have s1:=hF.cell 1 rfl
  refine bodyPost_ret (v:=.agg #[.int .i64 0,.string ⟨#[]⟩]) (by simp[results,Tryz.results136,go_sem,s0,s1]) rfl ?_
  rw[HZ2.out]
  exact⟨rfl,hK⟩
 obtain⟨q,hs⟩:∃ q,x.rs[k]? = some q:=⟨_,List.getElem?_eq_getElem hlt⟩
 obtain⟨b,o,ha,_,hc⟩:=HAT.out.2.1.kp HKw.out k q hs
 rw[flowF_at hs] at hz
 have HT:=Lib.hid (take_map Qe.name hs)
 have HQ:=Lib.hid (List.mem_of_getElem? hs)
 have HSx:=Lib.hid hs
 have hl2:((x.rs.take k).map Qe.name).length≤100:=by simp only[List.length_map,List.length_take];omega
 obtain⟨va,vc,rfl,hrw⟩:=hO.sl
 have z0:wr.cell? ⟨b,o+k*7,none⟩=some (.string q.name):=hc 0 _ rfl;have z1:=hc 1 _ rfl;have z2:=hc 2 _ rfl;have z3:=hc 3 _ rfl;have z4:=hc 4 _ rfl;have z5:=hc 5 _ rfl;have z6:=hc 6 _ rfl
 rw[ha] at q3
 generalize hnn:((x.rs.take k).map Qe.name)=nn at *
 have HNN:=Lib.hid hnn
 have Hz:=Lib.hid hz
 have HRw:=Lib.hid hrw
 clear hc hs ha hO hnn hz hrw
 generalize hG2:givenF st all q nn=G2 at *
 have HN2:=Lib.hid (show NzF G2 by rw[← hG2];exact HNg.out q nn)
 have HC:=Lib.hid fun W' (k':Kp wr W')=>HAs.out nn va vc q W' (HKw.out.trans k') (HRw.out.kp k') (by omega) HQ.out
 rw[hG2] at HC
 clear hG2
 go_upto_region 10 with fail
 go_cut [12] from 36 to 52 (fun s wx=>∃ g:Nat,s=.pointer (some ⟨g,0,none⟩)∧BoxV wx g [.int .i64 (fltN G2),.string (fltS G2)]∧Kp wr wx)
 case first =>
  have hSd:wr.drew.cell? ⟨w.heap.size,8,none⟩=some (.slice (some ⟨b,o,none⟩) x.rs.length x.c)∧wr.drew.cell? ⟨b,o+k*7,none⟩=some (.string q.name)∧wr.drew.cell? ⟨b,o+k*7+1,none⟩=some (.int .i64 q.e.kind)∧wr.drew.cell? ⟨b,o+k*7+2,none⟩=some (.int .i64 q.e.rn)∧wr.drew.cell? ⟨b,o+k*7+3,none⟩=some (.int .i64 q.e.rd)∧wr.drew.cell? ⟨b,o+k*7+4,none⟩=some (.string q.e.name)∧wr.drew.cell? ⟨b,o+k*7+5,none⟩=some (.int .i64 q.e.pw)∧wr.drew.cell? ⟨b,o+k*7+6,none⟩=some (.slice q.e.a q.e.l.length q.e.c):=⟨(Kp.refl wr).drew.cell q3,(Kp.refl wr).drew.cell z0,(Kp.refl wr).drew.cell z1,(Kp.refl wr).drew.cell z2,(Kp.refl wr).drew.cell z3,(Kp.refl wr).drew.cell z4,(Kp.refl wr).drew.cell z5,(Kp.refl wr).drew.cell z6⟩
  have HSW:=Lib.hid (show wr.cell? ⟨w.heap.size,8,none⟩=some (.slice (some ⟨b,o,none⟩) x.rs.length x.c)∧wr.cell? ⟨b,o+k*7,none⟩=some (.string q.name)∧wr.cell? ⟨b,o+k*7+1,none⟩=some (.int .i64 q.e.kind)∧wr.cell? ⟨b,o+k*7+2,none⟩=some (.int .i64 q.e.rn)∧wr.cell? ⟨b,o+k*7+3,none⟩=some (.int .i64 q.e.rd)∧wr.cell? ⟨b,o+k*7+4,none⟩=some (.string q.e.name)∧wr.cell? ⟨b,o+k*7+5,none⟩=some (.int .i64 q.e.pw)∧wr.cell? ⟨b,o+k*7+6,none⟩=some (.slice q.e.a q.e.l.length q.e.c) from ⟨q3,z0,z1,z2,z3,z4,z5,z6⟩)
  clear z0 z1 z2 z3 z4 z5 z6 q3
  go_region_held3 (fun w'=>w'.cell? ⟨w.heap.size,8,none⟩=some (.slice (some ⟨b,o,none⟩) x.rs.length x.c)∧w'.cell? ⟨b,o+k*7,none⟩=some (.string q.name)∧w'.cell? ⟨b,o+k*7+1,none⟩=some (.int .i64 q.e.kind)∧w'.cell? ⟨b,o+k*7+2,none⟩=some (.int .i64 q.e.rn)∧w'.cell? ⟨b,o+k*7+3,none⟩=some (.int .i64 q.e.rd)∧w'.cell? ⟨b,o+k*7+4,none⟩=some (.string q.e.name)∧w'.cell? ⟨b,o+k*7+5,none⟩=some (.int .i64 q.e.pw)∧w'.cell? ⟨b,o+k*7+6,none⟩=some (.slice q.e.a q.e.l.length q.e.c)) (first | with_reducible assumption | with_reducible exact keep8 (by assumption) (by assumption) | with_reducible exact keep8 ((Kp.refl _).alloc _) (by assumption) | with_reducible exact keep8 ((Kp.refl _).alloc _).drew HSW.out | with_reducible exact keep8 (KW4.out.alloc _) HSW.out | with_reducible exact keep8 (box2_set HB4.out K4.out (Nat.le_refl _) _ _ rfl).2 HSW.out | fail) (first
   | (go_at_call 135;(first | go_fit (HC.out _ (Kp.refl wr).drew) | go_fit (HC.out _ ((Kp.refl wr).alloc _).drew) | fail);rintro r w4 ⟨rfl,k4⟩;(first | (have KW4:=Lib.hid ((Kp.refl wr).drew.trans k4)) | (have KW4:=Lib.hid (((Kp.refl wr).alloc _).drew.trans k4)) | skip);(first | (have hB4:=(BoxV.new wr [.int .i64 0,.string ⟨#[]⟩] 36 _ rfl).kp ((Kp.refl _).drew.trans k4);have e0:=hB4.cell 0 rfl;have e1:=hB4.cell 1 rfl;have j0:=hB4.2.1 0;have j1:=hB4.2.1 1;have HB4:=Lib.hid hB4;have K4:=Lib.hid (((Kp.refl wr).alloc _).drew.trans k4);clear hB4) | skip))
   | fail)
  all_goals
   go_wp2_with fail
   go_meet
   case rel=>first
    | exact⟨_,rfl,BoxV.new w4 [_,_] _ _ rfl,((Kp.refl wr).drew.trans k4).alloc _⟩
    | exact⟨_,rfl,box2_set HB4.out K4.out (Nat.le_refl _) _ _ rfl⟩
 case rest =>
 obtain⟨g,rfl,hbx,kx⟩:=hcut
 obtain⟨X,hX⟩:∃ X:World,X=wc:=⟨_,rfl⟩
 subst hX
 have b0:=hbx.cell 0 rfl
 have b1:=hbx.cell 1 rfl
 have HKX:=Lib.hid (HKw.out.trans kx)
 have HOx:=Lib.hid (HO.out.kp kx)
 clear z0 z1 z2 z3 z4 z5 z6 q3 hbx
 by_cases hg:G2=none
 ·have hn0:fltN G2=0:=(fltN_none HN2.out).2 hg
  have HZ2:=Lib.hid (show F=flowF st all ((x.rs.take (k+1)).map Qe.name) (x.rs.drop (k+1)) by rw[Hz.out,hg];rfl)
  have hq:=H0.out.kp HKX.out
  have q3:=hq.cell 8 rfl
  obtain⟨b2,o2,ha2,_,hc2⟩:=HAT.out.2.1.kp HKX.out k q HSx.out
  have z0:X.cell? ⟨b2,o2+k*7,none⟩=some (.string q.name):=hc2 0 _ rfl;have z1:=hc2 1 _ rfl;have z2:=hc2 2 _ rfl;have z3:=hc2 3 _ rfl;have z4:=hc2 4 _ rfl;have z5:=hc2 5 _ rfl;have z6:=hc2 6 _ rfl
  rw[ha2] at q3
  clear hg hq hc2 ha2 kx
  go_wp2_with (at_builtin;refine wpList_append_us rfl _ _ rfl V _ nn rfl (HOx.out.kp ((Kp.refl _).alloc _)) ⟨X.heap.size,0,none⟩ 1 [q.name] 1 rfl rfl (rowS_one _ _ _ (by simp)) (by simp only[List.length_cons,List.length_nil];omega) ?_;intro v' w5 hO5)
  go_roundw
  case measure=>simp only[intOf];omega
  case rel=>exact⟨k+1,by omega,by go_num,by first | (rw[HT.out];exact hO5) | (rw[HT.out,HNN.out];exact hO5),HZ2.out⟩
 have hn0:¬ fltN G2=0:=fun h=>hg ((fltN_none HN2.out).1 h)
 have HZ2:=Lib.hid (show rfltV F=.agg #[.int .i64 (fltN G2),.string (fltS G2)] by
  rw[Hz.out]
  cases G2 with
  | none=>exact absurd rfl hg
  | some y=>rfl)
 have hR:=HR.out.kp HKX.out
 have r0:=hR.cell 0 rfl
 have r1:=hR.cell 1 rfl
 have f0:=hR.2.1 0
 have f1:=hR.2.1 1
 have HRR:=Lib.hid hR
 clear hR hg kx
 go_wp2_with fail
 generalize hW9:(World.setCell _ _ _).setCell _ _=W9
 obtain⟨hF,hK⟩:=box2_set HRR.out (K1.out.trans HKX.out) (show w.heap.size≤w.heap.size+1 by omega) _ _ hW9
 have s0:=hF.cell 0 rfl
 have s1:=hF.cell 1 rfl
 refine bodyPost_ret (v:=.agg #[.int .i64 (fltN G2),.string (fltS G2)]) (by simp[results,Tryz.results136,go_sem,s0,s1]) rfl ?_
 rw[HZ2.out]
 exact⟨rfl,hK⟩
end Go.Proofs.YteidgoldnllabaaGreatDoor
