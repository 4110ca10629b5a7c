/-
  Walks: ref16.mode.
-/
import Derived.Test.YteidgoldnllabaaGreatDoorMLawQa
import Derived.Test.YteidgoldnllabaaGreatDoorMWalN
import Derived.Test.YteidgoldnllabaaGreatDoorMRCoN
import Derived.Test.YteidgoldnllabaaGreatDoorMPrbN
namespace Go.Proofs.YteidgoldnllabaaGreatDoor
open Go.RowKit
open Lib (hid)
section
open Go.RowKit Go.Sort
theorem modeB_parts {m:Mo} (h:modeB m=true):m.fs.length≤4∧m.es.length≤4∧(∀ q∈m.fs,q.e.ok=true)∧∀ x∈m.es,edgeB x=true:=by
 unfold modeB at h
 simp only[Bool.and_eq_true,List.all_eq_true,decide_eq_true_eq] at h
 refine⟨h.2.1,h.2.2.1,fun q hq=>?_,h.2.2.2.2⟩
 have:=h.2.2.2.1 q hq
 unfold eqnB at this
 simp only[Bool.and_eq_true] at this
 exact this.2
theorem edge_flt (st all md:List ByteArray) (a1 a2 a3:Option Addr) (c1 c2 c3:Nat) (x:Ed) (w:World) (B:Nat) (h1:RowS w a1 st) (h2:RowS w a2 all) (h3:RowS w a3 md) (l1:st.length≤1000) (l2:all.length≤1000) (l3:md.length≤1000) (hat:x.at w B) (hok:edgeB x=true) :
  Calls Tryz.prog 136 #[.slice a1 st.length c1,.slice a2 all.length c2,.slice a3 md.length c3,.agg #[.int .i64 x.g.kind,.int .i64 x.g.rn,.int .i64 x.g.rd,.string x.g.name,.int .i64 x.g.pw,.slice x.g.a x.g.l.length x.g.c,.int .i64 x.dir,.string x.tx,.slice x.a x.rs.length x.c]] w fun r w'=>r=.returned (.agg #[.int .i64 (fltN (edgeF st all md x)),.string (fltS (edgeF st all md x))])∧Kp w w' :=
 (r16edge_any st all md a1 a2 a3 c1 c2 c3 x w B h1 h2 h3 l1 l2 l3 hat hok).mono fun r w' h=>⟨by rw[h.1,rfltV_eq],h.2⟩
theorem edgesF_at {st all mds:List ByteArray} {es:List Ed} {k:Nat} {x:Ed} (h:es[k]? = some x):edgesF st all mds (es.drop k)=orF (edgeF st all mds x) (edgesF st all mds (es.drop (k+1))):=by
 rw[drop_eq h];rfl
set_option maxHeartbeats 16000000 in
set_option maxRecDepth 20000 in
theorem r16mode_any (st all md:List ByteArray) (a1 a2 a3:Option Addr) (c1 c2 c3:Nat) (m:Mo) (w:World) (B:Nat) (h1:RowS w a1 st) (h2:RowS w a2 all) (h3:RowS w a3 md) (l1:st.length≤1000) (l2:all.length≤1000) (l3:md.length≤1000) (hat:m.at w B) (hok:modeB m=true) :
  Calls Tryz.prog 73 #[.slice a1 st.length c1,.slice a2 all.length c2,.slice a3 md.length c3,.agg #[.string m.name,.slice m.fa m.fs.length m.fc,.slice m.ea m.es.length m.ec]] w fun r w'=>r=.returned (rfltV (modeF st all md m))∧Kp w w':=by
 have k1:Kp w ((w.alloc (.cells #[.string m.name,.slice m.fa m.fs.length m.fc,.slice m.ea m.es.length m.ec] 41)).alloc (.cells #[.int .i64 0,.string ⟨#[]⟩] 36)):=((Kp.refl w).alloc _).alloc _
 have h0:BoxV ((w.alloc (.cells #[.string m.name,.slice m.fa m.fs.length m.fc,.slice m.ea m.es.length m.ec] 41)).alloc (.cells #[.int .i64 0,.string ⟨#[]⟩] 36)) w.heap.size m.cells:=(BoxV.new w m.cells _ _ rfl).kp ((Kp.refl _).alloc _)
 have hf:BoxV ((w.alloc (.cells #[.string m.name,.slice m.fa m.fs.length m.fc,.slice m.ea m.es.length m.ec] 41)).alloc (.cells #[.int .i64 0,.string ⟨#[]⟩] 36)) (w.heap.size+1) [.int .i64 0,.string ⟨#[]⟩]:=BoxV.new _ [_,_] _ _ (by simp)
 obtain⟨hfl,hel,hoq,hoe⟩:=modeB_parts hok
 obtain⟨F,hF⟩:∃ F,modeF st all md m=F:=⟨_,rfl⟩
 have HF:=hid (show F=orF (flowF st all [] m.fs) (orF (missF (m.fs.map Qe.name) st) (edgesF st all md m.es)) from hF.symm)
 rw[hF]
 clear hF hok
 go_enter Tryz.func73,Tryz.ntmps73
 go_upto_region 1 with fail
 generalize World.alloc _ _=W at *
 have HAT:=hid (Mo.at_kp hat k1)
 have HAs:=hid fun (bf:List ByteArray) (a:Option Addr) (c:Nat) (q:Qe) (W':World) (k:Kp W W') (hb:RowS W' a bf) (lb:bf.length≤1000) (hq:q∈m.fs)=>assigned_flt st all bf a1 a2 a c1 c2 c q W' B (h1.kp (k1.trans k)) (h2.kp (k1.trans k)) hb l1 l2 lb (Qe.at_kp (HAT.out.2.1.2 q hq) k).2 (hoq q hq)
 have HEd:=hid fun (x:Ed) (W':World) (k:Kp W W') (hx:x∈m.es)=>edge_flt st all md a1 a2 a3 c1 c2 c3 x W' B (h1.kp (k1.trans k)) (h2.kp (k1.trans k)) (h3.kp (k1.trans k)) l1 l2 l3 (Ed.at_kp (HAT.out.2.2.2 x hx) k) (hoe x hx)
 have H1:=hid (h1.kp k1)
 have HR:=hid hf
 have H0:=hid h0
 have K1:=hid k1
 have HNg:=hid fun (q:Qe) (bf:List ByteArray)=>nz_given st all q bf
 have HNe:=hid fun (x:Ed)=>nz_edge st all md x
 clear h0 hf h1 h2 h3 hat k1 hoq hoe
 go_upto_region 3 with fail
 go_loopw [9,10] (fun y z wr=>∃ k:Nat,k≤m.fs.length∧z=.int .i64 k∧OwnU W wr y ((m.fs.take k).map Qe.name)∧F=orF (flowF st all ((m.fs.take k).map Qe.name) (m.fs.drop k)) (orF (missF (m.fs.map Qe.name) st) (edgesF st all md m.es))) (fun _ z _=>m.fs.length-(intOf z).toNat)
 case atStart=>exact⟨0,by omega,rfl,OwnU.nil (.refl _),HF.out⟩
 case round =>
 obtain⟨k,hk,rfl,hO,hz⟩:=hrel
 have HO:=hid hO
 have HKw:=hid hO.1
 have hq:=H0.out.kp HKw.out
 have q3:=hq.cell 1 rfl
 clear hq
 by_cases hlt:k<m.fs.length
 ·obtain⟨q,hs⟩:∃ q,m.fs[k]? = some q:=⟨_,List.getElem?_eq_getElem hlt⟩
  obtain⟨b,o,ha,_,hc⟩:=HAT.out.2.1.1.kp HKw.out k q hs
  rw[flowF_step hs] at hz
  have HT:=hid (take_map Qe.name hs)
  have HQ:=hid (List.mem_of_getElem? hs)
  have HSx:=hid hs
  have hl2:((m.fs.take k).map Qe.name).length≤100:=by simp only[List.length_map,List.length_take];omega
  obtain⟨va,vc,rfl,hrw⟩:=hO.sl
  have z0:wr.cell? ⟨b,o+k*7,none⟩=some (.string q.name):=hc 0 _ rfl;have z1:wr.cell? ⟨b,o+k*7+1,none⟩=some (.int .i64 q.e.kind):=hc 1 _ rfl;have z2:wr.cell? ⟨b,o+k*7+2,none⟩=some (.int .i64 q.e.rn):=hc 2 _ rfl;have z3:wr.cell? ⟨b,o+k*7+3,none⟩=some (.int .i64 q.e.rd):=hc 3 _ rfl;have z4:wr.cell? ⟨b,o+k*7+4,none⟩=some (.string q.e.name):=hc 4 _ rfl;have z5:wr.cell? ⟨b,o+k*7+5,none⟩=some (.int .i64 q.e.pw):=hc 5 _ rfl;have z6:wr.cell? ⟨b,o+k*7+6,none⟩=some (.slice q.e.a q.e.l.length q.e.c):=hc 6 _ rfl
  rw[ha] at q3
  generalize hnn:((m.fs.take k).map Qe.name)=nn at *
  have HNN:=hid hnn
  have Hz:=hid hz
  have HRw:=hid hrw
  clear hc hs ha hO hnn hz hrw
  generalize hG2:givenF st all q nn=G2 at *
  have HN2:=hid (show NzF G2 by rw[← hG2];exact HNg.out q nn)
  have HC:=hid fun W' (k':Kp wr W')=>HAs.out nn va vc q W' (HKw.out.trans k') (HRw.out.kp k') (by omega) HQ.out
  rw[hG2] at HC
  clear hG2
  go_upto_region 5 with fail
  go_cut [11] from 22 to 38 (fun s wx=>∃ g:Nat,s=.pointer (some ⟨g,0,none⟩)∧BoxV wx g [.int .i64 (fltN G2),.string (fltS G2)]∧Kp wr wx)
  case first =>
   have hSd:wr.drew.cell? ⟨w.heap.size,1,none⟩=some (.slice (some ⟨b,o,none⟩) m.fs.length m.fc)∧wr.drew.cell? ⟨b,o+k*7,none⟩=some (.string q.name)∧wr.drew.cell? ⟨b,o+k*7+1,none⟩=some (.int .i64 q.e.kind)∧wr.drew.cell? ⟨b,o+k*7+2,none⟩=some (.int .i64 q.e.rn)∧wr.drew.cell? ⟨b,o+k*7+3,none⟩=some (.int .i64 q.e.rd)∧wr.drew.cell? ⟨b,o+k*7+4,none⟩=some (.string q.e.name)∧wr.drew.cell? ⟨b,o+k*7+5,none⟩=some (.int .i64 q.e.pw)∧wr.drew.cell? ⟨b,o+k*7+6,none⟩=some (.slice q.e.a q.e.l.length q.e.c):=⟨(Kp.refl wr).drew.cell q3,(Kp.refl wr).drew.cell z0,(Kp.refl wr).drew.cell z1,(Kp.refl wr).drew.cell z2,(Kp.refl wr).drew.cell z3,(Kp.refl wr).drew.cell z4,(Kp.refl wr).drew.cell z5,(Kp.refl wr).drew.cell z6⟩
   have HSW:=hid (show wr.cell? ⟨w.heap.size,1,none⟩=some (.slice (some ⟨b,o,none⟩) m.fs.length m.fc)∧wr.cell? ⟨b,o+k*7,none⟩=some (.string q.name)∧wr.cell? ⟨b,o+k*7+1,none⟩=some (.int .i64 q.e.kind)∧wr.cell? ⟨b,o+k*7+2,none⟩=some (.int .i64 q.e.rn)∧wr.cell? ⟨b,o+k*7+3,none⟩=some (.int .i64 q.e.rd)∧wr.cell? ⟨b,o+k*7+4,none⟩=some (.string q.e.name)∧wr.cell? ⟨b,o+k*7+5,none⟩=some (.int .i64 q.e.pw)∧wr.cell? ⟨b,o+k*7+6,none⟩=some (.slice q.e.a q.e.l.length q.e.c) from ⟨q3,z0,z1,z2,z3,z4,z5,z6⟩)
   clear z0 z1 z2 z3 z4 z5 z6 q3
   go_region_held3 (fun w'=>w'.cell? ⟨w.heap.size,1,none⟩=some (.slice (some ⟨b,o,none⟩) m.fs.length m.fc)∧w'.cell? ⟨b,o+k*7,none⟩=some (.string q.name)∧w'.cell? ⟨b,o+k*7+1,none⟩=some (.int .i64 q.e.kind)∧w'.cell? ⟨b,o+k*7+2,none⟩=some (.int .i64 q.e.rn)∧w'.cell? ⟨b,o+k*7+3,none⟩=some (.int .i64 q.e.rd)∧w'.cell? ⟨b,o+k*7+4,none⟩=some (.string q.e.name)∧w'.cell? ⟨b,o+k*7+5,none⟩=some (.int .i64 q.e.pw)∧w'.cell? ⟨b,o+k*7+6,none⟩=some (.slice q.e.a q.e.l.length q.e.c)) (first | with_reducible assumption | with_reducible exact keep8 (by assumption) (by assumption) | with_reducible exact keep8 ((Kp.refl _).alloc _) (by assumption) | with_reducible exact keep8 ((Kp.refl _).alloc _).drew HSW.out | with_reducible exact keep8 (KW4.out.alloc _) HSW.out | with_reducible exact keep8 (box2_set HB4.out K4.out (Nat.le_refl _) _ _ rfl).2 HSW.out | fail) (first
    | (go_at_call 135;(first | go_fit (HC.out _ (Kp.refl wr).drew) | go_fit (HC.out _ ((Kp.refl wr).alloc _).drew) | fail);rintro r w4 ⟨rfl,k4⟩;(first | (have KW4:=hid ((Kp.refl wr).drew.trans k4)) | (have KW4:=hid (((Kp.refl wr).alloc _).drew.trans k4)) | skip);(first | (have hB4:=(BoxV.new wr [.int .i64 0,.string ⟨#[]⟩] 36 _ rfl).kp ((Kp.refl _).drew.trans k4);have e0:=hB4.cell 0 rfl;have e1:=hB4.cell 1 rfl;have j0:=hB4.2.1 0;have j1:=hB4.2.1 1;have HB4:=hid hB4;have K4:=hid (((Kp.refl wr).alloc _).drew.trans k4);clear hB4) | skip))
    | fail)
   all_goals
    go_wp2_with fail
    go_meet
    case rel=>first
     | exact⟨_,rfl,BoxV.new w4 [_,_] _ _ rfl,((Kp.refl wr).drew.trans k4).alloc _⟩
     | exact⟨_,rfl,box2_set HB4.out K4.out (Nat.le_refl _) _ _ rfl⟩
  case rest =>
  obtain⟨g,rfl,hbx,kx⟩:=hcut
  obtain⟨X,hX⟩:∃ X:World,X=wc:=⟨_,rfl⟩
  subst hX
  have b0:=hbx.cell 0 rfl
  have b1:=hbx.cell 1 rfl
  have HKX:=hid (HKw.out.trans kx)
  have HOx:=hid (HO.out.kp kx)
  clear z0 z1 z2 z3 z4 z5 z6 q3 hbx
  by_cases hg:G2=none
  ·have hn0:fltN G2=0:=(fltN_none HN2.out).2 hg
   have HZ2:=hid (show F=orF (flowF st all ((m.fs.take (k+1)).map Qe.name) (m.fs.drop (k+1))) (orF (missF (m.fs.map Qe.name) st) (edgesF st all md m.es)) by rw[Hz.out,hg];rfl)
   have hq:=H0.out.kp HKX.out
   have q3:=hq.cell 1 rfl
   obtain⟨b2,o2,ha2,_,hc2⟩:=HAT.out.2.1.1.kp HKX.out k q HSx.out
   have z0:X.cell? ⟨b2,o2+k*7,none⟩=some (.string q.name):=hc2 0 _ rfl;have z1:X.cell? ⟨b2,o2+k*7+1,none⟩=some (.int .i64 q.e.kind):=hc2 1 _ rfl;have z2:X.cell? ⟨b2,o2+k*7+2,none⟩=some (.int .i64 q.e.rn):=hc2 2 _ rfl;have z3:X.cell? ⟨b2,o2+k*7+3,none⟩=some (.int .i64 q.e.rd):=hc2 3 _ rfl;have z4:X.cell? ⟨b2,o2+k*7+4,none⟩=some (.string q.e.name):=hc2 4 _ rfl;have z5:X.cell? ⟨b2,o2+k*7+5,none⟩=some (.int .i64 q.e.pw):=hc2 5 _ rfl;have z6:X.cell? ⟨b2,o2+k*7+6,none⟩=some (.slice q.e.a q.e.l.length q.e.c):=hc2 6 _ rfl
   rw[ha2] at q3
   clear hg hq hc2 ha2 kx
   go_wp2_with (at_builtin;refine wpList_append_us rfl _ _ rfl W _ nn rfl (HOx.out.kp ((Kp.refl _).alloc _)) ⟨X.heap.size,0,none⟩ 1 [q.name] 1 rfl rfl (rowS_one _ _ _ (by simp)) (by simp only[List.length_cons,List.length_nil];omega) ?_;intro v' w5 hO5)
   go_roundw
   case measure=>simp only[intOf];omega
   case rel=>exact⟨k+1,by omega,by go_num,by first | (rw[HT.out];exact hO5) | (rw[HT.out,HNN.out];exact hO5),HZ2.out⟩
  have hn0:¬ fltN G2=0:=fun h=>hg ((fltN_none HN2.out).1 h)
  have HZ2:=hid (show rfltV F=.agg #[.int .i64 (fltN G2),.string (fltS G2)] by
   rw[Hz.out]
   cases G2 with
   | none=>exact absurd rfl hg
   | some y=>rfl)
  have hR:=HR.out.kp (HKX.out)
  have r0:=hR.cell 0 rfl
  have r1:=hR.cell 1 rfl
  have f0:=hR.2.1 0
  have f1:=hR.2.1 1
  have HRR:=hid hR
  clear hR
  clear hg kx
  go_wp2_with fail
  generalize hW9:(World.setCell _ _ _).setCell _ _=W9
  obtain⟨hF,hK⟩:=box2_set HRR.out (K1.out.trans HKX.out) (show w.heap.size≤w.heap.size+1 by omega) _ _ hW9
  have s0:=hF.cell 0 rfl
  have s1:=hF.cell 1 rfl
  refine bodyPost_ret (v:=.agg #[.int .i64 (fltN G2),.string (fltS G2)]) (by simp[results,Tryz.results73,go_sem,s0,s1]) rfl ?_
  rw[HZ2.out]
  exact⟨rfl,hK⟩
 have hk2:k=m.fs.length:=by omega
 subst hk2
 rw[List.take_length] at HO
 have HZ:=hid (show F=orF (missF (m.fs.map Qe.name) st) (edgesF st all md m.es) by rw[hz,List.drop_length];rfl)
 clear hz hO hlt hk
 obtain⟨va,vc,rfl,hrw⟩:=HO.out.sl
 have hvl:(m.fs.map Qe.name).length≤100:=by rw[List.length_map];omega
 generalize hHV:m.fs.map Qe.name=hv at *
 have HRw:=hid hrw
 clear hrw hHV
 go_upto_region 10 with fail
 clear q3
 obtain⟨V,hV⟩:∃ V:World,V=wr:=⟨_,rfl⟩
 subst hV
 go_loopw [12] (fun z wr=>∃ k:Nat,k≤st.length∧z=.int .i64 k∧Kp V wr∧F=orF (missF hv (st.drop k)) (edgesF st all md m.es)) (fun z _=>st.length-(intOf z).toNat)
 case atStart=>exact⟨0,by omega,rfl,.refl _,HZ.out⟩
 case round =>
 obtain⟨k,hk,rfl,hkv,hz⟩:=hrel
 have HKv:=hid hkv
 have HK2:=hid (HKw.out.trans hkv)
 by_cases hlt:k<st.length
 ·obtain⟨s,hs⟩:∃ s,st[k]? = some s:=⟨_,List.getElem?_eq_getElem hlt⟩
  obtain⟨b,o,ha,h0⟩:=H1.out.kp HK2.out k s hs
  rw[missF_step hs] at hz
  have HP:=hid (place_any va vc hv s wr (HRw.out.kp hkv) (by omega))
  have H0s:=hid h0
  rw[ha]
  clear hs hkv ha
  cases hq:inS hv s with
  | true =>
   have hp:¬ placeF s hv<0:=fun h=>placeF_neg.1 h (inS_iff.1 hq)
   have Hz:=hid (show F=orF (missF hv (st.drop (k+1))) (edgesF st all md m.es) by rw[hz];unfold isIn;rw[hq];rfl)
   clear hz hq
   go_wp2_with (first | (go_at_call 133;go_fit HP.out;rintro r w3 ⟨rfl,k3⟩) | fail)
   go_roundw
   case measure=>simp only[intOf];omega
   case rel=>exact⟨k+1,by omega,by go_num,HKv.out.trans k3,Hz.out⟩
  | false =>
  have hp:placeF s hv<0:=placeF_neg.2 (fun h=>by rw[inS_iff.2 h] at hq;cases hq)
  have HZ2:=hid (show rfltV F=.agg #[.int .i64 3,.string s] by rw[hz];unfold isIn;rw[hq];rfl)
  clear hz hq
  go_wp2_with (first
   | (go_at_call 133;go_fit HP.out;rintro r w3 ⟨rfl,k3⟩;clear h0;have h0:=k3.cell H0s.out)
   | (go_at_call 69;go_fit (rfault_any 3 s w3);rintro r w4 ⟨rfl,k4⟩;have hR:=HR.out.kp (HK2.out.trans (k3.trans k4));have r0:=hR.cell 0 rfl;have r1:=hR.cell 1 rfl;have f0:=hR.2.1 0;have f1:=hR.2.1 1;have HRR:=hid hR;clear hR)
   | fail)
  generalize hW9:(World.setCell _ _ _).setCell _ _=W9
  obtain⟨hF,hK⟩:=box2_set HRR.out (K1.out.trans (HK2.out.trans (k3.trans k4))) (show w.heap.size≤w.heap.size+1 by omega) _ _ hW9
  have s0:=hF.cell 0 rfl
  have s1:=hF.cell 1 rfl
  refine bodyPost_ret (v:=.agg #[.int .i64 3,.string s]) (by simp[results,Tryz.results73,go_sem,s0,s1]) rfl ?_
  rw[HZ2.out]
  exact⟨rfl,hK⟩
 have HZ3:=hid (show F=edgesF st all md m.es by rw[hz,List.drop_eq_nil_of_le (show st.length≤k by omega)];rfl)
 clear hz hkv
 have hq:=H0.out.kp HK2.out
 have q2:=hq.cell 2 rfl
 clear hq
 go_upto_region 15 with fail
 clear q2
 obtain⟨V2,hV⟩:∃ V:World,V=wr:=⟨_,rfl⟩
 subst hV
 go_loopw [13] (fun z wr=>∃ k:Nat,k≤m.es.length∧z=.int .i64 k∧Kp V2 wr∧F=edgesF st all md (m.es.drop k)) (fun z _=>m.es.length-(intOf z).toNat)
 case atStart=>exact⟨0,by omega,rfl,.refl _,HZ3.out⟩
 case round =>
 obtain⟨j,hj,rfl,hkv,hz⟩:=hrel
 have HKj:=hid hkv
 have HK3:=hid (HK2.out.trans hkv)
 have hq:=H0.out.kp HK3.out
 have q2:=hq.cell 2 rfl
 clear hq
 by_cases hltj:j<m.es.length
 rotate_left
 ·have HZ2:=hid (show rfltV F=.agg #[.int .i64 0,.string ⟨#[]⟩] by rw[hz,List.drop_eq_nil_of_le (show m.es.length≤j by omega)];rfl)
  have hR:=HR.out.kp (HK3.out)
  have r0:=hR.cell 0 rfl
  have r1:=hR.cell 1 rfl
  have f0:=hR.2.1 0
  have f1:=hR.2.1 1
  have HRR:=hid hR
  clear hR
  clear hz hkv
  go_wp2_with fail
  generalize hW9:(World.setCell _ _ _).setCell _ _=W9
  obtain⟨hF,hK⟩:=box2_set HRR.out (K1.out.trans HK3.out) (show w.heap.size≤w.heap.size+1 by omega) _ _ hW9
  have s0:=hF.cell 0 rfl
  have s1:=hF.cell 1 rfl
  refine bodyPost_ret (v:=.agg #[.int .i64 0,.string ⟨#[]⟩]) (by simp[results,Tryz.results73,go_sem,s0,s1]) rfl ?_
  rw[HZ2.out]
  exact⟨rfl,hK⟩
 obtain⟨x,hs⟩:∃ x,m.es[j]? = some x:=⟨_,List.getElem?_eq_getElem hltj⟩
 obtain⟨b,o,ha,_,hc⟩:=HAT.out.2.2.1.kp HK3.out j x hs
 rw[edgesF_at hs] at hz
 have Hz:=hid hz
 have HC:=hid (HEd.out x wr HK3.out (List.mem_of_getElem? hs))
 have HN2:=hid (HNe.out x)
 have z0:wr.cell? ⟨b,o+j*9,none⟩=some (.int .i64 x.g.kind):=hc 0 _ rfl;have z1:wr.cell? ⟨b,o+j*9+1,none⟩=some (.int .i64 x.g.rn):=hc 1 _ rfl;have z2:wr.cell? ⟨b,o+j*9+2,none⟩=some (.int .i64 x.g.rd):=hc 2 _ rfl;have z3:wr.cell? ⟨b,o+j*9+3,none⟩=some (.string x.g.name):=hc 3 _ rfl;have z4:wr.cell? ⟨b,o+j*9+4,none⟩=some (.int .i64 x.g.pw):=hc 4 _ rfl;have z5:wr.cell? ⟨b,o+j*9+5,none⟩=some (.slice x.g.a x.g.l.length x.g.c):=hc 5 _ rfl;have z6:wr.cell? ⟨b,o+j*9+6,none⟩=some (.int .i64 x.dir):=hc 6 _ rfl;have z7:wr.cell? ⟨b,o+j*9+7,none⟩=some (.string x.tx):=hc 7 _ rfl;have z8:wr.cell? ⟨b,o+j*9+8,none⟩=some (.slice x.a x.rs.length x.c):=hc 8 _ rfl
 rw[ha] at q2
 clear hc hs ha hkv hz
 generalize hG2:edgeF st all md x=G2 at *
 clear hG2
 go_upto_region 18 with (first | (go_at_call 136;go_fit HC.out;rintro r w4 ⟨rfl,k4⟩) | fail)
 have kA:=(Kp.refl w4).alloc (.cells #[.int .i64 (fltN G2),.string (fltS G2)] 36)
 have hB:BoxV (w4.alloc (.cells #[.int .i64 (fltN G2),.string (fltS G2)] 36)) w4.heap.size [.int .i64 (fltN G2),.string (fltS G2)]:=BoxV.new w4 [_,_] _ _ rfl
 have HKX:=hid (HK3.out.trans (k4.trans kA))
 have HKJ:=hid (HKj.out.trans (k4.trans kA))
 clear q2 z0 z1 z2 z3 z4 z5 z6 z7 z8 kA k4
 generalize w4.alloc _=X at *
 have b0:=hB.cell 0 rfl
 have b1:=hB.cell 1 rfl
 clear hB
 by_cases hg:G2=none
 ·have hn0:fltN G2=0:=(fltN_none HN2.out).2 hg
  have HZ2:=hid (show F=edgesF st all md (m.es.drop (j+1)) by rw[Hz.out,hg];rfl)
  clear hg
  go_wp2_with fail
  go_roundw
  case measure=>simp only[intOf];omega
  case rel=>exact⟨j+1,by omega,by go_num,HKJ.out,HZ2.out⟩
 have hn0:¬ fltN G2=0:=fun h=>hg ((fltN_none HN2.out).1 h)
 have HZ2:=hid (show rfltV F=.agg #[.int .i64 (fltN G2),.string (fltS G2)] by
  rw[Hz.out]
  cases G2 with
  | none=>exact absurd rfl hg
  | some y=>rfl)
 have hR:=HR.out.kp (HKX.out)
 have r0:=hR.cell 0 rfl
 have r1:=hR.cell 1 rfl
 have f0:=hR.2.1 0
 have f1:=hR.2.1 1
 have HRR:=hid hR
 clear hR
 clear hg
 go_wp2_with fail
 generalize hW9:(World.setCell _ _ _).setCell _ _=W9
 obtain⟨hF,hK⟩:=box2_set HRR.out (K1.out.trans HKX.out) (show w.heap.size≤w.heap.size+1 by omega) _ _ hW9
 have s0:=hF.cell 0 rfl
 have s1:=hF.cell 1 rfl
 refine bodyPost_ret (v:=.agg #[.int .i64 (fltN G2),.string (fltS G2)]) (by simp[results,Tryz.results73,go_sem,s0,s1]) rfl ?_
 rw[HZ2.out]
 exact⟨rfl,hK⟩
end
section
open Go.RowKit Go.Sort
theorem step_append_run {P:Program} {w:World} {ops:Array Oper} {o:Oper} {a:Act} {K:Act→World→Prop} {Q:Exit→Act→World→Prop} {E:Prop} (hgd:o.guard=none) (s x:Operand) (t:TypeId)
  (ho:o.op=.call { callee:=.builtin .append,args:=#[s,x],argTypes:=#[t,t] }) (v1 v2:Value) (hs:a.eval s=v1) (hx:a.eval x=v2) (v':Value) (w':World)
  (hr:(Builtin.append_ #[t,t] o.type #[v1,v2]).run P w=.ok v' w') (h:K (a.put o.dst v') w') :
  if Region.wanted o (yielded ops a.tmps)=true then Oper.wp P o a w K Q else E:=by
 have hw:Region.wanted o (yielded ops a.tmps)=true:=by simp[Region.wanted,hgd]
 rw[if_pos hw]
 unfold Oper.wp execOp
 simp only[ho,resolve,invoke,builtin,Sem.run_bind,Sem.run_pure,Result.andThen_ok,List.map_toArray,List.map_cons,List.map_nil,hs,hx,hr]
 exact h
def NnV (v:Value):Prop:=∃ ad n c,v=.slice (some ad) n c∧n≤c
theorem OwnV.empty {α:Type} {cells:α→List Value} {k:Nat} (T:TypeId) {wb w:World} (q:Kp wb w):OwnV cells k T wb (w.alloc (.cells #[] T)) (.slice (some ⟨w.heap.size,0,none⟩) 0 0) [] :=
 ⟨q.alloc _,World.ownsRow_lit w #[] 0 q.size (by simp) (by simp)⟩
theorem app_vs {α:Type} {cells:α→List Value} {k:Nat} (hk:∀ x,(cells x).length=k) (h0:0<k) (h1:∀ x,∀ u∈cells x,u.oneCell'=true) {w:World} (t T ty:TypeId) (i0:TypeInfo) (z:Value) (bytes:Nat) (ht:Tryz.prog.underlying t=some (.slice T)) (hi:Tryz.prog.info? T=some i0) (hz:i0.zero=some z) (hsz:i0.size=k) (hby:i0.bytes=bytes) (hzs:z.cells.size=k)
  (wb:World) (v:Value) (zs:List α) (hown:OwnV cells k T wb w v zs) (hn:NnV v) (B:Nat) (a:Option Addr) (c:Nat) (ys:List α) (hrow:RowV cells k w B a ys) (hlen:zs.length+ys.length≤9000000) (hbl:(zs.length+ys.length)*bytes≤140737488355328) :
  ∃ v' w',(Builtin.append_ #[t,t] ty #[v,.slice a ys.length c]).run Tryz.prog w=.ok v' w'∧OwnV cells k T wb w' v' (zs++ys)∧NnV v':=by
 obtain⟨hkk,hown1⟩:=hown
 have main:∀ (ad:Addr),(∀ (i:Nat) (y:α),ys[i]? = some y→∀ (j:Nat) (u:Value),(cells y)[j]? = some u→w.cell? (ad.add (i*k+j))=some u)→∃ v' w',(Builtin.append_ #[t,t] ty #[v,.slice (some ad) ys.length c]).run Tryz.prog w=.ok v' w'∧OwnV cells k T wb w' v' (zs++ys)∧NnV v':=by
  intro ad hr
  obtain⟨v',w',g1,g2,g3,g4,g5⟩:=run_append_own_at (P:=Tryz.prog) w wb.heap.size t ty T i0 z k bytes ht hi hz hsz hby hzs h0 v zs.length (zs.flatMap cells) hown1 ad ys.length c (ys.flatMap cells) (by rw[flatV_len cells k hk]) (by
   intro j u hj
   obtain⟨i,r,y,hy,_,hr2,rfl⟩:=flatV_of cells k hk h0 ys j u hj
   exact hr i y hy r u hr2) (by
   intro u hu
   obtain⟨y,_,hy⟩:=List.mem_flatMap.1 hu
   exact h1 y u hy) (by unfold maxLen;omega) (by omega) hkk.size
  have hb:Below wb.heap.size w w':=(Below.refl wb.heap.size w).grown g3 hkk.size (fun k hk=>(hown1.lt k hk).1)
  have hO:OwnV cells k T wb w' v' (zs++ys):=⟨Below.trans hkk hb,by rw[List.flatMap_append,List.length_append];exact g2⟩
  refine⟨v',w',g1,hO,?_⟩
  rcases hO.2.2 with ⟨e,_⟩ | ⟨g,cap,cur,e,_,_,hn2,_⟩
  ·obtain⟨ad2,n2,c2,e2,_⟩:=hn
   have:=(g4.1 e).1
   rw[e2] at this
   cases this
  ·exact⟨_,_,_,e,hn2⟩
 cases a with
 | none =>
  have h0:ys=[]:=by
   cases ys with
   | nil=>rfl
   | cons y t =>
    obtain⟨b,o,e,_⟩:=hrow 0 y rfl
    cases e
  subst h0
  obtain⟨ad2,n2,c2,rfl,hle⟩:=hn
  exact⟨_,_,run_append_voidV (P:=Tryz.prog) w t ty T i0 ht hi ad2 n2 c2 _ c rfl hle,⟨hkk,by rw[List.append_nil];exact hown1⟩,⟨_,_,_,rfl,hle⟩⟩
 | some ad =>
 by_cases hy:ys=[]
 ·subst hy
  exact main ad fun i y h=>by simp at h
 obtain⟨y,t,rfl⟩:∃ y t,ys=y::t:=List.exists_cons_of_ne_nil hy
 obtain⟨b,o,e,_⟩:=hrow 0 y rfl
 cases e
 refine main _ fun i x hx j u hj=>?_
 obtain⟨b2,o2,e2,_,hc⟩:=hrow i x hx
 cases e2
 rw[addr_add,← Nat.add_assoc]
 exact hc j u hj
theorem mode_flt (st all md:List ByteArray) (a1 a2 a3:Option Addr) (c1 c2 c3:Nat) (m:Mo) (w:World) (B:Nat) (h1:RowS w a1 st) (h2:RowS w a2 all) (h3:RowS w a3 md) (l1:st.length≤1000) (l2:all.length≤1000) (l3:md.length≤1000) (hat:m.at w B) (hok:modeB m=true) :
  Calls Tryz.prog 73 #[.slice a1 st.length c1,.slice a2 all.length c2,.slice a3 md.length c3,.agg #[.string m.name,.slice m.fa m.fs.length m.fc,.slice m.ea m.es.length m.ec]] w fun r w'=>r=.returned (.agg #[.int .i64 (fltN (modeF st all md m)),.string (fltS (modeF st all md m))])∧Kp w w' :=
 (r16mode_any st all md a1 a2 a3 c1 c2 c3 m w B h1 h2 h3 l1 l2 l3 hat hok).mono fun r w' h=>⟨by rw[h.1,rfltV_eq],h.2⟩
theorem repeated_flt (ss:List ByteArray) (a:Option Addr) (c:Nat) (w:World) (hrow:RowS w a ss) (hm:ss.length≤1000) (hcap:ss.length≤c) :
  Calls Tryz.prog 71 #[.slice a ss.length c] w fun r w'=>r=.returned (.agg #[.int .i64 (fltN (onceF [] ss)),.string (fltS (onceF [] ss))])∧Kp w w' :=
 (rrepeated_any ss a c w hrow hm hcap).mono fun r w' h=>⟨by rw[h.1,rfltV_eq],h.2⟩
theorem nz_once:∀ ss hv,NzF (onceF hv ss)
 | [],_=>fun x hx=>by cases hx
 | s::t,hv=>nz_or (nz_need (by decide)) (nz_once t _)
theorem probB_mo {p:Pr} (h:probB p=true):∀ m∈p.ms,modeB m=true:=by
 unfold probB at h
 simp only[Bool.and_eq_true,List.all_eq_true] at h
 exact h.2.2.2.1
theorem nz_rng:∀ ds,NzF (rngF ds)
 | []=>fun x hx=>by cases hx
 | d::t=>nz_or (nz_need (by decide)) (nz_rng t)
theorem nz_modes (st all md:List ByteArray):∀ ms,NzF (modesF st all md ms)
 | []=>fun x hx=>by cases hx
 | m::t=>nz_or (nz_mode st all md m) (nz_modes st all md t)
theorem nz_check (p:Pr):NzF (checkF p):=nz_or (nz_need (by decide)) (nz_or (nz_once _ _) (nz_or (nz_once _ _) (nz_or (nz_rng _) (nz_or (nz_need (by decide)) (nz_modes _ _ _ _)))))
set_option maxHeartbeats 16000000 in
set_option maxRecDepth 20000 in
theorem r16check_any (p:Pr) (w:World) (B:Nat) (hat:p.at w B) :
  Calls Tryz.prog 16 #[.agg #[.slice p.sa p.ss.length p.sc,.slice p.pa p.ps.length p.pc,.slice p.ma p.ms.length p.mc,.int .i64 p.tn,.int .i64 p.td]] w fun r w'=>r=.returned (rfltV (checkF p))∧Kp w w':=by
 have k1:Kp w ((w.alloc (.cells #[.slice p.sa p.ss.length p.sc,.slice p.pa p.ps.length p.pc,.slice p.ma p.ms.length p.mc,.int .i64 p.tn,.int .i64 p.td] 27)).alloc (.cells #[.int .i64 0,.string ⟨#[]⟩] 36)):=((Kp.refl w).alloc _).alloc _
 have h0:BoxV ((w.alloc (.cells #[.slice p.sa p.ss.length p.sc,.slice p.pa p.ps.length p.pc,.slice p.ma p.ms.length p.mc,.int .i64 p.tn,.int .i64 p.td] 27)).alloc (.cells #[.int .i64 0,.string ⟨#[]⟩] 36)) w.heap.size p.cells:=(BoxV.new w p.cells _ _ rfl).kp ((Kp.refl _).alloc _)
 have hf:BoxV ((w.alloc (.cells #[.slice p.sa p.ss.length p.sc,.slice p.pa p.ps.length p.pc,.slice p.ma p.ms.length p.mc,.int .i64 p.tn,.int .i64 p.td] 27)).alloc (.cells #[.int .i64 0,.string ⟨#[]⟩] 36)) (w.heap.size+1) [.int .i64 0,.string ⟨#[]⟩]:=BoxV.new _ [_,_] _ _ (by simp)
 obtain⟨F,hF⟩:∃ F,checkF p=F:=⟨_,rfl⟩
 have HF:=hid (hF.symm.trans (checkF_eq p))
 rw[hF]
 clear hF
 go_enter Tryz.func16,Tryz.ntmps16
 go_upto_region 1 with fail
 generalize World.alloc _ _=W at *
 have HAT:=hid (Pr.at_kp hat k1)
 have HR:=hid hf
 have H0:=hid h0
 have K1:=hid k1
 have HP:=hid (rproblem_any p W B HAT.out)
 have q0:=h0.cell 0 rfl
 have q1:=h0.cell 1 rfl
 have q2:=h0.cell 2 rfl
 have q3:=h0.cell 3 rfl
 have q4:=h0.cell 4 rfl
 clear h0 hf hat k1
 cases hpb:probB p with
 | false =>
  have HZ2:=hid (show rfltV F=.agg #[.int .i64 1,.string ⟨#[]⟩] by rw[HF.out,hpb];rfl)
  rw[hpb] at HP
  clear hpb
  go_wp2_with (first
   | (go_at_call 68;go_fit HP.out;rintro r w2 ⟨rfl,k2⟩;clear q0 q1 q2 q3 q4)
   | (go_at_call 69;go_fit (rfault_any 1 ⟨#[]⟩ w2);rintro r w3 ⟨rfl,k3⟩;have hR:=HR.out.kp (k2.trans k3);have r0:=hR.cell 0 rfl;have r1:=hR.cell 1 rfl;have f0:=hR.2.1 0;have f1:=hR.2.1 1;have HRR:=hid hR;clear hR)
   | fail)
  generalize hW9:(World.setCell _ _ _).setCell _ _=W9
  obtain⟨hF,hK⟩:=box2_set HRR.out (K1.out.trans (k2.trans k3)) (show w.heap.size≤w.heap.size+1 by omega) _ _ hW9
  have s0:=hF.cell 0 rfl
  have s1:=hF.cell 1 rfl
  refine bodyPost_ret (v:=.agg #[.int .i64 1,.string ⟨#[]⟩]) (by simp[results,Tryz.results16,go_sem,s0,s1]) rfl ?_
  rw[HZ2.out]
  exact⟨rfl,hK⟩
 | true =>
 have HF2:=hid (show F=orF (onceF [] (allN p)) (orF (onceF [] (mdN p)) (orF (rngF (p.ss++p.ps)) (orF (needF (decide (0<p.tn)) 2 ByteArray.empty) (modesF (stN p) (allN p) (mdN p) p.ms)))) by rw[HF.out,hpb];rfl)
 rw[hpb] at HP
 have HPB:=hid hpb
 obtain⟨hs1,hs4,hp4,hm8⟩:=probB_ss hpb
 clear hpb HF
 go_upto_region 3 with (first
  | (go_at_call 68;go_fit HP.out;rintro r w2 ⟨rfl,k2⟩;clear q0 q1 q2 q3 q4)
  | fail)
 have hq:=H0.out.kp k2
 have q0:=hq.cell 0 rfl;have q1:=hq.cell 1 rfl;have q2:=hq.cell 2 rfl;have q3:=hq.cell 3 rfl;have q4:=hq.cell 4 rfl
 have HN:=hid (rnamed_any p w2 B (Pr.at_kp HAT.out k2) HPB.out)
 have K2:=hid k2
 clear hq HP k2
 go_upto_region 4 with (first
  | (go_at_call 70;go_fit HN.out;rintro r w3 ⟨v1,v2,rfl,hO1,hO2⟩;obtain⟨a1,c1,rfl,hr1,_⟩:=hO1.cap;obtain⟨a2,c2,rfl,hr2,hc2⟩:=hO2.cap)
  | fail)
 have K3:=hid (K2.out.trans hO1.1)
 have hl1:(stN p).length≤4:=by unfold stN;rw[List.length_map];omega
 have hl2:(allN p).length≤8:=by unfold allN;rw[List.length_append,List.length_map,List.length_map];omega
 have HR1:=hid hr1
 have HR2:=hid hr2
 have HNN:=hid (show stN p=p.ss.map De.name∧allN p=p.ss.map De.name++p.ps.map De.name from ⟨rfl,rfl⟩)
 clear q0 q1 q2 q3 q4 hr1 hr2 hO1 hO2 HN
 obtain⟨ST,hST⟩:∃ ST,stN p=ST:=⟨_,rfl⟩
 obtain⟨AL,hAL⟩:∃ AL,allN p=AL:=⟨_,rfl⟩
 rw[hST] at HR1 hl1 HF2 ⊢
 rw[hAL] at HR2 hl2 HF2 hc2 ⊢
 clear HNN hST hAL
 go_upto_region 6 with fail
 obtain⟨V,hV⟩:∃ V:World,V=w3:=⟨_,rfl⟩
 subst hV
 go_loopw [5,6] (fun y z wr=>∃ k:Nat,k≤p.ms.length∧z=.int .i64 k∧OwnU V wr y ((p.ms.take k).map Mo.name)) (fun _ z _=>p.ms.length-(intOf z).toNat)
 case atStart=>exact⟨0,by omega,rfl,OwnU.nil (.refl _)⟩
 case round =>
 obtain⟨k,hk,rfl,hO⟩:=hrel
 have HO:=hid hO
 have HKw:=hid (K3.out.trans hO.1)
 have hq:=H0.out.kp HKw.out
 have q2:=hq.cell 2 rfl
 clear hq
 by_cases hlt:k<p.ms.length
 ·obtain⟨m,hs⟩:∃ m,p.ms[k]? = some m:=⟨_,List.getElem?_eq_getElem hlt⟩
  obtain⟨b,o,ha,_,hc⟩:=HAT.out.2.2.2.1.kp HKw.out k m hs
  have HT:=hid (take_map Mo.name hs)
  have hl3:((p.ms.take k).map Mo.name).length≤100:=by simp only[List.length_map,List.length_take];omega
  have z0:wr.cell? ⟨b,o+k*3,none⟩=some (.string m.name):=hc 0 _ rfl
  rw[ha] at q2
  generalize hnn:((p.ms.take k).map Mo.name)=nn at *
  have HNN:=hid hnn
  clear hc hs ha hO hnn
  go_wp2_with (at_builtin;refine wpList_append_us rfl _ _ rfl V _ nn rfl (HO.out.kp ((Kp.refl _).alloc _)) ⟨wr.heap.size,0,none⟩ 1 [m.name] 1 rfl rfl (rowS_one _ _ _ (by simp)) (by simp only[List.length_cons,List.length_nil];omega) ?_;intro v' w5 hO5)
  go_roundw
  case measure=>simp only[intOf];omega
  case rel=>exact⟨k+1,by omega,by go_num,by first | (rw[HT.out];exact hO5) | (rw[HT.out,HNN.out];exact hO5)⟩
 have hk2:k=p.ms.length:=by omega
 subst hk2
 rw[List.take_length] at HO
 clear hO hlt hk
 obtain⟨a3,c3,rfl,hr3,hc3⟩:=HO.out.cap
 obtain⟨MD,hMD⟩:∃ MD,MD=mdN p:=⟨_,rfl⟩
 have hMD2:p.ms.map Mo.name=MD:=by rw[hMD];rfl
 have hl3:MD.length≤8:=by rw[hMD];unfold mdN;rw[List.length_map];omega
 rw[hMD2] at hr3 hc3 ⊢
 rw[← hMD] at HF2
 have HR3:=hid hr3
 have HRa:=hid (HR2.out.kp HO.out.1)
 clear hr3 hMD hMD2
 have HRp:=hid (repeated_flt AL a2 c2 wr HRa.out (by omega) hc2)
 have HN1:=hid (nz_once AL [])
 generalize hG:onceF [] AL=G at *
 clear hG
 go_upto_region 10 with (first | (go_at_call 71;go_fit HRp.out;rintro r w4 ⟨rfl,k4⟩) | fail)
 clear q2
 have kA:=(Kp.refl w4).alloc (.cells #[.int .i64 (fltN G),.string (fltS G)] 36)
 have hB:BoxV (w4.alloc (.cells #[.int .i64 (fltN G),.string (fltS G)] 36)) w4.heap.size [.int .i64 (fltN G),.string (fltS G)]:=BoxV.new w4 [_,_] _ _ rfl
 have HKX:=hid (HKw.out.trans (k4.trans kA))
 have HKW:=hid (k4.trans kA)
 clear kA k4
 generalize w4.alloc _=X at *
 have b0:=hB.cell 0 rfl
 have b1:=hB.cell 1 rfl
 clear hB
 by_cases hg:G=none
 rotate_left
 ·have hn0:¬ fltN G=0:=fun h=>hg ((fltN_none HN1.out).1 h)
  have HZ2:=hid (show rfltV F=.agg #[.int .i64 (fltN G),.string (fltS G)] by
   rw[HF2.out]
   cases G with
   | none=>exact absurd rfl hg
   | some y=>rfl)
  have hR:=HR.out.kp (HKX.out)
  have r0:=hR.cell 0 rfl
  have r1:=hR.cell 1 rfl
  have f0:=hR.2.1 0
  have f1:=hR.2.1 1
  have HRR:=hid hR
  clear hR
  clear hg
  go_wp2_with fail
  generalize hW9:(World.setCell _ _ _).setCell _ _=W9
  obtain⟨hF,hK⟩:=box2_set HRR.out (K1.out.trans HKX.out) (show w.heap.size≤w.heap.size+1 by omega) _ _ hW9
  have s0:=hF.cell 0 rfl
  have s1:=hF.cell 1 rfl
  refine bodyPost_ret (v:=.agg #[.int .i64 (fltN G),.string (fltS G)]) (by simp[results,Tryz.results16,go_sem,s0,s1]) rfl ?_
  rw[HZ2.out]
  exact⟨rfl,hK⟩
 have hn0:fltN G=0:=(fltN_none HN1.out).2 hg
 have HF3:=hid (show F=orF (onceF [] MD) (orF (rngF (p.ss++p.ps)) (orF (needF (decide (0<p.tn)) 2 ByteArray.empty) (modesF ST AL MD p.ms))) by rw[HF2.out,hg];rfl)
 have HRm:=hid (repeated_flt MD a3 c3 X (HR3.out.kp HKW.out) (by omega) hc3)
 have HN2:=hid (nz_once MD [])
 generalize hG2:onceF [] MD=G2 at *
 clear hG2 hg HF2
 go_upto_region 13 with (first | (go_at_call 71;go_fit HRm.out;rintro r w5 ⟨rfl,k5⟩) | fail)
 have kA2:=(Kp.refl w5).alloc (.cells #[.int .i64 (fltN G2),.string (fltS G2)] 36)
 have hB2:BoxV (w5.alloc (.cells #[.int .i64 (fltN G2),.string (fltS G2)] 36)) w5.heap.size [.int .i64 (fltN G2),.string (fltS G2)]:=BoxV.new w5 [_,_] _ _ rfl
 have HKY:=hid (HKX.out.trans (k5.trans kA2))
 have HKU:=hid (HKW.out.trans (k5.trans kA2))
 clear kA2 k5 b0 b1 hn0
 generalize w5.alloc _=Y at *
 have b0:=hB2.cell 0 rfl
 have b1:=hB2.cell 1 rfl
 clear hB2
 by_cases hg2:G2=none
 rotate_left
 ·have hg:=hg2
  have hn0:¬ fltN G2=0:=fun h=>hg ((fltN_none HN2.out).1 h)
  have HZ2:=hid (show rfltV F=.agg #[.int .i64 (fltN G2),.string (fltS G2)] by
   rw[HF3.out]
   cases G2 with
   | none=>exact absurd rfl hg
   | some y=>rfl)
  have hR:=HR.out.kp (HKY.out)
  have r0:=hR.cell 0 rfl
  have r1:=hR.cell 1 rfl
  have f0:=hR.2.1 0
  have f1:=hR.2.1 1
  have HRR:=hid hR
  clear hR
  clear hg hg2
  go_wp2_with fail
  generalize hW9:(World.setCell _ _ _).setCell _ _=W9
  obtain⟨hF,hK⟩:=box2_set HRR.out (K1.out.trans HKY.out) (show w.heap.size≤w.heap.size+1 by omega) _ _ hW9
  have s0:=hF.cell 0 rfl
  have s1:=hF.cell 1 rfl
  refine bodyPost_ret (v:=.agg #[.int .i64 (fltN G2),.string (fltS G2)]) (by simp[results,Tryz.results16,go_sem,s0,s1]) rfl ?_
  rw[HZ2.out]
  exact⟨rfl,hK⟩
 have hn0:fltN G2=0:=(fltN_none HN2.out).2 hg2
 have HF4:=hid (show F=orF (rngF (p.ss++p.ps)) (orF (needF (decide (0<p.tn)) 2 ByteArray.empty) (modesF ST AL MD p.ms)) by rw[HF3.out,hg2];rfl)
 clear hg2 HF3
 go_upto_region 15 with fail
 obtain⟨i0,hi,hz0,hz1,hz2⟩:=info_parts infoDecl
 have hqY:=H0.out.kp HKY.out
 have hSd:Y.drew.cell? ⟨w.heap.size,0,none⟩=some (.slice p.sa p.ss.length p.sc)∧Y.drew.cell? ⟨w.heap.size,1,none⟩=some (.slice p.pa p.ps.length p.pc):=⟨(Kp.refl Y).drew.cell (hqY.cell 0 rfl),(Kp.refl Y).drew.cell (hqY.cell 1 rfl)⟩
 have HSd:=hid hSd
 clear b0 b1 hn0 hqY
 refine wp_region_held_drew (S:=fun w'=>w'.cell? ⟨w.heap.size,0,none⟩=some (.slice p.sa p.ss.length p.sc)∧w'.cell? ⟨w.heap.size,1,none⟩=some (.slice p.pa p.ps.length p.pc)) (by kernel_rfl) hSd (fun hHeld=>?_)
 clear hSd
 refine tk 1 ?_;refine tk 2 ?_;refine tk 4 ?_;refine tk 5 ?_;(try simp only[Act.put,List.getElem_toArray,List.getElem_cons_zero,List.getElem_cons_succ,List.setIfInBounds_toArray,List.set_cons_zero,List.set_cons_succ])
 refine cm 0 (fun K hK=>?_)
 go_simp
 have hO0:OwnDe Y (Y.alloc (.cells #[] 68)).drew (.slice (some ⟨Y.heap.size,0,none⟩) 0 0) []:=(OwnV.empty _ (Kp.refl Y)).kp (Kp.refl _).drew
 have hqA:=H0.out.kp (HKY.out.trans hO0.1)
 refine hK.out _ _ ⟨hqA.cell 0 rfl,hqA.cell 1 rfl⟩ (fun hHeld=>?_)
 clear hK K
 refine cm 3 (fun K hK=>?_)
 obtain⟨d1,w6,hr6,hO6,hn6⟩:=app_vs de_len (by decide) de_one 22 68 22 i0 _ 48 Tryz.underlying22 hi hz0 hz1 hz2 rfl Y _ [] hO0 ⟨_,_,_,rfl,Nat.le_refl _⟩ B p.sa p.sc p.ss (HAT.out.2.1.1.kp (HKY.out.trans hO0.1)) (by simp only[List.length_nil];omega) (by simp only[List.length_nil];omega)
 refine step_append_run (by rfl) _ _ _ (by rfl) _ _ (by rfl) (by rfl) d1 w6 hr6 ?_
 have hqB:=H0.out.kp (HKY.out.trans hO6.1)
 refine hK.out _ _ ⟨hqB.cell 0 rfl,hqB.cell 1 rfl⟩ (fun hHeld=>?_)
 clear hK K hr6
 refine cm 6 (fun K hK=>?_)
 obtain⟨d2,w7,hr7,hO7,hn7⟩:=app_vs de_len (by decide) de_one 22 68 22 i0 _ 48 Tryz.underlying22 hi hz0 hz1 hz2 rfl Y _ ([]++p.ss) hO6 hn6 B p.pa p.pc p.ps (HAT.out.2.2.1.1.kp (HKY.out.trans hO6.1)) (by simp only[List.nil_append];omega) (by simp only[List.nil_append];omega)
 refine step_append_run (by rfl) _ _ _ (by rfl) _ _ (by rfl) (by rfl) d2 w7 hr7 ?_
 have hqC:=H0.out.kp (HKY.out.trans hO7.1)
 refine hK.out _ _ ⟨hqC.cell 0 rfl,hqC.cell 1 rfl⟩ (fun hHeld=>?_)
 clear hK K hr7
 rw[List.nil_append] at hO7
 obtain⟨da,dc,rfl,hdc,hdr⟩:=hO7.row de_len de_one
 refine tk 7 ?_;(try simp only[Act.put,List.getElem_toArray,List.getElem_cons_zero,List.getElem_cons_succ,List.setIfInBounds_toArray,List.set_cons_zero,List.set_cons_succ])
 refine wpAnyH_done (by kernel_rfl) ?_ _
 have HDR:=hid hdr
 have HKZ:=hid (HKY.out.trans hO7.1)
 have HKT:=hid (HKU.out.trans hO7.1)
 have HDB:=hid (probB_de HPB.out)
 have HMo:=hid (probB_mo HPB.out)
 have hdl:(p.ss++p.ps).length≤8:=by rw[List.length_append];omega
 clear hqA hqB hqC hO0 hO6 hO7 hn6 hn7 hdr HSd hHeld hdc
 obtain⟨DS,hDS⟩:∃ DS,p.ss++p.ps=DS:=⟨_,rfl⟩
 have hln:p.ss.length+p.ps.length=DS.length:=by rw[← hDS,List.length_append]
 rw[hDS] at HDR HDB HF4 hdl
 first | rw[hln] | skip
 try rw[hDS]
 clear hDS hln
 go_upto_region 17 with fail
 obtain⟨Z,hZ⟩:∃ V:World,V=w7:=⟨_,rfl⟩
 subst hZ
 go_loopw [10] (fun z wr=>∃ k:Nat,k≤DS.length∧z=.int .i64 k∧Kp Z wr∧F=orF (rngF (DS.drop k)) (orF (needF (decide (0<p.tn)) 2 ByteArray.empty) (modesF ST AL MD p.ms))) (fun z _=>DS.length-(intOf z).toNat)
 case atStart=>exact⟨0,by omega,rfl,.refl _,HF4.out⟩
 case round =>
 obtain⟨k,hk,rfl,hkv,hz⟩:=hrel
 have HKv:=hid hkv
 have HKk:=hid (HKZ.out.trans hkv)
 by_cases hlt:k<DS.length
 ·obtain⟨d,hs⟩:∃ d,DS[k]? = some d:=⟨_,List.getElem?_eq_getElem hlt⟩
  obtain⟨b,o,ha,_,hc⟩:=HDR.out.kp hkv k d hs
  have hdB:=HDB.out d (List.mem_of_getElem? hs)
  rw[rngF_step hs hdB] at hz
  obtain⟨hra,hrb⟩:=declB_rat hdB
  have HC:=hid (r4cmp_any d.ln d.ld d.hn d.hd wr.drew hra hrb)
  have Hz:=hid hz
  have z0:wr.cell? ⟨b,o+k*5,none⟩=some (.string d.name):=hc 0 _ rfl;have z1:wr.cell? ⟨b,o+k*5+1,none⟩=some (.int .i64 d.ln):=hc 1 _ rfl;have z2:wr.cell? ⟨b,o+k*5+2,none⟩=some (.int .i64 d.ld):=hc 2 _ rfl;have z3:wr.cell? ⟨b,o+k*5+3,none⟩=some (.int .i64 d.hn):=hc 3 _ rfl;have z4:wr.cell? ⟨b,o+k*5+4,none⟩=some (.int .i64 d.hd):=hc 4 _ rfl
  have hSd:wr.drew.cell? ⟨b,o+k*5,none⟩=some (.string d.name)∧wr.drew.cell? ⟨b,o+k*5+1,none⟩=some (.int .i64 d.ln)∧wr.drew.cell? ⟨b,o+k*5+2,none⟩=some (.int .i64 d.ld)∧wr.drew.cell? ⟨b,o+k*5+3,none⟩=some (.int .i64 d.hn)∧wr.drew.cell? ⟨b,o+k*5+4,none⟩=some (.int .i64 d.hd):=⟨(Kp.refl wr).drew.cell z0,(Kp.refl wr).drew.cell z1,(Kp.refl wr).drew.cell z2,(Kp.refl wr).drew.cell z3,(Kp.refl wr).drew.cell z4⟩
  have HSd:=hid hSd
  rw[ha]
  clear hs hc ha hkv hz hra hrb hdB z0 z1 z2 z3 z4
  go_upto_region 19 with fail
  refine wp_region_held_drew (S:=fun w'=>w'.cell? ⟨b,o+k*5,none⟩=some (.string d.name)∧w'.cell? ⟨b,o+k*5+1,none⟩=some (.int .i64 d.ln)∧w'.cell? ⟨b,o+k*5+2,none⟩=some (.int .i64 d.ld)∧w'.cell? ⟨b,o+k*5+3,none⟩=some (.int .i64 d.hn)∧w'.cell? ⟨b,o+k*5+4,none⟩=some (.int .i64 d.hd)) (by kernel_rfl) hSd (fun hHeld=>?_)
  clear hSd
  refine tk 0 ?_;refine tk 1 ?_;refine tk 2 ?_;refine tk 3 ?_;refine tk 4 ?_;refine tk 5 ?_;refine tk 6 ?_;refine tk 7 ?_;refine tk 8 ?_;refine tk 9 ?_;refine tk 10 ?_;refine tk 11 ?_;(try simp only[Act.put,List.getElem_toArray,List.getElem_cons_zero,List.getElem_cons_succ,List.setIfInBounds_toArray,List.set_cons_zero,List.set_cons_succ])
  refine cm 12 (fun K hK=>?_)
  (go_simp;go_fit HC.out;rintro r w8 ⟨rfl,k8⟩)
  refine hK.out _ _ (keep5 k8 HSd.out) (fun hHeld=>?_)
  clear hK K
  have HK8:=hid ((Kp.refl wr).drew.trans k8)
  have z0:=k8.cell HSd.out.1
  clear k8
  by_cases ho:ordZ (d.ln*d.hd) (d.hn*d.ld)≤0
  ·have hp:¬ 0<ordZ (d.ln*d.hd) (d.hn*d.ld):=by omega
   have HZ2:=hid (show F=orF (rngF (DS.drop (k+1))) (orF (needF (decide (0<p.tn)) 2 ByteArray.empty) (modesF ST AL MD p.ms)) by rw[Hz.out,decide_eq_true ho];rfl)
   refine tk 13 ?_;(try simp only[Act.put,List.getElem_toArray,List.getElem_cons_zero,List.getElem_cons_succ,List.setIfInBounds_toArray,List.set_cons_zero,List.set_cons_succ])
   refine wpAnyH_done (by kernel_rfl) ?_ _
   clear ho hHeld
   go_wp2_with fail
   go_roundw
   case measure=>simp only[intOf];omega
   case rel=>exact⟨k+1,by omega,by go_num,HKv.out.trans HK8.out,HZ2.out⟩
  have hp:0<ordZ (d.ln*d.hd) (d.hn*d.ld):=by omega
  have HZ2:=hid (show rfltV F=.agg #[.int .i64 2,.string d.name] by rw[Hz.out,decide_eq_false ho];rfl)
  refine tk 13 ?_;(try simp only[Act.put,List.getElem_toArray,List.getElem_cons_zero,List.getElem_cons_succ,List.setIfInBounds_toArray,List.set_cons_zero,List.set_cons_succ])
  refine wpAnyH_done (by kernel_rfl) ?_ _
  clear ho hHeld
  go_wp2_with (first
   | (go_at_call 69;go_fit (rfault_any 2 d.name w8);rintro r w9 ⟨rfl,k9⟩;have hR:=HR.out.kp (HKk.out.trans (HK8.out.trans k9));have r0:=hR.cell 0 rfl;have r1:=hR.cell 1 rfl;have f0:=hR.2.1 0;have f1:=hR.2.1 1;have HRR:=hid hR;clear hR)
   | fail)
  generalize hW9:(World.setCell _ _ _).setCell _ _=W9
  obtain⟨hF,hK⟩:=box2_set HRR.out (K1.out.trans (HKk.out.trans (HK8.out.trans k9))) (show w.heap.size≤w.heap.size+1 by omega) _ _ hW9
  have s0:=hF.cell 0 rfl
  have s1:=hF.cell 1 rfl
  refine bodyPost_ret (v:=.agg #[.int .i64 2,.string d.name]) (by simp[results,Tryz.results16,go_sem,s0,s1]) rfl ?_
  rw[HZ2.out]
  exact⟨rfl,hK⟩
 have HF5:=hid (show F=orF (needF (decide (0<p.tn)) 2 ByteArray.empty) (modesF ST AL MD p.ms) by rw[hz,List.drop_eq_nil_of_le (show DS.length≤k by omega)];rfl)
 clear hz hkv
 have hq:=H0.out.kp HKk.out
 have q3:=hq.cell 3 rfl
 have q2:=hq.cell 2 rfl
 clear hq
 by_cases htn:p.tn≤0
 ·have HZ2:=hid (show rfltV F=.agg #[.int .i64 2,.string ⟨#[]⟩] by rw[HF5.out,decide_eq_false (show ¬ 0<p.tn by omega)];rfl)
  clear q2
  go_wp2_with (first
   | (go_at_call 69;go_fit (rfault_any 2 ⟨#[]⟩ wr);rintro r w9 ⟨rfl,k9⟩;have hR:=HR.out.kp (HKk.out.trans k9);have r0:=hR.cell 0 rfl;have r1:=hR.cell 1 rfl;have f0:=hR.2.1 0;have f1:=hR.2.1 1;have HRR:=hid hR;clear hR)
   | fail)
  generalize hW9:(World.setCell _ _ _).setCell _ _=W9
  obtain⟨hF,hK⟩:=box2_set HRR.out (K1.out.trans (HKk.out.trans k9)) (show w.heap.size≤w.heap.size+1 by omega) _ _ hW9
  have s0:=hF.cell 0 rfl
  have s1:=hF.cell 1 rfl
  refine bodyPost_ret (v:=.agg #[.int .i64 2,.string ⟨#[]⟩]) (by simp[results,Tryz.results16,go_sem,s0,s1]) rfl ?_
  rw[HZ2.out]
  exact⟨rfl,hK⟩
 have HF6:=hid (show F=modesF ST AL MD p.ms by rw[HF5.out,decide_eq_true (show 0<p.tn by omega)];rfl)
 go_upto_region 24 with fail
 clear q2 q3
 obtain⟨V2,hV⟩:∃ V:World,V=wr:=⟨_,rfl⟩
 subst hV
 have HKq:=hid (HKT.out.trans HKv.out)
 go_loopw [11] (fun z wr=>∃ k:Nat,k≤p.ms.length∧z=.int .i64 k∧Kp V2 wr∧F=modesF ST AL MD (p.ms.drop k)) (fun z _=>p.ms.length-(intOf z).toNat)
 case atStart=>exact⟨0,by omega,rfl,.refl _,HF6.out⟩
 case round =>
 obtain⟨j,hj,rfl,hkv,hz⟩:=hrel
 have HKj:=hid hkv
 have HK3:=hid (HKk.out.trans hkv)
 have HKr:=hid (HKq.out.trans hkv)
 have hq:=H0.out.kp HK3.out
 have q2:=hq.cell 2 rfl
 clear hq
 by_cases hltj:j<p.ms.length
 rotate_left
 ·have HZ2:=hid (show rfltV F=.agg #[.int .i64 0,.string ⟨#[]⟩] by rw[hz,List.drop_eq_nil_of_le (show p.ms.length≤j by omega)];rfl)
  have hR:=HR.out.kp (HK3.out)
  have r0:=hR.cell 0 rfl
  have r1:=hR.cell 1 rfl
  have f0:=hR.2.1 0
  have f1:=hR.2.1 1
  have HRR:=hid hR
  clear hR
  clear hz hkv
  go_wp2_with fail
  generalize hW9:(World.setCell _ _ _).setCell _ _=W9
  obtain⟨hF,hK⟩:=box2_set HRR.out (K1.out.trans HK3.out) (show w.heap.size≤w.heap.size+1 by omega) _ _ hW9
  have s0:=hF.cell 0 rfl
  have s1:=hF.cell 1 rfl
  refine bodyPost_ret (v:=.agg #[.int .i64 0,.string ⟨#[]⟩]) (by simp[results,Tryz.results16,go_sem,s0,s1]) rfl ?_
  rw[HZ2.out]
  exact⟨rfl,hK⟩
 obtain⟨x,hs⟩:∃ x,p.ms[j]? = some x:=⟨_,List.getElem?_eq_getElem hltj⟩
 obtain⟨b,o,ha,_,hc⟩:=HAT.out.2.2.2.1.kp HK3.out j x hs
 rw[modesF_step hs] at hz
 have Hz:=hid hz
 have HC:=hid (mode_flt ST AL MD a1 a2 a3 c1 c2 c3 x wr B (HR1.out.kp (HO.out.1.trans HKr.out)) (HR2.out.kp (HO.out.1.trans HKr.out)) (HR3.out.kp HKr.out) (by omega) (by omega) (by omega) (Mo.at_kp (HAT.out.2.2.2.2 x (List.mem_of_getElem? hs)) HK3.out) (HMo.out x (List.mem_of_getElem? hs)))
 have HN3:=hid (nz_mode ST AL MD x)
 have z0:wr.cell? ⟨b,o+j*3,none⟩=some (.string x.name):=hc 0 _ rfl;have z1:wr.cell? ⟨b,o+j*3+1,none⟩=some (.slice x.fa x.fs.length x.fc):=hc 1 _ rfl;have z2:wr.cell? ⟨b,o+j*3+2,none⟩=some (.slice x.ea x.es.length x.ec):=hc 2 _ rfl
 rw[ha] at q2
 clear hc hs ha hkv hz
 generalize hG3:modeF ST AL MD x=G3 at *
 clear hG3
 go_upto_region 27 with (first | (go_at_call 73;go_fit HC.out;rintro r w9 ⟨rfl,k9⟩) | fail)
 have kA:=(Kp.refl w9).alloc (.cells #[.int .i64 (fltN G3),.string (fltS G3)] 36)
 have hB:BoxV (w9.alloc (.cells #[.int .i64 (fltN G3),.string (fltS G3)] 36)) w9.heap.size [.int .i64 (fltN G3),.string (fltS G3)]:=BoxV.new w9 [_,_] _ _ rfl
 have HKX3:=hid (HK3.out.trans (k9.trans kA))
 have HKJ:=hid (HKj.out.trans (k9.trans kA))
 clear q2 z0 z1 z2 kA k9
 generalize w9.alloc _=X3 at *
 have b0:=hB.cell 0 rfl
 have b1:=hB.cell 1 rfl
 clear hB
 by_cases hg:G3=none
 ·have hn0:fltN G3=0:=(fltN_none HN3.out).2 hg
  have HZ2:=hid (show F=modesF ST AL MD (p.ms.drop (j+1)) by rw[Hz.out,hg];rfl)
  clear hg
  go_wp2_with fail
  go_roundw
  case measure=>simp only[intOf];omega
  case rel=>exact⟨j+1,by omega,by go_num,HKJ.out,HZ2.out⟩
 have hn0:¬ fltN G3=0:=fun h=>hg ((fltN_none HN3.out).1 h)
 have HZ2:=hid (show rfltV F=.agg #[.int .i64 (fltN G3),.string (fltS G3)] by
  rw[Hz.out]
  cases G3 with
  | none=>exact absurd rfl hg
  | some y=>rfl)
 have hR:=HR.out.kp (HKX3.out)
 have r0:=hR.cell 0 rfl
 have r1:=hR.cell 1 rfl
 have f0:=hR.2.1 0
 have f1:=hR.2.1 1
 have HRR:=hid hR
 clear hR
 clear hg
 go_wp2_with fail
 generalize hW9:(World.setCell _ _ _).setCell _ _=W9
 obtain⟨hF,hK⟩:=box2_set HRR.out (K1.out.trans HKX3.out) (show w.heap.size≤w.heap.size+1 by omega) _ _ hW9
 have s0:=hF.cell 0 rfl
 have s1:=hF.cell 1 rfl
 refine bodyPost_ret (v:=.agg #[.int .i64 (fltN G3),.string (fltS G3)]) (by simp[results,Tryz.results16,go_sem,s0,s1]) rfl ?_
 rw[HZ2.out]
 exact⟨rfl,hK⟩
theorem run_fieldF0 (x0 x1:Value) (w:World):(Instr.field 36 (.agg #[x0,x1]) 0).run Tryz.prog w=.ok x0 w:=by kernel_rfl
set_option maxHeartbeats 2000000 in
set_option maxRecDepth 20000 in
theorem r16right_any (p:Pr) (w:World) (B:Nat) (hat:p.at w B) :
  Calls Tryz.prog 76 #[.agg #[.slice p.sa p.ss.length p.sc,.slice p.pa p.ps.length p.pc,.slice p.ma p.ms.length p.mc,.int .i64 p.tn,.int .i64 p.td]] w fun r w'=>r=.returned (.bool (okF p))∧Kp w w':=by
 have k1:Kp w (w.alloc (.cells #[.slice p.sa p.ss.length p.sc,.slice p.pa p.ps.length p.pc,.slice p.ma p.ms.length p.mc,.int .i64 p.tn,.int .i64 p.td] 27)):=(Kp.refl w).alloc _
 have h0:BoxV (w.alloc (.cells #[.slice p.sa p.ss.length p.sc,.slice p.pa p.ps.length p.pc,.slice p.ma p.ms.length p.mc,.int .i64 p.tn,.int .i64 p.td] 27)) w.heap.size p.cells:=BoxV.new w p.cells _ _ rfl
 have hfd:=run_fieldF0
 go_enter Tryz.func76,Tryz.ntmps76
 go_upto_region 1 with fail
 generalize w.alloc _=W at *
 have HC:=hid (r16check_any p W B (Pr.at_kp hat k1))
 have K1:=hid k1
 have q0:=h0.cell 0 rfl;have q1:=h0.cell 1 rfl;have q2:=h0.cell 2 rfl;have q3:=h0.cell 3 rfl;have q4:=h0.cell 4 rfl
 clear h0 k1 hat
 cases hf:checkF p with
 | none =>
  rw[hf] at HC
  have HC2:=hid (show Calls Tryz.prog 16 #[.agg #[.slice p.sa p.ss.length p.sc,.slice p.pa p.ps.length p.pc,.slice p.ma p.ms.length p.mc,.int .i64 p.tn,.int .i64 p.td]] W fun r w'=>r=.returned (.agg #[.int .i64 0,.string ⟨#[]⟩])∧Kp W w' from HC.out)
  have Ho:=hid (show okF p=true by unfold okF;rw[hf];rfl)
  clear hf HC
  go_wp2_with (go_at_call 16;go_fit HC2.out;rintro r w2 ⟨rfl,k2⟩)
  go_ret
  exact⟨ret_bool (by rw[Ho.out]),K1.out.trans k2⟩
 | some x =>
 rw[hf] at HC
 have HC2:=hid (show Calls Tryz.prog 16 #[.agg #[.slice p.sa p.ss.length p.sc,.slice p.pa p.ps.length p.pc,.slice p.ma p.ms.length p.mc,.int .i64 p.tn,.int .i64 p.td]] W fun r w'=>r=.returned (.agg #[.int .i64 x.1,.string x.2])∧Kp W w' from HC.out)
 have Ho:=hid (show okF p=false by unfold okF;rw[hf];rfl)
 have hx:(x.1==0)=false:=beq_eq_false_iff_ne.2 (nz_check p x hf)
 clear hf HC
 go_wp2_with (go_at_call 16;go_fit HC2.out;rintro r w2 ⟨rfl,k2⟩)
 go_ret
 exact⟨ret_bool (by rw[Ho.out]),K1.out.trans k2⟩
end
section
open Go.RowKit Go.Sort
end
section
open Go.RowKit Go.Sort
theorem oneC {vs:List Value} (h:vs.all fun u=>u.oneCell'):∀ u∈vs,u.oneCell'=true:=List.all_eq_true.1 h
theorem infoModeC:(Tryz.prog.info? 41).map (fun i=>(i.zero,i.size,i.bytes))=some (some (.agg #[.string ⟨#[]⟩,.slice none 0 0,.slice none 0 0]),3,64):=by kernel_rfl
theorem nilMode (w:World) (a:Option Addr) (n c n' c':Nat):(binOp .eql 23 (.slice a n c) (.slice none n' c')).run Tryz.prog w=.ok (.bool a.isNone) w :=
 Lib.run_eql_slice_nil w _ _ a n c n' c' Tryz.underlying23
set_option maxHeartbeats 2000000 in
theorem cloneMode (a:Option Addr) (c:Nat) (zs:List Mo) (w:World) (B:Nat) (h:RowV Mo.cells 3 w B a zs) (hl:zs.length≤1100000) :
  Calls Tryz.prog 23 #[.slice a zs.length c] w fun r w'=>∃ v,r=.returned v∧OwnV Mo.cells 3 41 w w' v zs:=by
 have hn:=nilMode
 obtain⟨i0,hi,hz0,hz1,hz2⟩:=info_parts infoModeC
 cases a with
 | some ad =>
  have hO0:OwnV Mo.cells 3 41 w (w.alloc (.cells #[] 41)) (.slice (some ⟨w.heap.size,0,none⟩) 0 0) []:=OwnV.empty _ (Kp.refl w)
  obtain⟨v1,w1,hr1,hO1,_⟩:=app_vs (cells:=Mo.cells) (k:=3) (fun _=>rfl) (by decide) (fun x=>oneC rfl) 23 41 23 i0 _ 64 Tryz.underlying23 hi hz0 hz1 hz2 rfl w _ [] hO0 ⟨_,_,_,rfl,Nat.le_refl _⟩ B (some ad) c zs (h.kp hO0.1) (by simp only[List.length_nil];omega) (by simp only[List.length_nil];omega)
  have HRun:=hid hr1
  have HO:=hid hO1
  clear h hr1 hO1 hO0
  go_enter Tryz.func23,Tryz.ntmps23
  go_wp2_with (at_builtin;refine Lib.wpList_append_run _ rfl _ _ _ _ rfl _ _ rfl rfl _ _ HRun.out ?_)
  go_ret
  exact⟨_,rfl,HO.out⟩
 | none =>
 have h0:zs=[]:=by
  cases zs with
  | nil=>rfl
  | cons y t =>
   obtain⟨b,o,e,_⟩:=h 0 y rfl
   cases e
 subst h0
 go_enter Tryz.func23,Tryz.ntmps23
 go_wp2_with fail
 go_ret
 exact⟨_,rfl,OwnV.nil (.refl _)⟩
end
section
open Go.RowKit Go.Sort
def mplF (s:ByteArray):List Mo→Int
 | []=>-1
 | m::r=>if m.name=s then 0 else if mplF s r<0 then -1 else mplF s r+1
theorem mplF_at {s:ByteArray}:∀ {l:List Mo} {k:Nat} {m:Mo},l[k]? = some m→m.name=s→(∀ (i:Nat) (x:Mo),l[i]? = some x→i<k→x.name≠s)→mplF s l=k
 | [],k,m,h,_,_=>by simp at h
 | x::r,0,m,h,hn,_=>by
  simp only[List.getElem?_cons_zero,Option.some.injEq] at h
  subst h
  unfold mplF
  rw[if_pos hn];rfl
 | x::r,k+1,m,h,hn,hz=>by
  have h0:x.name≠s:=hz 0 x (by simp) (by omega)
  have ih:=mplF_at (l:=r) (k:=k) (m:=m) (by simpa using h) hn (fun i y hy hi=>hz (i+1) y (by simpa using hy) (by omega))
  unfold mplF
  rw[if_neg h0,ih,if_neg (by omega)]
  omega
theorem mplF_no {s:ByteArray}:∀ {l:List Mo},(∀ m∈l,m.name≠s)→mplF s l=-1
 | [],_=>rfl
 | x::r,h=>by
  unfold mplF
  rw[if_neg (h x (by simp)),mplF_no (fun m hm=>h m (by simp[hm])),if_pos (by decide)]
def rmpF (p:Pr) (s:ByteArray):Int:=if okF p=true then mplF s p.ms else -1
set_option maxHeartbeats 4000000 in
set_option maxRecDepth 20000 in
theorem r16Mode_any (p:Pr) (s:ByteArray) (w:World) (B:Nat) (hat:p.at w B) :
  Calls Tryz.prog 19 #[.agg #[.slice p.sa p.ss.length p.sc,.slice p.pa p.ps.length p.pc,.slice p.ma p.ms.length p.mc,.int .i64 p.tn,.int .i64 p.td],.string s] w fun r w'=>r=.returned (.int .i64 (rmpF p s))∧Kp w w':=by
 have k1:Kp w (w.alloc (.cells #[.slice p.sa p.ss.length p.sc,.slice p.pa p.ps.length p.pc,.slice p.ma p.ms.length p.mc,.int .i64 p.tn,.int .i64 p.td] 27)):=(Kp.refl w).alloc _
 have h0:BoxV (w.alloc (.cells #[.slice p.sa p.ss.length p.sc,.slice p.pa p.ps.length p.pc,.slice p.ma p.ms.length p.mc,.int .i64 p.tn,.int .i64 p.td] 27)) w.heap.size p.cells:=BoxV.new w p.cells _ _ rfl
 have hml:=hat.1.2.2
 obtain⟨R,hR⟩:∃ R,rmpF p s=R:=⟨_,rfl⟩
 rw[hR]
 go_enter Tryz.func19,Tryz.ntmps19
 go_upto_region 1 with fail
 generalize w.alloc _=W at *
 have HAT:=hid (Pr.at_kp hat k1)
 have HRi:=hid fun W' (k:Kp W W')=>r16right_any p W' B (Pr.at_kp HAT.out k)
 have H0:=hid h0
 have K1:=hid k1
 have HR:=hid hR
 clear h0 k1 hat hR
 cases hf:okF p with
 | false =>
  rw[hf] at HRi
  have HZ:=hid (show R=-1 by rw[← HR.out];unfold rmpF;rw[hf];rfl)
  clear hf HR
  have hq:=H0.out
  have q0:=hq.cell 0 rfl;have q1:=hq.cell 1 rfl;have q2:=hq.cell 2 rfl;have q3:=hq.cell 3 rfl;have q4:=hq.cell 4 rfl
  clear hq
  go_upto_region 2 with fail
  go_loopw [5] (fun x wr=>x=.int .i64 0∧wr=W) (fun _ _=>0)
  case atStart=>exact⟨rfl,rfl⟩
  case round =>
  obtain⟨rfl,rfl⟩:=hrel
  by_cases hlt:(0:Int)<(p.ms.length:Int)
  ·go_wp2_with (first | (go_at_call 76;go_fit (HRi.out _ (Kp.refl _));rintro r w3 ⟨rfl,k3⟩) | fail)
   go_ret
   exact⟨by rw[HZ.out];rfl,K1.out.trans k3⟩
  go_wp2_with fail
  go_ret
  exact⟨by rw[HZ.out];rfl,K1.out⟩
 | true =>
 rw[hf] at HRi
 have HZ:=hid (show R=mplF s p.ms by rw[← HR.out];unfold rmpF;rw[hf];rfl)
 clear hf HR
 go_upto_region 2 with fail
 go_loopw [5] (fun x wr=>∃ k:Nat,k≤p.ms.length∧x=.int .i64 k∧(∀ (i:Nat) (m:Mo),p.ms[i]? = some m→i<k→m.name≠s)∧Kp W wr) (fun x _=>p.ms.length-(intOf x).toNat)
 case atStart=>exact⟨0,by omega,rfl,fun i m _ h=>absurd h (Nat.not_lt_zero _),.refl _⟩
 case round =>
 obtain⟨k,hk,rfl,hz,hkv⟩:=hrel
 have Hz:=hid hz
 have HK:=hid hkv
 clear hz
 have hq:=H0.out.kp hkv
 have q0:=hq.cell 0 rfl;have q1:=hq.cell 1 rfl;have q2:=hq.cell 2 rfl;have q3:=hq.cell 3 rfl;have q4:=hq.cell 4 rfl
 clear hq
 by_cases hlt:k<p.ms.length
 rotate_left
 ·have Ha:=hid (show mplF s p.ms=-1 from mplF_no fun m hm=>by
   obtain⟨i,hi⟩:=List.getElem?_of_mem hm
   exact Hz.out i m hi (by have:=(List.getElem?_eq_some_iff.1 hi).1;omega))
  clear hkv
  go_wp2_with fail
  go_ret
  exact⟨by rw[HZ.out,Ha.out];first | rfl | skip,K1.out.trans HK.out⟩
 obtain⟨m,hs⟩:∃ m,p.ms[k]? = some m:=⟨_,List.getElem?_eq_getElem hlt⟩
 have Hs:=hid hs
 clear hs hkv
 go_upto_region 4 with (first | (go_at_call 76;go_fit (HRi.out wr HK.out);rintro r w3 ⟨rfl,k3⟩) | fail)
 have HK3:=hid (HK.out.trans k3)
 obtain⟨b,o,ha,_,hc⟩:=HAT.out.2.2.2.1.kp HK3.out k m Hs.out
 have z0:w3.cell? ⟨b,o+k*3,none⟩=some (.string m.name):=hc 0 _ rfl
 have hq:=H0.out.kp HK3.out
 clear q0 q1 q2 q3 q4
 have q2:=hq.cell 2 rfl
 rw[ha] at q2
 clear hq hc ha k3
 by_cases hn:m.name=s
 ·have Ha:=hid (mplF_at Hs.out hn Hz.out)
  subst hn
  go_wp2_with fail
  go_ret
  exact⟨by rw[HZ.out,Ha.out];first | rfl | skip,K1.out.trans HK3.out⟩
 have hq3:(m.name.toList==s.toList)=false:=strNe hn
 have HNn:=hid hn
 clear hn
 go_wp2_with fail
 go_roundw
 case measure=>simp only[intOf];omega
 case rel =>
 refine⟨k+1,by omega,by go_num,fun i y hy hi=>?_,HK3.out⟩
 by_cases h:i=k
 ·subst h;rw[Hs.out] at hy;cases hy;exact HNn.out
 exact Hz.out i y hy (by omega)
set_option maxHeartbeats 4000000 in
set_option maxRecDepth 20000 in
theorem r16Names_any (p:Pr) (w:World) (B:Nat) (hat:p.at w B) :
  Calls Tryz.prog 22 #[.agg #[.slice p.sa p.ss.length p.sc,.slice p.pa p.ps.length p.pc,.slice p.ma p.ms.length p.mc,.int .i64 p.tn,.int .i64 p.td]] w fun r w'=>∃ v,r=.returned v∧OwnU w w' v (nmsF p):=by
 have k1:Kp w (w.alloc (.cells #[.slice p.sa p.ss.length p.sc,.slice p.pa p.ps.length p.pc,.slice p.ma p.ms.length p.mc,.int .i64 p.tn,.int .i64 p.td] 27)):=(Kp.refl w).alloc _
 have h0:BoxV (w.alloc (.cells #[.slice p.sa p.ss.length p.sc,.slice p.pa p.ps.length p.pc,.slice p.ma p.ms.length p.mc,.int .i64 p.tn,.int .i64 p.td] 27)) w.heap.size p.cells:=BoxV.new w p.cells _ _ rfl
 go_enter Tryz.func22,Tryz.ntmps22
 go_upto_region 1 with fail
 generalize w.alloc _=W at *
 have HAT:=hid (Pr.at_kp hat k1)
 have HRi:=hid (r16right_any p W B HAT.out)
 have H0:=hid h0
 have K1:=hid k1
 have q0:=h0.cell 0 rfl;have q1:=h0.cell 1 rfl;have q2:=h0.cell 2 rfl;have q3:=h0.cell 3 rfl;have q4:=h0.cell 4 rfl
 clear h0 k1 hat
 cases hf:okF p with
 | false =>
  rw[hf] at HRi
  have HZ:=hid (nmsF_no hf)
  clear hf
  go_wp2_with (first | (go_at_call 76;go_fit HRi.out;rintro r w3 ⟨rfl,k3⟩) | fail)
  go_ret
  exact⟨_,rfl,by rw[HZ.out];exact OwnU.nil (K1.out.trans k3)⟩
 | true =>
 rw[hf] at HRi
 have HZ:=hid (nmsF_yes hf)
 have HPB:=hid (okF_prob hf)
 clear hf
 go_wp2_with (first
  | (go_at_call 76;go_fit HRi.out;rintro r w3 ⟨rfl,k3⟩;clear q0 q1 q2 q3 q4;have hq:=H0.out.kp k3;have q0:=hq.cell 0 rfl;have q1:=hq.cell 1 rfl;have q2:=hq.cell 2 rfl;have q3:=hq.cell 3 rfl;have q4:=hq.cell 4 rfl;clear hq)
  | (go_at_call 70;go_fit (rnamed_any p w3 B (Pr.at_kp HAT.out k3) HPB.out);rintro r w4 ⟨v1,v2,rfl,hO1,hO2⟩)
  | fail)
 go_ret
 exact⟨_,rfl,by rw[HZ.out];exact hO2.base (K1.out.trans k3)⟩
end
section
open Go.RowKit Go.Sort
def allW {α:Type} (p:α→α→Bool) (zs ys:List α):Bool:=decide (zs.length=ys.length)&&(zs.zip ys).all fun q=>p q.1 q.2
theorem allW_true {α:Type} {p:α→α→Bool} {zs ys:List α}:allW p zs ys=true↔zs.length=ys.length∧∀ (i:Nat) (x y:α),zs[i]? = some x→ys[i]? = some y→p x y=true:=by
 unfold allW
 rw[Bool.and_eq_true,decide_eq_true_eq,List.all_eq_true]
 refine and_congr_right fun hl=>⟨fun h i x y hx hy=>?_,fun h q hq=>?_⟩
 ·refine h (x,y) (List.mem_of_getElem? (i:=i) ?_)
  rw[List.getElem?_zip_eq_some];exact⟨hx,hy⟩
 obtain⟨i,hi⟩:=List.getElem?_of_mem hq
 have hi2:=List.getElem?_zip_eq_some.1 hi
 exact h i _ _ hi2.1 hi2.2
theorem allW_false {α:Type} {p:α→α→Bool} {zs ys:List α} {i:Nat} {x y:α} (hx:zs[i]? = some x) (hy:ys[i]? = some y) (h:p x y=false):allW p zs ys=false:=by
 cases ha:allW p zs ys with
 | true=>rw[(allW_true.1 ha).2 i x y hx hy] at h;cases h
 | false=>rfl
theorem allW_len {α:Type} {p:α→α→Bool} {zs ys:List α} (h:¬ zs.length=ys.length):allW p zs ys=false:=by unfold allW;rw[decide_eq_false h];rfl
theorem allW_refl {α:Type} {p:α→α→Bool} {zs:List α} (h:∀ x∈zs,p x x=true):allW p zs zs=true:=allW_true.2 ⟨rfl,fun i x y hx hy=>by
 rw[hx] at hy;cases hy;exact h x (List.mem_of_getElem? hx)⟩
def deqB (a b:De):Bool:=decide (a.name=b.name)&&(decide (a.ln=b.ln)&&(decide (a.ld=b.ld)&&(decide (a.hn=b.hn)&&decide (a.hd=b.hd))))
def qeqB (a b:Qe):Bool:=decide (a.name=b.name)&&a.e.eqv b.e
def xeqB (a b:Ed):Bool:=a.g.eqv b.g&&(decide (a.dir=b.dir)&&(decide (a.tx=b.tx)&&allW qeqB a.rs b.rs))
def meqB (a b:Mo):Bool:=decide (a.name=b.name)&&(allW qeqB a.fs b.fs&&allW xeqB a.es b.es)
def peqB (a b:Pr):Bool:=decide (a.tn=b.tn∧a.td=b.td)&&(allW deqB a.ss b.ss&&(allW deqB a.ps b.ps&&allW meqB a.ms b.ms))
theorem deqB_refl (a:De):deqB a a=true:=by unfold deqB;simp
theorem qeqB_refl (a:Qe):qeqB a a=true:=by unfold qeqB;rw[eqv_refl];simp
theorem xeqB_refl (a:Ed):xeqB a a=true:=by unfold xeqB;rw[eqv_refl,allW_refl fun x _=>qeqB_refl x];simp
theorem meqB_refl (a:Mo):meqB a a=true:=by unfold meqB;rw[allW_refl fun x _=>qeqB_refl x,allW_refl fun x _=>xeqB_refl x];simp
theorem peqB_refl (a:Pr):peqB a a=true:=by unfold peqB;rw[allW_refl fun x _=>deqB_refl x,allW_refl fun x _=>deqB_refl x,allW_refl fun x _=>meqB_refl x];simp
end
section
open Go.RowKit Go.Sort
end
end Go.Proofs.YteidgoldnllabaaGreatDoor
