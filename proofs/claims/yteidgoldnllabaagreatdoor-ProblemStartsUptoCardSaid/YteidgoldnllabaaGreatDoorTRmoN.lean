/-
  Walks: ref16.mode.
-/
import Derived.Test.YteidgoldnllabaaGreatDoorTRedN
set_option maxHeartbeats 16000000
set_option maxRecDepth 20000
namespace Go.Proofs.YteidgoldnllabaaGreatDoor
open Go.RowKit Go.Sort
theorem modeB_parts {m:Mo} (h:modeB m=true):m.fs.length≤4∧m.es.length≤4∧(∀ q∈m.fs,q.e.ok=true)∧∀ x∈m.es,edgeB x=true:=by
 unfold modeB at h
 simp only[Bool.and_eq_true,List.all_eq_true,decide_eq_true_eq] at h
 refine⟨h.2.1,h.2.2.1,fun q hq=>?_,h.2.2.2.2⟩
 have:=h.2.2.2.1 q hq
 unfold eqnB at this
 simp only[Bool.and_eq_true] at this
 exact this.2
theorem edge_flt (st all md:List ByteArray) (a1 a2 a3:Option Addr) (c1 c2 c3:Nat) (x:Ed) (w:World) (B:Nat) (h1:RowS w a1 st) (h2:RowS w a2 all) (h3:RowS w a3 md) (l1:st.length≤1000) (l2:all.length≤1000) (l3:md.length≤1000) (hat:x.at w B) (hok:edgeB x=true) :
  Calls Tryz.prog 136 #[.slice a1 st.length c1,.slice a2 all.length c2,.slice a3 md.length c3,.agg #[.int .i64 x.g.kind,.int .i64 x.g.rn,.int .i64 x.g.rd,.string x.g.name,.int .i64 x.g.pw,.slice x.g.a x.g.l.length x.g.c,.int .i64 x.dir,.string x.tx,.slice x.a x.rs.length x.c]] w fun r w'=>r=.returned (.agg #[.int .i64 (fltN (edgeF st all md x)),.string (fltS (edgeF st all md x))])∧Kp w w' :=
 (r16edge_any st all md a1 a2 a3 c1 c2 c3 x w B h1 h2 h3 l1 l2 l3 hat hok).mono fun r w' h=>⟨by rw[h.1,rfltV_eq],h.2⟩
theorem edgesF_at {st all mds:List ByteArray} {es:List Ed} {k:Nat} {x:Ed} (h:es[k]? = some x):edgesF st all mds (es.drop k)=orF (edgeF st all mds x) (edgesF st all mds (es.drop (k+1))):=by
 rw[drop_eq h];rfl
theorem r16mode_any (st all md:List ByteArray) (a1 a2 a3:Option Addr) (c1 c2 c3:Nat) (m:Mo) (w:World) (B:Nat) (h1:RowS w a1 st) (h2:RowS w a2 all) (h3:RowS w a3 md) (l1:st.length≤1000) (l2:all.length≤1000) (l3:md.length≤1000) (hat:m.at w B) (hok:modeB m=true) :
  Calls Tryz.prog 73 #[.slice a1 st.length c1,.slice a2 all.length c2,.slice a3 md.length c3,.agg #[.string m.name,.slice m.fa m.fs.length m.fc,.slice m.ea m.es.length m.ec]] w fun r w'=>r=.returned (rfltV (modeF st all md m))∧Kp w w':=by
 have k1:Kp w ((w.alloc (.cells #[.string m.name,.slice m.fa m.fs.length m.fc,.slice m.ea m.es.length m.ec] 41)).alloc (.cells #[.int .i64 0,.string ⟨#[]⟩] 36)):=((Kp.refl w).alloc _).alloc _
 have h0:BoxV ((w.alloc (.cells #[.string m.name,.slice m.fa m.fs.length m.fc,.slice m.ea m.es.length m.ec] 41)).alloc (.cells #[.int .i64 0,.string ⟨#[]⟩] 36)) w.heap.size m.cells:=(BoxV.new w m.cells _ _ rfl).kp ((Kp.refl _).alloc _)
 have hf:BoxV ((w.alloc (.cells #[.string m.name,.slice m.fa m.fs.length m.fc,.slice m.ea m.es.length m.ec] 41)).alloc (.cells #[.int .i64 0,.string ⟨#[]⟩] 36)) (w.heap.size+1) [.int .i64 0,.string ⟨#[]⟩]:=BoxV.new _ [_,_] _ _ (by simp)
 obtain⟨hfl,hel,hoq,hoe⟩:=modeB_parts hok
 obtain⟨F,hF⟩:∃ F,modeF st all md m=F:=⟨_,rfl⟩
 have HF:=Lib.hid (show F=orF (flowF st all [] m.fs) (orF (missF (m.fs.map Qe.name) st) (edgesF st all md m.es)) from hF.symm)
 rw[hF]
 clear hF hok
 go_enter Tryz.func73,Tryz.ntmps73
 go_upto_region 1 with fail
 generalize World.alloc _ _=W at *
 have HAT:=Lib.hid (Mo.at_kp hat k1)
 have HAs:=Lib.hid fun (bf:List ByteArray) (a:Option Addr) (c:Nat) (q:Qe) (W':World) (k:Kp W W') (hb:RowS W' a bf) (lb:bf.length≤1000) (hq:q∈m.fs)=>assigned_flt st all bf a1 a2 a c1 c2 c q W' B (h1.kp (k1.trans k)) (h2.kp (k1.trans k)) hb l1 l2 lb (Qe.at_kp (HAT.out.2.1.2 q hq) k).2 (hoq q hq)
 have HEd:=Lib.hid fun (x:Ed) (W':World) (k:Kp W W') (hx:x∈m.es)=>edge_flt st all md a1 a2 a3 c1 c2 c3 x W' B (h1.kp (k1.trans k)) (h2.kp (k1.trans k)) (h3.kp (k1.trans k)) l1 l2 l3 (Ed.at_kp (HAT.out.2.2.2 x hx) k) (hoe x hx)
 have H1:=Lib.hid (h1.kp k1)
 have HR:=Lib.hid hf
 have H0:=Lib.hid h0
 have K1:=Lib.hid k1
 have HNg:=Lib.hid fun (q:Qe) (bf:List ByteArray)=>nz_given st all q bf
 have HNe:=Lib.hid fun (x:Ed)=>nz_edge st all md x
 clear h0 hf h1 h2 h3 hat k1 hoq hoe
 go_upto_region 3 with fail
 go_loopw [9,10] (fun y z wr=>∃ k:Nat,k≤m.fs.length∧z=.int .i64 k∧OwnU W wr y ((m.fs.take k).map Qe.name)∧F=orF (flowF st all ((m.fs.take k).map Qe.name) (m.fs.drop k)) (orF (missF (m.fs.map Qe.name) st) (edgesF st all md m.es))) (fun _ z _=>m.fs.length-(intOf z).toNat)
 case atStart=>exact⟨0,by omega,rfl,OwnU.nil (.refl _),HF.out⟩
 case round =>
 obtain⟨k,hk,rfl,hO,hz⟩:=hrel
 have HO:=Lib.hid hO
 have HKw:=Lib.hid hO.1
 have hq:=H0.out.kp HKw.out
 have q3:=hq.cell 1 rfl
 clear hq
 by_cases hlt:k<m.fs.length
 ·obtain⟨q,hs⟩:∃ q,m.fs[k]? = some q:=⟨_,List.getElem?_eq_getElem hlt⟩
  obtain⟨b,o,ha,_,hc⟩:=HAT.out.2.1.1.kp HKw.out k q hs
  rw[flowF_step hs] at hz
  have HT:=Lib.hid (take_map Qe.name hs)
  have HQ:=Lib.hid (List.mem_of_getElem? hs)
  have HSx:=Lib.hid hs
  have hl2:((m.fs.take k).map Qe.name).length≤100:=by simp only[List.length_map,List.length_take];omega
  obtain⟨va,vc,rfl,hrw⟩:=hO.sl
  have z0:wr.cell? ⟨b,o+k*7,none⟩=some (.string q.name):=hc 0 _ rfl;have z1:=hc 1 _ rfl;have z2:=hc 2 _ rfl;have z3:=hc 3 _ rfl;have z4:=hc 4 _ rfl;have z5:=hc 5 _ rfl;have z6:=hc 6 _ rfl
  rw[ha] at q3
  generalize hnn:((m.fs.take k).map Qe.name)=nn at *
  have HNN:=Lib.hid hnn
  have Hz:=Lib.hid hz
  have HRw:=Lib.hid hrw
  clear hc hs ha hO hnn hz hrw
  generalize hG2:givenF st all q nn=G2 at *
  have HN2:=Lib.hid (show NzF G2 by rw[← hG2];exact HNg.out q nn)
  have HC:=Lib.hid fun W' (k':Kp wr W')=>HAs.out nn va vc q W' (HKw.out.trans k') (HRw.out.kp k') (by omega) HQ.out
  rw[hG2] at HC
  clear hG2
  go_upto_region 5 with fail
  go_cut [11] from 22 to 38 (fun s wx=>∃ g:Nat,s=.pointer (some ⟨g,0,none⟩)∧BoxV wx g [.int .i64 (fltN G2),.string (fltS G2)]∧Kp wr wx)
  case first =>
   have hSd:wr.drew.cell? ⟨w.heap.size,1,none⟩=some (.slice (some ⟨b,o,none⟩) m.fs.length m.fc)∧wr.drew.cell? ⟨b,o+k*7,none⟩=some (.string q.name)∧wr.drew.cell? ⟨b,o+k*7+1,none⟩=some (.int .i64 q.e.kind)∧wr.drew.cell? ⟨b,o+k*7+2,none⟩=some (.int .i64 q.e.rn)∧wr.drew.cell? ⟨b,o+k*7+3,none⟩=some (.int .i64 q.e.rd)∧wr.drew.cell? ⟨b,o+k*7+4,none⟩=some (.string q.e.name)∧wr.drew.cell? ⟨b,o+k*7+5,none⟩=some (.int .i64 q.e.pw)∧wr.drew.cell? ⟨b,o+k*7+6,none⟩=some (.slice q.e.a q.e.l.length q.e.c):=⟨(Kp.refl wr).drew.cell q3,(Kp.refl wr).drew.cell z0,(Kp.refl wr).drew.cell z1,(Kp.refl wr).drew.cell z2,(Kp.refl wr).drew.cell z3,(Kp.refl wr).drew.cell z4,(Kp.refl wr).drew.cell z5,(Kp.refl wr).drew.cell z6⟩
   have HSW:=Lib.hid (show wr.cell? ⟨w.heap.size,1,none⟩=some (.slice (some ⟨b,o,none⟩) m.fs.length m.fc)∧wr.cell? ⟨b,o+k*7,none⟩=some (.string q.name)∧wr.cell? ⟨b,o+k*7+1,none⟩=some (.int .i64 q.e.kind)∧wr.cell? ⟨b,o+k*7+2,none⟩=some (.int .i64 q.e.rn)∧wr.cell? ⟨b,o+k*7+3,none⟩=some (.int .i64 q.e.rd)∧wr.cell? ⟨b,o+k*7+4,none⟩=some (.string q.e.name)∧wr.cell? ⟨b,o+k*7+5,none⟩=some (.int .i64 q.e.pw)∧wr.cell? ⟨b,o+k*7+6,none⟩=some (.slice q.e.a q.e.l.length q.e.c) from ⟨q3,z0,z1,z2,z3,z4,z5,z6⟩)
   clear z0 z1 z2 z3 z4 z5 z6 q3
   go_region_held3 (fun w'=>w'.cell? ⟨w.heap.size,1,none⟩=some (.slice (some ⟨b,o,none⟩) m.fs.length m.fc)∧w'.cell? ⟨b,o+k*7,none⟩=some (.string q.name)∧w'.cell? ⟨b,o+k*7+1,none⟩=some (.int .i64 q.e.kind)∧w'.cell? ⟨b,o+k*7+2,none⟩=some (.int .i64 q.e.rn)∧w'.cell? ⟨b,o+k*7+3,none⟩=some (.int .i64 q.e.rd)∧w'.cell? ⟨b,o+k*7+4,none⟩=some (.string q.e.name)∧w'.cell? ⟨b,o+k*7+5,none⟩=some (.int .i64 q.e.pw)∧w'.cell? ⟨b,o+k*7+6,none⟩=some (.slice q.e.a q.e.l.length q.e.c)) (first | with_reducible assumption | with_reducible exact keep8 (by assumption) (by assumption) | with_reducible exact keep8 ((Kp.refl _).alloc _) (by assumption) | with_reducible exact keep8 ((Kp.refl _).alloc _).drew HSW.out | with_reducible exact keep8 (KW4.out.alloc _) HSW.out | with_reducible exact keep8 (box2_set HB4.out K4.out (Nat.le_refl _) _ _ rfl).2 HSW.out | fail) (first
    | (go_at_call 135;(first | go_fit (HC.out _ (Kp.refl wr).drew) | go_fit (HC.out _ ((Kp.refl wr).alloc _).drew) | fail);rintro r w4 ⟨rfl,k4⟩;(first | (have KW4:=Lib.hid ((Kp.refl wr).drew.trans k4)) | (have KW4:=Lib.hid (((Kp.refl wr).alloc _).drew.trans k4)) | skip);(first | (have hB4:=(BoxV.new wr [.int .i64 0,.string ⟨#[]⟩] 36 _ rfl).kp ((Kp.refl _).drew.trans k4);have e0:=hB4.cell 0 rfl;have e1:=hB4.cell 1 rfl;have j0:=hB4.2.1 0;have j1:=hB4.2.1 1;have HB4:=Lib.hid hB4;have K4:=Lib.hid (((Kp.refl wr).alloc _).drew.trans k4);clear hB4) | skip))
    | fail)
   all_goals
    go_wp2_with fail
    go_meet
    case rel=>first
     | exact⟨_,rfl,BoxV.new w4 [_,_] _ _ rfl,((Kp.refl wr).drew.trans k4).alloc _⟩
     | exact⟨_,rfl,box2_set HB4.out K4.out (Nat.le_refl _) _ _ rfl⟩
  case rest =>
  obtain⟨g,rfl,hbx,kx⟩:=hcut
  obtain⟨X,hX⟩:∃ X:World,X=wc:=⟨_,rfl⟩
  subst hX
  have b0:=hbx.cell 0 rfl
  have b1:=hbx.cell 1 rfl
  have HKX:=Lib.hid (HKw.out.trans kx)
  have HOx:=Lib.hid (HO.out.kp kx)
  clear z0 z1 z2 z3 z4 z5 z6 q3 hbx
  by_cases hg:G2=none
  ·have hn0:fltN G2=0:=(fltN_none HN2.out).2 hg
   have HZ2:=Lib.hid (show F=orF (flowF st all ((m.fs.take (k+1)).map Qe.name) (m.fs.drop (k+1))) (orF (missF (m.fs.map Qe.name) st) (edgesF st all md m.es)) by rw[Hz.out,hg];rfl)
   have hq:=H0.out.kp HKX.out
   have q3:=hq.cell 1 rfl
   obtain⟨b2,o2,ha2,_,hc2⟩:=HAT.out.2.1.1.kp HKX.out k q HSx.out
   have z0:X.cell? ⟨b2,o2+k*7,none⟩=some (.string q.name):=hc2 0 _ rfl;have z1:=hc2 1 _ rfl;have z2:=hc2 2 _ rfl;have z3:=hc2 3 _ rfl;have z4:=hc2 4 _ rfl;have z5:=hc2 5 _ rfl;have z6:=hc2 6 _ rfl
   rw[ha2] at q3
   clear hg hq hc2 ha2 kx
   go_wp2_with (at_builtin;refine wpList_append_us rfl _ _ rfl W _ nn rfl (HOx.out.kp ((Kp.refl _).alloc _)) ⟨X.heap.size,0,none⟩ 1 [q.name] 1 rfl rfl (rowS_one _ _ _ (by simp)) (by simp only[List.length_cons,List.length_nil];omega) ?_;intro v' w5 hO5)
   go_roundw
   case measure=>simp only[intOf];omega
   case rel=>exact⟨k+1,by omega,by go_num,by first | (rw[HT.out];exact hO5) | (rw[HT.out,HNN.out];exact hO5),HZ2.out⟩
  have hn0:¬ fltN G2=0:=fun h=>hg ((fltN_none HN2.out).1 h)
  have HZ2:=Lib.hid (show rfltV F=.agg #[.int .i64 (fltN G2),.string (fltS G2)] by
   rw[Hz.out]
   cases G2 with
   | none=>exact absurd rfl hg
   | some y=>rfl)
  have hR:=HR.out.kp (HKX.out)
  have r0:=hR.cell 0 rfl
  have r1:=hR.cell 1 rfl
  have f0:=hR.2.1 0
  have f1:=hR.2.1 1
  have HRR:=Lib.hid hR
  clear hR
  clear hg kx
  go_wp2_with fail
  generalize hW9:(World.setCell _ _ _).setCell _ _=W9
  obtain⟨hF,hK⟩:=box2_set HRR.out (K1.out.trans HKX.out) (show w.heap.size≤w.heap.size+1 by omega) _ _ hW9
  have s0:=hF.cell 0 rfl
  have s1:=hF.cell 1 rfl
  refine bodyPost_ret (v:=.agg #[.int .i64 (fltN G2),.string (fltS G2)]) (by simp[results,Tryz.results73,go_sem,s0,s1]) rfl ?_
  rw[HZ2.out]
  exact⟨rfl,hK⟩
 have hk2:k=m.fs.length:=by omega
 subst hk2
 rw[List.take_length] at HO
 have HZ:=Lib.hid (show F=orF (missF (m.fs.map Qe.name) st) (edgesF st all md m.es) by rw[hz,List.drop_length];rfl)
 clear hz hO hlt hk
 obtain⟨va,vc,rfl,hrw⟩:=HO.out.sl
 have hvl:(m.fs.map Qe.name).length≤100:=by rw[List.length_map];omega
 generalize hHV:m.fs.map Qe.name=hv at *
 have HRw:=Lib.hid hrw
 clear hrw hHV
 go_upto_region 10 with fail
 clear q3
 obtain⟨V,hV⟩:∃ V:World,V=wr:=⟨_,rfl⟩
 subst hV
 go_loopw [12] (fun z wr=>∃ k:Nat,k≤st.length∧z=.int .i64 k∧Kp V wr∧F=orF (missF hv (st.drop k)) (edgesF st all md m.es)) (fun z _=>st.length-(intOf z).toNat)
 case atStart=>exact⟨0,by omega,rfl,.refl _,HZ.out⟩
 case round =>
 obtain⟨k,hk,rfl,hkv,hz⟩:=hrel
 have HKv:=Lib.hid hkv
 have HK2:=Lib.hid (HKw.out.trans hkv)
 by_cases hlt:k<st.length
 ·obtain⟨s,hs⟩:∃ s,st[k]? = some s:=⟨_,List.getElem?_eq_getElem hlt⟩
  obtain⟨b,o,ha,h0⟩:=H1.out.kp HK2.out k s hs
  rw[missF_step hs] at hz
  have HP:=Lib.hid (place_any va vc hv s wr (HRw.out.kp hkv) (by omega))
  have H0s:=Lib.hid h0
  rw[ha]
  clear hs hkv ha
  cases hq:inS hv s with
  | true =>
   have hp:¬ placeF s hv<0:=fun h=>placeF_neg.1 h (inS_iff.1 hq)
   have Hz:=Lib.hid (show F=orF (missF hv (st.drop (k+1))) (edgesF st all md m.es) by rw[hz];unfold isIn;rw[hq];rfl)
   clear hz hq
   go_wp2_with (first | (go_at_call 133;go_fit HP.out;rintro r w3 ⟨rfl,k3⟩) | fail)
   go_roundw
   case measure=>simp only[intOf];omega
   case rel=>exact⟨k+1,by omega,by go_num,HKv.out.trans k3,Hz.out⟩
  | false =>
  have hp:placeF s hv<0:=placeF_neg.2 (fun h=>by rw[inS_iff.2 h] at hq;cases hq)
  have HZ2:=Lib.hid (show rfltV F=.agg #[.int .i64 3,.string s] by rw[hz];unfold isIn;rw[hq];rfl)
  clear hz hq
  go_wp2_with (first
   | (go_at_call 133;go_fit HP.out;rintro r w3 ⟨rfl,k3⟩;clear h0;have h0:=k3.cell H0s.out)
   | (go_at_call 69;go_fit (rfault_any 3 s w3);rintro r w4 ⟨rfl,k4⟩;have hR:=HR.out.kp (HK2.out.trans (k3.trans k4));have r0:=hR.cell 0 rfl;have r1:=hR.cell 1 rfl;have f0:=hR.2.1 0;have f1:=hR.2.1 1;have HRR:=Lib.hid hR;clear hR)
   | fail)
  generalize hW9:(World.setCell _ _ _).setCell _ _=W9
  obtain⟨hF,hK⟩:=box2_set HRR.out (K1.out.trans (HK2.out.trans (k3.trans k4))) (show w.heap.size≤w.heap.size+1 by omega) _ _ hW9
  have s0:=hF.cell 0 rfl
  have s1:=hF.cell 1 rfl
  refine bodyPost_ret (v:=.agg #[.int .i64 3,.string s]) (by simp[results,Tryz.results73,go_sem,s0,s1]) rfl ?_
  rw[HZ2.out]
  exact⟨rfl,hK⟩
 have HZ3:=Lib.hid (show F=edgesF st all md m.es by rw[hz,List.drop_eq_nil_of_le (show st.length≤k by omega)];rfl)
 clear hz hkv
 have hq:=H0.out.kp HK2.out
 have q2:=hq.cell 2 rfl
 clear hq
 go_upto_region 15 with fail
 clear q2
 obtain⟨V2,hV⟩:∃ V:World,V=wr:=⟨_,rfl⟩
 subst hV
 go_loopw [13] (fun z wr=>∃ k:Nat,k≤m.es.length∧z=.int .i64 k∧Kp V2 wr∧F=edgesF st all md (m.es.drop k)) (fun z _=>m.es.length-(intOf z).toNat)
 case atStart=>exact⟨0,by omega,rfl,.refl _,HZ3.out⟩
 case round =>
 obtain⟨j,hj,rfl,hkv,hz⟩:=hrel
 have HKj:=Lib.hid hkv
 have HK3:=Lib.hid (HK2.out.trans hkv)
 have hq:=H0.out.kp HK3.out
 have q2:=hq.cell 2 rfl
 clear hq
 by_cases hltj:j<m.es.length
 rotate_left
 ·have HZ2:=Lib.hid (show rfltV F=.agg #[.int .i64 0,.string ⟨#[]⟩] by rw[hz,List.drop_eq_nil_of_le (show m.es.length≤j by omega)];rfl)
  have hR:=HR.out.kp (HK3.out)
  have r0:=hR.cell 0 rfl
  have r1:=hR.cell 1 rfl
  have f0:=hR.2.1 0
  have f1:=hR.2.1 1
  have HRR:=Lib.hid hR
  clear hR
  clear hz hkv
  go_wp2_with fail
  generalize hW9:(World.setCell _ _ _).setCell _ _=W9
  obtain⟨hF,hK⟩:=box2_set HRR.out (K1.out.trans HK3.out) (show w.heap.size≤w.heap.size+1 by omega) _ _ hW9
  have s0:=hF.cell 0 rfl
  have s1:=hF.cell 1 rfl
  refine bodyPost_ret (v:=.agg #[.int .i64 0,.string ⟨#[]⟩]) (by simp[results,Tryz.results73,go_sem,s0,s1]) rfl ?_
  rw[HZ2.out]
  exact⟨rfl,hK⟩
 obtain⟨x,hs⟩:∃ x,m.es[j]? = some x:=⟨_,List.getElem?_eq_getElem hltj⟩
 obtain⟨b,o,ha,_,hc⟩:=HAT.out.2.2.1.kp HK3.out j x hs
 rw[edgesF_at hs] at hz
 have Hz:=Lib.hid hz
 have HC:=Lib.hid (HEd.out x wr HK3.out (List.mem_of_getElem? hs))
 have HN2:=Lib.hid (HNe.out x)
 have z0:wr.cell? ⟨b,o+j*9,none⟩=some (.int .i64 x.g.kind):=hc 0 _ rfl;have z1:=hc 1 _ rfl;have z2:=hc 2 _ rfl;have z3:=hc 3 _ rfl;have z4:=hc 4 _ rfl;have z5:=hc 5 _ rfl;have z6:=hc 6 _ rfl;have z7:=hc 7 _ rfl;have z8:=hc 8 _ rfl
 rw[ha] at q2
 clear hc hs ha hkv hz
 generalize hG2:edgeF st all md x=G2 at *
 clear hG2
 go_upto_region 18 with (first | (go_at_call 136;go_fit HC.out;rintro r w4 ⟨rfl,k4⟩) | fail)
 have kA:=(Kp.refl w4).alloc (.cells #[.int .i64 (fltN G2),.string (fltS G2)] 36)
 have hB:BoxV (w4.alloc (.cells #[.int .i64 (fltN G2),.string (fltS G2)] 36)) w4.heap.size [.int .i64 (fltN G2),.string (fltS G2)]:=BoxV.new w4 [_,_] _ _ rfl
 have HKX:=Lib.hid (HK3.out.trans (k4.trans kA))
 have HKJ:=Lib.hid (HKj.out.trans (k4.trans kA))
 clear q2 z0 z1 z2 z3 z4 z5 z6 z7 z8 kA k4
 generalize w4.alloc _=X at *
 have b0:=hB.cell 0 rfl
 have b1:=hB.cell 1 rfl
 clear hB
 by_cases hg:G2=none
 ·have hn0:fltN G2=0:=(fltN_none HN2.out).2 hg
  have HZ2:=Lib.hid (show F=edgesF st all md (m.es.drop (j+1)) by rw[Hz.out,hg];rfl)
  clear hg
  go_wp2_with fail
  go_roundw
  case measure=>simp only[intOf];omega
  case rel=>exact⟨j+1,by omega,by go_num,HKJ.out,HZ2.out⟩
 have hn0:¬ fltN G2=0:=fun h=>hg ((fltN_none HN2.out).1 h)
 have HZ2:=Lib.hid (show rfltV F=.agg #[.int .i64 (fltN G2),.string (fltS G2)] by
  rw[Hz.out]
  cases G2 with
  | none=>exact absurd rfl hg
  | some y=>rfl)
 have hR:=HR.out.kp (HKX.out)
 have r0:=hR.cell 0 rfl
 have r1:=hR.cell 1 rfl
 have f0:=hR.2.1 0
 have f1:=hR.2.1 1
 have HRR:=Lib.hid hR
 clear hR
 clear hg
 go_wp2_with fail
 generalize hW9:(World.setCell _ _ _).setCell _ _=W9
 obtain⟨hF,hK⟩:=box2_set HRR.out (K1.out.trans HKX.out) (show w.heap.size≤w.heap.size+1 by omega) _ _ hW9
 have s0:=hF.cell 0 rfl
 have s1:=hF.cell 1 rfl
 refine bodyPost_ret (v:=.agg #[.int .i64 (fltN G2),.string (fltS G2)]) (by simp[results,Tryz.results73,go_sem,s0,s1]) rfl ?_
 rw[HZ2.out]
 exact⟨rfl,hK⟩
end Go.Proofs.YteidgoldnllabaaGreatDoor
