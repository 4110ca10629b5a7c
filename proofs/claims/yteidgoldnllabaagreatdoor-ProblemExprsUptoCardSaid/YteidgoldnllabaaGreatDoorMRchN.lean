/-
  Walks: ref16.Check, Right.
-/
import Derived.Test.YteidgoldnllabaaGreatDoorMRmoN
import Derived.Test.YteidgoldnllabaaGreatDoorMLawQa
import Derived.Test.YteidgoldnllabaaGreatDoorMSysN
import Derived.Test.YteidgoldnllabaaGreatDoorMIvlN
import Derived.Test.YteidgoldnllabaaGreatDoorMWalN
namespace Go.Proofs.YteidgoldnllabaaGreatDoor
open Go.RowKit
open Lib (hid)
section
open Go.RowKit Go.Sort
theorem step_append_run {P:Program} {w:World} {ops:Array Oper} {o:Oper} {a:Act} {K:Act→World→Prop} {Q:Exit→Act→World→Prop} {E:Prop} (hgd:o.guard=none) (s x:Operand) (t:TypeId)
  (ho:o.op=.call { callee:=.builtin .append,args:=#[s,x],argTypes:=#[t,t] }) (v1 v2:Value) (hs:a.eval s=v1) (hx:a.eval x=v2) (v':Value) (w':World)
  (hr:(Builtin.append_ #[t,t] o.type #[v1,v2]).run P w=.ok v' w') (h:K (a.put o.dst v') w') :
  if Region.wanted o (yielded ops a.tmps)=true then Oper.wp P o a w K Q else E:=by
 have hw:Region.wanted o (yielded ops a.tmps)=true:=by simp[Region.wanted,hgd]
 rw[if_pos hw]
 unfold Oper.wp execOp
 simp only[ho,resolve,invoke,builtin,Sem.run_bind,Sem.run_pure,Result.andThen_ok,List.map_toArray,List.map_cons,List.map_nil,hs,hx,hr]
 exact h
def NnV (v:Value):Prop:=∃ ad n c,v=.slice (some ad) n c∧n≤c
theorem OwnV.empty {α:Type} {cells:α→List Value} {k:Nat} (T:TypeId) {wb w:World} (q:Kp wb w):OwnV cells k T wb (w.alloc (.cells #[] T)) (.slice (some ⟨w.heap.size,0,none⟩) 0 0) [] :=
 ⟨q.alloc _,World.ownsRow_lit w #[] 0 q.size (by simp) (by simp)⟩
theorem app_vs {α:Type} {cells:α→List Value} {k:Nat} (hk:∀ x,(cells x).length=k) (h0:0<k) (h1:∀ x,∀ u∈cells x,u.oneCell'=true) {w:World} (t T ty:TypeId) (i0:TypeInfo) (z:Value) (bytes:Nat) (ht:Tryz.prog.underlying t=some (.slice T)) (hi:Tryz.prog.info? T=some i0) (hz:i0.zero=some z) (hsz:i0.size=k) (hby:i0.bytes=bytes) (hzs:z.cells.size=k)
  (wb:World) (v:Value) (zs:List α) (hown:OwnV cells k T wb w v zs) (hn:NnV v) (B:Nat) (a:Option Addr) (c:Nat) (ys:List α) (hrow:RowV cells k w B a ys) (hlen:zs.length+ys.length≤9000000) (hbl:(zs.length+ys.length)*bytes≤140737488355328) :
  ∃ v' w',(Builtin.append_ #[t,t] ty #[v,.slice a ys.length c]).run Tryz.prog w=.ok v' w'∧OwnV cells k T wb w' v' (zs++ys)∧NnV v':=by
 obtain⟨hkk,hown1⟩:=hown
 have main:∀ (ad:Addr),(∀ (i:Nat) (y:α),ys[i]? = some y→∀ (j:Nat) (u:Value),(cells y)[j]? = some u→w.cell? (ad.add (i*k+j))=some u)→∃ v' w',(Builtin.append_ #[t,t] ty #[v,.slice (some ad) ys.length c]).run Tryz.prog w=.ok v' w'∧OwnV cells k T wb w' v' (zs++ys)∧NnV v':=by
  intro ad hr
  obtain⟨v',w',g1,g2,g3,g4,g5⟩:=run_append_own_at (P:=Tryz.prog) w wb.heap.size t ty T i0 z k bytes ht hi hz hsz hby hzs h0 v zs.length (zs.flatMap cells) hown1 ad ys.length c (ys.flatMap cells) (by rw[flatV_len cells k hk]) (by
   intro j u hj
   obtain⟨i,r,y,hy,_,hr2,rfl⟩:=flatV_of cells k hk h0 ys j u hj
   exact hr i y hy r u hr2) (by
   intro u hu
   obtain⟨y,_,hy⟩:=List.mem_flatMap.1 hu
   exact h1 y u hy) (by unfold maxLen;omega) (by omega) hkk.size
  have hb:Below wb.heap.size w w':=(Below.refl wb.heap.size w).grown g3 hkk.size (fun k hk=>(hown1.lt k hk).1)
  have hO:OwnV cells k T wb w' v' (zs++ys):=⟨Below.trans hkk hb,by rw[List.flatMap_append,List.length_append];exact g2⟩
  refine⟨v',w',g1,hO,?_⟩
  rcases hO.2.2 with ⟨e,_⟩ | ⟨g,cap,cur,e,_,_,hn2,_⟩
  ·obtain⟨ad2,n2,c2,e2,_⟩:=hn
   have:=(g4.1 e).1
   rw[e2] at this
   cases this
  ·exact⟨_,_,_,e,hn2⟩
 cases a with
 | none =>
  have h0:ys=[]:=by
   cases ys with
   | nil=>rfl
   | cons y t =>
    obtain⟨b,o,e,_⟩:=hrow 0 y rfl
    cases e
  subst h0
  obtain⟨ad2,n2,c2,rfl,hle⟩:=hn
  exact⟨_,_,run_append_voidV (P:=Tryz.prog) w t ty T i0 ht hi ad2 n2 c2 _ c rfl hle,⟨hkk,by rw[List.append_nil];exact hown1⟩,⟨_,_,_,rfl,hle⟩⟩
 | some ad =>
 by_cases hy:ys=[]
 ·subst hy
  exact main ad fun i y h=>by simp at h
 obtain⟨y,t,rfl⟩:∃ y t,ys=y::t:=List.exists_cons_of_ne_nil hy
 obtain⟨b,o,e,_⟩:=hrow 0 y rfl
 cases e
 refine main _ fun i x hx j u hj=>?_
 obtain⟨b2,o2,e2,_,hc⟩:=hrow i x hx
 cases e2
 rw[addr_add,← Nat.add_assoc]
 exact hc j u hj
theorem mode_flt (st all md:List ByteArray) (a1 a2 a3:Option Addr) (c1 c2 c3:Nat) (m:Mo) (w:World) (B:Nat) (h1:RowS w a1 st) (h2:RowS w a2 all) (h3:RowS w a3 md) (l1:st.length≤1000) (l2:all.length≤1000) (l3:md.length≤1000) (hat:m.at w B) (hok:modeB m=true) :
  Calls Tryz.prog 73 #[.slice a1 st.length c1,.slice a2 all.length c2,.slice a3 md.length c3,.agg #[.string m.name,.slice m.fa m.fs.length m.fc,.slice m.ea m.es.length m.ec]] w fun r w'=>r=.returned (.agg #[.int .i64 (fltN (modeF st all md m)),.string (fltS (modeF st all md m))])∧Kp w w' :=
 (r16mode_any st all md a1 a2 a3 c1 c2 c3 m w B h1 h2 h3 l1 l2 l3 hat hok).mono fun r w' h=>⟨by rw[h.1,rfltV_eq],h.2⟩
theorem repeated_flt (ss:List ByteArray) (a:Option Addr) (c:Nat) (w:World) (hrow:RowS w a ss) (hm:ss.length≤1000) (hcap:ss.length≤c) :
  Calls Tryz.prog 71 #[.slice a ss.length c] w fun r w'=>r=.returned (.agg #[.int .i64 (fltN (onceF [] ss)),.string (fltS (onceF [] ss))])∧Kp w w' :=
 (rrepeated_any ss a c w hrow hm hcap).mono fun r w' h=>⟨by rw[h.1,rfltV_eq],h.2⟩
theorem nz_once:∀ ss hv,NzF (onceF hv ss)
 | [],_=>fun x hx=>by cases hx
 | s::t,hv=>nz_or (nz_need (by decide)) (nz_once t _)
theorem probB_mo {p:Pr} (h:probB p=true):∀ m∈p.ms,modeB m=true:=by
 unfold probB at h
 simp only[Bool.and_eq_true,List.all_eq_true] at h
 exact h.2.2.2.1
theorem nz_rng:∀ ds,NzF (rngF ds)
 | []=>fun x hx=>by cases hx
 | d::t=>nz_or (nz_need (by decide)) (nz_rng t)
theorem nz_modes (st all md:List ByteArray):∀ ms,NzF (modesF st all md ms)
 | []=>fun x hx=>by cases hx
 | m::t=>nz_or (nz_mode st all md m) (nz_modes st all md t)
theorem nz_check (p:Pr):NzF (checkF p):=nz_or (nz_need (by decide)) (nz_or (nz_once _ _) (nz_or (nz_once _ _) (nz_or (nz_rng _) (nz_or (nz_need (by decide)) (nz_modes _ _ _ _)))))
set_option maxHeartbeats 16000000 in
set_option maxRecDepth 20000 in
theorem r16check_any (p:Pr) (w:World) (B:Nat) (hat:p.at w B) :
  Calls Tryz.prog 16 #[.agg #[.slice p.sa p.ss.length p.sc,.slice p.pa p.ps.length p.pc,.slice p.ma p.ms.length p.mc,.int .i64 p.tn,.int .i64 p.td]] w fun r w'=>r=.returned (rfltV (checkF p))∧Kp w w':=by
 have k1:Kp w ((w.alloc (.cells #[.slice p.sa p.ss.length p.sc,.slice p.pa p.ps.length p.pc,.slice p.ma p.ms.length p.mc,.int .i64 p.tn,.int .i64 p.td] 27)).alloc (.cells #[.int .i64 0,.string ⟨#[]⟩] 36)):=((Kp.refl w).alloc _).alloc _
 have h0:BoxV ((w.alloc (.cells #[.slice p.sa p.ss.length p.sc,.slice p.pa p.ps.length p.pc,.slice p.ma p.ms.length p.mc,.int .i64 p.tn,.int .i64 p.td] 27)).alloc (.cells #[.int .i64 0,.string ⟨#[]⟩] 36)) w.heap.size p.cells:=(BoxV.new w p.cells _ _ rfl).kp ((Kp.refl _).alloc _)
 have hf:BoxV ((w.alloc (.cells #[.slice p.sa p.ss.length p.sc,.slice p.pa p.ps.length p.pc,.slice p.ma p.ms.length p.mc,.int .i64 p.tn,.int .i64 p.td] 27)).alloc (.cells #[.int .i64 0,.string ⟨#[]⟩] 36)) (w.heap.size+1) [.int .i64 0,.string ⟨#[]⟩]:=BoxV.new _ [_,_] _ _ (by simp)
 obtain⟨F,hF⟩:∃ F,checkF p=F:=⟨_,rfl⟩
 have HF:=hid (hF.symm.trans (checkF_eq p))
 rw[hF]
 clear hF
 go_enter Tryz.func16,Tryz.ntmps16
 go_upto_region 1 with fail
 generalize World.alloc _ _=W at *
 have HAT:=hid (Pr.at_kp hat k1)
 have HR:=hid hf
 have H0:=hid h0
 have K1:=hid k1
 have HP:=hid (rproblem_any p W B HAT.out)
 have q0:=h0.cell 0 rfl
 have q1:=h0.cell 1 rfl
 have q2:=h0.cell 2 rfl
 have q3:=h0.cell 3 rfl
 have q4:=h0.cell 4 rfl
 clear h0 hf hat k1
 cases hpb:probB p with
 | false =>
  have HZ2:=hid (show rfltV F=.agg #[.int .i64 1,.string ⟨#[]⟩] by rw[HF.out,hpb];rfl)
  rw[hpb] at HP
  clear hpb
  go_wp2_with (first
   | (go_at_call 68;go_fit HP.out;rintro r w2 ⟨rfl,k2⟩;clear q0 q1 q2 q3 q4)
   | (go_at_call 69;go_fit (rfault_any 1 ⟨#[]⟩ w2);rintro r w3 ⟨rfl,k3⟩;have hR:=HR.out.kp (k2.trans k3);have r0:=hR.cell 0 rfl;have r1:=hR.cell 1 rfl;have f0:=hR.2.1 0;have f1:=hR.2.1 1;have HRR:=hid hR;clear hR)
   | fail)
  generalize hW9:(World.setCell _ _ _).setCell _ _=W9
  obtain⟨hF,hK⟩:=box2_set HRR.out (K1.out.trans (k2.trans k3)) (show w.heap.size≤w.heap.size+1 by omega) _ _ hW9
  have s0:=hF.cell 0 rfl
  have s1:=hF.cell 1 rfl
  refine bodyPost_ret (v:=.agg #[.int .i64 1,.string ⟨#[]⟩]) (by simp[results,Tryz.results16,go_sem,s0,s1]) rfl ?_
  rw[HZ2.out]
  exact⟨rfl,hK⟩
 | true =>
 have HF2:=hid (show F=orF (onceF [] (allN p)) (orF (onceF [] (mdN p)) (orF (rngF (p.ss++p.ps)) (orF (needF (decide (0<p.tn)) 2 ByteArray.empty) (modesF (stN p) (allN p) (mdN p) p.ms)))) by rw[HF.out,hpb];rfl)
 rw[hpb] at HP
 have HPB:=hid hpb
 obtain⟨hs1,hs4,hp4,hm8⟩:=probB_ss hpb
 clear hpb HF
 go_upto_region 3 with (first
  | (go_at_call 68;go_fit HP.out;rintro r w2 ⟨rfl,k2⟩;clear q0 q1 q2 q3 q4)
  | fail)
 have hq:=H0.out.kp k2
 have q0:=hq.cell 0 rfl;have q1:=hq.cell 1 rfl;have q2:=hq.cell 2 rfl;have q3:=hq.cell 3 rfl;have q4:=hq.cell 4 rfl
 have HN:=hid (rnamed_any p w2 B (Pr.at_kp HAT.out k2) HPB.out)
 have K2:=hid k2
 clear hq HP k2
 go_upto_region 4 with (first
  | (go_at_call 70;go_fit HN.out;rintro r w3 ⟨v1,v2,rfl,hO1,hO2⟩;obtain⟨a1,c1,rfl,hr1,_⟩:=hO1.cap;obtain⟨a2,c2,rfl,hr2,hc2⟩:=hO2.cap)
  | fail)
 have K3:=hid (K2.out.trans hO1.1)
 have hl1:(stN p).length≤4:=by unfold stN;rw[List.length_map];omega
 have hl2:(allN p).length≤8:=by unfold allN;rw[List.length_append,List.length_map,List.length_map];omega
 have HR1:=hid hr1
 have HR2:=hid hr2
 have HNN:=hid (show stN p=p.ss.map De.name∧allN p=p.ss.map De.name++p.ps.map De.name from ⟨rfl,rfl⟩)
 clear q0 q1 q2 q3 q4 hr1 hr2 hO1 hO2 HN
 obtain⟨ST,hST⟩:∃ ST,stN p=ST:=⟨_,rfl⟩
 obtain⟨AL,hAL⟩:∃ AL,allN p=AL:=⟨_,rfl⟩
 rw[hST] at HR1 hl1 HF2 ⊢
 rw[hAL] at HR2 hl2 HF2 hc2 ⊢
 clear HNN hST hAL
 go_upto_region 6 with fail
 obtain⟨V,hV⟩:∃ V:World,V=w3:=⟨_,rfl⟩
 subst hV
 go_loopw [5,6] (fun y z wr=>∃ k:Nat,k≤p.ms.length∧z=.int .i64 k∧OwnU V wr y ((p.ms.take k).map Mo.name)) (fun _ z _=>p.ms.length-(intOf z).toNat)
 case atStart=>exact⟨0,by omega,rfl,OwnU.nil (.refl _)⟩
 case round =>
 obtain⟨k,hk,rfl,hO⟩:=hrel
 have HO:=hid hO
 have HKw:=hid (K3.out.trans hO.1)
 have hq:=H0.out.kp HKw.out
 have q2:=hq.cell 2 rfl
 clear hq
 by_cases hlt:k<p.ms.length
 ·obtain⟨m,hs⟩:∃ m,p.ms[k]? = some m:=⟨_,List.getElem?_eq_getElem hlt⟩
  obtain⟨b,o,ha,_,hc⟩:=HAT.out.2.2.2.1.kp HKw.out k m hs
  have HT:=hid (take_map Mo.name hs)
  have hl3:((p.ms.take k).map Mo.name).length≤100:=by simp only[List.length_map,List.length_take];omega
  have z0:wr.cell? ⟨b,o+k*3,none⟩=some (.string m.name):=hc 0 _ rfl
  rw[ha] at q2
  generalize hnn:((p.ms.take k).map Mo.name)=nn at *
  have HNN:=hid hnn
  clear hc hs ha hO hnn
  go_wp2_with (at_builtin;refine wpList_append_us rfl _ _ rfl V _ nn rfl (HO.out.kp ((Kp.refl _).alloc _)) ⟨wr.heap.size,0,none⟩ 1 [m.name] 1 rfl rfl (rowS_one _ _ _ (by simp)) (by simp only[List.length_cons,List.length_nil];omega) ?_;intro v' w5 hO5)
  go_roundw
  case measure=>simp only[intOf];omega
  case rel=>exact⟨k+1,by omega,by go_num,by first | (rw[HT.out];exact hO5) | (rw[HT.out,HNN.out];exact hO5)⟩
 have hk2:k=p.ms.length:=by omega
 subst hk2
 rw[List.take_length] at HO
 clear hO hlt hk
 obtain⟨a3,c3,rfl,hr3,hc3⟩:=HO.out.cap
 obtain⟨MD,hMD⟩:∃ MD,MD=mdN p:=⟨_,rfl⟩
 have hMD2:p.ms.map Mo.name=MD:=by rw[hMD];rfl
 have hl3:MD.length≤8:=by rw[hMD];unfold mdN;rw[List.length_map];omega
 rw[hMD2] at hr3 hc3 ⊢
 rw[← hMD] at HF2
 have HR3:=hid hr3
 have HRa:=hid (HR2.out.kp HO.out.1)
 clear hr3 hMD hMD2
 have HRp:=hid (repeated_flt AL a2 c2 wr HRa.out (by omega) hc2)
 have HN1:=hid (nz_once AL [])
 generalize hG:onceF [] AL=G at *
 clear hG
 go_upto_region 10 with (first | (go_at_call 71;go_fit HRp.out;rintro r w4 ⟨rfl,k4⟩) | fail)
 clear q2
 have kA:=(Kp.refl w4).alloc (.cells #[.int .i64 (fltN G),.string (fltS G)] 36)
 have hB:BoxV (w4.alloc (.cells #[.int .i64 (fltN G),.string (fltS G)] 36)) w4.heap.size [.int .i64 (fltN G),.string (fltS G)]:=BoxV.new w4 [_,_] _ _ rfl
 have HKX:=hid (HKw.out.trans (k4.trans kA))
 have HKW:=hid (k4.trans kA)
 clear kA k4
 generalize w4.alloc _=X at *
 have b0:=hB.cell 0 rfl
 have b1:=hB.cell 1 rfl
 clear hB
 by_cases hg:G=none
 rotate_left
 ·have hn0:¬ fltN G=0:=fun h=>hg ((fltN_none HN1.out).1 h)
  have HZ2:=hid (show rfltV F=.agg #[.int .i64 (fltN G),.string (fltS G)] by
   rw[HF2.out]
   cases G with
   | none=>exact absurd rfl hg
   | some y=>rfl)
  have hR:=HR.out.kp (HKX.out)
  have r0:=hR.cell 0 rfl
  have r1:=hR.cell 1 rfl
  have f0:=hR.2.1 0
  have f1:=hR.2.1 1
  have HRR:=hid hR
  clear hR
  clear hg
  go_wp2_with fail
  generalize hW9:(World.setCell _ _ _).setCell _ _=W9
  obtain⟨hF,hK⟩:=box2_set HRR.out (K1.out.trans HKX.out) (show w.heap.size≤w.heap.size+1 by omega) _ _ hW9
  have s0:=hF.cell 0 rfl
  have s1:=hF.cell 1 rfl
  refine bodyPost_ret (v:=.agg #[.int .i64 (fltN G),.string (fltS G)]) (by simp[results,Tryz.results16,go_sem,s0,s1]) rfl ?_
  rw[HZ2.out]
  exact⟨rfl,hK⟩
 have hn0:fltN G=0:=(fltN_none HN1.out).2 hg
 have HF3:=hid (show F=orF (onceF [] MD) (orF (rngF (p.ss++p.ps)) (orF (needF (decide (0<p.tn)) 2 ByteArray.empty) (modesF ST AL MD p.ms))) by rw[HF2.out,hg];rfl)
 have HRm:=hid (repeated_flt MD a3 c3 X (HR3.out.kp HKW.out) (by omega) hc3)
 have HN2:=hid (nz_once MD [])
 generalize hG2:onceF [] MD=G2 at *
 clear hG2 hg HF2
 go_upto_region 13 with (first | (go_at_call 71;go_fit HRm.out;rintro r w5 ⟨rfl,k5⟩) | fail)
 have kA2:=(Kp.refl w5).alloc (.cells #[.int .i64 (fltN G2),.string (fltS G2)] 36)
 have hB2:BoxV (w5.alloc (.cells #[.int .i64 (fltN G2),.string (fltS G2)] 36)) w5.heap.size [.int .i64 (fltN G2),.string (fltS G2)]:=BoxV.new w5 [_,_] _ _ rfl
 have HKY:=hid (HKX.out.trans (k5.trans kA2))
 have HKU:=hid (HKW.out.trans (k5.trans kA2))
 clear kA2 k5 b0 b1 hn0
 generalize w5.alloc _=Y at *
 have b0:=hB2.cell 0 rfl
 have b1:=hB2.cell 1 rfl
 clear hB2
 by_cases hg2:G2=none
 rotate_left
 ·have hg:=hg2
  have hn0:¬ fltN G2=0:=fun h=>hg ((fltN_none HN2.out).1 h)
  have HZ2:=hid (show rfltV F=.agg #[.int .i64 (fltN G2),.string (fltS G2)] by
   rw[HF3.out]
   cases G2 with
   | none=>exact absurd rfl hg
   | some y=>rfl)
  have hR:=HR.out.kp (HKY.out)
  have r0:=hR.cell 0 rfl
  have r1:=hR.cell 1 rfl
  have f0:=hR.2.1 0
  have f1:=hR.2.1 1
  have HRR:=hid hR
  clear hR
  clear hg hg2
  go_wp2_with fail
  generalize hW9:(World.setCell _ _ _).setCell _ _=W9
  obtain⟨hF,hK⟩:=box2_set HRR.out (K1.out.trans HKY.out) (show w.heap.size≤w.heap.size+1 by omega) _ _ hW9
  have s0:=hF.cell 0 rfl
  have s1:=hF.cell 1 rfl
  refine bodyPost_ret (v:=.agg #[.int .i64 (fltN G2),.string (fltS G2)]) (by simp[results,Tryz.results16,go_sem,s0,s1]) rfl ?_
  rw[HZ2.out]
  exact⟨rfl,hK⟩
 have hn0:fltN G2=0:=(fltN_none HN2.out).2 hg2
 have HF4:=hid (show F=orF (rngF (p.ss++p.ps)) (orF (needF (decide (0<p.tn)) 2 ByteArray.empty) (modesF ST AL MD p.ms)) by rw[HF3.out,hg2];rfl)
 clear hg2 HF3
 go_upto_region 15 with fail
 obtain⟨i0,hi,hz0,hz1,hz2⟩:=info_parts infoDecl
 have hqY:=H0.out.kp HKY.out
 have hSd:Y.drew.cell? ⟨w.heap.size,0,none⟩=some (.slice p.sa p.ss.length p.sc)∧Y.drew.cell? ⟨w.heap.size,1,none⟩=some (.slice p.pa p.ps.length p.pc):=⟨(Kp.refl Y).drew.cell (hqY.cell 0 rfl),(Kp.refl Y).drew.cell (hqY.cell 1 rfl)⟩
 have HSd:=hid hSd
 clear b0 b1 hn0 hqY
 refine wp_region_held_drew (S:=fun w'=>w'.cell? ⟨w.heap.size,0,none⟩=some (.slice p.sa p.ss.length p.sc)∧w'.cell? ⟨w.heap.size,1,none⟩=some (.slice p.pa p.ps.length p.pc)) (by kernel_rfl) hSd (fun hHeld=>?_)
 clear hSd
 refine tk 1 ?_;refine tk 2 ?_;refine tk 4 ?_;refine tk 5 ?_;(try simp only[Act.put,List.getElem_toArray,List.getElem_cons_zero,List.getElem_cons_succ,List.setIfInBounds_toArray,List.set_cons_zero,List.set_cons_succ])
 refine cm 0 (fun K hK=>?_)
 go_simp
 have hO0:OwnDe Y (Y.alloc (.cells #[] 68)).drew (.slice (some ⟨Y.heap.size,0,none⟩) 0 0) []:=(OwnV.empty _ (Kp.refl Y)).kp (Kp.refl _).drew
 have hqA:=H0.out.kp (HKY.out.trans hO0.1)
 refine hK.out _ _ ⟨hqA.cell 0 rfl,hqA.cell 1 rfl⟩ (fun hHeld=>?_)
 clear hK K
 refine cm 3 (fun K hK=>?_)
 obtain⟨d1,w6,hr6,hO6,hn6⟩:=app_vs de_len (by decide) de_one 22 68 22 i0 _ 48 Tryz.underlying22 hi hz0 hz1 hz2 rfl Y _ [] hO0 ⟨_,_,_,rfl,Nat.le_refl _⟩ B p.sa p.sc p.ss (HAT.out.2.1.1.kp (HKY.out.trans hO0.1)) (by simp only[List.length_nil];omega) (by simp only[List.length_nil];omega)
 refine step_append_run (by rfl) _ _ _ (by rfl) _ _ (by rfl) (by rfl) d1 w6 hr6 ?_
 have hqB:=H0.out.kp (HKY.out.trans hO6.1)
 refine hK.out _ _ ⟨hqB.cell 0 rfl,hqB.cell 1 rfl⟩ (fun hHeld=>?_)
 clear hK K hr6
 refine cm 6 (fun K hK=>?_)
 obtain⟨d2,w7,hr7,hO7,hn7⟩:=app_vs de_len (by decide) de_one 22 68 22 i0 _ 48 Tryz.underlying22 hi hz0 hz1 hz2 rfl Y _ ([]++p.ss) hO6 hn6 B p.pa p.pc p.ps (HAT.out.2.2.1.1.kp (HKY.out.trans hO6.1)) (by simp only[List.nil_append];omega) (by simp only[List.nil_append];omega)
 refine step_append_run (by rfl) _ _ _ (by rfl) _ _ (by rfl) (by rfl) d2 w7 hr7 ?_
 have hqC:=H0.out.kp (HKY.out.trans hO7.1)
 refine hK.out _ _ ⟨hqC.cell 0 rfl,hqC.cell 1 rfl⟩ (fun hHeld=>?_)
 clear hK K hr7
 rw[List.nil_append] at hO7
 obtain⟨da,dc,rfl,hdc,hdr⟩:=hO7.row de_len de_one
 refine tk 7 ?_;(try simp only[Act.put,List.getElem_toArray,List.getElem_cons_zero,List.getElem_cons_succ,List.setIfInBounds_toArray,List.set_cons_zero,List.set_cons_succ])
 refine wpAnyH_done (by kernel_rfl) ?_ _
 have HDR:=hid hdr
 have HKZ:=hid (HKY.out.trans hO7.1)
 have HKT:=hid (HKU.out.trans hO7.1)
 have HDB:=hid (probB_de HPB.out)
 have HMo:=hid (probB_mo HPB.out)
 have hdl:(p.ss++p.ps).length≤8:=by rw[List.length_append];omega
 clear hqA hqB hqC hO0 hO6 hO7 hn6 hn7 hdr HSd hHeld hdc
 obtain⟨DS,hDS⟩:∃ DS,p.ss++p.ps=DS:=⟨_,rfl⟩
 have hln:p.ss.length+p.ps.length=DS.length:=by rw[← hDS,List.length_append]
 rw[hDS] at HDR HDB HF4 hdl
 first | rw[hln] | skip
 try rw[hDS]
 clear hDS hln
 go_upto_region 17 with fail
 obtain⟨Z,hZ⟩:∃ V:World,V=w7:=⟨_,rfl⟩
 subst hZ
 go_loopw [10] (fun z wr=>∃ k:Nat,k≤DS.length∧z=.int .i64 k∧Kp Z wr∧F=orF (rngF (DS.drop k)) (orF (needF (decide (0<p.tn)) 2 ByteArray.empty) (modesF ST AL MD p.ms))) (fun z _=>DS.length-(intOf z).toNat)
 case atStart=>exact⟨0,by omega,rfl,.refl _,HF4.out⟩
 case round =>
 obtain⟨k,hk,rfl,hkv,hz⟩:=hrel
 have HKv:=hid hkv
 have HKk:=hid (HKZ.out.trans hkv)
 by_cases hlt:k<DS.length
 ·obtain⟨d,hs⟩:∃ d,DS[k]? = some d:=⟨_,List.getElem?_eq_getElem hlt⟩
  obtain⟨b,o,ha,_,hc⟩:=HDR.out.kp hkv k d hs
  have hdB:=HDB.out d (List.mem_of_getElem? hs)
  rw[rngF_step hs hdB] at hz
  obtain⟨hra,hrb⟩:=declB_rat hdB
  have HC:=hid (r4cmp_any d.ln d.ld d.hn d.hd wr.drew hra hrb)
  have Hz:=hid hz
  have z0:wr.cell? ⟨b,o+k*5,none⟩=some (.string d.name):=hc 0 _ rfl;have z1:wr.cell? ⟨b,o+k*5+1,none⟩=some (.int .i64 d.ln):=hc 1 _ rfl;have z2:wr.cell? ⟨b,o+k*5+2,none⟩=some (.int .i64 d.ld):=hc 2 _ rfl;have z3:wr.cell? ⟨b,o+k*5+3,none⟩=some (.int .i64 d.hn):=hc 3 _ rfl;have z4:wr.cell? ⟨b,o+k*5+4,none⟩=some (.int .i64 d.hd):=hc 4 _ rfl
  have hSd:wr.drew.cell? ⟨b,o+k*5,none⟩=some (.string d.name)∧wr.drew.cell? ⟨b,o+k*5+1,none⟩=some (.int .i64 d.ln)∧wr.drew.cell? ⟨b,o+k*5+2,none⟩=some (.int .i64 d.ld)∧wr.drew.cell? ⟨b,o+k*5+3,none⟩=some (.int .i64 d.hn)∧wr.drew.cell? ⟨b,o+k*5+4,none⟩=some (.int .i64 d.hd):=⟨(Kp.refl wr).drew.cell z0,(Kp.refl wr).drew.cell z1,(Kp.refl wr).drew.cell z2,(Kp.refl wr).drew.cell z3,(Kp.refl wr).drew.cell z4⟩
  have HSd:=hid hSd
  rw[ha]
  clear hs hc ha hkv hz hra hrb hdB z0 z1 z2 z3 z4
  go_upto_region 19 with fail
  refine wp_region_held_drew (S:=fun w'=>w'.cell? ⟨b,o+k*5,none⟩=some (.string d.name)∧w'.cell? ⟨b,o+k*5+1,none⟩=some (.int .i64 d.ln)∧w'.cell? ⟨b,o+k*5+2,none⟩=some (.int .i64 d.ld)∧w'.cell? ⟨b,o+k*5+3,none⟩=some (.int .i64 d.hn)∧w'.cell? ⟨b,o+k*5+4,none⟩=some (.int .i64 d.hd)) (by kernel_rfl) hSd (fun hHeld=>?_)
  clear hSd
  refine tk 0 ?_;refine tk 1 ?_;refine tk 2 ?_;refine tk 3 ?_;refine tk 4 ?_;refine tk 5 ?_;refine tk 6 ?_;refine tk 7 ?_;refine tk 8 ?_;refine tk 9 ?_;refine tk 10 ?_;refine tk 11 ?_;(try simp only[Act.put,List.getElem_toArray,List.getElem_cons_zero,List.getElem_cons_succ,List.setIfInBounds_toArray,List.set_cons_zero,List.set_cons_succ])
  refine cm 12 (fun K hK=>?_)
  (go_simp;go_fit HC.out;rintro r w8 ⟨rfl,k8⟩)
  refine hK.out _ _ (keep5 k8 HSd.out) (fun hHeld=>?_)
  clear hK K
  have HK8:=hid ((Kp.refl wr).drew.trans k8)
  have z0:=k8.cell HSd.out.1
  clear k8
  by_cases ho:ordZ (d.ln*d.hd) (d.hn*d.ld)≤0
  ·have hp:¬ 0<ordZ (d.ln*d.hd) (d.hn*d.ld):=by omega
   have HZ2:=hid (show F=orF (rngF (DS.drop (k+1))) (orF (needF (decide (0<p.tn)) 2 ByteArray.empty) (modesF ST AL MD p.ms)) by rw[Hz.out,decide_eq_true ho];rfl)
   refine tk 13 ?_;(try simp only[Act.put,List.getElem_toArray,List.getElem_cons_zero,List.getElem_cons_succ,List.setIfInBounds_toArray,List.set_cons_zero,List.set_cons_succ])
   refine wpAnyH_done (by kernel_rfl) ?_ _
   clear ho hHeld
   go_wp2_with fail
   go_roundw
   case measure=>simp only[intOf];omega
   case rel=>exact⟨k+1,by omega,by go_num,HKv.out.trans HK8.out,HZ2.out⟩
  have hp:0<ordZ (d.ln*d.hd) (d.hn*d.ld):=by omega
  have HZ2:=hid (show rfltV F=.agg #[.int .i64 2,.string d.name] by rw[Hz.out,decide_eq_false ho];rfl)
  refine tk 13 ?_;(try simp only[Act.put,List.getElem_toArray,List.getElem_cons_zero,List.getElem_cons_succ,List.setIfInBounds_toArray,List.set_cons_zero,List.set_cons_succ])
  refine wpAnyH_done (by kernel_rfl) ?_ _
  clear ho hHeld
  go_wp2_with (first
   | (go_at_call 69;go_fit (rfault_any 2 d.name w8);rintro r w9 ⟨rfl,k9⟩;have hR:=HR.out.kp (HKk.out.trans (HK8.out.trans k9));have r0:=hR.cell 0 rfl;have r1:=hR.cell 1 rfl;have f0:=hR.2.1 0;have f1:=hR.2.1 1;have HRR:=hid hR;clear hR)
   | fail)
  generalize hW9:(World.setCell _ _ _).setCell _ _=W9
  obtain⟨hF,hK⟩:=box2_set HRR.out (K1.out.trans (HKk.out.trans (HK8.out.trans k9))) (show w.heap.size≤w.heap.size+1 by omega) _ _ hW9
  have s0:=hF.cell 0 rfl
  have s1:=hF.cell 1 rfl
  refine bodyPost_ret (v:=.agg #[.int .i64 2,.string d.name]) (by simp[results,Tryz.results16,go_sem,s0,s1]) rfl ?_
  rw[HZ2.out]
  exact⟨rfl,hK⟩
 have HF5:=hid (show F=orF (needF (decide (0<p.tn)) 2 ByteArray.empty) (modesF ST AL MD p.ms) by rw[hz,List.drop_eq_nil_of_le (show DS.length≤k by omega)];rfl)
 clear hz hkv
 have hq:=H0.out.kp HKk.out
 have q3:=hq.cell 3 rfl
 have q2:=hq.cell 2 rfl
 clear hq
 by_cases htn:p.tn≤0
 ·have HZ2:=hid (show rfltV F=.agg #[.int .i64 2,.string ⟨#[]⟩] by rw[HF5.out,decide_eq_false (show ¬ 0<p.tn by omega)];rfl)
  clear q2
  go_wp2_with (first
   | (go_at_call 69;go_fit (rfault_any 2 ⟨#[]⟩ wr);rintro r w9 ⟨rfl,k9⟩;have hR:=HR.out.kp (HKk.out.trans k9);have r0:=hR.cell 0 rfl;have r1:=hR.cell 1 rfl;have f0:=hR.2.1 0;have f1:=hR.2.1 1;have HRR:=hid hR;clear hR)
   | fail)
  generalize hW9:(World.setCell _ _ _).setCell _ _=W9
  obtain⟨hF,hK⟩:=box2_set HRR.out (K1.out.trans (HKk.out.trans k9)) (show w.heap.size≤w.heap.size+1 by omega) _ _ hW9
  have s0:=hF.cell 0 rfl
  have s1:=hF.cell 1 rfl
  refine bodyPost_ret (v:=.agg #[.int .i64 2,.string ⟨#[]⟩]) (by simp[results,Tryz.results16,go_sem,s0,s1]) rfl ?_
  rw[HZ2.out]
  exact⟨rfl,hK⟩
 have HF6:=hid (show F=modesF ST AL MD p.ms by rw[HF5.out,decide_eq_true (show 0<p.tn by omega)];rfl)
 go_upto_region 24 with fail
 clear q2 q3
 obtain⟨V2,hV⟩:∃ V:World,V=wr:=⟨_,rfl⟩
 subst hV
 have HKq:=hid (HKT.out.trans HKv.out)
 go_loopw [11] (fun z wr=>∃ k:Nat,k≤p.ms.length∧z=.int .i64 k∧Kp V2 wr∧F=modesF ST AL MD (p.ms.drop k)) (fun z _=>p.ms.length-(intOf z).toNat)
 case atStart=>exact⟨0,by omega,rfl,.refl _,HF6.out⟩
 case round =>
 obtain⟨j,hj,rfl,hkv,hz⟩:=hrel
 have HKj:=hid hkv
 have HK3:=hid (HKk.out.trans hkv)
 have HKr:=hid (HKq.out.trans hkv)
 have hq:=H0.out.kp HK3.out
 have q2:=hq.cell 2 rfl
 clear hq
 by_cases hltj:j<p.ms.length
 rotate_left
 ·have HZ2:=hid (show rfltV F=.agg #[.int .i64 0,.string ⟨#[]⟩] by rw[hz,List.drop_eq_nil_of_le (show p.ms.length≤j by omega)];rfl)
  have hR:=HR.out.kp (HK3.out)
  have r0:=hR.cell 0 rfl
  have r1:=hR.cell 1 rfl
  have f0:=hR.2.1 0
  have f1:=hR.2.1 1
  have HRR:=hid hR
  clear hR
  clear hz hkv
  go_wp2_with fail
  generalize hW9:(World.setCell _ _ _).setCell _ _=W9
  obtain⟨hF,hK⟩:=box2_set HRR.out (K1.out.trans HK3.out) (show w.heap.size≤w.heap.size+1 by omega) _ _ hW9
  have s0:=hF.cell 0 rfl
  have s1:=hF.cell 1 rfl
  refine bodyPost_ret (v:=.agg #[.int .i64 0,.string ⟨#[]⟩]) (by simp[results,Tryz.results16,go_sem,s0,s1]) rfl ?_
  rw[HZ2.out]
  exact⟨rfl,hK⟩
 obtain⟨x,hs⟩:∃ x,p.ms[j]? = some x:=⟨_,List.getElem?_eq_getElem hltj⟩
 obtain⟨b,o,ha,_,hc⟩:=HAT.out.2.2.2.1.kp HK3.out j x hs
 rw[modesF_step hs] at hz
 have Hz:=hid hz
 have HC:=hid (mode_flt ST AL MD a1 a2 a3 c1 c2 c3 x wr B (HR1.out.kp (HO.out.1.trans HKr.out)) (HR2.out.kp (HO.out.1.trans HKr.out)) (HR3.out.kp HKr.out) (by omega) (by omega) (by omega) (Mo.at_kp (HAT.out.2.2.2.2 x (List.mem_of_getElem? hs)) HK3.out) (HMo.out x (List.mem_of_getElem? hs)))
 have HN3:=hid (nz_mode ST AL MD x)
 have z0:wr.cell? ⟨b,o+j*3,none⟩=some (.string x.name):=hc 0 _ rfl;have z1:wr.cell? ⟨b,o+j*3+1,none⟩=some (.slice x.fa x.fs.length x.fc):=hc 1 _ rfl;have z2:wr.cell? ⟨b,o+j*3+2,none⟩=some (.slice x.ea x.es.length x.ec):=hc 2 _ rfl
 rw[ha] at q2
 clear hc hs ha hkv hz
 generalize hG3:modeF ST AL MD x=G3 at *
 clear hG3
 go_upto_region 27 with (first | (go_at_call 73;go_fit HC.out;rintro r w9 ⟨rfl,k9⟩) | fail)
 have kA:=(Kp.refl w9).alloc (.cells #[.int .i64 (fltN G3),.string (fltS G3)] 36)
 have hB:BoxV (w9.alloc (.cells #[.int .i64 (fltN G3),.string (fltS G3)] 36)) w9.heap.size [.int .i64 (fltN G3),.string (fltS G3)]:=BoxV.new w9 [_,_] _ _ rfl
 have HKX3:=hid (HK3.out.trans (k9.trans kA))
 have HKJ:=hid (HKj.out.trans (k9.trans kA))
 clear q2 z0 z1 z2 kA k9
 generalize w9.alloc _=X3 at *
 have b0:=hB.cell 0 rfl
 have b1:=hB.cell 1 rfl
 clear hB
 by_cases hg:G3=none
 ·have hn0:fltN G3=0:=(fltN_none HN3.out).2 hg
  have HZ2:=hid (show F=modesF ST AL MD (p.ms.drop (j+1)) by rw[Hz.out,hg];rfl)
  clear hg
  go_wp2_with fail
  go_roundw
  case measure=>simp only[intOf];omega
  case rel=>exact⟨j+1,by omega,by go_num,HKJ.out,HZ2.out⟩
 have hn0:¬ fltN G3=0:=fun h=>hg ((fltN_none HN3.out).1 h)
 have HZ2:=hid (show rfltV F=.agg #[.int .i64 (fltN G3),.string (fltS G3)] by
  rw[Hz.out]
  cases G3 with
  | none=>exact absurd rfl hg
  | some y=>rfl)
 have hR:=HR.out.kp (HKX3.out)
 have r0:=hR.cell 0 rfl
 have r1:=hR.cell 1 rfl
 have f0:=hR.2.1 0
 have f1:=hR.2.1 1
 have HRR:=hid hR
 clear hR
 clear hg
 go_wp2_with fail
 generalize hW9:(World.setCell _ _ _).setCell _ _=W9
 obtain⟨hF,hK⟩:=box2_set HRR.out (K1.out.trans HKX3.out) (show w.heap.size≤w.heap.size+1 by omega) _ _ hW9
 have s0:=hF.cell 0 rfl
 have s1:=hF.cell 1 rfl
 refine bodyPost_ret (v:=.agg #[.int .i64 (fltN G3),.string (fltS G3)]) (by simp[results,Tryz.results16,go_sem,s0,s1]) rfl ?_
 rw[HZ2.out]
 exact⟨rfl,hK⟩
theorem run_fieldF0 (x0 x1:Value) (w:World):(Instr.field 36 (.agg #[x0,x1]) 0).run Tryz.prog w=.ok x0 w:=by kernel_rfl
set_option maxHeartbeats 2000000 in
set_option maxRecDepth 20000 in
theorem r16right_any (p:Pr) (w:World) (B:Nat) (hat:p.at w B) :
  Calls Tryz.prog 76 #[.agg #[.slice p.sa p.ss.length p.sc,.slice p.pa p.ps.length p.pc,.slice p.ma p.ms.length p.mc,.int .i64 p.tn,.int .i64 p.td]] w fun r w'=>r=.returned (.bool (okF p))∧Kp w w':=by
 have k1:Kp w (w.alloc (.cells #[.slice p.sa p.ss.length p.sc,.slice p.pa p.ps.length p.pc,.slice p.ma p.ms.length p.mc,.int .i64 p.tn,.int .i64 p.td] 27)):=(Kp.refl w).alloc _
 have h0:BoxV (w.alloc (.cells #[.slice p.sa p.ss.length p.sc,.slice p.pa p.ps.length p.pc,.slice p.ma p.ms.length p.mc,.int .i64 p.tn,.int .i64 p.td] 27)) w.heap.size p.cells:=BoxV.new w p.cells _ _ rfl
 have hfd:=run_fieldF0
 go_enter Tryz.func76,Tryz.ntmps76
 go_upto_region 1 with fail
 generalize w.alloc _=W at *
 have HC:=hid (r16check_any p W B (Pr.at_kp hat k1))
 have K1:=hid k1
 have q0:=h0.cell 0 rfl;have q1:=h0.cell 1 rfl;have q2:=h0.cell 2 rfl;have q3:=h0.cell 3 rfl;have q4:=h0.cell 4 rfl
 clear h0 k1 hat
 cases hf:checkF p with
 | none =>
  rw[hf] at HC
  have HC2:=hid (show Calls Tryz.prog 16 #[.agg #[.slice p.sa p.ss.length p.sc,.slice p.pa p.ps.length p.pc,.slice p.ma p.ms.length p.mc,.int .i64 p.tn,.int .i64 p.td]] W fun r w'=>r=.returned (.agg #[.int .i64 0,.string ⟨#[]⟩])∧Kp W w' from HC.out)
  have Ho:=hid (show okF p=true by unfold okF;rw[hf];rfl)
  clear hf HC
  go_wp2_with (go_at_call 16;go_fit HC2.out;rintro r w2 ⟨rfl,k2⟩)
  go_ret
  exact⟨ret_bool (by rw[Ho.out]),K1.out.trans k2⟩
 | some x =>
 rw[hf] at HC
 have HC2:=hid (show Calls Tryz.prog 16 #[.agg #[.slice p.sa p.ss.length p.sc,.slice p.pa p.ps.length p.pc,.slice p.ma p.ms.length p.mc,.int .i64 p.tn,.int .i64 p.td]] W fun r w'=>r=.returned (.agg #[.int .i64 x.1,.string x.2])∧Kp W w' from HC.out)
 have Ho:=hid (show okF p=false by unfold okF;rw[hf];rfl)
 have hx:(x.1==0)=false:=beq_eq_false_iff_ne.2 (nz_check p x hf)
 clear hf HC
 go_wp2_with (go_at_call 16;go_fit HC2.out;rintro r w2 ⟨rfl,k2⟩)
 go_ret
 exact⟨ret_bool (by rw[Ho.out]),K1.out.trans k2⟩
end
section
open Go.RowKit Go.Sort
end
section
open Go.RowKit Go.Sort
theorem rowV_newg' {α:Type} {cells:α→List Value} {k:Nat} (hk:∀ x,(cells x).length=k) (_h0:0<k) (w:World) (T:TypeId) (zs:List α) {a:Array Value} (ha:(zs.flatMap cells).toArray=a):RowV cells k (w.alloc (.cells a T)) (w.alloc (.cells a T)).heap.size (some ⟨w.heap.size,0,none⟩) zs:=by
 subst ha
 intro i x hx
 refine⟨w.heap.size,0,rfl,by rw[World.size_alloc];omega,?_⟩
 intro j u hj
 have hjk:j<k:=by rw[← hk x];exact (List.getElem?_eq_some_iff.1 hj).1
 have h1:=flatV_at cells k hk zs i j x hx hjk
 have h2:=CellsV.new w (zs.flatMap cells) T w.heap.size rfl (i*k+j) u (h1.trans hj)
 rw[Nat.zero_add] at h2 ⊢
 exact h2
def exprE (p:Pr) (e:Ex):Int:=if okF p=false∨e.ok=false then 1 else if (knownF (allN p) e).isSome=true then 7 else 0
def exprV (p:Pr) (e:Ex):Int×List Opn×List Int:=if exprE p e=0 then (((allN p).length:Int),(tapeF (allN p) [] [e]).1,(tapeF (allN p) [] [e]).2) else (0,[],[])
def XprOut (w:World) (p:Pr) (e:Ex) (r:Ending) (w':World):Prop :=
 ∃ (oa:Option Addr) (oc:Nat) (ua:Option Addr) (uc:Nat),r=.returned (.tuple #[.agg #[.int .i64 (exprV p e).1,.slice oa (exprV p e).2.1.length oc,.slice ua (exprV p e).2.2.length uc],.int .i64 (exprE p e)])∧RowV Opn.cells 6 w' w'.heap.size oa (exprV p e).2.1∧RowV numC 1 w' w'.heap.size ua (exprV p e).2.2∧Kp w w'
theorem xpr_no {w w':World} {p:Pr} {e:Ex} {c:Int} (h:exprE p e=c) (h0:c≠0) (k:Kp w w'):XprOut w p e (.returned (.tuple #[.agg #[.int .i64 0,.slice none 0 0,.slice none 0 0],.int .i64 c])) w':=by
 have hv:exprV p e=(0,[],[]):=by unfold exprV;rw[h,if_neg h0]
 refine⟨none,0,none,0,?_,?_,?_,k⟩
 ·rw[hv,h];rfl
 ·rw[hv];intro i x hx;simp at hx
 rw[hv];intro i x hx;simp at hx
theorem unkF_any:∀ (all ss:List ByteArray),(ss.any fun s=>!inS all s)=(unknF all ss).isSome
 | _,[]=>rfl
 | all,s::t=>by
  rw[List.any_cons,unkF_any all t,unknF]
  unfold isIn
  cases inS all s <;> rfl
set_option maxHeartbeats 1000000 in
theorem expr1_any (all:List ByteArray) (a:Option Addr) (c:Nat) (g:Nat) (s:ByteArray) (w:World) (hg:w.cell? ⟨g,0,none⟩=some (.slice a all.length c)) (hr:RowS w a all) (hl:all.length≤1100000) :
  Calls Tryz.prog 96 #[.string s,.pointer (some ⟨g,0,none⟩)] w fun r w'=>r=.returned (.bool (!inS all s))∧Kp w w':=by
 have HC:=hid (conS_any a c all s w hr hl)
 clear hr
 go_enter Tryz.func96,Tryz.ntmps96
 go_wp2_with (first | (go_at_call 97;go_fit HC.out;rintro r w1 ⟨rfl,rfl⟩) | fail)
 go_ret
 exact⟨rfl,.refl _⟩
theorem box3_set {w W:World} {g:Nat} {v0 v1 v2:Value} (h:BoxV W g [v0,v1,v2]) (k:Kp w W) (hg:w.heap.size≤g) (n0:∀ n:Int,v0≠.int .u32 n) (n1:∀ n:Int,v1≠.int .u32 n) (n2:∀ n:Int,v2≠.int .u32 n) (x0 x1 x2:Value) {W':World} (hW:(((W.setCell ⟨g,0,none⟩ x0).setCell ⟨g,1,none⟩ x1).setCell ⟨g,2,none⟩ x2)=W') :
  BoxV W' g [x0,x1,x2]∧Kp w W'∧Upd g W W':=by
 subst hW
 have h1:=h.set (i:=0) (by simp) x0
 have h2:=h1.set (i:=1) (by simp) x1
 have h3:=h2.set (i:=2) (by simp) x2
 exact⟨h3,((k.set hg x0).set hg x1).set hg x2,(((Upd.refl g W).step (h.cell 0 rfl) n0 x0).step (h1.cell 1 rfl) n1 x1).step (h2.cell 2 rfl) n2 x2⟩
set_option maxHeartbeats 8000000 in
set_option maxRecDepth 20000 in
theorem pexpr_any (p:Pr) (e:Ex) (w:World) (B:Nat) (hat:p.at w B) (hae:e.at w B) (hB:B≤w.heap.size) :
  Calls Tryz.prog 33 #[.agg #[.slice p.sa p.ss.length p.sc,.slice p.pa p.ps.length p.pc,.slice p.ma p.ms.length p.mc,.int .i64 p.tn,.int .i64 p.td],.agg #[.int .i64 e.kind,.int .i64 e.rn,.int .i64 e.rd,.string e.name,.int .i64 e.pw,.slice e.a e.l.length e.c]] w (XprOut w p e):=by
 have k1:Kp w (((w.alloc (.cells #[.slice p.sa p.ss.length p.sc,.slice p.pa p.ps.length p.pc,.slice p.ma p.ms.length p.mc,.int .i64 p.tn,.int .i64 p.td] 27)).alloc (.cells #[.int .i64 e.kind,.int .i64 e.rn,.int .i64 e.rd,.string e.name,.int .i64 e.pw,.slice e.a e.l.length e.c] 71)).alloc (.cells #[.int .i64 0,.slice none 0 0,.slice none 0 0] 57)):=(((Kp.refl w).alloc _).alloc _).alloc _
 have h0:BoxV (((w.alloc (.cells #[.slice p.sa p.ss.length p.sc,.slice p.pa p.ps.length p.pc,.slice p.ma p.ms.length p.mc,.int .i64 p.tn,.int .i64 p.td] 27)).alloc (.cells #[.int .i64 e.kind,.int .i64 e.rn,.int .i64 e.rd,.string e.name,.int .i64 e.pw,.slice e.a e.l.length e.c] 71)).alloc (.cells #[.int .i64 0,.slice none 0 0,.slice none 0 0] 57)) w.heap.size p.cells:=(BoxV.new w p.cells _ _ rfl).kp (((Kp.refl _).alloc _).alloc _)
 have he:BoxV (((w.alloc (.cells #[.slice p.sa p.ss.length p.sc,.slice p.pa p.ps.length p.pc,.slice p.ma p.ms.length p.mc,.int .i64 p.tn,.int .i64 p.td] 27)).alloc (.cells #[.int .i64 e.kind,.int .i64 e.rn,.int .i64 e.rd,.string e.name,.int .i64 e.pw,.slice e.a e.l.length e.c] 71)).alloc (.cells #[.int .i64 0,.slice none 0 0,.slice none 0 0] 57)) (w.heap.size+1) e.cells:=(BoxV.new _ e.cells _ _ (by simp)).kp ((Kp.refl _).alloc _)
 have hr:BoxV (((w.alloc (.cells #[.slice p.sa p.ss.length p.sc,.slice p.pa p.ps.length p.pc,.slice p.ma p.ms.length p.mc,.int .i64 p.tn,.int .i64 p.td] 27)).alloc (.cells #[.int .i64 e.kind,.int .i64 e.rn,.int .i64 e.rd,.string e.name,.int .i64 e.pw,.slice e.a e.l.length e.c] 71)).alloc (.cells #[.int .i64 0,.slice none 0 0,.slice none 0 0] 57)) (w.heap.size+1+1) [.int .i64 0,.slice none 0 0,.slice none 0 0]:=BoxV.new _ [_,_,_] _ _ (by simp)
 go_enter Tryz.func33,Tryz.ntmps33
 go_upto_region 1 with fail
 generalize World.alloc _ _=W at *
 have HAT:=hid (Pr.at_kp hat k1)
 have HAE:=hid (Ex.at_kp hae k1)
 have HBW:=hid (Nat.le_trans hB k1.size)
 have HC:=hid (pvalid_any p W B HAT.out HBW.out)
 have HV:=hid fun W' (k:Kp W W')=>tvalid_any e B W' (Ex.at_kp HAE.out k) (Nat.le_trans HBW.out k.size)
 have HR:=hid hr
 have H0:=hid h0
 have HE:=hid he
 have K1:=hid k1
 have q0:=h0.cell 0 rfl;have q1:=h0.cell 1 rfl;have q2:=h0.cell 2 rfl;have q3:=h0.cell 3 rfl;have q4:=h0.cell 4 rfl
 have e0:=he.cell 0 rfl;have e1:=he.cell 1 rfl;have e2:=he.cell 2 rfl;have e3:=he.cell 3 rfl;have e4:=he.cell 4 rfl;have e5:=he.cell 5 rfl
 clear h0 he hr k1 hat hae hB
 cases hf:okF p with
 | false =>
  rw[hf] at HC
  have HZ:=hid (show exprE p e=1 from if_pos (.inl hf))
  clear hf
  go_wp2_with (first | (go_at_call 17;go_fit HC.out;rintro r w2 ⟨rfl,k2⟩;have hR:=HR.out.kp k2;have r0:=hR.cell 0 rfl;have r1:=hR.cell 1 rfl;have r2:=hR.cell 2 rfl;have f0:=hR.2.1 0;have f1:=hR.2.1 1;have f2:=hR.2.1 2;have HRR:=hid hR;clear hR) | fail)
  generalize hW9:((World.setCell _ _ _).setCell _ _).setCell _ _=W9
  obtain⟨hF,hK,_⟩:=box3_set HRR.out (K1.out.trans k2) (show w.heap.size≤w.heap.size+1+1 by omega) nofun nofun nofun _ _ _ hW9
  have s0:=hF.cell 0 rfl
  have s1:=hF.cell 1 rfl
  have s2:=hF.cell 2 rfl
  refine bodyPost_ret (v:=.tuple #[.agg #[.int .i64 0,.slice none 0 0,.slice none 0 0],.int .i64 1]) (by simp[results,Tryz.results33,go_sem,s0,s1,s2]) rfl ?_
  exact xpr_no HZ.out (by decide) hK
 | true =>
 rw[hf] at HC
 have hok:=hf
 have hnf:¬ okF p=false:=by rw[hf];decide
 clear hf
 cases he:e.ok with
 | false =>
  rw[he] at HV
  have HZ:=hid (show exprE p e=1 from if_pos (.inr he))
  clear he hok hnf
  go_wp2_with (first
   | (go_at_call 17;go_fit HC.out;rintro r w2 ⟨rfl,k2⟩;clear q0 q1 q2 q3 q4 e0 e1 e2 e3 e4 e5;have hq:=HE.out.kp k2;have e0:=hq.cell 0 rfl;have e1:=hq.cell 1 rfl;have e2:=hq.cell 2 rfl;have e3:=hq.cell 3 rfl;have e4:=hq.cell 4 rfl;have e5:=hq.cell 5 rfl;clear hq)
   | (go_at_call 93;go_fit (HV.out w2 k2);rintro r w3 ⟨rfl,k3⟩;have hR:=HR.out.kp (k2.trans k3);have r0:=hR.cell 0 rfl;have r1:=hR.cell 1 rfl;have r2:=hR.cell 2 rfl;have f0:=hR.2.1 0;have f1:=hR.2.1 1;have f2:=hR.2.1 2;have HRR:=hid hR;clear hR)
   | fail)
  generalize hW9:((World.setCell _ _ _).setCell _ _).setCell _ _=W9
  obtain⟨hF,hK,_⟩:=box3_set HRR.out (K1.out.trans (k2.trans k3)) (show w.heap.size≤w.heap.size+1+1 by omega) nofun nofun nofun _ _ _ hW9
  have s0:=hF.cell 0 rfl
  have s1:=hF.cell 1 rfl
  have s2:=hF.cell 2 rfl
  refine bodyPost_ret (v:=.tuple #[.agg #[.int .i64 0,.slice none 0 0,.slice none 0 0],.int .i64 1]) (by simp[results,Tryz.results33,go_sem,s0,s1,s2]) rfl ?_
  exact xpr_no HZ.out (by decide) hK
 | true =>
 rw[he] at HV
 have hss:=probB_ss (okF_prob hok)
 have hal:(allN p).length≤8:=by unfold allN;rw[List.length_append,List.length_map,List.length_map];omega
 have HEx:=hid (show exprE p e=if (knownF (allN p) e).isSome=true then 7 else 0 by unfold exprE;rw[if_neg (fun h=>by rcases h with h | h;exact hnf h;rw[he] at h;cases h)])
 have HFin:=hid (ex_ok he)
 have HNm:=hid fun W' (k:Kp W W')=>pnames_any p W' B (Pr.at_kp HAT.out k) (by omega) (by omega) (by omega)
 have HTn:=hid fun W' (k:Kp W W')=>tnames_any e B W' (Ex.at_kp HAE.out k) (Nat.le_trans HBW.out k.size)
 clear he hok hnf
 go_upto_region 3 with (first
  | (go_at_call 17;go_fit HC.out;rintro r w2 ⟨rfl,k2⟩;clear q0 q1 q2 q3 q4 e0 e1 e2 e3 e4 e5;have hq:=HE.out.kp k2;have e0:=hq.cell 0 rfl;have e1:=hq.cell 1 rfl;have e2:=hq.cell 2 rfl;have e3:=hq.cell 3 rfl;have e4:=hq.cell 4 rfl;have e5:=hq.cell 5 rfl;clear hq)
  | (go_at_call 93;go_fit (HV.out w2 k2);rintro r w3 ⟨rfl,k3⟩;clear e0 e1 e2 e3 e4 e5;have hq:=H0.out.kp (k2.trans k3);have q0:=hq.cell 0 rfl;have q1:=hq.cell 1 rfl;have q2:=hq.cell 2 rfl;have q3:=hq.cell 3 rfl;have q4:=hq.cell 4 rfl;clear hq)
  | fail)
 have K3:=hid (k2.trans k3)
 clear k2 k3
 go_upto_region 4 with (first
  | (go_at_call 77;go_fit (HNm.out w3 K3.out);rintro r w4 ⟨v4,rfl,hN⟩;obtain⟨na,nc,rfl,hnr⟩:=hN.sl;have hN1:=hN.1)
  | fail)
 have kA:=(Kp.refl w4).alloc (.cells #[.slice na (allN p).length nc] 46)
 have hab:BoxV (w4.alloc (.cells #[.slice na (allN p).length nc] 46)) w4.heap.size [.slice na (allN p).length nc]:=BoxV.new w4 [_] _ _ rfl
 have HNr:=hid (hnr.kp kA)
 have K5:=hid (K3.out.trans (hN1.trans kA))
 have HAb:=hid hab
 clear q0 q1 q2 q3 q4 hnr hN hN1 kA hab
 generalize w4.alloc _=X at *
 have hq:=HE.out.kp K5.out
 have e0:=hq.cell 0 rfl;have e1:=hq.cell 1 rfl;have e2:=hq.cell 2 rfl;have e3:=hq.cell 3 rfl;have e4:=hq.cell 4 rfl;have e5:=hq.cell 5 rfl
 clear hq
 have hle:=namO_le e
 have hmf:∀ (fn:Fn) (first cap:Array Value) (w:World),(Instr.makeFunc fn first cap).run Tryz.prog w=.ok (.func fn first cap) w:=fun _ _ _ _=>rfl
 have HAn:=hid fun W' (k:Kp X W')=>show AnsS Tryz.prog 96 #[.pointer (some ⟨w4.heap.size,0,none⟩)] W' (namO e) (fun s=>!inS (allN p) s) from ⟨fun _ _=>by kernel_rfl,fun s _ w1 h1=>expr1_any (allN p) na nc w4.heap.size s w1 ((HAb.out.kp (k.trans h1)).cell 0 rfl) (HNr.out.kp (k.trans h1)) (by omega)⟩
 have HKn:=hid (show ((namO e).any fun s=>!inS (allN p) s)=(knownF (allN p) e).isSome from unkF_any _ _)
 cases hk:(knownF (allN p) e).isSome with
 | true =>
  rw[hk] at HKn HEx
  have HZ:=hid (show exprE p e=7 from HEx.out)
  clear hk HEx
  go_wp2_with (first
   | (go_at_call 95;go_fit (HTn.out X K5.out);rintro r w5 ⟨v5,rfl,hv5,k5⟩;obtain⟨va,vc,rfl,hrow⟩:=rowS_own hv5;clear e0 e1 e2 e3 e4 e5)
   | (go_at_call 94;go_fit (containsS va (namO e) vc _ _ w5 (fun s=>!inS (allN p) s) (by omega) hrow (HAn.out w5 k5));rw[HKn.out];rintro r w6 ⟨rfl,k6⟩;have hR:=HR.out.kp (K5.out.trans (k5.trans k6));have r0:=hR.cell 0 rfl;have r1:=hR.cell 1 rfl;have r2:=hR.cell 2 rfl;have f0:=hR.2.1 0;have f1:=hR.2.1 1;have f2:=hR.2.1 2;have HRR:=hid hR;clear hR)
   | fail)
  generalize hW9:((World.setCell _ _ _).setCell _ _).setCell _ _=W9
  obtain⟨hF,hK,_⟩:=box3_set HRR.out (K1.out.trans (K5.out.trans (k5.trans k6))) (show w.heap.size≤w.heap.size+1+1 by omega) nofun nofun nofun _ _ _ hW9
  have s0:=hF.cell 0 rfl
  have s1:=hF.cell 1 rfl
  have s2:=hF.cell 2 rfl
  refine bodyPost_ret (v:=.tuple #[.agg #[.int .i64 0,.slice none 0 0,.slice none 0 0],.int .i64 7]) (by simp[results,Tryz.results33,go_sem,s0,s1,s2]) rfl ?_
  exact xpr_no HZ.out (by decide) hK
 | false =>
 rw[hk] at HKn HEx
 have HZ:=hid (show exprE p e=0 from HEx.out)
 clear hk HEx
 go_upto_region 6 with (first
  | (go_at_call 95;go_fit (HTn.out X K5.out);rintro r w5 ⟨v5,rfl,hv5,k5⟩;obtain⟨va,vc,rfl,hrow⟩:=rowS_own hv5;clear e0 e1 e2 e3 e4 e5)
  | (go_at_call 94;go_fit (containsS va (namO e) vc _ _ w5 (fun s=>!inS (allN p) s) (by omega) hrow (HAn.out w5 k5));rw[HKn.out];rintro r w6 ⟨rfl,k6⟩)
  | fail)
 have K6:=hid (K5.out.trans (k5.trans k6))
 have hq:=HE.out.kp K6.out
 have e0:=hq.cell 0 rfl;have e1:=hq.cell 1 rfl;have e2:=hq.cell 2 rfl;have e3:=hq.cell 3 rfl;have e4:=hq.cell 4 rfl;have e5:=hq.cell 5 rfl
 clear hq
 have p0:=(HAb.out.kp ((k5.trans k6).alloc (.cells #[.int .i64 e.kind,.int .i64 e.rn,.int .i64 e.rd,.string e.name,.int .i64 e.pw,.slice e.a e.l.length e.c] 71))).cell 0 rfl
 have HNr6:=hid (HNr.out.kp (k5.trans k6))
 have HW6:=hid (show w.heap.size+1+1<w6.heap.size from (HR.out.kp K6.out).2.2)
 clear k5 k6
 have hT:=tapeOf_any [e] (some ⟨w6.heap.size,0,none⟩) 1 (w6.alloc (.cells #[.int .i64 e.kind,.int .i64 e.rn,.int .i64 e.rd,.string e.name,.int .i64 e.pw,.slice e.a e.l.length e.c] 71)).heap.size (allN p) na nc (w6.alloc (.cells #[.int .i64 e.kind,.int .i64 e.rn,.int .i64 e.rd,.string e.name,.int .i64 e.pw,.slice e.a e.l.length e.c] 71)) (rowX_of (rowV_newg' Ex.cells_len (by decide) w6 _ [e] rfl)) (fun x hx=>by
  rcases List.mem_cons.1 hx with rfl | hx
  ·exact Ex.at_up (Ex.at_kp HAE.out (K6.out.alloc _)) (Nat.le_trans HBW.out (K6.out.alloc _).size)
  ·cases hx) (fun x hx=>by
  rcases List.mem_cons.1 hx with rfl | hx
  ·exact HFin.out.1
  ·cases hx) (fun x hx=>by
  rcases List.mem_cons.1 hx with rfl | hx
  ·exact HFin.out.2
  ·cases hx) (by show (1:Nat)≤200;decide) (HNr6.out.kp ((Kp.refl _).alloc _)) (by omega)
 have HT:=hid (show Calls Tryz.prog 86 #[.slice (some ⟨w6.heap.size,0,none⟩) 1 1,.slice na (allN p).length nc] (w6.alloc (.cells #[.int .i64 e.kind,.int .i64 e.rn,.int .i64 e.rd,.string e.name,.int .i64 e.pw,.slice e.a e.l.length e.c] 71)) (TapOut (w6.alloc (.cells #[.int .i64 e.kind,.int .i64 e.rn,.int .i64 e.rd,.string e.name,.int .i64 e.pw,.slice e.a e.l.length e.c] 71)) (allN p) (tapeF (allN p) [] [e])) from hT)
 clear hT
 go_wp2_with (first
  | (go_at_call 86;go_fit HT.out;rintro r w7 ⟨oa,oc,ua,uc,rfl,hro,hru,k7,lo,lu,_⟩;have K7:=hid (K6.out.trans (((Kp.refl _).alloc _).trans k7));have hR:=HR.out.kp K7.out;have r0:=hR.cell 0 rfl;have r1:=hR.cell 1 rfl;have r2:=hR.cell 2 rfl;have f0:=hR.2.1 0;have f1:=hR.2.1 1;have f2:=hR.2.1 2;have HRR:=hid hR;clear hR)
  | fail)
 generalize hW9:((World.setCell _ _ _).setCell _ _).setCell _ _=W9
 obtain⟨hF,hK,hU⟩:=box3_set HRR.out (K1.out.trans K7.out) (show w.heap.size≤w.heap.size+1+1 by omega) nofun nofun nofun _ _ _ hW9
 have s0:=hF.cell 0 rfl
 have s1:=hF.cell 1 rfl
 have s2:=hF.cell 2 rfl
 have hs:W9.heap.size=w7.heap.size:=hU.2.2.2.2
 refine bodyPost_ret (v:=.tuple #[.agg #[.int .i64 ((allN p).length:Int),.slice oa (tapeF (allN p) [] [e]).1.length oc,.slice ua (tapeF (allN p) [] [e]).2.length uc],.int .i64 0]) (by simp[results,Tryz.results33,go_sem,s0,s1,s2]) rfl ?_
 have hv:exprV p e=(((allN p).length:Int),(tapeF (allN p) [] [e]).1,(tapeF (allN p) [] [e]).2):=if_pos HZ.out
 have l6:=HW6.out
 refine⟨oa,oc,ua,uc,by rw[hv,HZ.out],?_,?_,hK⟩
 ·rw[hv,hs]
  exact rowV_upd hro hU fun b o e=>by have:=lo b o e;rw[World.size_alloc] at this;omega
 rw[hv,hs]
 exact rowV_upd hru hU fun b o e=>by have:=lu b o e;rw[World.size_alloc] at this;omega
end
section
def opB (o:Opn) (bf:Int):Bool :=
 if o.k=1 then ratB o.cn o.cd&&decide (o.a=0∧o.b=0∧o.n=0)
 else if 3≤o.k∧o.k≤6 then decide ((o.cn=0∧o.cd=0)∧(0≤o.a∧o.a<bf)∧(0≤o.b∧o.b<bf)∧o.n=0)
 else if o.k=8 then decide ((o.cn=0∧o.cd=0)∧(0≤o.a∧o.a<bf)∧o.b=0∧0≤o.n∧o.n≤16)
 else if o.k=7∨(9≤o.k∧o.k≤13) then decide ((o.cn=0∧o.cd=0)∧(0≤o.a∧o.a<bf)∧o.b=0∧o.n=0)
 else false
structure InvO (ins:Nat) (ops:List Opn):Prop where
 nd:ops.Nodup
 fm:∀ (i:Nat) (o:Opn),ops[i]? = some o→opB o ((ins+i:Nat):Int)=true
theorem InvO.nil (ins:Nat):InvO ins []:=⟨List.nodup_nil,fun i o h=>by simp at h⟩
theorem allL_mem {l:List Ex} (h:Ex.allL l=true):∀ x∈l,x.allB=true:=by
 induction l with
 | nil=>intro x hx;cases hx
 | cons a t ih =>
  rw[Ex.allL,Bool.and_eq_true] at h
  intro x hx
  rcases List.mem_cons.1 hx with rfl | hx
  ·exact h.1
  ·exact ih h.2 x hx
theorem opsK_cases {k:Int} {n:Nat} (h:(n:Int)=opsK k):(n=2∧3≤k∧k≤6)∨(n=1∧7≤k∧k≤13):=by
 unfold opsK at h
 split at h
 ·left;omega
 split at h
 ·right;omega
 omega
theorem tapN_mk (nm:List ByteArray) (ops:List Opn) (e:Ex):tapN nm ops e=if e.kind=2 then (ops,placeF e.name nm) else putF nm.length (tapL nm ops e.l).1 ⟨e.kind,(tapL nm ops e.l).2.1,(tapL nm ops e.l).2.2,e.pw,e.rn,e.rd⟩:=by
 cases e;rw[tapN];rfl
theorem tapL_nil (nm:List ByteArray) (ops:List Opn):tapL nm ops []=(ops,0,0):=by rw[tapL]
theorem tapL_one (nm:List ByteArray) (ops:List Opn) (x:Ex):tapL nm ops [x]=((tapN nm ops x).1,(tapN nm ops x).2,0):=by rw[tapL,tapM]
theorem tapL_two (nm:List ByteArray) (ops:List Opn) (x y:Ex):tapL nm ops [x,y]=((tapN nm (tapN nm ops x).1 y).1,(tapN nm ops x).2,(tapN nm (tapN nm ops x).1 y).2):=by rw[tapL,tapM]
theorem nodeB_parts {e:Ex} (h:nodeB e=true) (h2:e.kind≠2) :
  (e.kind=1∧ratB e.rn e.rd=true∧e.pw=0∧e.l=[]) ∨
  ((e.rn=0∧e.rd=0)∧(((3≤e.kind∧e.kind≤6)∧e.pw=0∧e.l.length=2)∨(e.kind=8∧(0≤e.pw∧e.pw≤16)∧e.l.length=1)∨((e.kind=7∨(9≤e.kind∧e.kind≤13))∧e.pw=0∧e.l.length=1))):=by
 unfold nodeB at h
 split at h
 ·rename_i hk
  simp only[Bool.and_eq_true,decide_eq_true_eq] at h
  exact .inl ⟨hk,h.1,h.2.2.1,List.eq_nil_of_length_eq_zero h.2.2.2⟩
 rename_i hk1
 split at h
 ·rename_i hk
  simp only[Bool.and_eq_true,decide_eq_true_eq] at h
  exact .inr ⟨h.1,.inr (.inl ⟨hk,h.2.2.1,h.2.2.2⟩)⟩
 rename_i hk8
 simp only[Bool.and_eq_true,decide_eq_true_eq] at h
 rcases opsK_cases h.2.2.2 with ⟨hl,hk,hk'⟩ | ⟨hl,hk,hk'⟩
 ·exact .inr ⟨h.1,.inl ⟨⟨hk,hk'⟩,h.2.2.1,hl⟩⟩
 exact .inr ⟨h.1,.inr (.inr ⟨by omega,h.2.2.1,hl⟩)⟩
end
end Go.Proofs.YteidgoldnllabaaGreatDoor
