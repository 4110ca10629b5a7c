/-
  Walks: ref16.Check, Right.
-/
import Derived.Test.YteidgoldnllabaaGreatDoorTRmoN
import Derived.Test.YteidgoldnllabaaGreatDoorTLawQa
import Derived.Test.YteidgoldnllabaaGreatDoorTEqfR
import Derived.Test.YteidgoldnllabaaGreatDoorTIvlN
import Derived.Deep.CutRange
import Derived.Test.YteidgoldnllabaaGreatDoorTCmpR
import Derived.Test.YteidgoldnllabaaGreatDoorTIncP
import Derived.Test.YteidgoldnllabaaGreatDoorTR2F
import Derived.Test.YteidgoldnllabaaGreatDoorTTpoN
import Derived.Test.YteidgoldnllabaaGreatDoorTKnuE
import Derived.Test.YteidgoldnllabaaGreatDoorTDotM
set_option maxHeartbeats 16000000
set_option maxRecDepth 20000
namespace Go.Proofs.YteidgoldnllabaaGreatDoor
open Go.RowKit
open Lib (hid)
section
open Go.RowKit Go.Sort
theorem step_append_run {P:Program} {w:World} {ops:Array Oper} {o:Oper} {a:Act} {K:Act→World→Prop} {Q:Exit→Act→World→Prop} {E:Prop} (hgd:o.guard=none) (s x:Operand) (t:TypeId)
  (ho:o.op=.call { callee:=.builtin .append,args:=#[s,x],argTypes:=#[t,t] }) (v1 v2:Value) (hs:a.eval s=v1) (hx:a.eval x=v2) (v':Value) (w':World)
  (hr:(Builtin.append_ #[t,t] o.type #[v1,v2]).run P w=.ok v' w') (h:K (a.put o.dst v') w') :
  if Region.wanted o (yielded ops a.tmps)=true then Oper.wp P o a w K Q else E:=by
 have hw:Region.wanted o (yielded ops a.tmps)=true:=by simp[Region.wanted,hgd]
 rw[if_pos hw]
 unfold Oper.wp execOp
 simp only[ho,resolve,invoke,builtin,Sem.run_bind,Sem.run_pure,Result.andThen_ok,List.map_toArray,List.map_cons,List.map_nil,hs,hx,hr]
 exact h
def NnV (v:Value):Prop:=∃ ad n c,v=.slice (some ad) n c∧n≤c
theorem OwnV.empty {α:Type} {cells:α→List Value} {k:Nat} (T:TypeId) {wb w:World} (q:Kp wb w):OwnV cells k T wb (w.alloc (.cells #[] T)) (.slice (some ⟨w.heap.size,0,none⟩) 0 0) [] :=
 ⟨q.alloc _,World.ownsRow_lit w #[] 0 q.size (by simp) (by simp)⟩
theorem app_vs {α:Type} {cells:α→List Value} {k:Nat} (hk:∀ x,(cells x).length=k) (h0:0<k) (h1:∀ x,∀ u∈cells x,u.oneCell'=true) {w:World} (t T ty:TypeId) (i0:TypeInfo) (z:Value) (bytes:Nat) (ht:Tryz.prog.underlying t=some (.slice T)) (hi:Tryz.prog.info? T=some i0) (hz:i0.zero=some z) (hsz:i0.size=k) (hby:i0.bytes=bytes) (hzs:z.cells.size=k)
  (wb:World) (v:Value) (zs:List α) (hown:OwnV cells k T wb w v zs) (hn:NnV v) (B:Nat) (a:Option Addr) (c:Nat) (ys:List α) (hrow:RowV cells k w B a ys) (hlen:zs.length+ys.length≤9000000) (hbl:(zs.length+ys.length)*bytes≤140737488355328) :
  ∃ v' w',(Builtin.append_ #[t,t] ty #[v,.slice a ys.length c]).run Tryz.prog w=.ok v' w'∧OwnV cells k T wb w' v' (zs++ys)∧NnV v':=by
 obtain⟨hkk,hown1⟩:=hown
 have main:∀ (ad:Addr),(∀ (i:Nat) (y:α),ys[i]? = some y→∀ (j:Nat) (u:Value),(cells y)[j]? = some u→w.cell? (ad.add (i*k+j))=some u)→∃ v' w',(Builtin.append_ #[t,t] ty #[v,.slice (some ad) ys.length c]).run Tryz.prog w=.ok v' w'∧OwnV cells k T wb w' v' (zs++ys)∧NnV v':=by
  intro ad hr
  obtain⟨v',w',g1,g2,g3,g4,g5⟩:=run_append_own_at (P:=Tryz.prog) w wb.heap.size t ty T i0 z k bytes ht hi hz hsz hby hzs h0 v zs.length (zs.flatMap cells) hown1 ad ys.length c (ys.flatMap cells) (by rw[flatV_len cells k hk]) (by
   intro j u hj
   obtain⟨i,r,y,hy,_,hr2,rfl⟩:=flatV_of cells k hk h0 ys j u hj
   exact hr i y hy r u hr2) (by
   intro u hu
   obtain⟨y,_,hy⟩:=List.mem_flatMap.1 hu
   exact h1 y u hy) (by unfold maxLen;omega) (by omega) hkk.size
  have hb:Below wb.heap.size w w':=(Below.refl wb.heap.size w).grown g3 hkk.size (fun k hk=>(hown1.lt k hk).1)
  have hO:OwnV cells k T wb w' v' (zs++ys):=⟨Below.trans hkk hb,by rw[List.flatMap_append,List.length_append];exact g2⟩
  refine⟨v',w',g1,hO,?_⟩
  rcases hO.2.2 with ⟨e,_⟩ | ⟨g,cap,cur,e,_,_,hn2,_⟩
  ·obtain⟨ad2,n2,c2,e2,_⟩:=hn
   have:=(g4.1 e).1
   rw[e2] at this
   cases this
  ·exact⟨_,_,_,e,hn2⟩
 cases a with
 | none =>
  have h0:ys=[]:=by
   cases ys with
   | nil=>rfl
   | cons y t =>
    obtain⟨b,o,e,_⟩:=hrow 0 y rfl
    cases e
  subst h0
  obtain⟨ad2,n2,c2,rfl,hle⟩:=hn
  exact⟨_,_,run_append_voidV (P:=Tryz.prog) w t ty T i0 ht hi ad2 n2 c2 _ c rfl hle,⟨hkk,by rw[List.append_nil];exact hown1⟩,⟨_,_,_,rfl,hle⟩⟩
 | some ad =>
 by_cases hy:ys=[]
 ·subst hy
  exact main ad fun i y h=>by simp at h
 obtain⟨y,t,rfl⟩:∃ y t,ys=y::t:=List.exists_cons_of_ne_nil hy
 obtain⟨b,o,e,_⟩:=hrow 0 y rfl
 cases e
 refine main _ fun i x hx j u hj=>?_
 obtain⟨b2,o2,e2,_,hc⟩:=hrow i x hx
 cases e2
 rw[addr_add,← Nat.add_assoc]
 exact hc j u hj
theorem mode_flt (st all md:List ByteArray) (a1 a2 a3:Option Addr) (c1 c2 c3:Nat) (m:Mo) (w:World) (B:Nat) (h1:RowS w a1 st) (h2:RowS w a2 all) (h3:RowS w a3 md) (l1:st.length≤1000) (l2:all.length≤1000) (l3:md.length≤1000) (hat:m.at w B) (hok:modeB m=true) :
  Calls Tryz.prog 73 #[.slice a1 st.length c1,.slice a2 all.length c2,.slice a3 md.length c3,.agg #[.string m.name,.slice m.fa m.fs.length m.fc,.slice m.ea m.es.length m.ec]] w fun r w'=>r=.returned (.agg #[.int .i64 (fltN (modeF st all md m)),.string (fltS (modeF st all md m))])∧Kp w w' :=
 (r16mode_any st all md a1 a2 a3 c1 c2 c3 m w B h1 h2 h3 l1 l2 l3 hat hok).mono fun r w' h=>⟨by rw[h.1,rfltV_eq],h.2⟩
theorem repeated_flt (ss:List ByteArray) (a:Option Addr) (c:Nat) (w:World) (hrow:RowS w a ss) (hm:ss.length≤1000) (hcap:ss.length≤c) :
  Calls Tryz.prog 71 #[.slice a ss.length c] w fun r w'=>r=.returned (.agg #[.int .i64 (fltN (onceF [] ss)),.string (fltS (onceF [] ss))])∧Kp w w' :=
 (rrepeated_any ss a c w hrow hm hcap).mono fun r w' h=>⟨by rw[h.1,rfltV_eq],h.2⟩
theorem nz_once:∀ ss hv,NzF (onceF hv ss)
 | [],_=>fun x hx=>by cases hx
 | s::t,hv=>nz_or (nz_need (by decide)) (nz_once t _)
theorem probB_mo {p:Pr} (h:probB p=true):∀ m∈p.ms,modeB m=true:=by
 unfold probB at h
 simp only[Bool.and_eq_true,List.all_eq_true] at h
 exact h.2.2.2.1
theorem nz_rng:∀ ds,NzF (rngF ds)
 | []=>fun x hx=>by cases hx
 | d::t=>nz_or (nz_need (by decide)) (nz_rng t)
theorem nz_modes (st all md:List ByteArray):∀ ms,NzF (modesF st all md ms)
 | []=>fun x hx=>by cases hx
 | m::t=>nz_or (nz_mode st all md m) (nz_modes st all md t)
theorem nz_check (p:Pr):NzF (checkF p):=nz_or (nz_need (by decide)) (nz_or (nz_once _ _) (nz_or (nz_once _ _) (nz_or (nz_rng _) (nz_or (nz_need (by decide)) (nz_modes _ _ _ _)))))
theorem r16check_any (p:Pr) (w:World) (B:Nat) (hat:p.at w B) :
  Calls Tryz.prog 16 #[.agg #[.slice p.sa p.ss.length p.sc,.slice p.pa p.ps.length p.pc,.slice p.ma p.ms.length p.mc,.int .i64 p.tn,.int .i64 p.td]] w fun r w'=>r=.returned (rfltV (checkF p))∧Kp w w':=by
 have k1:Kp w ((w.alloc (.cells #[.slice p.sa p.ss.length p.sc,.slice p.pa p.ps.length p.pc,.slice p.ma p.ms.length p.mc,.int .i64 p.tn,.int .i64 p.td] 27)).alloc (.cells #[.int .i64 0,.string ⟨#[]⟩] 36)):=((Kp.refl w).alloc _).alloc _
 have h0:BoxV ((w.alloc (.cells #[.slice p.sa p.ss.length p.sc,.slice p.pa p.ps.length p.pc,.slice p.ma p.ms.length p.mc,.int .i64 p.tn,.int .i64 p.td] 27)).alloc (.cells #[.int .i64 0,.string ⟨#[]⟩] 36)) w.heap.size p.cells:=(BoxV.new w p.cells _ _ rfl).kp ((Kp.refl _).alloc _)
 have hf:BoxV ((w.alloc (.cells #[.slice p.sa p.ss.length p.sc,.slice p.pa p.ps.length p.pc,.slice p.ma p.ms.length p.mc,.int .i64 p.tn,.int .i64 p.td] 27)).alloc (.cells #[.int .i64 0,.string ⟨#[]⟩] 36)) (w.heap.size+1) [.int .i64 0,.string ⟨#[]⟩]:=BoxV.new _ [_,_] _ _ (by simp)
 obtain⟨F,hF⟩:∃ F,checkF p=F:=⟨_,rfl⟩
 have HF:=hid (hF.symm.trans (checkF_eq p))
 rw[hF]
 clear hF
 go_enter Tryz.func16,Tryz.ntmps16
 go_upto_region 1 with fail
 generalize World.alloc _ _=W at *
 have HAT:=hid (Pr.at_kp hat k1)
 have HR:=hid hf
 have H0:=hid h0
 have K1:=hid k1
 have HP:=hid (rproblem_any p W B HAT.out)
 have q0:=h0.cell 0 rfl
 have q1:=h0.cell 1 rfl
 have q2:=h0.cell 2 rfl
 have q3:=h0.cell 3 rfl
 have q4:=h0.cell 4 rfl
 clear h0 hf hat k1
 cases hpb:probB p with
 | false =>
  have HZ2:=hid (show rfltV F=.agg #[.int .i64 1,.string ⟨#[]⟩] by rw[HF.out,hpb];rfl)
  rw[hpb] at HP
  clear hpb
  go_wp2_with (first
   | (go_at_call 68;go_fit HP.out;rintro r w2 ⟨rfl,k2⟩;clear q0 q1 q2 q3 q4)
   | (go_at_call 69;go_fit (rfault_any 1 ⟨#[]⟩ w2);rintro r w3 ⟨rfl,k3⟩;have hR:=HR.out.kp (k2.trans k3);have r0:=hR.cell 0 rfl;have r1:=hR.cell 1 rfl;have f0:=hR.2.1 0;have f1:=hR.2.1 1;have HRR:=hid hR;clear hR)
   | fail)
  generalize hW9:(World.setCell _ _ _).setCell _ _=W9
  obtain⟨hF,hK⟩:=box2_set HRR.out (K1.out.trans (k2.trans k3)) (show w.heap.size≤w.heap.size+1 by omega) _ _ hW9
  have s0:=hF.cell 0 rfl
  have s1:=hF.cell 1 rfl
  refine bodyPost_ret (v:=.agg #[.int .i64 1,.string ⟨#[]⟩]) (by simp[results,Tryz.results16,go_sem,s0,s1]) rfl ?_
  rw[HZ2.out]
  exact⟨rfl,hK⟩
 | true =>
 have HF2:=hid (show F=orF (onceF [] (allN p)) (orF (onceF [] (mdN p)) (orF (rngF (p.ss++p.ps)) (orF (needF (decide (0<p.tn)) 2 ByteArray.empty) (modesF (stN p) (allN p) (mdN p) p.ms)))) by rw[HF.out,hpb];rfl)
 rw[hpb] at HP
 have HPB:=hid hpb
 obtain⟨hs1,hs4,hp4,hm8⟩:=probB_ss hpb
 clear hpb HF
 go_upto_region 3 with (first
  | (go_at_call 68;go_fit HP.out;rintro r w2 ⟨rfl,k2⟩;clear q0 q1 q2 q3 q4)
  | fail)
 have hq:=H0.out.kp k2
 have q0:=hq.cell 0 rfl;have q1:=hq.cell 1 rfl;have q2:=hq.cell 2 rfl;have q3:=hq.cell 3 rfl;have q4:=hq.cell 4 rfl
 have HN:=hid (rnamed_any p w2 B (Pr.at_kp HAT.out k2) HPB.out)
 have K2:=hid k2
 clear hq HP k2
 go_upto_region 4 with (first
  | (go_at_call 70;go_fit HN.out;rintro r w3 ⟨v1,v2,rfl,hO1,hO2⟩;obtain⟨a1,c1,rfl,hr1,_⟩:=hO1.cap;obtain⟨a2,c2,rfl,hr2,hc2⟩:=hO2.cap)
  | fail)
 have K3:=hid (K2.out.trans hO1.1)
 have hl1:(stN p).length≤4:=by unfold stN;rw[List.length_map];omega
 have hl2:(allN p).length≤8:=by unfold allN;rw[List.length_append,List.length_map,List.length_map];omega
 have HR1:=hid hr1
 have HR2:=hid hr2
 have HNN:=hid (show stN p=p.ss.map De.name∧allN p=p.ss.map De.name++p.ps.map De.name from ⟨rfl,rfl⟩)
 clear q0 q1 q2 q3 q4 hr1 hr2 hO1 hO2 HN
 obtain⟨ST,hST⟩:∃ ST,stN p=ST:=⟨_,rfl⟩
 obtain⟨AL,hAL⟩:∃ AL,allN p=AL:=⟨_,rfl⟩
 rw[hST] at HR1 hl1 HF2 ⊢
 rw[hAL] at HR2 hl2 HF2 hc2 ⊢
 clear HNN hST hAL
 go_upto_region 6 with fail
 obtain⟨V,hV⟩:∃ V:World,V=w3:=⟨_,rfl⟩
 subst hV
 go_loopw [5,6] (fun y z wr=>∃ k:Nat,k≤p.ms.length∧z=.int .i64 k∧OwnU V wr y ((p.ms.take k).map Mo.name)) (fun _ z _=>p.ms.length-(intOf z).toNat)
 case atStart=>exact⟨0,by omega,rfl,OwnU.nil (.refl _)⟩
 case round =>
 obtain⟨k,hk,rfl,hO⟩:=hrel
 have HO:=hid hO
 have HKw:=hid (K3.out.trans hO.1)
 have hq:=H0.out.kp HKw.out
 have q2:=hq.cell 2 rfl
 clear hq
 by_cases hlt:k<p.ms.length
 ·obtain⟨m,hs⟩:∃ m,p.ms[k]? = some m:=⟨_,List.getElem?_eq_getElem hlt⟩
  obtain⟨b,o,ha,_,hc⟩:=HAT.out.2.2.2.1.kp HKw.out k m hs
  have HT:=hid (take_map Mo.name hs)
  have hl3:((p.ms.take k).map Mo.name).length≤100:=by simp only[List.length_map,List.length_take];omega
  have z0:wr.cell? ⟨b,o+k*3,none⟩=some (.string m.name):=hc 0 _ rfl
  rw[ha] at q2
  generalize hnn:((p.ms.take k).map Mo.name)=nn at *
  have HNN:=hid hnn
  clear hc hs ha hO hnn
  go_wp2_with (at_builtin;refine wpList_append_us rfl _ _ rfl V _ nn rfl (HO.out.kp ((Kp.refl _).alloc _)) ⟨wr.heap.size,0,none⟩ 1 [m.name] 1 rfl rfl (rowS_one _ _ _ (by simp)) (by simp only[List.length_cons,List.length_nil];omega) ?_;intro v' w5 hO5)
  go_roundw
  case measure=>simp only[intOf];omega
  case rel=>exact⟨k+1,by omega,by go_num,by first | (rw[HT.out];exact hO5) | (rw[HT.out,HNN.out];exact hO5)⟩
 have hk2:k=p.ms.length:=by omega
 subst hk2
 rw[List.take_length] at HO
 clear hO hlt hk
 obtain⟨a3,c3,rfl,hr3,hc3⟩:=HO.out.cap
 obtain⟨MD,hMD⟩:∃ MD,MD=mdN p:=⟨_,rfl⟩
 have hMD2:p.ms.map Mo.name=MD:=by rw[hMD];rfl
 have hl3:MD.length≤8:=by rw[hMD];unfold mdN;rw[List.length_map];omega
 rw[hMD2] at hr3 hc3 ⊢
 rw[← hMD] at HF2
 have HR3:=hid hr3
 have HRa:=hid (HR2.out.kp HO.out.1)
 clear hr3 hMD hMD2
 have HRp:=hid (repeated_flt AL a2 c2 wr HRa.out (by omega) hc2)
 have HN1:=hid (nz_once AL [])
 generalize hG:onceF [] AL=G at *
 clear hG
 go_upto_region 10 with (first | (go_at_call 71;go_fit HRp.out;rintro r w4 ⟨rfl,k4⟩) | fail)
 clear q2
 have kA:=(Kp.refl w4).alloc (.cells #[.int .i64 (fltN G),.string (fltS G)] 36)
 have hB:BoxV (w4.alloc (.cells #[.int .i64 (fltN G),.string (fltS G)] 36)) w4.heap.size [.int .i64 (fltN G),.string (fltS G)]:=BoxV.new w4 [_,_] _ _ rfl
 have HKX:=hid (HKw.out.trans (k4.trans kA))
 have HKW:=hid (k4.trans kA)
 clear kA k4
 generalize w4.alloc _=X at *
 have b0:=hB.cell 0 rfl
 have b1:=hB.cell 1 rfl
 clear hB
 by_cases hg:G=none
 rotate_left
 ·have hn0:¬ fltN G=0:=fun h=>hg ((fltN_none HN1.out).1 h)
  have HZ2:=hid (show rfltV F=.agg #[.int .i64 (fltN G),.string (fltS G)] by
   rw[HF2.out]
   cases G with
   | none=>exact absurd rfl hg
   | some y=>rfl)
  have hR:=HR.out.kp (HKX.out)
  have r0:=hR.cell 0 rfl
  have r1:=hR.cell 1 rfl
  have f0:=hR.2.1 0
  have f1:=hR.2.1 1
  have HRR:=hid hR
  clear hR
  clear hg
  go_wp2_with fail
  generalize hW9:(World.setCell _ _ _).setCell _ _=W9
  obtain⟨hF,hK⟩:=box2_set HRR.out (K1.out.trans HKX.out) (show w.heap.size≤w.heap.size+1 by omega) _ _ hW9
  have s0:=hF.cell 0 rfl
  have s1:=hF.cell 1 rfl
  refine bodyPost_ret (v:=.agg #[.int .i64 (fltN G),.string (fltS G)]) (by simp[results,Tryz.results16,go_sem,s0,s1]) rfl ?_
  rw[HZ2.out]
  exact⟨rfl,hK⟩
 have hn0:fltN G=0:=(fltN_none HN1.out).2 hg
 have HF3:=hid (show F=orF (onceF [] MD) (orF (rngF (p.ss++p.ps)) (orF (needF (decide (0<p.tn)) 2 ByteArray.empty) (modesF ST AL MD p.ms))) by rw[HF2.out,hg];rfl)
 have HRm:=hid (repeated_flt MD a3 c3 X (HR3.out.kp HKW.out) (by omega) hc3)
 have HN2:=hid (nz_once MD [])
 generalize hG2:onceF [] MD=G2 at *
 clear hG2 hg HF2
 go_upto_region 13 with (first | (go_at_call 71;go_fit HRm.out;rintro r w5 ⟨rfl,k5⟩) | fail)
 have kA2:=(Kp.refl w5).alloc (.cells #[.int .i64 (fltN G2),.string (fltS G2)] 36)
 have hB2:BoxV (w5.alloc (.cells #[.int .i64 (fltN G2),.string (fltS G2)] 36)) w5.heap.size [.int .i64 (fltN G2),.string (fltS G2)]:=BoxV.new w5 [_,_] _ _ rfl
 have HKY:=hid (HKX.out.trans (k5.trans kA2))
 have HKU:=hid (HKW.out.trans (k5.trans kA2))
 clear kA2 k5 b0 b1 hn0
 generalize w5.alloc _=Y at *
 have b0:=hB2.cell 0 rfl
 have b1:=hB2.cell 1 rfl
 clear hB2
 by_cases hg2:G2=none
 rotate_left
 ·have hg:=hg2
  have hn0:¬ fltN G2=0:=fun h=>hg ((fltN_none HN2.out).1 h)
  have HZ2:=hid (show rfltV F=.agg #[.int .i64 (fltN G2),.string (fltS G2)] by
   rw[HF3.out]
   cases G2 with
   | none=>exact absurd rfl hg
   | some y=>rfl)
  have hR:=HR.out.kp (HKY.out)
  have r0:=hR.cell 0 rfl
  have r1:=hR.cell 1 rfl
  have f0:=hR.2.1 0
  have f1:=hR.2.1 1
  have HRR:=hid hR
  clear hR
  clear hg hg2
  go_wp2_with fail
  generalize hW9:(World.setCell _ _ _).setCell _ _=W9
  obtain⟨hF,hK⟩:=box2_set HRR.out (K1.out.trans HKY.out) (show w.heap.size≤w.heap.size+1 by omega) _ _ hW9
  have s0:=hF.cell 0 rfl
  have s1:=hF.cell 1 rfl
  refine bodyPost_ret (v:=.agg #[.int .i64 (fltN G2),.string (fltS G2)]) (by simp[results,Tryz.results16,go_sem,s0,s1]) rfl ?_
  rw[HZ2.out]
  exact⟨rfl,hK⟩
 have hn0:fltN G2=0:=(fltN_none HN2.out).2 hg2
 have HF4:=hid (show F=orF (rngF (p.ss++p.ps)) (orF (needF (decide (0<p.tn)) 2 ByteArray.empty) (modesF ST AL MD p.ms)) by rw[HF3.out,hg2];rfl)
 clear hg2 HF3
 go_upto_region 15 with fail
 obtain⟨i0,hi,hz0,hz1,hz2⟩:=info_parts infoDecl
 have hqY:=H0.out.kp HKY.out
 have hSd:Y.drew.cell? ⟨w.heap.size,0,none⟩=some (.slice p.sa p.ss.length p.sc)∧Y.drew.cell? ⟨w.heap.size,1,none⟩=some (.slice p.pa p.ps.length p.pc):=⟨(Kp.refl Y).drew.cell (hqY.cell 0 rfl),(Kp.refl Y).drew.cell (hqY.cell 1 rfl)⟩
 have HSd:=hid hSd
 clear b0 b1 hn0 hqY
 refine wp_region_held_drew (S:=fun w'=>w'.cell? ⟨w.heap.size,0,none⟩=some (.slice p.sa p.ss.length p.sc)∧w'.cell? ⟨w.heap.size,1,none⟩=some (.slice p.pa p.ps.length p.pc)) (by kernel_rfl) hSd (fun hHeld=>?_)
 clear hSd
 refine tk 1 ?_;refine tk 2 ?_;refine tk 4 ?_;refine tk 5 ?_;(try simp only[aput])
 refine cm 0 (fun K hK=>?_)
 go_simp
 have hO0:OwnDe Y (Y.alloc (.cells #[] 68)).drew (.slice (some ⟨Y.heap.size,0,none⟩) 0 0) []:=(OwnV.empty _ (Kp.refl Y)).kp (Kp.refl _).drew
 have hqA:=H0.out.kp (HKY.out.trans hO0.1)
 refine hK.out _ _ ⟨hqA.cell 0 rfl,hqA.cell 1 rfl⟩ (fun hHeld=>?_)
 clear hK K
 refine cm 3 (fun K hK=>?_)
 obtain⟨d1,w6,hr6,hO6,hn6⟩:=app_vs de_len (by decide) de_one 22 68 22 i0 _ 48 Tryz.underlying22 hi hz0 hz1 hz2 rfl Y _ [] hO0 ⟨_,_,_,rfl,Nat.le_refl _⟩ B p.sa p.sc p.ss (HAT.out.2.1.1.kp (HKY.out.trans hO0.1)) (by simp only[List.length_nil];omega) (by simp only[List.length_nil];omega)
 refine step_append_run (by rfl) _ _ _ (by rfl) _ _ (by rfl) (by rfl) d1 w6 hr6 ?_
 have hqB:=H0.out.kp (HKY.out.trans hO6.1)
 refine hK.out _ _ ⟨hqB.cell 0 rfl,hqB.cell 1 rfl⟩ (fun hHeld=>?_)
 clear hK K hr6
 refine cm 6 (fun K hK=>?_)
 obtain⟨d2,w7,hr7,hO7,hn7⟩:=app_vs de_len (by decide) de_one 22 68 22 i0 _ 48 Tryz.underlying22 hi hz0 hz1 hz2 rfl Y _ ([]++p.ss) hO6 hn6 B p.pa p.pc p.ps (HAT.out.2.2.1.1.kp (HKY.out.trans hO6.1)) (by simp only[List.nil_append];omega) (by simp only[List.nil_append];omega)
 refine step_append_run (by rfl) _ _ _ (by rfl) _ _ (by rfl) (by rfl) d2 w7 hr7 ?_
 have hqC:=H0.out.kp (HKY.out.trans hO7.1)
 refine hK.out _ _ ⟨hqC.cell 0 rfl,hqC.cell 1 rfl⟩ (fun hHeld=>?_)
 clear hK K hr7
 rw[List.nil_append] at hO7
 obtain⟨da,dc,rfl,hdc,hdr⟩:=hO7.row de_len de_one
 refine tk 7 ?_;(try simp only[aput])
 refine wpAnyH_done (by kernel_rfl) ?_ _
 have HDR:=hid hdr
 have HKZ:=hid (HKY.out.trans hO7.1)
 have HKT:=hid (HKU.out.trans hO7.1)
 have HDB:=hid (probB_de HPB.out)
 have HMo:=hid (probB_mo HPB.out)
 have hdl:(p.ss++p.ps).length≤8:=by rw[List.length_append];omega
 clear hqA hqB hqC hO0 hO6 hO7 hn6 hn7 hdr HSd hHeld hdc
 obtain⟨DS,hDS⟩:∃ DS,p.ss++p.ps=DS:=⟨_,rfl⟩
 have hln:p.ss.length+p.ps.length=DS.length:=by rw[← hDS,List.length_append]
 rw[hDS] at HDR HDB HF4 hdl
 first | rw[hln] | skip
 try rw[hDS]
 clear hDS hln
 go_upto_region 17 with fail
 obtain⟨Z,hZ⟩:∃ V:World,V=w7:=⟨_,rfl⟩
 subst hZ
 go_loopw [10] (fun z wr=>∃ k:Nat,k≤DS.length∧z=.int .i64 k∧Kp Z wr∧F=orF (rngF (DS.drop k)) (orF (needF (decide (0<p.tn)) 2 ByteArray.empty) (modesF ST AL MD p.ms))) (fun z _=>DS.length-(intOf z).toNat)
 case atStart=>exact⟨0,by omega,rfl,.refl _,HF4.out⟩
 case round =>
 obtain⟨k,hk,rfl,hkv,hz⟩:=hrel
 have HKv:=hid hkv
 have HKk:=hid (HKZ.out.trans hkv)
 by_cases hlt:k<DS.length
 ·obtain⟨d,hs⟩:∃ d,DS[k]? = some d:=⟨_,List.getElem?_eq_getElem hlt⟩
  obtain⟨b,o,ha,_,hc⟩:=HDR.out.kp hkv k d hs
  have hdB:=HDB.out d (List.mem_of_getElem? hs)
  rw[rngF_step hs hdB] at hz
  obtain⟨hra,hrb⟩:=declB_rat hdB
  have HC:=hid (r4cmp_any d.ln d.ld d.hn d.hd wr.drew hra hrb)
  have Hz:=hid hz
  have z0:wr.cell? ⟨b,o+k*5,none⟩=some (.string d.name):=hc 0 _ rfl;have z1:=hc 1 _ rfl;have z2:=hc 2 _ rfl;have z3:=hc 3 _ rfl;have z4:=hc 4 _ rfl
  have hSd:wr.drew.cell? ⟨b,o+k*5,none⟩=some (.string d.name)∧wr.drew.cell? ⟨b,o+k*5+1,none⟩=some (.int .i64 d.ln)∧wr.drew.cell? ⟨b,o+k*5+2,none⟩=some (.int .i64 d.ld)∧wr.drew.cell? ⟨b,o+k*5+3,none⟩=some (.int .i64 d.hn)∧wr.drew.cell? ⟨b,o+k*5+4,none⟩=some (.int .i64 d.hd):=⟨(Kp.refl wr).drew.cell z0,(Kp.refl wr).drew.cell z1,(Kp.refl wr).drew.cell z2,(Kp.refl wr).drew.cell z3,(Kp.refl wr).drew.cell z4⟩
  have HSd:=hid hSd
  rw[ha]
  clear hs hc ha hkv hz hra hrb hdB z0 z1 z2 z3 z4
  go_upto_region 19 with fail
  refine wp_region_held_drew (S:=fun w'=>w'.cell? ⟨b,o+k*5,none⟩=some (.string d.name)∧w'.cell? ⟨b,o+k*5+1,none⟩=some (.int .i64 d.ln)∧w'.cell? ⟨b,o+k*5+2,none⟩=some (.int .i64 d.ld)∧w'.cell? ⟨b,o+k*5+3,none⟩=some (.int .i64 d.hn)∧w'.cell? ⟨b,o+k*5+4,none⟩=some (.int .i64 d.hd)) (by kernel_rfl) hSd (fun hHeld=>?_)
  clear hSd
  refine tk 0 ?_;refine tk 1 ?_;refine tk 2 ?_;refine tk 3 ?_;refine tk 4 ?_;refine tk 5 ?_;refine tk 6 ?_;refine tk 7 ?_;refine tk 8 ?_;refine tk 9 ?_;refine tk 10 ?_;refine tk 11 ?_;(try simp only[aput])
  refine cm 12 (fun K hK=>?_)
  (go_simp;go_fit HC.out;rintro r w8 ⟨rfl,k8⟩)
  refine hK.out _ _ (keep5 k8 HSd.out) (fun hHeld=>?_)
  clear hK K
  have HK8:=hid ((Kp.refl wr).drew.trans k8)
  have z0:=k8.cell HSd.out.1
  clear k8
  by_cases ho:ordZ (d.ln*d.hd) (d.hn*d.ld)≤0
  ·have hp:¬ 0<ordZ (d.ln*d.hd) (d.hn*d.ld):=by omega
   have HZ2:=hid (show F=orF (rngF (DS.drop (k+1))) (orF (needF (decide (0<p.tn)) 2 ByteArray.empty) (modesF ST AL MD p.ms)) by rw[Hz.out,decide_eq_true ho];rfl)
   refine tk 13 ?_;(try simp only[aput])
   refine wpAnyH_done (by kernel_rfl) ?_ _
   clear ho hHeld
   go_wp2_with fail
   go_roundw
   case measure=>simp only[intOf];omega
   case rel=>exact⟨k+1,by omega,by go_num,HKv.out.trans HK8.out,HZ2.out⟩
  have hp:0<ordZ (d.ln*d.hd) (d.hn*d.ld):=by omega
  have HZ2:=hid (show rfltV F=.agg #[.int .i64 2,.string d.name] by rw[Hz.out,decide_eq_false ho];rfl)
  refine tk 13 ?_;(try simp only[aput])
  refine wpAnyH_done (by kernel_rfl) ?_ _
  clear ho hHeld
  go_wp2_with (first
   | (go_at_call 69;go_fit (rfault_any 2 d.name w8);rintro r w9 ⟨rfl,k9⟩;have hR:=HR.out.kp (HKk.out.trans (HK8.out.trans k9));have r0:=hR.cell 0 rfl;have r1:=hR.cell 1 rfl;have f0:=hR.2.1 0;have f1:=hR.2.1 1;have HRR:=hid hR;clear hR)
   | fail)
  generalize hW9:(World.setCell _ _ _).setCell _ _=W9
  obtain⟨hF,hK⟩:=box2_set HRR.out (K1.out.trans (HKk.out.trans (HK8.out.trans k9))) (show w.heap.size≤w.heap.size+1 by omega) _ _ hW9
  have s0:=hF.cell 0 rfl
  have s1:=hF.cell 1 rfl
  refine bodyPost_ret (v:=.agg #[.int .i64 2,.string d.name]) (by simp[results,Tryz.results16,go_sem,s0,s1]) rfl ?_
  rw[HZ2.out]
  exact⟨rfl,hK⟩
 have HF5:=hid (show F=orF (needF (decide (0<p.tn)) 2 ByteArray.empty) (modesF ST AL MD p.ms) by rw[hz,List.drop_eq_nil_of_le (show DS.length≤k by omega)];rfl)
 clear hz hkv
 have hq:=H0.out.kp HKk.out
 have q3:=hq.cell 3 rfl
 have q2:=hq.cell 2 rfl
 clear hq
 by_cases htn:p.tn≤0
 ·have HZ2:=hid (show rfltV F=.agg #[.int .i64 2,.string ⟨#[]⟩] by rw[HF5.out,decide_eq_false (show ¬ 0<p.tn by omega)];rfl)
  clear q2
  go_wp2_with (first
   | (go_at_call 69;go_fit (rfault_any 2 ⟨#[]⟩ wr);rintro r w9 ⟨rfl,k9⟩;have hR:=HR.out.kp (HKk.out.trans k9);have r0:=hR.cell 0 rfl;have r1:=hR.cell 1 rfl;have f0:=hR.2.1 0;have f1:=hR.2.1 1;have HRR:=hid hR;clear hR)
   | fail)
  generalize hW9:(World.setCell _ _ _).setCell _ _=W9
  obtain⟨hF,hK⟩:=box2_set HRR.out (K1.out.trans (HKk.out.trans k9)) (show w.heap.size≤w.heap.size+1 by omega) _ _ hW9
  have s0:=hF.cell 0 rfl
  have s1:=hF.cell 1 rfl
  refine bodyPost_ret (v:=.agg #[.int .i64 2,.string ⟨#[]⟩]) (by simp[results,Tryz.results16,go_sem,s0,s1]) rfl ?_
  rw[HZ2.out]
  exact⟨rfl,hK⟩
 have HF6:=hid (show F=modesF ST AL MD p.ms by rw[HF5.out,decide_eq_true (show 0<p.tn by omega)];rfl)
 go_upto_region 24 with fail
 clear q2 q3
 obtain⟨V2,hV⟩:∃ V:World,V=wr:=⟨_,rfl⟩
 subst hV
 have HKq:=hid (HKT.out.trans HKv.out)
 go_loopw [11] (fun z wr=>∃ k:Nat,k≤p.ms.length∧z=.int .i64 k∧Kp V2 wr∧F=modesF ST AL MD (p.ms.drop k)) (fun z _=>p.ms.length-(intOf z).toNat)
 case atStart=>exact⟨0,by omega,rfl,.refl _,HF6.out⟩
 case round =>
 obtain⟨j,hj,rfl,hkv,hz⟩:=hrel
 have HKj:=hid hkv
 have HK3:=hid (HKk.out.trans hkv)
 have HKr:=hid (HKq.out.trans hkv)
 have hq:=H0.out.kp HK3.out
 have q2:=hq.cell 2 rfl
 clear hq
 by_cases hltj:j<p.ms.length
 rotate_left
 ·have HZ2:=hid (show rfltV F=.agg #[.int .i64 0,.string ⟨#[]⟩] by rw[hz,List.drop_eq_nil_of_le (show p.ms.length≤j by omega)];rfl)
  have hR:=HR.out.kp (HK3.out)
  have r0:=hR.cell 0 rfl
  have r1:=hR.cell 1 rfl
  have f0:=hR.2.1 0
  have f1:=hR.2.1 1
  have HRR:=hid hR
  clear hR
  clear hz hkv
  go_wp2_with fail
  generalize hW9:(World.setCell _ _ _).setCell _ _=W9
  obtain⟨hF,hK⟩:=box2_set HRR.out (K1.out.trans HK3.out) (show w.heap.size≤w.heap.size+1 by omega) _ _ hW9
  have s0:=hF.cell 0 rfl
  have s1:=hF.cell 1 rfl
  refine bodyPost_ret (v:=.agg #[.int .i64 0,.string ⟨#[]⟩]) (by simp[results,Tryz.results16,go_sem,s0,s1]) rfl ?_
  rw[HZ2.out]
  exact⟨rfl,hK⟩
 obtain⟨x,hs⟩:∃ x,p.ms[j]? = some x:=⟨_,List.getElem?_eq_getElem hltj⟩
 obtain⟨b,o,ha,_,hc⟩:=HAT.out.2.2.2.1.kp HK3.out j x hs
 rw[modesF_step hs] at hz
 have Hz:=hid hz
 have HC:=hid (mode_flt ST AL MD a1 a2 a3 c1 c2 c3 x wr B (HR1.out.kp (HO.out.1.trans HKr.out)) (HR2.out.kp (HO.out.1.trans HKr.out)) (HR3.out.kp HKr.out) (by omega) (by omega) (by omega) (Mo.at_kp (HAT.out.2.2.2.2 x (List.mem_of_getElem? hs)) HK3.out) (HMo.out x (List.mem_of_getElem? hs)))
 have HN3:=hid (nz_mode ST AL MD x)
 have z0:wr.cell? ⟨b,o+j*3,none⟩=some (.string x.name):=hc 0 _ rfl;have z1:=hc 1 _ rfl;have z2:=hc 2 _ rfl
 rw[ha] at q2
 clear hc hs ha hkv hz
 generalize hG3:modeF ST AL MD x=G3 at *
 clear hG3
 go_upto_region 27 with (first | (go_at_call 73;go_fit HC.out;rintro r w9 ⟨rfl,k9⟩) | fail)
 have kA:=(Kp.refl w9).alloc (.cells #[.int .i64 (fltN G3),.string (fltS G3)] 36)
 have hB:BoxV (w9.alloc (.cells #[.int .i64 (fltN G3),.string (fltS G3)] 36)) w9.heap.size [.int .i64 (fltN G3),.string (fltS G3)]:=BoxV.new w9 [_,_] _ _ rfl
 have HKX3:=hid (HK3.out.trans (k9.trans kA))
 have HKJ:=hid (HKj.out.trans (k9.trans kA))
 clear q2 z0 z1 z2 kA k9
 generalize w9.alloc _=X3 at *
 have b0:=hB.cell 0 rfl
 have b1:=hB.cell 1 rfl
 clear hB
 by_cases hg:G3=none
 ·have hn0:fltN G3=0:=(fltN_none HN3.out).2 hg
  have HZ2:=hid (show F=modesF ST AL MD (p.ms.drop (j+1)) by rw[Hz.out,hg];rfl)
  clear hg
  go_wp2_with fail
  go_roundw
  case measure=>simp only[intOf];omega
  case rel=>exact⟨j+1,by omega,by go_num,HKJ.out,HZ2.out⟩
 have hn0:¬ fltN G3=0:=fun h=>hg ((fltN_none HN3.out).1 h)
 have HZ2:=hid (show rfltV F=.agg #[.int .i64 (fltN G3),.string (fltS G3)] by
  rw[Hz.out]
  cases G3 with
  | none=>exact absurd rfl hg
  | some y=>rfl)
 have hR:=HR.out.kp (HKX3.out)
 have r0:=hR.cell 0 rfl
 have r1:=hR.cell 1 rfl
 have f0:=hR.2.1 0
 have f1:=hR.2.1 1
 have HRR:=hid hR
 clear hR
 clear hg
 go_wp2_with fail
 generalize hW9:(World.setCell _ _ _).setCell _ _=W9
 obtain⟨hF,hK⟩:=box2_set HRR.out (K1.out.trans HKX3.out) (show w.heap.size≤w.heap.size+1 by omega) _ _ hW9
 have s0:=hF.cell 0 rfl
 have s1:=hF.cell 1 rfl
 refine bodyPost_ret (v:=.agg #[.int .i64 (fltN G3),.string (fltS G3)]) (by simp[results,Tryz.results16,go_sem,s0,s1]) rfl ?_
 rw[HZ2.out]
 exact⟨rfl,hK⟩
theorem run_fieldF0 (x0 x1:Value) (w:World):(Instr.field 36 (.agg #[x0,x1]) 0).run Tryz.prog w=.ok x0 w:=by kernel_rfl
theorem r16right_any (p:Pr) (w:World) (B:Nat) (hat:p.at w B) :
  Calls Tryz.prog 76 #[.agg #[.slice p.sa p.ss.length p.sc,.slice p.pa p.ps.length p.pc,.slice p.ma p.ms.length p.mc,.int .i64 p.tn,.int .i64 p.td]] w fun r w'=>r=.returned (.bool (okF p))∧Kp w w':=by
 have k1:Kp w (w.alloc (.cells #[.slice p.sa p.ss.length p.sc,.slice p.pa p.ps.length p.pc,.slice p.ma p.ms.length p.mc,.int .i64 p.tn,.int .i64 p.td] 27)):=(Kp.refl w).alloc _
 have h0:BoxV (w.alloc (.cells #[.slice p.sa p.ss.length p.sc,.slice p.pa p.ps.length p.pc,.slice p.ma p.ms.length p.mc,.int .i64 p.tn,.int .i64 p.td] 27)) w.heap.size p.cells:=BoxV.new w p.cells _ _ rfl
 have hfd:=run_fieldF0
 go_enter Tryz.func76,Tryz.ntmps76
 go_upto_region 1 with fail
 generalize w.alloc _=W at *
 have HC:=hid (r16check_any p W B (Pr.at_kp hat k1))
 have K1:=hid k1
 have q0:=h0.cell 0 rfl;have q1:=h0.cell 1 rfl;have q2:=h0.cell 2 rfl;have q3:=h0.cell 3 rfl;have q4:=h0.cell 4 rfl
 clear h0 k1 hat
 cases hf:checkF p with
 | none =>
  rw[hf] at HC
  have HC2:=hid (show Calls Tryz.prog 16 #[.agg #[.slice p.sa p.ss.length p.sc,.slice p.pa p.ps.length p.pc,.slice p.ma p.ms.length p.mc,.int .i64 p.tn,.int .i64 p.td]] W fun r w'=>r=.returned (.agg #[.int .i64 0,.string ⟨#[]⟩])∧Kp W w' from HC.out)
  have Ho:=hid (show okF p=true by unfold okF;rw[hf];rfl)
  clear hf HC
  go_wp2_with (go_at_call 16;go_fit HC2.out;rintro r w2 ⟨rfl,k2⟩)
  go_ret
  exact⟨ret_bool (by rw[Ho.out]),K1.out.trans k2⟩
 | some x =>
 rw[hf] at HC
 have HC2:=hid (show Calls Tryz.prog 16 #[.agg #[.slice p.sa p.ss.length p.sc,.slice p.pa p.ps.length p.pc,.slice p.ma p.ms.length p.mc,.int .i64 p.tn,.int .i64 p.td]] W fun r w'=>r=.returned (.agg #[.int .i64 x.1,.string x.2])∧Kp W w' from HC.out)
 have Ho:=hid (show okF p=false by unfold okF;rw[hf];rfl)
 have hx:(x.1==0)=false:=beq_eq_false_iff_ne.2 (nz_check p x hf)
 clear hf HC
 go_wp2_with (go_at_call 16;go_fit HC2.out;rintro r w2 ⟨rfl,k2⟩)
 go_ret
 exact⟨ret_bool (by rw[Ho.out]),K1.out.trans k2⟩
end
section
open Go.RowKit Go.Sort
end
section
def e2 (e:Int):Rat:=(2:Rat) ^ e
theorem e2_pos (e:Int):0<e2 e:=Rat.zpow_pos (by decide)
theorem e2_add (a b:Int):e2 (a+b)=e2 a*e2 b:=Rat.zpow_add (by decide) a b
theorem e2_zero:e2 0=1:=Rat.zpow_zero _
theorem e2_one:e2 1=2:=Rat.zpow_one _
theorem e2_nat (n:Nat):e2 (n:Int)=((2 ^ n:Nat):Rat):=by
 unfold e2
 rw[Rat.zpow_natCast,Rat.natCast_pow];rfl
theorem e2_int (n:Nat):e2 (n:Int)=(((2:Int) ^ n:Int):Rat):=by
 unfold e2
 rw[Rat.zpow_natCast,Rat.intCast_pow];rfl
theorem e2_ge_one {a:Int} (h:0≤a):1≤e2 a:=by
 obtain⟨n,rfl⟩:=Int.eq_ofNat_of_zero_le h
 rw[e2_nat]
 have:((1:Nat):Rat)≤((2 ^ n:Nat):Rat):=Rat.natCast_le_natCast.2 (Nat.pow_pos (by decide))
 exact this
theorem e2_le {a b:Int} (h:a≤b):e2 a≤e2 b:=by
 have h1:=e2_ge_one (show 0≤b-a by omega)
 have h2:=e2_pos a
 have h3:e2 b=e2 a*e2 (b-a):=by rw[← e2_add];congr 1;omega
 have h4:=Rat.mul_le_mul_of_nonneg_left h1 (Rat.le_of_lt h2)
 rw[h3];grind
theorem e2_neg (a:Int):e2 a*e2 (-a)=1:=by rw[← e2_add,Int.add_right_neg,e2_zero]
def ab (x:Rat):Rat:=if 0≤x then x else -x
theorem ab_of_nonneg {x:Rat} (h:0≤x):ab x=x:=if_pos h
theorem ab_le {x y:Rat}:ab x≤y↔-y≤x∧x≤y:=by unfold ab;split <;> grind
theorem ab_neg (x:Rat):ab (-x)=ab x:=by unfold ab;grind
theorem int_le_rat {a b:Int}:(a:Rat)≤(b:Rat)↔a≤b:=Rat.intCast_le_intCast
def qv (d:Dy):Rat:=(d.iv:Rat)*e2 (-16384)
theorem qv_le {a b:Dy}:qv a≤qv b↔a.iv≤b.iv:=by
 unfold qv
 have h:=e2_pos (-16384)
 constructor
 ·intro h1;exact int_le_rat.1 (Rat.le_of_mul_le_mul_right h1 h)
 intro h1;exact Rat.mul_le_mul_of_nonneg_right (int_le_rat.2 h1) (Rat.le_of_lt h)
theorem qv_zero:qv .zero=0:=by unfold qv;rw[Dy.iv_zero];exact Rat.zero_mul _
theorem qv_opp (d:Dy):qv d.opp=-qv d:=by unfold qv;rw[Dy.opp_iv,Rat.intCast_neg,Rat.neg_mul]
theorem qv_eq_zero {d:Dy}:qv d=0↔d.m=0:=by
 rw[← Dy.iv_eq_zero]
 unfold qv
 have h:=e2_pos (-16384)
 constructor
 ·intro h1
  have h2:(d.iv:Rat)=0:=by grind
  exact Rat.intCast_eq_zero_iff.1 h2
 intro h1;rw[h1];exact Rat.zero_mul _
theorem qv_sg {d:Dy} (h:-16384≤d.e):qv d=(sg d.neg d.m:Rat)*e2 d.e:=by
 unfold qv
 rw[iv_sg,Rat.intCast_mul]
 have:(((2:Int) ^ (d.e+16384).toNat:Int):Rat)=e2 (d.e+16384):=by
  rw[← e2_int];congr 1;omega
 rw[this,Rat.mul_assoc,← e2_add]
 congr 2;omega
theorem qv_canon {n:Nat} {u:Int} (h:-16384≤u):qv (canon false n u)=(n:Rat)*e2 u:=by
 unfold qv
 rw[canon_iv _ _ _ h]
 have h1:sg false (n*2 ^ (u+16384).toNat)=(n:Int)*(2:Int) ^ (u+16384).toNat:=by
  unfold sg;rw[if_neg (by decide)];push_cast;rfl
 rw[h1,Rat.intCast_mul]
 have:(((2:Int) ^ (u+16384).toNat:Int):Rat)=e2 (u+16384):=by
  rw[← e2_int];congr 1;omega
 rw[this,Rat.mul_assoc,← e2_add]
 rw[show u+16384 + -16384=u from by omega];rfl
theorem qv_int (n:Int):qv (intD n)=(n:Rat):=by
 unfold qv
 rw[intD_iv,Rat.intCast_mul]
 have:(((2:Int) ^ 16384:Int):Rat)=e2 ((16384:Nat):Int):=(e2_int 16384).symm
 generalize (2:Int) ^ 16384=Q at *
 rw[this,Rat.mul_assoc,← e2_add]
 show (n:Rat)*e2 0=n
 rw[e2_zero,Rat.mul_one]
section
variable {m:Nat} {e:Int} {more up:Bool} {p:Nat} {y:Rat}
theorem runit_e2 (hm:m≠0) (h0:(m:Rat)*e2 e≤y):e2 (runit m e p)≤y*e2 (1-p)+e2 (-16384):=by
 have hy:0≤y:=Rat.le_trans (Rat.mul_nonneg Rat.natCast_nonneg (Rat.le_of_lt (e2_pos e))) h0
 have a1:=e2_pos (-16384)
 have a2:=Rat.mul_nonneg hy (Rat.le_of_lt (e2_pos (1-(p:Int))))
 unfold runit
 by_cases h:e+bits m-p≤-16384
 ·rw[Int.max_eq_right h];grind
 rw[Int.max_eq_left (by omega)]
 have hb:0<bits m:=bits_pos hm
 have h1:e2 (e+bits m-p)=e2 e*e2 ((bits m-1:Nat):Int)*e2 (1-p):=by
  rw[← e2_add,← e2_add];congr 1;omega
 have h2:e2 ((bits m-1:Nat):Int)≤(m:Rat):=by
  rw[e2_nat];exact Rat.natCast_le_natCast.2 (two_pow_le_of_bits hm)
 have h3:=Rat.mul_le_mul_of_nonneg_left h2 (Rat.le_of_lt (e2_pos e))
 have h4:e2 e*e2 ((bits m-1:Nat):Int)≤y:=by grind
 have h5:=Rat.mul_le_mul_of_nonneg_right h4 (Rat.le_of_lt (e2_pos (1-(p:Int))))
 rw[h1];grind
theorem rlow_q (hmo:more=true→p<bits m) (h1:more=false→y=(m:Rat)*e2 e) (h2:(m:Rat)*e2 e≤y∧y≤((m:Rat)+1)*e2 e) :
  (rlow m e (runit m e p):Rat)*e2 (runit m e p)≤y∧y≤((rlow m e (runit m e p):Rat)+1)*e2 (runit m e p)∧((more||rlost m e (runit m e p))=false→y=(rlow m e (runit m e p):Rat)*e2 (runit m e p)):=by
 have hu:more=true→e<runit m e p:=fun h=>by have:=hmo h;unfold runit;omega
 generalize runit m e p=u at *
 have pu:=e2_pos u
 by_cases hue:u≤e
 ·have hm:more=false:=by
   cases more with
   | false=>rfl
   | true=>have:=hu rfl;omega
  have e1:(rlow m e u:Rat)*e2 u=(m:Rat)*e2 e:=by
   unfold rlow
   rw[if_pos hue,Rat.natCast_mul,← e2_nat,Rat.mul_assoc,← e2_add]
   congr 2;omega
  rw[h1 hm,e1]
  refine⟨Rat.le_refl,?_,fun _=>rfl⟩
  rw[Rat.add_mul,e1];grind
 have hD:e2 u=((2 ^ (u-e).toNat:Nat):Rat)*e2 e:=by
  rw[← e2_nat,← e2_add];congr 1;omega
 have hpD:=two_pow_pos (u-e).toNat
 have hq:rlow m e u=m/2 ^ (u-e).toNat:=by unfold rlow;rw[if_neg hue]
 have hl:rlost m e u=!decide (m % 2 ^ (u-e).toNat=0):=by
  unfold rlost;rw[decide_eq_false hue];rfl
 rw[hq,hl,hD]
 generalize 2 ^ (u-e).toNat=D at *
 have d1:=Nat.div_add_mod m D
 have d2:=Nat.mod_lt m hpD
 have pe:=e2_pos e
 have k1:((m/D:Nat):Rat)*(D:Rat)≤(m:Rat):=by
  rw[← Rat.natCast_mul];exact Rat.natCast_le_natCast.2 (Nat.div_mul_le_self m D)
 have k2:(m:Rat)+1≤(((m/D:Nat):Rat)+1)*(D:Rat):=by
  have:m+1≤(m/D+1)*D:=by rw[Nat.add_mul,Nat.one_mul,Nat.mul_comm];omega
  have:=Rat.natCast_le_natCast.2 this
  rw[Rat.natCast_mul,Rat.natCast_add,Rat.natCast_add] at this
  exact this
 have k3:=Rat.mul_le_mul_of_nonneg_right k1 (Rat.le_of_lt pe)
 have k4:=Rat.mul_le_mul_of_nonneg_right k2 (Rat.le_of_lt pe)
 refine⟨by grind,by grind,fun h=>?_⟩
 rw[Bool.or_eq_false_iff,Bool.not_eq_false',decide_eq_true_eq] at h
 have h3:=h1 h.1
 have k5:((m/D:Nat):Rat)*(D:Rat)=(m:Rat):=by
  rw[← Rat.natCast_mul,Nat.mul_comm]
  have:D*(m/D)=m:=by omega
  rw[this]
 rw[h3,← k5];grind
theorem rcut_q (hp:8≤p) (hp2:p≤4096) (hm:m≠0) (hmo:more=true→p<bits m) (h1:more=false→y=(m:Rat)*e2 e) (h2:(m:Rat)*e2 e≤y∧y≤((m:Rat)+1)*e2 e) :
  (∀ d,rcut m e more p up=some d→0≤qv d∧(up=false→qv d≤y)∧(up=true→y≤qv d)∧(y≤e2 16000→ab (qv d-y)≤y*e2 (1-p)+e2 (-16384)))∧(y≤e2 16000∨up=false→rcut m e more p up≠none):=by
 obtain⟨a1,a2,a3⟩:=rlow_q hmo h1 h2
 have a4:=runit_e2 (p:=p) hm h2.1
 have hum:-16384≤runit m e p:=runit_ge
 have pu:=e2_pos (runit m e p)
 have hq:∃ q:Nat,q=rq m e more p up∧(up=false→(q:Rat)*e2 (runit m e p)≤y)∧(up=true→y≤(q:Rat)*e2 (runit m e p))∧ab ((q:Rat)*e2 (runit m e p)-y)≤e2 (runit m e p):=by
  refine⟨_,rfl,?_⟩
  unfold rq
  cases up with
  | false =>
   rw[if_neg (by simp)]
   refine⟨fun _=>a1,fun h=>(by cases h),ab_le.2 ⟨by grind,by grind⟩⟩
  | true =>
   cases hl:(more||rlost m e (runit m e p)) with
   | true =>
    rw[if_pos (by simp),Rat.natCast_add]
    refine⟨fun h=>(by cases h),fun _=>a2,ab_le.2 ⟨?_,?_⟩⟩
    ·have:((1:Nat):Rat)=1:=rfl
     rw[this];grind
    ·have:((1:Nat):Rat)=1:=rfl
     rw[this];grind
   | false =>
    rw[if_neg (by simp)]
    have:=a3 hl
    refine⟨fun h=>(by cases h),fun _=>by rw[← this];exact Rat.le_refl,ab_le.2 ⟨by grind,by grind⟩⟩
 obtain⟨q,rfl,q1,q2,q3⟩:=hq
 have hy:0≤y:=Rat.le_trans (Rat.mul_nonneg Rat.natCast_nonneg (Rat.le_of_lt (e2_pos e))) h2.1
 have big:((bits (rq m e more p up):Int)+runit m e p > 16384)→e2 16384≤(rq m e more p up:Rat)*e2 (runit m e p):=by
  intro hb
  have h0:rq m e more p up≠0:=by
   intro h0
   rw[h0,bits_zero] at hb
   have h5:rlow m e (runit m e p)=0:=by
    unfold rq at h0
    split at h0
    ·omega
    ·exact h0
   unfold runit at hb h5 hum
   by_cases h6:e+bits m-p≤-16384
   ·rw[Int.max_eq_right h6] at hb;omega
   ·rw[Int.max_eq_left (by omega)] at hb h5
    have h7:=two_pow_le_of_bits hm
    unfold rlow at h5
    split at h5
    ·rcases Nat.mul_eq_zero.1 h5 with h8 | h8
     ·exact hm h8
     ·exact two_pow_ne _ h8
    ·next h9 =>
     have h10:2 ^ (e+bits m-p-e).toNat≤m:=Nat.le_trans (Nat.pow_le_pow_right (by decide) (by omega)) h7
     have:=Nat.div_pos h10 (two_pow_pos _)
     omega
  have h3:=two_pow_le_of_bits h0
  have h4:e2 ((bits (rq m e more p up)-1:Nat):Int)≤(rq m e more p up:Rat):=by
   rw[e2_nat];exact Rat.natCast_le_natCast.2 h3
  have h5:=Rat.mul_le_mul_of_nonneg_right h4 (Rat.le_of_lt pu)
  rw[← e2_add] at h5
  exact Rat.le_trans (e2_le (by omega)) h5
 have small:y≤e2 16000→¬ ((bits (rq m e more p up):Int)+runit m e p > 16384):=by
  intro hy2 hb
  have h3:=big hb
  have h4:e2 (1-(p:Int))≤1:=by rw[← e2_zero];exact e2_le (by omega)
  have h5:=Rat.mul_le_mul_of_nonneg_left h4 hy
  have h6:=(ab_le.1 q3).2
  have h7:e2 16384=e2 16000*e2 384:=by rw[show (16384:Int)=16000+384 from rfl,e2_add]
  have h8:(4:Rat)≤e2 384:=by
   have:e2 2≤e2 384:=e2_le (by decide)
   have h9:e2 2=4:=by rw[show (2:Int)=1+1 from rfl,e2_add,e2_one];decide +kernel
   rw[h9] at this;exact this
  have h10:=Rat.mul_le_mul_of_nonneg_left h8 (Rat.le_of_lt (e2_pos 16000))
  have h11:e2 (-16384)≤e2 16000:=e2_le (by decide)
  have h12:=e2_pos 16000
  grind
 refine⟨fun d hd=>?_,fun hs=>?_⟩
 ·unfold rcut at hd
  split at hd
  rotate_left
  ·cases hd
   rw[qv_canon hum]
   refine⟨Rat.mul_nonneg Rat.natCast_nonneg (Rat.le_of_lt pu),q1,q2,fun _=>Rat.le_trans q3 a4⟩
  next hb =>
  split at hd
  ·cases hd
  next hu =>
  cases hd
  have h3:=big hb
  have hv:qv (canon false (2 ^ p-1) (16384-p))≤e2 16384:=by
   rw[qv_canon (by omega)]
   have h4:((2 ^ p-1:Nat):Rat)≤e2 (p:Int):=by
    rw[e2_nat];exact Rat.natCast_le_natCast.2 (Nat.sub_le _ _)
   have h5:=Rat.mul_le_mul_of_nonneg_right h4 (Rat.le_of_lt (e2_pos (16384-(p:Int))))
   rw[← e2_add,show (p:Int)+(16384-p)=16384 from by omega] at h5
   exact h5
  have hup:up=false:=by cases up with | false=>rfl | true=>exact absurd rfl hu
  refine⟨?_,fun _=>Rat.le_trans hv (Rat.le_trans h3 (q1 hup)),fun h=>absurd h hu,fun hy2=>absurd hb (small hy2)⟩
  rw[qv_canon (by omega)]
  exact Rat.mul_nonneg Rat.natCast_nonneg (Rat.le_of_lt (e2_pos _))
 unfold rcut
 split
 ·next hb =>
  rcases hs with hs | hs
  ·exact absurd hb (small hs)
  rw[if_neg (by rw[hs];decide)];exact fun h=>by cases h
 exact fun h=>by cases h
end
def rdq (y:Rat) (p:Nat) (up:Bool) (r:Option Dy):Prop :=
 (∀ d,r=some d→(up=false→qv d≤y)∧(up=true→y≤qv d)∧(ab y≤e2 16000→ab (qv d-y)≤ab y*e2 (1-p)+e2 (-16384)))∧(ab y≤e2 16000→r≠none)
theorem rdq.opp {y:Rat} {p:Nat} {up:Bool} {r:Option Dy} (h:rdq y p (!up) r):rdq (-y) p up (r.map Dy.opp):=by
 obtain⟨h1,h2⟩:=h
 refine⟨fun d hd=>?_,fun hy=>?_⟩
 ·cases hr:r with
  | none=>rw[hr] at hd;cases hd
  | some x =>
  rw[hr] at hd;cases hd
  obtain⟨a,b,c⟩:=h1 x hr
  rw[qv_opp]
  refine⟨fun h=>?_,fun h=>?_,fun h=>?_⟩
  ·have:=b (by rw[h];rfl);grind
  ·have:=a (by rw[h];rfl);grind
  rw[ab_neg] at h ⊢
  have:=c h
  rw[show -qv x - -y=-(qv x-y) from by grind,ab_neg];exact this
 rw[ab_neg] at hy
 have:=h2 hy
 cases r with
 | some x=>exact fun h=>by cases h
 | none=>exact absurd rfl this
theorem rdq_rcut {m:Nat} {e:Int} {more up:Bool} {p:Nat} {y:Rat} (hp:8≤p) (hp2:p≤4096) (hm:m≠0) (hmo:more=true→p<bits m) (h1:more=false→y=(m:Rat)*e2 e) (h2:(m:Rat)*e2 e≤y∧y≤((m:Rat)+1)*e2 e):rdq y p up (rcut m e more p up):=by
 have hy:0≤y:=Rat.le_trans (Rat.mul_nonneg Rat.natCast_nonneg (Rat.le_of_lt (e2_pos e))) h2.1
 obtain⟨a,b⟩:=rcut_q (up:=up) hp hp2 hm hmo h1 h2
 unfold rdq
 rw[ab_of_nonneg hy]
 exact⟨fun d hd=>(a d hd).2,fun h=>b (.inl h)⟩
theorem rdq_zero (p:Nat) (up:Bool):rdq 0 p up (some .zero):=by
 refine⟨fun d hd=>?_,fun _ h=>by cases h⟩
 cases hd
 rw[qv_zero]
 refine⟨fun _=>Rat.le_refl,fun _=>Rat.le_refl,fun _=>?_⟩
 have:=e2_pos (-16384)
 have:=e2_pos (1-(p:Int))
 rw[show (0:Rat)-0=0 from by grind,ab_of_nonneg Rat.le_refl];grind
theorem rdq_rndS {s:Bool} {m:Nat} {e:Int} {more up:Bool} {p:Nat} {y:Rat} (hp:8≤p) (hp2:p≤4096) (hm:m≠0) (hmo:more=true→p<bits m) (h1:more=false→y=(m:Rat)*e2 e) (h2:(m:Rat)*e2 e≤y∧y≤((m:Rat)+1)*e2 e):rdq (if s then -y else y) p up (rndS s m e more p up):=by
 unfold rndS sgnR
 cases s with
 | true =>
  have:=(rdq_rcut (up:=!up) hp hp2 hm hmo h1 h2).opp
  simpa using this
 | false =>
 have:=rdq_rcut (up:=up) hp hp2 hm hmo h1 h2
 simpa using this
theorem rdq_quo {s:Bool} {m n:Nat} {e:Int} {p:Nat} (up:Bool) {K:Nat} (hp:8≤p) (hp2:p≤4096) (hm:m≠0) (hn:n≠0) (hK:p+1+bits n≤bits m+K) :
  rdq (if s then -((m:Rat)/n*e2 e) else (m:Rat)/n*e2 e) p up (quoR s m n e p up K):=by
 unfold quoR
 have hb:p<bits (m*2 ^ K/n):=by
  have:=bits_quo hn (p+1) (a:=m*2 ^ K) (by rw[bits_mul_pow hm];omega) (by omega)
  omega
 have hq0:m*2 ^ K/n≠0:=fun h=>by rw[h,bits_zero] at hb;omega
 have hnR:(0:Rat)<(n:Rat):=Rat.natCast_pos.2 (by omega)
 have pe:=e2_pos (e-K)
 have hpe:e2 e=e2 (e-K)*((2 ^ K:Nat):Rat):=by rw[← e2_nat,← e2_add];congr 1;omega
 have d1:=Nat.div_add_mod (m*2 ^ K) n
 have d2:=Nat.mod_lt (m*2 ^ K) (Nat.pos_of_ne_zero hn)
 have f:(m:Rat)/n*e2 e*n=((m*2 ^ K:Nat):Rat)*e2 (e-K):=by
  rw[Rat.natCast_mul,hpe]
  grind
 refine rdq_rndS hp hp2 hq0 (fun _=>hb) (fun h=>?_) ⟨?_,?_⟩
 ·have h0:m*2 ^ K % n=0:=by
   rw[decide_eq_false_iff_not] at h
   exact Classical.byContradiction fun k=>h (bits_pos k)
  have h3:((m*2 ^ K:Nat):Rat)=((m*2 ^ K/n:Nat):Rat)*n:=by
   rw[← Rat.natCast_mul,Nat.mul_comm (m*2 ^ K/n)]
   congr 1;omega
  rw[h3] at f
  generalize ((m*2 ^ K/n:Nat):Rat)=Q at *
  grind
 ·have h3:((m*2 ^ K/n:Nat):Rat)*n≤((m*2 ^ K:Nat):Rat):=by
   rw[← Rat.natCast_mul];exact Rat.natCast_le_natCast.2 (Nat.div_mul_le_self _ _)
  have h4:=Rat.mul_le_mul_of_nonneg_right h3 (Rat.le_of_lt pe)
  refine Rat.le_of_mul_le_mul_right ?_ hnR
  rw[f];grind
 have h3:((m*2 ^ K:Nat):Rat)≤(((m*2 ^ K/n:Nat):Rat)+1)*n:=by
  have:m*2 ^ K≤(m*2 ^ K/n+1)*n:=by rw[Nat.add_mul,Nat.one_mul,Nat.mul_comm (m*2 ^ K/n)];omega
  have:=Rat.natCast_le_natCast.2 this
  rw[show (((m*2 ^ K/n+1)*n:Nat):Rat)=(((m*2 ^ K/n:Nat):Rat)+1)*n from by rw[Rat.natCast_mul,Rat.natCast_add];rfl] at this
  exact this
 have h4:=Rat.mul_le_mul_of_nonneg_right h3 (Rat.le_of_lt pe)
 refine Rat.le_of_mul_le_mul_right ?_ hnR
 rw[f];grind
theorem sg_rat (s:Bool) (n:Nat):((sg s n:Int):Rat)=if s then -(n:Rat) else (n:Rat):=by
 unfold sg
 cases s with
 | true=>simp only[if_true];rw[Rat.intCast_neg];rfl
 | false=>rfl
theorem dvP_q {d f:Dy} (hd:d.ok) (hf:f.ok) {p:Nat} (hp:8≤p) (hp2:p≤512) (up:Bool) (hfz:qv f≠0):∃ r,dvP d f p up=rndE r∧rdq (qv d/qv f) p up r:=by
 have hfm:f.m≠0:=fun h=>hfz (qv_eq_zero.2 h)
 unfold dvP
 rw[if_neg hfm]
 split
 ·next hm =>
  refine⟨some .zero,rfl,?_⟩
  have:qv d/qv f=0:=by rw[qv_eq_zero.2 hm];grind
  rw[this];exact rdq_zero p up
 next hm =>
 refine⟨_,rfl,?_⟩
 have:=rdq_quo (s:=d.neg != f.neg) (e:=d.e-f.e) up hp (show p≤4096 by omega) hm hfm (K:=((p:Int)+(2:Nat)+bits f.m-bits d.m).toNat) (by omega)
 have e1:qv d/qv f=if (d.neg != f.neg)=true then -((d.m:Rat)/f.m*e2 (d.e-f.e)) else (d.m:Rat)/f.m*e2 (d.e-f.e):=by
  rw[qv_sg (ok_e hd).1,qv_sg (ok_e hf).1,sg_rat,sg_rat]
  have h1:=e2_pos f.e
  have h2:e2 d.e=e2 (d.e-f.e)*e2 f.e:=by rw[← e2_add];congr 1;omega
  have h3:(f.m:Rat)≠0:=fun h=>hfm (Rat.natCast_eq_zero_iff.1 h)
  rw[h2]
  generalize (d.m:Rat)=M at *
  generalize (f.m:Rat)=N at *
  generalize e2 (d.e-f.e)=A at *
  generalize e2 f.e=B at *
  cases d.neg <;> cases f.neg <;> simp <;> grind
 rw[e1];exact this
theorem rndE_rdq {y:Rat} {p:Nat} {up:Bool} {r:Option Dy} (h:rdq y p up r):((rndE r).2=0→(up=false→qv (rndE r).1≤y)∧(up=true→y≤qv (rndE r).1))∧(ab y≤e2 16000→(rndE r).2=0∧ab (qv (rndE r).1-y)≤ab y*e2 (1-p)+e2 (-16384)):=by
 obtain⟨h1,h2⟩:=h
 cases r with
 | none=>exact⟨fun h=>(by cases h),fun hy=>absurd rfl (h2 hy)⟩
 | some d =>
 obtain⟨a,b,c⟩:=h1 d rfl
 exact⟨fun _=>⟨a,b⟩,fun hy=>⟨rfl,c hy⟩⟩
end
section
def opB (o:Opn) (bf:Int):Bool :=
 if o.k=1 then ratB o.cn o.cd&&decide (o.a=0∧o.b=0∧o.n=0)
 else if 3≤o.k∧o.k≤6 then decide ((o.cn=0∧o.cd=0)∧(0≤o.a∧o.a<bf)∧(0≤o.b∧o.b<bf)∧o.n=0)
 else if o.k=8 then decide ((o.cn=0∧o.cd=0)∧(0≤o.a∧o.a<bf)∧o.b=0∧0≤o.n∧o.n≤16)
 else if o.k=7∨(9≤o.k∧o.k≤13) then decide ((o.cn=0∧o.cd=0)∧(0≤o.a∧o.a<bf)∧o.b=0∧o.n=0)
 else false
structure InvO (ins:Nat) (ops:List Opn):Prop where
 nd:ops.Nodup
 fm:∀ (i:Nat) (o:Opn),ops[i]? = some o→opB o ((ins+i:Nat):Int)=true
end
section
open Go.RowKit Go.Sort
end
section
open Go.RowKit Go.Sort
end
theorem intD_small {n:Int} (hn:-1073741824≤n∧n≤1073741824):(intD n).ok :=
 (intD_isP (p := 40) (by decide) (by decide) (by have : (2 : Nat) ^ 40 = 1099511627776 := by decide
                                                 omega)).1
theorem div_small {n d:Int} (hn:-1073741824≤n∧n≤1073741824) (hd:1≤d):ab ((n:Rat)/(d:Rat))≤e2 16000:=by
 have h1:(1:Rat)≤(d:Rat):=by have:=int_le_rat.2 hd;simpa using this
 have h2:e2 30≤e2 16000:=e2_le (by decide)
 have h3:e2 30=((1073741824:Int):Rat):=by rw[show (30:Int)=((30:Nat):Int) from rfl,e2_int];rfl
 have h4:=int_le_rat.2 hn.1
 have h5:=int_le_rat.2 hn.2
 rw[Rat.intCast_neg] at h4
 have hi:(0:Rat)<(d:Rat)⁻¹:=Rat.inv_pos.2 (by grind)
 have hm:(d:Rat)*(d:Rat)⁻¹=1:=Rat.mul_inv_cancel _ (by grind)
 rw[Rat.div_def]
 generalize (d:Rat)⁻¹=i at *
 generalize (d:Rat)=D at *
 generalize (n:Rat)=M at *
 have hi1:i≤1:=by
  have:=Rat.mul_le_mul_of_nonneg_right h1 (Rat.le_of_lt hi)
  grind
 rw[ab_le]
 rw[← h3] at h4 h5
 generalize e2 30=E at *
 generalize e2 16000=F at *
 have hE:0≤E:=by grind
 have a1:=Rat.mul_le_mul_of_nonneg_right h5 (Rat.le_of_lt hi)
 have a2:=Rat.mul_le_mul_of_nonneg_right h4 (Rat.le_of_lt hi)
 have a3:=Rat.mul_le_mul_of_nonneg_left hi1 hE
 constructor <;> grind
theorem enc_q {n d:Int} {p:Nat} (hv:ratB n d=true) (h8:8≤p) (h5:p≤512):∃ lo hi,encR n d p=(lo,hi,false)∧qv lo≤(n:Rat)/(d:Rat)∧(n:Rat)/(d:Rat)≤qv hi:=by
 obtain⟨d1,d2,n1,n2⟩:=ratB_parts hv
 have hz:qv (intD d)≠0:=by
  rw[qv_int]
  have:=int_le_rat.2 d1
  intro h
  rw[h] at this
  simp at this
  grind
 obtain⟨r1,e1,q1⟩:=dvP_q (intD_small ⟨n1,n2⟩) (intD_small ⟨by omega,d2⟩) h8 h5 false hz
 obtain⟨r2,e2',q2⟩:=dvP_q (intD_small ⟨n1,n2⟩) (intD_small ⟨by omega,d2⟩) h8 h5 true hz
 rw[qv_int,qv_int] at q1 q2
 have hb:=div_small ⟨n1,n2⟩ d1
 obtain⟨a1,b1⟩:=rndE_rdq q1
 obtain⟨a2,b2⟩:=rndE_rdq q2
 refine⟨(dvP (intD n) (intD d) p false).1,(dvP (intD n) (intD d) p true).1,?_,?_,?_⟩
 ·unfold encR
  rw[if_pos ⟨by rw[e1];exact (b1 hb).1,by rw[e2'];exact (b2 hb).1⟩]
 ·rw[e1];exact (a1 (b1 hb).1).1 rfl
 rw[e2'];exact (a2 (b2 hb).1).2 rfl
theorem rat_le {a b c d:Int} (hb:1≤b) (hd:1≤d) (h:a*d≤c*b):(a:Rat)/(b:Rat)≤(c:Rat)/(d:Rat):=by
 have h1:(1:Rat)≤(b:Rat):=by have:=int_le_rat.2 hb;simpa using this
 have h2:(1:Rat)≤(d:Rat):=by have:=int_le_rat.2 hd;simpa using this
 have h3:=int_le_rat.2 h
 rw[Rat.intCast_mul,Rat.intCast_mul] at h3
 have i1:(0:Rat)<(b:Rat)⁻¹:=Rat.inv_pos.2 (by grind)
 have i2:(0:Rat)<(d:Rat)⁻¹:=Rat.inv_pos.2 (by grind)
 have m1:(b:Rat)*(b:Rat)⁻¹=1:=Rat.mul_inv_cancel _ (by grind)
 have m2:(d:Rat)*(d:Rat)⁻¹=1:=Rat.mul_inv_cancel _ (by grind)
 rw[Rat.div_def,Rat.div_def]
 generalize (b:Rat)⁻¹=x at *
 generalize (d:Rat)⁻¹=y at *
 have h4:=Rat.mul_le_mul_of_nonneg_right h3 (Rat.le_of_lt (Rat.mul_pos i1 i2))
 have e1:(a:Rat)*x=(a:Rat)*(d:Rat)*(x*y):=by
  rw[show (a:Rat)*(d:Rat)*(x*y)=(a:Rat)*x*((d:Rat)*y) by grind,m2,Rat.mul_one]
 have e2':(c:Rat)*y=(c:Rat)*(b:Rat)*(x*y):=by
  rw[show (c:Rat)*(b:Rat)*(x*y)=(c:Rat)*y*((b:Rat)*x) by grind,m1,Rat.mul_one]
 rw[e1,e2']
 exact h4
theorem rng_le {p:Nat} {e:De} (hv:declB e=true) (ho:ratC e.ln e.ld e.hn e.hd≤0) (h8:8≤p) (h5:p≤512):(rngV p e).1.iv≤(rngV p e).2.1.iv:=by
 obtain⟨r1,r2⟩:=declB_rat hv
 obtain⟨lo1,hi1,e1,a1,b1⟩:=enc_q r1 h8 h5
 obtain⟨lo2,hi2,e2',a2,b2⟩:=enc_q r2 h8 h5
 unfold rngV
 rw[e1,e2']
 show lo1.iv≤hi2.iv
 have hle:e.ln*e.hd≤e.hn*e.ld:=by
  unfold ratC at ho
  rw[if_pos ⟨r1,r2⟩] at ho
  split at ho
  ·omega
  ·split at ho
   ·exact absurd ho (by decide)
   ·omega
 have:=rat_le (ratB_parts r1).1 (ratB_parts r2).1 hle
 rw[← qv_le]
 grind
def magV (n d m:Nat) (e:Int):Int :=
 if 32<(bits m:Int)+e then -1 else if (bits m:Int)+e < -32 then 1 else
 if 0≤e then cmpN n (m*d*2 ^ e.toNat) else cmpN (n*2 ^ (-e).toNat) (m*d)
def sgnZ (n:Int):Int:=if 0<n then 1 else if n<0 then -1 else 0
def cmpV (n d:Int) (x:Dy):Int :=
 if sgnZ n<sgn x then -1 else if sgn x<sgnZ n then 1 else if sgnZ n=0 then 0 else sgnZ n*magV n.natAbs d.natAbs x.m x.e
theorem cmpN_ge {a b:Nat} (h:b≤a):0≤cmpN a b:=by unfold cmpN;rw[if_neg (by omega)];split <;> omega
theorem cmpN_le {a b:Nat} (h:a≤b):cmpN a b≤0:=by
 unfold cmpN
 split
 ·omega
 rw[if_pos (by omega)];omega
theorem nat_le_rat {a b:Nat}:(a:Rat)≤(b:Rat)↔a≤b:=by
 have:=@int_le_rat (a:Int) (b:Int)
 rw[Int.ofNat_le] at this
 exact this
theorem magV_spec {n d m:Nat} {e:Int} {q:Rat} (hn0:0<n) (hn:n≤1073741824) (hd0:0<d) (hd:d≤1073741824) (hm:m≠0) (hq:q*(d:Rat)=(n:Rat)) :
  ((m:Rat)*e2 e≤q→0≤magV n d m e)∧(q≤(m:Rat)*e2 e→magV n d m e≤0):=by
 have a1:(1:Rat)≤(n:Rat):=by have:=(@nat_le_rat 1 n).2 hn0;simpa using this
 have a2:(1:Rat)≤(d:Rat):=by have:=(@nat_le_rat 1 d).2 hd0;simpa using this
 have a3:(n:Rat)≤e2 30:=by
  have:=(@nat_le_rat n (2 ^ 30)).2 (by omega)
  rw[show (30:Int)=((30:Nat):Int) from rfl,e2_nat];exact this
 have a4:(d:Rat)≤e2 30:=by
  have:=(@nat_le_rat d (2 ^ 30)).2 (by omega)
  rw[show (30:Int)=((30:Nat):Int) from rfl,e2_nat];exact this
 have hqp:0<q:=by
  refine Rat.not_le.1 fun h=>?_
  have:=Rat.mul_le_mul_of_nonneg_right h (show (0:Rat)≤(d:Rat) by grind)
  grind
 have hb1:m<2 ^ bits m:=bits_le.1 (Nat.le_refl _)
 have hbz:bits m≠0:=fun h=>by rw[h] at hb1;omega
 have hb2:2 ^ (bits m-1)≤m:=by
  refine Nat.le_of_not_lt fun h=>?_
  have:=bits_le.2 h
  omega
 have hm1:e2 ((bits m:Int)-1)≤(m:Rat):=by
  have:=nat_le_rat.2 hb2
  rw[show (bits m:Int)-1=((bits m-1:Nat):Int) by omega,e2_nat];exact this
 have hm2:(m:Rat)≤e2 (bits m:Int):=by
  have:=nat_le_rat.2 (Nat.le_of_lt hb1)
  rw[e2_nat];exact this
 have he:=e2_pos e
 have c1:=Rat.mul_le_mul_of_nonneg_right hm1 (Rat.le_of_lt he)
 have c2:=Rat.mul_le_mul_of_nonneg_right hm2 (Rat.le_of_lt he)
 rw[← e2_add] at c1 c2
 have hq1:q≤e2 30:=by
  have:=Rat.mul_le_mul_of_nonneg_left a2 (Rat.le_of_lt hqp)
  grind
 have hq2:e2 (-30)≤q:=by
  have h1:=Rat.mul_le_mul_of_nonneg_left a4 (Rat.le_of_lt hqp)
  have h2:1≤q*e2 30:=by grind
  have h3:=Rat.mul_le_mul_of_nonneg_right h2 (Rat.le_of_lt (e2_pos (-30)))
  rw[Rat.mul_assoc,e2_neg,Rat.one_mul,Rat.mul_one] at h3
  exact h3
 unfold magV
 split
 ·rename_i h
  have h1:=@e2_le 32 ((bits m:Int)-1+e) (by omega)
  have h2:e2 32=e2 30*4:=by
   rw[show (32:Int)=30+2 from rfl,e2_add]
   congr 1
  have h3:=e2_pos 30
  refine⟨fun h=>?_,fun _=>by decide⟩
  exfalso
  generalize e2 30=E at *
  generalize e2 32=F at *
  grind
 split
 ·rename_i h
  have h1:=@e2_le ((bits m:Int)+e) (-33) (by omega)
  have h2:e2 (-30)=e2 (-33)*8:=by
   rw[show (-30:Int)=-33+3 from rfl,e2_add]
   congr 1
  have h3:=e2_pos (-33)
  refine⟨fun _=>by decide,fun h=>?_⟩
  exfalso
  generalize e2 (-30)=E at *
  generalize e2 (-33)=F at *
  grind
 have dpos:(0:Rat)≤(d:Rat):=by grind
 split
 ·rename_i h
  have hX:((m*d*2 ^ e.toNat:Nat):Rat)=(m:Rat)*e2 e*(d:Rat):=by
   rw[Rat.natCast_mul,Rat.natCast_mul]
   have:=e2_nat e.toNat
   rw[show ((e.toNat:Nat):Int)=e by omega] at this
   rw[this]
   grind
  refine⟨fun h=>cmpN_ge ?_,fun h=>cmpN_le ?_⟩
  ·rw[← nat_le_rat,hX,← hq]
   exact Rat.mul_le_mul_of_nonneg_right h dpos
  rw[← nat_le_rat,hX,← hq]
  exact Rat.mul_le_mul_of_nonneg_right h dpos
 rename_i h
 have hX:((n*2 ^ (-e).toNat:Nat):Rat)=q*(d:Rat)*e2 (-e):=by
  rw[Rat.natCast_mul,hq]
  have:=e2_nat (-e).toNat
  rw[show (((-e).toNat:Nat):Int)=-e by omega] at this
  rw[this]
 have hY:((m*d:Nat):Rat)=(m:Rat)*e2 e*(d:Rat)*e2 (-e):=by
  rw[Rat.natCast_mul]
  have:=e2_neg e
  grind
 have hz:=Rat.le_of_lt (e2_pos (-e))
 refine⟨fun h=>cmpN_ge ?_,fun h=>cmpN_le ?_⟩
 ·rw[← nat_le_rat,hX,hY]
  exact Rat.mul_le_mul_of_nonneg_right (Rat.mul_le_mul_of_nonneg_right h dpos) hz
 rw[← nat_le_rat,hX,hY]
 exact Rat.mul_le_mul_of_nonneg_right (Rat.mul_le_mul_of_nonneg_right h dpos) hz
theorem cmpV_spec {n d:Int} {x:Dy} (hv:ratB n d=true) (hx:x.ok) :
  (qv x≤(n:Rat)/(d:Rat)→0≤cmpV n d x)∧((n:Rat)/(d:Rat)≤qv x→cmpV n d x≤0):=by
 obtain⟨d1,d2,n1,n2⟩:=ratB_parts hv
 have hd0:(1:Rat)≤(d:Rat):=by have:=int_le_rat.2 d1;simpa using this
 have hm:(d:Rat)*(d:Rat)⁻¹=1:=Rat.mul_inv_cancel _ (by grind)
 have hq:(n:Rat)/(d:Rat)*(d:Rat)=(n:Rat):=by rw[Rat.div_def];grind
 generalize (n:Rat)/(d:Rat)=q at *
 have he:=e2_pos x.e
 have hxe:-16384≤x.e:=(ok_e hx).1
 have hqx:=qv_sg hxe
 rw[sg_rat] at hqx
 have hdN:((d.natAbs:Nat):Rat)=(d:Rat):=by
  have:((d.natAbs:Nat):Int)=d:=by omega
  rw[← Rat.intCast_natCast,this]
 have hxm:x.m≠0→(1:Rat)≤(x.m:Rat):=fun h=>by have:=(@nat_le_rat 1 x.m).2 (by omega);simpa using this
 have hxp:x.m≠0→0<(x.m:Rat)*e2 x.e:=fun h=>Rat.mul_pos (by have:=hxm h;grind) he
 have hqpos:0<n→0<q:=fun h=>by
  refine Rat.not_le.1 fun h'=>?_
  have h1:=Rat.mul_le_mul_of_nonneg_right h' (show (0:Rat)≤(d:Rat) by grind)
  have h2:(1:Rat)≤(n:Rat):=by have:=(@int_le_rat 1 n).2 (by omega);simpa using this
  grind
 have hqneg:n<0→q<0:=fun h=>by
  refine Rat.not_le.1 fun h'=>?_
  have h1:=Rat.mul_le_mul_of_nonneg_right h' (show (0:Rat)≤(d:Rat) by grind)
  have h2:(n:Rat)≤-1:=by
   have h3:=(@int_le_rat n (-1)).2 (by omega)
   rw[Rat.intCast_neg] at h3
   simpa using h3
  grind
 have hqz:n=0→q=0:=fun h=>by
  rw[h] at hq
  have:q*(d:Rat)=0:=by rw[hq];rfl
  rcases Rat.mul_eq_zero.1 this with h | h
  ·exact h
  ·grind
 unfold cmpV sgnZ sgn
 by_cases h1:0<n
 ·rw[if_pos h1]
  by_cases hz:x.m=0
  ·rw[if_pos hz]
   have:qv x=0:=qv_eq_zero.2 hz
   have:=hqpos h1
   exact⟨fun _=>by simp,fun h=>by exfalso;grind⟩
  rw[if_neg hz]
  cases hn:x.neg
  ·rw[hn] at hqx
   have hs:=magV_spec (n:=n.natAbs) (d:=d.natAbs) (m:=x.m) (e:=x.e) (q:=q) (by omega) (by omega) (by omega) (by omega) hz (by
    rw[hdN,hq,← Rat.intCast_natCast,show ((n.natAbs:Nat):Int)=n by omega])
   have e1:qv x=(x.m:Rat)*e2 x.e:=hqx
   rw[e1]
   simp
   exact hs
  rw[hn] at hqx
  have e1:qv x=-(x.m:Rat)*e2 x.e:=hqx
  have:=hxp hz
  have:=hqpos h1
  exact⟨fun _=>by simp,fun h=>by exfalso;grind⟩
 rw[if_neg h1]
 by_cases h2:n<0
 rotate_left
 ·rw[if_neg h2]
  have hq0:=hqz (by omega)
  by_cases hz:x.m=0
  ·rw[if_pos hz]
   exact⟨fun _=>by simp,fun _=>by simp⟩
  rw[if_neg hz]
  have:=hxp hz
  cases hn:x.neg
  ·rw[hn] at hqx
   have e1:qv x=(x.m:Rat)*e2 x.e:=hqx
   exact⟨fun h=>by exfalso;grind,fun _=>by simp⟩
  rw[hn] at hqx
  have e1:qv x=-(x.m:Rat)*e2 x.e:=hqx
  exact⟨fun _=>by simp,fun h=>by exfalso;grind⟩
 rw[if_pos h2]
 by_cases hz:x.m=0
 ·rw[if_pos hz]
  have:qv x=0:=qv_eq_zero.2 hz
  have:=hqneg h2
  exact⟨fun h=>by exfalso;grind,fun _=>by simp⟩
 rw[if_neg hz]
 cases hn:x.neg
 ·rw[hn] at hqx
  have e1:qv x=(x.m:Rat)*e2 x.e:=hqx
  have:=hxp hz
  have:=hqneg h2
  exact⟨fun h=>by exfalso;grind,fun _=>by simp⟩
 rw[hn] at hqx
 have hs:=magV_spec (n:=n.natAbs) (d:=d.natAbs) (m:=x.m) (e:=x.e) (q:=-q) (by omega) (by omega) (by omega) (by omega) hz (by
  rw[hdN,Rat.neg_mul,hq,← Rat.intCast_natCast,show ((n.natAbs:Nat):Int)=-n by omega,Rat.intCast_neg])
 have e1:qv x=-(x.m:Rat)*e2 x.e:=hqx
 rw[e1]
 simp
 exact⟨fun h=>by have:=hs.2 (by grind);omega,fun h=>by have:=hs.1 (by grind);omega⟩
theorem bits_at {xs:List Nat} {n:Nat} (h:Lt32 xs) (hn:n<xs.length) (hz:∀ i,n+1≤i→i<xs.length→nth xs i=0) (h0:nth xs n≠0):bits (val xs)=32*n+bits (nth xs n):=by
 have ht:=trim_top h (show n+1≤xs.length from hn) hz (fun _=>h0)
 have hlen:(limbs (val xs)).length=n+1:=by rw[← ht,List.length_take,Nat.min_eq_left hn]
 have hv:val xs≠0:=fun k=>by rw[k,limbs_zero] at hlen;cases hlen
 obtain⟨hb,_⟩:=bits_top hv
 rw[hlen,Nat.add_sub_cancel,← ht] at hb
 rw[hb]
 congr 2
 rw[nth_eq (by rw[List.length_take];omega),nth_eq hn,List.getElem_take]
theorem val_zero_of {xs:List Nat} (h:Lt32 xs) (hz:∀ i,0≤i→i<xs.length→nth xs i=0):val xs=0:=by
 have ht:=trim_top h (Nat.zero_le xs.length) hz (fun k=>absurd k (by omega))
 rw[List.take_zero] at ht
 have:=val_limbs (val xs)
 rw[← ht] at this
 exact this.symm
theorem or_one {z cy:Nat} (hc:cy≤1):Go.bits BinOp.or IntKind.u32 ((z:Int)*2 % 4294967296) (cy:Int)=(((2*z+cy) % 4294967296:Nat):Int):=by
 have e:(z:Int)*2 % 4294967296=((z*2 % 4294967296:Nat):Int):=by omega
 rw[e,u32_or_nat _ _ (by omega) (by omega),nat_join 1 _ _ (by omega) (by omega)]
 congr 1;omega
theorem or_bit {o r:Nat} (h:o/2 ^ r % 2=0):o ||| 2 ^ r=o+2 ^ r:=by
 have h1:=Nat.div_add_mod o (2 ^ r)
 have h2:=Nat.mod_lt o (two_pow_pos r)
 have h3:2 ^ (r+1)*(o/2 ^ r/2)+o % 2 ^ r=o:=by
  rw[Nat.pow_succ,Nat.mul_assoc,show 2*(o/2 ^ r/2)=o/2 ^ r by omega];exact h1
 have h4:2 ^ (r+1)*(o/2 ^ r/2) ||| o % 2 ^ r=o:=by
  rw[nat_join (r+1) _ _ (Nat.mul_mod_right _ _) (by rw[Nat.pow_succ];omega)];exact h3
 have h5:o % 2 ^ r ||| 2 ^ r=2 ^ r+o % 2 ^ r:=by
  rw[Nat.or_comm,nat_join r _ _ (Nat.mod_self _) h2]
 conv=>lhs;rw[← h4]
 rw[Nat.or_assoc,h5,nat_join (r+1) _ _ (Nat.mul_mod_right _ _) (by rw[Nat.pow_succ];omega)]
 omega
end Go.Proofs.YteidgoldnllabaaGreatDoor
