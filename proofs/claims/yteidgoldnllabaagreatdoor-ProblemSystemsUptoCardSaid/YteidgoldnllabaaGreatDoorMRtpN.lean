/-
  Walks: ref16.Tape.
-/
import Derived.Test.YteidgoldnllabaaGreatDoorMRnbN
set_option maxHeartbeats 16000000
set_option maxRecDepth 20000
namespace Go.Proofs.YteidgoldnllabaaGreatDoor
open Go.RowKit Go.Sort
theorem wpList_append_run {w:World} {ops:Array Oper} {rest:List Oper} {o:Oper} {a:Act} {Q:Exit→Act→World→Prop} (hg:o.guard=none) (s x:Operand) (t:TypeId)
  (ho:o.op=.call { callee:=.builtin .append,args:=#[s,x],argTypes:=#[t,t] }) (v1 v2:Value) (hs:a.eval s=v1) (hx:a.eval x=v2) (v':Value) (w':World)
  (hr:(Builtin.append_ #[t,t] o.type #[v1,v2]).run Tryz.prog w=.ok v' w') (h:wpList Tryz.prog ops Q rest (a.put o.dst v') w'):wpList Tryz.prog ops Q (o::rest) a w:=by
 refine wpList_plain hg fun K' hK'=>?_
 unfold Oper.wp execOp
 simp only[ho,resolve,invoke,builtin,Sem.run_bind,Sem.run_pure,Result.andThen_ok,List.map_toArray,List.map_cons,List.map_nil,hs,hx,hr]
 exact hK' _ _ h
def TapeO (w:World) (nm:List ByteArray) (T:List Opn×List Int) (r:Ending) (w':World):Prop :=
 ∃ oa oc ua uc,r=.returned (.agg #[.int .i64 (nm.length:Int),.slice oa T.1.length oc,.slice ua T.2.length uc])∧RowV Opn.cells 6 w' w'.heap.size oa T.1∧RowV numC 1 w' w'.heap.size ua T.2∧Kp w w'∧(∀ b o,oa=some ⟨b,o,none⟩→w.heap.size≤b)∧∀ b o,ua=some ⟨b,o,none⟩→w.heap.size≤b
theorem r16tape_any (l:List Ex) (a:Option Addr) (c B:Nat) (nm:List ByteArray) (na:Option Addr) (nc:Nat) (w:World) (hr:RowX w B a l) (hat:∀ x∈l,x.at w B) (hall:∀ x∈l,x.allB=true) (hsz:∀ x∈l,x.size≤200) (hl:l.length≤200) (hnm:RowS w na nm) (hnl:nm.length≤1000) :
  Calls Tryz.prog 100 #[.slice a l.length c,.slice na nm.length nc] w (TapeO w nm (tapeF nm [] l)):=by
 have k1:Kp w ((w.alloc (.cells #[.int .i64 0,.slice none 0 0,.slice none 0 0] 57)).alloc (.cells #[.int .i64 (nm.length:Int),.slice none 0 0,.slice none 0 0] 57)):=((Kp.refl w).alloc _).alloc _
 have hb4:BoxV ((w.alloc (.cells #[.int .i64 0,.slice none 0 0,.slice none 0 0] 57)).alloc (.cells #[.int .i64 (nm.length:Int),.slice none 0 0,.slice none 0 0] 57)) w.heap.size [.int .i64 0,.slice none 0 0,.slice none 0 0]:=(BoxV.new w [_,_,_] _ _ rfl).kp ((Kp.refl _).alloc _)
 have hb5:BoxV ((w.alloc (.cells #[.int .i64 0,.slice none 0 0,.slice none 0 0] 57)).alloc (.cells #[.int .i64 (nm.length:Int),.slice none 0 0,.slice none 0 0] 57)) (w.heap.size+1) [.int .i64 (nm.length:Int),.slice none 0 0,.slice none 0 0]:=BoxV.new _ [_,_,_] _ _ (by simp)
 have hsz0:((w.alloc (.cells #[.int .i64 0,.slice none 0 0,.slice none 0 0] 57)).alloc (.cells #[.int .i64 (nm.length:Int),.slice none 0 0,.slice none 0 0] 57)).heap.size=w.heap.size+1+1:=by simp only[World.size_alloc]
 have HRx:=Lib.hid hr
 have HAt:=Lib.hid hat
 have HNm:=Lib.hid hnm
 have HAl:=Lib.hid hall
 have HSi:=Lib.hid hsz
 clear hr hat hnm hall hsz
 go_enter Tryz.func100,Tryz.ntmps100
 go_upto_region 3 with fail
 generalize World.alloc _ _=W1 at *
 have HWs:=Lib.hid hsz0
 have K1:=Lib.hid k1
 have HB4:=Lib.hid hb4
 have HB5:=Lib.hid hb5
 clear hsz0 k1 hb4 hb5
 go_loopw [6] (fun z wr=>∃ (k:Nat) (oa1:Option Addr) (oc1:Nat) (ua1:Option Addr) (uc1:Nat),k≤l.length∧z=.int .i64 k∧Kp w wr∧BoxV wr w.heap.size [.int .i64 0,.slice none 0 0,.slice none 0 0]∧BoxV wr (w.heap.size+1) [.int .i64 (nm.length:Int),.slice oa1 (tapeF nm [] (l.take k)).1.length oc1,.slice ua1 (tapeF nm [] (l.take k)).2.length uc1]∧RowV Opn.cells 6 wr wr.heap.size oa1 (tapeF nm [] (l.take k)).1∧RowV numC 1 wr wr.heap.size ua1 (tapeF nm [] (l.take k)).2∧(∀ b o,oa1=some ⟨b,o,none⟩→W1.heap.size≤b)∧(∀ b o,ua1=some ⟨b,o,none⟩→W1.heap.size≤b)∧W1.heap.size≤wr.heap.size) (fun z _=>l.length-(intOf z).toNat)
 case atStart=>exact⟨0,none,0,none,0,by omega,rfl,K1.out,HB4.out,HB5.out,fun i x h=>by simp[tapeF] at h,fun i x h=>by simp[tapeF] at h,fun _ _ h=>(by cases h),fun _ _ h=>(by cases h),Nat.le_refl _⟩
 case round =>
 obtain⟨k,oa1,oc1,ua1,uc1,hkl,rfl,hKr,h4,h5,hro,hru,hlo,hlu,hWr⟩:=hrel
 have HKr:=Lib.hid hKr
 have H4:=Lib.hid h4
 have H5:=Lib.hid h5
 have HRo:=Lib.hid hro
 have HRu:=Lib.hid hru
 have HLo:=Lib.hid hlo
 have HLu:=Lib.hid hlu
 have HWr:=Lib.hid hWr
 clear hKr h4 h5 hro hru hlo hlu hWr
 by_cases hlt:k<l.length
 rotate_left
 ·have hk2:k=l.length:=by omega
  subst hk2
  rw[List.take_length] at H5 HRo HRu
  generalize tapeF nm [] l=T at *
  have b0:=H5.out.cell 0 rfl
  have b1:=H5.out.cell 1 rfl
  have b2:=H5.out.cell 2 rfl
  have kr:=Kp.refl wr
  have hR:=H4.out.kp (kr)
  have r0:=hR.cell 0 rfl
  have r1:=hR.cell 1 rfl
  have r2:=hR.cell 2 rfl
  have f0:=hR.2.1 0
  have f1:=hR.2.1 1
  have f2:=hR.2.1 2
  have HRR:=Lib.hid hR
  clear hR
  go_wp2
  generalize hW9:((World.setCell _ _ _).setCell _ _).setCell _ _=W9
  obtain⟨hF,hKw,hU⟩:=box3_set HRR.out HKr.out (Nat.le_refl _) nofun nofun nofun _ _ _ hW9
  have s0:=hF.cell 0 rfl
  have s1:=hF.cell 1 rfl
  have s2:=hF.cell 2 rfl
  refine bodyPost_ret (v:=.agg #[.int .i64 (nm.length:Int),.slice oa1 T.1.length oc1,.slice ua1 T.2.length uc1]) (by simp[results,Tryz.results100,go_sem,s0,s1,s2]) rfl ?_
  have hs9:W9.heap.size=wr.heap.size:=hU.2.2.2.2
  exact⟨oa1,oc1,ua1,uc1,rfl,(rowV_upd HRo.out hU (fun b o e=>by have:=HLo.out b o e;have:=HWs.out;omega)).up (by rw[hs9];exact Nat.le_refl _),(rowV_upd HRu.out hU (fun b o e=>by have:=HLu.out b o e;have:=HWs.out;omega)).up (by rw[hs9];exact Nat.le_refl _),hKw,fun b o e=>by have:=HLo.out b o e;have:=HWs.out;omega,fun b o e=>by have:=HLu.out b o e;have:=HWs.out;omega⟩
 obtain⟨x,hx⟩:∃ x,l[k]? = some x:=⟨_,List.getElem?_eq_getElem hlt⟩
 have hxm:=List.mem_of_getElem? hx
 obtain⟨b,o,rfl,_,j0,j1,j2,j3,j4,j5⟩:=HRx.out.kp HKr.out k x hx
 have HTk:=Lib.hid (take_snoc hx)
 have hlen:=tapeF_len nm (l.take k) [] (fun y hy=>HSi.out y (List.mem_of_mem_take hy))
 rw[List.length_take] at hlen
 simp only[List.length_nil,Nat.zero_add] at hlen
 have hlen1:(tapeF nm [] (l.take k)).1.length≤40000:=by omega
 have hlen2:(tapeF nm [] (l.take k)).2.length≤200:=by omega
 have hxs:=HSi.out x hxm
 have HIh:=Lib.hid fun W' (k':Kp wr W') (oc':Nat)=>r16num_any nm na nc ua1 (tapeF nm [] (l.take k)).2.length uc1 B hnl x W' oa1 oc' (tapeF nm [] (l.take k)).1 (HAl.out x hxm) (Ex.at_kp (HAt.out x hxm) (HKr.out.trans k')) (HNm.out.kp (HKr.out.trans k')) ((HRo.out.kp k').up k'.size) (by omega)
 generalize hTF:tapeF nm [] (l.take k)=T at *
 have HTF:=Lib.hid hTF
 clear hTF hx hlen hxm hxs
 go_upto_region 5 with fail
 go_cut [7,8] from 18 to 27 (fun t7 t8 wx=>∃ (g:Nat) (oa2:Option Addr) (oc2:Nat),t8=.int .i64 (tapN nm T.1 x).2∧t7=.pointer (some ⟨g,0,none⟩)∧wr.heap.size≤g∧BoxV wx g [.int .i64 (nm.length:Int),.slice oa2 (tapN nm T.1 x).1.length oc2,.slice ua1 T.2.length uc1]∧TapI Opn.cells 6 W1 wx oa1 T.1 oa2 (tapN nm T.1 x).1∧Kp wr wx)
 case first =>
  have kd:=(Kp.refl wr).drew
  have HSf:=Lib.hid (show ∀ w':World,Kp wr w'→(w'.cell? ⟨w.heap.size+1,0,none⟩=some (.int .i64 (nm.length:Int))∧w'.cell? ⟨w.heap.size+1,1,none⟩=some (.slice oa1 T.1.length oc1)∧w'.cell? ⟨w.heap.size+1,2,none⟩=some (.slice ua1 T.2.length uc1)∧w'.cell? ⟨b,o+k*6,none⟩=some (.int .i64 x.kind)∧w'.cell? ⟨b,o+k*6+1,none⟩=some (.int .i64 x.rn)∧w'.cell? ⟨b,o+k*6+2,none⟩=some (.int .i64 x.rd)∧w'.cell? ⟨b,o+k*6+3,none⟩=some (.string x.name)∧w'.cell? ⟨b,o+k*6+4,none⟩=some (.int .i64 x.pw)∧w'.cell? ⟨b,o+k*6+5,none⟩=some (.slice x.a x.l.length x.c)) from fun w' k'=>⟨(H5.out.kp k').cell 0 rfl,(H5.out.kp k').cell 1 rfl,(H5.out.kp k').cell 2 rfl,k'.cell j0,k'.cell j1,k'.cell j2,k'.cell j3,k'.cell j4,k'.cell j5⟩)
  have hSd:=HSf.out _ kd
  clear j0 j1 j2 j3 j4 j5
  refine wp_region_held_drew (S:=fun w'=>w'.cell? ⟨w.heap.size+1,0,none⟩=some (.int .i64 (nm.length:Int))∧w'.cell? ⟨w.heap.size+1,1,none⟩=some (.slice oa1 T.1.length oc1)∧w'.cell? ⟨w.heap.size+1,2,none⟩=some (.slice ua1 T.2.length uc1)∧w'.cell? ⟨b,o+k*6,none⟩=some (.int .i64 x.kind)∧w'.cell? ⟨b,o+k*6+1,none⟩=some (.int .i64 x.rn)∧w'.cell? ⟨b,o+k*6+2,none⟩=some (.int .i64 x.rd)∧w'.cell? ⟨b,o+k*6+3,none⟩=some (.string x.name)∧w'.cell? ⟨b,o+k*6+4,none⟩=some (.int .i64 x.pw)∧w'.cell? ⟨b,o+k*6+5,none⟩=some (.slice x.a x.l.length x.c)) (by kernel_rfl) hSd (fun hHeld=>?_)
  clear hSd
  generalize wr.drew=V at *
  refine tk 0 ?_;refine tk 1 ?_;refine tk 2 ?_;refine tk 3 ?_;refine tk 4 ?_;refine tk 5 ?_;(try simp only[aput])
  refine wpAnyH_ready (rs:=[6,10]) (by kernel_rfl) (by simp) ?_
  refine AllReadyH.cons rfl (fun K hK=>?_) (AllReadyH.cons rfl (fun K hK=>?_) AllReadyH.nil)
  ·(go_simp;go_fit (HIh.out _ kd oc1);rintro r w8 ⟨oa2,oc2,rfl,z1,k8⟩)
   have K8:=Lib.hid (kd.trans k8)
   refine hK.out _ _ (HSf.out _ K8.out) (fun hHeld=>?_)
   clear hK K
   refine tk 7 ?_;refine tk 8 ?_;refine tk 9 ?_;(try simp only[aput])
   have kz:Kp w8 (w8.alloc (.cells #[.int .i64 0,.slice none 0 0,.slice none 0 0] 57)):=(Kp.refl w8).alloc _
   have hz:BoxV (w8.alloc (.cells #[.int .i64 0,.slice none 0 0,.slice none 0 0] 57)) w8.heap.size [.int .i64 0,.slice none 0 0,.slice none 0 0]:=BoxV.new w8 [_,_,_] _ _ rfl
   refine cm 10 (fun K hK=>?_)
   go_simp
   generalize World.alloc w8 _=X8 at *
   refine hK.out _ _ (HSf.out _ (K8.out.trans kz)) (fun hHeld=>?_)
   clear hK K
   have HR8:=Lib.hid hz
   have kr:=Kp.refl X8
   have hR:=HR8.out.kp (kr)
   have r0:=hR.cell 0 rfl
   have r1:=hR.cell 1 rfl
   have r2:=hR.cell 2 rfl
   have f0:=hR.2.1 0
   have f1:=hR.2.1 1
   have f2:=hR.2.1 2
   have HRR:=Lib.hid hR
   clear hR
   refine cm 11 (fun K hK=>?_)
   go_simp
   generalize hW9:((World.setCell _ _ _).setCell _ _).setCell _ _=W9
   obtain⟨hF,hKw,hU⟩:=box3_set HRR.out (K8.out.trans kz) (show wr.heap.size≤w8.heap.size from K8.out.size) nofun nofun nofun _ _ _ hW9
   refine hK.out _ _ (HSf.out _ hKw) (fun hHeld=>?_)
   clear hK K
   refine tk 12 ?_;(try simp only[aput])
   refine wpAnyH_done (by kernel_rfl) ?_ _
   go_wp2_with fail
   go_meet
   case rel=>exact⟨w8.heap.size,oa2,oc2,rfl,rfl,K8.out.size,hF,TapI.updA ⟨z1.row,z1.fr.imp id (fun h b o e=>Nat.le_trans (Nat.le_trans HWr.out kd.size) (h b o e))⟩ kz hU (Nat.le_refl _),hKw⟩
  have kz:Kp wr (V.alloc (.cells #[.int .i64 0,.slice none 0 0,.slice none 0 0] 57)):=kd.alloc _
  have hz:BoxV (V.alloc (.cells #[.int .i64 0,.slice none 0 0,.slice none 0 0] 57)) V.heap.size [.int .i64 0,.slice none 0 0,.slice none 0 0]:=BoxV.new V [_,_,_] _ _ rfl
  have hzs:V.heap.size<(V.alloc (.cells #[.int .i64 0,.slice none 0 0,.slice none 0 0] 57)).heap.size:=hz.2.2
  go_simp
  generalize World.alloc V _=X8 at *
  refine hK.out _ _ (HSf.out _ kz) (fun hHeld=>?_)
  clear hK K
  refine cm 6 (fun K hK=>?_)
  (go_simp;go_fit (HIh.out _ kz oc1);rintro r w8 ⟨oa2,oc2,rfl,z1,k8⟩)
  refine hK.out _ _ (HSf.out _ (kz.trans k8)) (fun hHeld=>?_)
  clear hK K
  refine tk 7 ?_;refine tk 8 ?_;refine tk 9 ?_;(try simp only[aput])
  have HR8:=Lib.hid hz
  have hR:=HR8.out.kp (k8)
  have r0:=hR.cell 0 rfl
  have r1:=hR.cell 1 rfl
  have r2:=hR.cell 2 rfl
  have f0:=hR.2.1 0
  have f1:=hR.2.1 1
  have f2:=hR.2.1 2
  have HRR:=Lib.hid hR
  clear hR
  refine cm 11 (fun K hK=>?_)
  go_simp
  generalize hW9:((World.setCell _ _ _).setCell _ _).setCell _ _=W9
  obtain⟨hF,hKw,hU⟩:=box3_set HRR.out (kz.trans k8) (show wr.heap.size≤V.heap.size from kd.size) nofun nofun nofun _ _ _ hW9
  refine hK.out _ _ (HSf.out _ hKw) (fun hHeld=>?_)
  clear hK K
  refine tk 12 ?_;(try simp only[aput])
  refine wpAnyH_done (by kernel_rfl) ?_ _
  have z2:=TapI.upd z1 HRo.out hU kd.size hzs
  go_wp2_with fail
  go_meet
  case rel=>exact⟨V.heap.size,oa2,oc2,rfl,rfl,kd.size,hF,⟨z2.row,z2.fr.imp id (fun h b o e=>Nat.le_trans (Nat.le_trans HWr.out (Nat.le_trans kd.size (Nat.le_of_lt hzs))) (h b o e))⟩,hKw⟩
 case rest =>
 obtain⟨g,oa2,oc2,rfl,rfl,hg,hbg,hT2,hKx⟩:=hcut
 obtain⟨X,hX⟩:∃ X:World,X=wc:=⟨_,rfl⟩
 subst hX
 have KX:=Lib.hid (HKr.out.trans hKx)
 have X4:=Lib.hid (H4.out.kp hKx)
 have X5:=Lib.hid (H5.out.kp hKx)
 have XRu:=Lib.hid ((HRu.out.kp hKx).up hKx.size)
 have HWx:=Lib.hid (Nat.le_trans HWr.out hKx.size)
 have hRo2:=hT2.row
 have hLo2:∀ b o,oa2=some ⟨b,o,none⟩→W1.heap.size≤b:=fun b o e=>by
  rcases hT2.fr with ⟨e1,_⟩ | h
  ·exact HLo.out b o (by rw[← e1];exact e)
  ·exact h b o e
 have HG:=Lib.hid (show w.heap.size+1<g by have:=HWr.out;have:=HWs.out;omega)
 have g0:=hbg.cell 0 rfl
 have g1:=hbg.cell 1 rfl
 have g2:=hbg.cell 2 rfl
 clear hg hbg hT2 hKx HIh j0 j1 j2 j3 j4 j5
 have kX:=Kp.refl X
 have hR:=X5.out.kp (kX)
 have r0:=hR.cell 0 rfl
 have r1:=hR.cell 1 rfl
 have r2:=hR.cell 2 rfl
 have f0:=hR.2.1 0
 have f1:=hR.2.1 1
 have f2:=hR.2.1 2
 have HRR:=Lib.hid hR
 clear hR
 go_upto_region 7 with fail
 generalize hW9:((World.setCell _ _ _).setCell _ _).setCell _ _=Y
 obtain⟨hF,hKw,hU⟩:=box3_set HRR.out KX.out (show w.heap.size≤w.heap.size+1 by omega) nofun nofun nofun _ _ _ hW9
 have y4:=X4.out.upd hU (by omega)
 have hsY:Y.heap.size=X.heap.size:=hU.2.2.2.2
 have hRo3:RowV Opn.cells 6 Y Y.heap.size oa2 (tapN nm T.1 x).1:=(rowV_upd hRo2 hU (fun b o e=>by have:=hLo2 b o e;have:=HWs.out;omega)).up (by rw[hsY];exact Nat.le_refl _)
 have hRu3:RowV numC 1 Y Y.heap.size ua1 T.2:=(rowV_upd XRu.out hU (fun b o e=>by have:=HLu.out b o e;have:=HWs.out;omega)).up (by rw[hsY];exact Nat.le_refl _)
 have HYs:=Lib.hid (show W1.heap.size≤Y.heap.size by rw[hsY];exact HWx.out)
 have HY5:=Lib.hid hF
 have HY4:=Lib.hid y4
 have HKy:=Lib.hid hKw
 have HRo3:=Lib.hid hRo3
 have HRu3:=Lib.hid hRu3
 have HLo2:=Lib.hid hLo2
 clear hW9 hU r0 r1 r2 f0 f1 f2 g0 g1 g2 kX hF y4 hKw hRo2 hRo3 hRu3 hLo2 hsY
 obtain⟨i0,hi,hz0,hz1,hz2⟩:=info_parts infoInt
 have hO0:OwnV numC 1 3 Y (Y.alloc (.cells #[] 3)) (.slice (some ⟨Y.heap.size,0,none⟩) 0 0) []:=OwnV.empty _ (Kp.refl Y)
 obtain⟨d1,w6,hr6,hO6,hn6,_⟩:=app_vg num_len (by decide) num_one 55 3 55 i0 _ 8 Tryz.underlying55 hi hz0 hz1 hz2 rfl Y _ [] hO0 ⟨_,_,_,rfl,Nat.le_refl _⟩ _ ua1 uc1 T.2 (HRu3.out.kp hO0.1) (by simp only[List.length_nil];omega) (by simp only[List.length_nil];omega)
 have hl:BoxV (w6.alloc (.cells #[.int .i64 (tapN nm T.1 x).2] 3)) w6.heap.size (numC (tapN nm T.1 x).2):=BoxV.new w6 (numC (tapN nm T.1 x).2) _ _ rfl
 obtain⟨d2,w7,hr7,hO7,_,_⟩:=app_vg num_len (by decide) num_one 55 3 55 i0 _ 8 Tryz.underlying55 hi hz0 hz1 hz2 rfl Y _ ([]++T.2) (hO6.kp ((Kp.refl _).alloc (.cells #[.int .i64 (tapN nm T.1 x).2] 3))) hn6 _ (some ⟨w6.heap.size,0,none⟩) 1 [(tapN nm T.1 x).2] (rowV_box hl) (by simp only[List.nil_append,List.length_cons,List.length_nil];omega) (by simp only[List.nil_append,List.length_cons,List.length_nil];omega)
 obtain⟨ua2,uc2,rfl,hc2,hr2⟩:=OwnV.row num_len num_one hO7
 have hlu2:∀ b o,ua2=some ⟨b,o,none⟩→Y.heap.size≤b:=fun b o e=>hO7.lo b (by subst e;simp[Value.ownBlock])
 have hln:(([]++T.2)++[(tapN nm T.1 x).2]).length=T.2.length+1:=by simp
 rw[hln] at hr7
 rw[List.nil_append] at hr2
 have hF3:=HY5.out.kp hO7.1
 have l1:=hF3.cell 2 rfl
 have lf:=hF3.2.1 2
 have p2:=(HY5.out.kp hO0.1).cell 2 rfl
 have HR2:=Lib.hid hr2
 have HF3:=Lib.hid hF3
 have HLu2:=Lib.hid hlu2
 have HO7:=Lib.hid hO7.1
 clear hln hr2 hO7 hO6 hO0 hl hF3 hlu2 hn6 hc2 hi hz0 hz1 hz2
 go_upto_region 4 with (first
  | (at_builtin;refine wpList_append_run rfl _ _ _ rfl _ _ rfl rfl _ _ hr6 ?_)
  | (at_builtin;refine wpList_append_run rfl _ _ _ rfl _ _ rfl rfl _ _ hr7 ?_)
  | fail)
 clear hr6 hr7 p2
 generalize hW8:World.setCell w7 _ _=W8
 have hU8:Upd (w.heap.size+1) w7 W8:=hW8▸(Upd.refl _ w7).step l1 nofun _
 have hF8:BoxV W8 (w.heap.size+1) [.int .i64 (nm.length:Int),.slice oa2 (tapN nm T.1 x).1.length oc2,.slice ua2 (T.2.length+1) uc2]:=hW8▸HF3.out.set (by simp) _
 clear hW8 l1 lf
 have hs8:W8.heap.size=w7.heap.size:=hU8.2.2.2.2
 go_wp2
 go_roundw
 case measure=>simp only[intOf];omega
 case rel =>
 have e1:tapeF nm [] (l.take (k+1))=((tapN nm T.1 x).1,T.2++[(tapN nm T.1 x).2]):=by rw[HTk.out,tapeF_snoc,HTF.out]
 have hw7:=HO7.out.size
 refine⟨k+1,oa2,oc2,ua2,uc2,by omega,by go_num,hU8.2.2.1 _ (HKy.out.trans HO7.out) (by omega),(HY4.out.kp HO7.out).upd hU8 (by omega),?_,?_,?_,HLo2.out,fun b o e=>Nat.le_trans HYs.out (HLu2.out b o e),by rw[hs8];exact Nat.le_trans HYs.out hw7⟩ <;> rw[e1]
 ·rw[show (T.2++[(tapN nm T.1 x).2]).length=T.2.length+1 by simp]
  exact hF8
 ·exact (rowV_upd (HRo3.out.kp HO7.out) hU8 (fun b o e=>by have:=HLo2.out b o e;have:=HWs.out;omega)).up (by rw[hs8];exact hw7)
 exact (rowV_upd HR2.out hU8 (fun b o e=>by have:=HLu2.out b o e;have:=HYs.out;have:=HWs.out;omega)).up (by rw[hs8];exact Nat.le_refl _)
end Go.Proofs.YteidgoldnllabaaGreatDoor
