/-
  Walks: problem.tapeOf.
-/
import Derived.Test.YteidgoldnllabaaGreatDoorTFndN
import Derived.Test.YteidgoldnllabaaGreatDoorTNum
import Derived.Deep.DeepCutAuto
import Derived.Test.YteidgoldnllabaaGreatDoorTRCoN
set_option maxHeartbeats 8000000
set_option maxRecDepth 100000
namespace Go.Proofs.YteidgoldnllabaaGreatDoor
open Go.RowKit
open Lib (hid)
section
open Go.RowKit Go.Sort Go.Maps
theorem tapeF_snoc (nm:List ByteArray) (e:Ex):∀ (l:List Ex) (ops:List Opn),tapeF nm ops (l++[e])=((tapN nm (tapeF nm ops l).1 e).1,(tapeF nm ops l).2++[(tapN nm (tapeF nm ops l).1 e).2])
 | [],ops=>by simp[tapeF]
 | x::t,ops=>by
  rw[List.cons_append,tapeF,tapeF,tapeF_snoc nm e t]
  rfl
theorem tapeF_len (nm:List ByteArray):∀ (l:List Ex) (ops:List Opn),(∀ x∈l,x.size≤200)→(tapeF nm ops l).1.length≤ops.length+200*l.length∧(tapeF nm ops l).2.length=l.length
 | [],ops,_=>by simp[tapeF]
 | x::t,ops,h=>by
  rw[tapeF]
  have h1:=(tapN_len nm x ops).1
  have h2:=h x (by simp)
  have h3:=tapeF_len nm t (tapN nm ops x).1 (fun y hy=>h y (by simp[hy]))
  simp only[List.length_cons]
  omega
theorem take_snoc {α:Type} {l:List α} {k:Nat} {q:α} (h:l[k]? = some q):l.take (k+1)=l.take k++[q]:=by rw[List.take_add_one,h];rfl
def TapOut (w:World) (nm:List ByteArray) (T:List Opn×List Int) (r:Ending) (w':World):Prop :=
 ∃ oa oc ua uc,r=.returned (.agg #[.int .i64 (nm.length:Int),.slice oa T.1.length oc,.slice ua T.2.length uc])∧RowV Opn.cells 6 w' w'.heap.size oa T.1∧RowV numC 1 w' w'.heap.size ua T.2∧Kp w w'∧(∀ b o,oa=some ⟨b,o,none⟩→w.heap.size≤b)∧(∀ b o,ua=some ⟨b,o,none⟩→w.heap.size≤b)∧T.1.length≤oc
theorem WrX.grow {wb w w':World} {lb mb ins:Nat} {vo vu vu':Value} {ops:List Opn} {outs outs':List Int} {na:Option Addr} {nc:Nat} {nm:List ByteArray} (h:WrX wb w lb mb ins vo vu ops outs na nc nm) (ho:OwnNm wb w' vu' outs') (hg:w.grownBy w' vu.ownBlock) (hn:vu'.ownBlock=vu.ownBlock∨vu'.ownBlock=some w.heap.size) :
  WrX wb (w'.setCell ⟨lb,2,none⟩ vu') lb mb ins vo vu' ops outs' na nc nm:=by
 have nb:=ownV_far h.ub hn h.box.2.2
 have nm2:=ownV_far h.um hn h.mp.lt
 exact⟨(h.box.grown hg h.ub).set (by simp) vu',(h.oo.apart h.ap.sym hg ho.1).box h.lb0 h.ob vu',ho.box h.lb0 nb vu',h.mp.same ((Below.heap_setCell _ _ _ _ (fun e=>h.ne (show mb=lb from e).symm)).trans (hg.block mb h.mp.lt (fun e=>h.um e.symm))),h.lb0,h.mb0,h.ne,h.ob,h.om,nb,nm2,(h.ap.sym.far hn h.oo.new).sym⟩
theorem RowV.set {α:Type} {cells:α→List Value} {k:Nat} {w:World} {B:Nat} {a:Option Addr} {zs:List α} (h:RowV cells k w B a zs) {g i:Nat} (hne:∀ b o,a=some ⟨b,o,none⟩→b≠g) (y:Value):RowV cells k (w.setCell ⟨g,i,none⟩ y) B a zs:=fun j x hx=>by
 obtain⟨b,o,e,hb,hc⟩:=h j x hx
 exact⟨b,o,e,hb,fun r v hr=>by rw[cellV_ne (fun e2=>hne b o e (by injection e2 with e3;exact e3.symm))];exact hc r v hr⟩
theorem OwnV.hne {α:Type} {cells:α→List Value} {k:Nat} {T:TypeId} {wb w:World} {a:Option Addr} {n c:Nat} {zs:List α} (h:OwnV cells k T wb w (.slice a n c) zs) {g:Nat} (hg:g<wb.heap.size):∀ b o,a=some ⟨b,o,none⟩→b≠g:=fun b o e=>by
 subst e
 have:=h.lo b (by simp[Value.ownBlock])
 omega
theorem tapeOf_any (l:List Ex) (a:Option Addr) (c B:Nat) (nm:List ByteArray) (na:Option Addr) (nc:Nat) (w:World) (hr:RowX w B a l) (hat:∀ x∈l,x.at w B) (hfin:∀ x∈l,x.fin) (hsz:∀ x∈l,x.size≤200) (hl:l.length≤200) (hnm:RowS w na nm) (hnl:nm.length≤1000) :
  Calls Tryz.prog 86 #[.slice a l.length c,.slice na nm.length nc] w (TapOut w nm (tapeF nm [] l)):=by
 have hmm:=@run_makeMap Tryz.prog
 have k1:Kp w (w.alloc (.cells #[.int .i64 0,.slice none 0 0,.slice none 0 0] 57)):=(Kp.refl w).alloc _
 have hR:BoxV (w.alloc (.cells #[.int .i64 0,.slice none 0 0,.slice none 0 0] 57)) w.heap.size [.int .i64 0,.slice none 0 0,.slice none 0 0]:=BoxV.new w [_,_,_] _ _ rfl
 go_enter Tryz.func86,Tryz.ntmps86
 go_upto_region 1 with fail
 generalize w.alloc _=Wb at *
 have K1:=hid k1
 have HR:=hid hR
 have HRow:=hid (hr.kp k1)
 have HAt:=hid fun x hx=>Ex.at_kp (hat x hx) k1
 clear k1 hR hr hat
 have kW:Kp Wb ((Wb.alloc (.map #[] 0)).alloc (.cells #[.int .i64 (nm.length:Int),.slice none 0 0,.slice none 0 0,.slice na nm.length nc,.map (some Wb.heap.size)] 198)):=((Kp.refl Wb).alloc _).alloc _
 have hbx:BoxV ((Wb.alloc (.map #[] 0)).alloc (.cells #[.int .i64 (nm.length:Int),.slice none 0 0,.slice none 0 0,.slice na nm.length nc,.map (some Wb.heap.size)] 198)) (Wb.heap.size+1) [.int .i64 (nm.length:Int),.slice none 0 0,.slice none 0 0,.slice na nm.length nc,.map (some Wb.heap.size)]:=BoxV.new _ [_,_,_,_,_] _ _ (by simp)
 have hmp:MapO ((Wb.alloc (.map #[] 0)).alloc (.cells #[.int .i64 (nm.length:Int),.slice none 0 0,.slice none 0 0,.slice na nm.length nc,.map (some Wb.heap.size)] 198)) Wb.heap.size 0 nm.length []:=(MapO.made Wb nm.length).kp ((Kp.refl _).alloc _)
 go_upto_region 3 with fail
 generalize World.alloc _ _=W0 at *
 have z (b:Nat):(Value.slice none 0 0).ownBlock≠some b:=by simp[Value.ownBlock]
 have hW0:WrX Wb W0 (Wb.heap.size+1) Wb.heap.size nm.length (.slice none 0 0) (.slice none 0 0) [] [] na nc nm :=
  ⟨hbx,OwnV.nil kW,OwnV.nil kW,hmp,by omega,Nat.le_refl _,by omega,z _,z _,z _,z _,fun b h=>absurd h (z b)⟩
 have HW0:=hid hW0
 clear kW hbx hmp z hW0 hmm
 go_loopw [16] (fun x wr=>∃ (k:Nat) (vo vu:Value),k≤l.length∧x=.int .i64 k∧WrX Wb wr (Wb.heap.size+1) Wb.heap.size nm.length vo vu (tapeF nm [] (l.take k)).1 (tapeF nm [] (l.take k)).2 na nc nm) (fun x _=>l.length-(intOf x).toNat)
 case atStart=>exact⟨0,_,_,by omega,rfl,HW0.out⟩
 case round =>
 obtain⟨k,vo,vu,hk,rfl,hW⟩:=hrel
 have HW:=hid hW
 have hkw:=hW.oo.1
 by_cases hlt:k<l.length
 rotate_left
 ·have hk2:k=l.length:=by omega
  subst hk2
  rw[List.take_length] at HW
  obtain⟨oa,oc,rfl,hoc,hro⟩:=HW.out.oo.row op_len op_one
  obtain⟨ua,uc,rfl,huc,hru⟩:=HW.out.ou.row num_len num_one
  have b0:=HW.out.box.cell 0 rfl
  have b1:=HW.out.box.cell 1 rfl
  have b2:=HW.out.box.cell 2 rfl
  have hRR:=HR.out.kp HW.out.oo.1
  have r0:=hRR.cell 0 rfl
  have r1:=hRR.cell 1 rfl
  have r2:=hRR.cell 2 rfl
  have f0:=hRR.2.1 0
  have f1:=hRR.2.1 1
  have f2:=hRR.2.1 2
  have HRR:=hid hRR
  have HRo:=hid hro
  have HRu:=hid hru
  clear hW hkw hRR hro hru
  go_wp2
  have hF:=((HRR.out.set (i:=0) (by simp) (.int .i64 (nm.length:Int))).set (i:=1) (by simp) (.slice oa (tapeF nm [] l).1.length oc)).set (i:=2) (by simp) (.slice ua (tapeF nm [] l).2.length uc)
  have hK:=((((K1.out.trans HW.out.oo.1)).set (Nat.le_refl w.heap.size) (i:=0) (.int .i64 (nm.length:Int))).set (Nat.le_refl w.heap.size) (i:=1) (.slice oa (tapeF nm [] l).1.length oc)).set (Nat.le_refl w.heap.size) (i:=2) (.slice ua (tapeF nm [] l).2.length uc)
  have hgw:w.heap.size<Wb.heap.size:=HR.out.2.2
  have no:=HW.out.oo.hne hgw
  have nu:=HW.out.ou.hne hgw
  have h1:=((HRo.out.set (g:=w.heap.size) (i:=0) no (.int .i64 (nm.length:Int))).set (g:=w.heap.size) (i:=1) no (.slice oa (tapeF nm [] l).1.length oc)).set (g:=w.heap.size) (i:=2) no (.slice ua (tapeF nm [] l).2.length uc)
  have h2:=((HRu.out.set (g:=w.heap.size) (i:=0) nu (.int .i64 (nm.length:Int))).set (g:=w.heap.size) (i:=1) nu (.slice oa (tapeF nm [] l).1.length oc)).set (g:=w.heap.size) (i:=2) nu (.slice ua (tapeF nm [] l).2.length uc)
  have hsz9:wr.heap.size≤(((wr.setCell ⟨w.heap.size,0,none⟩ (.int .i64 (nm.length:Int))).setCell ⟨w.heap.size,1,none⟩ (.slice oa (tapeF nm [] l).1.length oc)).setCell ⟨w.heap.size,2,none⟩ (.slice ua (tapeF nm [] l).2.length uc)).heap.size:=by simp
  have lo:∀ b o,oa=some ⟨b,o,none⟩→w.heap.size≤b:=fun b o e=>by have:=HW.out.oo.lo b (by subst e;simp[Value.ownBlock]);omega
  have lu:∀ b o,ua=some ⟨b,o,none⟩→w.heap.size≤b:=fun b o e=>by have:=HW.out.ou.lo b (by subst e;simp[Value.ownBlock]);omega
  clear no nu
  generalize ((World.setCell _ _ _).setCell _ _).setCell _ _=W9 at *
  have s0:=hF.cell 0 rfl
  have s1:=hF.cell 1 rfl
  have s2:=hF.cell 2 rfl
  refine bodyPost_ret (v:=.agg #[.int .i64 (nm.length:Int),.slice oa (tapeF nm [] l).1.length oc,.slice ua (tapeF nm [] l).2.length uc]) (by simp[results,Tryz.results86,go_sem,s0,s1,s2]) rfl ?_
  exact⟨oa,oc,ua,uc,rfl,h1.up hsz9,h2.up hsz9,hK,lo,lu,hoc⟩
 obtain⟨x,hs⟩:∃ x,l[k]? = some x:=⟨_,List.getElem?_eq_getElem hlt⟩
 have hxm:=List.mem_of_getElem? hs
 obtain⟨b,o,ha,_,q0,q1,q2,q3,q4,q5⟩:=HRow.out.kp hkw k x hs
 have HTk:=hid (take_snoc hs)
 have hlen:=tapeF_len nm (l.take k) [] (fun y hy=>hsz y (List.mem_of_mem_take hy))
 rw[List.length_take] at hlen
 simp only[List.length_nil,Nat.zero_add] at hlen
 have hlen1:(tapeF nm [] (l.take k)).1.length≤40000:=by omega
 have hlen2:(tapeF nm [] (l.take k)).2.length≤200:=by omega
 clear hlen
 have hxs:=hsz x hxm
 obtain⟨ua,uc,rfl,huc,_⟩:=hW.ou.row num_len num_one
 have k2:Kp wr (wr.alloc (.cells #[.int .i64 x.kind,.int .i64 x.rn,.int .i64 x.rd,.string x.name,.int .i64 x.pw,.slice x.a x.l.length x.c] 71)):=(Kp.refl wr).alloc _
 have hb2:BoxV (wr.alloc (.cells #[.int .i64 x.kind,.int .i64 x.rn,.int .i64 x.rd,.string x.name,.int .i64 x.pw,.slice x.a x.l.length x.c] 71)) wr.heap.size x.cells:=BoxV.new wr x.cells _ _ rfl
 have Ha:=ha
 have HXa:=hid (HAt.out x hxm)
 have HXf:=hid (hfin x hxm)
 generalize hTF:tapeF nm [] (l.take k)=TF at *
 have HTF:=hid hTF
 clear hs hkw ha hW hTF
 rw[Ha]
 go_upto_region 5 with fail
 generalize wr.alloc _=V at *
 have kd:=(Kp.refl V).drew
 have HV:=hid (HW.out.kp (k2.trans kd))
 have HBx:=hid (hb2.kp kd)
 have hlw:wr.heap.size≠Wb.heap.size+1:=by have:=HW.out.box.2.2;omega
 have HNX:=hid (show ¬ WrB (Wb.heap.size+1) Wb.heap.size vo wr.heap.size from WrB_old HW.out (Nat.le_refl _))
 have hSd:V.drew.cell? ⟨Wb.heap.size+1,2,none⟩=some (.slice ua TF.2.length uc)∧(V.drew.cell? ⟨wr.heap.size,0,none⟩=some (.int .i64 x.kind)∧V.drew.cell? ⟨wr.heap.size,1,none⟩=some (.int .i64 x.rn)∧V.drew.cell? ⟨wr.heap.size,2,none⟩=some (.int .i64 x.rd)∧V.drew.cell? ⟨wr.heap.size,3,none⟩=some (.string x.name)∧V.drew.cell? ⟨wr.heap.size,4,none⟩=some (.int .i64 x.pw)∧V.drew.cell? ⟨wr.heap.size,5,none⟩=some (.slice x.a x.l.length x.c)) :=
  ⟨HV.out.box.cell 2 rfl,HBx.out.cell 0 rfl,HBx.out.cell 1 rfl,HBx.out.cell 2 rfl,HBx.out.cell 3 rfl,HBx.out.cell 4 rfl,HBx.out.cell 5 rfl⟩
 have HNd:=hid (wnode_any Wb (Wb.heap.size+1) Wb.heap.size (.slice ua TF.2.length uc) TF.2 na nc nm B (hnm.kp K1.out) hnl x V.drew vo TF.1 HV.out HXa.out HXf.out (by omega))
 clear q0 q1 q2 q3 q4 q5 hb2
 refine wp_region_free (by kernel_rfl) (fun hHeld=>?_)
 refine wpAnyH_tail (z:=9) (f:=9) (fun w'=>w'.cell? ⟨Wb.heap.size+1,2,none⟩=some (.slice ua TF.2.length uc)∧(w'.cell? ⟨wr.heap.size,0,none⟩=some (.int .i64 x.kind)∧w'.cell? ⟨wr.heap.size,1,none⟩=some (.int .i64 x.rn)∧w'.cell? ⟨wr.heap.size,2,none⟩=some (.int .i64 x.rd)∧w'.cell? ⟨wr.heap.size,3,none⟩=some (.string x.name)∧w'.cell? ⟨wr.heap.size,4,none⟩=some (.int .i64 x.pw)∧w'.cell? ⟨wr.heap.size,5,none⟩=some (.slice x.a x.l.length x.c))) (by kernel_rfl) (by kernel_rfl) rfl hSd (fun hHeld=>?_)
 clear hSd
 refine tk 0 ?_;refine tk 1 ?_;refine tk 2 ?_;refine tk 3 ?_;(try simp only[aput])
 refine cm 4 (fun K hK=>?_)
 (go_simp;go_fit HNd.out;rintro r w3 ⟨vo1,rfl,z1,z2,z3⟩)
 have HZ1:=hid z1
 have HBx3:=hid (HBx.out.kpX z2 HNX.out)
 clear z1 z2 z3 HNd
 refine hK.out _ _ ⟨HZ1.out.box.cell 2 rfl,HBx3.out.cell 0 rfl,HBx3.out.cell 1 rfl,HBx3.out.cell 2 rfl,HBx3.out.cell 3 rfl,HBx3.out.cell 4 rfl,HBx3.out.cell 5 rfl⟩ (fun hHeld=>?_);clear hK K
 refine cm 5 (fun K hK=>?_)
 go_simp
 generalize hTX:tapN nm TF.1 x=TX at *
 have HTX:=hid hTX
 have kA:Kp w3 (w3.alloc (.cells #[.int .i64 TX.2] 3)):=(Kp.refl _).alloc _
 have bA:BoxV (w3.alloc (.cells #[.int .i64 TX.2] 3)) w3.heap.size (numC TX.2):=BoxV.new w3 (numC TX.2) _ _ rfl
 generalize w3.alloc _=VA at *
 have HWA:=hid (HZ1.out.kp kA)
 have HBA:=hid (HBx3.out.kp kA)
 refine hK.out _ _ ⟨HWA.out.box.cell 2 rfl,HBA.out.cell 0 rfl,HBA.out.cell 1 rfl,HBA.out.cell 2 rfl,HBA.out.cell 3 rfl,HBA.out.cell 4 rfl,HBA.out.cell 5 rfl⟩ (fun hHeld=>?_)
 clear hK K
 obtain⟨i0,hi,hz0,hz1,hz2⟩:=info_parts infoInt
 have hcell:∀ (j:Nat) (u:Value),(numC TX.2)[j]? = some u→VA.cell? ((⟨w3.heap.size,0,none⟩:Addr).add j)=some u:=fun j u hj=>by
  rw[addr_add];exact bA.1 j u hj
 obtain⟨v',w5,hrun,g1,g2,_,g4⟩:=run_append_own_at (P:=Tryz.prog) VA Wb.heap.size 55 55 3 i0 _ 1 8 Tryz.underlying55 hi hz0 hz1 hz2 rfl (by decide) _ TF.2.length (TF.2.flatMap numC) HWA.out.ou.2 ⟨w3.heap.size,0,none⟩ 1 1 (numC TX.2) rfl hcell (num_one _) (by unfold maxLen;omega) (by omega) HWA.out.ou.1.size
 have hO5:OwnNm Wb w5 v' (TF.2++[TX.2]):=by
  refine⟨Below.trans HWA.out.ou.1 ((Below.refl Wb.heap.size VA).grown g2 HWA.out.ou.1.size (fun k hk=>(HWA.out.ou.2.lt k hk).1)),?_⟩
  rw[List.flatMap_append,List.length_append]
  simpa using g1
 obtain⟨a5,c5,rfl,hc5,_⟩:=hO5.row num_len num_one
 have hL5:=HWA.out.box.grown g2 HWA.out.ub
 have hB5:=HBA.out.grown g2 (fun e=>by have:=HW.out.ou.new _ e;omega)
 refine cm 6 (fun K hK=>?_)
 rw[if_pos (by kernel_rfl)]
 refine Lib.wp_append_run VA _ _ _ _ rfl _ _ rfl rfl _ w5 hrun ?_
 refine hK.out _ _ ⟨hL5.cell 2 rfl,hB5.cell 0 rfl,hB5.cell 1 rfl,hB5.cell 2 rfl,hB5.cell 3 rfl,hB5.cell 4 rfl,hB5.cell 5 rfl⟩ (fun hHeld=>?_)
 clear hK K
 refine tk 7 ?_;refine tk 8 ?_;(try simp only[aput])
 refine wpAnyH_done (by kernel_rfl) ?_ _
 refine tailQ_held (k:=1) (by kernel_rfl) (fun hHeld=>?_)
 have l1:=hL5.cell 2 rfl
 have lf:=hL5.2.1 2
 have hG:=HWA.out.grow hO5 g2 g4
 have HG:=hid hG
 clear hB5 hL5 hG
 refine cm 9 (fun K hK=>?_)
 go_simp
 refine hK.out _ _ trivial (fun hHeld=>?_)
 clear hK K
 refine wpAnyH_done (by kernel_rfl) ?_ _
 simp only[List.length_append,List.length_cons,List.length_nil,Nat.zero_add] at HG
 clear hrun g1 g2 g4 hO5 l1 lf
 go_wp2
 go_roundw
 case measure=>simp only[intOf];omega
 case rel =>
 refine⟨k+1,vo1,.slice a5 (TF.2.length+1) c5,by omega,by go_num,?_⟩
 rw[HTk.out,tapeF_snoc,HTF.out,HTX.out]
 exact HG.out
end
theorem trim_top {xs:List Nat} (h:Lt32 xs) {n:Nat} (hn:n≤xs.length) (hz:∀ i,n≤i→i<xs.length→nth xs i=0) (h0:0<n→nth xs (n-1)≠0) :
  xs.take n=limbs (val xs):=by
 rw[← val_take_zeros hn hz,limbs_val (h.take n) (top_take hn h0)]
theorem limbs_len_le {xs:List Nat} (h:Lt32 xs):(limbs (val xs)).length≤xs.length:=limbs_length_le.2 (val_lt h)
theorem trim_any (a:Option Addr) (xs:List Nat) (c:Nat) (w:World) (h:Rd w a xs) (hc:xs.length≤c) (hm:c≤maxLen) :
  Calls Tryz.prog 211 #[.slice a xs.length c] w fun e w'=>e=.returned (.slice a (limbs (val xs)).length c)∧w=w':=by
 unfold maxLen at hm
 go_enter Tryz.func211,Tryz.ntmps211
 go_wp2
 go_loop [3] (fun x=>∃ n:Nat,n≤xs.length∧x=.int .i64 n∧∀ i,n≤i→i<xs.length→nth xs i=0) (fun x=>(intOf x).toNat)
 case atStart=>exact⟨xs.length,Nat.le_refl _,rfl,fun i h1 h2=>by omega⟩
 case round =>
 obtain⟨n,hn,rfl,hz⟩:=hrel
 have Hz:=hid hz;clear hz
 by_cases h0:n=0
 ·subst h0
  go_wp2
  go_ret
  have:=trim_top h.lt32 hn Hz.out (by omega)
  rw[← this]
  exact⟨rfl,rfl⟩
 obtain⟨b,o,rfl,hcell⟩:=h.some (i:=n-1) (by omega)
 have hk:=hcell (n-1) (by omega)
 clear hcell
 by_cases hx:nth xs (n-1)=0
 rotate_left
 ·have hx2:((nth xs (n-1):Int)==0)=false:=by simp;omega
  go_wp2
  go_ret
  have:=trim_top h.lt32 hn Hz.out (fun _=>hx)
  rw[← this,List.length_take,Nat.min_eq_left hn]
  exact⟨rfl,rfl⟩
 have hx2:((nth xs (n-1):Int)==0)=true:=by simp[hx]
 have Hx:=hid hx;clear hx
 go_wp2
 go_round
 case measure=>simp[intOf];omega
 case rel =>
 refine⟨n-1,by omega,by congr 1;omega,fun i h1 h2=>?_⟩
 by_cases hi:i=n-1
 ·rw[hi];exact Hx.out
 exact Hz.out i (by omega) h2
theorem trim_exists (xs:List Nat):∃ n,n≤xs.length∧(∀ i,n≤i→i<xs.length→nth xs i=0)∧(0<n→nth xs (n-1)≠0):=by
 have key:∀ k,k≤xs.length→(∀ i,k≤i→i<xs.length→nth xs i=0)→∃ n,n≤xs.length∧(∀ i,n≤i→i<xs.length→nth xs i=0)∧(0<n→nth xs (n-1)≠0):=by
  intro k
  induction k with
  | zero=>intro h1 h2;exact⟨0,h1,h2,fun h=>absurd h (by omega)⟩
  | succ k ih =>
   intro h1 h2
   by_cases h:nth xs k=0
   ·refine ih (by omega) fun i hi hi2=>?_
    by_cases e:i=k
    ·rw[e];exact h
    ·exact h2 i (by omega) hi2
   ·exact⟨k+1,h1,h2,fun _=>h⟩
 exact key xs.length (Nat.le_refl _) fun i h1 h2=>by omega
theorem take_limbs {xs:List Nat} (h:Lt32 xs):xs.take (limbs (val xs)).length=limbs (val xs):=by
 obtain⟨n,h1,h2,h3⟩:=trim_exists xs
 have e:=trim_top h h1 h2 h3
 have:(limbs (val xs)).length=n:=by rw[← e,List.length_take,Nat.min_eq_left h1]
 rw[this];exact e
theorem Rd.limbs {w:World} {a:Option Addr} {xs:List Nat} (h:Rd w a xs):Rd w a (Go.Proofs.YteidgoldnllabaaGreatDoor.limbs (val xs)):=by
 have h0:=h.take (Go.Proofs.YteidgoldnllabaaGreatDoor.limbs (val xs)).length
 rwa [take_limbs h.lt32] at h0
def idxP (p:Nat→Bool) (n:Nat):Int:=match (List.range n).find? p with | some i=>(i:Int) | none=>-1
theorem idxP_none {p:Nat→Bool} {n:Nat} (h:∀ i,i<n→p i=false):idxP p n=-1:=by
 unfold idxP
 have:(List.range n).find? p=none:=by
  rw[List.find?_eq_none];intro i hi;rw[h i (List.mem_range.1 hi)];decide
 rw[this]
theorem idxP_some {p:Nat→Bool} {n k:Nat} (hk:k<n) (hp:p k=true) (h:∀ i,i<k→p i=false):idxP p n=k:=by
 unfold idxP
 have:(List.range n).find? p=some k:=by
  rw[List.find?_range_eq_some]
  refine⟨hp,List.mem_range.2 hk,fun j hj=>?_⟩
  rw[h j hj];decide
 rw[this]
def anyP (p:Nat→Bool) (n:Nat):Bool:=(List.range n).any p
theorem anyP_false {p:Nat→Bool} {n:Nat}:anyP p n=false↔∀ i,i<n→p i=false:=by
 unfold anyP;rw[List.any_eq_false]
 constructor
 ·intro h i hi;simpa using h i (List.mem_range.2 hi)
 intro h i hi;rw[h i (List.mem_range.1 hi)];decide
theorem anyP_true {p:Nat→Bool} {n:Nat}:anyP p n=true↔∃ i,i<n∧p i=true:=by
 unfold anyP;rw[List.any_eq_true]
 exact⟨fun ⟨i,h1,h2⟩=>⟨i,List.mem_range.1 h1,h2⟩,fun ⟨i,h1,h2⟩=>⟨i,List.mem_range.2 h1,h2⟩⟩
theorem anyP_idx (p:Nat→Bool) (n:Nat):decide (0≤idxP p n)=anyP p n:=by
 by_cases h:∀ i,i<n→p i=false
 ·rw[idxP_none h,anyP_false.2 h];decide
 have h':∃ i,i<n∧p i=true:=by
  apply Classical.byContradiction;intro hn;apply h;intro i hi
  cases hp:p i with
  | false=>rfl
  | true=>exact absurd ⟨i,hi,hp⟩ hn
 rw[anyP_true.2 h']
 unfold idxP
 split
 ·simp
 next hnone =>
 rw[List.find?_eq_none] at hnone
 obtain⟨i,hi,hp⟩:=h'
 exact absurd hp (hnone i (List.mem_range.2 hi))
def Ans (P:Program) (g:FuncId) (cap:Array Value) (w:World) (n:Nat) (ev:Nat→Value) (p:Nat→Bool):Prop :=
 Enters P g∧∀ i,i<n→∀ w1,Kp w w1→Calls P g (#[ev i]++cap) w1 fun e w2=>e=.returned (.bool (p i))∧Kp w1 w2
theorem idx_lists (a:Option Addr) (n c:Nat) (g:FuncId) (cap:Array Value) (w:World) (ev:Nat→Value) (p:Nat→Bool) (hm:n≤maxLen)
  (hev:∀ i,i<n→∃ b o,a=some ⟨b,o,none⟩∧w.cell? ⟨b,o+i,none⟩=some (ev i))
  (hp:Ans Tryz.prog g cap w n ev p) :
  Calls Tryz.prog 276 #[.slice a n c,.func (.func g) #[] cap] w fun e w'=>e=.returned (.int .i64 (idxP p n))∧Kp w w':=by
 unfold maxLen at hm
 go_enter Tryz.func276,Tryz.ntmps276
 go_wp2
 go_loopw [8] (fun x wr=>∃ k:Nat,k≤n∧x=.int .i64 k∧(∀ i,i<k→p i=false)∧Kp w wr) (fun x _=>n-(intOf x).toNat)
 case atStart=>exact⟨0,by omega,rfl,fun i h1=>by omega,.refl _⟩
 case round =>
 obtain⟨k,hk,rfl,hz,hkp⟩:=hrel
 have Hz:=hid hz;clear hz
 by_cases hlt:k<n
 rotate_left
 ·have:=idxP_none (p:=p) (n:=n) (fun i hi=>Hz.out i (by omega))
  have Hthis:=hid this;clear this
  go_wp2
  go_ret
  exact⟨by rw[Hthis.out];rfl,hkp⟩
 obtain⟨b,o,rfl,hcell⟩:=hev k hlt
 have hc1:=hkp.cell hcell
 clear hcell hev
 have hgo:∀ args w,(callFunc g args).run Tryz.prog w=.ok (.enter g args) w:=hp.1
 have hcall:=hp.2 k hlt wr hkp
 clear hp
 cases hq:p k with
 | true =>
  rw[hq] at hcall
  have Hc:=hid hcall
  have Hq:=hid hq
  clear hcall hq
  go_wp2_with (refine Hc.out.mono ?_;rintro e w2 ⟨rfl,hk2⟩)
  go_ret
  exact⟨by rw[idxP_some hlt Hq.out Hz.out];rfl,hkp.trans hk2⟩
 | false =>
 rw[hq] at hcall
 have Hc:=hid hcall
 have Hq:=hid hq
 clear hcall hq
 go_wp2_with (refine Hc.out.mono ?_;rintro e w2 ⟨rfl,hk2⟩)
 go_roundw
 case measure=>simp[intOf];omega
 case rel =>
 refine⟨k+1,by omega,by go_num,fun i hi=>?_,hkp.trans hk2⟩
 by_cases h:i=k
 ·rw[h];exact Hq.out
 exact Hz.out i (by omega)
theorem has_lists (a:Option Addr) (n c:Nat) (g:FuncId) (cap:Array Value) (w:World) (ev:Nat→Value) (p:Nat→Bool) (hm:n≤maxLen)
  (hev:∀ i,i<n→∃ b o,a=some ⟨b,o,none⟩∧w.cell? ⟨b,o+i,none⟩=some (ev i))
  (hp:Ans Tryz.prog g cap w n ev p) :
  Calls Tryz.prog 249 #[.slice a n c,.func (.func g) #[] cap] w fun e w'=>e=.returned (.bool (anyP p n))∧Kp w w':=by
 have Hc:=hid (idx_lists a n c g cap w ev p hm hev hp)
 have Ha:=hid (anyP_idx p n)
 clear hev hp hm
 go_enter Tryz.func249,Tryz.ntmps249
 go_wp2_with (refine Hc.out.mono ?_;rintro e w2 ⟨rfl,hk2⟩)
 go_ret
 exact⟨by rw[← Ha.out];rfl,hk2⟩
theorem enters149:Enters Tryz.prog 250:=fun _ _=>by kernel_rfl
theorem long1_any (a:Option Addr) (n c:Nat) (w:World) (hm:n≤maxLen) :
  Calls Tryz.prog 250 #[.slice a n c] w fun e w'=>e=.returned (.bool (decide (256<n)))∧w=w':=by
 unfold maxLen at hm
 go_enter Tryz.func250,Tryz.ntmps250
 go_wp2
 go_ret
 exact⟨ret_bool (by simp;omega),rfl⟩
def lenBig (nv:Nat→Nat) (i:Nat):Bool:=decide (256<nv i)
theorem long_any (a:Option Addr) (n c:Nat) (av:Nat→Option Addr) (nv cv:Nat→Nat) (w:World) (hm:n≤maxLen) (hn:∀ i,i<n→nv i≤maxLen)
  (hev:∀ i,i<n→∃ b o,a=some ⟨b,o,none⟩∧w.cell? ⟨b,o+i,none⟩=some (.slice (av i) (nv i) (cv i))) :
  Calls Tryz.prog 208 #[.slice a n c] w fun e w'=>e=.returned (.bool (anyP (lenBig nv) n))∧Kp w w':=by
 have Hc:=hid (has_lists a n c 250 #[] w (fun i=>.slice (av i) (nv i) (cv i)) (lenBig nv) hm hev
  ⟨enters149,fun i hi w1 _=>(long1_any (av i) (nv i) (cv i) w1 (hn i hi)).mono fun e w2 ⟨h1,h2⟩=>⟨h1,h2▸.refl _⟩⟩)
 clear hev hn hm
 go_enter Tryz.func208,Tryz.ntmps208
 go_wp2_with (refine Hc.out.mono ?_;rintro e w2 ⟨rfl,hk2⟩)
 go_ret
 exact⟨rfl,hk2⟩
theorem anyP_one (p:Nat→Bool):anyP p 1=p 0:=by unfold anyP;simp[List.range_succ]
theorem anyP_two (p:Nat→Bool):anyP p 2=(p 0||p 1):=by unfold anyP;simp[List.range_succ]
theorem clip_any (a:Option Addr) (n c:Nat) (w:World) (hn:n≤c) (_hm:c≤maxLen) :
  Calls Tryz.prog 251 #[.slice a n c] w fun e w'=>e=.returned (.slice a n n)∧w=w':=by
 go_enter Tryz.func251,Tryz.ntmps251
 go_wp2
 go_ret
 exact⟨rfl,rfl⟩
def Nat2 (w:World) (v:Nat) (f:Int) (e:Ending) (w':World):Prop :=
 ∃ a c,e=.returned (.tuple #[.slice a (limbs v).length c,.int .i64 f])∧(limbs v).length≤c∧c≤maxLen∧Rd w' a (limbs v)∧Kp w w'
theorem nat2_intro {w w':World} {v:Nat} {f:Int} {e:Ending} (a:Option Addr) (n c:Nat) (he:e=.returned (.tuple #[.slice a n c,.int .i64 f])) (hn:n=(limbs v).length) (hc:n≤c) (hm:c≤maxLen) (hr:Rd w' a (limbs v)) (hk:Kp w w'):Nat2 w v f e w':=by
 subst hn;exact⟨a,c,he,hc,hm,hr,hk⟩
theorem long_one (a:Option Addr) (n c g:Nat) (w:World) (hn:n≤256) (hcell:w.cell? ⟨g,0,none⟩=some (.slice a n c)) :
  Calls Tryz.prog 208 #[.slice (some ⟨g,0,none⟩) 1 1] w fun e w'=>e=.returned (.bool false)∧Kp w w':=by
 have h:=long_any (some ⟨g,0,none⟩) 1 1 (fun _=>a) (fun _=>n) (fun _=>c) w (by decide) (fun _ _=>by unfold maxLen;omega) (fun i hi=>⟨g,0,rfl,by rw[show i=0 by omega];exact hcell⟩)
 refine h.mono fun e w' ⟨h1,h2⟩=>⟨?_,h2⟩
 rw[h1,anyP_one]
 exact ret_bool (decide_eq_false (show ¬ 256<n by omega))
theorem long_two (a a2:Option Addr) (n c n2 c2 g:Nat) (w:World) (hn:n≤256) (hn2:n2≤256) (hcell:w.cell? ⟨g,0,none⟩=some (.slice a n c)) (hcell2:w.cell? ⟨g,1,none⟩=some (.slice a2 n2 c2)) :
  Calls Tryz.prog 208 #[.slice (some ⟨g,0,none⟩) 2 2] w fun e w'=>e=.returned (.bool false)∧Kp w w':=by
 have h:=long_any (some ⟨g,0,none⟩) 2 2 (fun i=>if i=0 then a else a2) (fun i=>if i=0 then n else n2) (fun i=>if i=0 then c else c2) w (by decide) (fun i _=>by unfold maxLen;split <;> omega) (fun i hi=>⟨g,0,rfl,by
  rcases (show i=0∨i=1 by omega) with rfl | rfl
  ·exact hcell
  ·exact hcell2⟩)
 refine h.mono fun e w' ⟨h1,h2⟩=>⟨?_,h2⟩
 rw[h1,anyP_two]
 refine ret_bool ?_
 unfold lenBig
 simp;omega
theorem done_ok (a:Option Addr) (xs:List Nat) (c:Nat) (w:World) (h:Rd w a xs) (hc:xs.length≤c) (hm:c≤maxLen) (hv:(limbs (val xs)).length≤256) :
  Calls Tryz.prog 209 #[.slice a xs.length c] w (Nat2 w (val xs) 0):=by
 have H1:=hid (trim_any a xs c w h hc hm)
 have hl:=limbs_len_le h.lt32
 have hr:=h.limbs
 generalize hn:(limbs (val xs)).length=n at *
 have Hn:=hid hn;clear hn
 go_enter Tryz.func209,Tryz.ntmps209
 go_wp2_with fail
 refine H1.out.mono ?_
 rintro e w2 ⟨rfl,rfl⟩
 go_wp2_with fail
 refine (long_one a n c _ _ hv (by simp)).mono ?_
 rintro e w3 ⟨rfl,hk⟩
 go_wp2_with fail
 refine (clip_any a n c _ (by omega) hm).mono ?_
 rintro e w4 ⟨rfl,rfl⟩
 go_wp2_with fail
 go_ret2
 have hk2:Kp w w3:=((Kp.refl w).alloc _).trans hk
 exact nat2_intro a n n rfl Hn.out.symm (Nat.le_refl _) (by omega) (hr.kp hk2) hk2
theorem ret_two32 {a b c d:Int} (h:a=c) (h2:b=d):Ending.returned (.tuple #[.int .u32 a,.int .u32 b])=.returned (.tuple #[.int .u32 c,.int .u32 d]):=by rw[h,h2]
theorem add32_any (x y c:Int) (w:World) (hx0:0≤x) (hx:x<4294967296) (hy0:0≤y) (hy:y<4294967296) (hc0:0≤c) (hc:c≤1) :
  Calls Tryz.prog 301 #[.int .u32 x,.int .u32 y,.int .u32 c] w fun e w' =>
   e=.returned (.tuple #[.int .u32 ((x+y+c) % 4294967296),.int .u32 ((x+y+c)/4294967296)])∧w=w':=by
 go_enter Tryz.func301,Tryz.ntmps301
 go_wp2
 go_ret2
 exact⟨rfl,rfl⟩
def MadeV (w:World) (v n:Nat) (e:Ending) (w':World):Prop :=
 ∃ g zs,e=.returned (.slice (some ⟨g,0,none⟩) n n)∧zs.length=n∧val zs=v∧Rd w' (some ⟨g,0,none⟩) zs∧Kp w w'
theorem add_any (a b:Option Addr) (xs ys:List Nat) (c d:Nat) (w:World) (hx:Rd w a xs) (hy:Rd w b ys) (hxl:xs.length≤1000) (hyl:ys.length≤1000) :
  Calls Tryz.prog 308 #[.slice a xs.length c,.slice b ys.length d] w (MadeV w (val xs+val ys) (max xs.length ys.length+1)):=by
 go_enter Tryz.func308,Tryz.ntmps308
 go_upto_if 14 with fail
 go_cut [0,1] (fun x y wx=>wx=w∧∃ a1 a2 xs1 xs2 c1 c2,x=.slice a1 xs1.length c1∧y=.slice a2 xs2.length c2∧Rd w a1 xs1∧Rd w a2 xs2∧xs2.length≤xs1.length∧xs1.length≤1000∧val xs1+val xs2=val xs+val ys∧max xs.length ys.length=xs1.length)
 case first =>
  go_wp2
  ·go_meet
   case rel=>exact⟨rfl,b,a,ys,xs,d,c,rfl,rfl,hy,hx,by omega,hyl,by omega,by omega⟩
  go_meet
  case rel=>exact⟨rfl,a,b,xs,ys,c,d,rfl,rfl,hx,hy,by omega,hxl,rfl,by omega⟩
 case rest =>
 obtain⟨rfl,a1,a2,xs1,ys1,c1,c2,rfl,rfl,h1,h2,hle,hl,hv,hmax⟩:=hcut
 have Hv:=hid hv
 have Hmax:=hid hmax
 clear hv hmax hx hy hxl hyl
 have hmk:=make_u32 ((xs1.length:Int)+1) (xs1.length+1) (by omega) (by omega)
 go_wp2
 clear hmk
 go_loopw [6,23] (fun cy ix wr=>∃ (k c:Nat) (zs:List Nat),k≤xs1.length∧ix=.int .i64 k∧cy=.int .u32 c∧c≤1∧zs.length=xs1.length+1∧Blk wr wc.heap.size zs∧Lt32 zs ∧
  val (zs.take k)+4294967296 ^ k*c=val (xs1.take k)+val (ys1.take k)∧Kp wc wr) (fun _ ix _=>xs1.length-(intOf ix).toNat)
 case atStart=>exact⟨0,0,_,Nat.zero_le _,rfl,rfl,by omega,by simp,Blk.made _ _,.replicate _,by simp[val],(Kp.refl _).alloc _⟩
 case round =>
 obtain⟨k,cy,zs,hk,rfl,rfl,hcy,hzl,hb,hz32,hvz,hkp⟩:=hrel
 have Hvz:=hid hvz
 have Hzl:=hid hzl
 clear hvz
 by_cases hlt:k<xs1.length
 rotate_left
 ·have hs1:=hb.cell (i:=xs1.length) (by omega)
  have hs2:=hb.frozen xs1.length
  go_wp2
  go_ret
  have hke:k=xs1.length:=by omega
  have e1:=val_set_last (c:=cy) Hzl.out
  have e2:=Hvz.out
  rw[hke,List.take_of_length_le (Nat.le_refl _),List.take_of_length_le hle,← e1,Hv.out] at e2
  exact⟨wc.heap.size,zs.set xs1.length cy,by rw[Hmax.out];rfl,by simp[Hzl.out,Hmax.out],e2,(hb.put rfl).rd (hz32.set _ _ (by omega)),hkp.set (Nat.le_refl _) _⟩
 obtain⟨b1,o1,rfl,hcx⟩:=(h1.kp hkp).some hlt
 have hx1:=hcx k hlt
 have bx:=h1.lt32.nth k
 have by':=h2.lt32.nth k
 have hs1:=hb.cell (i:=k) (by omega)
 have hs2:=hb.frozen k
 clear hcx
 by_cases hlt2:k<ys1.length
 rotate_left
 ·go_wp2_with fail
  refine (add32_any _ _ _ _ (by omega) (by omega) (by omega) (by omega) (by omega) (by omega)).mono ?_
  rintro e w2 ⟨rfl,rfl⟩
  go_wp2_with fail
  have hny:nth ys1 k=0:=nth_ge (by omega)
  go_roundw
  case measure=>simp[intOf];omega
  case rel =>
  refine⟨k+1,(nth xs1 k+nth ys1 k+cy)/4294967296,zs.set k ((nth xs1 k+nth ys1 k+cy) % 4294967296),by omega,by go_num,by congr 1;omega,by omega,by simp[Hzl.out],hb.put (by omega),hz32.set _ _ (by omega),add_step (by omega) Hvz.out,hkp.set (Nat.le_refl _) _⟩
 obtain⟨b2,o2,rfl,hcy2⟩:=(h2.kp hkp).some hlt2
 have hy1:=hcy2 k hlt2
 clear hcy2
 go_wp2_with fail
 refine (add32_any _ _ _ _ (by omega) (by omega) (by omega) (by omega) (by omega) (by omega)).mono ?_
 rintro e w2 ⟨rfl,rfl⟩
 go_wp2_with fail
 go_roundw
 case measure=>simp[intOf];omega
 case rel =>
 refine⟨k+1,(nth xs1 k+nth ys1 k+cy)/4294967296,zs.set k ((nth xs1 k+nth ys1 k+cy) % 4294967296),by omega,by go_num,by congr 1,by omega,by simp[Hzl.out],hb.put (by omega),hz32.set _ _ (by omega),add_step (by omega) Hvz.out,hkp.set (Nat.le_refl _) _⟩
theorem div_or (a b k:Nat):(a ||| b)/2 ^ k=a/2 ^ k ||| b/2 ^ k:=by
 rw[← Nat.shiftRight_eq_div_pow,← Nat.shiftRight_eq_div_pow,← Nat.shiftRight_eq_div_pow,Nat.shiftRight_or_distrib]
theorem div_and (a b k:Nat):(a &&& b)/2 ^ k=a/2 ^ k &&& b/2 ^ k:=by
 rw[← Nat.shiftRight_eq_div_pow,← Nat.shiftRight_eq_div_pow,← Nat.shiftRight_eq_div_pow,Nat.shiftRight_and_distrib]
theorem div_xor (a b k:Nat):(a ^^^ b)/2 ^ k=a/2 ^ k ^^^ b/2 ^ k:=by
 rw[← Nat.shiftRight_eq_div_pow,← Nat.shiftRight_eq_div_pow,← Nat.shiftRight_eq_div_pow,Nat.shiftRight_xor_distrib]
theorem lt_xor32 {a b:Nat} (ha:a<4294967296) (hb:b<4294967296):a ^^^ b<4294967296:=Nat.xor_lt_two_pow (n:=32) ha hb
theorem lt_and32 {a b:Nat} (hb:b<4294967296):a &&& b<4294967296:=Nat.lt_of_le_of_lt Nat.and_le_right hb
def bor (x y c:Int):Int:=if x<y+c then 1 else 0
theorem bor_val (x y c:Int):0≤bor x y c∧bor x y c≤1:=by unfold bor;split <;> omega
theorem bor_nat {x y c d:Nat} (hx:x<4294967296) (hy:y<4294967296) (hc:c≤1) (_hd:d<4294967296) (he:(d:Int)=((x:Int)-y-c) % 4294967296) :
  ((((4294967295 ^^^ x) &&& y) ||| ((4294967295 ^^^ (x ^^^ y)) &&& d))/2147483648:Nat)=if x<y+c then 1 else 0:=by
 rw[show (2147483648:Nat)=2 ^ 31 from rfl,div_or,div_and,div_and,div_xor,div_xor,div_xor]
 have ex:x/2 ^ 31=0∨x/2 ^ 31=1:=by omega
 have ey:y/2 ^ 31=0∨y/2 ^ 31=1:=by omega
 have ed:d/2 ^ 31=0∨d/2 ^ 31=1:=by omega
 have em:4294967295/2 ^ 31=1:=by decide
 rw[em]
 rcases ex with ex | ex <;> rcases ey with ey | ey <;> rcases ed with ed | ed <;> rw[ex,ey,ed] <;> simp <;> omega
theorem bor_bits (x y c d:Int) (hx0:0≤x) (hx:x<4294967296) (hy0:0≤y) (hy:y<4294967296) (hc0:0≤c) (hc:c≤1) (he:d=(x-y-c) % 4294967296) :
  Go.bits BinOp.or IntKind.u32 (Go.bits BinOp.and IntKind.u32 (Go.bits BinOp.xor IntKind.u32 IntKind.u32.max x) y)
   (Go.bits BinOp.and IntKind.u32 (Go.bits BinOp.xor IntKind.u32 IntKind.u32.max (Go.bits BinOp.xor IntKind.u32 x y)) d)/2147483648=bor x y c:=by
 obtain⟨x,rfl⟩:=Int.eq_ofNat_of_zero_le hx0
 obtain⟨y,rfl⟩:=Int.eq_ofNat_of_zero_le hy0
 obtain⟨c,rfl⟩:=Int.eq_ofNat_of_zero_le hc0
 obtain⟨d,rfl⟩:∃ n:Nat,d=n:=⟨d.toNat,by omega⟩
 have hx':x<4294967296:=by omega
 have hy':y<4294967296:=by omega
 have hd':d<4294967296:=by omega
 have em:IntKind.u32.max=((4294967295:Nat):Int):=by decide
 rw[em,u32_xor_nat _ _ (by decide) hx',u32_xor_nat _ _ hx' hy',u32_and_nat _ _ (lt_xor32 (by decide) hx') hy',
  u32_xor_nat _ _ (by decide) (lt_xor32 hx' hy'),u32_and_nat _ _ (lt_xor32 (by decide) (lt_xor32 hx' hy')) hd',
  u32_or_nat _ _ (lt_and32 hy') (lt_and32 hd')]
 have:=bor_nat (c:=c) hx' hy' (by omega) hd' he
 unfold bor
 rw[show (2147483648:Int)=((2147483648:Nat):Int) from rfl,← Int.natCast_ediv,this]
 split <;> split <;> omega
theorem sub32_any (x y c:Int) (w:World) (hx0:0≤x) (hx:x<4294967296) (hy0:0≤y) (hy:y<4294967296) (hc0:0≤c) (hc:c≤1) :
  Calls Tryz.prog 312 #[.int .u32 x,.int .u32 y,.int .u32 c] w fun e w' =>
   e=.returned (.tuple #[.int .u32 ((x-y-c) % 4294967296),.int .u32 (bor x y c)])∧w=w':=by
 have Hb:=hid (bor_bits x y c _ hx0 hx hy0 hy hc0 hc rfl)
 go_enter Tryz.func312,Tryz.ntmps312
 go_wp2
 all_goals go_ret2
 all_goals exact⟨ret_two32 rfl Hb.out,rfl⟩
theorem bor_eq {x y c:Nat} {z:Nat} (hx:x<4294967296) (hy:y<4294967296) (hc:c≤1) (hz:(z:Int)=((x:Int)-y-c) % 4294967296):z+y+c=x+4294967296*(bor x y c).toNat:=by
 unfold bor;split <;> omega
theorem sub_any (a b:Option Addr) (xs ys:List Nat) (c d:Nat) (w:World) (hx:Rd w a xs) (hy:Rd w b ys) (hxl:xs.length≤1000) (hxc:xs.length≤c) (hyc:ys.length≤d) (hc:c≤maxLen) (hd:d≤maxLen) (hle:val ys≤val xs) :
  Calls Tryz.prog 309 #[.slice a xs.length c,.slice b ys.length d] w (MadeV w (val xs-val ys) (limbs (val xs)).length):=by
 have H1:=hid (trim_any a xs c w hx hxc hc)
 have H2:=hid (trim_any b ys d w hy hyc hd)
 have h1:=hx.limbs
 have h2:=hy.limbs
 have hl1:=limbs_len_le hx.lt32
 have hl2:(limbs (val ys)).length≤(limbs (val xs)).length:=limbs_length_le.2 (Nat.lt_of_le_of_lt hle (by have:=val_lt (limbs_lt32 (val xs));rwa [val_limbs] at this))
 have hv1:=val_limbs (val xs)
 have hv2:=val_limbs (val ys)
 have Hle:=hid hle
 go_enter Tryz.func309,Tryz.ntmps309
 go_wp2_with fail
 refine H1.out.mono ?_
 rintro e w2 ⟨rfl,rfl⟩
 go_wp2_with fail
 refine H2.out.mono ?_
 rintro e w2 ⟨rfl,rfl⟩
 clear H1 H2 hx hy hle hc hd hxc hyc
 generalize limbs (val xs)=us at *
 generalize limbs (val ys)=vs at *
 have Hv1:=hid hv1
 have Hv2:=hid hv2
 clear hv1 hv2
 have hmk:=make_u32 (us.length:Int) us.length rfl (by omega)
 go_wp2
 clear hmk
 go_loopw [6,19] (fun cy ix wr=>∃ (k c:Nat) (zs:List Nat),k≤us.length∧ix=.int .i64 k∧cy=.int .u32 c∧c≤1∧zs.length=us.length∧Blk wr w.heap.size zs∧Lt32 zs ∧
   val (zs.take k)+val (vs.take k)=val (us.take k)+4294967296 ^ k*c∧Kp w wr) (fun _ ix _=>us.length-(intOf ix).toNat)
 case atStart=>exact⟨0,0,_,Nat.zero_le _,rfl,rfl,by omega,by simp,Blk.made _ _,.replicate _,by simp[val],(Kp.refl _).alloc _⟩
 case round =>
 obtain⟨k,cy,zs,hk,rfl,rfl,hcy,hzl,hb,hz32,hvz,hkp⟩:=hrel
 have Hvz:=hid hvz
 have Hzl:=hid hzl
 clear hvz
 by_cases hlt:k<us.length
 rotate_left
 ·go_wp2
  go_ret
  have hke:k=us.length:=by omega
  have e2:=Hvz.out
  rw[hke,List.take_of_length_le (Nat.le_refl _),List.take_of_length_le hl2,List.take_of_length_le (by omega),Hv1.out,Hv2.out] at e2
  have e3:=val_lt hz32
  rw[Hzl.out] at e3
  have e4:=Hle.out
  have hc0:cy=0:=by
   rcases (show cy=0∨cy=1 by omega) with h | h
   ·exact h
   ·subst h;omega
  subst hc0
  exact⟨w.heap.size,zs,rfl,Hzl.out,by omega,hb.rd hz32,hkp⟩
 obtain⟨b1,o1,rfl,hcx⟩:=(h1.kp hkp).some hlt
 have hx1:=hcx k hlt
 have bx:=h1.lt32.nth k
 have by':=h2.lt32.nth k
 have hs1:=hb.cell (i:=k) (by omega)
 have hs2:=hb.frozen k
 have hbv:=bor_val (nth us k) (nth vs k) cy
 have Heq:=hid (fun z h=>bor_eq (z:=z) bx by' hcy h)
 clear hcx
 by_cases hlt2:k<vs.length
 ·obtain⟨b2,o2,rfl,hcy2⟩:=(h2.kp hkp).some hlt2
  have hy1:=hcy2 k hlt2
  clear hcy2
  go_wp2_with fail
  refine (sub32_any _ _ _ _ (by omega) (by omega) (by omega) (by omega) (by omega) (by omega)).mono ?_
  rintro e w2 ⟨rfl,rfl⟩
  go_wp2_with fail
  go_roundw
  case measure=>simp[intOf];omega
  case rel =>
  refine⟨k+1,(bor (nth us k) (nth vs k) cy).toNat,zs.set k (((nth us k:Int)-nth vs k-cy) % 4294967296).toNat,by omega,by go_num,by congr 1;omega,by omega,by simp[Hzl.out],hb.put (by omega),hz32.set _ _ (by omega),sub_step (by omega) Hvz.out (Heq.out _ (by omega)),hkp.set (Nat.le_refl _) _⟩
 have hny:nth vs k=0:=nth_ge (by omega)
 have Hny:=hid hny
 clear hny
 have hbv:=bor_val (nth us k) 0 cy
 go_wp2_with fail
 refine (sub32_any _ _ _ _ (by omega) (by omega) (by omega) (by omega) (by omega) (by omega)).mono ?_
 rintro e w2 ⟨rfl,rfl⟩
 go_wp2_with fail
 go_roundw
 case measure=>simp[intOf];omega
 case rel =>
 have hny:=Hny.out
 refine⟨k+1,(bor (nth us k) (nth vs k) cy).toNat,zs.set k (((nth us k:Int)-nth vs k-cy) % 4294967296).toNat,by omega,by go_num,by rw[hny];congr 1;simp;omega,by omega,by simp[Hzl.out],hb.put (by rw[hny];simp;omega),hz32.set _ _ (by omega),sub_step (by omega) Hvz.out (Heq.out _ (by omega)),hkp.set (Nat.le_refl _) _⟩
theorem mul_step {zs:List Nat} {j s c V W x y:Nat} (hj:j<zs.length) (h:val zs+4294967296 ^ j*c=V+W) (hs:s=x*y+nth zs j+c) :
  val (zs.set j (s % 4294967296))+4294967296 ^ (j+1)*(s/4294967296)=V+(W+4294967296 ^ j*(x*y)):=by
 have h1:=val_set (x:=s % 4294967296) hj
 rw[Nat.pow_succ,Nat.mul_assoc]
 generalize 4294967296 ^ j=P at *
 have e:P*(s % 4294967296)+P*(4294967296*(s/4294967296))=P*s:=by
  rw[← Nat.mul_add];congr 1;omega
 have e2:P*s=P*(x*y)+P*nth zs j+P*c:=by rw[hs,Nat.mul_add,Nat.mul_add]
 omega
theorem mul_last {zs:List Nat} {j c V W:Nat} (hj:j<zs.length) (h0:nth zs j=0) (h:val zs+4294967296 ^ j*c=V+W):val (zs.set j c)=V+W:=by
 have h1:=val_set (x:=c) hj
 rw[h0] at h1
 omega
theorem prodN {x y:Nat} (hx:x<4294967296) (hy:y<4294967296):x*y≤18446744065119617025:=Nat.mul_le_mul (show x≤4294967295 by omega) (show y≤4294967295 by omega)
theorem cast_div3 (x y z c:Nat):((x:Int)*y+z+c)/4294967296=(((x*y+z+c)/4294967296:Nat):Int):=by
 rw[Int.natCast_ediv,Int.natCast_add,Int.natCast_add,Int.natCast_mul];rfl
theorem cast_mod3 (x y z c:Nat):((x:Int)*y+z+c) % 4294967296=(((x*y+z+c) % 4294967296:Nat):Int):=by
 rw[Int.natCast_emod,Int.natCast_add,Int.natCast_add,Int.natCast_mul];rfl
theorem prod32 {x y:Nat} (hx:x<4294967296) (hy:y<4294967296):(x:Int)*y≤18446744065119617025:=by
 have:x*y≤4294967295*4294967295:=Nat.mul_le_mul (by omega) (by omega)
 have:((x*y:Nat):Int)≤((4294967295*4294967295:Nat):Int):=by exact_mod_cast this
 simpa using this
theorem mul_any (a b:Option Addr) (xs ys:List Nat) (c d:Nat) (w:World) (hx:Rd w a xs) (hy:Rd w b ys) (hxl:xs.length≤1000) (hyl:ys.length≤1000) :
  Calls Tryz.prog 210 #[.slice a xs.length c,.slice b ys.length d] w (MadeV w (val xs*val ys) (xs.length+ys.length)):=by
 go_enter Tryz.func210,Tryz.ntmps210
 have hmk:=make_u32 ((xs.length:Int)+ys.length) (xs.length+ys.length) (by omega) (by omega)
 go_wp2
 clear hmk
 go_loopw [20] (fun ix wr=>∃ (i:Nat) (zs:List Nat),i≤xs.length∧ix=.int .i64 i∧zs.length=xs.length+ys.length∧Blk wr w.heap.size zs∧Lt32 zs ∧
   val zs=val (xs.take i)*val ys∧(∀ j,i+ys.length≤j→nth zs j=0)∧Kp w wr) (fun ix _=>xs.length-(intOf ix).toNat)
 case atStart=>exact⟨0,_,Nat.zero_le _,rfl,by simp,Blk.made _ _,.replicate _,by simp[val,val_replicate],fun j _=>nth_replicate _ _,(Kp.refl _).alloc _⟩
 case round =>
 obtain⟨i,zs,hi,rfl,hzl,hb,hz32,hvz,hzero,hkp⟩:=hrel
 have Hvz:=hid hvz
 have Hzl:=hid hzl
 have Hzero:=hid hzero
 clear hvz hzero
 by_cases hlt:i<xs.length
 rotate_left
 ·go_wp2
  go_ret
  have hke:i=xs.length:=by omega
  have e2:=Hvz.out
  rw[hke,List.take_of_length_le (Nat.le_refl _)] at e2
  exact⟨w.heap.size,zs,rfl,Hzl.out,e2,hb.rd hz32,hkp⟩
 obtain⟨b1,o1,rfl,hcx⟩:=(hx.kp hkp).some hlt
 have hx1:=hcx i hlt
 have bx:=hx.lt32.nth i
 clear hcx
 go_wp2
 obtain⟨wo,hwo⟩:∃ wo:World,wo=wr:=⟨_,rfl⟩
 subst hwo
 go_loopw [8,27] (fun cy ix wr=>∃ (k c:Nat) (us:List Nat),k≤ys.length∧ix=.int .i64 k∧cy=.int .u64 c∧c<4294967296∧us.length=xs.length+ys.length∧Blk wr w.heap.size us∧Lt32 us ∧
  val us+4294967296 ^ (i+k)*c=val zs+4294967296 ^ i*(nth xs i*val (ys.take k))∧(∀ j,i+ys.length≤j→nth us j=0)∧Kp w wr) (fun _ ix _=>ys.length-(intOf ix).toNat)
 case atStart=>exact⟨0,0,zs,Nat.zero_le _,rfl,rfl,by omega,Hzl.out,hb,hz32,by simp[val],Hzero.out,hkp⟩
 case round =>
 obtain⟨k,cy,us,hk,rfl,rfl,hcy,hul,hb,hu32,hvu,huz,hkp⟩:=hrel
 have Hvu:=hid hvu
 have Hul:=hid hul
 have Huz:=hid huz
 clear hvu huz
 by_cases hlt2:k<ys.length
 rotate_left
 ·have hke:k=ys.length:=by omega
  have hs1:=hb.cell (i:=i+ys.length) (by omega)
  have hs2:=hb.frozen (i+ys.length)
  have Hlast:=hid (mul_last (zs:=us) (j:=i+ys.length) (c:=cy) (V:=val zs) (W:=4294967296 ^ i*(nth xs i*val (ys.take k))) (by omega) (Huz.out _ (Nat.le_refl _)) (by have:=Hvu.out;rwa [hke] at this ⊢))
  have Hke:=hid hke
  clear hke
  go_wp2
  go_roundw
  case measure=>simp[intOf];omega
  case rel =>
  refine⟨i+1,us.set (i+ys.length) cy,by omega,by go_num,by simp[Hul.out],hb.put (by omega),hu32.set _ _ hcy,?_,fun j hj=>?_,hkp.set (Nat.le_refl _) _⟩
  ·rw[Hlast.out,Hvz.out,Hke.out,List.take_of_length_le (Nat.le_refl _),val_take_step xs,Nat.add_mul,Nat.mul_assoc]
  rw[nth_set_ne (by omega)];exact Huz.out j (by omega)
 obtain⟨b2,o2,rfl,hcy2⟩:=(hy.kp hkp).some hlt2
 have hy1:=hcy2 k hlt2
 have by':=hy.lt32.nth k
 have bu:=hu32.nth (i+k)
 have hs1:=hb.cell (i:=i+k) (by omega)
 have hs2:=hb.frozen (i+k)
 have hp1:=prod32 bx by'
 have hp0:0≤(nth xs i:Int)*nth ys k:=Int.mul_nonneg (by omega) (by omega)
 clear hcy2
 have hq1:=prodN bx by'
 have Hst:=hid (mul_step (zs:=us) (j:=i+k) (x:=nth xs i) (y:=nth ys k) (by omega) Hvu.out rfl)
 go_wp2
 go_roundw
 case measure=>simp[intOf];omega
 case rel =>
 refine⟨k+1,(nth xs i*nth ys k+nth us (i+k)+cy)/4294967296,us.set (i+k) ((nth xs i*nth ys k+nth us (i+k)+cy) % 4294967296),by omega,by go_num,by rw[cast_div3],by omega,by simp[Hul.out],hb.put (cast_mod3 _ _ _ _),hu32.set _ _ (by omega),?_,fun j hj=>?_,hkp.set (Nat.le_refl _) _⟩
 ·rw[show i+(k+1)=i+k+1 from by omega,Hst.out,val_take_step ys,Nat.mul_add,Nat.mul_add,Nat.pow_add]
  congr 2
  rw[Nat.mul_assoc,Nat.mul_left_comm (nth xs i)]
 rw[nth_set_ne (by omega)];exact Huz.out j hj
theorem limbs_snoc {n:Nat} (h:n≠0):∃ us x,limbs n=us++[x]∧x≠0∧x<4294967296∧Lt32 us∧bits n=32*us.length+bits x∧nth (limbs n) us.length=x:=by
 have h1:limbs n≠[]:=by rw[Ne,limbs_eq_nil];exact h
 obtain⟨us,x,e⟩:∃ us x,limbs n=us++[x]:=⟨_,_,(List.dropLast_concat_getLast h1).symm⟩
 have h2:=limbs_top n
 have h3:=limbs_lt32 n
 rw[e] at h2 h3
 have hx:x≠0:=by intro h0;subst h0;unfold Top at h2;simp at h2
 have h4:Lt32 us:=fun y hy=>h3 y (List.mem_append_left _ hy)
 refine⟨us,x,e,hx,h3 x (by simp),h4,?_,?_⟩
 ·rw[← bits_val_snoc h4 hx,← e,val_limbs]
 rw[e,nth_append_right (Nat.le_refl _),Nat.sub_self];rfl
theorem bits_any (a:Option Addr) (xs:List Nat) (c:Nat) (w:World) (h:Rd w a xs) (hc:xs.length≤c) (hm:c≤maxLen) (hl:xs.length≤1100000) :
  Calls Tryz.prog 244 #[.slice a xs.length c] w fun e w'=>e=.returned (.int .i64 (bits (val xs)))∧w=w':=by
 have H1:=hid (trim_any a xs c w h hc hm)
 have hll:=limbs_len_le h.lt32
 have hr:=h.limbs
 by_cases h0:val xs=0
 ·have hn:(limbs (val xs)).length=0:=by rw[h0,limbs_zero];rfl
  have Hz:=hid h0
  clear h0
  rw[hn] at H1
  clear hn
  go_enter Tryz.func244,Tryz.ntmps244
  go_wp2_with fail
  refine H1.out.mono ?_
  rintro e w2 ⟨rfl,rfl⟩
  go_wp2_with fail
  go_ret
  exact⟨ret_int (by rw[Hz.out];rfl),rfl⟩
 obtain⟨us,x,e,hx0,hx,hus,hb,hnth⟩:=limbs_snoc h0
 obtain⟨b,o,rfl,hcell⟩:=hr.some (i:=us.length) (by rw[e];simp)
 have hk:=hcell us.length (by rw[e];simp)
 have hlen:(limbs (val xs)).length=us.length+1:=by rw[e];simp
 rw[hlen] at H1 hll
 rw[hnth] at hk
 have Hb:=hid hb
 have hbx:bits x≤32:=bits_le.2 hx
 clear hb hcell hlen hnth e hr h h0
 go_enter Tryz.func244,Tryz.ntmps244
 go_wp2_with fail
 refine H1.out.mono ?_
 rintro e w2 ⟨rfl,rfl⟩
 go_wp2_with fail
 refine (len32_any x _ hx).mono ?_
 rintro e w2 ⟨rfl,rfl⟩
 go_wp2_with fail
 go_ret
 exact⟨ret_int (by rw[Hb.out];omega),rfl⟩
def cmpN (m n:Nat):Int:=if m<n then -1 else if m=n then 0 else 1
theorem cmpN_lt {m n:Nat} (h:m<n):cmpN m n=-1:=by unfold cmpN;rw[if_pos h]
theorem cmpN_gt {m n:Nat} (h:n<m):cmpN m n=1:=by unfold cmpN;rw[if_neg (by omega),if_neg (by omega)]
theorem cmpN_eq {m n:Nat} (h:m=n):cmpN m n=0:=by unfold cmpN;rw[if_neg (by omega),if_pos h]
theorem limbs_length_mono {m n:Nat} (h:m≤n):(limbs m).length≤(limbs n).length :=
 limbs_length_le.2 (Nat.lt_of_le_of_lt h (by have:=val_lt (limbs_lt32 n);rwa [val_limbs] at this))
theorem lt_of_limbs_length {m n:Nat} (h:(limbs m).length<(limbs n).length):m<n:=by
 apply Classical.byContradiction;intro hn
 have:=limbs_length_mono (show n≤m by omega);omega
theorem val_lt_of_top {us vs:List Nat} {k:Nat} (hl:us.length=vs.length) (hk:k<us.length) (hu:Lt32 us) (hd:us.drop (k+1)=vs.drop (k+1)) (h:nth us k<nth vs k):val us<val vs:=by
 have e1:=val_take_drop us k (by omega)
 have e2:=val_take_drop vs k (by omega)
 rw[drop_eq_nth hk,val_cons] at e1
 rw[drop_eq_nth (by omega),val_cons,← hd] at e2
 have b1:=val_lt (hu.take k)
 rw[List.length_take,Nat.min_eq_left (by omega)] at b1
 generalize 4294967296 ^ k=P at *
 generalize val (us.drop (k+1))=D at *
 have e3:P*(nth us k+1+4294967296*D)≤P*(nth vs k+4294967296*D):=Nat.mul_le_mul_left _ (by omega)
 have e4:P*(nth us k+1+4294967296*D)=P*(nth us k+4294967296*D)+P:=by rw[show nth us k+1+4294967296*D=nth us k+4294967296*D+1 from by omega,Nat.mul_add,Nat.mul_one]
 omega
theorem cmp_any (a b:Option Addr) (xs ys:List Nat) (c d:Nat) (w:World) (hx:Rd w a xs) (hy:Rd w b ys) (hxc:xs.length≤c) (hyc:ys.length≤d) (hc:c≤maxLen) (hd:d≤maxLen) :
  Calls Tryz.prog 173 #[.slice a xs.length c,.slice b ys.length d] w fun e w'=>e=.returned (.int .i64 (cmpN (val xs) (val ys)))∧Kp w w':=by
 have H1:=hid (trim_any a xs c w hx hxc hc)
 have H2:=hid (trim_any b ys d w hy hyc hd)
 have h1:=hx.limbs
 have h2:=hy.limbs
 have hl1:=limbs_len_le hx.lt32
 have hl2:=limbs_len_le hy.lt32
 have Hv1:=hid (val_limbs (val xs))
 have Hv2:=hid (val_limbs (val ys))
 have Hlt:=hid (@lt_of_limbs_length (val xs) (val ys))
 have Hgt:=hid (@lt_of_limbs_length (val ys) (val xs))
 unfold maxLen at hc hd
 go_enter Tryz.func173,Tryz.ntmps173
 go_wp2_with fail
 refine H1.out.mono ?_
 rintro e w2 ⟨rfl,rfl⟩
 go_wp2_with fail
 refine H2.out.mono ?_
 rintro e w2 ⟨rfl,rfl⟩
 clear H1 H2 hx hy
 generalize limbs (val xs)=us at *
 generalize limbs (val ys)=vs at *
 rcases Nat.lt_trichotomy us.length vs.length with hlen | hlen | hlen
 ·have hne:((us.length:Int) != vs.length)=true:=by simp;omega
  go_wp2_with fail
  go_ret
  exact⟨ret_int (cmpN_lt (Hlt.out hlen)).symm,.refl _⟩
 ·have hne:((us.length:Int) != vs.length)=false:=by simp;omega
  have Hlen:=hid hlen
  have hle1:us.length≤vs.length:=by omega
  have hle2:vs.length≤us.length:=by omega
  clear hlen
  go_wp2_with fail
  go_loopw [5] (fun ix wr=>∃ k:Nat,k≤us.length∧ix=.int .i64 ((k:Int)-1)∧us.drop k=vs.drop k∧Kp w wr) (fun ix _=>(intOf ix+1).toNat)
  case atStart=>exact⟨us.length,Nat.le_refl _,rfl,by rw[List.drop_of_length_le (Nat.le_refl _),List.drop_of_length_le (by omega)],.refl _⟩
  case round =>
  obtain⟨k,hk,rfl,hdrop,hkp⟩:=hrel
  have Hdrop:=hid hdrop
  clear hdrop
  rcases k with _ | j
  ·rw[show (((0:Nat):Int)-1)=-1 from rfl]
   go_wp2_with fail
   go_ret
   have:us=vs:=by have:=Hdrop.out;rwa [List.drop_zero,List.drop_zero] at this
   exact⟨ret_int (cmpN_eq (by rw[← Hv1.out,← Hv2.out,this])).symm,hkp⟩
  rw[show (((j+1:Nat):Int)-1)=(j:Int) from by omega]
  obtain⟨b1,o1,rfl,hcx⟩:=(h1.kp hkp).some (i:=j) (by omega)
  have hx1:=hcx j (by omega)
  obtain⟨b2,o2,rfl,hcy⟩:=(h2.kp hkp).some (i:=j) (by omega)
  have hy1:=hcy j (by omega)
  clear hcx hcy
  have bx:=h1.lt32.nth j
  have by':=h2.lt32.nth j
  rcases Nat.lt_trichotomy (nth us j) (nth vs j) with hd1 | hd1 | hd1
  ·have Hr:=hid (val_lt_of_top Hlen.out (by omega) h1.lt32 Hdrop.out hd1)
   go_wp2_with fail
   go_quiet (fail)
   go_wp2_with fail
   go_ret
   exact⟨ret_int (cmpN_lt (by have:=Hr.out;rwa [Hv1.out,Hv2.out] at this)).symm,by first | exact hkp.drewN _ | exact (hkp.drewN _).drewN _⟩
  ·have hd2:¬ nth us j<nth vs j:=by omega
   have hd3:¬ nth vs j<nth us j:=by omega
   have Hd1:=hid hd1
   clear hd1
   go_wp2_with fail
   go_quiet (fail)
   go_wp2_with fail
   go_quiet (fail)
   go_wp2_with fail
   go_roundw
   case measure=>simp[intOf]
   case rel =>
   refine⟨j,by omega,rfl,?_,hkp.drewN _⟩
   rw[drop_eq_nth (show j<us.length by omega),drop_eq_nth (show j<vs.length by omega),Hdrop.out,Hd1.out]
  have hd2:¬ nth us j<nth vs j:=by omega
  have Hr:=hid (val_lt_of_top (us:=vs) (vs:=us) (k:=j) Hlen.out.symm (by omega) h2.lt32 Hdrop.out.symm hd1)
  go_wp2_with fail
  go_quiet (fail)
  go_wp2_with fail
  go_quiet (fail)
  go_wp2_with fail
  go_ret
  exact⟨ret_int (cmpN_gt (by have:=Hr.out;rwa [Hv1.out,Hv2.out] at this)).symm,by first | exact hkp.drewN _ | exact (hkp.drewN _).drewN _⟩
 have hne:((us.length:Int) != vs.length)=true:=by simp;omega
 go_wp2_with fail
 go_ret
 exact⟨ret_int (cmpN_gt (Hgt.out hlen)).symm,.refl _⟩
section
theorem two_pow_pos (n:Nat):0<2 ^ n:=Nat.pow_pos (by decide)
theorem two_pow_ne (n:Nat):2 ^ n≠0:=Nat.ne_of_gt (two_pow_pos n)
def runit (m:Nat) (e:Int) (p:Nat):Int:=max (e+bits m-p) (-16384)
def rlow (m:Nat) (e u:Int):Nat:=if u≤e then m*2 ^ (e-u).toNat else m/2 ^ (u-e).toNat
def rlost (m:Nat) (e u:Int):Bool:=!decide (u≤e)&&!decide (m % 2 ^ (u-e).toNat=0)
def rq (m:Nat) (e:Int) (more:Bool) (p:Nat) (up:Bool):Nat :=
 if up&&(more||rlost m e (runit m e p)) then rlow m e (runit m e p)+1 else rlow m e (runit m e p)
def rcut (m:Nat) (e:Int) (more:Bool) (p:Nat) (up:Bool):Option Dy :=
 if (bits (rq m e more p up):Int)+runit m e p > 16384 then
  (if up then none else some (canon false (2 ^ p-1) (16384-p)))
 else some (canon false (rq m e more p up) (runit m e p))
theorem bits_div {n j:Nat} (h:n/2 ^ j≠0):bits n=bits (n/2 ^ j)+j:=by
 apply bits_unique
 ·have h1:=lt_two_pow_bits (n/2 ^ j)
  rw[Nat.pow_add]
  exact (Nat.div_lt_iff_lt_mul (two_pow_pos j)).1 h1
 right
 have h1:=two_pow_le_of_bits h
 have h2:=bits_pos h
 rw[show bits (n/2 ^ j)+j-1=(bits (n/2 ^ j)-1)+j from by omega,Nat.pow_add]
 exact (Nat.le_div_iff_mul_le (two_pow_pos j)).1 h1
theorem mod_pow_add (n i j:Nat):(n % 2 ^ (i+j)=0)↔(n % 2 ^ j=0∧n/2 ^ j % 2 ^ i=0):=by
 have e:n % 2 ^ (i+j)=n % 2 ^ j+2 ^ j*(n/2 ^ j % 2 ^ i):=by
  rw[Nat.add_comm i j,Nat.pow_add,Nat.mod_mul]
 have:=two_pow_pos j
 constructor
 ·intro h
  rw[h] at e
  have h2:2 ^ j*(n/2 ^ j % 2 ^ i)=0:=by omega
  rcases Nat.mul_eq_zero.1 h2 with h3 | h3
  ·exact absurd h3 (two_pow_ne j)
  exact⟨by omega,h3⟩
 rintro ⟨h1,h2⟩;rw[e,h1,h2];simp
theorem rlow_lt {m:Nat} {e:Int} {p:Nat}:rlow m e (runit m e p)<2 ^ p:=by
 by_cases h0:m=0
 ·subst h0;unfold rlow;split <;> simp[two_pow_pos]
 have hb:=lt_two_pow_bits m
 unfold rlow
 split
 ·next h =>
  unfold runit at h ⊢
  calc m*2 ^ (e-max (e + ↑(bits m) - ↑p) (-16384)).toNat<2 ^ bits m*2 ^ (e-max (e + ↑(bits m) - ↑p) (-16384)).toNat:=Nat.mul_lt_mul_of_pos_right hb (two_pow_pos _)
   _=2 ^ (bits m+(e-max (e + ↑(bits m) - ↑p) (-16384)).toNat):=by rw[Nat.pow_add]
   _≤2 ^ p:=Nat.pow_le_pow_right (by decide) (by omega)
 next h =>
 unfold runit at h ⊢
 rw[Nat.div_lt_iff_lt_mul (two_pow_pos _),← Nat.pow_add]
 exact Nat.lt_of_lt_of_le hb (Nat.pow_le_pow_right (by decide) (by omega))
theorem rq_le {m:Nat} {e:Int} {more:Bool} {p:Nat} {up:Bool}:rq m e more p up≤2 ^ p:=by
 have:=@rlow_lt m e p
 unfold rq;split <;> omega
theorem bits_two_pow (p:Nat):bits (2 ^ p)=p+1:=by
 apply bits_unique
 ·exact Nat.pow_lt_pow_right (by decide) (by omega)
 right;simp
theorem bits_two_pow_sub_one {p:Nat} (h:0<p):bits (2 ^ p-1)=p:=by
 have:=two_pow_pos p
 apply bits_unique
 ·omega
 right
 have e:2 ^ p=2 ^ (p-1)*2:=by rw[← Nat.pow_succ];congr 1;omega
 have:=two_pow_pos (p-1)
 omega
theorem bits_oddp_le {n p:Nat} (h:n≤2 ^ p) (hp:0<p):bits (oddp n)≤p:=by
 by_cases h0:n=0
 ·subst h0;unfold oddp;simp[bits_zero]
 by_cases h1:n=2 ^ p
 ·subst h1
  have:=@oddp_mul_pow 1 (by decide) p
  rw[Nat.one_mul] at this
  rw[this];show bits 1≤p
  rw[bits_le];exact Nat.lt_of_lt_of_le (by decide:1<2 ^ 1) (Nat.pow_le_pow_right (by decide) hp)
 have:=bits_oddp h0
 have h2:bits n≤p:=bits_le.2 (by omega)
 omega
def isP (p:Nat) (d:Dy):Prop:=d.ok∧bits d.m≤p
theorem canon_isP {n:Nat} {u:Int} {p:Nat} (hp:0<p) (hp2:p≤4096) (h1:n≤2 ^ p) (h2:-16384≤u) (h3:(bits n:Int)+u≤16384):isP p (canon false n u):=by
 by_cases h0:n=0
 ·subst h0;exact⟨Dy.ok_zero,by rw[canon_zero];exact Nat.zero_le _⟩
 have hb:=bits_oddp_le h1 hp
 have hs:=bits_oddp h0
 have hm:(canon false n u).m=oddp n:=by unfold canon;rw[if_neg h0]
 have he:(canon false n u).e=u+tz n:=by unfold canon;rw[if_neg h0]
 refine⟨(canon_ok_iff _ _ _).2 (.inr ?_),by rw[hm];exact hb⟩
 have:=bits_pos (oddp_ne_zero h0)
 rw[hm,he];omega
theorem runit_ge {m:Nat} {e:Int} {p:Nat}:-16384≤runit m e p:=by unfold runit;omega
theorem rcut_isP {m:Nat} {e:Int} {more:Bool} {p:Nat} {up:Bool} {d:Dy} (hp:0<p) (hp2:p≤4096) (h:rcut m e more p up=some d):isP p d∧d.neg=false:=by
 unfold rcut at h
 have hneg:∀ n u,(canon false n u).neg=false:=fun n u=>by unfold canon;split <;> rfl
 split at h
 ·next hb =>
  split at h
  ·cases h
  cases h
  refine⟨canon_isP hp hp2 (Nat.sub_le _ _) (by omega) ?_,hneg _ _⟩
  rw[bits_two_pow_sub_one hp];omega
 next hb =>
 cases h
 exact⟨canon_isP hp hp2 rq_le runit_ge (by omega),hneg _ _⟩
end
theorem shl_or {x r c:Nat} (hx:x<4294967296) (hr:r<32) (hc:c<2 ^ r) :
  ∃ s:Nat,Go.bits BinOp.or IntKind.u64 (IntKind.u64.wrap ((x:Int)*2 ^ r)) (c:Int)=(s:Int)∧s=x*2 ^ r+c∧s/4294967296<2 ^ r∧s<9223372036854775808:=by
 have h1:2 ^ r≤2 ^ 31:=Nat.pow_le_pow_right (by decide) (by omega)
 have h2:x*2 ^ r≤4294967295*2 ^ r:=Nat.mul_le_mul_right _ (by omega)
 have h3:x*2 ^ r+c<4294967296*2 ^ r:=by omega
 have e1:IntKind.u64.wrap ((x:Int)*2 ^ r)=((x*2 ^ r:Nat):Int):=by
  rw[show (x:Int)*2 ^ r=((x*2 ^ r:Nat):Int) from by push_cast;rfl,IntKind.wrap_u64]
  omega
 refine⟨x*2 ^ r+c,?_,rfl,?_,by omega⟩
 ·rw[e1,u64_or_nat _ _ (by omega) (by omega),nat_join r _ _ (Nat.mul_mod_left _ _) hc]
 exact (Nat.div_lt_iff_lt_mul (by decide)).2 (by rw[Nat.mul_comm (2 ^ r)];exact h3)
theorem shl_step {zs:List Nat} {q k cr s V x r:Nat} (hl:zs.length=q+k) (h:val zs+4294967296 ^ (q+k)*cr=4294967296 ^ q*(2 ^ r*V)) (hs:s=x*2 ^ r+cr) :
  val (zs++[s % 4294967296])+4294967296 ^ (q+(k+1))*(s/4294967296)=4294967296 ^ q*(2 ^ r*(V+4294967296 ^ k*x)):=by
 rw[val_snoc,hl,show q+(k+1)=q+k+1 from by omega,Nat.pow_succ,Nat.mul_assoc]
 have e:4294967296 ^ (q+k)*(s % 4294967296)+4294967296 ^ (q+k)*(4294967296*(s/4294967296))=4294967296 ^ (q+k)*s:=by
  rw[← Nat.mul_add];congr 1;omega
 have e2:4294967296 ^ (q+k)*s=4294967296 ^ q*(2 ^ r*(4294967296 ^ k*x))+4294967296 ^ (q+k)*cr:=by
  rw[hs,Nat.mul_add,Nat.pow_add]
  congr 1
  rw[Nat.mul_assoc];congr 1
  rw[Nat.mul_comm x,← Nat.mul_assoc,← Nat.mul_assoc,Nat.mul_comm (2 ^ r)]
 rw[Nat.mul_add (2 ^ r),Nat.mul_add (4294967296 ^ q)]
 omega
theorem pow_split (n:Nat):4294967296 ^ (n/32)*2 ^ (n % 32)=2 ^ n:=by
 rw[pow32,← Nat.pow_add];congr 1;omega
def MadeC (w:World) (v n:Nat) (e:Ending) (w':World):Prop :=
 ∃ a c zs,e=.returned (.slice a n c)∧zs.length=n∧n≤c∧c≤maxLen∧val zs=v∧Rd w' a zs∧Kp w w'
def MadeO (w:World) (v n:Nat) (e:Ending) (w':World):Prop :=
 ∃ a c zs,e=.returned (.slice a n c)∧zs.length=n∧val zs=v∧Own w' w.heap.size (.slice a n c) zs∧Kp w w'
theorem MadeO.c {w:World} {v n:Nat} {e:Ending} {w':World} (h:MadeO w v n e w'):MadeC w v n e w':=by
 obtain⟨a,c,zs,he,hl,hv,ho,hk⟩:=h
 obtain⟨h5,h6,h7,h8⟩:=ho.rd
 exact⟨a,c,zs,he,hl,by omega,h7,hv,h8,hk⟩
theorem Own.len {w:World} {base:Nat} {a:Option Addr} {n m c:Nat} {xs:List Nat} (h:Own w base (.slice a n c) xs) (e:n=m):Own w base (.slice a m c) xs:=e▸h
theorem shl_own (a:Option Addr) (xs:List Nat) (c n:Nat) (w:World) (hx:Rd w a xs) (hxc:xs.length≤c) (hc:c≤maxLen) (hxl:xs.length≤1100000) (hn:n≤65536) :
  Calls Tryz.prog 212 #[.slice a xs.length c,.int .i64 n] w (MadeO w (val xs*2 ^ n) (n/32+(limbs (val xs)).length+1)):=by
 have H1:=hid (trim_any a xs c w hx hxc hc)
 have h1:=hx.limbs
 have hl1:=limbs_len_le hx.lt32
 have Hv1:=hid (val_limbs (val xs))
 go_enter Tryz.func212,Tryz.ntmps212
 go_wp2_with fail
 refine H1.out.mono ?_
 rintro e w2 ⟨rfl,rfl⟩
 clear H1 hx
 generalize limbs (val xs)=us at *
 have hmk:=make_u32c ((n:Int)/32) ((n:Int)/32+us.length+1) (n/32) (n/32+us.length+1) (by omega) (by omega) (by omega) (by omega)
 go_wp2_with fail
 clear hmk
 have hr:n % 32<32:=Nat.mod_lt _ (by decide)
 go_loopw [5,6,23] (fun v cy ix wr=>∃ (k cr:Nat) (a':Option Addr) (c':Nat) (zs:List Nat),k≤us.length∧ix=.int .i64 k∧cy=.int .u64 cr∧v=.slice a' zs.length c'∧cr<2 ^ (n % 32) ∧
   zs.length=n/32+k∧Own wr w.heap.size (.slice a' zs.length c') zs∧val zs+4294967296 ^ (n/32+k)*cr=4294967296 ^ (n/32)*(2 ^ (n % 32)*val (us.take k))∧Kp w wr) (fun _ _ ix _=>us.length-(intOf ix).toNat)
 case atStart =>
  refine⟨0,0,_,_,List.replicate (n/32) 0,Nat.zero_le _,rfl,rfl,by rw[List.length_replicate],two_pow_pos _,by simp,?_,by simp[val,val_replicate],(Kp.refl _).alloc _⟩
  rw[List.length_replicate]
  exact Own.made _ _ _ (by omega) (by omega) _ (Nat.le_refl _)
 case round =>
 obtain⟨k,cr,a',c',zs,hk,rfl,rfl,rfl,hcr,hzl,hown,hvz,hkp⟩:=hrel
 have Hvz:=hid hvz
 have Hzl:=hid hzl
 have hzl1:zs.length≤n/32+k:=by omega
 have Hcr:=hid hcr
 clear hvz hzl hcr
 by_cases hlt:k<us.length
 rotate_left
 ·have hke:k=us.length:=by omega
  have Hke:=hid hke
  have Hcr2:=hid (Nat.lt_of_lt_of_le Hcr.out (Nat.pow_le_pow_right (by decide) (show n % 32≤31 by omega)))
  have hcr3:cr<4294967296:=by have:=Hcr2.out;omega
  clear hke
  go_wp2_with (at_builtin;refine wpList_append_u32 rfl _ _ rfl w.heap.size _ _ rfl (hown.alloc _) _ _ rfl (World.cell?_alloc_new _ _ _ _) cr (by omega) (by omega) (by omega) (by have:=hkp.size;simp;omega) ?_;intro a2 c2 w2 hown2 hb2)
  go_ret
  have e2:=Hvz.out
  rw[Hke.out,List.take_of_length_le (Nat.le_refl _),← Nat.mul_assoc,pow_split,Hv1.out] at e2
  refine⟨a2,c2,zs++[cr],ret_len (by rw[Hzl.out,Hke.out]),by simp[Hzl.out,Hke.out],?_,hown2.len (by rw[Hzl.out,Hke.out]),(hkp.alloc _).below.trans hb2⟩
  rw[val_snoc,Hzl.out,Hke.out,e2,Nat.mul_comm]
 obtain⟨b1,o1,rfl,hcx⟩:=(h1.kp hkp).some hlt
 have hx1:=hcx k hlt
 have bx:=h1.lt32.nth k
 obtain⟨s,hor,hs,hs2,hs3⟩:=shl_or bx hr Hcr.out
 have Hst:=hid (shl_step (zs:=zs) (q:=n/32) (k:=k) Hzl.out Hvz.out hs)
 have Hs2:=hid hs2
 clear hcx hs hs2
 go_wp2_with (at_builtin;refine wpList_append_u32 rfl _ _ rfl w.heap.size _ _ rfl (hown.alloc _) _ _ rfl (World.cell?_alloc_new _ _ _ _) (s % 4294967296) (by omega) (by omega) (by omega) (by have:=hkp.size;simp;omega) ?_;intro a2 c2 w2 hown2 hb2)
 go_roundw
 case measure=>simp[intOf];omega
 case rel =>
 refine⟨k+1,s/4294967296,a2,c2,zs++[s % 4294967296],by omega,by go_num,by congr 1,by simp,Hs2.out,by simp[Hzl.out];omega,by simpa using hown2,?_,((hkp.alloc _).below.trans hb2)⟩
 rw[val_take_step];exact Hst.out
theorem shl_any (a:Option Addr) (xs:List Nat) (c n:Nat) (w:World) (hx:Rd w a xs) (hxc:xs.length≤c) (hc:c≤maxLen) (hxl:xs.length≤1100000) (hn:n≤65536) :
  Calls Tryz.prog 212 #[.slice a xs.length c,.int .i64 n] w (MadeC w (val xs*2 ^ n) (n/32+(limbs (val xs)).length+1)) :=
 (shl_own a xs c n w hx hxc hc hxl hn).mono fun _ _ h=>h.c
theorem shr_or {x y:Nat} (hx:x<4294967296) (hy:y<4294967296) :
  Go.bits BinOp.or IntKind.u64 (x:Int) ((y:Int)*4294967296)=((x+4294967296*y:Nat):Int):=by
 rw[show (y:Int)*4294967296=((y*2 ^ 32:Nat):Int) from by rw[Int.natCast_mul];rfl,u64_or_nat _ _ (by omega) (by omega),Nat.or_comm,nat_join 32 _ _ (Nat.mul_mod_left _ _) hx]
 congr 1;omega
theorem cast_shr (x y p:Nat):((x:Int)+4294967296*y)/2 ^ p % 4294967296=(((x+4294967296*y)/2 ^ p % 4294967296:Nat):Int):=by
 rw[Int.natCast_emod,Int.natCast_ediv,Int.natCast_add,Int.natCast_mul,Int.natCast_pow];rfl
theorem cast_shr0 (x p:Nat):(x:Int)/2 ^ p % 4294967296=((x/2 ^ p % 4294967296:Nat):Int):=by
 rw[Int.natCast_emod,Int.natCast_ediv,Int.natCast_pow];rfl
theorem shr_limb {x y r:Nat} (hx:x<4294967296) (hr:r<32):(x+4294967296*y)/2 ^ r % 4294967296*2 ^ r+x % 2 ^ r=x+4294967296*(y % 2 ^ r):=by
 have hp:=two_pow_pos r
 obtain⟨C,hC⟩:∃ C,4294967296=C*2 ^ r:=⟨2 ^ (32-r),by rw[← Nat.pow_add,show 32-r+r=32 from by omega]⟩
 have e1:(x+4294967296*y)/2 ^ r=x/2 ^ r+C*y:=by
  rw[hC,Nat.mul_right_comm,Nat.add_mul_div_right _ _ hp]
 have hxC:x/2 ^ r<C:=by rw[Nat.div_lt_iff_lt_mul hp];omega
 have e2:C*y=C*(y % 2 ^ r)+4294967296*(y/2 ^ r):=by
  have:=Nat.div_add_mod y (2 ^ r)
  rw[hC,Nat.mul_assoc,← Nat.mul_add];congr 1;omega
 have hlt:C*(y % 2 ^ r)+C≤4294967296:=by
  have:=Nat.mul_le_mul_left C (show y % 2 ^ r+1≤2 ^ r from Nat.mod_lt y hp)
  rw[Nat.mul_add,Nat.mul_one] at this
  omega
 have e3:(x/2 ^ r+C*y) % 4294967296=x/2 ^ r+C*(y % 2 ^ r):=by
  rw[e2,← Nat.add_assoc,Nat.add_mul_mod_self_left]
  exact Nat.mod_eq_of_lt (by omega)
 rw[e1,e3,Nat.add_mul]
 have e4:=Nat.div_add_mod x (2 ^ r)
 have e5:C*(y % 2 ^ r)*2 ^ r=4294967296*(y % 2 ^ r):=by rw[Nat.mul_right_comm,← hC]
 rw[Nat.mul_comm] at e4
 omega
theorem shr_step {zs vs:List Nat} {k r z t:Nat} (hk:k<zs.length) (h:val (zs.take k)*2 ^ r+t=val (vs.take k)+4294967296 ^ k*(nth vs k % 2 ^ r))
  (hz:z*2 ^ r+nth vs k % 2 ^ r=nth vs k+4294967296*(nth vs (k+1) % 2 ^ r)) :
  val ((zs.set k z).take (k+1))*2 ^ r+t=val (vs.take (k+1))+4294967296 ^ (k+1)*(nth vs (k+1) % 2 ^ r):=by
 rw[val_take_set hk,val_take_step vs,Nat.pow_succ,Nat.mul_assoc,Nat.add_mul,Nat.mul_assoc]
 generalize 4294967296 ^ k=P at *
 have e:P*(z*2 ^ r+nth vs k % 2 ^ r)=P*(z*2 ^ r)+P*(nth vs k % 2 ^ r):=Nat.mul_add _ _ _
 rw[hz,Nat.mul_add] at e
 omega
theorem shr_any (a:Option Addr) (xs:List Nat) (c n:Nat) (w:World) (hx:Rd w a xs) (hxc:xs.length≤c) (hc:c≤maxLen) (hxl:xs.length≤1100000) (hn:n≤65536) :
  Calls Tryz.prog 296 #[.slice a xs.length c,.int .i64 n] w (MadeC w (val xs/2 ^ n) ((limbs (val xs)).length-n/32)):=by
 have H1:=hid (trim_any a xs c w hx hxc hc)
 have h1:=hx.limbs
 have hl1:=limbs_len_le hx.lt32
 have Hv1:=hid (val_limbs (val xs))
 go_enter Tryz.func296,Tryz.ntmps296
 go_wp2_with fail
 refine H1.out.mono ?_
 rintro e w2 ⟨rfl,rfl⟩
 clear H1 hx
 generalize limbs (val xs)=us at *
 by_cases hq:us.length≤n/32
 ·have hq2:(us.length:Int)≤(n:Int)/32:=by omega
  go_wp2_with fail
  go_ret
  have h2:=val_lt h1.lt32
  rw[Hv1.out,pow32] at h2
  refine⟨none,0,[],ret_len (by omega),by simp;omega,by omega,by unfold maxLen;omega,?_,.nil _ _,.refl _⟩
  rw[Nat.div_eq_of_lt (Nat.lt_of_lt_of_le h2 (Nat.pow_le_pow_right (by decide) (by omega)))];rfl
 have hq2:¬ (us.length:Int)≤(n:Int)/32:=by omega
 obtain⟨b1,o1,rfl,_⟩:=h1.some (i:=0) (by omega)
 have h2:=h1.drop (n/32)
 have hcap:us.length≤c:=by omega
 have hq3:(n:Int)/32<us.length:=by omega
 have hvl:(us.drop (n/32)).length=us.length-n/32:=List.length_drop
 have hval:val (us.drop (n/32))=val us/4294967296 ^ (n/32):=by
  have e:=val_take_drop us (n/32) (by omega)
  have b:=val_lt (h1.lt32.take (n/32))
  rw[List.length_take,Nat.min_eq_left (by omega)] at b
  rw[e,Nat.add_mul_div_left _ _ (Nat.pow_pos (by decide)),Nat.div_eq_of_lt b,Nat.zero_add]
 have Hval:=hid hval
 clear hq2 hval h1
 generalize us.drop (n/32)=vs at *
 have hr:n % 32<32:=Nat.mod_lt _ (by decide)
 have hvl2:us.length-n/32≤vs.length:=by omega
 have Hvl:=hid hvl
 clear hvl
 have hmk:=make_u32 ((us.length-n/32:Nat):Int) (us.length-n/32) rfl (by omega)
 go_wp2_with fail
 clear hmk
 go_loopw [25] (fun ix wr=>∃ (k:Nat) (zs:List Nat),k≤us.length-n/32∧ix=.int .i64 k∧zs.length=us.length-n/32∧Blk wr w.heap.size zs∧Lt32 zs ∧
  val (zs.take k)*2 ^ (n % 32)+nth vs 0 % 2 ^ (n % 32)=val (vs.take k)+4294967296 ^ k*(nth vs k % 2 ^ (n % 32))∧Kp w wr) (fun ix _=>(us.length-n/32)-(intOf ix).toNat)
 case atStart=>exact⟨0,_,Nat.zero_le _,rfl,by simp,Blk.made _ _,.replicate _,by simp[val],(Kp.refl _).alloc _⟩
 case round =>
 obtain⟨k,zs,hk,rfl,hzl,hb,hz32,hvz,hkp⟩:=hrel
 have Hvz:=hid hvz
 have Hzl:=hid hzl
 clear hvz
 by_cases hlt:k<us.length-n/32
 rotate_left
 ·have hke:k=us.length-n/32:=by omega
  have Hke:=hid hke
  clear hke
  go_wp2_with fail
  go_ret
  have e2:=Hvz.out
  have h0:nth vs k=0:=nth_ge (by rw[Hvl.out,Hke.out];omega)
  rw[h0,Nat.zero_mod,Nat.mul_zero,Nat.add_zero,Hke.out,List.take_of_length_le (by rw[Hzl.out];omega),List.take_of_length_le (by rw[Hvl.out];omega)] at e2
  have hlt3:=Nat.mod_lt (nth vs 0) (two_pow_pos (n % 32))
  have e3:val zs=val vs/2 ^ (n % 32):=by
   rw[← e2,Nat.mul_comm,Nat.mul_add_div (two_pow_pos _),Nat.div_eq_of_lt hlt3,Nat.add_zero]
  refine⟨_,us.length-n/32,zs,ret_len rfl,Hzl.out,Nat.le_refl _,by unfold maxLen;omega,?_,hb.rd hz32,hkp⟩
  rw[e3,Hval.out,Hv1.out,Nat.div_div_eq_div_mul,pow_split]
 obtain⟨b2,o2,e2,hcx⟩:=(h2.kp hkp).some (i:=k) (by omega)
 cases e2
 have hx1:=hcx k (by omega)
 have bx:=h2.lt32.nth k
 have bx2:=h2.lt32.nth (k+1)
 have hs1:=hb.cell (i:=k) (by omega)
 have hs2:=hb.frozen k
 have Hst:=hid (fun z=>shr_step (zs:=zs) (z:=z) (by omega) Hvz.out)
 have Hl:=hid (shr_limb (y:=nth vs (k+1)) bx hr)
 by_cases hlt2:k+1<us.length-n/32
 ·have hx2:=hcx (k+1) (by omega)
  have hor:=shr_or bx bx2
  clear hcx
  go_wp2_with fail
  go_roundw
  case measure=>simp[intOf];omega
  case rel =>
  refine⟨k+1,zs.set k ((nth vs k+4294967296*nth vs (k+1))/2 ^ (n % 32) % 4294967296),by omega,by go_num,by simp[Hzl.out],hb.put (cast_shr _ _ _),hz32.set _ _ (Nat.mod_lt _ (by decide)),Hst.out _ Hl.out,hkp.set (Nat.le_refl _) _⟩
 have h0:nth vs (k+1)=0:=nth_ge (by rw[Hvl.out];omega)
 have H0:=hid h0
 clear hcx h0
 go_wp2_with fail
 go_roundw
 case measure=>simp[intOf];omega
 case rel =>
 have h3:=Hl.out
 rw[H0.out,Nat.mul_zero,Nat.add_zero] at h3
 refine⟨k+1,zs.set k (nth vs k/2 ^ (n % 32) % 4294967296),by omega,by go_num,by simp[Hzl.out],hb.put (cast_shr0 _ _),hz32.set _ _ (Nat.mod_lt _ (by decide)),Hst.out _ (by rw[H0.out];exact h3),hkp.set (Nat.le_refl _) _⟩
end Go.Proofs.YteidgoldnllabaaGreatDoor
