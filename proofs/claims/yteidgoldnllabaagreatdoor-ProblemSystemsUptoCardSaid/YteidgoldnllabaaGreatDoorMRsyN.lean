/-
  Walks: ref16.System.
-/
import Derived.Test.YteidgoldnllabaaGreatDoorMRivN
import Derived.Test.YteidgoldnllabaaGreatDoorMRtpN
import Derived.Test.YteidgoldnllabaaGreatDoorMRfiN
set_option maxHeartbeats 16000000
set_option maxRecDepth 20000
namespace Go.Proofs.YteidgoldnllabaaGreatDoor
open Go.RowKit Go.Sort
theorem mplF_find2 {s:ByteArray}:∀ {l:List Mo},(∃ (j:Nat) (m:Mo),l.find? (fun m=>decide (m.name=s))=some m∧mplF s l=j∧l[j]? = some m)∨(l.find? (fun m=>decide (m.name=s))=none∧mplF s l=-1)
 | []=>.inr ⟨rfl,rfl⟩
 | x::r=>by
  by_cases h:x.name=s
  ·exact .inl ⟨0,x,by rw[List.find?_cons,decide_eq_true h],by unfold mplF;rw[if_pos h];rfl,rfl⟩
  ·rcases mplF_find2 (s:=s) (l:=r) with ⟨j,m,h1,h2,h3⟩ | ⟨h1,h2⟩
   ·refine .inl ⟨j+1,m,?_,?_,?_⟩
    ·rw[List.find?_cons,decide_eq_false h];exact h1
    ·unfold mplF;rw[if_neg h,h2,if_neg (by omega)];omega
    ·simpa using h3
   ·refine .inr ⟨?_,?_⟩
    ·rw[List.find?_cons,decide_eq_false h];exact h1
    ·unfold mplF;rw[if_neg h,h2,if_pos (by decide)]
theorem modeO_pl2 (p:Pr) (s:ByteArray):(∃ (j:Nat) (m:Mo),modeO p s=some m∧rmpF p s=j∧p.ms[j]? = some m)∨(modeO p s=none∧rmpF p s=-1):=by
 unfold modeO rmpF
 split
 ·exact mplF_find2
 exact .inr ⟨rfl,rfl⟩
def RsyO (w:World) (p:Pr) (s:ByteArray) (prec:Int) (r:Ending) (w':World):Prop :=
 ∃ x:Sy,r=.returned (.tuple #[.agg x.cells.toArray,.int .i64 (sysE p s prec)])∧x.at w'∧x.val=sysV p s prec∧Kp w w'
theorem rsy_no {w w':World} {p:Pr} {s:ByteArray} {prec e:Int} (hE:sysE p s prec=e) (hV:sysV p s prec=Sy.zero.val) (k:Kp w w') :
  RsyO w p s prec (.returned (.tuple #[.agg #[.int .i64 0,.slice none 0 0,.slice none 0 0,.int .i64 0,.slice none 0 0],.int .i64 e])) w':=by
 obtain⟨x,h1,h2,h3,h4,_⟩:=sys_no hE hV k
 exact⟨x,h1,h2,h3,h4⟩
theorem r16system_any (p:Pr) (s:ByteArray) (prec:Int) (w:World) (B:Nat) (hat:p.at w B) (hB:B≤w.heap.size) (hT:Tab w) :
  Calls Tryz.prog 36 #[.agg #[.slice p.sa p.ss.length p.sc,.slice p.pa p.ps.length p.pc,.slice p.ma p.ms.length p.mc,.int .i64 p.tn,.int .i64 p.td],.string s,.int .i64 prec] w (RsyO w p s prec):=by
 have k1:Kp w ((w.alloc (.cells #[.slice p.sa p.ss.length p.sc,.slice p.pa p.ps.length p.pc,.slice p.ma p.ms.length p.mc,.int .i64 p.tn,.int .i64 p.td] 27)).alloc (.cells #[.int .i64 0,.slice none 0 0,.slice none 0 0,.int .i64 0,.slice none 0 0] 60)):=((Kp.refl w).alloc _).alloc _
 have h0:BoxV ((w.alloc (.cells #[.slice p.sa p.ss.length p.sc,.slice p.pa p.ps.length p.pc,.slice p.ma p.ms.length p.mc,.int .i64 p.tn,.int .i64 p.td] 27)).alloc (.cells #[.int .i64 0,.slice none 0 0,.slice none 0 0,.int .i64 0,.slice none 0 0] 60)) w.heap.size p.cells:=(BoxV.new w p.cells _ _ rfl).kp ((Kp.refl _).alloc _)
 have h1:BoxV ((w.alloc (.cells #[.slice p.sa p.ss.length p.sc,.slice p.pa p.ps.length p.pc,.slice p.ma p.ms.length p.mc,.int .i64 p.tn,.int .i64 p.td] 27)).alloc (.cells #[.int .i64 0,.slice none 0 0,.slice none 0 0,.int .i64 0,.slice none 0 0] 60)) (w.heap.size+1) [.int .i64 0,.slice none 0 0,.slice none 0 0,.int .i64 0,.slice none 0 0]:=BoxV.new _ [_,_,_,_,_] _ _ (by simp)
 go_enter Tryz.func36,Tryz.ntmps36
 go_upto_region 1 with fail
 generalize World.alloc _ _=W at *
 have HAT:=Lib.hid (Pr.at_kp hat k1)
 have HC:=Lib.hid (r16right_any p W B HAT.out)
 have HPr:=Lib.hid fun W':World=>(r3prec_any prec W').mono (R':=fun r w'=>r=.returned (.bool (preB prec))∧Kp W' w') fun r w' h=>⟨h.1,by rw[← h.2];exact Kp.refl _⟩
 have HM:=Lib.hid fun W' (k:Kp W W')=>r16Mode_any p s W' B (Pr.at_kp HAT.out k)
 have HT:=Lib.hid (hT.kp k1)
 have HBw:=Lib.hid hB
 have HWs:=Lib.hid (show w.heap.size+1<W.heap.size from h1.2.2)
 have HR:=Lib.hid h1
 have H0:=Lib.hid h0
 have K1:=Lib.hid k1
 have q0:=h0.cell 0 rfl;have q1:=h0.cell 1 rfl;have q2:=h0.cell 2 rfl;have q3:=h0.cell 3 rfl;have q4:=h0.cell 4 rfl
 clear h0 h1 k1 hat hB hT
 cases hf:okF p with
 | false =>
  rw[hf] at HC
  have HZ:=Lib.hid (show sysE p s prec=1∧sysV p s prec=Sy.zero.val from ⟨by unfold sysE;rw[if_pos hf],by unfold sysV modeO;rw[hf];rfl⟩)
  clear hf
  go_wp2_with (first | (go_at_call 76;go_fit HC.out;rintro r w2 ⟨rfl,k2⟩;clear q0 q1 q2 q3 q4;have hR:=HR.out.kp k2;have r0:=hR.cell 0 rfl;have r1:=hR.cell 1 rfl;have r2:=hR.cell 2 rfl;have r3:=hR.cell 3 rfl;have r4:=hR.cell 4 rfl;have f0:=hR.2.1 0;have f1:=hR.2.1 1;have f2:=hR.2.1 2;have f3:=hR.2.1 3;have f4:=hR.2.1 4;have HRR:=Lib.hid hR;clear hR) | fail)
  generalize hW9:((((World.setCell _ _ _).setCell _ _).setCell _ _).setCell _ _).setCell _ _=W9
  obtain⟨hF,hK,_⟩:=box5_set HRR.out (K1.out.trans k2) (show w.heap.size≤w.heap.size+1 by omega) nofun nofun nofun nofun nofun _ _ _ _ _ hW9
  have s0:=hF.cell 0 rfl
  have s1:=hF.cell 1 rfl
  have s2:=hF.cell 2 rfl
  have s3:=hF.cell 3 rfl
  have s4:=hF.cell 4 rfl
  refine bodyPost_ret (v:=.tuple #[.agg #[.int .i64 0,.slice none 0 0,.slice none 0 0,.int .i64 0,.slice none 0 0],.int .i64 1]) (by simp[results,Tryz.results36,go_sem,s0,s1,s2,s3,s4]) rfl ?_
  exact rsy_no HZ.out.1 HZ.out.2 hK
 | true =>
 rw[hf] at HC
 have hok:=hf
 have hnf:¬ okF p=false:=by rw[hf];decide
 clear hf
 cases hb:preB prec with
 | false =>
  rw[hb] at HPr
  have HZ:=Lib.hid (show sysE p s prec=2∧sysV p s prec=Sy.zero.val from ⟨by unfold sysE;rw[if_neg hnf,if_pos hb],by unfold sysV;cases modeO p s <;> simp[hb]⟩)
  clear hb hok hnf
  go_wp2_with (first | (go_at_call 76;go_fit HC.out;rintro r w2 ⟨rfl,k2⟩;clear q0 q1 q2 q3 q4) | (go_at_call 101;go_fit (HPr.out w2);rintro r w3 ⟨rfl,k3⟩;have hR:=HR.out.kp (k2.trans k3);have r0:=hR.cell 0 rfl;have r1:=hR.cell 1 rfl;have r2:=hR.cell 2 rfl;have r3:=hR.cell 3 rfl;have r4:=hR.cell 4 rfl;have f0:=hR.2.1 0;have f1:=hR.2.1 1;have f2:=hR.2.1 2;have f3:=hR.2.1 3;have f4:=hR.2.1 4;have HRR:=Lib.hid hR;clear hR) | fail)
  generalize hW9:((((World.setCell _ _ _).setCell _ _).setCell _ _).setCell _ _).setCell _ _=W9
  obtain⟨hF,hK,_⟩:=box5_set HRR.out (K1.out.trans (k2.trans k3)) (show w.heap.size≤w.heap.size+1 by omega) nofun nofun nofun nofun nofun _ _ _ _ _ hW9
  have s0:=hF.cell 0 rfl
  have s1:=hF.cell 1 rfl
  have s2:=hF.cell 2 rfl
  have s3:=hF.cell 3 rfl
  have s4:=hF.cell 4 rfl
  refine bodyPost_ret (v:=.tuple #[.agg #[.int .i64 0,.slice none 0 0,.slice none 0 0,.int .i64 0,.slice none 0 0],.int .i64 2]) (by simp[results,Tryz.results36,go_sem,s0,s1,s2,s3,s4]) rfl ?_
  exact rsy_no HZ.out.1 HZ.out.2 hK
 | true =>
 rw[hb] at HPr
 have hpr:=hb
 have hnb:¬ preB prec=false:=by rw[hb];decide
 clear hb
 rcases modeO_pl2 p s with ⟨jm,m,hmo,hrm,hjm⟩ | ⟨hmo,hrm⟩
 rotate_left
 ·rw[hrm] at HM
  have HZ:=Lib.hid (show sysE p s prec=7∧sysV p s prec=Sy.zero.val from ⟨by unfold sysE;rw[if_neg hnf,if_neg hnb,hmo],by unfold sysV;rw[hmo]⟩)
  clear hmo hpr hnb hok hnf hrm
  go_wp2_with (first
   | (go_at_call 76;go_fit HC.out;rintro r w2 ⟨rfl,k2⟩;clear q0 q1 q2 q3 q4)
   | (go_at_call 101;go_fit (HPr.out w2);rintro r w3 ⟨rfl,k3⟩;have hq:=H0.out.kp (k2.trans k3);have q0:=hq.cell 0 rfl;have q1:=hq.cell 1 rfl;have q2:=hq.cell 2 rfl;have q3:=hq.cell 3 rfl;have q4:=hq.cell 4 rfl;clear hq)
   | (go_at_call 19;go_fit (HM.out w3 (k2.trans k3));rintro r w4 ⟨rfl,k4⟩;have hR:=HR.out.kp (k2.trans (k3.trans k4));have r0:=hR.cell 0 rfl;have r1:=hR.cell 1 rfl;have r2:=hR.cell 2 rfl;have r3:=hR.cell 3 rfl;have r4:=hR.cell 4 rfl;have f0:=hR.2.1 0;have f1:=hR.2.1 1;have f2:=hR.2.1 2;have f3:=hR.2.1 3;have f4:=hR.2.1 4;have HRR:=Lib.hid hR;clear hR)
   | fail)
  generalize hW9:((((World.setCell _ _ _).setCell _ _).setCell _ _).setCell _ _).setCell _ _=W9
  obtain⟨hF,hK,_⟩:=box5_set HRR.out (K1.out.trans (k2.trans (k3.trans k4))) (show w.heap.size≤w.heap.size+1 by omega) nofun nofun nofun nofun nofun _ _ _ _ _ hW9
  have s0:=hF.cell 0 rfl
  have s1:=hF.cell 1 rfl
  have s2:=hF.cell 2 rfl
  have s3:=hF.cell 3 rfl
  have s4:=hF.cell 4 rfl
  refine bodyPost_ret (v:=.tuple #[.agg #[.int .i64 0,.slice none 0 0,.slice none 0 0,.int .i64 0,.slice none 0 0],.int .i64 7]) (by simp[results,Tryz.results36,go_sem,s0,s1,s2,s3,s4]) rfl ?_
  exact rsy_no HZ.out.1 HZ.out.2 hK
 rw[hrm] at HM
 have hmm:=modeO_mem hmo
 have HHs:=Lib.hid (show ∀ d∈p.ss,hitsF d.name m.fs=[sideE m d] from fun d hd=>hits_side hok hmm.2 hd)
 have HRk:=Lib.hid (rights_ok hok hmm.2)
 have HE:=Lib.hid (show sysE p s prec=if 200<(tapeF (allN p) [] (rightsF p m)).1.length then 5 else 0 by unfold sysE;rw[if_neg hnf,if_neg hnb,hmo])
 have HV:=Lib.hid (show sysV p s prec=if preB prec=true∧¬ 200<(tapeF (allN p) [] (rightsF p m)).1.length then (((allN p).length:Int),(tapeF (allN p) [] (rightsF p m)).1,(tapeF (allN p) [] (rightsF p m)).2,(p.ss.length:Int),p.ps.map (rngV prec.toNat)) else Sy.zero.val by unfold sysV;rw[hmo])
 have hss:=probB_ss (okF_prob hok)
 have HDe:=Lib.hid (probB_de (okF_prob hok))
 have hpp:=preB_iff.1 hpr
 have HPB:=Lib.hid hpr
 have HMm:=Lib.hid hmm.2
 have HNm:=Lib.hid fun W' (k:Kp W W')=>rnamed_any p W' B (Pr.at_kp HAT.out k) (okF_prob hok)
 have hj0:¬ (jm:Int)<0:=by omega
 have HJ:=Lib.hid hjm
 have hjl:(jm:Int)<(p.ms.length:Int):=by have:=(List.getElem?_eq_some_iff.1 hjm).1;omega
 clear hmo hmm hpr hnb hok hnf hrm hjm
 go_upto_region 9 with (first
  | (go_at_call 76;go_fit HC.out;rintro r w2 ⟨rfl,k2⟩;clear q0 q1 q2 q3 q4)
  | (go_at_call 101;go_fit (HPr.out w2);rintro r w3 ⟨rfl,k3⟩;have hq:=H0.out.kp (k2.trans k3);have q0:=hq.cell 0 rfl;have q1:=hq.cell 1 rfl;have q2:=hq.cell 2 rfl;have q3:=hq.cell 3 rfl;have q4:=hq.cell 4 rfl;clear hq)
  | (go_at_call 19;go_fit (HM.out w3 (k2.trans k3));rintro r w4 ⟨rfl,k4⟩;have K4:=Lib.hid (k2.trans (k3.trans k4));clear k2 k3 k4 q0 q1 q2 q3 q4;have hq:=H0.out.kp K4.out;have q0:=hq.cell 0 rfl;have q1:=hq.cell 1 rfl;have q2:=hq.cell 2 rfl;have q3:=hq.cell 3 rfl;have q4:=hq.cell 4 rfl;clear hq)
  | (go_at_call 70;go_fit (HNm.out w4 K4.out);rintro r V ⟨v1,v2,rfl,hO1,hO2⟩;obtain⟨sa,sc,rfl,hs1⟩:=hO1.sl;obtain⟨na,nc,rfl,hs2⟩:=hO2.sl;have hkn:=hO2.1)
  | fail)
 have HSl:=Lib.hid (show (stN p).length=p.ss.length by unfold stN;rw[List.length_map])
 have KWV:=Lib.hid (K4.out.trans hkn)
 have HSt:=Lib.hid hs1
 have HNa:=Lib.hid hs2
 clear hO1 hO2 hs1 hs2 hkn q0 q1 q2 q3 q4
 have HATV:=Lib.hid (Pr.at_kp HAT.out KWV.out)
 have HMat:=Lib.hid (HATV.out.2.2.2.2 m HMm.out)
 have HRV:=Lib.hid (HR.out.kp KWV.out)
 have H0V:=Lib.hid (H0.out.kp KWV.out)
 have KV:=Lib.hid (K1.out.trans KWV.out)
 have HTV:=Lib.hid (HT.out.kp KWV.out)
 have HVs:=Lib.hid (show w.heap.size+1<V.heap.size from HRV.out.2.2)
 have HBV:=Lib.hid (show B≤V.heap.size from Nat.le_trans HBw.out (Nat.le_trans (by omega) (Nat.le_of_lt HVs.out)))
 have hml:=HMat.out.1.2.1
 clear HC HPr HM HAT HT HR H0 K1 HWs HNm
 obtain⟨i0,hi,hz0,hz1,hz2⟩:=info_parts infoExS
 go_upto_region 11 with fail
 go_loopw [11,12] (fun y z wr=>∃ (i:Nat) (zs:List Ex),i≤p.ss.length∧z=.int .i64 i∧zs=(p.ss.take i).map (sideE m)∧OwnEx V wr y zs) (fun _ z _=>p.ss.length-(intOf z).toNat)
 case atStart=>exact⟨0,[],by omega,rfl,rfl,OwnV.nil (.refl _)⟩
 case round =>
 obtain⟨i,zs,hi1,rfl,hzs,hO⟩:=hrel
 obtain⟨ea,ec,rfl,hec,her⟩:=OwnV.row Ex.cells_len ex_one hO
 have HO:=Lib.hid hO
 have HEr:=Lib.hid her
 have HZs:=Lib.hid hzs
 clear hO her hzs
 by_cases hlt:i<p.ss.length
 ·have hlt2:(i:Int)<((stN p).length:Int):=by have:=HSl.out;omega
  obtain⟨d,hd⟩:∃ d,p.ss[i]? = some d:=⟨_,List.getElem?_eq_getElem hlt⟩
  have HTk:=Lib.hid (take_map (sideE m) hd)
  have HHd:=Lib.hid (HHs.out d (List.mem_of_getElem? hd))
  have hsd:(stN p)[i]? = some d.name:=by unfold stN;rw[List.getElem?_map,hd];rfl
  obtain⟨sb,so,hsa,hsc⟩:=HSt.out i d.name hsd
  subst hsa
  have HSc:=Lib.hid hsc
  clear hd hsd hsc
  go_upto_region 14 with fail
  obtain⟨WO,hWO⟩:∃ V:World,V=wr:=⟨_,rfl⟩
  subst hWO
  go_loopw [11,13] (fun y z wx=>∃ (j:Nat) (ys:List Ex),j≤m.fs.length∧z=.int .i64 j∧ys=zs++hitsF d.name (m.fs.take j)∧ys.length≤zs.length+j∧OwnEx V wx y ys) (fun _ z _=>m.fs.length-(intOf z).toNat)
  case atStart=>exact⟨0,zs,by omega,rfl,by rw[List.take_zero,hitsF_nil,List.append_nil],by omega,HO.out⟩
  case round =>
  obtain⟨j,ys,hj1,rfl,hys,hyl,hO⟩:=hrel
  obtain⟨eb,ed,rfl,hed,_⟩:=OwnV.row Ex.cells_len ex_one hO
  have kx:=hO.1
  have HO2:=Lib.hid hO
  have HYs:=Lib.hid hys
  have HKx:=Lib.hid kx
  have hzl:zs.length≤8:=by have:=HZs.out;rw[this,List.length_map,List.length_take];omega
  have c0:=(H0V.out.kp kx).cell 2 rfl
  obtain⟨mb,mo,hma,_,hmc⟩:=HATV.out.2.2.2.1.kp kx jm m HJ.out
  have c1:=hmc 1 _ rfl
  rw[hma] at c0
  clear hO hys hma hmc
  by_cases hjlt:j<m.fs.length
  rotate_left
  ·have HF:=Lib.hid (show ys=(p.ss.take (i+1)).map (sideE m) by
    rw[HYs.out,List.take_of_length_le (by omega),HHd.out,HTk.out,HZs.out])
   go_wp2
   go_roundw
   case measure=>simp only[intOf];omega
   case rel=>exact⟨i+1,ys,by omega,by go_num,HF.out,HO2.out⟩
  obtain⟨q,hq⟩:∃ q,m.fs[j]? = some q:=⟨_,List.getElem?_eq_getElem hjlt⟩
  obtain⟨qb,qo,hfa,_,hqc⟩:=HMat.out.2.1.1.kp kx j q hq
  have HTk2:=Lib.hid (take_snoc hq)
  have n0:wr.cell? ⟨sb,so+i,none⟩=some (.string d.name):=kx.cell HSc.out
  have y0:wr.cell? ⟨qb,qo+j*7,none⟩=some (.string q.name):=hqc 0 _ rfl
  have HQc:=Lib.hid hqc
  have Hc0:=Lib.hid c0
  rw[hfa] at c1
  have Hc1:=Lib.hid c1
  clear hfa hq hqc kx
  by_cases hn:q.name=d.name
  rotate_left
  ·have hstr:=strNe hn
   have HN:=Lib.hid hn
   clear hn
   go_upto_region 16 with fail
   go_quiet (fail)
   have kd:Kp wr (wr.drewN nq):=(Kp.refl wr).drewN nq
   go_wp2
   go_roundw
   case measure=>simp only[intOf];omega
   case rel=>exact⟨j+1,ys,by omega,by go_num,by rw[HTk2.out,hitsF_snoc,if_neg HN.out,List.append_nil];exact HYs.out,by omega,HO2.out.kp kd⟩
  have hstr:(q.name.toList==d.name.toList)=true:=by rw[hn];exact beq_self_eq_true _
  have HN:=Lib.hid hn
  clear hn
  go_upto_region 16 with fail
  go_quiet (fail)
  have kd:Kp wr (wr.drewN nq):=(Kp.refl wr).drewN nq
  go_upto_region 17 with fail
  have HO3:=Lib.hid (HO2.out.kp kd)
  have d0:=kd.cell Hc0.out
  have d1:=kd.cell Hc1.out
  have x1:(wr.drewN nq).cell? ⟨qb,qo+j*7+1,none⟩=some (.int .i64 q.e.kind):=kd.cell (HQc.out 1 _ rfl)
  have x2:(wr.drewN nq).cell? ⟨qb,qo+j*7+2,none⟩=some (.int .i64 q.e.rn):=kd.cell (HQc.out 2 _ rfl)
  have x3:(wr.drewN nq).cell? ⟨qb,qo+j*7+3,none⟩=some (.int .i64 q.e.rd):=kd.cell (HQc.out 3 _ rfl)
  have x4:(wr.drewN nq).cell? ⟨qb,qo+j*7+4,none⟩=some (.string q.e.name):=kd.cell (HQc.out 4 _ rfl)
  have x5:(wr.drewN nq).cell? ⟨qb,qo+j*7+5,none⟩=some (.int .i64 q.e.pw):=kd.cell (HQc.out 5 _ rfl)
  have x6:(wr.drewN nq).cell? ⟨qb,qo+j*7+6,none⟩=some (.slice q.e.a q.e.l.length q.e.c):=kd.cell (HQc.out 6 _ rfl)
  clear c0 c1 n0 y0 kd hstr
  generalize wr.drewN nq=X at *
  go_wp2_with (at_builtin;refine wpList_append_vs Ex.cells_len (by decide) ex_one rfl _ _ _ _ rfl i0 _ 72 Tryz.underlying69 hi hz0 hz1 hz2 rfl V _ ys rfl (HO3.out.kp ((Kp.refl _).alloc _)) ⟨X.heap.size,0,none⟩ 1 [q.e] 1 rfl rfl (row_ex1 _ _ _) (by simp only[List.length_cons,List.length_nil];omega) (by simp only[List.length_cons,List.length_nil];omega) ?_;intro v6 w6 hO6 _ _)
  go_roundw
  case measure=>simp only[intOf];omega
  case rel=>exact⟨j+1,ys++[q.e],by omega,by go_num,by rw[HTk2.out,hitsF_snoc,if_pos HN.out,HYs.out,List.append_assoc],by rw[List.length_append,List.length_cons,List.length_nil];omega,hO6⟩
 have hk2:i=p.ss.length:=by omega
 have HRS:=Lib.hid (show zs=rightsF p m by rw[HZs.out,hk2,List.take_length];rfl)
 have hlt2:¬ (i:Int)<((stN p).length:Int):=by have:=HSl.out;omega
 clear hlt hk2
 go_upto_region 18 with fail
 have kx:=HO.out.1
 have HX:=Lib.hid (rowX_of HEr.out)
 have hal:(allN p).length≤8:=by unfold allN;rw[List.length_append,List.length_map,List.length_map];omega
 have hrl:zs.length≤4:=by rw[HRS.out];unfold rightsF;rw[List.length_map];omega
 have HRo:=Lib.hid (show ∀ x∈zs,x.allB=true∧x.size≤200∧x.at wr wr.heap.size from fun x hx=>by
  rw[HRS.out] at hx
  obtain⟨h1,q,h2,h3⟩:=HRk.out x hx
  refine⟨by have h:=h1;unfold Ex.ok at h;simp only[Bool.and_eq_true] at h;exact h.1,(ex_ok h1).2,?_⟩
  rw[h3]
  exact Ex.at_up (Ex.at_kp (HMat.out.2.1.2 q h2).2 kx) (Nat.le_trans HBV.out kx.size))
 have HTp:=Lib.hid (r16tape_any zs ea ec wr.heap.size (allN p) na nc wr HX.out (fun x hx=>(HRo.out x hx).2.2) (fun x hx=>(HRo.out x hx).1) (fun x hx=>(HRo.out x hx).2.1) (by omega) (HNa.out.kp kx) (by omega))
 rw[← HRS.out] at HE HV
 have HXs:=Lib.hid (show w.heap.size+1<wr.heap.size from Nat.lt_of_lt_of_le HVs.out kx.size)
 have HKx:=Lib.hid kx
 clear kx
 go_upto_region 19 with (first
  | (go_at_call 100;go_fit HTp.out;rintro r w5 ⟨oa,oc,ua,uc,rfl,hro,hru,k6,lo,lu⟩)
  | fail)
 have kA:=(Kp.refl w5).alloc (.cells #[.int .i64 ((allN p).length:Int),.slice oa (tapeF (allN p) [] zs).1.length oc,.slice ua (tapeF (allN p) [] zs).2.length uc] 57)
 have hTB:BoxV (w5.alloc (.cells #[.int .i64 ((allN p).length:Int),.slice oa (tapeF (allN p) [] zs).1.length oc,.slice ua (tapeF (allN p) [] zs).2.length uc] 57)) w5.heap.size [.int .i64 ((allN p).length:Int),.slice oa (tapeF (allN p) [] zs).1.length oc,.slice ua (tapeF (allN p) [] zs).2.length uc]:=BoxV.new w5 [_,_,_] _ _ rfl
 have KA:=Lib.hid (HKx.out.trans (k6.trans kA))
 have HOo:=Lib.hid (And.intro (hro.kp kA) (hru.kp kA))
 have hlo:∀ b o,oa=some ⟨b,o,none⟩→b≠w.heap.size+1:=fun b o e=>by have:=lo b o e;have:=HXs.out;omega
 have hlu:∀ b o,ua=some ⟨b,o,none⟩→b≠w.heap.size+1:=fun b o e=>by have:=lu b o e;have:=HXs.out;omega
 have hw6:w.heap.size+1<w5.heap.size:=by have:=HXs.out;have:=k6.size;omega
 have HL:=Lib.hid (And.intro hlo hlu)
 have HW6:=Lib.hid (show w5.heap.size≤(w5.alloc (.cells #[.int .i64 ((allN p).length:Int),.slice oa (tapeF (allN p) [] zs).1.length oc,.slice ua (tapeF (allN p) [] zs).2.length uc] 57)).heap.size from kA.size)
 clear hro hru k6 lo lu hlo hlu kA
 generalize w5.alloc _=U at *
 generalize hTF:tapeF (allN p) [] zs=TF at *
 clear hTF
 have t1:=hTB.cell 1 rfl
 by_cases hbig:200<TF.1.length
 ·rw[if_pos hbig] at HE
  rw[if_neg (fun h=>h.2 hbig)] at HV
  have HZ:=Lib.hid (And.intro HE.out HV.out)
  have hbi:(200:Int)<(TF.1.length:Int):=by omega
  have hR:=HRV.out.kp KA.out
  have r0:=hR.cell 0 rfl
  have r1:=hR.cell 1 rfl
  have r2:=hR.cell 2 rfl
  have r3:=hR.cell 3 rfl
  have r4:=hR.cell 4 rfl
  have f0:=hR.2.1 0
  have f1:=hR.2.1 1
  have f2:=hR.2.1 2
  have f3:=hR.2.1 3
  have f4:=hR.2.1 4
  have HRR:=Lib.hid hR
  clear hR
  go_wp2_with fail
  generalize hW9:((((World.setCell _ _ _).setCell _ _).setCell _ _).setCell _ _).setCell _ _=W9
  obtain⟨hF,hK,_⟩:=box5_set HRR.out (KV.out.trans KA.out) (show w.heap.size≤w.heap.size+1 by omega) nofun nofun nofun nofun nofun _ _ _ _ _ hW9
  have s0:=hF.cell 0 rfl
  have s1:=hF.cell 1 rfl
  have s2:=hF.cell 2 rfl
  have s3:=hF.cell 3 rfl
  have s4:=hF.cell 4 rfl
  refine bodyPost_ret (v:=.tuple #[.agg #[.int .i64 0,.slice none 0 0,.slice none 0 0,.int .i64 0,.slice none 0 0],.int .i64 5]) (by simp[results,Tryz.results36,go_sem,s0,s1,s2,s3,s4]) rfl ?_
  exact rsy_no HZ.out.1 HZ.out.2 hK
 rw[if_neg hbig] at HE
 rw[if_pos ⟨HPB.out,hbig⟩] at HV
 have hbi:¬ (200:Int)<(TF.1.length:Int):=by omega
 obtain⟨pn,hpn⟩:∃ pn:Nat,prec=(pn:Int):=⟨prec.toNat,by omega⟩
 subst hpn
 go_upto_region 21 with fail
 have kd:=(Kp.refl U).drew
 have KD:=Lib.hid (KA.out.trans kd)
 have HTB:=Lib.hid (hTB.kp kd)
 have H0U:=Lib.hid (H0V.out.kp KD.out)
 have hSd:(fun w'=>w'.cell? ⟨w5.heap.size,0,none⟩=some (.int .i64 ((allN p).length:Int))∧w'.cell? ⟨w5.heap.size,1,none⟩=some (.slice oa TF.1.length oc)∧w'.cell? ⟨w5.heap.size,2,none⟩=some (.slice ua TF.2.length uc)∧w'.cell? ⟨w.heap.size,1,none⟩=some (.slice p.pa p.ps.length p.pc)) U.drew:=⟨HTB.out.cell 0 rfl,HTB.out.cell 1 rfl,HTB.out.cell 2 rfl,H0U.out.cell 1 rfl⟩
 have HIv:=Lib.hid (r16ranges_any p.ps p.pa p.pc B pn U.drew (HATV.out.2.2.1.1.kp KD.out) (by omega) (fun d hd=>HDe.out d (List.mem_append_right _ hd)) (by omega) (by omega) (HTV.out.kp KD.out))
 refine wp_region_held_drew (S:=fun w'=>w'.cell? ⟨w5.heap.size,0,none⟩=some (.int .i64 ((allN p).length:Int))∧w'.cell? ⟨w5.heap.size,1,none⟩=some (.slice oa TF.1.length oc)∧w'.cell? ⟨w5.heap.size,2,none⟩=some (.slice ua TF.2.length uc)∧w'.cell? ⟨w.heap.size,1,none⟩=some (.slice p.pa p.ps.length p.pc)) (by kernel_rfl) hSd (fun hHeld=>?_)
 clear hSd t1 hTB kd
 refine tk 0 ?_;refine tk 1 ?_;refine tk 2 ?_;refine tk 3 ?_;refine tk 4 ?_;refine tk 5 ?_;(try simp only[aput])
 refine cm 6 (fun K hK=>?_)
 (go_simp;go_fit HIv.out;rintro r w7 ⟨v7,zr,rfl,hOz,hmz,hvz⟩)
 have k7:=hOz.1
 have HT7:=Lib.hid (HTB.out.kp k7)
 have H07:=Lib.hid (H0U.out.kp k7)
 refine hK.out _ _ ⟨HT7.out.cell 0 rfl,HT7.out.cell 1 rfl,HT7.out.cell 2 rfl,H07.out.cell 1 rfl⟩ (fun hHeld=>?_)
 clear hK K
 obtain⟨za,zc,rfl,_,_,hri⟩:=hOz.value
 have HRI:=Lib.hid hri
 have HZa:=Lib.hid (show ∀ b o,za=some ⟨b,o,none⟩→b≠w.heap.size+1 from fun b o e=>by
  have h1:=(hOz.2.1.lt b (by subst e;simp[Value.ownBlock])).1
  have h2:U.heap.size≤U.drew.heap.size:=(Kp.refl U).drew.size
  have h3:=HW6.out
  omega)
 refine tk 7 ?_;(try simp only[aput])
 have HUs:=Lib.hid (show U.drew.heap.size≤w7.heap.size from k7.size)
 have KK7:=Lib.hid (KD.out.trans k7)
 have HOz:=Lib.hid (And.intro (HOo.out.1.kp ((Kp.refl U).drew.trans k7)) (HOo.out.2.kp ((Kp.refl U).drew.trans k7)))
 have HMZ:=Lib.hid (And.intro hmz hvz)
 clear hri hOz k7 hmz hvz
 have hR:=HRV.out.kp KK7.out
 have r0:=hR.cell 0 rfl
 have r1:=hR.cell 1 rfl
 have r2:=hR.cell 2 rfl
 have r3:=hR.cell 3 rfl
 have r4:=hR.cell 4 rfl
 have f0:=hR.2.1 0
 have f1:=hR.2.1 1
 have f2:=hR.2.1 2
 have f3:=hR.2.1 3
 have f4:=hR.2.1 4
 have HRR:=Lib.hid hR
 clear hR
 refine cm 8 (fun K hK=>?_)
 go_simp
 generalize hW9:((((World.setCell _ _ _).setCell _ _).setCell _ _).setCell _ _).setCell _ _=W9
 obtain⟨hF,hK9,hU⟩:=box5_set HRR.out (KV.out.trans KK7.out) (show w.heap.size≤w.heap.size+1 by omega) nofun nofun nofun nofun nofun _ _ _ _ _ hW9
 have hne (b j:Nat) (hb:b≠w.heap.size+1):W9.cell? ⟨b,j,none⟩=w7.cell? ⟨b,j,none⟩:=hU.2.2.2.1 ⟨b,j,none⟩ hb
 refine hK.out _ _ ⟨(hne _ 0 (by omega)).trans (HT7.out.cell 0 rfl),(hne _ 1 (by omega)).trans (HT7.out.cell 1 rfl),(hne _ 2 (by omega)).trans (HT7.out.cell 2 rfl),(hne _ 1 (by omega)).trans (H07.out.cell 1 rfl)⟩ (fun hHeld=>?_)
 clear hK K r0 r1 r2 r3 r4 f0 f1 f2 f3 f4
 refine tk 9 ?_;(try simp only[aput])
 refine wpAnyH_done (by kernel_rfl) ?_ _
 have s0:=hF.cell 0 rfl
 have s1:=hF.cell 1 rfl
 have s2:=hF.cell 2 rfl
 have s3:=hF.cell 3 rfl
 have s4:=hF.cell 4 rfl
 go_wp2_with fail
 refine bodyPost_ret (v:=.tuple #[.agg #[.int .i64 ((allN p).length:Int),.slice oa TF.1.length oc,.slice ua TF.2.length uc,.int .i64 ((stN p).length:Int),.slice za zr.length zc],.int .i64 0]) (by simp[results,Tryz.results36,go_sem,s0,s1,s2,s3,s4]) rfl ?_
 have hsz:w5.heap.size≤W9.heap.size:=by
  have h2:U.heap.size≤w7.heap.size:=Nat.le_trans (Kp.refl U).drew.size HUs.out
  have h3:=HW6.out
  have h4:=hU.2.2.2.2
  omega
 refine⟨⟨((allN p).length:Int),oa,oc,TF.1,ua,uc,TF.2,(p.ss.length:Int),za,zc,zr⟩,by rw[HE.out,HSl.out];rfl,⟨(rowV_upd HOz.out.1 hU HL.out.1).up hsz,(rowV_upd HOz.out.2 hU HL.out.2).up hsz,rowI_upd HRI.out hU HZa.out,HMZ.out.2⟩,?_,hK9⟩
 rw[HV.out]
 show (_,_,_,_,zr.map valI)=_
 rw[HMZ.out.1]
 rfl
end Go.Proofs.YteidgoldnllabaaGreatDoor
