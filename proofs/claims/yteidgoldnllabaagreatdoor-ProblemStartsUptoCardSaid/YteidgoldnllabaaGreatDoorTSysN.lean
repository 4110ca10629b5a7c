/-
  Walks: problem.System.
-/
import Derived.Test.YteidgoldnllabaaGreatDoorTIvlN
set_option maxHeartbeats 16000000
set_option maxRecDepth 20000
namespace Go.Proofs.YteidgoldnllabaaGreatDoor
open Go.RowKit Go.Sort
theorem sys1_any (q:Qe) (d:De) (nb:Nat) (w:World) (hn:w.cell? ⟨nb,0,none⟩=some (.string d.name)) :
  Calls Tryz.prog 85 #[.agg #[.string q.name,.int .i64 q.e.kind,.int .i64 q.e.rn,.int .i64 q.e.rd,.string q.e.name,.int .i64 q.e.pw,.slice q.e.a q.e.l.length q.e.c],.pointer (some ⟨nb,0,none⟩)] w fun r w'=>r=.returned (.bool (decide (q.name=d.name)))∧Kp w w':=by
 have k1:Kp w (w.alloc (.cells #[.string q.name,.int .i64 q.e.kind,.int .i64 q.e.rn,.int .i64 q.e.rd,.string q.e.name,.int .i64 q.e.pw,.slice q.e.a q.e.l.length q.e.c] 73)):=(Kp.refl w).alloc _
 have h0:BoxV (w.alloc (.cells #[.string q.name,.int .i64 q.e.kind,.int .i64 q.e.rn,.int .i64 q.e.rd,.string q.e.name,.int .i64 q.e.pw,.slice q.e.a q.e.l.length q.e.c] 73)) w.heap.size q.cells:=BoxV.new w q.cells _ _ rfl
 have hn2:=k1.cell hn
 have hs:=str_eq q.name d.name
 go_enter Tryz.func85,Tryz.ntmps85
 go_upto_region 1 with fail
 generalize w.alloc _=W at *
 have q0:=h0.cell 0 rfl
 clear h0 hn
 go_wp2
 go_ret
 exact⟨by simp,k1⟩
theorem ex_one (x:Ex):∀ u∈x.cells,u.oneCell'=true:=by
 intro u hu
 simp only[Ex.cells,List.mem_cons,List.not_mem_nil,or_false] at hu
 rcases hu with rfl | rfl | rfl | rfl | rfl | rfl <;> rfl
theorem infoExS:(Tryz.prog.info? 71).map (fun i=>(i.zero,i.size,i.bytes))=some (some (.agg #[.int .i64 0,.int .i64 0,.int .i64 0,.string ⟨#[]⟩,.int .i64 0,.slice none 0 0]),6,72):=by kernel_rfl
abbrev OwnEx (wb w:World) (v:Value) (zs:List Ex):Prop:=OwnV Ex.cells 6 71 wb w v zs
theorem rowX_of {w:World} {B:Nat} {a:Option Addr} {l:List Ex} (h:RowV Ex.cells 6 w B a l):RowX w B a l:=fun i x hx=>by
 obtain⟨b,o,e,hb,hc⟩:=h i x hx
 exact⟨b,o,e,hb,hc 0 _ rfl,hc 1 _ rfl,hc 2 _ rfl,hc 3 _ rfl,hc 4 _ rfl,hc 5 _ rfl⟩
theorem row_ex1 (w:World) (x:Ex) (T:TypeId):∀ (i:Nat) (y:Ex),[x][i]? = some y→∀ (j:Nat) (u:Value),y.cells[j]? = some u→(w.alloc (.cells #[.int .i64 x.kind,.int .i64 x.rn,.int .i64 x.rd,.string x.name,.int .i64 x.pw,.slice x.a x.l.length x.c] T)).cell? ((⟨w.heap.size,0,none⟩:Addr).add (i*6+j))=some u:=fun i y hy j u hj=>by
 match i,hy with
 | 0,hy =>
  cases hy
  have:=(BoxV.new w x.cells T _ rfl).1 j u hj
  rw[addr_add,Nat.zero_mul,Nat.zero_add]
  exact this
 | i+1,hy=>simp at hy
theorem box5_set {w W:World} {g:Nat} {v0 v1 v2 v3 v4:Value} (h:BoxV W g [v0,v1,v2,v3,v4]) (k:Kp w W) (hg:w.heap.size≤g) (n0:∀ n:Int,v0≠.int .u32 n) (n1:∀ n:Int,v1≠.int .u32 n) (n2:∀ n:Int,v2≠.int .u32 n) (n3:∀ n:Int,v3≠.int .u32 n) (n4:∀ n:Int,v4≠.int .u32 n) (x0 x1 x2 x3 x4:Value) {W':World} (hW:(((((W.setCell ⟨g,0,none⟩ x0).setCell ⟨g,1,none⟩ x1).setCell ⟨g,2,none⟩ x2).setCell ⟨g,3,none⟩ x3).setCell ⟨g,4,none⟩ x4)=W') :
  BoxV W' g [x0,x1,x2,x3,x4]∧Kp w W'∧Upd g W W':=by
 subst hW
 have h1:=h.set (i:=0) (by simp) x0
 have h2:=h1.set (i:=1) (by simp) x1
 have h3:=h2.set (i:=2) (by simp) x2
 have h4:=h3.set (i:=3) (by simp) x3
 have h5:=h4.set (i:=4) (by simp) x4
 exact⟨h5,((((k.set hg x0).set hg x1).set hg x2).set hg x3).set hg x4,(((((Upd.refl g W).step (h.cell 0 rfl) n0 x0).step (h1.cell 1 rfl) n1 x1).step (h2.cell 2 rfl) n2 x2).step (h3.cell 3 rfl) n3 x3).step (h4.cell 4 rfl) n4 x4⟩
theorem rowI_upd {g:Nat} {w W:World} {a:Option Addr} {zs:List RI} (h:RowI w a zs) (hU:Upd g w W) (hne:∀ b o,a=some ⟨b,o,none⟩→b≠g):RowI W a zs:=fun i x hx=>by
 obtain⟨b,o,e,hr,h0,h1,h2,h3,h4,h5,h6⟩:=h i x hx
 have key (j:Nat):W.cell? ⟨b,j,none⟩=w.cell? ⟨b,j,none⟩:=hU.2.2.2.1 ⟨b,j,none⟩ (hne b o e)
 exact⟨b,o,e,hU.rdI hr,(key _).trans h0,(key _).trans h1,(key _).trans h2,(key _).trans h3,(key _).trans h4,(key _).trans h5,(key _).trans h6⟩
theorem rowV_upd {α:Type} {cells:α→List Value} {k g:Nat} {w W:World} {B:Nat} {a:Option Addr} {zs:List α} (h:RowV cells k w B a zs) (hU:Upd g w W) (hne:∀ b o,a=some ⟨b,o,none⟩→b≠g):RowV cells k W B a zs:=fun i x hx=>by
 obtain⟨b,o,e,hb,hc⟩:=h i x hx
 exact⟨b,o,e,hb,fun j v hj=>(hU.2.2.2.1 ⟨b,_,none⟩ (hne b o e)).trans (hc j v hj)⟩
theorem sys_no {w w':World} {p:Pr} {s:ByteArray} {prec e:Int} (hE:sysE p s prec=e) (hV:sysV p s prec=Sy.zero.val) (k:Kp w w') :
  SysOut w p s prec (.returned (.tuple #[.agg #[.int .i64 0,.slice none 0 0,.slice none 0 0,.int .i64 0,.slice none 0 0],.int .i64 e])) w' :=
 ⟨Sy.zero,by rw[hE];rfl,⟨fun i x h=>by simp[Sy.zero] at h,fun i x h=>by simp[Sy.zero] at h,fun i x h=>by simp[Sy.zero] at h,fun z h=>by simp[Sy.zero] at h⟩,hV.symm,k,Nat.le_refl _⟩
theorem system_any (p:Pr) (s:ByteArray) (prec:Int) (w:World) (B:Nat) (hat:p.at w B) (hB:B≤w.heap.size) (hT:Tab w) :
  Calls Tryz.prog 28 #[.agg #[.slice p.sa p.ss.length p.sc,.slice p.pa p.ps.length p.pc,.slice p.ma p.ms.length p.mc,.int .i64 p.tn,.int .i64 p.td],.string s,.int .i64 prec] w (SysOut w p s prec):=by
 have k1:Kp w ((w.alloc (.cells #[.slice p.sa p.ss.length p.sc,.slice p.pa p.ps.length p.pc,.slice p.ma p.ms.length p.mc,.int .i64 p.tn,.int .i64 p.td] 27)).alloc (.cells #[.int .i64 0,.slice none 0 0,.slice none 0 0,.int .i64 0,.slice none 0 0] 60)):=((Kp.refl w).alloc _).alloc _
 have h0:BoxV ((w.alloc (.cells #[.slice p.sa p.ss.length p.sc,.slice p.pa p.ps.length p.pc,.slice p.ma p.ms.length p.mc,.int .i64 p.tn,.int .i64 p.td] 27)).alloc (.cells #[.int .i64 0,.slice none 0 0,.slice none 0 0,.int .i64 0,.slice none 0 0] 60)) w.heap.size p.cells:=(BoxV.new w p.cells _ _ rfl).kp ((Kp.refl _).alloc _)
 have h1:BoxV ((w.alloc (.cells #[.slice p.sa p.ss.length p.sc,.slice p.pa p.ps.length p.pc,.slice p.ma p.ms.length p.mc,.int .i64 p.tn,.int .i64 p.td] 27)).alloc (.cells #[.int .i64 0,.slice none 0 0,.slice none 0 0,.int .i64 0,.slice none 0 0] 60)) (w.heap.size+1) [.int .i64 0,.slice none 0 0,.slice none 0 0,.int .i64 0,.slice none 0 0]:=BoxV.new _ [_,_,_,_,_] _ _ (by simp)
 go_enter Tryz.func28,Tryz.ntmps28
 go_upto_region 1 with fail
 generalize World.alloc _ _=W at *
 have HAT:=Lib.hid (Pr.at_kp hat k1)
 have HC:=Lib.hid (pvalid_any p W B HAT.out (Nat.le_trans hB k1.size))
 have HPr:=Lib.hid fun W':World=>(pprecise_any prec W').mono (R':=fun r w'=>r=.returned (.bool (preB prec))∧Kp W' w') fun r w' h=>⟨h.1,by rw[h.2];exact Kp.refl _⟩
 have HM:=Lib.hid fun W' (k:Kp W W')=>pmode_any p s W' B (Pr.at_kp HAT.out k) (Nat.le_trans (Nat.le_trans hB k1.size) k.size)
 have HT:=Lib.hid (hT.kp k1)
 have HBw:=Lib.hid hB
 have HWs:=Lib.hid (show w.heap.size+1<W.heap.size from h1.2.2)
 have HR:=Lib.hid h1
 have H0:=Lib.hid h0
 have q0:=h0.cell 0 rfl
 have q1:=h0.cell 1 rfl
 have q2:=h0.cell 2 rfl
 have q3:=h0.cell 3 rfl
 have q4:=h0.cell 4 rfl
 have K1:=Lib.hid k1
 clear h0 h1 k1 hat hB hT
 cases hf:okF p with
 | false =>
  rw[hf] at HC
  have HZ:=Lib.hid (show sysE p s prec=1∧sysV p s prec=Sy.zero.val from ⟨by unfold sysE;rw[if_pos hf],by unfold sysV modeO;rw[hf];rfl⟩)
  clear hf
  go_wp2_with (first
   | (go_at_call 17;go_fit HC.out;rintro r w2 ⟨rfl,k2⟩;clear q0 q1 q2 q3 q4;have hR:=HR.out.kp k2;have r0:=hR.cell 0 rfl;have r1:=hR.cell 1 rfl;have r2:=hR.cell 2 rfl;have r3:=hR.cell 3 rfl;have r4:=hR.cell 4 rfl;have f0:=hR.2.1 0;have f1:=hR.2.1 1;have f2:=hR.2.1 2;have f3:=hR.2.1 3;have f4:=hR.2.1 4;have HRR:=Lib.hid hR;clear hR)
   | fail)
  generalize hW9:((((World.setCell _ _ _).setCell _ _).setCell _ _).setCell _ _).setCell _ _=W9
  obtain⟨hF,hK,_⟩:=box5_set HRR.out (K1.out.trans k2) (show w.heap.size≤w.heap.size+1 by omega) nofun nofun nofun nofun nofun _ _ _ _ _ hW9
  have s0:=hF.cell 0 rfl
  have s1:=hF.cell 1 rfl
  have s2:=hF.cell 2 rfl
  have s3:=hF.cell 3 rfl
  have s4:=hF.cell 4 rfl
  refine bodyPost_ret (v:=.tuple #[.agg #[.int .i64 0,.slice none 0 0,.slice none 0 0,.int .i64 0,.slice none 0 0],.int .i64 1]) (by simp[results,Tryz.results28,go_sem,s0,s1,s2,s3,s4]) rfl ?_
  exact sys_no HZ.out.1 HZ.out.2 hK
 | true =>
 rw[hf] at HC
 have hok:=hf
 have hnf:¬ okF p=false:=by rw[hf];decide
 clear hf
 cases hb:preB prec with
 | false =>
  rw[hb] at HPr
  have HZ:=Lib.hid (show sysE p s prec=2∧sysV p s prec=Sy.zero.val from ⟨by unfold sysE;rw[if_neg hnf,if_pos hb],by unfold sysV;cases modeO p s <;> simp[hb]⟩)
  clear hb hok hnf
  go_wp2_with (first
   | (go_at_call 17;go_fit HC.out;rintro r w2 ⟨rfl,k2⟩;clear q0 q1 q2 q3 q4)
   | (go_at_call 83;go_fit (HPr.out w2);rintro r w3 ⟨rfl,k3⟩;have hR:=HR.out.kp (k2.trans k3);have r0:=hR.cell 0 rfl;have r1:=hR.cell 1 rfl;have r2:=hR.cell 2 rfl;have r3:=hR.cell 3 rfl;have r4:=hR.cell 4 rfl;have f0:=hR.2.1 0;have f1:=hR.2.1 1;have f2:=hR.2.1 2;have f3:=hR.2.1 3;have f4:=hR.2.1 4;have HRR:=Lib.hid hR;clear hR)
   | fail)
  generalize hW9:((((World.setCell _ _ _).setCell _ _).setCell _ _).setCell _ _).setCell _ _=W9
  obtain⟨hF,hK,_⟩:=box5_set HRR.out (K1.out.trans (k2.trans k3)) (show w.heap.size≤w.heap.size+1 by omega) nofun nofun nofun nofun nofun _ _ _ _ _ hW9
  have s0:=hF.cell 0 rfl
  have s1:=hF.cell 1 rfl
  have s2:=hF.cell 2 rfl
  have s3:=hF.cell 3 rfl
  have s4:=hF.cell 4 rfl
  refine bodyPost_ret (v:=.tuple #[.agg #[.int .i64 0,.slice none 0 0,.slice none 0 0,.int .i64 0,.slice none 0 0],.int .i64 2]) (by simp[results,Tryz.results28,go_sem,s0,s1,s2,s3,s4]) rfl ?_
  exact sys_no HZ.out.1 HZ.out.2 hK
 | true =>
 rw[hb] at HPr
 have hpr:=hb
 have hnb:¬ preB prec=false:=by rw[hb];decide
 clear hb
 cases hmo:modeO p s with
 | none =>
  rw[hmo] at HM
  have HZ:=Lib.hid (show sysE p s prec=7∧sysV p s prec=Sy.zero.val from ⟨by unfold sysE;rw[if_neg hnf,if_neg hnb,hmo],by unfold sysV;rw[hmo]⟩)
  clear hmo hpr hnb hok hnf
  simp only[Option.getD_none,Option.isSome_none] at HM
  go_wp2_with (first
   | (go_at_call 17;go_fit HC.out;rintro r w2 ⟨rfl,k2⟩;clear q0 q1 q2 q3 q4)
   | (go_at_call 83;go_fit (HPr.out w2);rintro r w3 ⟨rfl,k3⟩;have q0:=(H0.out.kp (k2.trans k3)).cell 0 rfl;have q1:=(H0.out.kp (k2.trans k3)).cell 1 rfl;have q2:=(H0.out.kp (k2.trans k3)).cell 2 rfl;have q3:=(H0.out.kp (k2.trans k3)).cell 3 rfl;have q4:=(H0.out.kp (k2.trans k3)).cell 4 rfl)
   | (go_at_call 18;go_fit (HM.out w3 (k2.trans k3));rintro r w4 ⟨rfl,k4⟩;have kA:=(Kp.refl w4).alloc (.cells #[.string Mo.zero.name,.slice Mo.zero.fa Mo.zero.fs.length Mo.zero.fc,.slice Mo.zero.ea Mo.zero.es.length Mo.zero.ec] 41);have hR:=HR.out.kp (k2.trans (k3.trans (k4.trans kA)));have r0:=hR.cell 0 rfl;have r1:=hR.cell 1 rfl;have r2:=hR.cell 2 rfl;have r3:=hR.cell 3 rfl;have r4:=hR.cell 4 rfl;have f0:=hR.2.1 0;have f1:=hR.2.1 1;have f2:=hR.2.1 2;have f3:=hR.2.1 3;have f4:=hR.2.1 4;have HRR:=Lib.hid hR;clear hR)
   | fail)
  generalize hW9:((((World.setCell _ _ _).setCell _ _).setCell _ _).setCell _ _).setCell _ _=W9
  obtain⟨hF,hK,_⟩:=box5_set HRR.out (K1.out.trans (k2.trans (k3.trans (k4.trans kA)))) (show w.heap.size≤w.heap.size+1 by omega) nofun nofun nofun nofun nofun _ _ _ _ _ hW9
  have s0:=hF.cell 0 rfl
  have s1:=hF.cell 1 rfl
  have s2:=hF.cell 2 rfl
  have s3:=hF.cell 3 rfl
  have s4:=hF.cell 4 rfl
  refine bodyPost_ret (v:=.tuple #[.agg #[.int .i64 0,.slice none 0 0,.slice none 0 0,.int .i64 0,.slice none 0 0],.int .i64 7]) (by simp[results,Tryz.results28,go_sem,s0,s1,s2,s3,s4]) rfl ?_
  exact sys_no HZ.out.1 HZ.out.2 hK
 | some m =>
 rw[hmo] at HM
 have hmm:=modeO_mem hmo
 have HS:=Lib.hid (show ∀ d∈p.ss,∃ q,m.fs.find? (fun q=>decide (q.name=d.name))=some q from fun d hd=>side_some hok hmm.2 hd)
 have HRk:=Lib.hid (rights_ok hok hmm.2)
 have HE:=Lib.hid (show sysE p s prec=if 200<(tapeF (allN p) [] (rightsF p m)).1.length then 5 else 0 by unfold sysE;rw[if_neg hnf,if_neg hnb,hmo])
 have HV:=Lib.hid (show sysV p s prec=if preB prec=true∧¬ 200<(tapeF (allN p) [] (rightsF p m)).1.length then (((allN p).length:Int),(tapeF (allN p) [] (rightsF p m)).1,(tapeF (allN p) [] (rightsF p m)).2,(p.ss.length:Int),p.ps.map (rngV prec.toNat)) else Sy.zero.val by unfold sysV;rw[hmo])
 have hss:=probB_ss (okF_prob hok)
 have HDe:=Lib.hid (probB_de (okF_prob hok))
 have hpp:=preB_iff.1 hpr
 have HPB:=Lib.hid hpr
 have HMm:=Lib.hid hmm.2
 clear hmo hmm hpr hnb hok hnf
 simp only[Option.getD_some,Option.isSome_some] at HM
 go_upto_region 8 with (first
  | (go_at_call 17;go_fit HC.out;rintro r w2 ⟨rfl,k2⟩;clear q0 q1 q2 q3 q4)
  | (go_at_call 83;go_fit (HPr.out w2);rintro r w3 ⟨rfl,k3⟩;have q0:=(H0.out.kp (k2.trans k3)).cell 0 rfl;have q1:=(H0.out.kp (k2.trans k3)).cell 1 rfl;have q2:=(H0.out.kp (k2.trans k3)).cell 2 rfl;have q3:=(H0.out.kp (k2.trans k3)).cell 3 rfl;have q4:=(H0.out.kp (k2.trans k3)).cell 4 rfl)
  | (go_at_call 18;go_fit (HM.out w3 (k2.trans k3));rintro r w4 ⟨rfl,k4⟩)
  | fail)
 have kA:=(Kp.refl w4).alloc (.cells #[.string m.name,.slice m.fa m.fs.length m.fc,.slice m.ea m.es.length m.ec] 41)
 have hMB:BoxV (w4.alloc (.cells #[.string m.name,.slice m.fa m.fs.length m.fc,.slice m.ea m.es.length m.ec] 41)) w4.heap.size m.cells:=BoxV.new w4 m.cells _ _ rfl
 have kWV:=k2.trans (k3.trans (k4.trans kA))
 clear q0 q1 q2 q3 q4 k2 k3 k4 kA
 generalize w4.alloc _=V at *
 have HATV:=Lib.hid (Pr.at_kp HAT.out kWV)
 have HMat:=Lib.hid (HATV.out.2.2.2.2 m HMm.out)
 have HRV:=Lib.hid (HR.out.kp kWV)
 have H0V:=Lib.hid (H0.out.kp kWV)
 have HMB:=Lib.hid hMB
 have KV:=Lib.hid (K1.out.trans kWV)
 have HTV:=Lib.hid (HT.out.kp kWV)
 have q0:=H0V.out.cell 0 rfl
 have HVs:=Lib.hid (show w.heap.size+1<V.heap.size from HRV.out.2.2)
 have HBV:=Lib.hid (show B≤V.heap.size from Nat.le_trans HBw.out (Nat.le_trans (by omega) (Nat.le_of_lt HVs.out)))
 clear hMB kWV HC HPr HM HAT HT HR H0 K1 HWs
 have hmf:∀ (fn:Fn) (first cap:Array Value) (w:World),(Instr.makeFunc fn first cap).run Tryz.prog w=.ok (.func fn first cap) w:=fun _ _ _ _=>rfl
 obtain⟨i0,hi,hz0,hz1,hz2⟩:=info_parts infoExS
 go_upto_region 10 with fail
 go_loopw [10,37] (fun y z wr=>∃ k:Nat,k≤p.ss.length∧z=.int .i64 k∧OwnEx V wr y ((p.ss.take k).map (sideE m))) (fun _ z _=>p.ss.length-(intOf z).toNat)
 case atStart=>exact⟨0,by omega,rfl,OwnV.nil (.refl _)⟩
 case round =>
 obtain⟨k,hk,rfl,hO⟩:=hrel
 have HO:=Lib.hid hO
 have hkw:=hO.1
 by_cases hlt:k<p.ss.length
 ·obtain⟨d,hs⟩:∃ d,p.ss[k]? = some d:=⟨_,List.getElem?_eq_getElem hlt⟩
  obtain⟨b,o,ha,_,hc⟩:=HATV.out.2.1.1.kp hkw k d hs
  have HTk:=Lib.hid (take_map (sideE m) hs)
  obtain⟨q,hq⟩:=HS.out d (List.mem_of_getElem? hs)
  have HSd:=Lib.hid (sideE_some hq)
  have k2:Kp wr (wr.alloc (.cells #[.string d.name,.int .i64 d.ln,.int .i64 d.ld,.int .i64 d.hn,.int .i64 d.hd] 68)):=(Kp.refl wr).alloc _
  have hb2:BoxV (wr.alloc (.cells #[.string d.name,.int .i64 d.ln,.int .i64 d.ld,.int .i64 d.hn,.int .i64 d.hd] 68)) wr.heap.size d.cells:=BoxV.new wr d.cells _ _ rfl
  have y0:wr.cell? ⟨b,o+k*5,none⟩=some (.string d.name):=hc 0 _ rfl;have y1:=hc 1 _ rfl;have y2:=hc 2 _ rfl;have y3:=hc 3 _ rfl;have y4:=hc 4 _ rfl
  have Ha:=ha
  clear hc hs hkw ha hO
  have HQ:=Lib.hid hq
  clear hq
  rw[Ha]
  go_upto_region 12 with fail
  generalize wr.alloc _=W2 at *
  have KW2:=Lib.hid (HO.out.1.trans k2)
  have HO2:=Lib.hid (HO.out.kp k2)
  have HBd:=Lib.hid hb2
  have p1:=(HMB.out.kp KW2.out).cell 1 rfl
  have HFi:=Lib.hid ((findQ_any m.fa m.fs m.fc 85 #[.pointer (some ⟨wr.heap.size,0,none⟩)] W2 B (fun q=>decide (q.name=d.name)) (by have:=HMat.out.1.2.1;omega) (HMat.out.2.1.1.kp KW2.out)
   ⟨fun _ _=>by kernel_rfl,fun x hx w1 h1=>sys1_any x d wr.heap.size w1 ((HBd.out.kp h1).cell 0 rfl)⟩).mono (R':=fun e w'=>(∃ j:Nat,e=.returned (.int .i64 (j:Int))∧m.fs[j]? = some q)∧Kp W2 w') fun e w' h=>And.intro (by
    rcases h.1 with ⟨j,y,h1,h3,h2⟩ | ⟨_,h2⟩
    ·rw[HQ.out] at h2;cases h2;exact⟨j,h1,h3⟩
    ·rw[HQ.out] at h2;cases h2) h.2)
  clear hb2 k2
  go_upto_region 13 with (first
   | (go_at_call 84;go_fit HFi.out;rintro r w5 ⟨⟨j,rfl,hj⟩,k5⟩)
   | fail)
  have hj0:¬ (j:Int)<0:=by omega
  have hjl:j<m.fs.length:=(List.getElem?_eq_some_iff.1 hj).1
  obtain⟨b2,o2,ha2,_,hc2⟩:=HMat.out.2.1.1.kp (KW2.out.trans k5) j q hj
  have z0:w5.cell? ⟨b2,o2+j*7,none⟩=some (.string q.name):=hc2 0 _ rfl;have z1:=hc2 1 _ rfl;have z2:=hc2 2 _ rfl;have z3:=hc2 3 _ rfl;have z4:=hc2 4 _ rfl;have z5:=hc2 5 _ rfl;have z6:=hc2 6 _ rfl
  clear p1
  have p1:=(HMB.out.kp (KW2.out.trans k5)).cell 1 rfl
  have hml:=HMat.out.1.2.1
  have HO5:=Lib.hid (HO2.out.kp k5)
  clear hc2 hj k5
  rw[ha2] at p1
  go_wp2_with (at_builtin;refine wpList_append_vs Ex.cells_len (by decide) ex_one rfl _ _ _ _ rfl i0 _ 72 Tryz.underlying69 hi hz0 hz1 hz2 rfl V _ ((p.ss.take k).map (sideE m)) rfl (HO5.out.kp ((Kp.refl _).alloc _)) ⟨w5.heap.size,0,none⟩ 1 [q.e] 1 rfl rfl (row_ex1 _ _ _) (by simp only[List.length_map,List.length_take,List.length_cons,List.length_nil];omega) (by simp only[List.length_map,List.length_take,List.length_cons,List.length_nil];omega) ?_;intro v' w6 hO6 _ _)
  go_roundw
  case measure=>simp only[intOf];omega
  case rel=>exact⟨_,_,_,_,⟨k+1,by omega,rfl,by rw[← List.map_take,HTk.out,HSd.out];exact hO6⟩,rfl,rfl,rfl,by go_num⟩
 have hk2:k=p.ss.length:=by omega
 subst hk2
 rw[List.take_length] at HO
 clear hO hkw
 obtain⟨rs,hrs⟩:∃ rs,rs=rightsF p m:=⟨_,rfl⟩
 have HRS:=Lib.hid hrs
 have HOr:=Lib.hid (show OwnEx V wr _ rs by rw[hrs];exact HO.out)
 have hrl:rs.length≤4:=by rw[hrs];unfold rightsF;rw[List.length_map];omega
 have HRo:=Lib.hid (show ∀ x∈rs,x.fin∧x.size≤200∧x.at wr wr.heap.size from fun x hx=>by
  rw[hrs] at hx
  obtain⟨h1,q,h2,h3⟩:=HRk.out x hx
  obtain⟨h4,h5⟩:=ex_ok h1
  refine⟨h4,h5,?_⟩
  rw[h3]
  exact Ex.at_up (Ex.at_kp (HMat.out.2.1.2 q h2).2 HO.out.1) (Nat.le_trans HBV.out HO.out.1.size))
 rw[← hrs] at HE HV
 clear hrs HO
 obtain⟨ta,tc,rfl,htc,htr⟩:=HOr.out.row Ex.cells_len ex_one
 have HX:=Lib.hid (rowX_of htr)
 have hal:(allN p).length≤8:=by unfold allN;rw[List.length_append,List.length_map,List.length_map];omega
 have HNm:=Lib.hid (pnames_any p wr B (Pr.at_kp HATV.out HOr.out.1) (by omega) (by omega) (by omega))
 clear q0 htr
 have hq:=H0V.out.kp HOr.out.1
 have q0:=hq.cell 0 rfl
 have q1:=hq.cell 1 rfl
 have q2:=hq.cell 2 rfl
 have q3:=hq.cell 3 rfl
 have q4:=hq.cell 4 rfl
 clear hq
 go_upto_region 16 with (first
  | (go_at_call 77;go_fit HNm.out;rintro r w5 ⟨v5,rfl,hN⟩;obtain⟨na,nc,rfl,hnr⟩:=hN.sl;have hN1:=hN.1)
  | (go_at_call 86;go_fit (tapeOf_any rs ta tc wr.heap.size (allN p) na nc w5 (HX.out.kp hN1) (fun x hx=>Ex.at_kp (HRo.out x hx).2.2 hN1) (fun x hx=>(HRo.out x hx).1) (fun x hx=>(HRo.out x hx).2.1) (by omega) hnr (by omega));rintro r w6 ⟨oa,oc,ua,uc,rfl,hro,hru,k6,lo,lu,hcp⟩;have HCp:=Lib.hid hcp;clear hcp)
  | fail)
 have kA:=(Kp.refl w6).alloc (.cells #[.int .i64 ((allN p).length:Int),.slice oa (tapeF (allN p) [] rs).1.length oc,.slice ua (tapeF (allN p) [] rs).2.length uc] 57)
 have hTB:BoxV (w6.alloc (.cells #[.int .i64 ((allN p).length:Int),.slice oa (tapeF (allN p) [] rs).1.length oc,.slice ua (tapeF (allN p) [] rs).2.length uc] 57)) w6.heap.size [.int .i64 ((allN p).length:Int),.slice oa (tapeF (allN p) [] rs).1.length oc,.slice ua (tapeF (allN p) [] rs).2.length uc]:=BoxV.new w6 [_,_,_] _ _ rfl
 have KA:=Lib.hid (HOr.out.1.trans (hN1.trans (k6.trans kA)))
 have HOo:=Lib.hid (And.intro (hro.kp kA) (hru.kp kA))
 have HVw:=Lib.hid (show V.heap.size≤w5.heap.size from Nat.le_trans HOr.out.1.size hN1.size)
 have hlo:∀ b o,oa=some ⟨b,o,none⟩→b≠w.heap.size+1:=fun b o e=>by have:=lo b o e;have:=HVw.out;have:=HVs.out;omega
 have hlu:∀ b o,ua=some ⟨b,o,none⟩→b≠w.heap.size+1:=fun b o e=>by have:=lu b o e;have:=HVw.out;have:=HVs.out;omega
 have hw6:w.heap.size+1<w6.heap.size:=by have:=HVw.out;have:=HVs.out;have:=k6.size;omega
 have HL:=Lib.hid (And.intro hlo hlu)
 clear q0 q1 q2 q3 q4 hro hru k6 lo lu hlo hlu hN hN1 hnr kA HNm HRo HX
 have HW6:=Lib.hid (show w6.heap.size≤(w6.alloc (.cells #[.int .i64 ((allN p).length:Int),.slice oa (tapeF (allN p) [] rs).1.length oc,.slice ua (tapeF (allN p) [] rs).2.length uc] 57)).heap.size from ((Kp.refl w6).alloc _).size)
 generalize w6.alloc _=U at *
 generalize hTF:tapeF (allN p) [] rs=TF at *
 clear hTF
 have t1:=hTB.cell 1 rfl
 by_cases hbig:200<TF.1.length
 ·rw[if_pos hbig] at HE
  rw[if_neg (fun h=>h.2 hbig)] at HV
  have HZ:=Lib.hid (And.intro HE.out HV.out)
  have hbi:(200:Int)<(TF.1.length:Int):=by omega
  have hR:=HRV.out.kp KA.out;have r0:=hR.cell 0 rfl;have r1:=hR.cell 1 rfl;have r2:=hR.cell 2 rfl;have r3:=hR.cell 3 rfl;have r4:=hR.cell 4 rfl;have f0:=hR.2.1 0;have f1:=hR.2.1 1;have f2:=hR.2.1 2;have f3:=hR.2.1 3;have f4:=hR.2.1 4;have HRR:=Lib.hid hR;clear hR
  go_wp2_with fail
  generalize hW9:((((World.setCell _ _ _).setCell _ _).setCell _ _).setCell _ _).setCell _ _=W9
  obtain⟨hF,hK,_⟩:=box5_set HRR.out (KV.out.trans KA.out) (show w.heap.size≤w.heap.size+1 by omega) nofun nofun nofun nofun nofun _ _ _ _ _ hW9
  have s0:=hF.cell 0 rfl
  have s1:=hF.cell 1 rfl
  have s2:=hF.cell 2 rfl
  have s3:=hF.cell 3 rfl
  have s4:=hF.cell 4 rfl
  refine bodyPost_ret (v:=.tuple #[.agg #[.int .i64 0,.slice none 0 0,.slice none 0 0,.int .i64 0,.slice none 0 0],.int .i64 5]) (by simp[results,Tryz.results28,go_sem,s0,s1,s2,s3,s4]) rfl ?_
  exact sys_no HZ.out.1 HZ.out.2 hK
 rw[if_neg hbig] at HE
 rw[if_pos ⟨HPB.out,hbig⟩] at HV
 have hbi:¬ (200:Int)<(TF.1.length:Int):=by omega
 obtain⟨pn,hpn⟩:∃ pn:Nat,prec=(pn:Int):=⟨prec.toNat,by omega⟩
 subst hpn
 go_upto_region 18 with fail
 have kd:=(Kp.refl U).drew
 have KD:=Lib.hid (KA.out.trans kd)
 have HTB:=Lib.hid (hTB.kp kd)
 have H0U:=Lib.hid (H0V.out.kp KD.out)
 have hSd:U.drew.cell? ⟨w6.heap.size,0,none⟩=some (.int .i64 ((allN p).length:Int))∧U.drew.cell? ⟨w6.heap.size,1,none⟩=some (.slice oa TF.1.length oc)∧U.drew.cell? ⟨w6.heap.size,2,none⟩=some (.slice ua TF.2.length uc)∧U.drew.cell? ⟨w.heap.size,0,none⟩=some (.slice p.sa p.ss.length p.sc)∧U.drew.cell? ⟨w.heap.size,1,none⟩=some (.slice p.pa p.ps.length p.pc):=⟨HTB.out.cell 0 rfl,HTB.out.cell 1 rfl,HTB.out.cell 2 rfl,H0U.out.cell 0 rfl,H0U.out.cell 1 rfl⟩
 have HIv:=Lib.hid (ivls_any p.ps p.pa p.pc B pn U.drew (HATV.out.2.2.1.1.kp KD.out) (by omega) (fun d hd=>HDe.out d (List.mem_append_right _ hd)) (by omega) (by omega) (HTV.out.kp KD.out))
 refine wp_region_held_drew (S:=fun w'=>w'.cell? ⟨w6.heap.size,0,none⟩=some (.int .i64 ((allN p).length:Int))∧w'.cell? ⟨w6.heap.size,1,none⟩=some (.slice oa TF.1.length oc)∧w'.cell? ⟨w6.heap.size,2,none⟩=some (.slice ua TF.2.length uc)∧w'.cell? ⟨w.heap.size,0,none⟩=some (.slice p.sa p.ss.length p.sc)∧w'.cell? ⟨w.heap.size,1,none⟩=some (.slice p.pa p.ps.length p.pc)) (by kernel_rfl) hSd (fun hHeld=>?_)
 clear hSd t1 hTB kd
 refine tk 0 ?_;refine tk 1 ?_;refine tk 2 ?_;refine tk 3 ?_;refine tk 4 ?_;refine tk 5 ?_;refine tk 6 ?_;(try simp only[aput])
 refine cm 7 (fun K hK=>?_)
 (go_simp;go_fit HIv.out;rintro r w7 ⟨v7,zs,rfl,hOz,hmz,hvz⟩)
 have k7:=hOz.1
 have HT7:=Lib.hid (HTB.out.kp k7)
 have H07:=Lib.hid (H0U.out.kp k7)
 refine hK.out _ _ ⟨HT7.out.cell 0 rfl,HT7.out.cell 1 rfl,HT7.out.cell 2 rfl,H07.out.cell 0 rfl,H07.out.cell 1 rfl⟩ (fun hHeld=>?_)
 clear hK K
 obtain⟨za,zc,rfl,_,_,hri⟩:=hOz.value
 have HRI:=Lib.hid hri
 have HZa:=Lib.hid (show ∀ b o,za=some ⟨b,o,none⟩→b≠w.heap.size+1 from fun b o e=>by
  have h1:=(hOz.2.1.lt b (by subst e;simp[Value.ownBlock])).1
  have h2:U.heap.size≤U.drew.heap.size:=(Kp.refl U).drew.size
  have h3:=HW6.out
  omega)
 refine tk 8 ?_;(try simp only[aput])
 have HUs:=Lib.hid (show U.drew.heap.size≤w7.heap.size from k7.size)
 have KK7:=Lib.hid (KD.out.trans k7)
 have HOz:=Lib.hid (And.intro (HOo.out.1.kp ((Kp.refl U).drew.trans k7)) (HOo.out.2.kp ((Kp.refl U).drew.trans k7)))
 have HMZ:=Lib.hid (And.intro hmz hvz)
 clear hri hOz k7 hmz hvz
 have hR:=HRV.out.kp KK7.out;have r0:=hR.cell 0 rfl;have r1:=hR.cell 1 rfl;have r2:=hR.cell 2 rfl;have r3:=hR.cell 3 rfl;have r4:=hR.cell 4 rfl;have f0:=hR.2.1 0;have f1:=hR.2.1 1;have f2:=hR.2.1 2;have f3:=hR.2.1 3;have f4:=hR.2.1 4;have HRR:=Lib.hid hR;clear hR
 refine cm 9 (fun K hK=>?_)
 go_simp
 generalize hW9:((((World.setCell _ _ _).setCell _ _).setCell _ _).setCell _ _).setCell _ _=W9
 obtain⟨hF,hK9,hU⟩:=box5_set HRR.out (KV.out.trans KK7.out) (show w.heap.size≤w.heap.size+1 by omega) nofun nofun nofun nofun nofun _ _ _ _ _ hW9
 have hne (b j:Nat) (hb:b≠w.heap.size+1):W9.cell? ⟨b,j,none⟩=w7.cell? ⟨b,j,none⟩:=hU.2.2.2.1 ⟨b,j,none⟩ hb
 refine hK.out _ _ ⟨(hne _ 0 (by omega)).trans (HT7.out.cell 0 rfl),(hne _ 1 (by omega)).trans (HT7.out.cell 1 rfl),(hne _ 2 (by omega)).trans (HT7.out.cell 2 rfl),(hne _ 0 (by omega)).trans (H07.out.cell 0 rfl),(hne _ 1 (by omega)).trans (H07.out.cell 1 rfl)⟩ (fun hHeld=>?_)
 clear hK K r0 r1 r2 r3 r4 f0 f1 f2 f3 f4
 refine tk 10 ?_;(try simp only[aput])
 refine wpAnyH_done (by kernel_rfl) ?_ _
 have s0:=hF.cell 0 rfl
 have s1:=hF.cell 1 rfl
 have s2:=hF.cell 2 rfl
 have s3:=hF.cell 3 rfl
 have s4:=hF.cell 4 rfl
 go_wp2_with fail
 refine bodyPost_ret (v:=.tuple #[.agg #[.int .i64 ((allN p).length:Int),.slice oa TF.1.length oc,.slice ua TF.2.length uc,.int .i64 (p.ss.length:Int),.slice za zs.length zc],.int .i64 0]) (by simp[results,Tryz.results28,go_sem,s0,s1,s2,s3,s4]) rfl ?_
 have hsz:w6.heap.size≤W9.heap.size:=by
  have h2:U.heap.size≤w7.heap.size:=Nat.le_trans (Kp.refl U).drew.size HUs.out
  have h3:=HW6.out
  have h4:=hU.2.2.2.2
  omega
 refine⟨⟨((allN p).length:Int),oa,oc,TF.1,ua,uc,TF.2,(p.ss.length:Int),za,zc,zs⟩,by rw[HE.out];rfl,⟨(rowV_upd HOz.out.1 hU HL.out.1).up hsz,(rowV_upd HOz.out.2 hU HL.out.2).up hsz,rowI_upd HRI.out hU HZa.out,HMZ.out.2⟩,?_,hK9,HCp.out⟩
 rw[HV.out]
 show (_,_,_,_,zs.map valI)=_
 rw[HMZ.out.1]
 rfl
end Go.Proofs.YteidgoldnllabaaGreatDoor
