/-
  Walks: ref16.ValidSystem.
-/
import Derived.Test.YteidgoldnllabaaGreatDoorMRopN
import Derived.Test.YteidgoldnllabaaGreatDoorMVsyN
import Derived.Test.YteidgoldnllabaaGreatDoorMR2L
namespace Go.Proofs.YteidgoldnllabaaGreatDoor
open Go.RowKit Go.Sort
theorem parB_r5 (x:RI):parB x=(!x.all&&x.vl):=by
 unfold parB RI.vl
 cases x.all <;> simp
theorem any_drop {α:Type} {p:α→Bool} {l:List α} {k:Nat} {x:α} (h:l[k]? = some x):(l.drop k).any p=(p x||(l.drop (k+1)).any p):=by
 obtain⟨h1,e⟩:=List.getElem?_eq_some_iff.1 h
 rw[List.drop_eq_getElem_cons h1,List.any_cons,e]
theorem keep8 {w w':World} (k:Kp w w') {p0 p1 p2 p3 p4 p5 p6 p7:Addr} {v0 v1 v2 v3 v4 v5 v6 v7:Value} (h:w.cell? p0=some v0∧w.cell? p1=some v1∧w.cell? p2=some v2∧w.cell? p3=some v3∧w.cell? p4=some v4∧w.cell? p5=some v5∧w.cell? p6=some v6∧w.cell? p7=some v7) :
  w'.cell? p0=some v0∧w'.cell? p1=some v1∧w'.cell? p2=some v2∧w'.cell? p3=some v3∧w'.cell? p4=some v4∧w'.cell? p5=some v5∧w'.cell? p6=some v6∧w'.cell? p7=some v7 :=
 let ⟨h0,h1,h2,h3,h4,h5,h6,h7⟩:=h
 ⟨k.cell h0,k.cell h1,k.cell h2,k.cell h3,k.cell h4,k.cell h5,k.cell h6,k.cell h7⟩
set_option maxHeartbeats 16000000 in
set_option maxRecDepth 20000 in
theorem r16vsys_any (x:Sy) (w:World) (B1 B2:Nat) (ho:RowV Opn.cells 6 w B1 x.oa x.ops) (hu:RowV numC 1 w B2 x.ua x.outs) (hp:RowI w x.pa x.ps) (lo:x.ops.length≤1100000) (lu:x.outs.length≤1100000) (lp:x.ps.length≤1100000) :
  Calls Tryz.prog 52 #[.agg #[.int .i64 x.ins,.slice x.oa x.ops.length x.oc,.slice x.ua x.outs.length x.uc,.int .i64 x.st,.slice x.pa x.ps.length x.pc]] w fun r w'=>r=.returned (.bool (sysB x))∧Kp w w':=by
 have k1:Kp w (w.alloc (.cells #[.int .i64 x.ins,.slice x.oa x.ops.length x.oc,.slice x.ua x.outs.length x.uc,.int .i64 x.st,.slice x.pa x.ps.length x.pc] 60)):=(Kp.refl w).alloc _
 have h0:BoxV (w.alloc (.cells #[.int .i64 x.ins,.slice x.oa x.ops.length x.oc,.slice x.ua x.outs.length x.uc,.int .i64 x.st,.slice x.pa x.ps.length x.pc] 60)) w.heap.size x.cells:=BoxV.new w x.cells _ _ rfl
 obtain⟨R,hR⟩:∃ R,sysB x=R:=⟨_,rfl⟩
 have HR:=Lib.hid (hR.symm.trans (sysB_eq x))
 rw[hR]
 clear hR
 go_enter Tryz.func52,Tryz.ntmps52
 go_upto_region 1 with fail
 generalize w.alloc _=W at *
 have c0:=h0.cell 0 rfl
 have c1:=h0.cell 1 rfl
 have c2:=h0.cell 2 rfl
 have k2:Kp W (W.alloc (.cells #[.int .i64 x.ins,.slice x.oa x.ops.length x.oc,.slice x.ua x.outs.length x.uc] 57)):=(Kp.refl W).alloc _
 have ht:BoxV (W.alloc (.cells #[.int .i64 x.ins,.slice x.oa x.ops.length x.oc,.slice x.ua x.outs.length x.uc] 57)) W.heap.size [.int .i64 x.ins,.slice x.oa x.ops.length x.oc,.slice x.ua x.outs.length x.uc]:=BoxV.new W [_,_,_] _ _ rfl
 go_upto_region 2 with fail
 generalize W.alloc _=V at *
 have HO:=Lib.hid (ho.kp (k1.trans k2))
 have HU:=Lib.hid (hu.kp (k1.trans k2))
 have HP:=Lib.hid (hp.kp (k1.trans k2))
 have K1:=Lib.hid (k1.trans k2)
 have H0:=Lib.hid (h0.kp k2)
 have HT:=Lib.hid ht
 generalize W.heap.size=tb at *
 have t0:=ht.cell 0 rfl
 have t1:=ht.cell 1 rfl
 have t2:=ht.cell 2 rfl
 have hs:=h0.kp k2
 have s3:=hs.cell 3 rfl
 have s4:=hs.cell 4 rfl
 clear c0 c1 c2 h0 ht ho hu hp k1 k2 hs
 have FIN:=Lib.hid (show R=false→∀ W',Kp V W'→Ending.returned (.bool false)=Ending.returned (.bool R)∧Kp w W' from fun h W' k=>⟨by rw[h],K1.out.trans k⟩)
 by_cases hi0:x.ins<0
 ·have HZ:=Lib.hid (show R=false by rw[HR.out,decide_eq_false (by omega)];rfl)
  go_wp2_with fail
  go_ret
  exact FIN.out HZ.out _ (.refl _)
 by_cases hi8:8<x.ins
 ·have HZ:=Lib.hid (show R=false by rw[HR.out,decide_eq_false (by omega)];rfl)
  go_wp2_with fail
  go_ret
  exact FIN.out HZ.out _ (.refl _)
 by_cases hol:(200:Int)<(x.ops.length:Int)
 ·have HZ:=Lib.hid (show R=false by rw[HR.out,decide_eq_false (by omega)];rfl)
  go_wp2_with fail
  go_ret
  exact FIN.out HZ.out _ (.refl _)
 by_cases hul:(200:Int)<(x.outs.length:Int)
 ·have HZ:=Lib.hid (show R=false by rw[HR.out,decide_eq_false (by omega)];rfl)
  go_wp2_with fail
  go_ret
  exact FIN.out HZ.out _ (.refl _)
 have HR2:=Lib.hid (show R=(opsB x.ins x.ops&&(!(x.outs.any (outZ (x.ins+x.ops.length)))&&(decide (1≤x.st∧x.st≤4∧(x.outs.length:Int)=x.st∧x.ins=x.st+x.ps.length∧x.ps.length≤4)&&!(x.ps.any fun z=>!parB z)))) by rw[HR.out,decide_eq_true (by omega),Bool.true_and])
 have HNo:=Lib.hid (show ¬ (1≤x.st∧x.st≤4∧(x.outs.length:Int)=x.st∧x.ins=x.st+x.ps.length∧x.ps.length≤4)→R=false from fun h=>by rw[HR2.out,decide_eq_false h,Bool.false_and,Bool.and_false,Bool.and_false])
 clear HR
 by_cases h1:x.st<1
 ·have HZ:=Lib.hid (HNo.out (by omega))
  go_wp2_with fail
  go_ret
  exact FIN.out HZ.out _ (.refl _)
 by_cases h2:4<x.st
 ·have HZ:=Lib.hid (HNo.out (by omega))
  go_wp2_with fail
  go_ret
  exact FIN.out HZ.out _ (.refl _)
 by_cases h3:(x.outs.length:Int)=x.st
 rotate_left
 ·have HZ:=Lib.hid (HNo.out (by omega))
  have h3b:((x.outs.length:Int) != x.st)=true:=bne_iff_ne.2 h3
  clear h3
  go_wp2_with fail
  go_ret
  exact FIN.out HZ.out _ (.refl _)
 have h3b:((x.outs.length:Int) != x.st)=false:=by rw[h3];simp
 by_cases h5:(4:Int)<(x.ps.length:Int)
 ·have HZ:=Lib.hid (HNo.out (by omega))
  clear h3
  go_wp2_with fail
  go_ret
  exact FIN.out HZ.out _ (.refl _)
 by_cases h4:x.ins=x.st+x.ps.length
 rotate_left
 ·have HZ:=Lib.hid (HNo.out (by omega))
  have h4b:(x.ins != x.st+(x.ps.length:Int))=true:=bne_iff_ne.2 h4
  clear h3 h4
  go_wp2_with fail
  go_ret
  exact FIN.out HZ.out _ (.refl _)
 have h4b:(x.ins != x.st+(x.ps.length:Int))=false:=by rw[h4];simp
 have HR3:=Lib.hid (show R=(opsB x.ins x.ops&&(!(x.outs.any (outZ (x.ins+x.ops.length)))&&!(x.ps.any fun z=>!parB z))) by rw[HR2.out,decide_eq_true (by omega),Bool.true_and])
 clear h3 h4 HR2 HNo
 go_upto_region 5 with fail
 clear t0 t1 t2 s3 s4
 go_loopw [4] (fun z wr=>∃ k:Nat,k≤x.ops.length∧z=.int .i64 k∧Kp V wr∧opsB x.ins x.ops=opsB (x.ins+k) (x.ops.drop k)) (fun z _=>x.ops.length-(intOf z).toNat)
 case atStart=>exact⟨0,by omega,rfl,.refl _,by simp⟩
 case round =>
 obtain⟨k,hk,rfl,hkv,hz⟩:=hrel
 have HKv:=Lib.hid hkv
 have hT:=HT.out.kp hkv
 have t0:=hT.cell 0 rfl
 have t1:=hT.cell 1 rfl
 have t2:=hT.cell 2 rfl
 clear hT
 by_cases hlt:k<x.ops.length
 ·obtain⟨q,hs⟩:∃ q,x.ops[k]? = some q:=⟨_,List.getElem?_eq_getElem hlt⟩
  obtain⟨b,o,ha,_,hc⟩:=HO.out.kp hkv k q hs
  rw[opsB_at hs] at hz
  have Hz:=Lib.hid hz
  have y0:wr.cell? ⟨b,o+k*6,none⟩=some (.int .i64 q.k):=hc 0 _ rfl
  have y1:wr.cell? ⟨b,o+k*6+1,none⟩=some (.int .i64 q.a):=hc 1 _ rfl
  have y2:wr.cell? ⟨b,o+k*6+2,none⟩=some (.int .i64 q.b):=hc 2 _ rfl
  have y3:wr.cell? ⟨b,o+k*6+3,none⟩=some (.int .i64 q.n):=hc 3 _ rfl
  have y4:wr.cell? ⟨b,o+k*6+4,none⟩=some (.int .i64 q.cn):=hc 4 _ rfl
  have y5:wr.cell? ⟨b,o+k*6+5,none⟩=some (.int .i64 q.cd):=hc 5 _ rfl
  rw[ha] at t1
  clear hs hc ha hkv hz
  have HC:=fun W'=>r16op_any q.k q.a q.b q.n q.cn q.cd (x.ins+k) W'
  have HQ:=Lib.hid (show opB ⟨q.k,q.a,q.b,q.n,q.cn,q.cd⟩ (x.ins+k)=opB q (x.ins+k) from rfl)
  cases hb:opB q (x.ins+k) with
  | false =>
   have HZ:=Lib.hid (show R=false by rw[HR3.out,Hz.out,hb];rfl)
   rw[HQ.out,hb] at HC
   have HC:=Lib.hid HC
   clear hb HQ
   have hwr:IntKind.i64.wrap (x.ins+(k:Int))=x.ins+(k:Int):=IntWalk.i64_in _ (by omega)
   go_upto_region 7 with fail
   have hSd:wr.drew.cell? ⟨tb,0,none⟩=some (.int .i64 x.ins)∧wr.drew.cell? ⟨tb,1,none⟩=some (.slice (some ⟨b,o,none⟩) x.ops.length x.oc)∧wr.drew.cell? ⟨b,o+k*6,none⟩=some (.int .i64 q.k)∧wr.drew.cell? ⟨b,o+k*6+1,none⟩=some (.int .i64 q.a)∧wr.drew.cell? ⟨b,o+k*6+2,none⟩=some (.int .i64 q.b)∧wr.drew.cell? ⟨b,o+k*6+3,none⟩=some (.int .i64 q.n)∧wr.drew.cell? ⟨b,o+k*6+4,none⟩=some (.int .i64 q.cn)∧wr.drew.cell? ⟨b,o+k*6+5,none⟩=some (.int .i64 q.cd):=keep8 (Kp.refl wr).drew ⟨t0,t1,y0,y1,y2,y3,y4,y5⟩
   have HSd:=Lib.hid hSd
   clear t0 t1 t2 y0 y1 y2 y3 y4 y5
   refine wp_region_held_drew (S:=fun w'=>w'.cell? ⟨tb,0,none⟩=some (.int .i64 x.ins)∧w'.cell? ⟨tb,1,none⟩=some (.slice (some ⟨b,o,none⟩) x.ops.length x.oc)∧w'.cell? ⟨b,o+k*6,none⟩=some (.int .i64 q.k)∧w'.cell? ⟨b,o+k*6+1,none⟩=some (.int .i64 q.a)∧w'.cell? ⟨b,o+k*6+2,none⟩=some (.int .i64 q.b)∧w'.cell? ⟨b,o+k*6+3,none⟩=some (.int .i64 q.n)∧w'.cell? ⟨b,o+k*6+4,none⟩=some (.int .i64 q.cn)∧w'.cell? ⟨b,o+k*6+5,none⟩=some (.int .i64 q.cd)) (by kernel_rfl) hSd (fun hHeld=>?_)
   clear hSd
   refine tk 0 ?_;refine tk 1 ?_;refine tk 2 ?_;refine tk 3 ?_;refine tk 4 ?_;refine tk 5 ?_;refine tk 6 ?_;refine tk 7 ?_;refine tk 8 ?_;(try simp only[Act.put,List.getElem_toArray,List.getElem_cons_zero,List.getElem_cons_succ,List.setIfInBounds_toArray,List.set_cons_zero,List.set_cons_succ])
   refine cm 9 (fun K hK=>?_)
   (go_simp;go_fit (HC.out wr.drew);rintro r w4 ⟨rfl,k4⟩)
   refine hK.out _ _ (keep8 k4 HSd.out) (fun hHeld=>?_)
   clear hK K
   refine tk 10 ?_;(try simp only[Act.put,List.getElem_toArray,List.getElem_cons_zero,List.getElem_cons_succ,List.setIfInBounds_toArray,List.set_cons_zero,List.set_cons_succ])
   refine wpAnyH_done (by kernel_rfl) ?_ _
   have HK4:=Lib.hid (HKv.out.trans ((Kp.refl wr).drew.trans k4))
   go_wp2_with fail
   go_ret
   exact FIN.out HZ.out _ HK4.out
  | true =>
  have HZ:=Lib.hid (show opsB x.ins x.ops=opsB (x.ins+(k+1:Nat)) (x.ops.drop (k+1)) by rw[Hz.out,hb,Bool.true_and])
  rw[HQ.out,hb] at HC
  have HC:=Lib.hid HC
  clear hb HQ
  have hwr:IntKind.i64.wrap (x.ins+(k:Int))=x.ins+(k:Int):=IntWalk.i64_in _ (by omega)
  go_upto_region 7 with fail
  have hSd:wr.drew.cell? ⟨tb,0,none⟩=some (.int .i64 x.ins)∧wr.drew.cell? ⟨tb,1,none⟩=some (.slice (some ⟨b,o,none⟩) x.ops.length x.oc)∧wr.drew.cell? ⟨b,o+k*6,none⟩=some (.int .i64 q.k)∧wr.drew.cell? ⟨b,o+k*6+1,none⟩=some (.int .i64 q.a)∧wr.drew.cell? ⟨b,o+k*6+2,none⟩=some (.int .i64 q.b)∧wr.drew.cell? ⟨b,o+k*6+3,none⟩=some (.int .i64 q.n)∧wr.drew.cell? ⟨b,o+k*6+4,none⟩=some (.int .i64 q.cn)∧wr.drew.cell? ⟨b,o+k*6+5,none⟩=some (.int .i64 q.cd):=keep8 (Kp.refl wr).drew ⟨t0,t1,y0,y1,y2,y3,y4,y5⟩
  have HSd:=Lib.hid hSd
  clear t0 t1 t2 y0 y1 y2 y3 y4 y5
  refine wp_region_held_drew (S:=fun w'=>w'.cell? ⟨tb,0,none⟩=some (.int .i64 x.ins)∧w'.cell? ⟨tb,1,none⟩=some (.slice (some ⟨b,o,none⟩) x.ops.length x.oc)∧w'.cell? ⟨b,o+k*6,none⟩=some (.int .i64 q.k)∧w'.cell? ⟨b,o+k*6+1,none⟩=some (.int .i64 q.a)∧w'.cell? ⟨b,o+k*6+2,none⟩=some (.int .i64 q.b)∧w'.cell? ⟨b,o+k*6+3,none⟩=some (.int .i64 q.n)∧w'.cell? ⟨b,o+k*6+4,none⟩=some (.int .i64 q.cn)∧w'.cell? ⟨b,o+k*6+5,none⟩=some (.int .i64 q.cd)) (by kernel_rfl) hSd (fun hHeld=>?_)
  clear hSd
  refine tk 0 ?_;refine tk 1 ?_;refine tk 2 ?_;refine tk 3 ?_;refine tk 4 ?_;refine tk 5 ?_;refine tk 6 ?_;refine tk 7 ?_;refine tk 8 ?_;(try simp only[Act.put,List.getElem_toArray,List.getElem_cons_zero,List.getElem_cons_succ,List.setIfInBounds_toArray,List.set_cons_zero,List.set_cons_succ])
  refine cm 9 (fun K hK=>?_)
  (go_simp;go_fit (HC.out wr.drew);rintro r w4 ⟨rfl,k4⟩)
  refine hK.out _ _ (keep8 k4 HSd.out) (fun hHeld=>?_)
  clear hK K
  refine tk 10 ?_;(try simp only[Act.put,List.getElem_toArray,List.getElem_cons_zero,List.getElem_cons_succ,List.setIfInBounds_toArray,List.set_cons_zero,List.set_cons_succ])
  refine wpAnyH_done (by kernel_rfl) ?_ _
  have HK4:=Lib.hid (HKv.out.trans ((Kp.refl wr).drew.trans k4))
  go_wp2_with fail
  go_roundw
  case measure=>simp only[intOf];omega
  case rel=>exact⟨k+1,by omega,by go_num,HK4.out,HZ.out⟩
 have HR4:=Lib.hid (show R=(!(x.outs.any (outZ (x.ins+x.ops.length)))&&!(x.ps.any fun z=>!parB z)) by
  rw[HR3.out,hz,List.drop_eq_nil_of_le (show x.ops.length≤k by omega),opsB,Bool.true_and])
 clear HR3 hz hkv
 go_upto_region 10 with fail
 clear t0 t1 t2
 go_loopw [5] (fun z wr=>∃ j:Nat,j≤x.outs.length∧z=.int .i64 j∧Kp V wr∧x.outs.any (outZ (x.ins+x.ops.length))=(x.outs.drop j).any (outZ (x.ins+x.ops.length))) (fun z _=>x.outs.length-(intOf z).toNat)
 case atStart=>exact⟨0,by omega,rfl,HKv.out,by simp⟩
 case round =>
 obtain⟨j,hj,rfl,hjv,hz⟩:=hrel
 have HJv:=Lib.hid hjv
 have hT:=HT.out.kp hjv
 have t0:=hT.cell 0 rfl
 have t1:=hT.cell 1 rfl
 have t2:=hT.cell 2 rfl
 clear hT
 by_cases hlt2:j<x.outs.length
 ·obtain⟨q,hs⟩:∃ q,x.outs[j]? = some q:=⟨_,List.getElem?_eq_getElem hlt2⟩
  obtain⟨b,o,ha,_,hc⟩:=HU.out.kp hjv j q hs
  rw[any_drop hs] at hz
  have Hz:=Lib.hid hz
  have y0:wr.cell? ⟨b,o+j*1,none⟩=some (.int .i64 q):=hc 0 _ rfl
  rw[Nat.mul_one] at y0
  rw[ha] at t2
  clear hs hc ha hjv hz
  have hwr:IntKind.i64.wrap (x.ins+(x.ops.length:Int))=x.ins+(x.ops.length:Int):=IntWalk.i64_in _ (by omega)
  by_cases hq0:q<0
  ·have HZ:=Lib.hid (show R=false by rw[HR4.out,Hz.out,show outZ (x.ins+x.ops.length) q=true from decide_eq_true (.inl hq0)];rfl)
   go_upto_region 12 with fail
   go_quiet (fail)
   go_wp2_with fail
   go_ret
   exact FIN.out HZ.out _ (HJv.out.drewN _)
  by_cases hq1:x.ins+(x.ops.length:Int)≤q
  ·have HZ:=Lib.hid (show R=false by rw[HR4.out,Hz.out,show outZ (x.ins+x.ops.length) q=true from decide_eq_true (.inr hq1)];rfl)
   go_upto_region 12 with fail
   go_quiet (fail)
   go_wp2_with fail
   go_ret
   exact FIN.out HZ.out _ (HJv.out.drewN _)
  have HZ:=Lib.hid (show x.outs.any (outZ (x.ins+x.ops.length))=(x.outs.drop (j+1)).any (outZ (x.ins+x.ops.length)) by rw[Hz.out,show outZ (x.ins+x.ops.length) q=false from decide_eq_false (by omega),Bool.false_or])
  go_upto_region 12 with fail
  go_quiet (fail)
  go_wp2_with fail
  go_roundw
  case measure=>simp only[intOf];omega
  case rel=>exact⟨j+1,by omega,by go_num,HJv.out.drewN _,HZ.out⟩
 have HR5:=Lib.hid (show R=!(x.ps.any fun z=>!parB z) by
  rw[HR4.out,hz,List.drop_eq_nil_of_le (show x.outs.length≤j by omega)];rfl)
 clear HR4 hz hjv
 go_upto_region 15 with fail
 clear t0 t1 t2
 go_loopw [6] (fun z wr=>∃ i:Nat,i≤x.ps.length∧z=.int .i64 i∧Kp V wr∧(x.ps.any fun z=>!parB z)=((x.ps.drop i).any fun z=>!parB z)) (fun z _=>x.ps.length-(intOf z).toNat)
 case atStart=>exact⟨0,by omega,rfl,HJv.out,by simp⟩
 case round =>
 obtain⟨i,hi,rfl,hiv,hz⟩:=hrel
 have HIv:=Lib.hid hiv
 have hH:=H0.out.kp hiv
 have s4:=hH.cell 4 rfl
 clear hH
 by_cases hlt3:i<x.ps.length
 rotate_left
 ·have HZ:=Lib.hid (show R=true by
   rw[HR5.out,hz,List.drop_eq_nil_of_le (show x.ps.length≤i by omega)];rfl)
  clear hz hiv
  go_wp2_with fail
  go_ret
  exact⟨by rw[HZ.out];rfl,K1.out.trans HIv.out⟩
 obtain⟨q,hs⟩:∃ q,x.ps[i]? = some q:=⟨_,List.getElem?_eq_getElem hlt3⟩
 obtain⟨b,o,ha,hrd,c0,c1,c2,c3,c4,c5,c6⟩:=HP.out.kp hiv i q hs
 rw[any_drop hs] at hz
 have Hz:=Lib.hid hz
 rw[ha] at s4
 have HV:=Lib.hid (r5Valid_raw q wr hrd)
 clear hs ha hiv hz hrd
 cases hall:q.all with
 | true =>
  have HZ:=Lib.hid (show R=false by rw[HR5.out,Hz.out,parB_r5,hall];rfl)
  rw[hall] at c6
  clear hall HV
  go_wp2_with fail
  go_ret
  exact FIN.out HZ.out _ HIv.out
 | false =>
 rw[hall] at c6 HV
 cases hv:q.vl with
 | false =>
  have HZ:=Lib.hid (show R=false by rw[HR5.out,Hz.out,parB_r5,hall,hv];rfl)
  rw[hv] at HV
  clear hall hv
  go_wp2_with (first | (go_at_call 117;go_fit HV.out;rintro r w4 ⟨rfl,k4⟩) | fail)
  go_ret
  exact FIN.out HZ.out _ (HIv.out.trans k4)
 | true =>
 have HZ:=Lib.hid (show (x.ps.any fun z=>!parB z)=((x.ps.drop (i+1)).any fun z=>!parB z) by rw[Hz.out,parB_r5,hall,hv];rfl)
 rw[hv] at HV
 clear hall hv
 go_wp2_with (first | (go_at_call 117;go_fit HV.out;rintro r w4 ⟨rfl,k4⟩) | fail)
 go_roundw
 case measure=>simp only[intOf];omega
 case rel=>exact⟨i+1,by omega,by go_num,HIv.out.trans k4,HZ.out⟩
end Go.Proofs.YteidgoldnllabaaGreatDoor
