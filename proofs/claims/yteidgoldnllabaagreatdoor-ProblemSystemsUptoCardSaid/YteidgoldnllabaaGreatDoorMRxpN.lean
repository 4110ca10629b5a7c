/-
  Walks: ref16.Expr; the law's tapes.
-/
import Derived.Test.YteidgoldnllabaaGreatDoorMRtpN
import Derived.Test.YteidgoldnllabaaGreatDoorMLawQa
import Derived.Test.YteidgoldnllabaaGreatDoorMRivN
import Derived.Test.YteidgoldnllabaaGreatDoorMRchN
import Derived.Test.YteidgoldnllabaaGreatDoorMRsyN
set_option maxHeartbeats 16000000
set_option maxRecDepth 20000
namespace Go.Proofs.YteidgoldnllabaaGreatDoor
open Go.RowKit
open Lib (hid)
section
open Go.RowKit Go.Sort
theorem tapes_same (i:Int) (ops:List Opn) (us:List Int) (n m:Nat) (oa oa' ua ua':Option Addr) (oc oc' uc uc' B1 B2 B3 B4:Nat) (w:World) (hn:ops.length=n) (hm:us.length=m) (h1:RowV Opn.cells 6 w B1 oa ops) (h2:RowV numC 1 w B2 ua us) (h3:RowV Opn.cells 6 w B3 oa' ops) (h4:RowV numC 1 w B4 ua' us) (ln:ops.length≤1100000) (lm:us.length≤1100000) :
  Calls Tryz.prog 35 #[.agg #[.int .i64 i,.slice oa n oc,.slice ua m uc],.agg #[.int .i64 i,.slice oa' n oc',.slice ua' m uc']] w fun r w'=>r=.returned (.bool true)∧Kp w w':=by
 have k1:Kp w ((w.alloc (.cells #[.int .i64 i,.slice oa n oc,.slice ua m uc] 57)).alloc (.cells #[.int .i64 i,.slice oa' n oc',.slice ua' m uc'] 57)):=((Kp.refl w).alloc _).alloc _
 have h0:BoxV ((w.alloc (.cells #[.int .i64 i,.slice oa n oc,.slice ua m uc] 57)).alloc (.cells #[.int .i64 i,.slice oa' n oc',.slice ua' m uc'] 57)) w.heap.size [.int .i64 i,.slice oa n oc,.slice ua m uc]:=(BoxV.new w [_,_,_] _ _ rfl).kp ((Kp.refl _).alloc _)
 have h9:BoxV ((w.alloc (.cells #[.int .i64 i,.slice oa n oc,.slice ua m uc] 57)).alloc (.cells #[.int .i64 i,.slice oa' n oc',.slice ua' m uc'] 57)) (w.heap.size+1) [.int .i64 i,.slice oa' n oc',.slice ua' m uc']:=BoxV.new _ [_,_,_] _ _ (by simp)
 go_enter Tryz.func35,Tryz.ntmps35
 go_upto_region 1 with fail
 generalize World.alloc _ _=W at *
 have HE1:=hid (eqop_self oa oa' ops ops n oc oc' B1 B3 W hn ln (h1.kp k1) (h3.kp k1) rfl)
 have HE2:=hid fun W' (k:Kp W W')=>eqint_self ua ua' us us m uc uc' B2 B4 W' hm lm (h2.kp (k1.trans k)) (h4.kp (k1.trans k)) rfl
 have H0:=hid h0
 have H9:=hid h9
 have K1:=hid k1
 have q0:=h0.cell 0 rfl;have q1:=h0.cell 1 rfl;have q2:=h0.cell 2 rfl
 have e0:=h9.cell 0 rfl;have e1:=h9.cell 1 rfl;have e2:=h9.cell 2 rfl
 clear h0 h9 k1 h1 h2 h3 h4 ln lm hn hm
 go_wp2_with (first
  | (go_at_call 59;go_fit HE1.out;rintro r w2 ⟨rfl,k2⟩;clear q0 q1 q2 e0 e1 e2;have hq:=H0.out.kp k2;have he:=H9.out.kp k2;have q0:=hq.cell 0 rfl;have q1:=hq.cell 1 rfl;have q2:=hq.cell 2 rfl;have e0:=he.cell 0 rfl;have e1:=he.cell 1 rfl;have e2:=he.cell 2 rfl;clear hq he)
  | (go_at_call 58;go_fit (HE2.out w2 k2);rintro r w3 ⟨rfl,k3⟩)
  | fail)
 go_ret
 exact⟨rfl,K1.out.trans (k2.trans k3)⟩
end
section
open Go.RowKit Go.Sort
theorem boxes1_any (x y:RI) (w:World) (hx:x.rd w) (hy:y.rd w) (ha:x.all=false) :
  Calls Tryz.prog 107 #[.agg #[.bool x.lo.neg,.slice x.lo.a x.lo.xs.length x.lo.c,.int .i64 x.lo.e,.bool x.hi.neg,.slice x.hi.a x.hi.xs.length x.hi.c,.int .i64 x.hi.e,.bool x.all],.agg #[.bool y.lo.neg,.slice y.lo.a y.lo.xs.length y.lo.c,.int .i64 y.lo.e,.bool y.hi.neg,.slice y.hi.a y.hi.xs.length y.hi.c,.int .i64 y.hi.e,.bool y.all]] w fun e w'=>e=.returned (.bool (eqI8 x y))∧Kp w w':=by
 have HA:=hid ha
 clear ha
 go_enter Tryz.func107,Tryz.ntmps107
 go_upto_region 1 with fail
 generalize hW:((w.alloc _).alloc _)=W at *
 have hk:Kp w W:=hW▸((Kp.refl w).alloc _).alloc _
 have hS:(W.cell? ⟨w.heap.size,0,none⟩=some (.bool x.lo.neg)∧W.cell? ⟨w.heap.size,1,none⟩=some (.slice x.lo.a x.lo.xs.length x.lo.c)∧W.cell? ⟨w.heap.size,2,none⟩=some (.int .i64 x.lo.e)∧W.cell? ⟨w.heap.size,3,none⟩=some (.bool x.hi.neg)∧W.cell? ⟨w.heap.size,4,none⟩=some (.slice x.hi.a x.hi.xs.length x.hi.c)∧W.cell? ⟨w.heap.size,5,none⟩=some (.int .i64 x.hi.e)∧W.cell? ⟨w.heap.size,6,none⟩=some (.bool x.all))∧W.cell? ⟨w.heap.size+1,0,none⟩=some (.bool y.lo.neg)∧W.cell? ⟨w.heap.size+1,1,none⟩=some (.slice y.lo.a y.lo.xs.length y.lo.c)∧W.cell? ⟨w.heap.size+1,2,none⟩=some (.int .i64 y.lo.e)∧W.cell? ⟨w.heap.size+1,3,none⟩=some (.bool y.hi.neg)∧W.cell? ⟨w.heap.size+1,4,none⟩=some (.slice y.hi.a y.hi.xs.length y.hi.c)∧W.cell? ⟨w.heap.size+1,5,none⟩=some (.int .i64 y.hi.e)∧W.cell? ⟨w.heap.size+1,6,none⟩=some (.bool y.all):=by rw[← hW];exact keep77 (Kp.refl _) (by simp)
 clear hW
 have HE:=hid (r5equal_any x y W (hx.kp hk) (hy.kp hk))
 obtain⟨⟨s0,s1,s2,s3,s4,s5,s6⟩,t0,t1,t2,t3,t4,t5,t6⟩:=hS
 rw[HA.out] at s6 HE
 clear hx hy
 go_wp2_with (first | (go_at_call 108;go_fit HE.out;rintro r w2 ⟨rfl,k2⟩) | fail)
 go_ret
 exact⟨rfl,hk.trans k2⟩
theorem eqI8_val {w w':World} {x y:RI} (hx:x.rd w) (hy:y.rd w') (vx:x.lo.vl=true∧x.hi.vl=true) (vy:y.lo.vl=true∧y.hi.vl=true) (h:valI x=valI y):eqI8 x y=true:=by
 have h1:x.lo.dy=y.lo.dy:=congrArg Prod.fst h
 have h2:x.hi.dy=y.hi.dy:=congrArg (fun q=>q.2.1) h
 have h3:x.all=y.all:=congrArg (fun q=>q.2.2) h
 unfold eqI8
 rw[eqR_of hx.1 hy.1 vx.1 vy.1 h1,eqR_of hx.2 hy.2 vx.2 vy.2 h2,h3]
 cases y.all <;> rfl
theorem boxes_same (zs ys:List RI) (n:Nat) (a b:Option Addr) (c d:Nat) (w:World) (hz:RowI w a zs) (hy:RowI w b ys) (hl:zs.length≤1100000) (hn1:zs.length=n) (hn2:ys.length=n) (hv:zs.map valI=ys.map valI)
  (vz:∀ z∈zs,z.lo.vl=true∧z.hi.vl=true) (vy:∀ z∈ys,z.lo.vl=true∧z.hi.vl=true) (hal:∀ z∈zs,z.all=false) :
  Calls Tryz.prog 48 #[.slice a n c,.slice b n d] w fun e w'=>e=.returned (.bool true)∧Kp w w':=by
 have hp:AnsII Tryz.prog 107 #[] w zs ys eqI8 :=
  ⟨fun _ _=>by kernel_rfl,fun x hx y hy' w1 k=>boxes1_any x y w1 ((hz.rdI hx).kp k) ((hy.rdI hy').kp k) (hal x hx)⟩
 have hT:allII eqI8 zs ys=true:=allII_true.2 ⟨by rw[hn1,hn2],fun i x y h1 h2=>by
  have hx:=List.mem_of_getElem? h1
  have hy':=List.mem_of_getElem? h2
  refine eqI8_val (hz.rdI hx) (hy.rdI hy') (vz x hx) (vy y hy') ?_
  have e1:(zs.map valI)[i]? = some (valI x):=by rw[List.getElem?_map,h1];rfl
  have e2:(ys.map valI)[i]? = some (valI y):=by rw[List.getElem?_map,h2];rfl
  rw[hv,e2] at e1
  injection e1 with e1
  exact e1.symm⟩
 have hC:=eqfII a b zs ys c d _ _ w eqI8 hl hz hy hp
 rw[hT,hn1,hn2] at hC
 have HC:=hid hC
 clear hC hz hy hp hT hn1 hn2 hv vz vy hal
 go_enter Tryz.func48,Tryz.ntmps48
 go_wp2_with (first | (go_at_call 106;go_fit HC.out;rintro r w2 ⟨rfl,k2⟩) | fail)
 go_ret
 exact⟨rfl,k2⟩
end
section
open Go.RowKit Go.Sort
theorem sysV_small (p:Pr) (s:ByteArray) (prec:Int):(sysV p s prec).2.1.length≤200∧(sysV p s prec).2.2.1.length≤4∧(sysV p s prec).2.2.2.2.length≤4∧∀ v∈(sysV p s prec).2.2.2.2,v.2.2=false:=by
 unfold sysV
 cases hm:modeO p s with
 | none=>exact⟨Nat.zero_le _,Nat.zero_le _,Nat.zero_le _,fun v h=>by cases h⟩
 | some m =>
 have hss:=probB_ss (okF_prob (modeO_mem hm).1)
 simp only
 split
 rotate_left
 ·exact⟨Nat.zero_le _,Nat.zero_le _,Nat.zero_le _,fun v h=>by cases h⟩
 rename_i h
 refine⟨by have:=h.2;simp only;omega,?_,?_,fun v hv=>?_⟩
 ·simp only
  rw[tapeF_outs]
  unfold rightsF
  rw[List.length_map]
  omega
 ·simp only
  rw[List.length_map]
  omega
 obtain⟨d,_,rfl⟩:=List.mem_map.1 hv
 rfl
def SyxO (w:World) (V:Int×List Opn×List Int×Int×List (Dy×Dy×Bool)) (E:Int) (r:Ending) (w':World):Prop :=
 ∃ x:Sy,r=.returned (.tuple #[.agg #[.int .i64 x.ins,.slice x.oa x.ops.length x.oc,.slice x.ua x.outs.length x.uc,.int .i64 x.st,.slice x.pa x.ps.length x.pc],.int .i64 E])∧x.at w'∧x.val=V∧Kp w w'
theorem syxO_sys {w w':World} {p:Pr} {s:ByteArray} {prec:Int} {r:Ending} (h:SysOut w p s prec r w'):SyxO w (sysV p s prec) (sysE p s prec) r w':=by
 obtain⟨x,h1,h2,h3,h4,_⟩:=h
 exact⟨x,h1,h2,h3,h4⟩
theorem syxO_rsy {w w':World} {p:Pr} {s:ByteArray} {prec:Int} {r:Ending} (h:RsyO w p s prec r w'):SyxO w (sysV p s prec) (sysE p s prec) r w':=h
theorem systems_same (x y:Sy) (w:World) (B1 B2 B3 B4:Nat) (he:x.val=y.val) (ho:RowV Opn.cells 6 w B1 x.oa x.ops) (hu:RowV numC 1 w B2 x.ua x.outs) (hp:RowI w x.pa x.ps) (ho':RowV Opn.cells 6 w B3 y.oa y.ops) (hu':RowV numC 1 w B4 y.ua y.outs) (hp':RowI w y.pa y.ps)
  (vx:∀ z∈x.ps,z.lo.vl=true∧z.hi.vl=true) (vy:∀ z∈y.ps,z.lo.vl=true∧z.hi.vl=true) (hal:∀ z∈x.ps,z.all=false) (l1:x.ops.length≤200) (l2:x.outs.length≤4) (l3:x.ps.length≤4) :
  Calls Tryz.prog 37 #[.agg #[.int .i64 x.ins,.slice x.oa x.ops.length x.oc,.slice x.ua x.outs.length x.uc,.int .i64 x.st,.slice x.pa x.ps.length x.pc],.agg #[.int .i64 y.ins,.slice y.oa y.ops.length y.oc,.slice y.ua y.outs.length y.uc,.int .i64 y.st,.slice y.pa y.ps.length y.pc]] w fun r w'=>r=.returned (.bool true)∧Kp w w':=by
 obtain⟨ins,oa,oc,ops,ua,uc,outs,st,pa,pc,ps⟩:=x
 obtain⟨ins',oa',oc',ops',ua',uc',outs',st',pa',pc',ps'⟩:=y
 simp only[Sy.val,Prod.mk.injEq] at he
 obtain⟨rfl,rfl,rfl,rfl,he5⟩:=he
 simp only at *
 have hpl:ps'.length=ps.length:=by have:=congrArg List.length he5;rw[List.length_map,List.length_map] at this;exact this.symm
 rw[hpl]
 have k1:Kp w ((w.alloc (.cells #[.int .i64 ins,.slice oa ops.length oc,.slice ua outs.length uc,.int .i64 st,.slice pa ps.length pc] 60)).alloc (.cells #[.int .i64 ins,.slice oa' ops.length oc',.slice ua' outs.length uc',.int .i64 st,.slice pa' ps.length pc'] 60)):=((Kp.refl w).alloc _).alloc _
 have h0:BoxV ((w.alloc (.cells #[.int .i64 ins,.slice oa ops.length oc,.slice ua outs.length uc,.int .i64 st,.slice pa ps.length pc] 60)).alloc (.cells #[.int .i64 ins,.slice oa' ops.length oc',.slice ua' outs.length uc',.int .i64 st,.slice pa' ps.length pc'] 60)) w.heap.size [.int .i64 ins,.slice oa ops.length oc,.slice ua outs.length uc,.int .i64 st,.slice pa ps.length pc]:=(BoxV.new w [_,_,_,_,_] _ _ rfl).kp ((Kp.refl _).alloc _)
 have h9:BoxV ((w.alloc (.cells #[.int .i64 ins,.slice oa ops.length oc,.slice ua outs.length uc,.int .i64 st,.slice pa ps.length pc] 60)).alloc (.cells #[.int .i64 ins,.slice oa' ops.length oc',.slice ua' outs.length uc',.int .i64 st,.slice pa' ps.length pc'] 60)) (w.heap.size+1) [.int .i64 ins,.slice oa' ops.length oc',.slice ua' outs.length uc',.int .i64 st,.slice pa' ps.length pc']:=BoxV.new _ [_,_,_,_,_] _ _ (by simp)
 go_enter Tryz.func37,Tryz.ntmps37
 go_upto_region 1 with fail
 generalize World.alloc _ _=W at *
 have HT:=hid (tapes_same ins ops outs ops.length outs.length oa oa' ua ua' oc oc' uc uc' B1 B2 B3 B4 W rfl rfl (ho.kp k1) (hu.kp k1) (ho'.kp k1) (hu'.kp k1) (by omega) (by omega))
 have HX:=hid fun W' (k:Kp W W')=>boxes_same ps ps' ps.length pa pa' pc pc' W' (hp.kp (k1.trans k)) (hp'.kp (k1.trans k)) (by omega) rfl hpl he5 vx vy hal
 have H0:=hid h0
 have H9:=hid h9
 have K1:=hid k1
 have q0:=h0.cell 0 rfl;have q1:=h0.cell 1 rfl;have q2:=h0.cell 2 rfl;have q3:=h0.cell 3 rfl;have q4:=h0.cell 4 rfl
 have e0:=h9.cell 0 rfl;have e1:=h9.cell 1 rfl;have e2:=h9.cell 2 rfl;have e3:=h9.cell 3 rfl;have e4:=h9.cell 4 rfl
 clear h0 h9 k1 ho hu hp ho' hu' hp' vx vy hal l1 l2 l3 hpl he5
 go_wp2_with (first
  | (go_at_call 35;go_fit HT.out;rintro r w2 ⟨rfl,k2⟩;clear q0 q1 q2 q3 q4 e0 e1 e2 e3 e4;have hq:=H0.out.kp k2;have he:=H9.out.kp k2;have q0:=hq.cell 0 rfl;have q1:=hq.cell 1 rfl;have q2:=hq.cell 2 rfl;have q3:=hq.cell 3 rfl;have q4:=hq.cell 4 rfl;have e0:=he.cell 0 rfl;have e1:=he.cell 1 rfl;have e2:=he.cell 2 rfl;have e3:=he.cell 3 rfl;have e4:=he.cell 4 rfl;clear hq he)
  | (go_at_call 48;go_fit (HX.out w2 k2);rintro r w3 ⟨rfl,k3⟩)
  | fail)
 go_ret
 exact⟨rfl,K1.out.trans (k2.trans k3)⟩
theorem Systems_ok (p:Pr) (s:ByteArray) (prec:Int) (w:World) (hat:p.at w w.heap.size) (_hs:s.size≤maxLen) (hT:Tab w) :
  Calls Tryz.prog 7 #[.agg #[.slice p.sa p.ss.length p.sc,.slice p.pa p.ps.length p.pc,.slice p.ma p.ms.length p.mc,.int .i64 p.tn,.int .i64 p.td],.string s,.int .i64 prec] w fun r w'=>r=.returned (.bool true)∧Kp w w':=by
 have k1:Kp w (w.alloc (.cells #[.slice p.sa p.ss.length p.sc,.slice p.pa p.ps.length p.pc,.slice p.ma p.ms.length p.mc,.int .i64 p.tn,.int .i64 p.td] 27)):=(Kp.refl w).alloc _
 have h0:BoxV (w.alloc (.cells #[.slice p.sa p.ss.length p.sc,.slice p.pa p.ps.length p.pc,.slice p.ma p.ms.length p.mc,.int .i64 p.tn,.int .i64 p.td] 27)) w.heap.size p.cells:=BoxV.new w p.cells _ _ rfl
 go_enter Tryz.func7,Tryz.ntmps7
 go_upto_region 1 with fail
 generalize w.alloc _=W at *
 have HAW:=hid (awakeq_any W (hT.kp k1))
 have HAT:=hid (Pr.at_kp hat k1)
 have HBW:=hid k1.size
 have HSm:=hid fun W' (k:Kp W W')=>small_any p W' w.heap.size (Pr.at_kp HAT.out k) (Nat.le_trans HBW.out k.size)
 have H0:=hid h0
 have K1:=hid k1
 have HSy:=hid fun W' (k:Kp W W')=>(system_any p s prec W' w.heap.size (Pr.at_kp HAT.out k) (Nat.le_trans HBW.out k.size) (hT.kp (k1.trans k))).mono fun _ _=>syxO_sys
 have HRy:=hid fun W' (k:Kp W W')=>(r16system_any p s prec W' w.heap.size (Pr.at_kp HAT.out k) (Nat.le_trans HBW.out k.size) (hT.kp (k1.trans k))).mono fun _ _=>syxO_rsy
 have HSv:=hid (sysV_small p s prec)
 generalize sysV p s prec=V5 at *
 generalize sysE p s prec=E at *
 clear h0 k1 hat hT
 go_upto_region 3 with (first | (go_at_call 13;go_fit HAW.out;rintro r w2 ⟨rfl,k2⟩) | fail)
 have hq:=H0.out.kp k2
 have q0:=hq.cell 0 rfl;have q1:=hq.cell 1 rfl;have q2:=hq.cell 2 rfl;have q3:=hq.cell 3 rfl;have q4:=hq.cell 4 rfl
 have K2:=hid k2
 clear hq k2
 by_cases hlen:(50:Int)<(s.size:Int)
 ·go_wp2_with (first | (go_at_call 14;go_fit (HSm.out w2 K2.out);rintro r w3 ⟨b,rfl,k3⟩;cases b) | fail)
  all_goals
   go_ret
   exact⟨rfl,K1.out.trans (K2.out.trans k3)⟩
 by_cases hpr:(200:Int)<prec
 ·go_wp2_with (first | (go_at_call 14;go_fit (HSm.out w2 K2.out);rintro r w3 ⟨b,rfl,k3⟩;cases b) | fail)
  all_goals
   go_ret
   exact⟨rfl,K1.out.trans (K2.out.trans k3)⟩
 go_upto_region 5 with (first | (go_at_call 14;go_fit (HSm.out w2 K2.out);rintro r w3 ⟨b,rfl,k3⟩;cases b) | fail)
 ·go_ret
  exact⟨rfl,K1.out.trans (K2.out.trans k3)⟩
 have K3:=hid (K2.out.trans k3)
 clear q0 q1 q2 q3 q4 k3
 have hq:=H0.out.kp K3.out
 have q0:=hq.cell 0 rfl;have q1:=hq.cell 1 rfl;have q2:=hq.cell 2 rfl;have q3:=hq.cell 3 rfl;have q4:=hq.cell 4 rfl
 clear hq
 go_upto_region 6 with (first | (go_at_call 28;go_fit (HSy.out w3 K3.out);rintro r w4 ⟨x,rfl,hx,hxv,k4⟩) | fail)
 have kA:=(Kp.refl w4).alloc (.cells #[.int .i64 x.ins,.slice x.oa x.ops.length x.oc,.slice x.ua x.outs.length x.uc,.int .i64 x.st,.slice x.pa x.ps.length x.pc] 60)
 have hs5:BoxV (w4.alloc (.cells #[.int .i64 x.ins,.slice x.oa x.ops.length x.oc,.slice x.ua x.outs.length x.uc,.int .i64 x.st,.slice x.pa x.ps.length x.pc] 60)) w4.heap.size x.cells:=BoxV.new w4 x.cells _ _ rfl
 have HX:=hid (And.intro (hx.1.kp kA) (And.intro (hx.2.1.kp kA) (And.intro (hx.2.2.1.kp kA) hx.2.2.2)))
 have HXV:=hid hxv
 have K5:=hid (K3.out.trans (k4.trans kA))
 have HS5:=hid hs5
 clear q0 q1 q2 q3 q4 k4 kA hx hxv hs5
 generalize World.alloc w4 _=X at *
 have hq:=H0.out.kp K5.out
 have q0:=hq.cell 0 rfl;have q1:=hq.cell 1 rfl;have q2:=hq.cell 2 rfl;have q3:=hq.cell 3 rfl;have q4:=hq.cell 4 rfl
 clear hq
 go_upto_region 7 with (first | (go_at_call 36;go_fit (HRy.out X K5.out);rintro r w6 ⟨y,rfl,hy,hyv,k6⟩) | fail)
 have kA:=(Kp.refl w6).alloc (.cells #[.int .i64 y.ins,.slice y.oa y.ops.length y.oc,.slice y.ua y.outs.length y.uc,.int .i64 y.st,.slice y.pa y.ps.length y.pc] 60)
 have hs7:BoxV (w6.alloc (.cells #[.int .i64 y.ins,.slice y.oa y.ops.length y.oc,.slice y.ua y.outs.length y.uc,.int .i64 y.st,.slice y.pa y.ps.length y.pc] 60)) w6.heap.size y.cells:=BoxV.new w6 y.cells _ _ rfl
 have HY:=hid (And.intro (hy.1.kp kA) (And.intro (hy.2.1.kp kA) (And.intro (hy.2.2.1.kp kA) hy.2.2.2)))
 have kX:=k6.trans kA
 have hs5:=HS5.out.kp kX
 have HX2:=hid (And.intro (HX.out.1.kp kX) (And.intro (HX.out.2.1.kp kX) (And.intro (HX.out.2.2.1.kp kX) HX.out.2.2.2)))
 have K7:=hid (K5.out.trans kX)
 have HXY:=hid (show x.val=y.val from HXV.out.trans hyv.symm)
 clear q0 q1 q2 q3 q4 k6 kA kX hy hyv
 generalize World.alloc w6 _=Y at *
 have e2:x.ops=V5.2.1:=congrArg (fun q=>q.2.1) HXV.out
 have e3:x.outs=V5.2.2.1:=congrArg (fun q=>q.2.2.1) HXV.out
 have e5:x.ps.map valI=V5.2.2.2.2:=congrArg (fun q=>q.2.2.2.2) HXV.out
 have HC:=hid (systems_same x y Y _ _ _ _ HXY.out HX2.out.1 HX2.out.2.1 HX2.out.2.2.1 HY.out.1 HY.out.2.1 HY.out.2.2.1 HX2.out.2.2.2 HY.out.2.2.2 (fun z hz=>HSv.out.2.2.2 (valI z) (by rw[← e5];exact List.mem_map_of_mem hz)) (by rw[e2];exact HSv.out.1) (by rw[e3];exact HSv.out.2.1) (by
  have:=congrArg List.length e5
  rw[List.length_map] at this
  rw[this]
  exact HSv.out.2.2.1))
 clear e2 e3 e5
 have s0:=hs5.cell 0 rfl;have s1:=hs5.cell 1 rfl;have s2:=hs5.cell 2 rfl;have s3:=hs5.cell 3 rfl;have s4:=hs5.cell 4 rfl
 have t0:=hs7.cell 0 rfl;have t1:=hs7.cell 1 rfl;have t2:=hs7.cell 2 rfl;have t3:=hs7.cell 3 rfl;have t4:=hs7.cell 4 rfl
 clear hs5 hs7
 go_wp2_with (first | (go_at_call 37;go_fit HC.out;rintro r w8 ⟨rfl,k8⟩) | fail)
 go_ret
 exact⟨rfl,K1.out.trans (K7.out.trans k8)⟩
end
end Go.Proofs.YteidgoldnllabaaGreatDoor
