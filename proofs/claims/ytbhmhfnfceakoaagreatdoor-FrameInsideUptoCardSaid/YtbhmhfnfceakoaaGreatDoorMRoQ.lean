/-
  Walks: round.div of any numbers.
-/
import Derived.Test.YtbhmhfnfceakoaaGreatDoorMSumG
import Derived.Test.YtbhmhfnfceakoaaGreatDoorMNrmP
import Derived.Test.YtbhmhfnfceakoaaGreatDoorMAwk3
import Derived.Deep.Cut
import Derived.Test.YtbhmhfnfceakoaaGreatDoorMRoAdd
import Derived.Test.YtbhmhfnfceakoaaGreatDoorMIvMl
import Derived.Test.YtbhmhfnfceakoaaGreatDoorMDotM
import Derived.Deep.RegionHeld3
import Derived.Deep.RegionLaw
import Derived.Deep.CutRange
import Derived.Test.YtbhmhfnfceakoaaGreatDoorMOpen
import Derived.Test.YtbhmhfnfceakoaaGreatDoorMCmp
import Derived.Shelf.Spec.TrailingZeros
namespace Go.Proofs.YtbhmhfnfceakoaaGreatDoor
open Go.RowKit
open Lib (hid)
def quoK (x y:RD) (p:Int) (t:Nat):Nat:=(p+t+bits (val y.xs)-bits (val x.xs)).toNat
def divB (x y:RD) (p:Int) (up:Bool):Dy×Int :=
 if fltB p [x,y]=0 then (if y.xs.length=0 then (.zero,10) else if x.xs.length=0 then (.zero,0) else rndE (quoR (x.neg != y.neg) (val x.xs) (val y.xs) (x.e-y.e) p.toNat up (quoK x y p 2)))
 else (.zero,fltB p [x,y])
set_option maxRecDepth 100000 in
set_option maxHeartbeats 8000000 in
theorem div_rd (x y:RD) (p:Int) (up:Bool) (w:World) (hx:x.rd w) (hy:y.rd w) (hT:Tab w) :
  Calls Tryz.prog 208 #[.agg #[.bool x.neg,.slice x.a x.xs.length x.c,.int .i64 x.e],.agg #[.bool y.neg,.slice y.a y.xs.length y.c,.int .i64 y.e],.int .i64 p,.bool up] w (NumE w (divB x y p up).1 (divB x y p up).2):=by
 obtain⟨D,hD⟩:∃ D,D=divB x y p up:=⟨_,rfl⟩
 have HD:=hid hD
 rw[← hD]
 clear hD
 by_cases hmain:fltB p [x,y]=0∧y.xs.length≠0∧x.xs.length≠0
 ·obtain⟨h0,hy0,hx0⟩:=hmain
  obtain⟨hv,hp0,hp1⟩:=fltB_zero.1 h0
  obtain⟨q,rfl⟩:=Int.eq_ofNat_of_zero_le (show 0≤p by omega)
  have hxo:x.ok w:=⟨hx,by simpa using (List.all_eq_true.1 hv) x (by simp)⟩
  have hyo:y.ok w:=⟨hy,by simpa using (List.all_eq_true.1 hv) y (by simp)⟩
  have zx:=rdok_zero hxo
  have zy:=rdok_zero hyo
  have hxm:val x.xs≠0:=fun h=>hx0 (zx.2 h)
  have hym:val y.xs≠0:=fun h=>hy0 (zy.2 h)
  have hK:((quoK x y q 3:Nat):Int)=max 0 ((q:Int)+3+bits (val y.xs)-bits (val x.xs)):=by unfold quoK;omega
  have hbx:bits (val x.xs)≤4096:=dok_bits (rdok_dy hxo)
  have hby:bits (val y.xs)≤4096:=dok_bits (rdok_dy hyo)
  have hlim:(limbs (val x.xs*2 ^ quoK x y q 3)).length≤256:=limbs_of_bits (by rw[bits_mul_pow hxm];omega)
  have H:=div_of x y q (quoK x y q 3) up w hxo hyo hxm hym (by omega) (by omega) hT hK (fun W a c k hr hc hm hyr=>by
   have h:=divide_any a y.a (limbs (val x.xs*2 ^ quoK x y q 3)) y.xs c y.c W hr hyr hlim hc hyo.1.2.1 hm hyo.1.2.2.1 hym
   rwa [val_limbs] at h)
  have e:quoR (x.neg != y.neg) (val x.xs) (val y.xs) (x.e-y.e) q up (quoK x y q 3)=quoR (x.neg != y.neg) (val x.xs) (val y.xs) (x.e-y.e) q up (quoK x y q 2):=by
   have h3:quoK x y q 3=quoK x y q 2+(quoK x y q 3-quoK x y q 2):=by unfold quoK;omega
   rw[h3]
   exact quoR_more hxm hym (by omega) (by unfold quoK;omega)
  have hDD:D=rndE (rndS (x.neg != y.neg) (val x.xs*2 ^ quoK x y q 3/val y.xs) (x.e-quoK x y q 3-y.e) (decide (0<bits (val x.xs*2 ^ quoK x y q 3 % val y.xs))) q up):=by
   rw[HD.out]
   unfold divB
   rw[if_pos h0,if_neg hy0,if_neg hx0,Int.toNat_natCast,← e]
   unfold quoR
   rw[show x.e-y.e-(quoK x y q 3:Int)=x.e-quoK x y q 3-y.e by omega]
  rw[hDD]
  exact H
 go_enter Tryz.func208,Tryz.ntmps208
 go_wp2_with fail
 generalize hW:(((w.alloc _).alloc _).alloc _)=W at *
 have hk:Kp w W:=hW▸(((Kp.refl w).alloc _).alloc _).alloc _
 have hS:W.cell? ⟨w.heap.size,0,none⟩=some (.bool x.neg)∧W.cell? ⟨w.heap.size,1,none⟩=some (.slice x.a x.xs.length x.c)∧W.cell? ⟨w.heap.size,2,none⟩=some (.int .i64 x.e)∧W.cell? ⟨w.heap.size+1,0,none⟩=some (.bool y.neg)∧W.cell? ⟨w.heap.size+1,1,none⟩=some (.slice y.a y.xs.length y.c)∧W.cell? ⟨w.heap.size+1,2,none⟩=some (.int .i64 y.e):=by rw[← hW];exact keep6 ((Kp.refl _).alloc _) (by simp)
 have hB:Box3 W (w.heap.size+2) (.bool false) (.slice none 0 0) (.int .i64 0):=hW▸Box3.new3 _ _ _ _ _ _ _
 have hsz:W.heap.size=w.heap.size+1+1+1:=by rw[← hW];simp
 clear hW
 have hka:=(Kp.refl W).alloc (.cells #[.bool x.neg,.slice x.a x.xs.length x.c,.int .i64 x.e,.bool y.neg,.slice y.a y.xs.length y.c,.int .i64 y.e] 38)
 have hRw:=rowD_two W x y (hx.kp hk) (hy.kp hk) 38
 rw[hsz] at hRw
 clear hsz
 refine (fault_any p _ [x,y] 2 _ hRw (by simp)).mono ?_
 rintro e w1 ⟨rfl,hk1⟩
 have hS1:=keepRR (hka.trans hk1) hS
 have hB1:=hB.kp (hka.trans hk1)
 have hk2:=hk.trans (hka.trans hk1)
 clear hS hB hk hk1 hka hRw
 by_cases h0:fltB p [x,y]=0
 rotate_left
 ·have hz:(fltB p [x,y]==0)=false:=beq_eq_false_iff_ne.2 h0
  have hz2:(fltB p [x,y] != 0)=true:=by rw[bne,hz];rfl
  have HD2:=hid (show D=(.zero,fltB p [x,y]) by rw[HD.out];unfold divB;rw[if_neg h0])
  clear h0 hS1 hmain
  obtain⟨q0,q1,q2,f0,f1,f2⟩:=hB1
  go_wp2_with fail
  have hst:=stored q0 q1 q2 nofun nofun nofun (.bool false) (.slice none 0 0) (.int .i64 0)
  generalize (((w1.setCell _ _).setCell _ _).setCell _ _)=W9 at hst ⊢
  obtain⟨s0,s1,s2,_,s4,s5,_,_⟩:=hst
  refine bodyPost_ret (v:=.tuple #[.agg #[.bool false,.slice none 0 0,.int .i64 0],.int .i64 (fltB p [x,y])]) (by simp[results,Tryz.results208,go_sem,s0,s1,s2]) rfl ?_
  rw[HD2.out]
  exact numE_zero rfl (s5 _ hk2 (by omega))
 rw[h0]
 obtain⟨q0,q1,q2,f0,f1,f2⟩:=hB1
 obtain⟨s0,s1,s2,t0,t1,t2⟩:=hS1
 by_cases hy0:y.xs.length=0
 ·have hz:((y.xs.length:Int)==0)=true:=beq_iff_eq.2 (by omega)
  have HD3:=hid (show D=(.zero,10) by rw[HD.out];unfold divB;rw[if_pos h0,if_pos hy0])
  clear hy0 h0 hmain
  go_wp2_with fail
  have hst:=stored q0 q1 q2 nofun nofun nofun (.bool false) (.slice none 0 0) (.int .i64 0)
  generalize (((w1.setCell _ _).setCell _ _).setCell _ _)=W9 at hst ⊢
  obtain⟨s0,s1,s2,_,s4,s5,_,_⟩:=hst
  refine bodyPost_ret (v:=.tuple #[.agg #[.bool false,.slice none 0 0,.int .i64 0],.int .i64 10]) (by simp[results,Tryz.results208,go_sem,s0,s1,s2]) rfl ?_
  rw[HD3.out]
  exact numE_zero rfl (s5 _ hk2 (by omega))
 have hx0:x.xs.length=0:=Classical.byContradiction fun h=>hmain ⟨h0,hy0,h⟩
 have hz:((y.xs.length:Int)==0)=false:=beq_eq_false_iff_ne.2 (by omega)
 have hz2:((x.xs.length:Int)==0)=true:=beq_iff_eq.2 (by omega)
 have HD3:=hid (show D=(.zero,0) by rw[HD.out];unfold divB;rw[if_pos h0,if_neg hy0,if_pos hx0])
 clear hy0 h0 hx0 hmain
 go_wp2_with fail
 have hst:=stored q0 q1 q2 nofun nofun nofun (.bool false) (.slice none 0 0) (.int .i64 0)
 generalize (((w1.setCell _ _).setCell _ _).setCell _ _)=W9 at hst ⊢
 obtain⟨s0,s1,s2,_,s4,s5,_,_⟩:=hst
 refine bodyPost_ret (v:=.tuple #[.agg #[.bool false,.slice none 0 0,.int .i64 0],.int .i64 0]) (by simp[results,Tryz.results208,go_sem,s0,s1,s2]) rfl ?_
 rw[HD3.out]
 exact numE_zero rfl (s5 _ hk2 (by omega))
section
theorem two_cast (k:Nat):(2:Int) ^ k=((2 ^ k:Nat):Int):=by norm_cast
theorem prodD_iv {a b:Dy} (ha:a.ok) (hb:b.ok) (h:(chk (prodD a b)).2=0):(prodD a b).iv*2 ^ 16384=a.iv*b.iv:=by
 by_cases ha0:a.m=0
 ·have h1:=Dy.eq_zero ha ha0
  subst h1
  have h2:prodD .zero b=.zero:=by unfold prodD;show canon _ (0*b.m) _=_;rw[Nat.zero_mul,canon_zero]
  rw[h2,Dy.iv_zero,Int.zero_mul,Int.zero_mul]
 by_cases hb0:b.m=0
 ·have h1:=Dy.eq_zero hb hb0
  subst h1
  have h2:prodD a .zero=.zero:=by unfold prodD;show canon _ (a.m*0) _=_;rw[Nat.mul_zero,canon_zero]
  rw[h2,Dy.iv_zero,Int.mul_zero,Int.zero_mul]
 have oa:=ok_odd ha ha0
 have ob:=ok_odd hb hb0
 have oo:=odd_mul oa ob
 have e1:prodD a b=⟨a.neg != b.neg,a.m*b.m,a.e+b.e⟩:=by
  unfold prodD canon
  rw[if_neg (by omega),oddp_odd oo,tz_odd oo]
  simp
 have hr:-16384≤a.e+b.e:=by
  have h2:=chk0 h
  unfold chk at h
  rw[e1] at h
  by_cases hi:inrB (a.m*b.m) (a.e+b.e)=true
  ·unfold inrB at hi
   rw[decide_eq_true_eq] at hi
   rcases hi with hi | hi
   ·exact absurd (bits_eq_zero.1 hi) (by omega)
   ·exact hi.2.1
  ·simp[hi] at h
 have hea:-16384≤a.e:=by rcases ha with h1 | h1 <;> omega
 have heb:-16384≤b.e:=by rcases hb with h1 | h1 <;> omega
 rw[e1]
 show sg (a.neg != b.neg) (a.m*b.m*2 ^ (a.e+b.e+16384).toNat)*2 ^ 16384=sg a.neg (a.m*2 ^ (a.e+16384).toNat)*sg b.neg (b.m*2 ^ (b.e+16384).toNat)
 generalize hq:(16384:Nat)=q
 have hc:a.m*b.m*2 ^ (a.e+b.e+16384).toNat*2 ^ q=a.m*2 ^ (a.e+16384).toNat*(b.m*2 ^ (b.e+16384).toNat):=by
  rw[Nat.mul_mul_mul_comm,← Nat.pow_add,Nat.mul_assoc,← Nat.pow_add]
  congr 2
  omega
 have h2:=two_cast q
 rw[h2]
 generalize 2 ^ q=Q at *
 generalize a.m*b.m*2 ^ (a.e+b.e+16384).toNat=u at *
 generalize a.m*2 ^ (a.e+16384).toNat=v at *
 generalize b.m*2 ^ (b.e+16384).toNat=t at *
 have hc2:(u:Int)*(Q:Int)=(v:Int)*(t:Int):=by rw[← Int.natCast_mul,← Int.natCast_mul,hc]
 cases a.neg <;> cases b.neg <;> simp[sg,Int.neg_mul,Int.mul_neg,hc2]
end
def inR (r' r:List RI):Prop:=r'.length=r.length∧∀ (j:Nat) (x' x:RI),r'[j]? = some x'→r[j]? = some x→x'.pl.ok∧insP x'.pl x.pl
theorem inR.tail {x' x:RI} {r' r:List RI} (h:inR (x'::r') (x::r)):inR r' r:=⟨by simpa using h.1,fun j y' y hy' hy=>h.2 (j+1) y' y (by simpa using hy') (by simpa using hy)⟩
def inM (Z m:List (List RI)):Prop:=Z.length=m.length∧∀ (i:Nat) (r' r:List RI),Z[i]? = some r'→m[i]? = some r→inR r' r
theorem inM.tail {x' x:List RI} {r' r:List (List RI)} (h:inM (x'::r') (x::r)):inM r' r:=⟨by simpa using h.1,fun j y' y hy' hy=>h.2 (j+1) y' y (by simpa using hy') (by simpa using hy)⟩
def endR (x:RI) (d:RD):Prop:=d=x.lo∨d=x.hi
def endsR (r:List RI) (l:List RD):Prop:=l.length=r.length∧∀ (j:Nat) (x:RI) (d:RD),r[j]? = some x→l[j]? = some d→endR x d
theorem endR.ok {w:World} {x:RI} {d:RD} (h:endR x d) (hx:x.rd w) (hv:x.vl=true):d.rd w∧d.vl=true:=by
 have hz:∀ y:RD,y.zr=true→y.vl=true:=fun y hy=>by
  obtain⟨h1,h2,h3⟩:=RD.zr_parts.1 hy
  unfold RD.vl;rw[h1,h2,h3];exact rdZero_vl
 have hp:x.lo.vl=true∧x.hi.vl=true:=by
  unfold RI.vl at hv
  split at hv
  ·rw[Bool.and_eq_true] at hv;exact⟨hz _ hv.1,hz _ hv.2⟩
  ·rw[Bool.and_eq_true,Bool.and_eq_true] at hv;exact⟨hv.1,hv.2.1⟩
 rcases h with rfl | rfl
 ·exact⟨hx.1,hp.1⟩
 exact⟨hx.2,hp.2⟩
def sumZ (c:Nat→Int):Nat→Int
 | 0=>0
 | t+1=>sumZ c t+c t
theorem sumZ_congr {c d:Nat→Int}:∀ {n:Nat},(∀ t,t<n→c t=d t)→sumZ c n=sumZ d n
 | 0,_=>rfl
 | n+1,h=>by show sumZ c n+c n=sumZ d n+d n;rw[sumZ_congr (fun t ht=>h t (by omega)),h n (by omega)]
def dotS (l z:List RD) (k:Nat) (v:Int):Prop:=∃ c:Nat→Int,(∀ (t:Nat) (x y:RD),t<k→l[t]? = some x→z[t]? = some y→c t*2 ^ 16384=x.iv*y.iv)∧v=sumZ c k
theorem dotS.zero (l z:List RD):dotS l z 0 0:=⟨fun _=>0,fun t x y h=>by omega,rfl⟩
theorem dotS.step {l z:List RD} {k:Nat} {v q:Int} {x y:RD} (h:dotS l z k v) (hx:l[k]? = some x) (hy:z[k]? = some y) (hq:q*2 ^ 16384=x.iv*y.iv):dotS l z (k+1) (v+q):=by
 obtain⟨c,h1,rfl⟩:=h
 refine⟨fun t=>if t=k then q else c t,fun t a b ht ha hb=>?_,?_⟩
 ·by_cases e:t=k
  ·subst e;rw[hx] at ha;rw[hy] at hb;cases ha;cases hb;show (if t=t then q else c t)*_=_;rw[if_pos rfl];exact hq
  show (if t=k then q else c t)*_=_;rw[if_neg e];exact h1 t a b (by omega) ha hb
 show sumZ c k+q=sumZ _ k+(if k=k then q else c k)
 rw[if_pos rfl,sumZ_congr (c:=fun t=>if t=k then q else c t) (d:=c) (fun t ht=>if_neg (by omega))]
theorem make_rows (i:Int) (n:Nat) (e:i=n) (hn:n≤9000000) (u:World):(Instr.makeSlice 27 (.int .i64 i) (.int .i64 i)).run Tryz.prog u =
  .ok (.slice (some ⟨u.heap.size,0,none⟩) n n) (u.alloc (.cells (madeCells #[.slice none 0 0] n) 24)):=by
 subst e
 obtain⟨i0,hi,hz0,hz1,hz2⟩:=info_parts infoSlI
 have h:=run_make (P:=Tryz.prog) u 27 24 i0 (.slice none 0 0) Tryz.underlying27 hi hz0 .i64 .i64 (n:Int) (n:Int) (by omega) (Int.le_refl _) (by rw[hz2];omega) (by omega)
 simpa [hz1,Value.cells] using h
theorem OutH.made (w:World) (n:Nat):OutH w (w.alloc (.cells (madeCells #[.slice none 0 0] n) 24)) w.heap.size n []:=by
 have hg:=heap_alloc_new w (.cells (madeCells #[.slice none 0 0] n) 24)
 refine⟨⟨Nat.le_refl _,by simp,by simp⟩,(Kp.refl w).alloc _,fun i _=>frozen_of_row _ _ _ _ _ hg,fun i _ hi=>?_,fun i r h=>by simp at h⟩
 rw[cell_of_row _ _ _ _ _ _ hg,← Array.getElem?_toList,toList_madeCells_one]
 simp[hi]
theorem step_append_ivg {w:World} {ops:Array Oper} {o:Oper} {a:Act} {K:Act→World→Prop} {Q:Exit→Act→World→Prop} {E:Prop} (hgd:o.guard=none) (s x:Operand)
  (ho:o.op=.call { callee:=.builtin .append,args:=#[s,x],argTypes:=#[24,24] })
  (wb:World) (v:Value) (zs:List RI) (hs:a.eval s=v) (hown:OwnN wb w v zs)
  (g c:Nat) (hx:a.eval x=.slice (some ⟨g,0,none⟩) 1 c) (y:RI) (hy:y.rd w)
  (hcell:w.cell? ⟨g,0,none⟩=some (.bool y.lo.neg)∧w.cell? ⟨g,1,none⟩=some (.slice y.lo.a y.lo.xs.length y.lo.c)∧w.cell? ⟨g,2,none⟩=some (.int .i64 y.lo.e)∧w.cell? ⟨g,3,none⟩=some (.bool y.hi.neg)∧w.cell? ⟨g,4,none⟩=some (.slice y.hi.a y.hi.xs.length y.hi.c)∧w.cell? ⟨g,5,none⟩=some (.int .i64 y.hi.e)∧w.cell? ⟨g,6,none⟩=some (.bool y.all)) (hlen:zs.length+1≤9000000)
  (h:∀ a' c' w',OwnN wb w' (.slice a' (zs.length+1) c') (zs++[y])→w.grownBy w' v.ownBlock→(v.ownBlock=(Value.slice a' (zs.length+1) c').ownBlock∨(Value.slice a' (zs.length+1) c').ownBlock=some w.heap.size)→K (a.put o.dst (.slice a' (zs.length+1) c')) w') :
  if Region.wanted o (yielded ops a.tmps)=true then Oper.wp Tryz.prog o a w K Q else E:=by
 have hw:Region.wanted o (yielded ops a.tmps)=true:=by simp[Region.wanted,hgd]
 rw[if_pos hw]
 obtain⟨i0,hi,hz0,hz1,hz2⟩:=info_parts infoIvl
 obtain⟨hk,hown1,hall,hrows⟩:=hown
 obtain⟨g',cap,w',hr,h1,h2,h3,h6⟩:=append_all (P:=Tryz.prog) w NoU 24 o.type wb.heap.size 44 i0 (.agg #[.bool false,.slice none 0 0,.int .i64 0,.bool false,.slice none 0 0,.int .i64 0,.bool false]) 7 88 Tryz.underlying24 hi hz0 hz1 hz2 rfl (by decide) v zs.length (zs.flatMap RI.cells) hown1
  ⟨g,0,none⟩ 1 c y.cells rfl (by
   intro j u hj
   obtain⟨h0,h1,h2,h3,h4,h5,h6⟩:=hcell
   match j,hj with
   | 0,hj=>cases hj;simpa [Addr.add] using h0
   | 1,hj=>cases hj;simpa [Addr.add] using h1
   | 2,hj=>cases hj;simpa [Addr.add] using h2
   | 3,hj=>cases hj;simpa [Addr.add] using h3
   | 4,hj=>cases hj;simpa [Addr.add] using h4
   | 5,hj=>cases hj;simpa [Addr.add] using h5
   | 6,hj=>cases hj;simpa [Addr.add] using h6
   | j+7,hj=>simp[RI.cells] at hj) (by
   intro u hu
   simp only[RI.cells,List.mem_cons,List.not_mem_nil,or_false] at hu
   rcases hu with rfl | rfl | rfl | rfl | rfl | rfl | rfl <;> rfl) (by decide) (by unfold maxLen;omega) (by omega) hk.size hall noU_cells (by
   intro u hu y e
   simp[Value.cells] at hu
   rcases hu with rfl | rfl | rfl | rfl | rfl | rfl | rfl <;> cases e)
 unfold Oper.wp execOp
 simp only[ho,resolve,invoke,builtin,Sem.run_bind,Sem.run_pure,Result.andThen_ok,List.map_toArray,List.map_cons,List.map_nil,hs,hx,hr]
 have hb:Below wb.heap.size w w':=(Below.refl wb.heap.size w).grown h2 hk.size (fun k hk=>(hown1.lt k hk).1)
 refine h _ _ w' ⟨Below.trans hk hb,?_,h6,fun q hq=>?_⟩ h2 ?_
 ·rw[List.flatMap_append,List.length_append]
  simpa using h1
 ·rcases List.mem_append.1 hq with hq | hq
  ·exact (hrows q hq).far h2 hall
  simp only[List.mem_singleton] at hq
  subst hq
  exact hy.far h2 hall
 rcases h3 with h3 | h3
 ·exact .inl h3
 subst h3;exact .inr rfl
theorem OutM.cellF {wb w:World} {g n:Nat} {R:List (List RI)} {v:Value} {cur:List RI} (h:OutM wb w g n R v cur):w.cell? ⟨g,R.length,none⟩=some v∧w.frozen? ⟨g,R.length,none⟩=false :=
 ⟨h.2.2.1,h.2.2.2.1 _ h.1.2.2.1⟩
theorem OutM.cellG {wb w w':World} {g n:Nat} {R:List (List RI)} {v:Value} {cur:List RI} (h:OutM wb w g n R v cur) (hg:w.grownBy w' v.ownBlock):w'.cell? ⟨g,R.length,none⟩=some v∧w'.frozen? ⟨g,R.length,none⟩=false:=by
 obtain⟨⟨h1,h2,h3,h4⟩,ho0,hv0,hf,hz,hr⟩:=h
 refine⟨hg.cell hv0 (fun e=>h4 e.symm),?_⟩
 have:=hg.block g h2 (fun e=>h4 e.symm)
 have hh:=hf _ h3
 unfold World.frozen? at hh ⊢
 rw[this];exact hh
theorem OwnN.noU {wb w:World} {v:Value} {zs:List RI} (h:OwnN wb w v zs):NoU v:=by
 obtain⟨a,c,e,_⟩:=h.value
 subst e
 intro x h;cases h
theorem set10 {w:World} {g bb bj b2 o2 b o:Nat} (n1:bb≠g) (n2:bj≠g) (n3:b2≠g) (n:b≠g) {u0 u1 u2 v0 v1 v2 v3 v4 v5 v6 x0 x1 x2 x3 x4 x5 x6:Value}
  (h:w.cell? ⟨bb,0,none⟩=some u0∧w.cell? ⟨bj,0,none⟩=some u1∧w.cell? ⟨b2,o2,none⟩=some u2∧w.cell? ⟨b,o,none⟩=some v0∧w.cell? ⟨b,o+1,none⟩=some v1∧w.cell? ⟨b,o+2,none⟩=some v2∧w.cell? ⟨b,o+3,none⟩=some v3∧w.cell? ⟨b,o+4,none⟩=some v4∧w.cell? ⟨b,o+5,none⟩=some v5∧w.cell? ⟨b,o+6,none⟩=some v6) :
  (fun W:World=>W.cell? ⟨bb,0,none⟩=some u0∧W.cell? ⟨bj,0,none⟩=some u1∧W.cell? ⟨b2,o2,none⟩=some u2∧W.cell? ⟨b,o,none⟩=some v0∧W.cell? ⟨b,o+1,none⟩=some v1∧W.cell? ⟨b,o+2,none⟩=some v2∧W.cell? ⟨b,o+3,none⟩=some v3∧W.cell? ⟨b,o+4,none⟩=some v4∧W.cell? ⟨b,o+5,none⟩=some v5∧W.cell? ⟨b,o+6,none⟩=some v6)
   (((((((w.setCell ⟨g,0,none⟩ x0).setCell ⟨g,1,none⟩ x1).setCell ⟨g,2,none⟩ x2).setCell ⟨g,3,none⟩ x3).setCell ⟨g,4,none⟩ x4).setCell ⟨g,5,none⟩ x5).setCell ⟨g,6,none⟩ x6):=by
 have ne (i:Nat) (c j:Nat) (n:c≠g):(⟨g,i,none⟩:Addr)≠⟨c,j,none⟩:=fun e=>n (by injection e with e1;exact e1.symm)
 have key (c j:Nat) (n:c≠g):(((((((w.setCell ⟨g,0,none⟩ x0).setCell ⟨g,1,none⟩ x1).setCell ⟨g,2,none⟩ x2).setCell ⟨g,3,none⟩ x3).setCell ⟨g,4,none⟩ x4).setCell ⟨g,5,none⟩ x5).setCell ⟨g,6,none⟩ x6).cell? ⟨c,j,none⟩=w.cell? ⟨c,j,none⟩:=by
  rw[cell_set_ne (ne 6 c j n),cell_set_ne (ne 5 c j n),cell_set_ne (ne 4 c j n),cell_set_ne (ne 3 c j n),cell_set_ne (ne 2 c j n),cell_set_ne (ne 1 c j n),cell_set_ne (ne 0 c j n)]
 simp only[key _ _ n1,key _ _ n2,key _ _ n3,key _ _ n]
 exact h
theorem keep10 {w w':World} (k:Kp w w') {p0 p1 p2 p3 p4 p5 p6 p7 p8 p9:Addr} {u0 u1 u2 v0 v1 v2 v3 v4 v5 v6:Value} (h:w.cell? p0=some u0∧w.cell? p1=some u1∧w.cell? p2=some u2∧w.cell? p3=some v0∧w.cell? p4=some v1∧w.cell? p5=some v2∧w.cell? p6=some v3∧w.cell? p7=some v4∧w.cell? p8=some v5∧w.cell? p9=some v6):w'.cell? p0=some u0∧w'.cell? p1=some u1∧w'.cell? p2=some u2∧w'.cell? p3=some v0∧w'.cell? p4=some v1∧w'.cell? p5=some v2∧w'.cell? p6=some v3∧w'.cell? p7=some v4∧w'.cell? p8=some v5∧w'.cell? p9=some v6:=by
 obtain⟨h0,h1,h2,h3,h4,h5,h6,h7,h8,h9⟩:=h
 exact⟨k.cell h0,k.cell h1,k.cell h2,k.cell h3,k.cell h4,k.cell h5,k.cell h6,k.cell h7,k.cell h8,k.cell h9⟩
set_option maxRecDepth 100000 in
set_option maxHeartbeats 4000000 in
theorem mulat_any (m:List (List RI)) (a:Option Addr) (c k j bb bj:Nat) (w:World) (hm:RowM w a m) (hv:vlM m=true) (hb:w.cell? ⟨bb,0,none⟩=some (.slice a m.length c)) (hj:w.cell? ⟨bj,0,none⟩=some (.int .i64 (j:Int)))
  (hk:k<m.length) (hj2:j<colsM m) :
  Calls Tryz.prog 148 #[.int .i64 (k:Int),.pointer (some ⟨bb,0,none⟩),.pointer (some ⟨bj,0,none⟩)] w (IvOut w (atP m k j)):=by
 obtain⟨r,x,hr,hx,hxv,hat⟩:=vlM_get hv hk hj2
 have HX:=hid (show x.pl=atP m k j by unfold atP;rw[hat])
 have Hv:=hid hxv
 have hlb:=(vlM_iff.1 hv).1.2
 have hlr:r.length≤8:=by rw[(vlM_row hv hr).1];exact (vlM_iff.1 hv).2.1.2
 have hjr:=(List.getElem?_eq_some_iff.1 hx).1
 obtain⟨b2,o2,ra,rc,rfl,hc2,hrow,_⟩:=hm k r hr
 obtain⟨b3,o3,rfl,hrd,hS⟩:=hrow j x hx
 have k1:=(Kp.refl w).alloc (.cells #[.bool false,.slice none 0 0,.int .i64 0,.bool false,.slice none 0 0,.int .i64 0,.bool false] 44)
 have k2:=hid k1
 have n1:bb≠w.heap.size:=Nat.ne_of_lt (World.block_lt_of_cell? w _ hb)
 have n2:bj≠w.heap.size:=Nat.ne_of_lt (World.block_lt_of_cell? w _ hj)
 have n3:b2≠w.heap.size:=Nat.ne_of_lt (World.block_lt_of_cell? w _ hc2)
 have n4:b3≠w.heap.size:=Nat.ne_of_lt (World.block_lt_of_cell? w _ hS.1)
 have hi1:(0:Int)≤(k:Int):=by omega
 have hi2:(k:Int)<(m.length:Int):=by omega
 have hi3:(0:Int)≤(j:Int):=by omega
 have hi4:(j:Int)<(r.length:Int):=by omega
 have HR:=hid (hrd.kp k2.out)
 have hSS:=And.intro (k2.out.cell hb) (And.intro (k2.out.cell hj) (And.intro (k2.out.cell hc2) (keep7 k2.out hS)))
 have hV:=Var7.new w 44
 clear hv hxv hr hx hat hm hrow hb hj hc2 hS hrd k1
 go_enter Tryz.func148,Tryz.ntmps148
 go_upto_region 1 with fail
 generalize w.alloc _=W at *
 have kd:=(Kp.refl W).drew
 have hSd:W.drew.cell? ⟨bb,0,none⟩=some (.slice (some ⟨b2,o2,none⟩) m.length c)∧W.drew.cell? ⟨bj,0,none⟩=some (.int .i64 (j:Int))∧W.drew.cell? ⟨b2,o2+k,none⟩=some (.slice (some ⟨b3,o3,none⟩) r.length rc)∧W.drew.cell? ⟨b3,o3+j*7,none⟩=some (.bool x.lo.neg)∧W.drew.cell? ⟨b3,o3+j*7+1,none⟩=some (.slice x.lo.a x.lo.xs.length x.lo.c)∧W.drew.cell? ⟨b3,o3+j*7+2,none⟩=some (.int .i64 x.lo.e)∧W.drew.cell? ⟨b3,o3+j*7+3,none⟩=some (.bool x.hi.neg)∧W.drew.cell? ⟨b3,o3+j*7+4,none⟩=some (.slice x.hi.a x.hi.xs.length x.hi.c)∧W.drew.cell? ⟨b3,o3+j*7+5,none⟩=some (.int .i64 x.hi.e)∧W.drew.cell? ⟨b3,o3+j*7+6,none⟩=some (.bool x.all):=⟨kd.cell hSS.1,kd.cell hSS.2.1,kd.cell hSS.2.2.1,keep7 kd hSS.2.2.2⟩
 obtain⟨⟨q0,q1,q2,q3,q4,q5,q6⟩,f0,f1,f2,f3,f4,f5,f6⟩:=id hV
 have HSS:=hid hSS
 clear hSS hV
 go_region_held3 (fun w'=>w'.cell? ⟨bb,0,none⟩=some (.slice (some ⟨b2,o2,none⟩) m.length c)∧w'.cell? ⟨bj,0,none⟩=some (.int .i64 (j:Int))∧w'.cell? ⟨b2,o2+k,none⟩=some (.slice (some ⟨b3,o3,none⟩) r.length rc)∧w'.cell? ⟨b3,o3+j*7,none⟩=some (.bool x.lo.neg)∧w'.cell? ⟨b3,o3+j*7+1,none⟩=some (.slice x.lo.a x.lo.xs.length x.lo.c)∧w'.cell? ⟨b3,o3+j*7+2,none⟩=some (.int .i64 x.lo.e)∧w'.cell? ⟨b3,o3+j*7+3,none⟩=some (.bool x.hi.neg)∧w'.cell? ⟨b3,o3+j*7+4,none⟩=some (.slice x.hi.a x.hi.xs.length x.hi.c)∧w'.cell? ⟨b3,o3+j*7+5,none⟩=some (.int .i64 x.hi.e)∧w'.cell? ⟨b3,o3+j*7+6,none⟩=some (.bool x.all)) (first | with_reducible assumption | with_reducible exact keep10 (Kp.refl _).drew (set10 n1 n2 n3 n4 HSS.out)) (fail)
 go_wp2_with fail
 generalize hW9:((((((W.setCell _ _).setCell _ _).setCell _ _).setCell _ _).setCell _ _).setCell _ _).setCell _ _=W9
 obtain⟨⟨s0,s1,s2,s3,s4,s5,s6⟩,hU⟩:=stored7 (show Box7 W _ _ _ _ _ _ _ _ from ⟨q0,q1,q2,q3,q4,q5,q6⟩) nofun nofun nofun nofun nofun nofun nofun _ _ _ _ _ _ _ hW9
 clear hW9 q0 q1 q2 q3 q4 q5 q6 f0 f1 f2 f3 f4 f5 f6
 refine bodyPost_ret (v:=.agg #[.bool x.lo.neg,.slice x.lo.a x.lo.xs.length x.lo.c,.int .i64 x.lo.e,.bool x.hi.neg,.slice x.hi.a x.hi.xs.length x.hi.c,.int .i64 x.hi.e,.bool x.all]) (by simp[results,Tryz.results148,go_sem,s0,s1,s2,s3,s4,s5,s6]) rfl ?_
 exact⟨x,rfl,(hU.rdI HR.out).kp (Kp.refl _).drew,HX.out,Hv.out,(hU.2.2.1 _ k2.out (by omega)).drew⟩
set_option maxHeartbeats 1000000 in
theorem r2trim_any (a:Option Addr) (xs:List Nat) (c:Nat) (w:World) (h:Rd w a xs) (hc:xs.length≤c) (hm:c≤maxLen) (hl:xs.length≤1100000) :
  Calls Tryz.prog 234 #[.slice a xs.length c] w (NatOut w (val xs)):=by
 have hend:∀ (n:Nat) (W:World),n=(limbs (val xs)).length→Rd W a (limbs (val xs))→Rd (W.alloc (.cells #[] 109)) a (limbs (val xs)):=fun n W _ hr=>hr.kp ((Kp.refl W).alloc _)
 have hm':=hm
 unfold maxLen at hm
 have hll:=limbs_len_le h.lt32
 go_enter Tryz.func234,Tryz.ntmps234
 go_wp2
 go_loop [3] (fun x=>∃ n:Nat,n≤xs.length∧x=.int .i64 n∧∀ i,n≤i→i<xs.length→nth xs i=0) (fun x=>(intOf x).toNat)
 case atStart=>exact⟨xs.length,Nat.le_refl _,rfl,fun i h1 h2=>by omega⟩
 case round =>
 obtain⟨n,hn,rfl,hz⟩:=hrel
 have Hz:=hid hz;clear hz
 by_cases h0:n=0
 ·have htop:=trim_top h.lt32 hn Hz.out (by omega)
  have hlen:(limbs (val xs)).length=n:=by rw[← htop,List.length_take,Nat.min_eq_left hn]
  have hr:=h.limbs.kp ((Kp.refl w).alloc (.cells #[] 109))
  have Hlen:=hid hlen
  clear htop hlen
  subst h0
  go_wp2_with (at_builtin;refine wpList_append_u32s rfl _ _ rfl w.heap.size _ [] rfl (Own.empty w _ (Nat.le_refl _)) a (limbs (val xs)) c (by rw[Hlen.out];rfl) hr (by simp;omega) (by simp) ?_;intro a2 c2 w2 hown2 hb2)
  go_ret
  obtain⟨h5,h6,h7,h8⟩:=hown2.rd
  rw[List.nil_append] at h6 h8
  exact⟨a2,c2,by simp,h6,h7,h8,((Kp.refl w).alloc _).below.trans hb2⟩
 obtain⟨b,o,rfl,hcell⟩:=h.some (i:=n-1) (by omega)
 have hk:=hcell (n-1) (by omega)
 clear hcell
 by_cases hx:nth xs (n-1)=0
 ·have hx2:((nth xs (n-1):Int)==0)=true:=by simp[hx]
  have Hx:=hid hx;clear hx
  go_wp2
  go_round
  case measure=>simp[intOf];omega
  case rel =>
  refine⟨n-1,by omega,by congr 1;omega,fun i h1 h2=>?_⟩
  by_cases hi:i=n-1
  ·rw[hi];exact Hx.out
  exact Hz.out i (by omega) h2
 have hx2:((nth xs (n-1):Int)==0)=false:=by simp;omega
 have htop:=trim_top h.lt32 hn Hz.out (fun _=>hx)
 have hlen:(limbs (val xs)).length=n:=by rw[← htop,List.length_take,Nat.min_eq_left hn]
 have hr:=h.limbs.kp ((Kp.refl w).alloc (.cells #[] 109))
 have Hlen:=hid hlen
 clear htop hlen
 go_wp2_with (at_builtin;refine wpList_append_u32s rfl _ _ rfl w.heap.size _ [] rfl (Own.empty w _ (Nat.le_refl _)) (some ⟨b,o,none⟩) (limbs (val xs)) c (by rw[Hlen.out];rfl) hr (by simp;omega) (by simp) ?_;intro a2 c2 w2 hown2 hb2)
 go_ret
 obtain⟨h5,h6,h7,h8⟩:=hown2.rd
 rw[List.nil_append] at h6 h8
 exact⟨a2,c2,by simp,h6,h7,h8,((Kp.refl w).alloc _).below.trans hb2⟩
def cmpL (xs ys:List Nat):Int:=if xs.length<ys.length then -1 else if ys.length<xs.length then 1 else cmpN (val xs) (val ys)
theorem cmpL_lt {xs ys:List Nat} (h:xs.length<ys.length):cmpL xs ys=-1:=by unfold cmpL;rw[if_pos h]
theorem cmpL_gt {xs ys:List Nat} (h:ys.length<xs.length):cmpL xs ys=1:=by unfold cmpL;rw[if_neg (by omega),if_pos h]
theorem cmpL_eq {xs ys:List Nat} (h:xs.length=ys.length):cmpL xs ys=cmpN (val xs) (val ys):=by unfold cmpL;rw[if_neg (by omega),if_neg (by omega)]
set_option maxHeartbeats 1000000 in
theorem r2compare_any (a b:Option Addr) (xs ys:List Nat) (c d:Nat) (w:World) (h1:Rd w a xs) (h2:Rd w b ys) (hxl:xs.length≤1100000) (_hyl:ys.length≤1100000) :
  Calls Tryz.prog 214 #[.slice a xs.length c,.slice b ys.length d] w fun e w'=>e=.returned (.int .i64 (cmpL xs ys))∧Kp w w':=by
 go_enter Tryz.func214,Tryz.ntmps214
 rcases Nat.lt_trichotomy xs.length ys.length with hlen | hlen | hlen
 ·have hne:((xs.length:Int) != ys.length)=true:=by simp;omega
  go_wp2_with fail
  go_ret
  exact⟨ret_int (cmpL_lt hlen).symm,.refl _⟩
 ·have hne:((xs.length:Int) != ys.length)=false:=by simp;omega
  have Hlen:=hid hlen
  have hle1:xs.length≤ys.length:=by omega
  have hle2:ys.length≤xs.length:=by omega
  clear hlen
  go_wp2_with fail
  go_loopw [5] (fun ix wr=>∃ k:Nat,k≤xs.length∧ix=.int .i64 ((k:Int)-1)∧xs.drop k=ys.drop k∧Kp w wr) (fun ix _=>(intOf ix+1).toNat)
  case atStart=>exact⟨xs.length,Nat.le_refl _,rfl,by rw[List.drop_of_length_le (Nat.le_refl _),List.drop_of_length_le (by omega)],.refl _⟩
  case round =>
  obtain⟨k,hk,rfl,hdrop,hkp⟩:=hrel
  have Hdrop:=hid hdrop
  clear hdrop
  rcases k with _ | j
  ·rw[show (((0:Nat):Int)-1)=-1 from rfl]
   go_wp2_with fail
   go_ret
   have:xs=ys:=by have:=Hdrop.out;rwa [List.drop_zero,List.drop_zero] at this
   exact⟨ret_int ((cmpL_eq Hlen.out).trans (cmpN_eq (by rw[this]))).symm,hkp⟩
  rw[show (((j+1:Nat):Int)-1)=(j:Int) from by omega]
  obtain⟨b1,o1,rfl,hcx⟩:=(h1.kp hkp).some (i:=j) (by omega)
  have hx1:=hcx j (by omega)
  obtain⟨b2,o2,rfl,hcy⟩:=(h2.kp hkp).some (i:=j) (by omega)
  have hy1:=hcy j (by omega)
  clear hcx hcy
  have bx:=h1.lt32.nth j
  have by':=h2.lt32.nth j
  rcases Nat.lt_trichotomy (nth xs j) (nth ys j) with hd1 | hd1 | hd1
  ·have Hr:=hid (val_lt_of_top Hlen.out (by omega) h1.lt32 Hdrop.out hd1)
   go_wp2_with fail
   go_quiet (fail)
   go_wp2_with fail
   go_ret
   exact⟨ret_int ((cmpL_eq Hlen.out).trans (cmpN_lt Hr.out)).symm,by first | exact hkp.drewN _ | exact (hkp.drewN _).drewN _⟩
  ·have hd2:¬ nth xs j<nth ys j:=by omega
   have hd3:¬ nth ys j<nth xs j:=by omega
   have Hd1:=hid hd1
   clear hd1
   go_wp2_with fail
   go_quiet (fail)
   go_wp2_with fail
   go_quiet (fail)
   go_wp2_with fail
   go_roundw
   case measure=>simp[intOf]
   case rel =>
   refine⟨j,by omega,rfl,?_,hkp.drewN _⟩
   rw[drop_eq_nth (show j<xs.length by omega),drop_eq_nth (show j<ys.length by omega),Hdrop.out,Hd1.out]
  have hd2:¬ nth xs j<nth ys j:=by omega
  have Hr:=hid (val_lt_of_top (us:=ys) (vs:=xs) (k:=j) Hlen.out.symm (by omega) h2.lt32 Hdrop.out.symm hd1)
  go_wp2_with fail
  go_quiet (fail)
  go_wp2_with fail
  go_quiet (fail)
  go_wp2_with fail
  go_ret
  exact⟨ret_int ((cmpL_eq Hlen.out).trans (cmpN_gt Hr.out)).symm,by first | exact hkp.drewN _ | exact (hkp.drewN _).drewN _⟩
 have hne:((xs.length:Int) != ys.length)=true:=by simp;omega
 go_wp2_with fail
 go_ret
 exact⟨ret_int (cmpL_gt hlen).symm,.refl _⟩
theorem bit_nth {xs:List Nat} (h:Lt32 xs) (n:Nat):nth xs (n/32)/2 ^ (n % 32) % 2=val xs/2 ^ n % 2:=by
 have e:2 ^ n=4294967296 ^ (n/32)*2 ^ (n % 32):=by rw[pow32,← Nat.pow_add];congr 1;omega
 by_cases hl:n/32<xs.length
 rotate_left
 ·rw[nth_ge (by omega),Nat.zero_div]
  have h1:val xs<2 ^ n:=by
   refine Nat.lt_of_lt_of_le (val_lt h) ?_
   rw[pow32]
   exact Nat.pow_le_pow_right (by decide) (by omega)
  rw[Nat.div_eq_of_lt h1]
 have e1:=val_take_drop xs (n/32) (by omega)
 have e2:xs.drop (n/32)=nth xs (n/32)::xs.drop (n/32+1):=drop_eq_nth hl
 have e3:val xs/4294967296 ^ (n/32)=val (xs.drop (n/32)):=by
  have h1:val (xs.take (n/32))<4294967296 ^ (n/32):=by
   have:=val_lt (h.take (n/32))
   rwa [List.length_take,Nat.min_eq_left (by omega)] at this
  have hp:0<4294967296 ^ (n/32):=Nat.pow_pos (by decide)
  rw[e1,Nat.add_mul_div_left _ _ hp,Nat.div_eq_of_lt h1,Nat.zero_add]
 rw[e,← Nat.div_div_eq_div_mul,e3,e2,val_cons]
 have hr:n % 32<32:=Nat.mod_lt _ (by decide)
 obtain⟨d,hd⟩:∃ d,4294967296=2 ^ (n % 32)*(2*d):=⟨2 ^ (31-n % 32),by
  rw[show 2*2 ^ (31-n % 32)=2 ^ (31-n % 32+1) from by rw[Nat.pow_succ];omega,← Nat.pow_add,show n % 32+(31-n % 32+1)=32 from by omega]⟩
 have e4:4294967296*val (xs.drop (n/32+1))=2 ^ (n % 32)*(2*(d*val (xs.drop (n/32+1)))):=by
  conv=>lhs;rw[hd]
  rw[Nat.mul_assoc,Nat.mul_assoc]
 rw[e4,Nat.add_mul_div_left _ _ (two_pow_pos _)]
 omega
theorem tz_least {V n:Nat} (h0:V≠0) (hz:V % 2 ^ n=0):n≤tz V∧(V/2 ^ n % 2=1→n=tz V):=by
 obtain⟨h1,h2⟩:=oddp_spec h0
 have hle:n≤tz V:=by
  apply Classical.byContradiction;intro hn
  have hd:V=2 ^ n*(V/2 ^ n):=by have:=Nat.div_add_mod V (2 ^ n);omega
  have e:2 ^ n=2 ^ tz V*(2*2 ^ (n-tz V-1)):=by
   rw[show 2*2 ^ (n-tz V-1)=2 ^ (n-tz V-1+1) from by rw[Nat.pow_succ];omega,← Nat.pow_add];congr 1;omega
  have e2:oddp V*2 ^ tz V=2*(2 ^ (n-tz V-1)*(V/2 ^ n))*2 ^ tz V:=by
   refine h2.symm.trans (hd.trans ?_)
   generalize V/2 ^ n=q
   rw[e,Nat.mul_assoc,Nat.mul_comm (2 ^ tz V),Nat.mul_assoc 2]
  have:=Nat.eq_of_mul_eq_mul_right (two_pow_pos _) e2
  omega
 refine⟨hle,fun h=>?_⟩
 apply Classical.byContradiction;intro hn
 have e:V/2 ^ n=2*(oddp V*2 ^ (tz V-n-1)):=by
  conv=>lhs;rw[h2]
  rw[show 2 ^ tz V=2*2 ^ (tz V-n-1)*2 ^ n from by rw[show 2*2 ^ (tz V-n-1)=2 ^ (tz V-n-1+1) from by rw[Nat.pow_succ];omega,← Nat.pow_add];congr 1;omega]
  rw[← Nat.mul_assoc,Nat.mul_div_cancel _ (two_pow_pos n),Nat.mul_left_comm]
 omega
theorem bit32 {x r:Nat} (hx:x<4294967296):Go.bits BinOp.and IntKind.u32 ((x:Int)/2 ^ r) 1=((x/2 ^ r % 2:Nat):Int):=by
 have e:((x:Int)/2 ^ r)=((x/2 ^ r:Nat):Int):=by rw[Int.natCast_ediv,Int.natCast_pow];rfl
 rw[e]
 have h1:=Nat.div_le_self x (2 ^ r)
 have h:=Go.Proofs.bits_and_u32_nat (x/2 ^ r) 1 (by omega) (by omega)
 rw[Nat.and_one_is_mod] at h
 exact h
theorem bits_of_nz {V:Nat} (h0:V≠0):tz V<bits V:=by
 have:=bits_oddp h0
 have:=bits_pos (oddp_ne_zero h0)
 omega
set_option maxRecDepth 100000 in
set_option maxHeartbeats 4000000 in
theorem r2zeros_any (a:Option Addr) (xs:List Nat) (c:Nat) (w:World) (h:Rd w a xs) (hl:xs.length≤1100000) (h0:val xs≠0) :
  Calls Tryz.prog 235 #[.slice a xs.length c] w fun e w'=>e=.returned (.int .i64 (tz (val xs)))∧w=w':=by
 have hbv:=bits_val_le h.lt32
 have htz:=bits_of_nz h0
 have H0:=hid h0
 clear h0
 go_enter Tryz.func235,Tryz.ntmps235
 go_wp2
 go_loop [3] (fun x=>∃ n:Nat,n≤tz (val xs)∧x=.int .i64 n∧val xs % 2 ^ n=0) (fun x=>tz (val xs)+1-(intOf x).toNat)
 case atStart=>exact⟨0,Nat.zero_le _,rfl,by simp[Nat.mod_one]⟩
 case round =>
 obtain⟨n,hn,rfl,hz⟩:=hrel
 have Hz:=hid hz;clear hz
 have hq:n/32<xs.length:=by omega
 obtain⟨b,o,rfl,hcell⟩:=h.some hq
 have hk:=hcell (n/32) hq
 have Hb:=hid (bit_nth h.lt32 n)
 have hnb:=h.lt32.nth (n/32)
 have hi1:(0:Int)≤((n/32:Nat):Int):=by omega
 have hi2:((n/32:Nat):Int)<(xs.length:Int):=by omega
 clear hcell
 have h32:=bit32 (r:=n % 32) hnb
 have hle:=(tz_least H0.out Hz.out)
 by_cases hbit:val xs/2 ^ n % 2=1
 ·have ht:(Go.bits BinOp.and IntKind.u32 ((nth xs (n/32):Int)/2 ^ (n % 32)) 1==0)=false:=beq_eq_false_iff_ne.2 (by rw[h32,Hb.out,hbit];decide)
  have Hn:=hid (hle.2 hbit)
  clear h32 hle hbit
  go_wp2_with fail
  go_ret
  exact⟨by rw[← Hn.out];rfl,rfl⟩
 have ht:(Go.bits BinOp.and IntKind.u32 ((nth xs (n/32):Int)/2 ^ (n % 32)) 1==0)=true:=beq_iff_eq.2 (by rw[h32,Hb.out];omega)
 have hz2:val xs % 2 ^ (n+1)=0:=by
  rw[Nat.add_comm,mod_pow_add]
  exact⟨Hz.out,by rw[Nat.pow_one];omega⟩
 have Hz2:=hid hz2
 have Hle2:=hid (tz_least H0.out hz2).1
 clear h32 hle hbit hz2
 go_wp2_with fail
 go_round
 case measure=>simp[intOf];omega
 case rel=>exact⟨n+1,Hle2.out,by go_num,Hz2.out⟩
theorem right_step {zs vs:List Nat} {k r z t:Nat} (hk:zs.length=k) (h:val zs*2 ^ r+t=val (vs.take k)+4294967296 ^ k*(nth vs k % 2 ^ r))
  (hz:z*2 ^ r+nth vs k % 2 ^ r=nth vs k+4294967296*(nth vs (k+1) % 2 ^ r)) :
  val (zs++[z])*2 ^ r+t=val (vs.take (k+1))+4294967296 ^ (k+1)*(nth vs (k+1) % 2 ^ r):=by
 rw[val_snoc,hk,val_take_step vs,Nat.pow_succ,Nat.mul_assoc,Nat.add_mul,Nat.mul_assoc]
 generalize 4294967296 ^ k=P at *
 have e:P*(z*2 ^ r+nth vs k % 2 ^ r)=P*(z*2 ^ r)+P*(nth vs k % 2 ^ r):=Nat.mul_add _ _ _
 rw[hz,Nat.mul_add] at e
 omega
theorem and_low {s:Nat} (hs:s<18446744073709551616):Go.bits BinOp.and IntKind.u64 (s:Int) 4294967295=((s % 4294967296:Nat):Int):=by
 have h:=bits_and_u64_nat s 4294967295 hs (by omega)
 rw[show s &&& 4294967295=s % 4294967296 from Nat.and_two_pow_sub_one_eq_mod s 32] at h
 exact h
theorem cell_low {x y r:Nat} (hx:x<4294967296) (hy:y<4294967296):(Go.bits BinOp.and IntKind.u64 (((x:Int)+4294967296*y)/2 ^ r) 4294967295) % 4294967296=(((x+4294967296*y)/2 ^ r % 4294967296:Nat):Int):=by
 have e:(((x:Int)+4294967296*y)/2 ^ r)=(((x+4294967296*y)/2 ^ r:Nat):Int):=by
  rw[Int.natCast_ediv,Int.natCast_add,Int.natCast_mul,Int.natCast_pow];rfl
 have h1:=Nat.div_le_self (x+4294967296*y) (2 ^ r)
 rw[e,and_low (by omega)]
 omega
theorem cell_low0 {x r:Nat} (hx:x<4294967296):(Go.bits BinOp.and IntKind.u64 ((x:Int)/2 ^ r) 4294967295) % 4294967296=((x/2 ^ r % 4294967296:Nat):Int):=by
 have:=@cell_low x 0 r hx (by decide)
 simpa using this
set_option maxHeartbeats 2000000 in
set_option maxRecDepth 100000 in
theorem r2right_any (a:Option Addr) (xs:List Nat) (c n:Nat) (w:World) (h1:Rd w a xs) (hxc:xs.length≤c) (hc:c≤maxLen) (hxl:xs.length≤1100000) (hn:n≤40000000) :
  Calls Tryz.prog 236 #[.slice a xs.length c,.int .i64 n] w (NatOut w (val xs/2 ^ n)):=by
 have hc':=hc
 by_cases hq:xs.length≤n/32
 ·have hq2:(xs.length:Int)≤(n:Int)/32:=by omega
  have h2:=val_lt h1.lt32
  rw[pow32] at h2
  have hz:val xs/2 ^ n=0:=Nat.div_eq_of_lt (Nat.lt_of_lt_of_le h2 (Nat.pow_le_pow_right (by decide) (by omega)))
  rw[hz]
  clear hz h2
  go_enter Tryz.func236,Tryz.ntmps236
  go_wp2_with fail
  go_ret
  exact⟨none,0,by rw[limbs_zero];rfl,by rw[limbs_zero];exact Nat.le_refl _,by unfold maxLen;omega,by rw[limbs_zero];exact .nil _ _,.refl _⟩
 have hq2:¬ (xs.length:Int)≤(n:Int)/32:=by omega
 obtain⟨b1,o1,rfl,_⟩:=h1.some (i:=0) (by omega)
 have h2:=h1.drop (n/32)
 have hq3:(n:Int)/32<xs.length:=by omega
 have hvl:(xs.drop (n/32)).length=xs.length-n/32:=List.length_drop
 have hval:val (xs.drop (n/32))=val xs/4294967296 ^ (n/32):=by
  have e:=val_take_drop xs (n/32) (by omega)
  have b:=val_lt (h1.lt32.take (n/32))
  rw[List.length_take,Nat.min_eq_left (by omega)] at b
  rw[e,Nat.add_mul_div_left _ _ (Nat.pow_pos (by decide)),Nat.div_eq_of_lt b,Nat.zero_add]
 have hfin:val xs/2 ^ n=val (xs.drop (n/32))/2 ^ (n % 32):=by rw[hval,Nat.div_div_eq_div_mul,pow_split]
 rw[hfin]
 clear hval hfin
 generalize xs.drop (n/32)=vs at *
 have hr:n % 32<32:=Nat.mod_lt _ (by decide)
 have Hvl:=hid hvl
 have hvl2:xs.length-n/32≤vs.length:=by omega
 clear hvl
 go_enter Tryz.func236,Tryz.ntmps236
 go_wp2_with fail
 go_loopw [5,6] (fun v ix wr=>∃ (k:Nat) (zs:List Nat),k≤xs.length-n/32∧ix=.int .i64 k∧zs.length=k∧Own wr w.heap.size v zs ∧
  val zs*2 ^ (n % 32)+nth vs 0 % 2 ^ (n % 32)=val (vs.take k)+4294967296 ^ k*(nth vs k % 2 ^ (n % 32))∧Kp w wr) (fun _ ix _=>(xs.length-n/32)-(intOf ix).toNat)
 case atStart=>exact⟨0,[],Nat.zero_le _,rfl,rfl,Own.nil _ _,by simp[val],.refl _⟩
 case round =>
 obtain⟨k,zs,hk,rfl,hzl,hown,hvz,hkp⟩:=hrel
 have Hvz:=hid hvz
 have Hzl:=hid hzl
 have hzl2:zs.length+1≤9000000:=by omega
 clear hvz hzl
 by_cases hlt:k<xs.length-n/32
 rotate_left
 ·have hke:k=xs.length-n/32:=by omega
  have e2:=Hvz.out
  have h0:nth vs k=0:=nth_ge (by rw[Hvl.out,hke];omega)
  rw[h0,Nat.zero_mod,Nat.mul_zero,Nat.add_zero,hke,List.take_of_length_le (by rw[Hvl.out];omega)] at e2
  have hlt3:=Nat.mod_lt (nth vs 0) (two_pow_pos (n % 32))
  have e3:val zs=val vs/2 ^ (n % 32):=by
   rw[← e2,Nat.mul_comm,Nat.mul_add_div (two_pow_pos _),Nat.div_eq_of_lt hlt3,Nat.add_zero]
  obtain⟨a5,c5,e5,l5,m5,r5⟩:=hown.value
  subst e5
  have E3:=hid e3
  have hT:=hid (r2trim_any a5 zs c5 wr r5 l5 m5 (by have:=Hzl.out;omega))
  have hkk:=hid hkp
  clear e2 e3 h0 hlt3 hkp hown
  go_wp2_with fail
  refine hT.out.mono ?_
  rintro e w7 ⟨a6,c6,rfl,l6,m6,r6,k6⟩
  go_wp2_with fail
  go_ret
  rw[← E3.out]
  exact⟨a6,c6,rfl,l6,m6,r6,hkk.out.trans k6⟩
 obtain⟨b2,o2,e2,hcx⟩:=(h2.kp hkp).some (i:=k) (by omega)
 cases e2
 have hx1:=hcx k (by omega)
 have bx:=h2.lt32.nth k
 have bx2:=h2.lt32.nth (k+1)
 have Hst:=hid (fun z=>right_step (z:=z) Hzl.out Hvz.out)
 have Hl:=hid (shr_limb (y:=nth vs (k+1)) bx hr)
 by_cases hlt2:k+1<xs.length-n/32
 ·have hx2:=hcx (k+1) (by omega)
  have hor:=shr_or bx bx2
  clear hcx
  have hcl:=hid (cell_low (r:=n % 32) bx bx2)
  go_wp2_with (at_builtin;refine wpList_append_u32 rfl _ _ rfl w.heap.size _ _ rfl (hown.alloc _) _ _ rfl (World.cell?_alloc_new _ _ _ _) ((nth vs k+4294967296*nth vs (k+1))/2 ^ (n % 32) % 4294967296) hcl.out (Nat.mod_lt _ (by decide)) hzl2 (by have:=hkp.size;simp;omega) ?_;intro a2 c2 w2 hown2 hb2)
  go_roundw
  case measure=>simp[intOf];omega
  case rel=>exact⟨k+1,_,by omega,by go_num,by simp[Hzl.out],hown2,Hst.out _ Hl.out,(hkp.alloc _).below.trans hb2⟩
 have h0:nth vs (k+1)=0:=nth_ge (by rw[Hvl.out];omega)
 have H0:=hid h0
 have hcl:=hid (cell_low0 (r:=n % 32) bx)
 have hltt:¬ ((k:Int)+1<((xs.length-n/32:Nat):Int)):=by omega
 clear hcx h0
 go_wp2_with (at_builtin;refine wpList_append_u32 rfl _ _ rfl w.heap.size _ _ rfl (hown.alloc _) _ _ rfl (World.cell?_alloc_new _ _ _ _) (nth vs k/2 ^ (n % 32) % 4294967296) hcl.out (Nat.mod_lt _ (by decide)) hzl2 (by have:=hkp.size;simp;omega) ?_;intro a2 c2 w2 hown2 hb2)
 go_roundw
 case measure=>simp[intOf];omega
 case rel =>
 have h3:=Hl.out
 rw[H0.out,Nat.mul_zero,Nat.add_zero] at h3
 exact⟨k+1,_,by omega,by go_num,by simp[Hzl.out],hown2,Hst.out _ (by rw[H0.out];exact h3),(hkp.alloc _).below.trans hb2⟩
theorem and_lowI {x:Int} {s:Nat} (h:x=s) (hs:s<18446744073709551616):Go.bits BinOp.and IntKind.u64 x 4294967295 % 4294967296=((s % 4294967296:Nat):Int):=by
 subst h
 rw[and_low hs]
 omega
theorem plus_step {zs xs ys:List Nat} {k c z c':Nat} (hk:zs.length=k) (h:val zs+4294967296 ^ k*c=val (xs.take k)+val (ys.take k)) (hz:z+4294967296*c'=c+nth xs k+nth ys k) :
  val (zs++[z])+4294967296 ^ (k+1)*c'=val (xs.take (k+1))+val (ys.take (k+1)):=by
 rw[val_snoc,hk,val_take_step xs,val_take_step ys,Nat.pow_succ,Nat.mul_assoc]
 generalize 4294967296 ^ k=P at *
 have e:P*(z+4294967296*c')=P*(c+nth xs k+nth ys k):=by rw[hz]
 rw[Nat.mul_add,Nat.mul_add,Nat.mul_add] at e
 omega
set_option maxHeartbeats 2000000 in
set_option maxRecDepth 100000 in
theorem r2plus_any (a b:Option Addr) (xs ys:List Nat) (c d:Nat) (w:World) (h1:Rd w a xs) (h2:Rd w b ys) (hxl:xs.length≤1000000) (hyl:ys.length≤1000000) :
  Calls Tryz.prog 213 #[.slice a xs.length c,.slice b ys.length d] w (NatOut w (val xs+val ys)):=by
 go_enter Tryz.func213,Tryz.ntmps213
 go_wp2_with fail
 go_loopw [5,6,7] (fun v cy ix wr=>∃ (k q:Nat) (zs:List Nat),(k≤xs.length∨k≤ys.length)∧q≤1∧cy=.int .u64 q∧ix=.int .i64 k∧zs.length=k∧Own wr w.heap.size v zs ∧
   val zs+4294967296 ^ k*q=val (xs.take k)+val (ys.take k)∧Kp w wr) (fun _ _ ix _=>(xs.length+ys.length)-(intOf ix).toNat)
 case atStart=>exact⟨0,0,[],.inl (Nat.zero_le _),by decide,rfl,rfl,rfl,Own.nil _ _,by simp[val],.refl _⟩
 case round =>
 obtain⟨k,q,zs,hk,hq,rfl,rfl,hzl,hown,hvz,hkp⟩:=hrel
 have Hvz:=hid hvz
 have Hzl:=hid hzl
 have hzl2:zs.length+1≤9000000:=by omega
 clear hvz
 by_cases hlx:k<xs.length
 ·obtain⟨b1,o1,rfl,hcx⟩:=(h1.kp hkp).some (i:=k) (by omega)
  have hx1:=hcx k (by omega)
  have bx:=h1.lt32.nth k
  clear hcx
  by_cases hly:k<ys.length
  rotate_left
  ·have H0:=hid (nth_ge (xs:=ys) (i:=k) (by omega))
   clear hzl
   have Hst:=hid (fun z c'=>plus_step (z:=z) (c':=c') Hzl.out Hvz.out)
   have hcl:=hid (and_lowI (x:=(q:Int)+nth xs k) (s:=q+nth xs k) (by omega) (by omega))
   go_wp2_with (at_builtin;refine wpList_append_u32 rfl _ _ rfl w.heap.size _ _ rfl (hown.alloc _) _ _ rfl (World.cell?_alloc_new _ _ _ _) ((q+nth xs k) % 4294967296) hcl.out (Nat.mod_lt _ (by decide)) hzl2 (by have:=hkp.size;simp;omega) ?_;intro a2 c2 w2 hown2 hb2)
   go_roundw
   case measure=>simp[intOf];omega
   case rel=>exact⟨k+1,(q+nth xs k)/4294967296,_,by omega,by omega,by go_num,by go_num,by simp[Hzl.out],hown2,Hst.out _ _ (by rw[H0.out];omega),(hkp.alloc _).below.trans hb2⟩
  obtain⟨b2,o2,rfl,hcy⟩:=(h2.kp hkp).some (i:=k) (by omega)
  have hy1:=hcy k (by omega)
  have by':=h2.lt32.nth k
  clear hcy hzl
  have Hst:=hid (fun z c'=>plus_step (z:=z) (c':=c') Hzl.out Hvz.out)
  have hcl:=hid (and_lowI (x:=(q:Int)+nth xs k+nth ys k) (s:=q+nth xs k+nth ys k) (by omega) (by omega))
  go_wp2_with (at_builtin;refine wpList_append_u32 rfl _ _ rfl w.heap.size _ _ rfl (hown.alloc _) _ _ rfl (World.cell?_alloc_new _ _ _ _) ((q+nth xs k+nth ys k) % 4294967296) hcl.out (Nat.mod_lt _ (by decide)) hzl2 (by have:=hkp.size;simp;omega) ?_;intro a2 c2 w2 hown2 hb2)
  go_roundw
  case measure=>simp[intOf];omega
  case rel=>exact⟨k+1,(q+nth xs k+nth ys k)/4294967296,_,by omega,by omega,by go_num,by go_num,by simp[Hzl.out],hown2,Hst.out _ _ (by omega),(hkp.alloc _).below.trans hb2⟩
 have hX0:nth xs k=0:=nth_ge (by omega)
 by_cases hly:k<ys.length
 ·obtain⟨b2,o2,rfl,hcy⟩:=(h2.kp hkp).some (i:=k) (by omega)
  have hy1:=hcy k (by omega)
  have by':=h2.lt32.nth k
  have H0:=hid hX0
  clear hcy hzl hX0
  have Hst:=hid (fun z c'=>plus_step (z:=z) (c':=c') Hzl.out Hvz.out)
  have hcl:=hid (and_lowI (x:=(q:Int)+nth ys k) (s:=q+nth ys k) (by omega) (by omega))
  go_wp2_with (at_builtin;refine wpList_append_u32 rfl _ _ rfl w.heap.size _ _ rfl (hown.alloc _) _ _ rfl (World.cell?_alloc_new _ _ _ _) ((q+nth ys k) % 4294967296) hcl.out (Nat.mod_lt _ (by decide)) hzl2 (by have:=hkp.size;simp;omega) ?_;intro a2 c2 w2 hown2 hb2)
  go_roundw
  case measure=>simp[intOf];omega
  case rel=>exact⟨k+1,(q+nth ys k)/4294967296,_,by omega,by omega,by go_num,by go_num,by simp[Hzl.out],hown2,Hst.out _ _ (by rw[H0.out];omega),(hkp.alloc _).below.trans hb2⟩
 have e3:=hid (show val (zs++[q])=val xs+val ys by
  have e:=Hvz.out
  rw[List.take_of_length_le (by omega),List.take_of_length_le (by omega)] at e
  rw[val_snoc,hzl];exact e)
 have hqq:(q:Int) % 4294967296=(q:Int):=by omega
 clear hzl hX0
 have hkk:=hid hkp
 go_wp2_with (at_builtin;refine wpList_append_u32 rfl _ _ rfl w.heap.size _ _ rfl (hown.alloc _) _ _ rfl (World.cell?_alloc_new _ _ _ _) q rfl (by omega) hzl2 (by have:=hkp.size;simp;omega) ?_;intro a2 c2 w2 hown2 hb2)
 obtain⟨l5,m5,r5,r6⟩:=hown2.rd
 have hT:=r2trim_any a2 (zs++[q]) c2 w2 r6 m5 r5 (by rw[List.length_append,List.length_singleton];have:=Hzl.out;omega)
 rw[List.length_append,List.length_singleton] at hT
 have HT:=hid hT
 have hkw:=hid (show Kp w w2 from (hkk.out.alloc _).below.trans hb2)
 clear hown2 r6 hT hb2 hown hkp hqq l5 m5 r5
 refine HT.out.mono ?_
 rintro e w7 ⟨a6,c6,rfl,l6,m6,r6,k6⟩
 go_wp2_with fail
 go_ret
 rw[← e3.out]
 exact⟨a6,c6,rfl,l6,m6,r6,hkw.out.trans k6⟩
theorem minus_step {zs xs ys:List Nat} {k c z c':Nat} (hk:zs.length=k) (h:val zs+val (ys.take k)=val (xs.take k)+4294967296 ^ k*c) (hz:z+(c+nth ys k)=nth xs k+4294967296*c') :
  val (zs++[z])+val (ys.take (k+1))=val (xs.take (k+1))+4294967296 ^ (k+1)*c':=by
 rw[val_snoc,hk,val_take_step xs,val_take_step ys,Nat.pow_succ,Nat.mul_assoc]
 generalize 4294967296 ^ k=P at *
 have e:P*(z+(c+nth ys k))=P*(nth xs k+4294967296*c'):=by rw[hz]
 rw[Nat.mul_add,Nat.mul_add,Nat.mul_add] at e
 omega
set_option maxHeartbeats 2000000 in
set_option maxRecDepth 100000 in
theorem r2minus_any (a b:Option Addr) (xs ys:List Nat) (c d:Nat) (w:World) (h1:Rd w a xs) (h2:Rd w b ys) (hxl:xs.length≤1000000) (hyl:ys.length≤xs.length) (hle:val ys≤val xs) :
  Calls Tryz.prog 215 #[.slice a xs.length c,.slice b ys.length d] w (NatOut w (val xs-val ys)):=by
 have Hle:=hid hle
 clear hle
 go_enter Tryz.func215,Tryz.ntmps215
 go_wp2_with fail
 go_loopw [5,6,7] (fun v cy ix wr=>∃ (k q:Nat) (zs:List Nat),k≤xs.length∧q≤1∧cy=.int .u64 q∧ix=.int .i64 k∧zs.length=k∧Own wr w.heap.size v zs ∧
   val zs+val (ys.take k)=val (xs.take k)+4294967296 ^ k*q∧Kp w wr) (fun _ _ ix _=>xs.length-(intOf ix).toNat)
 case atStart=>exact⟨0,0,[],Nat.zero_le _,by decide,rfl,rfl,rfl,Own.nil _ _,by simp[val],.refl _⟩
 case round =>
 obtain⟨k,q,zs,hk,hq,rfl,rfl,hzl,hown,hvz,hkp⟩:=hrel
 have Hvz:=hid hvz
 have Hzl:=hid hzl
 have hzl2:zs.length+1≤9000000:=by omega
 clear hvz
 by_cases hlx:k<xs.length
 ·obtain⟨b1,o1,rfl,hcx⟩:=(h1.kp hkp).some (i:=k) (by omega)
  have hx1:=hcx k (by omega)
  have bx:=h1.lt32.nth k
  clear hcx hzl
  have Hst:=hid (fun z c'=>minus_step (z:=z) (c':=c') Hzl.out Hvz.out)
  by_cases hly:k<ys.length
  ·obtain⟨b2,o2,rfl,hcy⟩:=(h2.kp hkp).some (i:=k) (by omega)
   have hy1:=hcy k (by omega)
   have by':=h2.lt32.nth k
   clear hcy
   have hcl:=hid (and_lowI (x:=(nth xs k:Int)+4294967296-((q:Int)+nth ys k)) (s:=nth xs k+4294967296-(q+nth ys k)) (by omega) (by omega))
   go_wp2_with (at_builtin;refine wpList_append_u32 rfl _ _ rfl w.heap.size _ _ rfl (hown.alloc _) _ _ rfl (World.cell?_alloc_new _ _ _ _) ((nth xs k+4294967296-(q+nth ys k)) % 4294967296) hcl.out (Nat.mod_lt _ (by decide)) hzl2 (by have:=hkp.size;simp;omega) ?_;intro a2 c2 w2 hown2 hb2)
   go_roundw
   case measure=>simp[intOf];omega
   case rel=>exact⟨k+1,1-(nth xs k+4294967296-(q+nth ys k))/4294967296,_,by omega,by omega,by congr 1;omega,by go_num,by simp[Hzl.out],hown2,Hst.out _ _ (by omega),(hkp.alloc _).below.trans hb2⟩
  have H0:=hid (nth_ge (xs:=ys) (i:=k) (by omega))
  have hcl:=hid (and_lowI (x:=(nth xs k:Int)+4294967296-(q:Int)) (s:=nth xs k+4294967296-q) (by omega) (by omega))
  go_wp2_with (at_builtin;refine wpList_append_u32 rfl _ _ rfl w.heap.size _ _ rfl (hown.alloc _) _ _ rfl (World.cell?_alloc_new _ _ _ _) ((nth xs k+4294967296-q) % 4294967296) hcl.out (Nat.mod_lt _ (by decide)) hzl2 (by have:=hkp.size;simp;omega) ?_;intro a2 c2 w2 hown2 hb2)
  go_roundw
  case measure=>simp[intOf];omega
  case rel=>exact⟨k+1,1-(nth xs k+4294967296-q)/4294967296,_,by omega,by omega,by congr 1;omega,by go_num,by simp[Hzl.out],hown2,Hst.out _ _ (by rw[H0.out];omega),(hkp.alloc _).below.trans hb2⟩
 obtain⟨a5,c5,e5,l5,m5,r5⟩:=hown.value
 subst e5
 have e3:=hid (show val zs=val xs-val ys by
  have e:=Hvz.out
  have hl:=Hle.out
  have hb:=val_lt r5.lt32
  rw[hzl] at hb
  rw[List.take_of_length_le (by omega),List.take_of_length_le (by omega)] at e
  generalize 4294967296 ^ k=P at *
  have hq2:q=0∨q=1:=by omega
  rcases hq2 with rfl | rfl <;> omega)
 have hT:=hid (r2trim_any a5 zs c5 wr r5 l5 m5 (by omega))
 have hkk:=hid hkp
 clear hkp hown hzl
 go_wp2_with fail
 refine hT.out.mono ?_
 rintro e w7 ⟨a6,c6,rfl,l6,m6,r6,k6⟩
 go_wp2_with fail
 go_ret
 rw[← e3.out]
 exact⟨a6,c6,rfl,l6,m6,r6,hkk.out.trans k6⟩
theorem limbs_top_ne {n:Nat} (h:n≠0):nth (limbs n) ((limbs n).length-1)≠0:=by
 have hl:0<(limbs n).length:=by
  rw[List.length_pos_iff,Ne,limbs_eq_nil];exact h
 have ht:=limbs_top n
 unfold Top at ht
 rw[List.getLast?_eq_getElem?,List.getElem?_eq_getElem (by omega)] at ht
 rw[nth_eq (by omega)]
 exact fun e=>ht (congrArg some e)
theorem bits_top {n:Nat} (h:n≠0):bits n=32*((limbs n).length-1)+bits (nth (limbs n) ((limbs n).length-1))∧nth (limbs n) ((limbs n).length-1)≠0:=by
 have hl:0<(limbs n).length:=by
  rw[List.length_pos_iff,Ne,limbs_eq_nil];exact h
 have ht:nth (limbs n) ((limbs n).length-1)≠0:=limbs_top_ne h
 have h32:=limbs_lt32 n
 have hv:=val_limbs n
 generalize limbs n=xs at *
 have e:xs=xs.take (xs.length-1)++[nth xs (xs.length-1)]:=by
  rw[nth_eq (by omega),← List.take_succ_eq_append_getElem (by omega),List.take_of_length_le (by omega)]
 have hb:=bits_val_snoc (h32.take (xs.length-1)) ht
 rw[← e,hv,List.length_take,Nat.min_eq_left (by omega)] at hb
 exact⟨hb,ht⟩
set_option maxHeartbeats 1000000 in
theorem r2bits_any (a:Option Addr) (n:Nat) (c:Nat) (w:World) (h:Rd w a (limbs n)) (hl:(limbs n).length≤1100000) :
  Calls Tryz.prog 116 #[.slice a (limbs n).length c] w fun e w'=>e=.returned (.int .i64 (bits n))∧w=w':=by
 by_cases h0:n=0
 ·have hz:=len_is0 h0
  have hb:=hid (show bits n=0 by rw[h0,bits_zero])
  clear h0
  go_enter Tryz.func116,Tryz.ntmps116
  go_wp2_with fail
  go_ret
  rw[hb.out]
  exact⟨rfl,rfl⟩
 have hz:=len_ne h0
 obtain⟨hb,ht⟩:=bits_top h0
 have hpos:0<(limbs n).length:=by
  rw[List.length_pos_iff,Ne,limbs_eq_nil];exact h0
 have hnt:=(limbs_lt32 n).nth ((limbs n).length-1)
 have hbt:bits (nth (limbs n) ((limbs n).length-1))≤32:=bits_le.2 hnt
 obtain⟨b,o,rfl,hcell⟩:=h.some hpos
 have hx:=hcell ((limbs n).length-1) (by omega)
 have Hb:=hid hb
 clear hcell h hb h0
 generalize (limbs n).length=L at *
 generalize nth (limbs n) (L-1)=t at *
 have hi1:(0:Int)≤((L-1:Nat):Int):=by omega
 have hi2:((L-1:Nat):Int)<(L:Int):=by omega
 have hL1:(L:Int)-1=((L-1:Nat):Int):=by omega
 go_enter Tryz.func116,Tryz.ntmps116
 go_wp2_with fail
 go_loop [3,4] (fun v x=>∃ (y j:Nat),x=.int .u32 y∧v=.int .i64 ((32*(L-1)+j:Nat):Int)∧j+bits y=bits t∧y<4294967296) (fun _ x=>(intOf x).toNat)
 case atStart=>exact⟨t,0,rfl,by congr 1 <;> omega,by omega,hnt⟩
 case round =>
 obtain⟨y,j,rfl,rfl,hj,hy⟩:=hrel
 by_cases hy0:y=0
 ·subst hy0
  rw[bits_zero] at hj
  have HB:=hid (show bits n=32*(L-1)+j by rw[Hb.out];omega)
  go_wp2_with fail
  go_ret
  rw[HB.out]
  exact⟨rfl,rfl⟩
 have h2:=bits_half hy0
 have h3:0<y:=by omega
 go_wp2_with fail
 go_round
 case measure=>simp[intOf];omega
 case rel=>exact⟨y/2,j+1,by go_num,by congr 1 <;> omega,by omega,by omega⟩
set_option maxHeartbeats 1000000 in
theorem r2Neg_ok (x:RD) (w:World) (h:x.ok w) :
  Calls Tryz.prog 181 #[.agg #[.bool x.neg,.slice x.a x.xs.length x.c,.int .i64 x.e]] w (NumOut w x.dy.opp):=by
 have hxd:=rdok_dy h
 have hz:=rdok_zero h
 have hlim:=rdok_limbs h
 have Ho:=hid (show x.dy.opp=(RD.mk (!x.neg&&decide (0<x.xs.length)) x.a x.xs x.c x.e).dy by
  unfold Dy.opp
  by_cases h0:x.dy.m=0
  ·rw[if_pos h0]
   have e:=x.dy.eq_zero hxd h0
   have hl:=hz.2 h0
   have hs:x.xs=[]:=List.eq_nil_of_length_eq_zero hl
   have he:x.e=0:=congrArg Dy.e e
   unfold RD.dy
   simp only[hs,he,List.length_nil,Nat.lt_irrefl,decide_false,Bool.and_false]
   rfl
  ·rw[if_neg h0]
   have hl:0<x.xs.length:=Nat.pos_of_ne_zero (fun e=>h0 (hz.1 e))
   unfold RD.dy
   simp only[hl,decide_true,Bool.and_true])
 have Hv:=hid (show (x.dy.opp.ok→(RD.mk (!x.neg&&decide (0<x.xs.length)) x.a x.xs x.c x.e).vl=true) from fun hok=>by
  have:=ok_vld hok
  rw[Ho.out] at this
  rw[show limbs (RD.mk (!x.neg&&decide (0<x.xs.length)) x.a x.xs x.c x.e).dy.m=x.xs from hlim] at this
  exact this)
 have hrd:=h.1
 clear hz hlim hxd
 obtain⟨B,hB⟩:∃ B:Bool,B=(!x.neg&&decide (0<x.xs.length)):=⟨_,rfl⟩
 rw[← hB] at Ho Hv
 have goal:∀ W:World,Kp w W→x.rd W→NumOut w x.dy.opp (.returned (.agg #[.bool B,.slice x.a x.xs.length x.c,.int .i64 x.e])) W:=fun W k r=>⟨RD.mk B x.a x.xs x.c x.e,rfl,⟨r.1,r.2⟩,Ho.out.symm,Hv.out,k⟩
 have Goal:=hid goal
 clear goal Ho Hv
 cases hn:x.neg with
 | false =>
  rw[hn] at hB
  simp only[Bool.not_false,Bool.true_and] at hB
  subst hB
  go_enter Tryz.func181,Tryz.ntmps181
  go_wp2_with fail
  generalize hW:((w.alloc _).alloc _)=W at *
  have hk:Kp w W:=hW▸((Kp.refl w).alloc _).alloc _
  obtain⟨q0,q1,q2,f0,f1,f2⟩:Box3 W (w.heap.size+1) (.bool (decide (0<x.xs.length))) (.slice x.a x.xs.length x.c) (.int .i64 x.e):=hW▸Box3.new2 _ _ _ _ _ _
  clear hW
  refine bodyPost_ret (v:=.agg #[.bool (decide (0<x.xs.length)),.slice x.a x.xs.length x.c,.int .i64 x.e]) (by simp[results,Tryz.results181,go_sem,q0,q1,q2]) rfl ?_
  exact Goal.out _ hk (hrd.kp hk)
 | true =>
 rw[hn] at hB
 simp only[Bool.not_true,Bool.false_and] at hB
 subst hB
 go_enter Tryz.func181,Tryz.ntmps181
 go_wp2_with fail
 generalize hW:((w.alloc _).alloc _)=W at *
 have hk:Kp w W:=hW▸((Kp.refl w).alloc _).alloc _
 obtain⟨q0,q1,q2,f0,f1,f2⟩:Box3 W (w.heap.size+1) (.bool false) (.slice x.a x.xs.length x.c) (.int .i64 x.e):=hW▸Box3.new2 _ _ _ _ _ _
 clear hW
 refine bodyPost_ret (v:=.agg #[.bool false,.slice x.a x.xs.length x.c,.int .i64 x.e]) (by simp[results,Tryz.results181,go_sem,q0,q1,q2]) rfl ?_
 exact Goal.out _ hk (hrd.kp hk)
end Go.Proofs.YtbhmhfnfceakoaaGreatDoor
