/-
  Walks: slices.ContainsFunc at numbers; problem.ValidSystem.
-/
import Derived.Test.YteidgoldnllabaaGreatDoorMPopN
import Derived.Test.YteidgoldnllabaaGreatDoorMIvF4
namespace Go.Proofs.YteidgoldnllabaaGreatDoor
open Go.RowKit Go.Sort
def AnsZ (P:Program) (g:FuncId) (cap:Array Value) (w:World) (zs:List Int) (p:Int→Bool):Prop :=
 Enters P g∧∀ x,x∈zs→∀ w1,Kp w w1→Calls P g (#[.int .i64 x]++cap) w1 fun e w2=>e=.returned (.bool (p x))∧Kp w1 w2
set_option maxHeartbeats 4000000 in
theorem idxZ (a:Option Addr) (zs:List Int) (c:Nat) (g:FuncId) (cap:Array Value) (w:World) (B:Nat) (p:Int→Bool) (hm:zs.length≤1100000) (hrow:RowV numC 1 w B a zs) (hp:AnsZ Tryz.prog g cap w zs p) :
  Calls Tryz.prog 161 #[.slice a zs.length c,.func (.func g) #[] cap] w fun e w'=>((∃ k:Nat,e=.returned (.int .i64 (k:Int))∧k<zs.length∧zs.any p=true)∨(e=.returned (.int .i64 (-1))∧zs.any p=false))∧Kp w w':=by
 have HR:=Lib.hid hrow
 have HP:=Lib.hid hp.2
 have hgo:∀ args w,(callFunc g args).run Tryz.prog w=.ok (.enter g args) w:=hp.1
 clear hrow hp
 go_enter Tryz.func161,Tryz.ntmps161
 go_wp2
 go_loopw [8] (fun x wr=>∃ k:Nat,k≤zs.length∧x=.int .i64 k∧(∀ (i:Nat) (s:Int),zs[i]? = some s→i<k→p s=false)∧Kp w wr) (fun x _=>zs.length-(intOf x).toNat)
 case atStart=>exact⟨0,by omega,rfl,fun i s _ h=>absurd h (Nat.not_lt_zero _),.refl _⟩
 case round =>
 obtain⟨k,hk,rfl,hz,hkp⟩:=hrel
 have Hz:=Lib.hid hz
 have Hk:=Lib.hid hkp
 clear hz
 by_cases hlt:k<zs.length
 rotate_left
 ·have Ha:=Lib.hid (show zs.any p=false from List.any_eq_false.2 fun s hs=>by
   obtain⟨i,hi⟩:=List.getElem?_of_mem hs
   rw[Hz.out i s hi (by have:=(List.getElem?_eq_some_iff.1 hi).1;omega)];decide)
  clear hkp
  go_wp2
  go_ret
  exact⟨.inr ⟨rfl,Ha.out⟩,Hk.out⟩
 obtain⟨s,hs⟩:∃ s,zs[k]? = some s:=⟨_,List.getElem?_eq_getElem hlt⟩
 obtain⟨b,o,rfl,_,h0⟩:=HR.out.kp hkp k s hs
 have Hc:Calls Tryz.prog g (#[.int .i64 s]++cap) wr fun e w2=>e=.returned (.bool (p s))∧Kp wr w2:=HP.out s (List.mem_of_getElem? hs) wr hkp
 have Hs:=Lib.hid hs
 have q0:wr.cell? ⟨b,o+k*1,none⟩=some (.int .i64 s):=h0 0 _ rfl
 rw[Nat.mul_one] at q0
 clear hs hkp h0
 cases hq:p s with
 | true =>
  rw[hq] at Hc
  have Hc:=Lib.hid Hc
  have Ha:=Lib.hid (show zs.any p=true from List.any_eq_true.2 ⟨s,List.mem_of_getElem? Hs.out,hq⟩)
  clear hq
  go_wp2_with (refine Hc.out.mono ?_;rintro e w2 ⟨rfl,k2⟩)
  go_ret
  exact⟨.inl ⟨k,rfl,hlt,Ha.out⟩,Hk.out.trans k2⟩
 | false =>
 rw[hq] at Hc
 have Hc:=Lib.hid Hc
 have Hq:=Lib.hid hq
 clear hq
 go_wp2_with (refine Hc.out.mono ?_;rintro e w2 ⟨rfl,k2⟩)
 go_roundw
 case measure=>simp[intOf];omega
 case rel =>
 refine⟨k+1,by omega,by go_num,fun i s' hs' hi=>?_,Hk.out.trans k2⟩
 by_cases h:i=k
 ·subst h;rw[Hs.out] at hs';cases hs';exact Hq.out
 exact Hz.out i s' hs' (by omega)
set_option maxHeartbeats 400000 in
theorem containsZ (a:Option Addr) (zs:List Int) (c:Nat) (g:FuncId) (cap:Array Value) (w:World) (B:Nat) (p:Int→Bool) (hm:zs.length≤1100000) (hrow:RowV numC 1 w B a zs) (hp:AnsZ Tryz.prog g cap w zs p) :
  Calls Tryz.prog 111 #[.slice a zs.length c,.func (.func g) #[] cap] w fun e w'=>e=.returned (.bool (zs.any p))∧Kp w w':=by
 have Hc:=Lib.hid (idxZ a zs c g cap w B p hm hrow hp)
 clear hp hrow
 obtain⟨b0,hb0⟩:∃ b0,zs.any p=b0:=⟨_,rfl⟩
 rw[hb0] at Hc ⊢
 clear hb0
 go_enter Tryz.func111,Tryz.ntmps111
 go_wp2_with (refine Hc.out.mono ?_;rintro e w2 ⟨(⟨k,rfl,hk,hb⟩ | ⟨rfl,hb⟩),k2⟩)
 ·have hk0:(0:Int)≤(k:Int):=by omega
  subst hb
  go_wp2
  go_ret
  exact⟨rfl,k2⟩
 subst hb
 go_wp2
 go_ret
 exact⟨rfl,k2⟩
theorem rowRdI {w:World} {a:Option Addr} {zs:List RI} (h:RowI w a zs) {x:RI} (hx:x∈zs):x.rd w:=by
 obtain⟨i,hi⟩:=List.getElem?_of_mem hx
 obtain⟨_,_,_,hr,_⟩:=h i x hi
 exact hr
def opsB:Int→List Opn→Bool
 | _,[]=>true
 | bf,o::r=>opB o bf&&opsB (bf+1) r
theorem opsB_at {bf:Int} {ops:List Opn} {k:Nat} {o:Opn} (h:ops[k]? = some o):opsB (bf+k) (ops.drop k)=(opB o (bf+k)&&opsB (bf+(k+1:Nat)) (ops.drop (k+1))):=by
 obtain⟨h1,e⟩:=List.getElem?_eq_some_iff.1 h
 rw[List.drop_eq_getElem_cons h1,opsB,e,show bf+(k+1:Nat)=bf+k+1 by omega]
def parB (x:RI):Bool:=!x.all&&(x.lo.vl&&(x.hi.vl&&decide (cmpZ x.lo.iv x.hi.iv≤0)))
def outZ (n:Int) (k:Int):Bool:=decide (k<0∨n≤k)
def sysB (x:Sy):Bool :=
 decide (0≤x.ins∧x.ins≤8∧x.ops.length≤200∧x.outs.length≤200)&&(opsB x.ins x.ops&&(!(x.outs.any (outZ (x.ins+x.ops.length)))&&(decide (1≤x.st∧x.st≤4∧(x.outs.length:Int)=x.st∧x.ins=x.st+x.ps.length∧x.ps.length≤4)&&!(x.ps.any fun z=>!parB z))))
set_option maxHeartbeats 2000000 in
set_option maxRecDepth 20000 in
theorem vsy1_any (k n:Int) (m:Nat) (oa:Option Addr) (oc g:Nat) (w:World) (h0:w.cell? ⟨g,0,none⟩=some (.int .i64 n)) (h1:w.cell? ⟨g,1,none⟩=some (.slice oa m oc)) (hn:0≤n∧n≤8) (hm:m≤200) :
  Calls Tryz.prog 112 #[.int .i64 k,.pointer (some ⟨g,0,none⟩)] w fun r w'=>r=.returned (.bool (outZ (n+m) k))∧Kp w w':=by
 have hz:outZ (n+m) k=decide (k<0∨n+m≤k):=rfl
 have HZ:=Lib.hid hz
 obtain⟨R,hR⟩:∃ R,outZ (n+m) k=R:=⟨_,rfl⟩
 rw[hR] at HZ ⊢
 clear hR hz
 go_enter Tryz.func112,Tryz.ntmps112
 go_wp2_with fail
 all_goals (go_ret;exact⟨ret_bool (by rw[HZ.out];first | exact (Bool.decide_or _ _).symm | exact (decide_eq_true (by omega)).symm | exact decide_eq_decide.2 ⟨fun h=>by omega,fun h=>by omega⟩),.refl _⟩)
set_option maxHeartbeats 4000000 in
set_option maxRecDepth 20000 in
theorem vsy2_any (x:RI) (w:World) (hx:x.rd w) :
  Calls Tryz.prog 113 #[.agg #[.bool x.lo.neg,.slice x.lo.a x.lo.xs.length x.lo.c,.int .i64 x.lo.e,.bool x.hi.neg,.slice x.hi.a x.hi.xs.length x.hi.c,.int .i64 x.hi.e,.bool x.all]] w fun r w'=>r=.returned (.bool (!parB x))∧Kp w w':=by
 have k1:Kp w (w.alloc (.cells #[.bool x.lo.neg,.slice x.lo.a x.lo.xs.length x.lo.c,.int .i64 x.lo.e,.bool x.hi.neg,.slice x.hi.a x.hi.xs.length x.hi.c,.int .i64 x.hi.e,.bool x.all] 115)):=(Kp.refl w).alloc _
 have h0:BoxV (w.alloc (.cells #[.bool x.lo.neg,.slice x.lo.a x.lo.xs.length x.lo.c,.int .i64 x.lo.e,.bool x.hi.neg,.slice x.hi.a x.hi.xs.length x.hi.c,.int .i64 x.hi.e,.bool x.all] 115)) w.heap.size [.bool x.lo.neg,.slice x.lo.a x.lo.xs.length x.lo.c,.int .i64 x.lo.e,.bool x.hi.neg,.slice x.hi.a x.hi.xs.length x.hi.c,.int .i64 x.hi.e,.bool x.all]:=BoxV.new w [_,_,_,_,_,_,_] _ _ rfl
 obtain⟨R,hR⟩:∃ R,parB x=R:=⟨_,rfl⟩
 rw[hR]
 go_enter Tryz.func113,Tryz.ntmps113
 go_upto_region 1 with fail
 generalize w.alloc _=W at *
 have HV1:=Lib.hid fun W' (k:Kp W W')=>Valid_raw x.lo W' (hx.1.kp (k1.trans k))
 have HV2:=Lib.hid fun W' (k:Kp W W')=>Valid_raw x.hi W' (hx.2.kp (k1.trans k))
 have HX:=Lib.hid fun W' (k:Kp W W')=>And.intro (hx.1.kp (k1.trans k)) (hx.2.kp (k1.trans k))
 have H0:=Lib.hid h0
 have K1:=Lib.hid k1
 have c0:=h0.cell 0 rfl;have c1:=h0.cell 1 rfl;have c2:=h0.cell 2 rfl;have c3:=h0.cell 3 rfl;have c4:=h0.cell 4 rfl;have c5:=h0.cell 5 rfl;have c6:=h0.cell 6 rfl
 clear h0 k1 hx
 cases ha:x.all with
 | true =>
  have HZ:=Lib.hid (show R=false by rw[← hR];unfold parB;rw[ha];rfl)
  rw[ha] at c6
  clear hR ha
  go_wp2_with fail
  go_ret
  exact⟨ret_bool (by rw[HZ.out];rfl),K1.out⟩
 | false =>
 rw[ha] at c6
 have h1:R=(x.lo.vl&&(x.hi.vl&&decide (cmpZ x.lo.iv x.hi.iv≤0))):=by rw[← hR];unfold parB;rw[ha];rfl
 have HA:=Lib.hid ha
 clear hR ha
 cases hl:x.lo.vl with
 | false =>
  have HZ:=Lib.hid (show R=false by rw[h1,hl];rfl)
  rw[hl] at HV1
  clear h1 hl
  go_wp2_with (first | (go_at_call 114;go_fit (HV1.out W (Kp.refl W));rintro r w2 ⟨rfl,k2⟩) | fail)
  go_ret
  exact⟨ret_bool (by rw[HZ.out];rfl),K1.out.trans k2⟩
 | true =>
 rw[hl] at HV1
 cases hh:x.hi.vl with
 | false =>
  have HZ:=Lib.hid (show R=false by rw[h1,hl,hh];rfl)
  rw[hh] at HV2
  clear h1 hl hh
  go_wp2_with (first
   | (go_at_call 114;go_fit (HV1.out W (Kp.refl W));rintro r w2 ⟨rfl,k2⟩;clear c0 c1 c2 c3 c4 c5;have hq:=H0.out.kp k2;have c3:=hq.cell 3 rfl;have c4:=hq.cell 4 rfl;have c5:=hq.cell 5 rfl;clear hq)
   | (go_at_call 114;go_fit (HV2.out w2 k2);rintro r w3 ⟨rfl,k3⟩)
   | fail)
  go_ret
  exact⟨ret_bool (by rw[HZ.out];rfl),K1.out.trans (k2.trans k3)⟩
 | true =>
 have HZ:=Lib.hid (show R=decide (cmpZ x.lo.iv x.hi.iv≤0) by rw[h1,hl,hh];rfl)
 rw[hh] at HV2
 have HC:=Lib.hid fun W' (k:Kp W W')=>Cmp_raw x.lo x.hi W' (HX.out W' k).1 (HX.out W' k).2 hl hh
 clear h1 hl hh
 generalize cmpZ x.lo.iv x.hi.iv=Z at *
 go_wp2_with (first
  | (go_at_call 114;go_fit (HV1.out W (Kp.refl W));rintro r w2 ⟨rfl,k2⟩;clear c0 c1 c2 c3 c4 c5;have hq:=H0.out.kp k2;have c3:=hq.cell 3 rfl;have c4:=hq.cell 4 rfl;have c5:=hq.cell 5 rfl;clear hq)
  | (go_at_call 114;go_fit (HV2.out w2 k2);rintro r w3 ⟨rfl,k3⟩;clear c3 c4 c5;have hq:=H0.out.kp (k2.trans k3);have c0:=hq.cell 0 rfl;have c1:=hq.cell 1 rfl;have c2:=hq.cell 2 rfl;have c3:=hq.cell 3 rfl;have c4:=hq.cell 4 rfl;have c5:=hq.cell 5 rfl;clear hq)
  | (go_at_call 115;go_fit (HC.out w3 (k2.trans k3));rintro r w4 ⟨rfl,k4⟩)
  | fail)
 go_ret
 exact⟨ret_bool (by rw[HZ.out,← decide_not];exact decide_eq_decide.2 ⟨fun h=>by omega,fun h=>by omega⟩),K1.out.trans (k2.trans (k3.trans k4))⟩
theorem sysB_eq (x:Sy):sysB x=(decide (0≤x.ins∧x.ins≤8∧x.ops.length≤200∧x.outs.length≤200)&&(opsB x.ins x.ops&&(!(x.outs.any (outZ (x.ins+x.ops.length)))&&(decide (1≤x.st∧x.st≤4∧(x.outs.length:Int)=x.st∧x.ins=x.st+x.ps.length∧x.ps.length≤4)&&!(x.ps.any fun z=>!parB z))))):=rfl
set_option maxHeartbeats 16000000 in
set_option maxRecDepth 20000 in
theorem vsys_any (x:Sy) (w:World) (B1 B2:Nat) (ho:RowV Opn.cells 6 w B1 x.oa x.ops) (hu:RowV numC 1 w B2 x.ua x.outs) (hp:RowI w x.pa x.ps) (lo:x.ops.length≤1100000) (lu:x.outs.length≤1100000) (lp:x.ps.length≤1100000) :
  Calls Tryz.prog 51 #[.agg #[.int .i64 x.ins,.slice x.oa x.ops.length x.oc,.slice x.ua x.outs.length x.uc,.int .i64 x.st,.slice x.pa x.ps.length x.pc]] w fun r w'=>r=.returned (.bool (sysB x))∧Kp w w':=by
 have k1:Kp w (w.alloc (.cells #[.int .i64 x.ins,.slice x.oa x.ops.length x.oc,.slice x.ua x.outs.length x.uc,.int .i64 x.st,.slice x.pa x.ps.length x.pc] 60)):=(Kp.refl w).alloc _
 have h0:BoxV (w.alloc (.cells #[.int .i64 x.ins,.slice x.oa x.ops.length x.oc,.slice x.ua x.outs.length x.uc,.int .i64 x.st,.slice x.pa x.ps.length x.pc] 60)) w.heap.size x.cells:=BoxV.new w x.cells _ _ rfl
 obtain⟨R,hR⟩:∃ R,sysB x=R:=⟨_,rfl⟩
 have HR:=Lib.hid (hR.symm.trans (sysB_eq x))
 rw[hR]
 clear hR
 go_enter Tryz.func51,Tryz.ntmps51
 go_upto_region 1 with fail
 generalize w.alloc _=W at *
 have c0:=h0.cell 0 rfl
 have c1:=h0.cell 1 rfl
 have c2:=h0.cell 2 rfl
 have k2:Kp W (W.alloc (.cells #[.int .i64 x.ins,.slice x.oa x.ops.length x.oc,.slice x.ua x.outs.length x.uc] 57)):=(Kp.refl W).alloc _
 have ht:BoxV (W.alloc (.cells #[.int .i64 x.ins,.slice x.oa x.ops.length x.oc,.slice x.ua x.outs.length x.uc] 57)) W.heap.size [.int .i64 x.ins,.slice x.oa x.ops.length x.oc,.slice x.ua x.outs.length x.uc]:=BoxV.new W [_,_,_] _ _ rfl
 go_upto_region 2 with fail
 generalize W.alloc _=V at *
 have HO:=Lib.hid (ho.kp (k1.trans k2))
 have HU:=Lib.hid (hu.kp (k1.trans k2))
 have HP:=Lib.hid (hp.kp (k1.trans k2))
 have K1:=Lib.hid (k1.trans k2)
 have H0:=Lib.hid (h0.kp k2)
 have HT:=Lib.hid ht
 generalize W.heap.size=tb at *
 have t0:=ht.cell 0 rfl
 have t1:=ht.cell 1 rfl
 have t2:=ht.cell 2 rfl
 clear c0 c1 c2 h0 ht ho hu hp k1 k2
 by_cases hi0:x.ins<0
 ·have HZ:=Lib.hid (show R=false by rw[HR.out,decide_eq_false (by omega)];rfl)
  go_wp2_with fail
  go_ret
  exact⟨ret_bool (by rw[HZ.out]),K1.out⟩
 by_cases hi8:8<x.ins
 ·have HZ:=Lib.hid (show R=false by rw[HR.out,decide_eq_false (by omega)];rfl)
  go_wp2_with fail
  go_ret
  exact⟨ret_bool (by rw[HZ.out]),K1.out⟩
 by_cases hol:(200:Int)<(x.ops.length:Int)
 ·have HZ:=Lib.hid (show R=false by rw[HR.out,decide_eq_false (by omega)];rfl)
  go_wp2_with fail
  go_ret
  exact⟨ret_bool (by rw[HZ.out]),K1.out⟩
 by_cases hul:(200:Int)<(x.outs.length:Int)
 ·have HZ:=Lib.hid (show R=false by rw[HR.out,decide_eq_false (by omega)];rfl)
  go_wp2_with fail
  go_ret
  exact⟨ret_bool (by rw[HZ.out]),K1.out⟩
 have HR2:=Lib.hid (show R=(opsB x.ins x.ops&&(!(x.outs.any (outZ (x.ins+x.ops.length)))&&(decide (1≤x.st∧x.st≤4∧(x.outs.length:Int)=x.st∧x.ins=x.st+x.ps.length∧x.ps.length≤4)&&!(x.ps.any fun z=>!parB z)))) by rw[HR.out,decide_eq_true (by omega),Bool.true_and])
 clear HR
 go_upto_region 5 with fail
 clear t0 t1 t2
 go_loopw [31] (fun z wr=>∃ k:Nat,k≤x.ops.length∧z=.int .i64 k∧Kp V wr∧opsB x.ins x.ops=opsB (x.ins+k) (x.ops.drop k)) (fun z _=>x.ops.length-(intOf z).toNat)
 case atStart=>exact⟨0,by omega,rfl,.refl _,by simp⟩
 case round =>
 obtain⟨k,hk,rfl,hkv,hz⟩:=hrel
 have HKv:=Lib.hid hkv
 by_cases hlt:k<x.ops.length
 ·obtain⟨q,hs⟩:∃ q,x.ops[k]? = some q:=⟨_,List.getElem?_eq_getElem hlt⟩
  obtain⟨b,o,ha,_,hc⟩:=HO.out.kp hkv k q hs
  rw[opsB_at hs] at hz
  have Hz:=Lib.hid hz
  have k2:Kp wr (wr.alloc (.cells #[.int .i64 q.k,.int .i64 q.a,.int .i64 q.b,.int .i64 q.n,.int .i64 q.cn,.int .i64 q.cd] 120)):=(Kp.refl wr).alloc _
  have hb2:BoxV (wr.alloc (.cells #[.int .i64 q.k,.int .i64 q.a,.int .i64 q.b,.int .i64 q.n,.int .i64 q.cn,.int .i64 q.cd] 120)) wr.heap.size [.int .i64 q.k,.int .i64 q.a,.int .i64 q.b,.int .i64 q.n,.int .i64 q.cn,.int .i64 q.cd]:=BoxV.new wr [_,_,_,_,_,_] _ _ rfl
  have y0:wr.cell? ⟨b,o+k*6,none⟩=some (.int .i64 q.k):=hc 0 _ rfl
  have y1:wr.cell? ⟨b,o+k*6+1,none⟩=some (.int .i64 q.a):=hc 1 _ rfl
  have y2:wr.cell? ⟨b,o+k*6+2,none⟩=some (.int .i64 q.b):=hc 2 _ rfl
  have y3:wr.cell? ⟨b,o+k*6+3,none⟩=some (.int .i64 q.n):=hc 3 _ rfl
  have y4:wr.cell? ⟨b,o+k*6+4,none⟩=some (.int .i64 q.cn):=hc 4 _ rfl
  have y5:wr.cell? ⟨b,o+k*6+5,none⟩=some (.int .i64 q.cd):=hc 5 _ rfl
  rw[ha]
  clear hs hc ha hkv hz
  go_upto_region 7 with fail
  generalize wr.alloc _=X at *
  clear y0 y1 y2 y3 y4 y5
  have hT:=HT.out.kp (HKv.out.trans k2)
  have t0:=hT.cell 0 rfl
  have c0:=hb2.cell 0 rfl;have c1:=hb2.cell 1 rfl;have c2:=hb2.cell 2 rfl;have c3:=hb2.cell 3 rfl;have c4:=hb2.cell 4 rfl;have c5:=hb2.cell 5 rfl
  have HKX:=Lib.hid (HKv.out.trans k2)
  clear hT hb2 k2
  have HC:=Lib.hid (pop_any q.k q.a q.b q.n q.cn q.cd (x.ins+k) X)
  have HQ:=Lib.hid (show opB ⟨q.k,q.a,q.b,q.n,q.cn,q.cd⟩ (x.ins+k)=opB q (x.ins+k) from rfl)
  cases hb:opB q (x.ins+k) with
  | false =>
   rw[HQ.out,hb] at HC
   have HZ:=Lib.hid (show R=false by rw[HR2.out,Hz.out,hb];rfl)
   clear hb HQ
   go_wp2_with (first | (go_at_call 110;go_fit HC.out;rintro r w4 ⟨rfl,k4⟩) | fail)
   go_ret
   exact⟨ret_bool (by rw[HZ.out]),K1.out.trans (HKX.out.trans k4)⟩
  | true =>
  rw[HQ.out,hb] at HC
  have HZ:=Lib.hid (show opsB x.ins x.ops=opsB (x.ins+(k+1:Nat)) (x.ops.drop (k+1)) by rw[Hz.out,hb,Bool.true_and])
  clear hb HQ
  go_wp2_with (first | (go_at_call 110;go_fit HC.out;rintro r w4 ⟨rfl,k4⟩) | fail)
  go_roundw
  case measure=>simp only[intOf];omega
  case rel=>exact⟨k+1,by omega,by go_num,HKX.out.trans k4,HZ.out⟩
 have HR3:=Lib.hid (show R=(!(x.outs.any (outZ (x.ins+x.ops.length)))&&(decide (1≤x.st∧x.st≤4∧(x.outs.length:Int)=x.st∧x.ins=x.st+x.ps.length∧x.ps.length≤4)&&!(x.ps.any fun z=>!parB z))) by
  rw[HR2.out,hz,List.drop_eq_nil_of_le (show x.ops.length≤k by omega),opsB,Bool.true_and])
 clear HR2 hz hkv
 have hT:=HT.out.kp HKv.out
 have t0:=hT.cell 0 rfl
 have t1:=hT.cell 1 rfl
 have t2:=hT.cell 2 rfl
 clear hT
 have hmf:∀ (fn:Fn) (first cap:Array Value) (w:World),(Instr.makeFunc fn first cap).run Tryz.prog w=.ok (.func fn first cap) w:=fun _ _ _ _=>rfl
 have HCo:=Lib.hid (containsZ x.ua x.outs x.uc 112 #[.pointer (some ⟨tb,0,none⟩)] wr B2 (outZ (x.ins+x.ops.length)) lu (HU.out.kp HKv.out)
  ⟨fun _ _=>by kernel_rfl,fun k _ w1 h1=>vsy1_any k x.ins x.ops.length x.oa x.oc tb w1 ((HT.out.kp (HKv.out.trans h1)).cell 0 rfl) ((HT.out.kp (HKv.out.trans h1)).cell 1 rfl) (by omega) (by omega)⟩)
 generalize hU:x.outs.any (outZ (x.ins+x.ops.length))=U at *
 clear hU
 cases U with
 | true =>
  have HZ:=Lib.hid (show R=false from HR3.out)
  go_wp2_with (first | (go_at_call 111;go_fit HCo.out;rintro r w4 ⟨rfl,k4⟩) | fail)
  go_ret
  exact⟨ret_bool (by rw[HZ.out]),K1.out.trans (HKv.out.trans k4)⟩
 | false =>
 have HR4:=Lib.hid (show R=(decide (1≤x.st∧x.st≤4∧(x.outs.length:Int)=x.st∧x.ins=x.st+x.ps.length∧x.ps.length≤4)&&!(x.ps.any fun z=>!parB z)) from HR3.out)
 go_upto_region 12 with (first | (go_at_call 111;go_fit HCo.out;rintro r w4 ⟨rfl,k4⟩) | fail)
 clear t0 t1 t2
 have HK4:=Lib.hid (HKv.out.trans k4)
 have hT:=HT.out.kp HK4.out
 have t0:=hT.cell 0 rfl
 have t2:=hT.cell 2 rfl
 have hq:=H0.out.kp HK4.out
 have s3:=hq.cell 3 rfl
 have s4:=hq.cell 4 rfl
 clear hT hq k4 HR3
 have fin:R=false→∀ W',Kp V W'→Ending.returned (.bool false)=Ending.returned (.bool R)∧Kp w W':=fun h W' k=>⟨by rw[h],K1.out.trans k⟩
 have FIN:=Lib.hid fin
 clear fin
 by_cases h1:x.st<1
 ·have HZ:=Lib.hid (show R=false by rw[HR4.out,decide_eq_false (by omega)];rfl)
  go_wp2_with fail
  go_ret
  exact FIN.out HZ.out _ HK4.out
 by_cases h2:4<x.st
 ·have HZ:=Lib.hid (show R=false by rw[HR4.out,decide_eq_false (by omega)];rfl)
  go_wp2_with fail
  go_ret
  exact FIN.out HZ.out _ HK4.out
 by_cases h3:(x.outs.length:Int)=x.st
 rotate_left
 ·have HZ:=Lib.hid (show R=false by rw[HR4.out,decide_eq_false (by omega)];rfl)
  have h3b:((x.outs.length:Int) != x.st)=true:=bne_iff_ne.2 h3
  clear h3
  go_wp2_with fail
  go_ret
  exact FIN.out HZ.out _ HK4.out
 by_cases h4:x.ins=x.st+x.ps.length
 rotate_left
 ·have HZ:=Lib.hid (show R=false by rw[HR4.out,decide_eq_false (by omega)];rfl)
  have h3b:((x.outs.length:Int) != x.st)=false:=by rw[h3];simp
  have h4b:(x.ins != x.st+(x.ps.length:Int))=true:=bne_iff_ne.2 h4
  clear h3 h4
  go_wp2_with fail
  go_ret
  exact FIN.out HZ.out _ HK4.out
 by_cases h5:(4:Int)<(x.ps.length:Int)
 ·have HZ:=Lib.hid (show R=false by rw[HR4.out,decide_eq_false (by omega)];rfl)
  have h3b:((x.outs.length:Int) != x.st)=false:=by rw[h3];simp
  have h4b:(x.ins != x.st+(x.ps.length:Int))=false:=by rw[h4];simp
  clear h3 h4
  go_wp2_with fail
  go_ret
  exact FIN.out HZ.out _ HK4.out
 have HZ:=Lib.hid (show R=!(x.ps.any fun z=>!parB z) by rw[HR4.out,decide_eq_true (by omega),Bool.true_and])
 have h3b:((x.outs.length:Int) != x.st)=false:=by rw[h3];simp
 have h4b:(x.ins != x.st+(x.ps.length:Int))=false:=by rw[h4];simp
 have HCi:=Lib.hid (containsI x.pa x.ps x.pc 113 #[] w4 (fun z=>!parB z) lp (HP.out.kp HK4.out) ⟨fun _ _=>by kernel_rfl,fun z hzz w1 hk1=>vsy2_any z w1 ((rowRdI HP.out hzz).kp (HK4.out.trans hk1))⟩)
 clear h3 h4 HR4
 go_wp2_with (first | (go_at_call 49;go_fit HCi.out;rintro r w5 ⟨rfl,k5⟩) | fail)
 go_ret
 exact⟨ret_bool (by rw[HZ.out]),K1.out.trans (HK4.out.trans k5)⟩
end Go.Proofs.YteidgoldnllabaaGreatDoor
