/-
  Walks: the law's member, one component.
-/
import Derived.Test.YtbhmhfnfceakoaaGreatDoorMMemN
import Derived.Test.YtbhmhfnfceakoaaGreatDoorMEchM
import Derived.Test.YtbhmhfnfceakoaaGreatDoorMTail
import Derived.Test.YtbhmhfnfceakoaaGreatDoorMInsF
namespace Go.Proofs.YtbhmhfnfceakoaaGreatDoor
open Go.RowKit
open Lib (hid)
def MeO (w:World) (r:Bool×Bool) (e:Ending) (w':World):Prop:=e=.returned (.tuple #[.bool r.1,.bool r.2])∧Kp w w'
structure MemW (w W:World) (ok:Bool) (v0 v1 v2:Value):Prop where
 k:Kp w W
 o:OkB W (w.heap.size+1) ok
 f:W.cell? ⟨w.heap.size,0,none⟩=some v0∧W.cell? ⟨w.heap.size,1,none⟩=some v1∧W.cell? ⟨w.heap.size,2,none⟩=some v2
 m:W.cell? ⟨w.heap.size+1+1,0,none⟩=some (.func (.func 62) #[] #[.pointer (some ⟨w.heap.size+1,0,none⟩)])
theorem MemW.kp {w W W':World} {ok:Bool} {v0 v1 v2:Value} (h:MemW w W ok v0 v1 v2) (k:Kp W W'):MemW w W' ok v0 v1 v2 :=
 ⟨h.k.trans k,h.o.kp k,⟨k.cell h.f.1,k.cell h.f.2.1,k.cell h.f.2.2⟩,k.cell h.m⟩
theorem MemW.chg {w W W':World} {ok ok':Bool} {v0 v1 v2:Value} (h:MemW w W ok v0 v1 v2) (k:Chg (·=w.heap.size+1) W W') (o:OkB W' (w.heap.size+1) ok'):MemW w W' ok' v0 v1 v2 :=
 ⟨k.kp h.k (fun j hj=>by omega),o,⟨k.cell h.f.1 (by omega),k.cell h.f.2.1 (by omega),k.cell h.f.2.2 (by omega)⟩,k.cell h.m (by omega)⟩
theorem MemW.new (w:World) (v0 v1 v2:Value):MemW w (((w.alloc (.cells #[v0,v1,v2] 26)).alloc (.cells #[.bool true] 4)).alloc (.cells #[.func (.func 62) #[] #[.pointer (some ⟨w.heap.size+1,0,none⟩)]] 88)) true v0 v1 v2:=by
 have hb:=heap_alloc_new (w.alloc (.cells #[v0,v1,v2] 26)) (.cells #[.bool true] 4)
 rw[World.size_alloc] at hb
 have o1:OkB ((w.alloc (.cells #[v0,v1,v2] 26)).alloc (.cells #[.bool true] 4)) (w.heap.size+1) true:=by
  refine⟨?_,?_,fun j hj i v hc=>?_⟩
  ·rw[cell_of_row _ _ _ _ _ _ hb];rfl
  ·have:(((w.alloc (.cells #[v0,v1,v2] 26))).alloc (.cells #[.bool true] 4)).frozen? ⟨(w.alloc (.cells #[v0,v1,v2] 26)).heap.size,0,none⟩=false:=by simp
   rw[World.size_alloc] at this
   exact this
  ·subst hj
   rw[cell_of_row _ _ _ _ _ _ hb] at hc
   match i,hc with
   | 0,hc=>simp at hc;subst hc;exact noU_bl _
   | i+1,hc=>simp at hc
 refine⟨(((Kp.refl w).alloc _).alloc _).alloc _,o1.kp ((Kp.refl _).alloc _),?_,?_⟩
 ·exact keep3 ((Kp.refl _).alloc _) (keep3 ((Kp.refl _).alloc _) (by refine⟨?_,?_,?_⟩ <;> simp))
 have hm:=heap_alloc_new ((w.alloc (.cells #[v0,v1,v2] 26)).alloc (.cells #[.bool true] 4)) (.cells #[.func (.func 62) #[] #[.pointer (some ⟨w.heap.size+1,0,none⟩)]] 88)
 rw[World.size_alloc,World.size_alloc] at hm
 rw[cell_of_row _ _ _ _ _ _ hm];rfl
theorem sgn_iv0 (d:Dy):sgn d=0↔d.m=0:=by
 unfold sgn
 constructor
 ·intro h
  split at h
  ·assumption
  split at h <;> cases h
 intro h;rw[if_pos h]
set_option maxRecDepth 100000 in
set_option maxHeartbeats 8000000 in
theorem mem1_any (f:RF) (ya:Option Addr) (ys:List RD) (yc:Nat) (c0 a0 y0:RD) (r0:RI) (row0:List RD) (w:World) (hf:f.rd w) (hy:RowD w ya ys) (hl:f.cs.length=1)
   (hc0:f.cs[0]? = some c0) (hm0:f.ms[0]? = some row0) (ha0:row0[0]? = some a0) (hr0:f.rs[0]? = some r0) (hy0:ys[0]? = some y0)
   (kc:c0.vl=true) (ka:a0.vl=true) (kr:r0.vl=true) (ky:y0.vl=true) (hT:Tab w) :
   Calls Tryz.prog 16 #[.agg #[.slice f.ca f.cs.length f.cc,.slice f.aa f.ms.length f.ac,.slice f.ra f.rs.length f.rc],.slice ya ys.length yc] w (MeO w (memC1 y0.dy c0.dy a0.dy r0.lo.dy r0.hi.dy)):=by
 obtain⟨cb,co,hca,rc0,d0,d1,d2⟩:=hf.1.1 0 c0 hc0
 obtain⟨mb,mo,ra,rc,hma,m0,hrow,hrl⟩:=hf.2.1.1 0 row0 hm0
 obtain⟨ab,ao,hra,rca0,a1,a2,a3⟩:=hrow 0 a0 ha0
 obtain⟨rb,ro,hrra,rcr0,i0,i1,i2,i3,i4,i5,i6⟩:=hf.2.2.1 0 r0 hr0
 obtain⟨yb,yo,hya,rcy0,b1,b2,b3⟩:=hy 0 y0 hy0
 obtain⟨ca,cs,cc,aa,ms,ac,rra,rs,rrc⟩:=f
 dsimp only at hca hma hra hrra hl hc0 hm0 hr0
 subst hca hma hra hrra hya
 have l1:0<ms.length:=(List.getElem?_eq_some_iff.1 hm0).1
 have l2:0<row0.length:=(List.getElem?_eq_some_iff.1 ha0).1
 have l3:0<rs.length:=(List.getElem?_eq_some_iff.1 hr0).1
 have l4:0<ys.length:=(List.getElem?_eq_some_iff.1 hy0).1
 have l5:0<cs.length:=(List.getElem?_eq_some_iff.1 hc0).1
 clear hf hy hrow hrl hc0 hm0 ha0 hr0 hy0
 go_enter Tryz.func16,Tryz.ntmps16
 simp only[Nat.zero_mul,Nat.add_zero] at d0 d1 d2 m0 a1 a2 a3 i0 i1 i2 i3 i4 i5 i6 b1 b2 b3
 have HM:=hid (MemW.new w (.slice (some ⟨cb,co,none⟩) 1 cc) (.slice (some ⟨mb,mo,none⟩) ms.length ac) (.slice (some ⟨rb,ro,none⟩) rs.length rrc))
 have HS:=hid (fun (V:World) (k:Kp w V)=>show (V.cell? ⟨cb,co,none⟩=some (.bool c0.neg)∧V.cell? ⟨cb,co+1,none⟩=some (.slice c0.a c0.xs.length c0.c)∧V.cell? ⟨cb,co+2,none⟩=some (.int .i64 c0.e))∧V.cell? ⟨mb,mo,none⟩=some (.slice (some ⟨ab,ao,none⟩) row0.length rc) ∧
     (V.cell? ⟨ab,ao,none⟩=some (.bool a0.neg)∧V.cell? ⟨ab,ao+1,none⟩=some (.slice a0.a a0.xs.length a0.c)∧V.cell? ⟨ab,ao+2,none⟩=some (.int .i64 a0.e))∧(V.cell? ⟨yb,yo,none⟩=some (.bool y0.neg)∧V.cell? ⟨yb,yo+1,none⟩=some (.slice y0.a y0.xs.length y0.c)∧V.cell? ⟨yb,yo+2,none⟩=some (.int .i64 y0.e)) ∧
     V.cell? ⟨rb,ro,none⟩=some (.bool r0.lo.neg)∧V.cell? ⟨rb,ro+1,none⟩=some (.slice r0.lo.a r0.lo.xs.length r0.lo.c)∧V.cell? ⟨rb,ro+2,none⟩=some (.int .i64 r0.lo.e)∧V.cell? ⟨rb,ro+3,none⟩=some (.bool r0.hi.neg)∧V.cell? ⟨rb,ro+4,none⟩=some (.slice r0.hi.a r0.hi.xs.length r0.hi.c)∧V.cell? ⟨rb,ro+5,none⟩=some (.int .i64 r0.hi.e)∧V.cell? ⟨rb,ro+6,none⟩=some (.bool r0.all) from
   ⟨⟨k.cell d0,k.cell d1,k.cell d2⟩,k.cell m0,⟨k.cell a1,k.cell a2,k.cell a3⟩,⟨k.cell b1,k.cell b2,k.cell b3⟩,k.cell i0,k.cell i1,k.cell i2,k.cell i3,k.cell i4,k.cell i5,k.cell i6⟩)
 have HO:=hid (And.intro (show c0.ok w from ⟨rc0,kc⟩) (And.intro (show a0.ok w from ⟨rca0,ka⟩) (And.intro (show y0.ok w from ⟨rcy0,ky⟩) (And.intro rcr0 kr))))
 have HT:=hid hT
 clear d0 d1 d2 m0 a1 a2 a3 i0 i1 i2 i3 i4 i5 i6 b1 b2 b3 kc ka kr ky rc0 rca0 rcr0 rcy0 hT
 obtain⟨D,hD⟩:∃ D,D=memC1 y0.dy c0.dy a0.dy r0.lo.dy r0.hi.dy:=⟨_,rfl⟩
 have HD:=hid hD
 rw[← hD]
 clear hD
 go_upto_region 6 with fail
 generalize hW:(((w.alloc _).alloc _).alloc _)=W at *
 clear hW
 have kd:=(Kp.refl W).drew
 have HMd:=hid (HM.out.kp kd)
 have hSd:=And.intro HMd.out.f (HS.out _ HMd.out.k)
 obtain⟨U,hU⟩:∃ U,U=sbK y0.dy c0.dy true:=⟨_,rfl⟩
 obtain⟨B,hB⟩:∃ B,B=btC U.1 a0.dy r0.lo.dy r0.hi.dy U.2:=⟨_,rfl⟩
 have HC1:=hid (hU▸msub1_any (w.heap.size+1) true y0 c0 W.drew (HO.out.2.2.1.kp HMd.out.k) (HO.out.1.kp HMd.out.k) HMd.out.o (HT.out.kp HMd.out.k))
 have HC2:=hid (fun (V:World) (u:RD) (ou:u.ok V) (du:u.dy=U.1) (h:MemW w V U.2 (.slice (some ⟨cb,co,none⟩) 1 cc) (.slice (some ⟨mb,mo,none⟩) ms.length ac) (.slice (some ⟨rb,ro,none⟩) rs.length rrc))=>show Calls Tryz.prog 65 #[.agg #[.bool u.neg,.slice u.a u.xs.length u.c,.int .i64 u.e],.agg #[.bool a0.neg,.slice a0.a a0.xs.length a0.c,.int .i64 a0.e],.agg #[.bool r0.lo.neg,.slice r0.lo.a r0.lo.xs.length r0.lo.c,.int .i64 r0.lo.e,.bool r0.hi.neg,.slice r0.hi.a r0.hi.xs.length r0.hi.c,.int .i64 r0.hi.e,.bool r0.all],.pointer (some ⟨w.heap.size+1+1,0,none⟩)] V (BtO (w.heap.size+1) V B.1 B.2) by
   have:=bet_any (w.heap.size+1+1) (w.heap.size+1) U.2 u a0 r0 V ou (HO.out.2.1.kp h.k) (HO.out.2.2.2.1.kp h.k) HO.out.2.2.2.2 h.o h.m (by omega) (HT.out.kp h.k)
   rw[du,← hB] at this
   exact this)
 have HDD:=hid (show D=(B.1,B.2&&decide (a0.dy.m≠0)) by rw[HD.out,hB,hU];rfl)
 clear hU hB HM HD kd
 have q1:(0:Int)<(ms.length:Int):=by omega
 have q2:(0:Int)<(row0.length:Int):=by omega
 have q3:(0:Int)<(rs.length:Int):=by omega
 have q4:(0:Int)<(ys.length:Int):=by omega
 go_region_held3 (fun w'=>(w'.cell? ⟨w.heap.size,0,none⟩=some (.slice (some ⟨cb,co,none⟩) 1 cc)∧w'.cell? ⟨w.heap.size,1,none⟩=some (.slice (some ⟨mb,mo,none⟩) ms.length ac)∧w'.cell? ⟨w.heap.size,2,none⟩=some (.slice (some ⟨rb,ro,none⟩) rs.length rrc))∧(w'.cell? ⟨cb,co,none⟩=some (.bool c0.neg)∧w'.cell? ⟨cb,co+1,none⟩=some (.slice c0.a c0.xs.length c0.c)∧w'.cell? ⟨cb,co+2,none⟩=some (.int .i64 c0.e))∧w'.cell? ⟨mb,mo,none⟩=some (.slice (some ⟨ab,ao,none⟩) row0.length rc)∧(w'.cell? ⟨ab,ao,none⟩=some (.bool a0.neg)∧w'.cell? ⟨ab,ao+1,none⟩=some (.slice a0.a a0.xs.length a0.c)∧w'.cell? ⟨ab,ao+2,none⟩=some (.int .i64 a0.e))∧(w'.cell? ⟨yb,yo,none⟩=some (.bool y0.neg)∧w'.cell? ⟨yb,yo+1,none⟩=some (.slice y0.a y0.xs.length y0.c)∧w'.cell? ⟨yb,yo+2,none⟩=some (.int .i64 y0.e))∧w'.cell? ⟨rb,ro,none⟩=some (.bool r0.lo.neg)∧w'.cell? ⟨rb,ro+1,none⟩=some (.slice r0.lo.a r0.lo.xs.length r0.lo.c)∧w'.cell? ⟨rb,ro+2,none⟩=some (.int .i64 r0.lo.e)∧w'.cell? ⟨rb,ro+3,none⟩=some (.bool r0.hi.neg)∧w'.cell? ⟨rb,ro+4,none⟩=some (.slice r0.hi.a r0.hi.xs.length r0.hi.c)∧w'.cell? ⟨rb,ro+5,none⟩=some (.int .i64 r0.hi.e)∧w'.cell? ⟨rb,ro+6,none⟩=some (.bool r0.all)) (first | with_reducible assumption | fail)
   (first
     | (go_at_call 63; (with_reducible refine (HC1.out).mono ?_); rintro e v1 ⟨u, rfl, ou, du, rg1, ch1⟩
        have HM1:=hid (HMd.out.chg ch1 rg1)
        have hSn:=And.intro HM1.out.f (HS.out _ HM1.out.k))
     | (go_at_call 65; (with_reducible refine (HC2.out v1 u ou du HM1.out).mono ?_); rintro e v2 ⟨rfl, rg2, ch2⟩
        have HM2:=hid (HM1.out.chg ch2 rg2)
        have hSm:=And.intro HM2.out.f (HS.out _ HM2.out.k))
     | fail)
 obtain⟨⟨f0,f1,f2⟩,_,m0,⟨a1,a2,a3⟩,_⟩:=id hSm
 have o0:=HM2.out.o.c
 have HSg:=hid (Sign_rd a0 v2 ((HO.out.2.1.1.kp HM2.out.k)) HO.out.2.1.2)
 have HSZ:=hid (show (sgn a0.dy != 0)=decide (a0.dy.m≠0) from by
   have h:=sgn_iv0 a0.dy
   by_cases hz:a0.dy.m=0
   · rw[h.2 hz,decide_eq_false (fun k=>k hz)];rfl
   · rw[decide_eq_true hz,bne_iff_ne];exact fun e=>hz (h.1 e))
 clear hSd hSn hSm ch1 rg1 ch2 rg2 ou du HC1 HC2
 cases hb2:B.2 with
 | false =>
   rw[hb2] at o0 HDD
   go_wp2_with fail
   refine bodyPost_ret (v:=.tuple #[.bool B.1,.bool false]) (by simp[results,Tryz.results16,go_sem]) rfl ?_
   exact⟨by rw[HDD.out];rfl,HM2.out.k⟩
 | true =>
 rw[hb2] at o0 HDD
 go_wp2_with fail
 go_fit HSg.out
 rintro e v3 ⟨rfl,j3⟩
 go_wp2_with fail
 refine bodyPost_ret (v:=.tuple #[.bool B.1,.bool (sgn a0.dy != 0)]) (by simp[results,Tryz.results16,go_sem]) rfl ?_
 exact⟨by rw[HDD.out,HSZ.out];rfl,HM2.out.k.trans j3⟩
section
section
variable {P:Program} {ops:Array Oper} {Q:Exit→Act→World→Prop} {md:Region.Mode} {S:World→Prop}
def ptrTo (g:Nat):Value:=.pointer (some ⟨g,0,none⟩)
def AlcAt (P:Program) (ops:Array Oper) (Q:Exit→Act→World→Prop) (o:Obj) (i d:Nat):Prop :=
 ∀ (K:Act→World→Prop) (a:Act) (w:World),K (a.put (some d) (ptrTo w.heap.size)) (w.alloc o)→wpOp P ops Q i K a w
end
end
section
def leftN (n:Nat) (l:Array Bool):Nat:=((List.range n).filter fun i=>!l.getD i true).length
theorem leftN_set {n i:Nat} {l:Array Bool} (hi:i<n) (h:l.getD i true=false):leftN n (l.setIfInBounds i true)<leftN n l:=by
 unfold leftN
 have hs:i<l.size:=by
  refine Classical.byContradiction fun k=>?_
  rw[show l.getD i true=true by simp[Nat.not_lt.1 k]] at h
  cases h
 have e:(List.range n).filter (fun j=>!(l.setIfInBounds i true).getD j true)=((List.range n).filter fun j=>!l.getD j true).filter (fun j=>j != i):=by
  rw[List.filter_filter]
  refine List.filter_congr fun j _=>?_
  by_cases hj:j=i
  ·subst hj;simp[hs]
  ·rw[getD_set_ne true (Ne.symm hj)];simp[hj]
 rw[e]
 have hm:i∈(List.range n).filter fun j=>!l.getD j true:=List.mem_filter.2 ⟨List.mem_range.2 hi,by rw[h];rfl⟩
 generalize (List.range n).filter (fun j=>!l.getD j true)=L at hm ⊢
 induction L with
 | nil=>cases hm
 | cons x L ih =>
  rcases List.mem_cons.1 hm with rfl | hm
  ·have:((i::L).filter fun j=>j != i)=L.filter fun j=>j != i:=by simp
   rw[this]
   exact Nat.lt_succ_of_le (List.length_filter_le _ _)
  ·by_cases hx:x=i
   ·subst hx
    have:((x::L).filter fun j=>j != x)=L.filter fun j=>j != x:=by simp
    rw[this]
    exact Nat.lt_succ_of_le (List.length_filter_le _ _)
   ·have:((x::L).filter fun j=>j != i)=x::L.filter fun j=>j != i:=by simp[hx]
    rw[this]
    exact Nat.succ_lt_succ (ih hm)
section
variable {P:Program} {ops:Array Oper} {Q:Exit→Act→World→Prop} {md:Region.Mode} {S:World→Prop}
theorem wpAnyH_inv (I:Array Bool→Act→World→Prop) (hS:∀ l a w,I l a w→S w)
  (step:∀ l a w i,l.size=ops.size→I l a w→i∈Region.ready md ops l→wpOp P ops Q i (fun a' w'=>I (l.setIfInBounds i true) a' w') a w)
  (hend:∀ l a w,l.size=ops.size→I l a w→Region.ready md ops l=[]→Q .normal a w) :
  ∀ (fuel:Nat) (l:Array Bool) (a:Act) (w:World),l.size=ops.size→I l a w→leftN ops.size l≤fuel→wpAnyH P md ops Q S fuel l a w
 | 0,l,a,w,hs,hI,hf=>by
  have hr:Region.ready md ops l=[]:=by
   refine List.eq_nil_iff_forall_not_mem.2 fun i hi=>?_
   obtain⟨hu,o,ho,_⟩:=mem_ready.1 hi
   have:=leftN_set (Array.getElem?_eq_some_iff.1 ho).1 hu
   omega
  exact⟨hr,hend l a w hs hI hr⟩
 | fuel+1,l,a,w,hs,hI,hf=>by
  refine⟨fun hr=>hend l a w hs hI hr,fun i hi=>?_⟩
  obtain⟨hu,o,ho,_⟩:=mem_ready.1 hi
  have hlt:=leftN_set (Array.getElem?_eq_some_iff.1 ho).1 hu
  exact wpOp_mono (fun a' w' h=>⟨hS _ _ _ h,wpAnyH_inv I hS step hend fuel _ a' w' (by simpa using hs) h (by omega)⟩) (step l a w i hs hI hi)
end
def actOf (X:Nat→Value) (l:Array Bool):List (Nat×Nat)→Act→Act
 | [],a=>a
 | p::L,a=>actOf X l L (if l.getD p.1 false then a.put (some p.2) (X p.2) else a)
def putX (X:Nat→Value):List (Nat×Nat)→Act→Act
 | [],a=>a
 | p::L,a=>putX X L (a.put (some p.2) (X p.2))
def updX (X:Nat→Value) (d:Nat) (v:Value):Nat→Value:=fun s=>if s=d then v else X s
theorem updX_same (X:Nat→Value) (d:Nat) (v:Value):updX X d v d=v:=if_pos rfl
theorem updX_ne (X:Nat→Value) {d s:Nat} (v:Value) (h:s≠d):updX X d v s=X s:=if_neg h
theorem actOf_all {X:Nat→Value} {l:Array Bool}:∀ (L:List (Nat×Nat)) (a:Act),(∀ p∈L,l.getD p.1 false=true)→actOf X l L a=putX X L a
 | [],_,_=>rfl
 | p::L,a,h=>by
  show actOf X l L (if l.getD p.1 false then a.put (some p.2) (X p.2) else a)=putX X L (a.put (some p.2) (X p.2))
  rw[if_pos (h p (.head _))]
  exact actOf_all L _ (fun q hq=>h q (.tail _ hq))
theorem actOf_none {X:Nat→Value} {l:Array Bool}:∀ (L:List (Nat×Nat)) (a:Act),(∀ p∈L,l.getD p.1 false=false)→actOf X l L a=a
 | [],_,_=>rfl
 | p::L,a,h=>by
  show actOf X l L (if l.getD p.1 false then a.put (some p.2) (X p.2) else a)=a
  rw[h p (.head _),if_neg (by decide)]
  exact actOf_none L _ (fun q hq=>h q (.tail _ hq))
theorem actOf_congr {X X':Nat→Value} {l l':Array Bool}:∀ (L:List (Nat×Nat)) (a:Act),(∀ p∈L,l'.getD p.1 false=l.getD p.1 false∧X' p.2=X p.2)→actOf X' l' L a=actOf X l L a
 | [],_,_=>rfl
 | p::L,a,h=>by
  show actOf X' l' L (if l'.getD p.1 false then a.put (some p.2) (X' p.2) else a)=actOf X l L (if l.getD p.1 false then a.put (some p.2) (X p.2) else a)
  rw[(h p (.head _)).1,(h p (.head _)).2]
  exact actOf_congr L _ (fun q hq=>h q (.tail _ hq))
theorem actOf_put {X:Nat→Value} {l:Array Bool} {d:Nat} {v:Value}:∀ (L:List (Nat×Nat)) (a:Act),d ∉ L.map Prod.snd→actOf X l L (a.put (some d) v)=(actOf X l L a).put (some d) v
 | [],_,_=>rfl
 | p::L,a,h=>by
  simp only[List.map_cons,List.mem_cons,not_or] at h
  show actOf X l L (if l.getD p.1 false then (a.put (some d) v).put (some p.2) (X p.2) else a.put (some d) v)=(actOf X l L (if l.getD p.1 false then a.put (some p.2) (X p.2) else a)).put (some d) v
  split
  ·rw[Act.put_comm _ _ _ (fun e h1 h2=>h.1 (by injection h1 with e1;injection h2 with e2;omega)),actOf_put L _ h.2]
  ·exact actOf_put L _ h.2
theorem actOf_set {X:Nat→Value} {l:Array Bool} {i d:Nat} {v:Value} (hl:l.getD i false=false) (hi:i<l.size):∀ (L:List (Nat×Nat)) (a:Act),(i,d)∈L→(L.map Prod.fst).Nodup→(L.map Prod.snd).Nodup →
  actOf (updX X d v) (l.setIfInBounds i true) L a=(actOf X l L a).put (some d) v
 | [],_,h,_,_=>by cases h
 | p::L,a,h,h1,h2=>by
  rw[List.map_cons,List.nodup_cons] at h1 h2
  rcases List.mem_cons.1 h with e | h
  ·subst e
   show actOf _ _ L (if (l.setIfInBounds i true).getD i false then a.put (some d) (updX X d v d) else a)=(actOf X l L (if l.getD i false then a.put (some d) (X d) else a)).put (some d) v
   rw[hl,if_neg (show ¬ (false=true) from fun h=>by cases h)]
   rw[show (l.setIfInBounds i true).getD i false=true by simp[hi],if_pos rfl,updX_same,← actOf_put L a h2.1]
   refine actOf_congr L _ (fun q hq=>⟨getD_set_ne false (fun e=>h1.1 (by show i∈_;rw[e];exact List.mem_map_of_mem hq)),updX_ne _ _ (fun e=>h2.1 (by show d∈_;rw[← e];exact List.mem_map_of_mem hq))⟩)
  ·have n1:i≠p.1:=fun e=>h1.1 (e▸(List.mem_map_of_mem h:Prod.fst (i,d)∈_))
   have n2:p.2≠d:=fun e=>h2.1 (e▸(List.mem_map_of_mem h:Prod.snd (i,d)∈_))
   show actOf _ _ L (if (l.setIfInBounds i true).getD p.1 false then a.put (some p.2) (updX X d v p.2) else a)=(actOf X l L (if l.getD p.1 false then a.put (some p.2) (X p.2) else a)).put (some d) v
   rw[getD_set_ne false n1,updX_ne _ _ n2]
   exact actOf_set hl hi L _ h h1.2 h2.2
theorem getV_set_ne {l:Array Value} {i j:Nat} {v:Value} (h:i≠j):(l.setIfInBounds i v).getD j undef=l.getD j undef:=by
 simp[h]
theorem put_getD {a:Act} {d s:Nat} {v:Value}:(a.put (some d) v).tmps.getD s undef=if d=s∧s<a.tmps.size then v else a.tmps.getD s undef:=by
 show (a.tmps.setIfInBounds d v).getD s undef=_
 by_cases e:d=s
 ·subst e
  by_cases h:d<a.tmps.size
  ·rw[if_pos ⟨rfl,h⟩];simp[h]
  rw[if_neg (fun k=>h k.2)];simp[Nat.not_lt.1 h]
 rw[if_neg (fun k=>e k.1)]
 exact getV_set_ne e
theorem put_size {a:Act} {d:Nat} {v:Value}:(a.put (some d) v).tmps.size=a.tmps.size:=by
 show (a.tmps.setIfInBounds d v).size=_
 simp
theorem actOf_off {X:Nat→Value} {l:Array Bool} {s:Nat}:∀ (L:List (Nat×Nat)) (a:Act),s ∉ L.map Prod.snd→(actOf X l L a).tmps.getD s undef=a.tmps.getD s undef
 | [],_,_=>rfl
 | p::L,a,h=>by
  simp only[List.map_cons,List.mem_cons,not_or] at h
  show (actOf X l L (if l.getD p.1 false then a.put (some p.2) (X p.2) else a)).tmps.getD s undef=_
  rw[actOf_off L _ h.2]
  split
  ·rw[put_getD,if_neg (fun k=>h.1 k.1.symm)]
  ·rfl
theorem actOf_at {X:Nat→Value} {l:Array Bool} {i d:Nat} (hl:l.getD i false=true):∀ (L:List (Nat×Nat)) (a:Act),(i,d)∈L→(L.map Prod.snd).Nodup→d<a.tmps.size→(actOf X l L a).tmps.getD d undef=X d
 | [],_,h,_,_=>by cases h
 | p::L,a,h,h2,hd=>by
  rw[List.map_cons,List.nodup_cons] at h2
  show (actOf X l L (if l.getD p.1 false then a.put (some p.2) (X p.2) else a)).tmps.getD d undef=_
  rcases List.mem_cons.1 h with e | h
  ·subst e
   rw[actOf_off L _ h2.1,if_pos hl,put_getD,if_pos ⟨rfl,hd⟩]
  ·refine actOf_at hl L _ h h2.2 ?_
   split
   ·rw[put_size];exact hd
   ·exact hd
structure Bxs where
 n:Nat
 A:Nat→Nat
 d:Nat→Nat
 T:Nat→Nat
 e:Nat→Nat
 m:Nat
 C:Nat→Nat
 r:Nat→Nat
def Bxs.L (b:Bxs):List (Nat×Nat):=(List.range b.n).map (fun k=>(b.A k,b.d k))++(List.range b.m).map (fun j=>(b.C j,b.r j))
theorem Bxs.memA (b:Bxs) {k:Nat} (h:k<b.n):(b.A k,b.d k)∈b.L:=List.mem_append.2 (.inl (List.mem_map.2 ⟨k,List.mem_range.2 h,rfl⟩))
theorem Bxs.memC (b:Bxs) {j:Nat} (h:j<b.m):(b.C j,b.r j)∈b.L:=List.mem_append.2 (.inr (List.mem_map.2 ⟨j,List.mem_range.2 h,rfl⟩))
def waits (md:Region.Mode) (ops:Array Oper) (i on:Nat):Bool:=((ops[i]?).map fun o=>o.after.any fun e=>Region.binds md e&&(e.on==on)).getD false
theorem waits_spec {md:Region.Mode} {ops:Array Oper} {i on:Nat} {l:Array Bool} (h:waits md ops i on=true) (hr:i∈Region.ready md ops l):l.getD on false=true:=by
 obtain⟨_,o,ho,hall⟩:=mem_ready.1 hr
 unfold waits at h
 rw[ho] at h
 simp only[Option.map_some,Option.getD_some] at h
 obtain⟨e,he,hb⟩:=Array.any_eq_true'.1 h
 simp only[Bool.and_eq_true,beq_iff_eq] at hb
 have:=hall e he hb.1
 rwa [hb.2] at this
def Bxs.fits (b:Bxs) (md:Region.Mode) (ops:Array Oper) (l0:Array Bool):Bool :=
 (l0.size==ops.size) &&
 ((List.range ops.size).all fun i=>l0.getD i true||((List.range b.n).any (fun k=>b.A k==i||b.T k==i)||(List.range b.m).any (fun j=>b.C j==i))) &&
 ((List.range b.n).all fun k=>decide (b.A k<ops.size)&&decide (b.T k<ops.size)&&!l0.getD (b.A k) false&&!l0.getD (b.T k) false&&waits md ops (b.T k) (b.A k)) &&
 ((List.range b.m).all fun j=>decide (b.C j<ops.size)&&!l0.getD (b.C j) false) &&
 ((List.range b.n).all fun k=>(List.range b.m).all fun j=>!(b.r j==b.e k)||waits md ops (b.T k) (b.C j)) &&
 ((List.range b.m).all fun j=>(List.range b.m).all fun i=>!(decide (i<j))||waits md ops (b.C j) (b.C i)||!(i+1==j)) &&
 decide ((b.L.map Prod.fst).Nodup)&&decide ((b.L.map Prod.snd).Nodup)&&decide (((List.range b.n).map b.T).Nodup) &&
 ((List.range b.n).all fun k=>!(b.L.map Prod.fst).contains (b.T k)) &&
 ((List.range b.n).all fun k=>(List.range b.n).all fun i=>!(b.e k==b.d i)) &&
 ((List.range ops.size).all fun i=>((ops[i]?).map fun o=>o.after.all fun e=>!Region.binds md e||decide (e.on<i)).getD false)
structure Bxs.Fit (b:Bxs) (md:Region.Mode) (ops:Array Oper) (l0:Array Bool):Prop where
 size:l0.size=ops.size
 all:∀ i,i<ops.size→l0.getD i true=false→(∃ k,k<b.n∧(b.A k=i∨b.T k=i))∨∃ j,j<b.m∧b.C j=i
 lA:∀ k,k<b.n→b.A k<ops.size∧l0.getD (b.A k) false=false
 lT:∀ k,k<b.n→b.T k<ops.size∧l0.getD (b.T k) false=false
 lC:∀ j,j<b.m→b.C j<ops.size∧l0.getD (b.C j) false=false
 wA:∀ k,k<b.n→waits md ops (b.T k) (b.A k)=true
 wE:∀ k j,k<b.n→j<b.m→b.r j=b.e k→waits md ops (b.T k) (b.C j)=true
 wC:∀ j,j+1<b.m→waits md ops (b.C (j+1)) (b.C j)=true
 n1:(b.L.map Prod.fst).Nodup
 n2:(b.L.map Prod.snd).Nodup
 nT:((List.range b.n).map b.T).Nodup
 tL:∀ k,k<b.n→b.T k ∉ b.L.map Prod.fst
 eD:∀ k i,k<b.n→i<b.n→b.e k≠b.d i
 dn:∀ i o,ops[i]? = some o→∀ e∈o.after,Region.binds md e=true→e.on<i
theorem Bxs.fits_spec {b:Bxs} {md:Region.Mode} {ops:Array Oper} {l0:Array Bool} (h:b.fits md ops l0=true):b.Fit md ops l0:=by
 unfold Bxs.fits at h
 simp only[Bool.and_eq_true,beq_iff_eq,List.all_eq_true,List.mem_range,decide_eq_true_eq,Bool.or_eq_true,List.any_eq_true,beq_eq_false_iff_ne,decide_eq_false_iff_not,Bool.not_eq_eq_eq_not,Bool.not_true] at h
 obtain⟨⟨⟨⟨⟨⟨⟨⟨⟨⟨⟨h1,h2⟩,h3⟩,h4⟩,h5⟩,h6⟩,h7⟩,h8⟩,h9⟩,h10⟩,h11⟩,h12⟩:=h
 refine⟨h1,fun i hi hl=>?_,fun k hk=>⟨(h3 k hk).1.1.1.1,(h3 k hk).1.1.2⟩,fun k hk=>⟨(h3 k hk).1.1.1.2,(h3 k hk).1.2⟩,fun j hj=>h4 j hj,fun k hk=>(h3 k hk).2,fun k j hk hj e=>?_,fun j hj=>?_,h7,h8,h9,fun k hk hm=>?_,fun k i hk hi=>h11 k hk i hi,fun i o ho e he hb=>?_⟩
 ·rcases h2 i hi with h | h
  ·rw[hl] at h;cases h
  rcases h with ⟨k,hk,h⟩ | ⟨j,hj,h⟩
  ·exact .inl ⟨k,hk,h⟩
  exact .inr ⟨j,hj,h⟩
 ·rcases h5 k hk j hj with h | h
  ·exact absurd e h
  exact h
 ·rcases h6 (j+1) hj j (by omega) with (h | h) | h
  ·omega
  ·exact h
  exact absurd rfl h
 ·have:=h10 k hk
  rw[List.contains_iff_mem.2 hm] at this
  cases this
 have:=h12 i (Array.getElem?_eq_some_iff.1 ho).1
 rw[ho] at this
 simp only[Option.map_some,Option.getD_some] at this
 have:=Array.all_eq_true_iff_forall_mem.1 this e he
 simpa [hb] using this
theorem nodup_map_inj {f:Nat→Nat} {n k i:Nat} (h:((List.range n).map f).Nodup) (hk:k<n) (hi:i<n) (e:f k=f i):k=i:=by
 have h':=List.pairwise_iff_getElem.1 (List.pairwise_map.1 h)
 rcases Nat.lt_trichotomy k i with hl | hl | hl
 ·have:=h' k i (by simpa using hk) (by simpa using hi) hl
  simp only[List.getElem_range] at this
  exact absurd e this
 ·exact hl
 have:=h' i k (by simpa using hi) (by simpa using hk) hl
 simp only[List.getElem_range] at this
 exact absurd e.symm this
section
variable {b:Bxs} {md:Region.Mode} {ops:Array Oper} {l0:Array Bool}
theorem Bxs.Fit.fst (F:b.Fit md ops l0):((List.range b.n).map b.A).Nodup∧((List.range b.m).map b.C).Nodup∧∀ k j,k<b.n→j<b.m→b.A k≠b.C j:=by
 have h:=F.n1
 unfold Bxs.L at h
 rw[List.map_append,List.map_map,List.map_map,List.nodup_append] at h
 exact⟨h.1,h.2.1,fun k j hk hj=>h.2.2 _ (List.mem_map.2 ⟨k,List.mem_range.2 hk,rfl⟩) _ (List.mem_map.2 ⟨j,List.mem_range.2 hj,rfl⟩)⟩
theorem Bxs.Fit.snd (F:b.Fit md ops l0):((List.range b.n).map b.d).Nodup∧((List.range b.m).map b.r).Nodup∧∀ k j,k<b.n→j<b.m→b.d k≠b.r j:=by
 have h:=F.n2
 unfold Bxs.L at h
 rw[List.map_append,List.map_map,List.map_map,List.nodup_append] at h
 exact⟨h.1,h.2.1,fun k j hk hj=>h.2.2 _ (List.mem_map.2 ⟨k,List.mem_range.2 hk,rfl⟩) _ (List.mem_map.2 ⟨j,List.mem_range.2 hj,rfl⟩)⟩
end
theorem getD_tf {l:Array Bool} {i:Nat} (h:i<l.size):l.getD i true=l.getD i false:=by simp[h]
theorem set_true_getD {l:Array Bool} {i j:Nat} (h:l.getD j false=true):(l.setIfInBounds i true).getD j false=true:=getD_set_true h
section
variable {P:Program} {ops:Array Oper} {Q:Exit→Act→World→Prop} {md:Region.Mode} {S:World→Prop}
def BoxIs (W:World) (g base:Nat) (z0 z1 z2 v:Value) (full:Bool):Prop :=
 base≤g∧g<W.heap.size∧match full with
 | false=>Box3 W g z0 z1 z2
 | true=>∃ y0 y1 y2,v=.agg #[y0,y1,y2]∧Box3 W g y0 y1 y2
theorem BoxIs.keep {W W':World} {g base:Nat} {z0 z1 z2 v:Value} {f:Bool} (h:BoxIs W g base z0 z1 z2 v f) (hs:W.heap.size≤W'.heap.size) (k:∀ y0 y1 y2,Box3 W g y0 y1 y2→Box3 W' g y0 y1 y2):BoxIs W' g base z0 z1 z2 v f:=by
 refine⟨h.1,Nat.lt_of_lt_of_le h.2.1 hs,?_⟩
 cases f with
 | true=>obtain⟨y0,y1,y2,e,hb⟩:=h.2.2;exact⟨y0,y1,y2,e,k _ _ _ hb⟩
 | false=>exact k _ _ _ h.2.2
structure Bxs.Inv (b:Bxs) (ops:Array Oper) (l0:Array Bool) (a0:Act) (base:Nat) (z0 z1 z2:Value) (R:Nat→(Nat→Value)→World→Prop) (l:Array Bool) (a:Act) (W:World) (X:Nat→Value) (c:Nat):Prop where
 was:∀ i,i<ops.size→l0.getD i true=true→l.getD i true=true
 cm:c≤b.m
 lc:∀ j,j<b.m→l.getD (b.C j) false=decide (j<c)
 off:∀ s,s ∉ b.L.map Prod.snd→X s=a0.tmps.getD s undef
 act:a=actOf X l b.L a0
 rel:R c X W
 low:base≤W.heap.size
 ta:∀ k,k<b.n→l.getD (b.T k) false=true→l.getD (b.A k) false=true
 te:∀ k j,k<b.n→j<b.m→b.r j=b.e k→l.getD (b.T k) false=true→j<c
 box:∀ k,k<b.n→l.getD (b.A k) false=true→∃ g,X (b.d k)=ptrTo g∧BoxIs W g base z0 z1 z2 (X (b.e k)) (l.getD (b.T k) false)
 apart:∀ k i,k<b.n→i<b.n→k≠i→l.getD (b.A k) false=true→l.getD (b.A i) false=true→X (b.d k)≠X (b.d i)
theorem ptrTo_inj {g g':Nat} (h:ptrTo g=ptrTo g'):g=g':=by injection h with h;injection h with h;injection h
theorem set_true_getT {l:Array Bool} {i j:Nat} (h:l.getD j true=true):(l.setIfInBounds i true).getD j true=true:=by
 by_cases e:i=j
 ·subst e
  by_cases hs:i<l.size <;> simp[hs]
 rw[getD_set_ne true e];exact h
theorem upd_box3 {g b:Nat} {w W:World} (h:Upd g w W) (hb:b≠g) {x0 x1 x2:Value} (f:Box3 w b x0 x1 x2):Box3 W b x0 x1 x2:=by
 obtain⟨a0,a1,a2,f0,f1,f2⟩:=f
 exact⟨by rw[h.2.2.2.1 _ hb];exact a0,by rw[h.2.2.2.1 _ hb];exact a1,by rw[h.2.2.2.1 _ hb];exact a2,by rw[h.1];exact f0,by rw[h.1];exact f1,by rw[h.1];exact f2⟩
theorem wpAnyH_boxes (b:Bxs) {l0:Array Bool} {a0:Act} {o:Obj} {z0 z1 z2:Value} {base:Nat} {R:Nat→(Nat→Value)→World→Prop} {W0:World} {fuel:Nat}
  (hfit:b.fits md ops l0=true) (hfuel':Nat.ble (leftN ops.size l0) fuel=true) (hsz':(b.L.all fun p=>Nat.blt p.2 a0.tmps.size)=true) (hlow:base≤W0.heap.size)
  (hbox:∀ W:World,Box3 (W.alloc o) W.heap.size z0 z1 z2)
  (hS:∀ c X W,R c X W→S W) (hRa:∀ c X W,R c X W→R c X (W.alloc o)) (hRu:∀ c X W W' g,R c X W→base≤g→Upd g W W'→R c X W')
  (hRx:∀ c X X' W,R c X W→(∀ j,j<c→X' (b.r j)=X (b.r j))→R c X' W)
  (hR0:R 0 (fun s=>a0.tmps.getD s undef) W0)
  (hal:∀ k,k<b.n→AlcAt P ops Q o (b.A k) (b.d k))
  (hst:∀ k,k<b.n→∀ (K:Act→World→Prop) (a:Act) (W:World) (X:Nat→Value) (c g:Nat),a.tmps.getD (b.d k) undef=ptrTo g→a.tmps.getD (b.e k) undef=X (b.e k)→(∀ s,s ∉ b.L.map Prod.snd→X s=a0.tmps.getD s undef)→(∀ j,j<b.m→b.r j=b.e k→j<c)→R c X W→Box3 W g z0 z1 z2 →
   (∀ W' y0 y1 y2,X (b.e k)=.agg #[y0,y1,y2]→Box3 W' g y0 y1 y2→Upd g W W'→K a W')→wpOp P ops Q (b.T k) K a W)
  (hca:∀ j,j<b.m→∀ (K:Act→World→Prop) (a:Act) (W:World) (X:Nat→Value),(∀ s,s ∉ b.L.map Prod.snd→a.tmps.getD s undef=a0.tmps.getD s undef)→(∀ i,i<j→a.tmps.getD (b.r i) undef=X (b.r i))→R j X W→base≤W.heap.size →
   (∀ v W',R (j+1) (updX X (b.r j) v) W'→W.heap.size≤W'.heap.size→(∀ g y0 y1 y2,base≤g→Box3 W g y0 y1 y2→Box3 W' g y0 y1 y2)→K (a.put (some (b.r j)) v) W')→wpOp P ops Q (b.C j) K a W)
  (hend:∀ X W,R b.m X W→(∀ s,s ∉ b.L.map Prod.snd→X s=a0.tmps.getD s undef)→base≤W.heap.size→(∀ k,k<b.n→∃ g y0 y1 y2,X (b.d k)=ptrTo g∧base≤g∧X (b.e k)=.agg #[y0,y1,y2]∧Box3 W g y0 y1 y2)→Q .normal (putX X b.L a0) W) :
  wpAnyH P md ops Q S fuel l0 a0 W0:=by
 have hfuel:leftN ops.size l0≤fuel:=Nat.le_of_ble_eq_true hfuel'
 have hsz:∀ p∈b.L,p.2<a0.tmps.size:=fun p hp=>Nat.le_of_ble_eq_true (List.all_eq_true.1 hsz' p hp)
 have F:=Bxs.fits_spec hfit
 obtain⟨iA,iC,nAC⟩:=F.fst
 obtain⟨id,ir,ndr⟩:=F.snd
 have md' (k:Nat) (hk:k<b.n):b.d k∈b.L.map Prod.snd:=List.mem_map_of_mem (b.memA hk)
 have mr' (j:Nat) (hj:j<b.m):b.r j∈b.L.map Prod.snd:=List.mem_map_of_mem (b.memC hj)
 have mA' (k:Nat) (hk:k<b.n):b.A k∈b.L.map Prod.fst:=List.mem_map_of_mem (b.memA hk)
 have mC' (j:Nat) (hj:j<b.m):b.C j∈b.L.map Prod.fst:=List.mem_map_of_mem (b.memC hj)
 have tA (k i:Nat) (hk:k<b.n) (hi:i<b.n):b.T k≠b.A i:=fun e=>F.tL k hk (e▸mA' i hi)
 have tC (k j:Nat) (hk:k<b.n) (hj:j<b.m):b.T k≠b.C j:=fun e=>F.tL k hk (e▸mC' j hj)
 refine wpAnyH_inv (fun l a W=>∃ X c,b.Inv ops l0 a0 base z0 z1 z2 R l a W X c) (fun l a W ⟨X,c,I⟩=>hS c X W I.rel) ?_ ?_ fuel l0 a0 W0 F.size ⟨fun s=>a0.tmps.getD s undef,0,?_⟩ hfuel
 ·rintro l a W i hs ⟨X,c,I⟩ hi
  obtain⟨hu,o',ho,_⟩:=mem_ready.1 hi
  have hin:i<ops.size:=(Array.getElem?_eq_some_iff.1 ho).1
  have h0:l0.getD i true=false:=by
   cases h:l0.getD i true with
   | false=>rfl
   | true=>rw[I.was i hin h] at hu;cases hu
  have huf:l.getD i false=false:=by rw[← getD_tf (by omega)];exact hu
  have new_ (l':Array Bool) (h:i<l'.size):(l'.setIfInBounds i true).getD i false=true:=by simp[h]
  rcases F.all i hin h0 with ⟨k,hk,rfl | rfl⟩ | ⟨j,hj,rfl⟩
  ·refine hal k hk _ a W ⟨updX X (b.d k) (ptrTo W.heap.size),c,?_⟩
   have hT:l.getD (b.T k) false=false:=by
    cases h:l.getD (b.T k) false with
    | false=>rfl
    | true=>rw[I.ta k hk h] at huf;cases huf
   refine⟨fun j hj h=>set_true_getT (I.was j hj h),I.cm,fun j hj=>?_,fun s hs'=>?_,?_,?_,?_,fun j hj h=>?_,fun j i hj hi' e h=>?_,fun j hj h=>?_,fun p q hp hq hpq h1 h2=>?_⟩
   ·rw[getD_set_ne false (nAC k j hk hj)];exact I.lc j hj
   ·rw[updX_ne _ _ (fun e=>hs' (by rw[e];exact md' k hk))];exact I.off s hs'
   ·rw[I.act];exact (actOf_set huf (by omega) b.L a0 (b.memA hk) F.n1 F.n2).symm
   ·exact hRx _ _ _ _ (hRa _ _ _ I.rel) (fun j hj=>updX_ne _ _ (fun e=>ndr k j hk (Nat.lt_of_lt_of_le hj I.cm) e.symm))
   ·rw[World.size_alloc];have:=I.low;omega
   ·rw[getD_set_ne false (tA j k hj hk).symm] at h
    exact set_true_getD (I.ta j hj h)
   ·rw[getD_set_ne false (tA j k hj hk).symm] at h
    exact I.te j i hj hi' e h
   ·rw[getD_set_ne false (tA j k hj hk).symm,updX_ne _ _ (F.eD j k hj hk)]
    by_cases e:j=k
    ·subst e
     rw[updX_same,hT]
     exact⟨_,rfl,I.low,by rw[World.size_alloc];omega,hbox W⟩
    ·rw[getD_set_ne false (fun e'=>e (nodup_map_inj iA hj hk e'.symm))] at h
     obtain⟨g,hg,hB⟩:=I.box j hj h
     rw[updX_ne _ _ (fun e'=>e (nodup_map_inj id hj hk e'))]
     exact⟨g,hg,hB.keep (by rw[World.size_alloc];omega) (fun _ _ _ h=>h.alloc o)⟩
   ·have old (r:Nat) (hr:r<b.n) (hrk:r≠k) (h:(l.setIfInBounds (b.A k) true).getD (b.A r) false=true):X (b.d r)≠ptrTo W.heap.size:=by
     rw[getD_set_ne false (fun e'=>hrk (nodup_map_inj iA hr hk e'.symm))] at h
     obtain⟨g,hg,hB⟩:=I.box r hr h
     rw[hg]
     exact fun e=>by have:=ptrTo_inj e;have:=hB.2.1;omega
    by_cases ep:p=k
    ·subst ep
     rw[updX_same,updX_ne _ _ (fun e'=>hpq (nodup_map_inj id hq hk e').symm)]
     exact (old q hq (Ne.symm hpq) h2).symm
    ·rw[updX_ne _ _ (fun e'=>ep (nodup_map_inj id hp hk e'))]
     by_cases eq:q=k
     ·subst eq
      rw[updX_same]
      exact old p hp hpq h1
     ·rw[updX_ne _ _ (fun e'=>eq (nodup_map_inj id hq hk e'))]
      rw[getD_set_ne false (fun e'=>ep (nodup_map_inj iA hp hk e'.symm))] at h1
      rw[getD_set_ne false (fun e'=>eq (nodup_map_inj iA hq hk e'.symm))] at h2
      exact I.apart p q hp hq hpq h1 h2
  ·have hA:=waits_spec (F.wA k hk) hi
   obtain⟨g,hg,hB⟩:=I.box k hk hA
   rw[huf] at hB
   have hc (j:Nat) (hj:j<b.m) (e:b.r j=b.e k):j<c:=by
    have:=waits_spec (F.wE k j hk hj e) hi
    rw[I.lc j hj] at this
    simpa using this
   have hd:a.tmps.getD (b.d k) undef=ptrTo g:=by rw[I.act,actOf_at hA _ _ (b.memA hk) F.n2 (hsz _ (b.memA hk)),hg]
   have he:a.tmps.getD (b.e k) undef=X (b.e k):=by
    by_cases hm:b.e k∈b.L.map Prod.snd
    ·obtain⟨p,hp,hpe⟩:=List.mem_map.1 hm
     rcases List.mem_append.1 hp with hp' | hp'
     ·obtain⟨i,hi',rfl⟩:=List.mem_map.1 hp'
      exact absurd hpe.symm (F.eD k i hk (List.mem_range.1 hi'))
     ·obtain⟨j,hj,rfl⟩:=List.mem_map.1 hp'
      have hj':=List.mem_range.1 hj
      have hpe':b.r j=b.e k:=hpe
      rw[I.act,← hpe',actOf_at (waits_spec (F.wE k j hk hj' hpe') hi) _ _ (b.memC hj') F.n2 (hsz _ (b.memC hj'))]
    ·rw[I.act,actOf_off _ _ hm,I.off _ hm]
   refine hst k hk _ a W X c g hd he I.off hc I.rel hB.2.2 (fun W' y0 y1 y2 hv hb3 hU=>⟨X,c,?_⟩)
   refine⟨fun j hj h=>set_true_getT (I.was j hj h),I.cm,fun j hj=>?_,I.off,?_,hRu _ _ _ _ _ I.rel hB.1 hU,?_,fun j hj h=>?_,fun j i hj hi' e h=>?_,fun j hj h=>?_,fun p q hp hq hpq h1 h2=>?_⟩
   ·rw[getD_set_ne false (tC k j hk hj)];exact I.lc j hj
   ·rw[I.act]
    exact (actOf_congr _ _ (fun p hp=>⟨getD_set_ne false (fun e=>F.tL k hk (by rw[e];exact List.mem_map_of_mem hp)),rfl⟩)).symm
   ·rw[hU.2.2.2.2];exact I.low
   ·by_cases e:j=k
    ·subst e;exact set_true_getD hA
    ·rw[getD_set_ne false (fun e'=>e (nodup_map_inj F.nT hj hk e'.symm))] at h
     exact set_true_getD (I.ta j hj h)
   ·by_cases e':j=k
    ·subst e';exact hc i hi' e
    ·rw[getD_set_ne false (fun e2=>e' (nodup_map_inj F.nT hj hk e2.symm))] at h
     exact I.te j i hj hi' e h
   ·rw[getD_set_ne false (tA k j hk hj)] at h
    obtain⟨g',hg',hB'⟩:=I.box j hj h
    by_cases e:j=k
    ·subst e
     rw[new_ l (by omega)]
     exact⟨g,hg,hB.1,by rw[hU.2.2.2.2];exact hB.2.1,y0,y1,y2,hv,hb3⟩
    ·rw[getD_set_ne false (fun e'=>e (nodup_map_inj F.nT hj hk e'.symm))]
     refine⟨g',hg',hB'.keep (by rw[hU.2.2.2.2];exact Nat.le_refl _) (fun _ _ _ h3=>upd_box3 hU (fun e2=>?_) h3)⟩
     exact I.apart j k hj hk e h hA (by rw[hg,hg',e2])
   ·rw[getD_set_ne false (tA k p hk hp)] at h1
    rw[getD_set_ne false (tA k q hk hq)] at h2
    exact I.apart p q hp hq hpq h1 h2
  ·obtain rfl:j=c:=by
    have h1:=I.lc j hj
    rw[huf] at h1
    have h2:¬ j<c:=fun h=>by rw[decide_eq_true h] at h1;cases h1
    refine Classical.byContradiction fun hne=>?_
    obtain⟨i,rfl⟩:∃ i,j=i+1:=⟨j-1,by omega⟩
    have h3:=waits_spec (F.wC i hj) hi
    rw[I.lc i (by omega)] at h3
    have:i<c:=by simpa using h3
    omega
   have lt (i:Nat) (h:i<j):l.getD (b.C i) false=true:=by rw[I.lc i (by omega),decide_eq_true h]
   refine hca j hj _ a W X (fun s hs'=>by rw[I.act,actOf_off _ _ hs']) (fun i hi'=>by rw[I.act,actOf_at (lt i hi') _ _ (b.memC (by omega)) F.n2 (hsz _ (b.memC (by omega)))]) I.rel I.low (fun v W' hR hsW hB=>⟨updX X (b.r j) v,j+1,?_⟩)
   refine⟨fun i hi' h=>set_true_getT (I.was i hi' h),hj,fun i hi'=>?_,fun s hs'=>?_,?_,hR,?_,fun k hk h=>?_,fun k i hk hi' e h=>?_,fun k hk h=>?_,fun p q hp hq hpq h1 h2=>?_⟩
   ·by_cases e:i=j
    ·subst e;rw[new_ l (by omega),decide_eq_true (by omega)]
    ·rw[getD_set_ne false (fun e'=>e (nodup_map_inj iC hi' hj e'.symm)),I.lc i hi']
     exact decide_eq_decide.2 (by omega)
   ·rw[updX_ne _ _ (fun e=>hs' (by rw[e];exact mr' j hj))];exact I.off s hs'
   ·rw[I.act];exact (actOf_set huf (by omega) b.L a0 (b.memC hj) F.n1 F.n2).symm
   ·have:=I.low;omega
   ·rw[getD_set_ne false (tC k j hk hj).symm] at h
    exact set_true_getD (I.ta k hk h)
   ·rw[getD_set_ne false (tC k j hk hj).symm] at h
    have:=I.te k i hk hi' e h;omega
   ·rw[getD_set_ne false (nAC k j hk hj).symm] at h
    rw[getD_set_ne false (tC k j hk hj).symm,updX_ne _ _ (ndr k j hk hj)]
    obtain⟨g,hg,hB'⟩:=I.box k hk h
    refine⟨g,hg,?_⟩
    by_cases e:b.e k=b.r j
    ·have hT:l.getD (b.T k) false=false:=by
      cases h':l.getD (b.T k) false with
      | false=>rfl
      | true=>have:=I.te k j hk hj e.symm h';omega
     rw[hT] at hB' ⊢
     exact⟨hB'.1,by have:=hB'.2.1;omega,hB _ _ _ _ hB'.1 hB'.2.2⟩
    ·rw[updX_ne _ _ e]
     exact hB'.keep hsW (fun _ _ _ h3=>hB _ _ _ _ hB'.1 h3)
   ·rw[getD_set_ne false (nAC p j hp hj).symm] at h1
    rw[getD_set_ne false (nAC q j hq hj).symm] at h2
    rw[updX_ne _ _ (ndr p j hp hj),updX_ne _ _ (ndr q j hq hj)]
    exact I.apart p q hp hq hpq h1 h2
 ·rintro l a W hs ⟨X,c,I⟩ hr
  have all (i:Nat) (hi:i<ops.size):l.getD i true=true:=by
   cases h:l.getD i true with
   | true=>rfl
   | false=>exact absurd hr (ready_some2 F.dn hs ⟨i,hi,h⟩)
  have hcm:c=b.m:=by
   have:=I.cm
   refine Classical.byContradiction fun hne=>?_
   have h1:=I.lc c (by omega)
   rw[← getD_tf (by have:=(F.lC c (by omega)).1;omega),all _ (F.lC c (by omega)).1,decide_eq_false (by omega)] at h1
   cases h1
  subst hcm
  rw[I.act,actOf_all b.L a0 (fun p hp=>by
   rcases List.mem_append.1 hp with hp | hp
   ·obtain⟨k,hk,rfl⟩:=List.mem_map.1 hp
    have h:=(F.lA k (List.mem_range.1 hk)).1
    rw[← getD_tf (by omega)];exact all _ h
   ·obtain⟨j,hj,rfl⟩:=List.mem_map.1 hp
    have h:=(F.lC j (List.mem_range.1 hj)).1
    rw[← getD_tf (by omega)];exact all _ h)]
  refine hend X W I.rel I.off I.low (fun k hk=>?_)
  have hA:=(F.lA k hk).1
  have hT:=(F.lT k hk).1
  obtain⟨g,hg,h1,h2,h3⟩:=I.box k hk (by rw[← getD_tf (by omega)];exact all _ hA)
  rw[← getD_tf (by omega),all _ hT] at h3
  obtain⟨y0,y1,y2,hv,hb⟩:=h3
  exact⟨g,y0,y1,y2,hg,h1,hv,hb⟩
 ·have nl (i:Nat) (hi:i<ops.size) (h:l0.getD i false=false) (Pr:Prop) (h':l0.getD i false=true):Pr:=by rw[h] at h';cases h'
  refine⟨fun i _ h=>h,Nat.zero_le _,fun j hj=>?_,fun s _=>rfl,?_,hR0,hlow,fun k hk h=>?_,fun k j hk hj e h=>?_,fun k hk h=>?_,fun p q hp hq _ h1 _=>?_⟩
  ·rw[(F.lC j hj).2];rfl
  ·refine (actOf_none b.L a0 (fun p hp=>?_)).symm
   rcases List.mem_append.1 hp with hp | hp
   ·obtain⟨k,hk,rfl⟩:=List.mem_map.1 hp
    exact (F.lA k (List.mem_range.1 hk)).2
   ·obtain⟨j,hj,rfl⟩:=List.mem_map.1 hp
    exact (F.lC j (List.mem_range.1 hj)).2
  ·exact nl _ (F.lT k hk).1 (F.lT k hk).2 _ h
  ·exact nl _ (F.lT k hk).1 (F.lT k hk).2 _ h
  ·exact nl _ (F.lA k hk).1 (F.lA k hk).2 _ h
  ·exact nl _ (F.lA p hp).1 (F.lA p hp).2 _ h1
end
end
end Go.Proofs.YtbhmhfnfceakoaaGreatDoor
