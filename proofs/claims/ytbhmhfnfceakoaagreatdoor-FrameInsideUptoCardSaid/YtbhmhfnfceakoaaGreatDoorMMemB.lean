/-
  Walks: the law's member, two components.
-/
import Derived.Test.YtbhmhfnfceakoaaGreatDoorMMemA
namespace Go.Proofs.YtbhmhfnfceakoaaGreatDoor
open Go.RowKit
open Lib (hid)
structure MemX (w V:World) (g:Nat) (x:RD):Prop where
 cl:V.cell? ⟨g,0,none⟩=some (.bool x.neg)∧V.cell? ⟨g,1,none⟩=some (.slice x.a x.xs.length x.c)∧V.cell? ⟨g,2,none⟩=some (.int .i64 x.e)
 lo:w.heap.size+1<g
theorem MemX.kp {w V V':World} {g:Nat} {x:RD} (h:MemX w V g x) (k:Kp V V'):MemX w V' g x:=⟨keep3 k h.cl,h.lo⟩
theorem MemX.chg {w V V':World} {g:Nat} {x:RD} (h:MemX w V g x) (k:Chg (·=w.heap.size+1) V V'):MemX w V' g x :=
 ⟨⟨k.cell h.cl.1 (by have:=h.lo;omega),k.cell h.cl.2.1 (by have:=h.lo;omega),k.cell h.cl.2.2 (by have:=h.lo;omega)⟩,h.lo⟩
theorem MemW.upd {w W W':World} {ok:Bool} {v0 v1 v2:Value} {g:Nat} (h:MemW w W ok v0 v1 v2) (hU:Upd g W W') (hg:w.heap.size+1+1<g):MemW w W' ok v0 v1 v2:=by
 have hl:=h.o.lt
 refine⟨hU.2.2.1 _ h.k (by omega),⟨?_,?_,fun j hj i v hc=>?_⟩,⟨?_,?_,?_⟩,?_⟩
 ·rw[hU.2.2.2.1 _ (by show w.heap.size+1≠g;omega)];exact h.o.c
 ·rw[hU.1];exact h.o.fr
 ·subst hj
  rw[hU.2.2.2.1 _ (by show w.heap.size+1≠g;omega)] at hc
  exact h.o.nu _ rfl i v hc
 ·rw[hU.2.2.2.1 _ (by show w.heap.size≠g;omega)];exact h.f.1
 ·rw[hU.2.2.2.1 _ (by show w.heap.size≠g;omega)];exact h.f.2.1
 ·rw[hU.2.2.2.1 _ (by show w.heap.size≠g;omega)];exact h.f.2.2
 rw[hU.2.2.2.1 _ (by show w.heap.size+1+1≠g;omega)];exact h.m
def MemL (w V:World) (L:List (Nat×RD)):Prop:=∀ p∈L,MemX w V p.1 p.2
def OkL (V:World) (K:List RD):Prop:=∀ x∈K,x.ok V
structure MemS (w V:World) (ok:Bool) (v0 v1 v2:Value) (L:List (Nat×RD)) (K:List RD):Prop where
 m:MemW w V ok v0 v1 v2
 l:MemL w V L
 o:OkL V K
section
variable {w V V':World} {ok ok':Bool} {v0 v1 v2:Value} {L:List (Nat×RD)} {K:List RD}
theorem MemX.lt {g:Nat} {x:RD} (h:MemX w V g x):g<V.heap.size:=World.block_lt_of_cell? _ _ h.cl.1
theorem MemX.upd {g b:Nat} {x:RD} (h:MemX w V g x) (hU:Upd b V V') (hb:g≠b):MemX w V' g x :=
 ⟨⟨by rw[hU.2.2.2.1 _ hb];exact h.cl.1,by rw[hU.2.2.2.1 _ hb];exact h.cl.2.1,by rw[hU.2.2.2.1 _ hb];exact h.cl.2.2⟩,h.lo⟩
theorem MemS.kp (h:MemS w V ok v0 v1 v2 L K) (k:Kp V V'):MemS w V' ok v0 v1 v2 L K:=⟨h.m.kp k,fun p hp=>(h.l p hp).kp k,fun x hx=>(h.o x hx).kp k⟩
theorem MemS.chg (h:MemS w V ok v0 v1 v2 L K) (k:Chg (·=w.heap.size+1) V V') (o:OkB V' (w.heap.size+1) ok'):MemS w V' ok' v0 v1 v2 L K :=
 ⟨h.m.chg k o,fun p hp=>(h.l p hp).chg k,fun x hx=>k.ok h.m.o.nu (h.o x hx)⟩
theorem MemS.upd (h:MemS w V ok v0 v1 v2 L K) {b:Nat} (hU:Upd b V V') (h1:w.heap.size+1+1<b) (h2:∀ p∈L,p.1<b):MemS w V' ok v0 v1 v2 L K :=
 ⟨h.m.upd hU h1,fun p hp=>(h.l p hp).upd hU (by have:=h2 p hp;omega),fun x hx=>⟨⟨hU.2.1 _ _ (h.o x hx).1.1,(h.o x hx).1.2⟩,(h.o x hx).2⟩⟩
theorem MemS.addL (h:MemS w V ok v0 v1 v2 L K) {g:Nat} {x:RD} (hx:MemX w V g x):MemS w V ok v0 v1 v2 ((g,x)::L) K:=⟨h.m,fun p hp=>by
 rcases List.mem_cons.1 hp with rfl | hp
 ·exact hx
 ·exact h.l p hp,h.o⟩
theorem MemS.addK (h:MemS w V ok v0 v1 v2 L K) {x:RD} (hx:x.ok V):MemS w V ok v0 v1 v2 L (x::K):=⟨h.m,h.l,fun y hy=>by
 rcases List.mem_cons.1 hy with rfl | hy
 ·exact hx
 ·exact h.o y hy⟩
theorem MemS.tab (h:MemS w V ok v0 v1 v2 L K) (hT:Tab w):Tab V:=hT.kp h.m.k
theorem box_chg {X:Nat→Prop} {g:Nat} {y0 y1 y2:Value} (h:Box3 V g y0 y1 y2) (k:Chg X V V') (hx:¬ X g):Box3 V' g y0 y1 y2:=by
 obtain⟨a0,a1,a2,f0,f1,f2⟩:=h
 exact⟨k.cell a0 hx,k.cell a1 hx,k.cell a2 hx,k.frozen a0 hx f0,k.frozen a1 hx f1,k.frozen a2 hx f2⟩
end
set_option maxRecDepth 100000 in
set_option maxHeartbeats 16000000 in
theorem mem2_any (f:RF) (ya:Option Addr) (ys:List RD) (yc:Nat) (c0 c1 a b c d y0 y1:RD) (r0 r1:RI) (row0 row1:List RD) (w:World) (hf:f.rd w) (hy:RowD w ya ys) (hl:f.cs.length=2)
  (hc0:f.cs[0]? = some c0) (hc1:f.cs[1]? = some c1) (hm0:f.ms[0]? = some row0) (hm1:f.ms[1]? = some row1) (ha:row0[0]? = some a) (hb:row0[1]? = some b) (hc:row1[0]? = some c) (hd:row1[1]? = some d)
  (hr0:f.rs[0]? = some r0) (hr1:f.rs[1]? = some r1) (hy0:ys[0]? = some y0) (hy1:ys[1]? = some y1)
  (kc:(c0.vl=true∧c1.vl=true)∧(a.vl=true∧b.vl=true∧c.vl=true∧d.vl=true)∧(r0.vl=true∧r1.vl=true)∧y0.vl=true∧y1.vl=true) (hT:Tab w) :
  Calls Tryz.prog 16 #[.agg #[.slice f.ca f.cs.length f.cc,.slice f.aa f.ms.length f.ac,.slice f.ra f.rs.length f.rc],.slice ya ys.length yc] w (MeO w (memC2 y0.dy y1.dy c0.dy c1.dy a.dy b.dy c.dy d.dy r0.lo.dy r0.hi.dy r1.lo.dy r1.hi.dy)):=by
 obtain⟨cb,co,hca,rc0,d0,d1,d2⟩:=hf.1.1 0 c0 hc0
 obtain⟨cb',co',hca',rc1,e0,e1,e2⟩:=hf.1.1 1 c1 hc1
 obtain⟨mb,mo,ra,rc,hma,m0,hrow,hrl⟩:=hf.2.1.1 0 row0 hm0
 obtain⟨mb',mo',ra',rd,hma',m1,hrow',hrl'⟩:=hf.2.1.1 1 row1 hm1
 obtain⟨ab,ao,hra,rca,a1,a2,a3⟩:=hrow 0 a ha
 obtain⟨ab',ao',hra2,rcb,b1,b2,b3⟩:=hrow 1 b hb
 obtain⟨db,dO,hra3,rcc,c1',c2',c3'⟩:=hrow' 0 c hc
 obtain⟨db',dO',hra4,rcd,d1',d2',d3'⟩:=hrow' 1 d hd
 obtain⟨rb,ro,hrra,rcr0,i0,i1,i2,i3,i4,i5,i6⟩:=hf.2.2.1 0 r0 hr0
 obtain⟨rb',ro',hrra',rcr1,j0,j1,j2,j3,j4,j5,j6⟩:=hf.2.2.1 1 r1 hr1
 obtain⟨yb,yo,hya,rcy0,x1,x2,x3⟩:=hy 0 y0 hy0
 obtain⟨yb',yo',hya',rcy1,z1,z2,z3⟩:=hy 1 y1 hy1
 obtain⟨ca,cs,cc,aa,ms,ac,rra,rs,rrc⟩:=f
 dsimp only at hca hca' hma hma' hrra hrra' hl hc0 hc1 hm0 hm1 hr0 hr1
 subst hca hma hra hra3 hrra hya
 cases hca';cases hma';cases hra2;cases hra4;cases hrra';cases hya'
 have l1:1<ms.length:=(List.getElem?_eq_some_iff.1 hm1).1
 have l2:1<row0.length:=(List.getElem?_eq_some_iff.1 hb).1
 have l3:1<row1.length:=(List.getElem?_eq_some_iff.1 hd).1
 have l4:1<rs.length:=(List.getElem?_eq_some_iff.1 hr1).1
 have l5:1<ys.length:=(List.getElem?_eq_some_iff.1 hy1).1
 clear hf hy hrow hrow' hrl hrl' hc0 hc1 hm0 hm1 ha hb hc hd hr0 hr1 hy0 hy1
 go_enter Tryz.func16,Tryz.ntmps16
 simp only[Nat.zero_mul,Nat.one_mul,Nat.add_zero] at d0 d1 d2 e0 e1 e2 m0 m1 a1 a2 a3 b1 b2 b3 c1' c2' c3' d1' d2' d3' i0 i1 i2 i3 i4 i5 i6 j0 j1 j2 j3 j4 j5 j6 x1 x2 x3 z1 z2 z3
 have HM:=hid (MemW.new w (.slice (some ⟨cb,co,none⟩) 2 cc) (.slice (some ⟨mb,mo,none⟩) ms.length ac) (.slice (some ⟨rb,ro,none⟩) rs.length rrc))
 have HS:=hid (fun (V:World) (k:Kp w V)=>show (V.cell? ⟨cb,co,none⟩=some (.bool c0.neg)∧V.cell? ⟨cb,co+1,none⟩=some (.slice c0.a c0.xs.length c0.c)∧V.cell? ⟨cb,co+2,none⟩=some (.int .i64 c0.e))∧(V.cell? ⟨cb,(co+3),none⟩=some (.bool c1.neg)∧V.cell? ⟨cb,(co+3)+1,none⟩=some (.slice c1.a c1.xs.length c1.c)∧V.cell? ⟨cb,(co+3)+2,none⟩=some (.int .i64 c1.e))∧(V.cell? ⟨mb,mo,none⟩=some (.slice (some ⟨ab,ao,none⟩) row0.length rc)∧V.cell? ⟨mb,mo+1,none⟩=some (.slice (some ⟨db,dO,none⟩) row1.length rd))∧(V.cell? ⟨ab,ao,none⟩=some (.bool a.neg)∧V.cell? ⟨ab,ao+1,none⟩=some (.slice a.a a.xs.length a.c)∧V.cell? ⟨ab,ao+2,none⟩=some (.int .i64 a.e))∧(V.cell? ⟨ab,(ao+3),none⟩=some (.bool b.neg)∧V.cell? ⟨ab,(ao+3)+1,none⟩=some (.slice b.a b.xs.length b.c)∧V.cell? ⟨ab,(ao+3)+2,none⟩=some (.int .i64 b.e))∧(V.cell? ⟨db,dO,none⟩=some (.bool c.neg)∧V.cell? ⟨db,dO+1,none⟩=some (.slice c.a c.xs.length c.c)∧V.cell? ⟨db,dO+2,none⟩=some (.int .i64 c.e))∧(V.cell? ⟨db,(dO+3),none⟩=some (.bool d.neg)∧V.cell? ⟨db,(dO+3)+1,none⟩=some (.slice d.a d.xs.length d.c)∧V.cell? ⟨db,(dO+3)+2,none⟩=some (.int .i64 d.e))∧(V.cell? ⟨yb,yo,none⟩=some (.bool y0.neg)∧V.cell? ⟨yb,yo+1,none⟩=some (.slice y0.a y0.xs.length y0.c)∧V.cell? ⟨yb,yo+2,none⟩=some (.int .i64 y0.e))∧(V.cell? ⟨yb,(yo+3),none⟩=some (.bool y1.neg)∧V.cell? ⟨yb,(yo+3)+1,none⟩=some (.slice y1.a y1.xs.length y1.c)∧V.cell? ⟨yb,(yo+3)+2,none⟩=some (.int .i64 y1.e))∧(V.cell? ⟨rb,ro,none⟩=some (.bool r0.lo.neg)∧V.cell? ⟨rb,ro+1,none⟩=some (.slice r0.lo.a r0.lo.xs.length r0.lo.c)∧V.cell? ⟨rb,ro+2,none⟩=some (.int .i64 r0.lo.e)∧V.cell? ⟨rb,ro+3,none⟩=some (.bool r0.hi.neg)∧V.cell? ⟨rb,ro+4,none⟩=some (.slice r0.hi.a r0.hi.xs.length r0.hi.c)∧V.cell? ⟨rb,ro+5,none⟩=some (.int .i64 r0.hi.e)∧V.cell? ⟨rb,ro+6,none⟩=some (.bool r0.all))∧(V.cell? ⟨rb,(ro+7),none⟩=some (.bool r1.lo.neg)∧V.cell? ⟨rb,(ro+7)+1,none⟩=some (.slice r1.lo.a r1.lo.xs.length r1.lo.c)∧V.cell? ⟨rb,(ro+7)+2,none⟩=some (.int .i64 r1.lo.e)∧V.cell? ⟨rb,(ro+7)+3,none⟩=some (.bool r1.hi.neg)∧V.cell? ⟨rb,(ro+7)+4,none⟩=some (.slice r1.hi.a r1.hi.xs.length r1.hi.c)∧V.cell? ⟨rb,(ro+7)+5,none⟩=some (.int .i64 r1.hi.e)∧V.cell? ⟨rb,(ro+7)+6,none⟩=some (.bool r1.all)) from
  ⟨⟨k.cell d0,k.cell d1,k.cell d2⟩,⟨k.cell e0,k.cell e1,k.cell e2⟩,⟨k.cell m0,k.cell m1⟩,⟨k.cell a1,k.cell a2,k.cell a3⟩,⟨k.cell b1,k.cell b2,k.cell b3⟩,⟨k.cell c1',k.cell c2',k.cell c3'⟩,⟨k.cell d1',k.cell d2',k.cell d3'⟩,⟨k.cell x1,k.cell x2,k.cell x3⟩,⟨k.cell z1,k.cell z2,k.cell z3⟩,⟨k.cell i0,k.cell i1,k.cell i2,k.cell i3,k.cell i4,k.cell i5,k.cell i6⟩,⟨k.cell j0,k.cell j1,k.cell j2,k.cell j3,k.cell j4,k.cell j5,k.cell j6⟩⟩)
 have HOa:=hid (show (a.ok w∧b.ok w)∧c.ok w∧d.ok w from ⟨⟨⟨rca,kc.2.1.1⟩,⟨rcb,kc.2.1.2.1⟩⟩,⟨rcc,kc.2.1.2.2.1⟩,⟨rcd,kc.2.1.2.2.2⟩⟩)
 have HOc:=hid (show (c0.ok w∧c1.ok w)∧y0.ok w∧y1.ok w from ⟨⟨⟨rc0,kc.1.1⟩,⟨rc1,kc.1.2⟩⟩,⟨rcy0,kc.2.2.2.1⟩,⟨rcy1,kc.2.2.2.2⟩⟩)
 have HOr:=hid (show (r0.rd w∧r1.rd w)∧r0.vl=true∧r1.vl=true from ⟨⟨rcr0,rcr1⟩,kc.2.2.1⟩)
 have HT:=hid hT
 clear d0 d1 d2 e0 e1 e2 m0 m1 a1 a2 a3 b1 b2 b3 c1' c2' c3' d1' d2' d3' i0 i1 i2 i3 i4 i5 i6 j0 j1 j2 j3 j4 j5 j6 x1 x2 x3 z1 z2 z3 kc rc0 rc1 rca rcb rcc rcd rcr0 rcr1 rcy0 rcy1 hT
 obtain⟨D,hD⟩:∃ D,D=memC2 y0.dy y1.dy c0.dy c1.dy a.dy b.dy c.dy d.dy r0.lo.dy r0.hi.dy r1.lo.dy r1.hi.dy:=⟨_,rfl⟩
 have HD:=hid hD
 rw[← hD]
 clear hD
 have q1:(1:Int)<(ms.length:Int):=by omega
 have q2:(1:Int)<(row0.length:Int):=by omega
 have q3:(1:Int)<(row1.length:Int):=by omega
 have q4:(1:Int)<(rs.length:Int):=by omega
 have q5:(1:Int)<(ys.length:Int):=by omega
 have p1:0<ms.length:=by omega
 have p2:0<row0.length:=by omega
 have p3:0<row1.length:=by omega
 have p4:0<rs.length:=by omega
 have p5:0<ys.length:=by omega
 go_upto_region 8 with fail
 generalize hW:(((w.alloc _).alloc _).alloc _)=W at *
 clear hW
 go_cut [11,12,13,14] from 59 to 83 (fun s1 s2 s3 s4 wx=>∃ g1 g2 g3 g4:Nat,s1=.pointer (some ⟨g1,0,none⟩)∧s2=.pointer (some ⟨g2,0,none⟩)∧s3=.pointer (some ⟨g3,0,none⟩)∧s4=.pointer (some ⟨g4,0,none⟩)∧MemX w wx g1 a∧MemX w wx g2 b∧MemX w wx g3 c∧MemX w wx g4 d∧MemW w wx true (.slice (some ⟨cb,co,none⟩) 2 cc) (.slice (some ⟨mb,mo,none⟩) ms.length ac) (.slice (some ⟨rb,ro,none⟩) rs.length rrc))
 case first =>
  have kd:=(Kp.refl W).drew
  have HMd:=hid (HM.out.kp kd)
  have p8 {V:World} {k:Bool} (h:MemW w V k (.slice (some ⟨cb,co,none⟩) 2 cc) (.slice (some ⟨mb,mo,none⟩) ms.length ac) (.slice (some ⟨rb,ro,none⟩) rs.length rrc)):=And.intro h.f.2.1 (have g:=HS.out _ h.k;And.intro g.2.2.1 (And.intro g.2.2.2.1 (And.intro g.2.2.2.2.1 (And.intro g.2.2.2.2.2.1 g.2.2.2.2.2.2.1))))
  have hSd:=p8 HMd.out
  have hsz:w.heap.size+1+1<W.heap.size:=World.block_lt_of_cell? _ _ HM.out.m
  refine wp_region_held_drew (S:=fun w'=>(w'.cell? ⟨w.heap.size,1,none⟩=some (.slice (some ⟨mb,mo,none⟩) ms.length ac))∧(w'.cell? ⟨mb,mo,none⟩=some (.slice (some ⟨ab,ao,none⟩) row0.length rc)∧w'.cell? ⟨mb,mo+1,none⟩=some (.slice (some ⟨db,dO,none⟩) row1.length rd))∧(w'.cell? ⟨ab,ao,none⟩=some (.bool a.neg)∧w'.cell? ⟨ab,ao+1,none⟩=some (.slice a.a a.xs.length a.c)∧w'.cell? ⟨ab,ao+2,none⟩=some (.int .i64 a.e))∧(w'.cell? ⟨ab,(ao+3),none⟩=some (.bool b.neg)∧w'.cell? ⟨ab,(ao+3)+1,none⟩=some (.slice b.a b.xs.length b.c)∧w'.cell? ⟨ab,(ao+3)+2,none⟩=some (.int .i64 b.e))∧(w'.cell? ⟨db,dO,none⟩=some (.bool c.neg)∧w'.cell? ⟨db,dO+1,none⟩=some (.slice c.a c.xs.length c.c)∧w'.cell? ⟨db,dO+2,none⟩=some (.int .i64 c.e))∧(w'.cell? ⟨db,(dO+3),none⟩=some (.bool d.neg)∧w'.cell? ⟨db,(dO+3)+1,none⟩=some (.slice d.a d.xs.length d.c)∧w'.cell? ⟨db,(dO+3)+2,none⟩=some (.int .i64 d.e))) (by kernel_rfl) hSd (fun hHeld=>?_)
  clear hSd
  refine tk 0 ?_;refine tk 1 ?_;refine tk 2 ?_;refine tk 3 ?_;refine tk 4 ?_;refine tk 5 ?_;refine tk 6 ?_;refine tk 7 ?_;(try simp only[Act.put,List.getElem_toArray,List.getElem_cons_zero,List.getElem_cons_succ,List.setIfInBounds_toArray,List.set_cons_zero,List.set_cons_succ])
  refine tk 8 ?_;refine tk 9 ?_;refine tk 10 ?_;refine tk 11 ?_;refine tk 12 ?_;refine tk 13 ?_;refine tk 14 ?_;refine tk 15 ?_;(try simp only[Act.put,List.getElem_toArray,List.getElem_cons_zero,List.getElem_cons_succ,List.setIfInBounds_toArray,List.set_cons_zero,List.set_cons_succ])
  refine tk 16 ?_;refine tk 17 ?_;refine tk 18 ?_;refine tk 19 ?_;refine tk 20 ?_;refine tk 21 ?_;refine tk 22 ?_;refine tk 23 ?_;(try simp only[Act.put,List.getElem_toArray,List.getElem_cons_zero,List.getElem_cons_succ,List.setIfInBounds_toArray,List.set_cons_zero,List.set_cons_succ])
  clear hHeld
  refine wpAnyH_boxes (b:=⟨4,fun k=>[24,25,26,27].getD k 0,fun k=>[11,12,13,14].getD k 0,fun k=>[28,29,30,31].getD k 0,fun k=>[64,70,76,82].getD k 0,0,fun _=>0,fun _=>0⟩)
   (o:=.cells #[.bool false,.slice none 0 0,.int .i64 0] 38) (z0:=.bool false) (z1:=.slice none 0 0) (z2:=.int .i64 0) (base:=W.heap.size)
   (R:=fun _ _ V=>MemW w V true (.slice (some ⟨cb,co,none⟩) 2 cc) (.slice (some ⟨mb,mo,none⟩) ms.length ac) (.slice (some ⟨rb,ro,none⟩) rs.length rrc)) (by kernel_rfl) (by kernel_rfl) (by kernel_rfl) (Nat.le_refl _) (fun V=>Box3.new V _ _ _ _) (fun c X V h=>p8 h) (fun c X V h=>h.kp ((Kp.refl V).alloc _))
   (fun c X V V' g h hg hU=>h.upd hU (by omega)) (fun c X X' V h _=>h) HMd.out ?_ ?_ (fun j hj=>absurd hj (Nat.not_lt_zero j)) ?_
  ·intro k hk
   have hk':k=0∨k=1∨k=2∨k=3:=by have:k<4:=hk;omega
   rcases hk' with rfl | rfl | rfl | rfl
   ·change AlcAt _ _ _ _ 24 11
    intro K A V hK
    refine wpOp_step rfl (fun K' hK'=>?_)
    go_simp
    exact hK' _ _ hK
   ·change AlcAt _ _ _ _ 25 12
    intro K A V hK
    refine wpOp_step rfl (fun K' hK'=>?_)
    go_simp
    exact hK' _ _ hK
   ·change AlcAt _ _ _ _ 26 13
    intro K A V hK
    refine wpOp_step rfl (fun K' hK'=>?_)
    go_simp
    exact hK' _ _ hK
   change AlcAt _ _ _ _ 27 14
   intro K A V hK
   refine wpOp_step rfl (fun K' hK'=>?_)
   go_simp
   exact hK' _ _ hK
  ·intro k hk K A V X C0 g hd he hoff hc hM hB hK
   have hk':k=0∨k=1∨k=2∨k=3:=by have:k<4:=hk;omega
   rcases hk' with rfl | rfl | rfl | rfl
   ·change wpOp _ _ _ 28 _ _ _
    change A.tmps.getD 11 undef=.pointer (some ⟨g,0,none⟩) at hd
    change A.tmps.getD 64 undef=X 64 at he
    have hX:X 64=.agg #[.bool a.neg,.slice a.a a.xs.length a.c,.int .i64 a.e]:=(hoff 64 (by decide)).trans (by kernel_rfl)
    rw[hX] at he
    obtain⟨p0,p1,p2,p3,p4,p5⟩:=id hB
    refine wpOp_step rfl (fun K' hK'=>?_)
    go_simp
    generalize hW8:(((World.setCell V _ _).setCell _ _).setCell _ _)=W8
    obtain⟨hB8,hU8⟩:=BoxD.store (x:=rdZero) hB a hW8
    exact hK' _ _ (hK _ _ _ _ hX hB8 hU8)
   ·change wpOp _ _ _ 29 _ _ _
    change A.tmps.getD 12 undef=.pointer (some ⟨g,0,none⟩) at hd
    change A.tmps.getD 70 undef=X 70 at he
    have hX:X 70=.agg #[.bool b.neg,.slice b.a b.xs.length b.c,.int .i64 b.e]:=(hoff 70 (by decide)).trans (by kernel_rfl)
    rw[hX] at he
    obtain⟨p0,p1,p2,p3,p4,p5⟩:=id hB
    refine wpOp_step rfl (fun K' hK'=>?_)
    go_simp
    generalize hW8:(((World.setCell V _ _).setCell _ _).setCell _ _)=W8
    obtain⟨hB8,hU8⟩:=BoxD.store (x:=rdZero) hB b hW8
    exact hK' _ _ (hK _ _ _ _ hX hB8 hU8)
   ·change wpOp _ _ _ 30 _ _ _
    change A.tmps.getD 13 undef=.pointer (some ⟨g,0,none⟩) at hd
    change A.tmps.getD 76 undef=X 76 at he
    have hX:X 76=.agg #[.bool c.neg,.slice c.a c.xs.length c.c,.int .i64 c.e]:=(hoff 76 (by decide)).trans (by kernel_rfl)
    rw[hX] at he
    obtain⟨p0,p1,p2,p3,p4,p5⟩:=id hB
    refine wpOp_step rfl (fun K' hK'=>?_)
    go_simp
    generalize hW8:(((World.setCell V _ _).setCell _ _).setCell _ _)=W8
    obtain⟨hB8,hU8⟩:=BoxD.store (x:=rdZero) hB c hW8
    exact hK' _ _ (hK _ _ _ _ hX hB8 hU8)
   change wpOp _ _ _ 31 _ _ _
   change A.tmps.getD 14 undef=.pointer (some ⟨g,0,none⟩) at hd
   change A.tmps.getD 82 undef=X 82 at he
   have hX:X 82=.agg #[.bool d.neg,.slice d.a d.xs.length d.c,.int .i64 d.e]:=(hoff 82 (by decide)).trans (by kernel_rfl)
   rw[hX] at he
   obtain⟨p0,p1,p2,p3,p4,p5⟩:=id hB
   refine wpOp_step rfl (fun K' hK'=>?_)
   go_simp
   generalize hW8:(((World.setCell V _ _).setCell _ _).setCell _ _)=W8
   obtain⟨hB8,hU8⟩:=BoxD.store (x:=rdZero) hB d hW8
   exact hK' _ _ (hK _ _ _ _ hX hB8 hU8)
  intro X V hM hoff hlow hboxes
  have HMV:=hid hM
  clear hM
  obtain⟨g1,hd,hl1,he,hb⟩:∃ g,X 11=.pointer (some ⟨g,0,none⟩)∧W.heap.size≤g∧X 64=X 64∧BoxD V g a:=by
   obtain⟨g,y0,y1,y2,h1,h2,h3,h4⟩:=hboxes 0 (by show 0<4;decide)
   have hX:X 64=.agg #[.bool a.neg,.slice a.a a.xs.length a.c,.int .i64 a.e]:=(hoff 64 (by decide)).trans (by kernel_rfl)
   have h3':X 64=.agg #[y0,y1,y2]:=h3
   rw[hX] at h3'
   injection h3' with h3'
   injection h3' with h3'
   simp only[List.cons.injEq,and_true] at h3'
   obtain⟨rfl,rfl,rfl⟩:=h3'
   exact⟨g,h1,h2,rfl,h4⟩
  have HD1:=hid hd
  have HB1:=hid (And.intro hb hl1)
  clear hd he hb hl1
  obtain⟨g2,hd,hl2,he,hb⟩:∃ g,X 12=.pointer (some ⟨g,0,none⟩)∧W.heap.size≤g∧X 70=X 70∧BoxD V g b:=by
   obtain⟨g,y0,y1,y2,h1,h2,h3,h4⟩:=hboxes 1 (by show 1<4;decide)
   have hX:X 70=.agg #[.bool b.neg,.slice b.a b.xs.length b.c,.int .i64 b.e]:=(hoff 70 (by decide)).trans (by kernel_rfl)
   have h3':X 70=.agg #[y0,y1,y2]:=h3
   rw[hX] at h3'
   injection h3' with h3'
   injection h3' with h3'
   simp only[List.cons.injEq,and_true] at h3'
   obtain⟨rfl,rfl,rfl⟩:=h3'
   exact⟨g,h1,h2,rfl,h4⟩
  have HD2:=hid hd
  have HB2:=hid (And.intro hb hl2)
  clear hd he hb hl2
  obtain⟨g3,hd,hl3,he,hb⟩:∃ g,X 13=.pointer (some ⟨g,0,none⟩)∧W.heap.size≤g∧X 76=X 76∧BoxD V g c:=by
   obtain⟨g,y0,y1,y2,h1,h2,h3,h4⟩:=hboxes 2 (by show 2<4;decide)
   have hX:X 76=.agg #[.bool c.neg,.slice c.a c.xs.length c.c,.int .i64 c.e]:=(hoff 76 (by decide)).trans (by kernel_rfl)
   have h3':X 76=.agg #[y0,y1,y2]:=h3
   rw[hX] at h3'
   injection h3' with h3'
   injection h3' with h3'
   simp only[List.cons.injEq,and_true] at h3'
   obtain⟨rfl,rfl,rfl⟩:=h3'
   exact⟨g,h1,h2,rfl,h4⟩
  have HD3:=hid hd
  have HB3:=hid (And.intro hb hl3)
  clear hd he hb hl3
  obtain⟨g4,hd,hl4,he,hb⟩:∃ g,X 14=.pointer (some ⟨g,0,none⟩)∧W.heap.size≤g∧X 82=X 82∧BoxD V g d:=by
   obtain⟨g,y0,y1,y2,h1,h2,h3,h4⟩:=hboxes 3 (by show 3<4;decide)
   have hX:X 82=.agg #[.bool d.neg,.slice d.a d.xs.length d.c,.int .i64 d.e]:=(hoff 82 (by decide)).trans (by kernel_rfl)
   have h3':X 82=.agg #[y0,y1,y2]:=h3
   rw[hX] at h3'
   injection h3' with h3'
   injection h3' with h3'
   simp only[List.cons.injEq,and_true] at h3'
   obtain⟨rfl,rfl,rfl⟩:=h3'
   exact⟨g,h1,h2,rfl,h4⟩
  have HD4:=hid hd
  have HB4:=hid (And.intro hb hl4)
  clear hd he hb hl4
  clear hoff hlow hboxes
  simp only[Bxs.L,putX,List.range,List.range.loop,List.map_cons,List.map_nil,List.append_nil,List.getD_cons_zero,List.getD_cons_succ]
  rw[HD1.out,HD2.out,HD3.out,HD4.out]
  simp only[Act.put,List.setIfInBounds_toArray,List.set_cons_zero,List.set_cons_succ]
  go_wp2_with fail
  go_meet
  case rel =>
  have mx (g:Nat) (x:RD) (h:BoxD V g x∧W.heap.size≤g):MemX w V g x:=⟨⟨h.1.1,h.1.2.1,h.1.2.2.1⟩,by have:=h.2;omega⟩
  exact⟨g1,g2,g3,g4,rfl,rfl,rfl,rfl,mx _ _ HB1.out,mx _ _ HB2.out,mx _ _ HB3.out,mx _ _ HB4.out,HMV.out⟩
 case rest =>
 obtain⟨g1,g2,g3,g4,rfl,rfl,rfl,rfl,x1,x2,x3,x4,hm⟩:=hcut
 obtain⟨V0,hV⟩:∃ X:World,X=wc:=⟨_,rfl⟩
 subst hV
 replace hl:=hid hl
 have HST:=hid (show MemS w V0 true (.slice (some ⟨cb,co,none⟩) 2 cc) (.slice (some ⟨mb,mo,none⟩) ms.length ac) (.slice (some ⟨rb,ro,none⟩) rs.length rrc) [(g1,a),(g2,b),(g3,c),(g4,d)] [] from ⟨hm,fun p hp=>by
  simp only[List.mem_cons,List.not_mem_nil,or_false] at hp
  rcases hp with rfl | rfl | rfl | rfl
  ·exact x1
  ·exact x2
  ·exact x3
  ·exact x4,fun x hx=>by cases hx⟩)
 clear x1 x2 x3 x4 hm HM
 obtain⟨s,hs⟩:∃ s,s=mem2 y0.dy y1.dy c0.dy c1.dy a.dy b.dy c.dy d.dy:=⟨_,rfl⟩
 have HE:=hid (show s.u=sbK y0.dy c0.dy true∧s.v=sbK y1.dy c1.dy s.u.2∧s.m1=muK a.dy d.dy s.v.2∧s.m2=muK b.dy c.dy s.m1.2∧s.det=sbK s.m1.1 s.m2.1 s.m2.2∧s.p1=muK s.u.1 d.dy s.det.2∧s.p2=muK b.dy s.v.1 s.p1.2∧s.n0=sbK s.p1.1 s.p2.1 s.p2.2 by rw[hs];exact⟨rfl,rfl,rfl,rfl,rfl,rfl,rfl,rfl⟩)
 have HDs:=hid (show D=((memI s a.dy c.dy r0.lo.dy r0.hi.dy r1.lo.dy r1.hi.dy).1,(memI s a.dy c.dy r0.lo.dy r0.hi.dy r1.lo.dy r1.hi.dy).2&&decide (s.det.1.m≠0)) by rw[HD.out,hs];rfl)
 clear hs HD
 go_upto_region 9 with fail
 go_cut [15,16] from 83 to 101 (fun s1 s2 wx=>∃ (h15 h16:Nat) (u v:RD),s1=.pointer (some ⟨h15,0,none⟩)∧s2=.pointer (some ⟨h16,0,none⟩)∧u.dy=s.u.1∧v.dy=s.v.1∧MemS w wx s.v.2 (.slice (some ⟨cb,co,none⟩) 2 cc) (.slice (some ⟨mb,mo,none⟩) ms.length ac) (.slice (some ⟨rb,ro,none⟩) rs.length rrc) [(h15,u),(h16,v),(g1,a),(g2,b),(g3,c),(g4,d)] [v,u])
 case first =>
  have p9 {V:World} {k:Bool} {L:List (Nat×RD)} {K:List RD} (h:MemS w V k (.slice (some ⟨cb,co,none⟩) 2 cc) (.slice (some ⟨mb,mo,none⟩) ms.length ac) (.slice (some ⟨rb,ro,none⟩) rs.length rrc) L K):=And.intro h.m.f.1 (have g:=HS.out _ h.m.k;And.intro g.2.2.2.2.2.2.2.1 (And.intro g.2.2.2.2.2.2.2.2.1 (And.intro g.1 g.2.1)))
  have kd:=(Kp.refl V0).drew
  have HMd:=hid (HST.out.kp kd)
  have hSd:=p9 HMd.out
  have hsz:w.heap.size+1+1<V0.heap.size:=World.block_lt_of_cell? _ _ HST.out.m.m
  have hlb:∀ p∈([(g1,a),(g2,b),(g3,c),(g4,d)]:List (Nat×RD)),p.1<V0.heap.size:=fun p hp=>(HST.out.l p hp).lt
  refine wp_region_held_drew (S:=fun w'=>(w'.cell? ⟨w.heap.size,0,none⟩=some (.slice (some ⟨cb,co,none⟩) 2 cc))∧(w'.cell? ⟨yb,yo,none⟩=some (.bool y0.neg)∧w'.cell? ⟨yb,yo+1,none⟩=some (.slice y0.a y0.xs.length y0.c)∧w'.cell? ⟨yb,yo+2,none⟩=some (.int .i64 y0.e))∧(w'.cell? ⟨yb,(yo+3),none⟩=some (.bool y1.neg)∧w'.cell? ⟨yb,(yo+3)+1,none⟩=some (.slice y1.a y1.xs.length y1.c)∧w'.cell? ⟨yb,(yo+3)+2,none⟩=some (.int .i64 y1.e))∧(w'.cell? ⟨cb,co,none⟩=some (.bool c0.neg)∧w'.cell? ⟨cb,co+1,none⟩=some (.slice c0.a c0.xs.length c0.c)∧w'.cell? ⟨cb,co+2,none⟩=some (.int .i64 c0.e))∧(w'.cell? ⟨cb,(co+3),none⟩=some (.bool c1.neg)∧w'.cell? ⟨cb,(co+3)+1,none⟩=some (.slice c1.a c1.xs.length c1.c)∧w'.cell? ⟨cb,(co+3)+2,none⟩=some (.int .i64 c1.e))) (by kernel_rfl) hSd (fun hHeld=>?_)
  clear hSd
  refine tk 0 ?_;refine tk 1 ?_;refine tk 2 ?_;refine tk 3 ?_;refine tk 4 ?_;refine tk 5 ?_;refine tk 6 ?_;refine tk 7 ?_;(try simp only[Act.put,List.getElem_toArray,List.getElem_cons_zero,List.getElem_cons_succ,List.setIfInBounds_toArray,List.set_cons_zero,List.set_cons_succ])
  refine tk 9 ?_;refine tk 10 ?_;refine tk 11 ?_;refine tk 12 ?_;refine tk 13 ?_;refine tk 14 ?_;refine tk 15 ?_;refine tk 16 ?_;(try simp only[Act.put,List.getElem_toArray,List.getElem_cons_zero,List.getElem_cons_succ,List.setIfInBounds_toArray,List.set_cons_zero,List.set_cons_succ])
  clear hHeld
  refine wpAnyH_boxes (b:=⟨2,fun k=>[18,19].getD k 0,fun k=>[15,16].getD k 0,fun k=>[20,21].getD k 0,fun k=>[91,100].getD k 0,2,fun k=>[8,17].getD k 0,fun k=>[91,100].getD k 0⟩)
   (o:=.cells #[.bool false,.slice none 0 0,.int .i64 0] 38) (z0:=.bool false) (z1:=.slice none 0 0) (z2:=.int .i64 0) (base:=V0.heap.size)
   (R:=fun (k:Nat) (X:Nat→Value) (V:World)=>match k with
   | 0=>MemS w V true (.slice (some ⟨cb,co,none⟩) 2 cc) (.slice (some ⟨mb,mo,none⟩) ms.length ac) (.slice (some ⟨rb,ro,none⟩) rs.length rrc) [(g1,a),(g2,b),(g3,c),(g4,d)] []
   | 1=>∃ u:RD,X 91=(.agg #[.bool u.neg,.slice u.a u.xs.length u.c,.int .i64 u.e]:Value)∧u.dy=s.u.1∧MemS w V s.u.2 (.slice (some ⟨cb,co,none⟩) 2 cc) (.slice (some ⟨mb,mo,none⟩) ms.length ac) (.slice (some ⟨rb,ro,none⟩) rs.length rrc) [(g1,a),(g2,b),(g3,c),(g4,d)] [u]
   | _=>∃ u v:RD,X 91=(.agg #[.bool u.neg,.slice u.a u.xs.length u.c,.int .i64 u.e]:Value)∧u.dy=s.u.1∧ X 100=(.agg #[.bool v.neg,.slice v.a v.xs.length v.c,.int .i64 v.e]:Value)∧v.dy=s.v.1∧MemS w V s.v.2 (.slice (some ⟨cb,co,none⟩) 2 cc) (.slice (some ⟨mb,mo,none⟩) ms.length ac) (.slice (some ⟨rb,ro,none⟩) rs.length rrc) [(g1,a),(g2,b),(g3,c),(g4,d)] [v,u])
   (by kernel_rfl) (by kernel_rfl) (by kernel_rfl) (Nat.le_refl _) (fun V=>Box3.new V _ _ _ _) ?_ ?_ ?_ ?_ HMd.out ?_ ?_ ?_ ?_
  ·intro k X V h
   match k,h with
   | 0,hm=>exact p9 hm
   | 1,⟨u,q91,e91,hm⟩=>exact p9 hm
   | k+2,⟨u,v,q91,e91,q100,e100,hm⟩=>exact p9 hm
  ·intro k X V h
   match k,h with
   | 0,hm=>exact hm.kp ((Kp.refl V).alloc _)
   | 1,⟨u,q91,e91,hm⟩=>exact⟨u,q91,e91,hm.kp ((Kp.refl V).alloc _)⟩
   | k+2,⟨u,v,q91,e91,q100,e100,hm⟩=>exact⟨u,v,q91,e91,q100,e100,hm.kp ((Kp.refl V).alloc _)⟩
  ·intro k X V V' g h hg hU
   have hg2:w.heap.size+1+1<g:=by omega
   have hg3:∀ p∈([(g1,a),(g2,b),(g3,c),(g4,d)]:List (Nat×RD)),p.1<g:=fun p hp=>by have:=hlb p hp;omega
   match k,h with
   | 0,hm=>exact hm.upd hU hg2 hg3
   | 1,⟨u,q91,e91,hm⟩=>exact⟨u,q91,e91,hm.upd hU hg2 hg3⟩
   | k+2,⟨u,v,q91,e91,q100,e100,hm⟩=>exact⟨u,v,q91,e91,q100,e100,hm.upd hU hg2 hg3⟩
  ·intro k X X' V h hx
   match k,h with
   | 0,hm=>exact hm
   | 1,⟨u,q91,e91,hm⟩=>exact⟨u,(hx 0 (by omega)).trans q91,e91,hm⟩
   | k+2,⟨u,v,q91,e91,q100,e100,hm⟩=>exact⟨u,v,(hx 0 (by omega)).trans q91,e91,(hx 1 (by omega)).trans q100,e100,hm⟩
  ·intro k hk
   have hk':k=0∨k=1:=by have:k<2:=hk;omega
   rcases hk' with rfl | rfl
   ·change AlcAt _ _ _ _ 18 15
    intro K A V hK
    refine wpOp_step rfl (fun K' hK'=>?_)
    go_simp
    exact hK' _ _ hK
   change AlcAt _ _ _ _ 19 16
   intro K A V hK
   refine wpOp_step rfl (fun K' hK'=>?_)
   go_simp
   exact hK' _ _ hK
  ·intro k hk K A V X c g hd he hoff hc hR hB hK
   have hk':k=0∨k=1:=by have:k<2:=hk;omega
   rcases hk' with rfl | rfl
   rotate_left
   ·change wpOp _ _ _ 21 _ _ _
    change A.tmps.getD 16 undef=.pointer (some ⟨g,0,none⟩) at hd
    change A.tmps.getD 100 undef=X 100 at he
    have hc1:1<c:=hc 1 (by show 1<2;decide) rfl
    obtain⟨x,hX⟩:∃ x:RD,X 100=(.agg #[.bool x.neg,.slice x.a x.xs.length x.c,.int .i64 x.e]:Value):=by
     match c,hc1,hR with
     | k+2,_,⟨u,v,q91,e91,q100,e100,hm⟩=>exact⟨v,q100⟩
    rw[hX] at he
    obtain⟨p0,p1,p2,p3,p4,p5⟩:=id hB
    clear hR hoff hc
    refine wpOp_step rfl (fun K' hK'=>?_)
    go_simp
    generalize hW8:(((World.setCell V _ _).setCell _ _).setCell _ _)=W8
    obtain⟨hB8,hU8⟩:=BoxD.store (x:=rdZero) hB x hW8
    exact hK' _ _ (hK _ _ _ _ hX hB8 hU8)
   change wpOp _ _ _ 20 _ _ _
   change A.tmps.getD 15 undef=.pointer (some ⟨g,0,none⟩) at hd
   change A.tmps.getD 91 undef=X 91 at he
   have hc0:0<c:=hc 0 (by show 0<2;decide) rfl
   obtain⟨x,hX⟩:∃ x:RD,X 91=(.agg #[.bool x.neg,.slice x.a x.xs.length x.c,.int .i64 x.e]:Value):=by
    match c,hc0,hR with
    | 1,_,⟨u,q91,e91,hm⟩=>exact⟨u,q91⟩
    | k+2,_,⟨u,v,q91,e91,q100,e100,hm⟩=>exact⟨u,q91⟩
   rw[hX] at he
   obtain⟨p0,p1,p2,p3,p4,p5⟩:=id hB
   clear hR hoff hc
   refine wpOp_step rfl (fun K' hK'=>?_)
   go_simp
   generalize hW8:(((World.setCell V _ _).setCell _ _).setCell _ _)=W8
   obtain⟨hB8,hU8⟩:=BoxD.store (x:=rdZero) hB x hW8
   exact hK' _ _ (hK _ _ _ _ hX hB8 hU8)
  ·intro k hk K A V X hoff hprev hR hlow hK
   have hk':k=0∨k=1:=by have:k<2:=hk;omega
   rcases hk' with rfl | rfl
   ·change wpOp _ _ _ 8 _ _ _
    have hm:MemS w V true (.slice (some ⟨cb,co,none⟩) 2 cc) (.slice (some ⟨mb,mo,none⟩) ms.length ac) (.slice (some ⟨rb,ro,none⟩) rs.length rrc) [(g1,a),(g2,b),(g3,c),(g4,d)] []:=hR
    have tf:A.tmps.getD 83 undef=.func (.func 63) #[] #[.pointer (some ⟨w.heap.size+1,0,none⟩)]:=(hoff 83 (by decide)).trans (by kernel_rfl)
    have ta0:A.tmps.getD 86 undef=.agg #[.bool y0.neg,.slice y0.a y0.xs.length y0.c,.int .i64 y0.e]:=(hoff 86 (by decide)).trans (by kernel_rfl)
    have ta1:A.tmps.getD 90 undef=.agg #[.bool c0.neg,.slice c0.a c0.xs.length c0.c,.int .i64 c0.e]:=(hoff 90 (by decide)).trans (by kernel_rfl)
    have HM0:=hid hm
    have HK0:=hid hK
    have HC:=hid (msub1_any (w.heap.size+1) true y0 c0 V (HOc.out.2.1.kp hm.m.k) (HOc.out.1.1.kp hm.m.k) hm.m.o (hm.tab HT.out))
    clear hm hK hoff hprev
    refine wpOp_step rfl (fun K' hK'=>?_)
    go_simp
    go_fit HC.out
    rintro e v1 ⟨u,rfl,o1,d1,rg1,ch1⟩
    have hb1 (g:Nat) (y0 y1 y2:Value) (hg:V0.heap.size≤g) (h:Box3 V g y0 y1 y2):Box3 v1 g y0 y1 y2:=box_chg h ch1 (by show ¬ g=w.heap.size+1;omega)
    have r1:OkB v1 (w.heap.size+1) s.u.2:=by rw[HE.out.1];exact rg1
    have e91:u.dy=s.u.1:=by rw[HE.out.1];exact d1
    exact hK' _ _ (HK0.out _ _ ⟨u,(updX_same _ _ _),e91,(HM0.out.chg ch1 r1).addK o1⟩ ch1.size hb1)
   change wpOp _ _ _ 17 _ _ _
   obtain⟨u,q91,e91,hm⟩:=hR
   have tf:A.tmps.getD 92 undef=.func (.func 63) #[] #[.pointer (some ⟨w.heap.size+1,0,none⟩)]:=(hoff 92 (by decide)).trans (by kernel_rfl)
   have ta0:A.tmps.getD 95 undef=.agg #[.bool y1.neg,.slice y1.a y1.xs.length y1.c,.int .i64 y1.e]:=(hoff 95 (by decide)).trans (by kernel_rfl)
   have ta1:A.tmps.getD 99 undef=.agg #[.bool c1.neg,.slice c1.a c1.xs.length c1.c,.int .i64 c1.e]:=(hoff 99 (by decide)).trans (by kernel_rfl)
   have HM0:=hid hm
   have HK0:=hid hK
   have HC:=hid (msub1_any (w.heap.size+1) s.u.2 y1 c1 V (HOc.out.2.2.kp hm.m.k) (HOc.out.1.2.kp hm.m.k) hm.m.o (hm.tab HT.out))
   clear hm hK hoff hprev
   refine wpOp_step rfl (fun K' hK'=>?_)
   go_simp
   go_fit HC.out
   rintro e v1 ⟨v,rfl,o1,d1,rg1,ch1⟩
   have hb1 (g:Nat) (y0 y1 y2:Value) (hg:V0.heap.size≤g) (h:Box3 V g y0 y1 y2):Box3 v1 g y0 y1 y2:=box_chg h ch1 (by show ¬ g=w.heap.size+1;omega)
   have r1:OkB v1 (w.heap.size+1) s.v.2:=by rw[HE.out.2.1];exact rg1
   have e100:v.dy=s.v.1:=by rw[HE.out.2.1];exact d1
   exact hK' _ _ (HK0.out _ _ ⟨u,v,((updX_ne X _ (by decide)).trans q91),e91,(updX_same _ _ _),e100,(HM0.out.chg ch1 r1).addK o1⟩ ch1.size hb1)
  intro X V hR hoff hlow hboxes
  obtain⟨u,v,q91,e91,q100,e100,hm⟩:=hR
  have HMV:=hid hm
  clear hm
  obtain⟨h15,hd,hl1,hb⟩:∃ g,X 15=.pointer (some ⟨g,0,none⟩)∧V0.heap.size≤g∧BoxD V g u:=by
   obtain⟨g,y0,y1,y2,h1,h2,h3,h4⟩:=hboxes 0 (by show 0<2;decide)
   have h3':X 91=.agg #[y0,y1,y2]:=h3
   rw[q91] at h3'
   injection h3' with h3'
   injection h3' with h3'
   simp only[List.cons.injEq,and_true] at h3'
   obtain⟨rfl,rfl,rfl⟩:=h3'
   exact⟨g,h1,h2,h4⟩
  have HD1:=hid hd
  have HB1:=hid (And.intro hb hl1)
  clear hd hb hl1
  obtain⟨h16,hd,hl2,hb⟩:∃ g,X 16=.pointer (some ⟨g,0,none⟩)∧V0.heap.size≤g∧BoxD V g v:=by
   obtain⟨g,y0,y1,y2,h1,h2,h3,h4⟩:=hboxes 1 (by show 1<2;decide)
   have h3':X 100=.agg #[y0,y1,y2]:=h3
   rw[q100] at h3'
   injection h3' with h3'
   injection h3' with h3'
   simp only[List.cons.injEq,and_true] at h3'
   obtain⟨rfl,rfl,rfl⟩:=h3'
   exact⟨g,h1,h2,h4⟩
  have HD2:=hid hd
  have HB2:=hid (And.intro hb hl2)
  clear hd hb hl2
  have HQ91:=hid (And.intro q91 e91)
  clear q91 e91
  have HQ100:=hid (And.intro q100 e100)
  clear q100 e100
  clear hoff hlow hboxes
  simp only[Bxs.L,putX,List.range,List.range.loop,List.map_cons,List.map_nil,List.nil_append,List.cons_append,List.getD_cons_zero,List.getD_cons_succ]
  rw[HD1.out,HD2.out,HQ91.out.1,HQ100.out.1]
  simp only[Act.put,List.setIfInBounds_toArray,List.set_cons_zero,List.set_cons_succ]
  go_wp2_with fail
  go_meet
  case rel =>
  have mx (g:Nat) (x:RD) (h:BoxD V g x∧V0.heap.size≤g):MemX w V g x:=⟨⟨h.1.1,h.1.2.1,h.1.2.2.1⟩,by have:=h.2;omega⟩
  exact⟨h15,h16,u,v,rfl,rfl,HQ91.out.2,HQ100.out.2,(HMV.out.addL (mx _ _ HB2.out)).addL (mx _ _ HB1.out)⟩
 case rest =>
 obtain⟨h15,h16,u,v,rfl,rfl,eu,ev,hm⟩:=hcut
 obtain⟨V1,hV⟩:∃ X:World,X=wc:=⟨_,rfl⟩
 subst hV
 have HST:=hid hm
 have HUV:=hid (And.intro eu ev)
 clear hm eu ev
 go_upto_region 10 with fail
 go_cut [17] from 101 to 111 (fun s1 wx=>∃ (h17:Nat) (x3:RD),s1=.pointer (some ⟨h17,0,none⟩)∧x3.dy=s.det.1∧MemS w wx s.det.2 (.slice (some ⟨cb,co,none⟩) 2 cc) (.slice (some ⟨mb,mo,none⟩) ms.length ac) (.slice (some ⟨rb,ro,none⟩) rs.length rrc) [(h17,x3),(h15,u),(h16,v),(g1,a),(g2,b),(g3,c),(g4,d)] [x3,v,u])
 case first =>
  have kd:=(Kp.refl V1).drew
  have HMd:=hid (HST.out.kp kd)
  have hSd:(fun w':World=>(w'.cell? ⟨w.heap.size+1+1,0,none⟩=some (.func (.func 62) #[] #[.pointer (some ⟨w.heap.size+1,0,none⟩)]))∧(w'.cell? ⟨g1,0,none⟩=some (.bool a.neg)∧w'.cell? ⟨g1,1,none⟩=some (.slice a.a a.xs.length a.c)∧w'.cell? ⟨g1,2,none⟩=some (.int .i64 a.e))∧(w'.cell? ⟨g4,0,none⟩=some (.bool d.neg)∧w'.cell? ⟨g4,1,none⟩=some (.slice d.a d.xs.length d.c)∧w'.cell? ⟨g4,2,none⟩=some (.int .i64 d.e))∧(w'.cell? ⟨g2,0,none⟩=some (.bool b.neg)∧w'.cell? ⟨g2,1,none⟩=some (.slice b.a b.xs.length b.c)∧w'.cell? ⟨g2,2,none⟩=some (.int .i64 b.e))∧(w'.cell? ⟨g3,0,none⟩=some (.bool c.neg)∧w'.cell? ⟨g3,1,none⟩=some (.slice c.a c.xs.length c.c)∧w'.cell? ⟨g3,2,none⟩=some (.int .i64 c.e))) V1.drew:=⟨HMd.out.m.m,(HMd.out.l (g1,a) (by simp)).cl,(HMd.out.l (g4,d) (by simp)).cl,(HMd.out.l (g2,b) (by simp)).cl,(HMd.out.l (g3,c) (by simp)).cl⟩
  have hsz:w.heap.size+1+1<V1.heap.size:=World.block_lt_of_cell? _ _ HST.out.m.m
  have hlb:∀ p∈([(h15,u),(h16,v),(g1,a),(g2,b),(g3,c),(g4,d)]:List (Nat×RD)),p.1<V1.heap.size:=fun p hp=>(HST.out.l p hp).lt
  refine wp_region_held_drew (S:=fun w'=>(w'.cell? ⟨w.heap.size+1+1,0,none⟩=some (.func (.func 62) #[] #[.pointer (some ⟨w.heap.size+1,0,none⟩)]))∧(w'.cell? ⟨g1,0,none⟩=some (.bool a.neg)∧w'.cell? ⟨g1,1,none⟩=some (.slice a.a a.xs.length a.c)∧w'.cell? ⟨g1,2,none⟩=some (.int .i64 a.e))∧(w'.cell? ⟨g4,0,none⟩=some (.bool d.neg)∧w'.cell? ⟨g4,1,none⟩=some (.slice d.a d.xs.length d.c)∧w'.cell? ⟨g4,2,none⟩=some (.int .i64 d.e))∧(w'.cell? ⟨g2,0,none⟩=some (.bool b.neg)∧w'.cell? ⟨g2,1,none⟩=some (.slice b.a b.xs.length b.c)∧w'.cell? ⟨g2,2,none⟩=some (.int .i64 b.e))∧(w'.cell? ⟨g3,0,none⟩=some (.bool c.neg)∧w'.cell? ⟨g3,1,none⟩=some (.slice c.a c.xs.length c.c)∧w'.cell? ⟨g3,2,none⟩=some (.int .i64 c.e))) (by kernel_rfl) hSd (fun hHeld=>?_)
  clear hSd
  refine tk 0 ?_;refine tk 1 ?_;refine tk 2 ?_;refine tk 3 ?_;refine tk 5 ?_;refine tk 6 ?_;refine tk 7 ?_;(try simp only[Act.put,List.getElem_toArray,List.getElem_cons_zero,List.getElem_cons_succ,List.setIfInBounds_toArray,List.set_cons_zero,List.set_cons_succ])
  clear hHeld
  refine wpAnyH_boxes (b:=⟨1,fun k=>[10].getD k 0,fun k=>[17].getD k 0,fun k=>[11].getD k 0,fun k=>[110].getD k 0,3,fun k=>[4,8,9].getD k 0,fun k=>[105,109,110].getD k 0⟩)
   (o:=.cells #[.bool false,.slice none 0 0,.int .i64 0] 38) (z0:=.bool false) (z1:=.slice none 0 0) (z2:=.int .i64 0) (base:=V1.heap.size)
   (R:=fun (k:Nat) (X:Nat→Value) (V:World)=>match k with
   | 0=>MemS w V s.v.2 (.slice (some ⟨cb,co,none⟩) 2 cc) (.slice (some ⟨mb,mo,none⟩) ms.length ac) (.slice (some ⟨rb,ro,none⟩) rs.length rrc) [(h15,u),(h16,v),(g1,a),(g2,b),(g3,c),(g4,d)] [v,u]
   | 1=>∃ x1:RD,X 105=(.agg #[.bool x1.neg,.slice x1.a x1.xs.length x1.c,.int .i64 x1.e]:Value)∧x1.dy=s.m1.1∧MemS w V s.m1.2 (.slice (some ⟨cb,co,none⟩) 2 cc) (.slice (some ⟨mb,mo,none⟩) ms.length ac) (.slice (some ⟨rb,ro,none⟩) rs.length rrc) [(h15,u),(h16,v),(g1,a),(g2,b),(g3,c),(g4,d)] [x1,v,u]
   | 2=>∃ x1 x2:RD,X 105=(.agg #[.bool x1.neg,.slice x1.a x1.xs.length x1.c,.int .i64 x1.e]:Value)∧x1.dy=s.m1.1∧ X 109=(.agg #[.bool x2.neg,.slice x2.a x2.xs.length x2.c,.int .i64 x2.e]:Value)∧x2.dy=s.m2.1∧MemS w V s.m2.2 (.slice (some ⟨cb,co,none⟩) 2 cc) (.slice (some ⟨mb,mo,none⟩) ms.length ac) (.slice (some ⟨rb,ro,none⟩) rs.length rrc) [(h15,u),(h16,v),(g1,a),(g2,b),(g3,c),(g4,d)] [x2,x1,v,u]
   | _=>∃ x1 x2 x3:RD,X 105=(.agg #[.bool x1.neg,.slice x1.a x1.xs.length x1.c,.int .i64 x1.e]:Value)∧x1.dy=s.m1.1∧ X 109=(.agg #[.bool x2.neg,.slice x2.a x2.xs.length x2.c,.int .i64 x2.e]:Value)∧x2.dy=s.m2.1∧ X 110=(.agg #[.bool x3.neg,.slice x3.a x3.xs.length x3.c,.int .i64 x3.e]:Value)∧x3.dy=s.det.1∧MemS w V s.det.2 (.slice (some ⟨cb,co,none⟩) 2 cc) (.slice (some ⟨mb,mo,none⟩) ms.length ac) (.slice (some ⟨rb,ro,none⟩) rs.length rrc) [(h15,u),(h16,v),(g1,a),(g2,b),(g3,c),(g4,d)] [x3,x2,x1,v,u])
   (by kernel_rfl) (by kernel_rfl) (by kernel_rfl) (Nat.le_refl _) (fun V=>Box3.new V _ _ _ _) ?_ ?_ ?_ ?_ HMd.out ?_ ?_ ?_ ?_
  ·intro k X V h
   match k,h with
   | 0,hm=>exact⟨hm.m.m,(hm.l (g1,a) (by simp)).cl,(hm.l (g4,d) (by simp)).cl,(hm.l (g2,b) (by simp)).cl,(hm.l (g3,c) (by simp)).cl⟩
   | 1,⟨x1,q105,e105,hm⟩=>exact⟨hm.m.m,(hm.l (g1,a) (by simp)).cl,(hm.l (g4,d) (by simp)).cl,(hm.l (g2,b) (by simp)).cl,(hm.l (g3,c) (by simp)).cl⟩
   | 2,⟨x1,x2,q105,e105,q109,e109,hm⟩=>exact⟨hm.m.m,(hm.l (g1,a) (by simp)).cl,(hm.l (g4,d) (by simp)).cl,(hm.l (g2,b) (by simp)).cl,(hm.l (g3,c) (by simp)).cl⟩
   | k+3,⟨x1,x2,x3,q105,e105,q109,e109,q110,e110,hm⟩=>exact⟨hm.m.m,(hm.l (g1,a) (by simp)).cl,(hm.l (g4,d) (by simp)).cl,(hm.l (g2,b) (by simp)).cl,(hm.l (g3,c) (by simp)).cl⟩
  ·intro k X V h
   match k,h with
   | 0,hm=>exact hm.kp ((Kp.refl V).alloc _)
   | 1,⟨x1,q105,e105,hm⟩=>exact⟨x1,q105,e105,hm.kp ((Kp.refl V).alloc _)⟩
   | 2,⟨x1,x2,q105,e105,q109,e109,hm⟩=>exact⟨x1,x2,q105,e105,q109,e109,hm.kp ((Kp.refl V).alloc _)⟩
   | k+3,⟨x1,x2,x3,q105,e105,q109,e109,q110,e110,hm⟩=>exact⟨x1,x2,x3,q105,e105,q109,e109,q110,e110,hm.kp ((Kp.refl V).alloc _)⟩
  ·intro k X V V' g h hg hU
   have hg2:w.heap.size+1+1<g:=by omega
   have hg3:∀ p∈([(h15,u),(h16,v),(g1,a),(g2,b),(g3,c),(g4,d)]:List (Nat×RD)),p.1<g:=fun p hp=>by have:=hlb p hp;omega
   match k,h with
   | 0,hm=>exact hm.upd hU hg2 hg3
   | 1,⟨x1,q105,e105,hm⟩=>exact⟨x1,q105,e105,hm.upd hU hg2 hg3⟩
   | 2,⟨x1,x2,q105,e105,q109,e109,hm⟩=>exact⟨x1,x2,q105,e105,q109,e109,hm.upd hU hg2 hg3⟩
   | k+3,⟨x1,x2,x3,q105,e105,q109,e109,q110,e110,hm⟩=>exact⟨x1,x2,x3,q105,e105,q109,e109,q110,e110,hm.upd hU hg2 hg3⟩
  ·intro k X X' V h hx
   match k,h with
   | 0,hm=>exact hm
   | 1,⟨x1,q105,e105,hm⟩=>exact⟨x1,(hx 0 (by omega)).trans q105,e105,hm⟩
   | 2,⟨x1,x2,q105,e105,q109,e109,hm⟩=>exact⟨x1,x2,(hx 0 (by omega)).trans q105,e105,(hx 1 (by omega)).trans q109,e109,hm⟩
   | k+3,⟨x1,x2,x3,q105,e105,q109,e109,q110,e110,hm⟩=>exact⟨x1,x2,x3,(hx 0 (by omega)).trans q105,e105,(hx 1 (by omega)).trans q109,e109,(hx 2 (by omega)).trans q110,e110,hm⟩
  ·intro k hk
   obtain rfl:k=0:=by have:k<1:=hk;omega
   change AlcAt _ _ _ _ 10 17
   intro K A V hK
   refine wpOp_step rfl (fun K' hK'=>?_)
   go_simp
   exact hK' _ _ hK
  ·intro k hk K A V X c g hd he hoff hc hR hB hK
   obtain rfl:k=0:=by have:k<1:=hk;omega
   change wpOp _ _ _ 11 _ _ _
   change A.tmps.getD 17 undef=.pointer (some ⟨g,0,none⟩) at hd
   change A.tmps.getD 110 undef=X 110 at he
   have hc0:2<c:=hc 2 (by show 2<3;decide) rfl
   obtain⟨x,hX⟩:∃ x:RD,X 110=(.agg #[.bool x.neg,.slice x.a x.xs.length x.c,.int .i64 x.e]:Value):=by
    match c,hc0,hR with
    | k+3,_,⟨x1,x2,x3,q105,e105,q109,e109,q110,e110,hm⟩=>exact⟨x3,q110⟩
   rw[hX] at he
   obtain⟨p0,p1,p2,p3,p4,p5⟩:=id hB
   clear hR hoff hc
   refine wpOp_step rfl (fun K' hK'=>?_)
   go_simp
   generalize hW8:(((World.setCell V _ _).setCell _ _).setCell _ _)=W8
   obtain⟨hB8,hU8⟩:=BoxD.store (x:=rdZero) hB x hW8
   exact hK' _ _ (hK _ _ _ _ hX hB8 hU8)
  ·intro k hk K A V X hoff hprev hR hlow hK
   have hk':k=0∨k=1∨k=2:=by have:k<3:=hk;omega
   rcases hk' with rfl | rfl | rfl
   ·change wpOp _ _ _ 4 _ _ _
    have hm:MemS w V s.v.2 (.slice (some ⟨cb,co,none⟩) 2 cc) (.slice (some ⟨mb,mo,none⟩) ms.length ac) (.slice (some ⟨rb,ro,none⟩) rs.length rrc) [(h15,u),(h16,v),(g1,a),(g2,b),(g3,c),(g4,d)] [v,u]:=hR
    have tf:A.tmps.getD 102 undef=.func (.func 62) #[] #[.pointer (some ⟨w.heap.size+1,0,none⟩)]:=(hoff 102 (by decide)).trans (by kernel_rfl)
    have ta0:A.tmps.getD 103 undef=.agg #[.bool a.neg,.slice a.a a.xs.length a.c,.int .i64 a.e]:=(hoff 103 (by decide)).trans (by kernel_rfl)
    have ta1:A.tmps.getD 104 undef=.agg #[.bool d.neg,.slice d.a d.xs.length d.c,.int .i64 d.e]:=(hoff 104 (by decide)).trans (by kernel_rfl)
    have HM0:=hid hm
    have HK0:=hid hK
    have HC:=hid (mmul1_any (w.heap.size+1) s.v.2 a d V (HOa.out.1.1.kp hm.m.k) (HOa.out.2.2.kp hm.m.k) hm.m.o (hm.tab HT.out))
    clear hm hK hoff hprev
    refine wpOp_step rfl (fun K' hK'=>?_)
    go_simp
    go_fit HC.out
    rintro e v1 ⟨x1,rfl,o1,d1,rg1,ch1⟩
    have hb1 (g:Nat) (y0 y1 y2:Value) (hg:V1.heap.size≤g) (h:Box3 V g y0 y1 y2):Box3 v1 g y0 y1 y2:=box_chg h ch1 (by show ¬ g=w.heap.size+1;omega)
    have r1:OkB v1 (w.heap.size+1) s.m1.2:=by rw[HE.out.2.2.1];exact rg1
    have e105:x1.dy=s.m1.1:=by rw[HE.out.2.2.1];exact d1
    exact hK' _ _ (HK0.out _ _ ⟨x1,(updX_same _ _ _),e105,(HM0.out.chg ch1 r1).addK o1⟩ ch1.size hb1)
   ·change wpOp _ _ _ 8 _ _ _
    obtain⟨x1,q105,e105,hm⟩:=hR
    have tf:A.tmps.getD 106 undef=.func (.func 62) #[] #[.pointer (some ⟨w.heap.size+1,0,none⟩)]:=(hoff 106 (by decide)).trans (by kernel_rfl)
    have ta0:A.tmps.getD 107 undef=.agg #[.bool b.neg,.slice b.a b.xs.length b.c,.int .i64 b.e]:=(hoff 107 (by decide)).trans (by kernel_rfl)
    have ta1:A.tmps.getD 108 undef=.agg #[.bool c.neg,.slice c.a c.xs.length c.c,.int .i64 c.e]:=(hoff 108 (by decide)).trans (by kernel_rfl)
    have HM0:=hid hm
    have HK0:=hid hK
    have HC:=hid (mmul1_any (w.heap.size+1) s.m1.2 b c V (HOa.out.1.2.kp hm.m.k) (HOa.out.2.1.kp hm.m.k) hm.m.o (hm.tab HT.out))
    clear hm hK hoff hprev
    refine wpOp_step rfl (fun K' hK'=>?_)
    go_simp
    go_fit HC.out
    rintro e v1 ⟨x2,rfl,o1,d1,rg1,ch1⟩
    have hb1 (g:Nat) (y0 y1 y2:Value) (hg:V1.heap.size≤g) (h:Box3 V g y0 y1 y2):Box3 v1 g y0 y1 y2:=box_chg h ch1 (by show ¬ g=w.heap.size+1;omega)
    have r1:OkB v1 (w.heap.size+1) s.m2.2:=by rw[HE.out.2.2.2.1];exact rg1
    have e109:x2.dy=s.m2.1:=by rw[HE.out.2.2.2.1];exact d1
    exact hK' _ _ (HK0.out _ _ ⟨x1,x2,((updX_ne X _ (by decide)).trans q105),e105,(updX_same _ _ _),e109,(HM0.out.chg ch1 r1).addK o1⟩ ch1.size hb1)
   change wpOp _ _ _ 9 _ _ _
   obtain⟨x1,x2,q105,e105,q109,e109,hm⟩:=hR
   have tf:A.tmps.getD 101 undef=.func (.func 63) #[] #[.pointer (some ⟨w.heap.size+1,0,none⟩)]:=(hoff 101 (by decide)).trans (by kernel_rfl)
   have ta0:A.tmps.getD 105 undef=.agg #[.bool x1.neg,.slice x1.a x1.xs.length x1.c,.int .i64 x1.e]:=(hprev 0 (by decide)).trans q105
   have ta1:A.tmps.getD 109 undef=.agg #[.bool x2.neg,.slice x2.a x2.xs.length x2.c,.int .i64 x2.e]:=(hprev 1 (by decide)).trans q109
   have HM0:=hid hm
   have HK0:=hid hK
   have HC:=hid (msub1_any (w.heap.size+1) s.m2.2 x1 x2 V (hm.o _ (.tail _ (.head _))) (hm.o _ (.head _)) hm.m.o (hm.tab HT.out))
   clear hm hK hoff hprev
   refine wpOp_step rfl (fun K' hK'=>?_)
   go_simp
   go_fit HC.out
   rintro e v1 ⟨x3,rfl,o1,d1,rg1,ch1⟩
   have hb1 (g:Nat) (y0 y1 y2:Value) (hg:V1.heap.size≤g) (h:Box3 V g y0 y1 y2):Box3 v1 g y0 y1 y2:=box_chg h ch1 (by show ¬ g=w.heap.size+1;omega)
   have r1:OkB v1 (w.heap.size+1) s.det.2:=by rw[HE.out.2.2.2.2.1,← e105,← e109];exact rg1
   have e110:x3.dy=s.det.1:=by rw[HE.out.2.2.2.2.1,← e105,← e109];exact d1
   exact hK' _ _ (HK0.out _ _ ⟨x1,x2,x3,((updX_ne X _ (by decide)).trans q105),e105,((updX_ne X _ (by decide)).trans q109),e109,(updX_same _ _ _),e110,(HM0.out.chg ch1 r1).addK o1⟩ ch1.size hb1)
  intro X V hR hoff hlow hboxes
  obtain⟨x1,x2,x3,q105,e105,q109,e109,q110,e110,hm⟩:=hR
  have HMV:=hid hm
  clear hm
  obtain⟨h17,hd,hl1,hb⟩:∃ g,X 17=.pointer (some ⟨g,0,none⟩)∧V1.heap.size≤g∧BoxD V g x3:=by
   obtain⟨g,y0,y1,y2,h1,h2,h3,h4⟩:=hboxes 0 (by show 0<1;decide)
   have h3':X 110=.agg #[y0,y1,y2]:=h3
   rw[q110] at h3'
   injection h3' with h3'
   injection h3' with h3'
   simp only[List.cons.injEq,and_true] at h3'
   obtain⟨rfl,rfl,rfl⟩:=h3'
   exact⟨g,h1,h2,h4⟩
  have HD1:=hid hd
  have HB1:=hid (And.intro hb hl1)
  clear hd hb hl1
  have HQ105:=hid (And.intro q105 e105)
  clear q105 e105
  have HQ109:=hid (And.intro q109 e109)
  clear q109 e109
  have HQ110:=hid (And.intro q110 e110)
  clear q110 e110
  clear hoff hlow hboxes
  simp only[Bxs.L,putX,List.range,List.range.loop,List.map_cons,List.map_nil,List.nil_append,List.cons_append,List.getD_cons_zero,List.getD_cons_succ]
  rw[HD1.out,HQ105.out.1,HQ109.out.1,HQ110.out.1]
  simp only[Act.put,List.setIfInBounds_toArray,List.set_cons_zero,List.set_cons_succ]
  go_wp2_with fail
  go_meet
  case rel =>
  have mx (g:Nat) (x:RD) (h:BoxD V g x∧V1.heap.size≤g):MemX w V g x:=⟨⟨h.1.1,h.1.2.1,h.1.2.2.1⟩,by have:=h.2;omega⟩
  exact⟨h17,x3,rfl,HQ110.out.2,⟨HMV.out.m,((HMV.out.addL (mx _ _ HB1.out)).l),fun y hy=>HMV.out.o y (by
   simp only[List.mem_cons,List.not_mem_nil,or_false] at hy ⊢
   rcases hy with rfl | rfl | rfl <;> simp)⟩⟩
 case rest =>
 obtain⟨h17,x3,rfl,ex3,hm⟩:=hcut
 obtain⟨V2,hV⟩:∃ X:World,X=wc:=⟨_,rfl⟩
 subst hV
 have HST:=hid hm
 have HX3:=hid ex3
 clear hm ex3
 obtain⟨R,hR⟩:∃ R,R=memI s a.dy c.dy r0.lo.dy r0.hi.dy r1.lo.dy r1.hi.dy:=⟨_,rfl⟩
 have HR:=hid hR
 rw[← hR] at HDs
 clear hR
 go_upto_region 11 with fail
 go_cut [18] from 111 to 147 (fun s1 wx=>s1=.bool R.1∧MemS w wx R.2 (.slice (some ⟨cb,co,none⟩) 2 cc) (.slice (some ⟨mb,mo,none⟩) ms.length ac) (.slice (some ⟨rb,ro,none⟩) rs.length rrc) [(h17,x3),(h15,u),(h16,v),(g1,a),(g2,b),(g3,c),(g4,d)] [x3,v,u])
 case first =>
  have p11 {V:World} {k:Bool} {K:List RD} (h:MemS w V k (.slice (some ⟨cb,co,none⟩) 2 cc) (.slice (some ⟨mb,mo,none⟩) ms.length ac) (.slice (some ⟨rb,ro,none⟩) rs.length rrc) [(h17,x3),(h15,u),(h16,v),(g1,a),(g2,b),(g3,c),(g4,d)] K):=show V.cell? ⟨w.heap.size+1+1,0,none⟩=some (.func (.func 62) #[] #[.pointer (some ⟨w.heap.size+1,0,none⟩)])∧(V.cell? ⟨h17,0,none⟩=some (.bool x3.neg)∧V.cell? ⟨h17,1,none⟩=some (.slice x3.a x3.xs.length x3.c)∧V.cell? ⟨h17,2,none⟩=some (.int .i64 x3.e))∧(V.cell? ⟨h15,0,none⟩=some (.bool u.neg)∧V.cell? ⟨h15,1,none⟩=some (.slice u.a u.xs.length u.c)∧V.cell? ⟨h15,2,none⟩=some (.int .i64 u.e))∧(V.cell? ⟨h16,0,none⟩=some (.bool v.neg)∧V.cell? ⟨h16,1,none⟩=some (.slice v.a v.xs.length v.c)∧V.cell? ⟨h16,2,none⟩=some (.int .i64 v.e))∧(V.cell? ⟨g1,0,none⟩=some (.bool a.neg)∧V.cell? ⟨g1,1,none⟩=some (.slice a.a a.xs.length a.c)∧V.cell? ⟨g1,2,none⟩=some (.int .i64 a.e))∧(V.cell? ⟨g2,0,none⟩=some (.bool b.neg)∧V.cell? ⟨g2,1,none⟩=some (.slice b.a b.xs.length b.c)∧V.cell? ⟨g2,2,none⟩=some (.int .i64 b.e))∧(V.cell? ⟨g3,0,none⟩=some (.bool c.neg)∧V.cell? ⟨g3,1,none⟩=some (.slice c.a c.xs.length c.c)∧V.cell? ⟨g3,2,none⟩=some (.int .i64 c.e))∧(V.cell? ⟨g4,0,none⟩=some (.bool d.neg)∧V.cell? ⟨g4,1,none⟩=some (.slice d.a d.xs.length d.c)∧V.cell? ⟨g4,2,none⟩=some (.int .i64 d.e))∧(V.cell? ⟨w.heap.size,0,none⟩=some (.slice (some ⟨cb,co,none⟩) 2 cc)∧V.cell? ⟨w.heap.size,1,none⟩=some (.slice (some ⟨mb,mo,none⟩) ms.length ac)∧V.cell? ⟨w.heap.size,2,none⟩=some (.slice (some ⟨rb,ro,none⟩) rs.length rrc))∧(V.cell? ⟨rb,ro,none⟩=some (.bool r0.lo.neg)∧V.cell? ⟨rb,ro+1,none⟩=some (.slice r0.lo.a r0.lo.xs.length r0.lo.c)∧V.cell? ⟨rb,ro+2,none⟩=some (.int .i64 r0.lo.e)∧V.cell? ⟨rb,ro+3,none⟩=some (.bool r0.hi.neg)∧V.cell? ⟨rb,ro+4,none⟩=some (.slice r0.hi.a r0.hi.xs.length r0.hi.c)∧V.cell? ⟨rb,ro+5,none⟩=some (.int .i64 r0.hi.e)∧V.cell? ⟨rb,ro+6,none⟩=some (.bool r0.all))∧(V.cell? ⟨rb,(ro+7),none⟩=some (.bool r1.lo.neg)∧V.cell? ⟨rb,(ro+7)+1,none⟩=some (.slice r1.lo.a r1.lo.xs.length r1.lo.c)∧V.cell? ⟨rb,(ro+7)+2,none⟩=some (.int .i64 r1.lo.e)∧V.cell? ⟨rb,(ro+7)+3,none⟩=some (.bool r1.hi.neg)∧V.cell? ⟨rb,(ro+7)+4,none⟩=some (.slice r1.hi.a r1.hi.xs.length r1.hi.c)∧V.cell? ⟨rb,(ro+7)+5,none⟩=some (.int .i64 r1.hi.e)∧V.cell? ⟨rb,(ro+7)+6,none⟩=some (.bool r1.all)) from ⟨h.m.m,(h.l (h17,x3) (by simp)).cl,(h.l (h15,u) (by simp)).cl,(h.l (h16,v) (by simp)).cl,(h.l (g1,a) (by simp)).cl,(h.l (g2,b) (by simp)).cl,(h.l (g3,c) (by simp)).cl,(h.l (g4,d) (by simp)).cl,h.m.f,(HS.out _ h.m.k).2.2.2.2.2.2.2.2.2⟩
  have kd:=(Kp.refl V2).drew
  have H0:=hid (HST.out.kp kd)
  have hSd:=p11 H0.out
  refine wp_region_held_drew (S:=fun w'=>w'.cell? ⟨w.heap.size+1+1,0,none⟩=some (.func (.func 62) #[] #[.pointer (some ⟨w.heap.size+1,0,none⟩)])∧(w'.cell? ⟨h17,0,none⟩=some (.bool x3.neg)∧w'.cell? ⟨h17,1,none⟩=some (.slice x3.a x3.xs.length x3.c)∧w'.cell? ⟨h17,2,none⟩=some (.int .i64 x3.e))∧(w'.cell? ⟨h15,0,none⟩=some (.bool u.neg)∧w'.cell? ⟨h15,1,none⟩=some (.slice u.a u.xs.length u.c)∧w'.cell? ⟨h15,2,none⟩=some (.int .i64 u.e))∧(w'.cell? ⟨h16,0,none⟩=some (.bool v.neg)∧w'.cell? ⟨h16,1,none⟩=some (.slice v.a v.xs.length v.c)∧w'.cell? ⟨h16,2,none⟩=some (.int .i64 v.e))∧(w'.cell? ⟨g1,0,none⟩=some (.bool a.neg)∧w'.cell? ⟨g1,1,none⟩=some (.slice a.a a.xs.length a.c)∧w'.cell? ⟨g1,2,none⟩=some (.int .i64 a.e))∧(w'.cell? ⟨g2,0,none⟩=some (.bool b.neg)∧w'.cell? ⟨g2,1,none⟩=some (.slice b.a b.xs.length b.c)∧w'.cell? ⟨g2,2,none⟩=some (.int .i64 b.e))∧(w'.cell? ⟨g3,0,none⟩=some (.bool c.neg)∧w'.cell? ⟨g3,1,none⟩=some (.slice c.a c.xs.length c.c)∧w'.cell? ⟨g3,2,none⟩=some (.int .i64 c.e))∧(w'.cell? ⟨g4,0,none⟩=some (.bool d.neg)∧w'.cell? ⟨g4,1,none⟩=some (.slice d.a d.xs.length d.c)∧w'.cell? ⟨g4,2,none⟩=some (.int .i64 d.e))∧(w'.cell? ⟨w.heap.size,0,none⟩=some (.slice (some ⟨cb,co,none⟩) 2 cc)∧w'.cell? ⟨w.heap.size,1,none⟩=some (.slice (some ⟨mb,mo,none⟩) ms.length ac)∧w'.cell? ⟨w.heap.size,2,none⟩=some (.slice (some ⟨rb,ro,none⟩) rs.length rrc))∧(w'.cell? ⟨rb,ro,none⟩=some (.bool r0.lo.neg)∧w'.cell? ⟨rb,ro+1,none⟩=some (.slice r0.lo.a r0.lo.xs.length r0.lo.c)∧w'.cell? ⟨rb,ro+2,none⟩=some (.int .i64 r0.lo.e)∧w'.cell? ⟨rb,ro+3,none⟩=some (.bool r0.hi.neg)∧w'.cell? ⟨rb,ro+4,none⟩=some (.slice r0.hi.a r0.hi.xs.length r0.hi.c)∧w'.cell? ⟨rb,ro+5,none⟩=some (.int .i64 r0.hi.e)∧w'.cell? ⟨rb,ro+6,none⟩=some (.bool r0.all))∧(w'.cell? ⟨rb,(ro+7),none⟩=some (.bool r1.lo.neg)∧w'.cell? ⟨rb,(ro+7)+1,none⟩=some (.slice r1.lo.a r1.lo.xs.length r1.lo.c)∧w'.cell? ⟨rb,(ro+7)+2,none⟩=some (.int .i64 r1.lo.e)∧w'.cell? ⟨rb,(ro+7)+3,none⟩=some (.bool r1.hi.neg)∧w'.cell? ⟨rb,(ro+7)+4,none⟩=some (.slice r1.hi.a r1.hi.xs.length r1.hi.c)∧w'.cell? ⟨rb,(ro+7)+5,none⟩=some (.int .i64 r1.hi.e)∧w'.cell? ⟨rb,(ro+7)+6,none⟩=some (.bool r1.all))) (by kernel_rfl) hSd (fun hHeld=>?_)
  clear hSd kd
  refine tk 0 ?_;refine tk 1 ?_;refine tk 2 ?_;refine tk 3 ?_;refine tk 4 ?_;refine tk 6 ?_;refine tk 7 ?_;refine tk 8 ?_;(try simp only[Act.put,List.getElem_toArray,List.getElem_cons_zero,List.getElem_cons_succ,List.setIfInBounds_toArray,List.set_cons_zero,List.set_cons_succ])
  refine tk 11 ?_;refine tk 12 ?_;refine tk 13 ?_;refine tk 14 ?_;refine tk 15 ?_;(try simp only[Act.put,List.getElem_toArray,List.getElem_cons_zero,List.getElem_cons_succ,List.setIfInBounds_toArray,List.set_cons_zero,List.set_cons_succ])
  refine cm 5 (fun K hK=>?_)
  (go_simp;go_fit (mmul1_any (w.heap.size+1) s.det.2 u d _ (H0.out.o u (by simp)) (HOa.out.2.2.kp H0.out.m.k) H0.out.m.o (H0.out.tab HT.out));rintro e q1 ⟨p1,rfl,o1,d1,rg1,ch1⟩)
  have H1:=hid (((H0.out.chg ch1 (show OkB q1 (w.heap.size+1) s.p1.2 from by rw[HE.out.2.2.2.2.2.1,← HUV.out.1];exact rg1)).addK o1))
  have H1e:=hid (show p1.dy=s.p1.1 by rw[HE.out.2.2.2.2.2.1,← HUV.out.1];exact d1)
  refine hK.out _ _ (p11 H1.out) (fun hHeld=>?_);clear hK K o1 d1 rg1 ch1
  refine cm 9 (fun K hK=>?_)
  (go_simp;go_fit (mmul1_any (w.heap.size+1) s.p1.2 b v _ (HOa.out.1.2.kp H1.out.m.k) (H1.out.o v (by simp)) H1.out.m.o (H1.out.tab HT.out));rintro e q2 ⟨p2,rfl,o1,d1,rg1,ch1⟩)
  have H2:=hid (((H1.out.chg ch1 (show OkB q2 (w.heap.size+1) s.p2.2 from by rw[HE.out.2.2.2.2.2.2.1,← HUV.out.2];exact rg1)).addK o1))
  have H2e:=hid (show p2.dy=s.p2.1 by rw[HE.out.2.2.2.2.2.2.1,← HUV.out.2];exact d1)
  refine hK.out _ _ (p11 H2.out) (fun hHeld=>?_);clear hK K o1 d1 rg1 ch1
  refine cm 10 (fun K hK=>?_)
  (go_simp;go_fit (msub1_any (w.heap.size+1) s.p2.2 p1 p2 _ (H2.out.o p1 (by simp)) (H2.out.o p2 (by simp)) H2.out.m.o (H2.out.tab HT.out));rintro e q3 ⟨n0,rfl,o1,d1,rg1,ch1⟩)
  have H3:=hid (((H2.out.chg ch1 (show OkB q3 (w.heap.size+1) s.n0.2 from by rw[HE.out.2.2.2.2.2.2.2,← H1e.out,← H2e.out];exact rg1)).addK o1))
  have H3e:=hid (show n0.dy=s.n0.1 by rw[HE.out.2.2.2.2.2.2.2,← H1e.out,← H2e.out];exact d1)
  refine hK.out _ _ (p11 H3.out) (fun hHeld=>?_);clear hK K o1 d1 rg1 ch1
  obtain⟨B,hB⟩:∃ B,B=btC s.n0.1 s.det.1 r0.lo.dy r0.hi.dy s.n0.2:=⟨_,rfl⟩
  have HB:=hid hB
  clear hB
  refine cm 16 (fun K hK=>?_)
  have HC:=hid (bet_any (w.heap.size+1+1) (w.heap.size+1) s.n0.2 n0 x3 r0 _ (H3.out.o n0 (by simp)) (H3.out.o x3 (by simp)) (HOr.out.1.1.kp H3.out.m.k) HOr.out.2.1 H3.out.m.o H3.out.m.m (by omega) (H3.out.tab HT.out))
  rw[H3e.out,HX3.out,← HB.out] at HC
  (go_simp;go_fit HC.out;rintro e q4 ⟨rfl,rg1,ch1⟩)
  clear HC
  have H4:=hid (H3.out.chg ch1 rg1)
  refine hK.out _ _ (p11 H4.out) (fun hHeld=>?_);clear hK K rg1 ch1
  cases hb1:B.1 with
  | false =>
   have HR2:=hid (show R=(false,B.2) by rw[HR.out];unfold memI;rw[← HB.out,hb1];rfl)
   rw[show B.2=R.2 by rw[HR2.out]] at H4
   refine tk 17 ?_;(try simp only[Act.put,List.getElem_toArray,List.getElem_cons_zero,List.getElem_cons_succ,List.setIfInBounds_toArray,List.set_cons_zero,List.set_cons_succ])
   refine sk 18 ?_;refine sk 19 ?_;refine sk 20 ?_;refine sk 21 ?_;refine sk 22 ?_;refine sk 23 ?_;refine sk 24 ?_;refine sk 25 ?_;refine sk 26 ?_;refine sk 27 ?_;refine sk 28 ?_;refine sk 29 ?_;refine sk 30 ?_;refine sk 31 ?_;refine sk 32 ?_;refine sk 33 ?_;refine sk 34 ?_
   refine tk 35 ?_;refine tk 36 ?_;(try simp only[Act.put,List.getElem_toArray,List.getElem_cons_zero,List.getElem_cons_succ,List.setIfInBounds_toArray,List.set_cons_zero,List.set_cons_succ])
   refine wpAnyH_done (by kernel_rfl) ?_ _
   go_wp2_with fail
   go_meet
   case rel=>exact⟨by rw[HR2.out],⟨H4.out.m,H4.out.l,fun y hy=>H4.out.o y (by
    simp only[List.mem_cons,List.not_mem_nil,or_false] at hy ⊢
    rcases hy with rfl | rfl | rfl <;> simp)⟩⟩
  | true =>
  obtain⟨M1,hM1⟩:∃ M1,M1=muK a.dy s.v.1 B.2:=⟨_,rfl⟩
  obtain⟨M2,hM2⟩:∃ M2,M2=muK s.u.1 c.dy M1.2:=⟨_,rfl⟩
  obtain⟨N1,hN1⟩:∃ N1,N1=sbK M1.1 M2.1 M2.2:=⟨_,rfl⟩
  have HR2:=hid (show R=btC N1.1 s.det.1 r1.lo.dy r1.hi.dy N1.2 by rw[HR.out];unfold memI;rw[← HB.out,if_pos hb1,hN1,hM2,hM1];rfl)
  have HM:=hid (And.intro hM1 (And.intro hM2 hN1))
  clear hM1 hM2 hN1
  refine tk 17 ?_;refine tk 18 ?_;refine tk 19 ?_;refine tk 20 ?_;refine tk 21 ?_;refine tk 22 ?_;refine tk 24 ?_;refine tk 25 ?_;(try simp only[Act.put,List.getElem_toArray,List.getElem_cons_zero,List.getElem_cons_succ,List.setIfInBounds_toArray,List.set_cons_zero,List.set_cons_succ])
  refine tk 26 ?_;refine tk 29 ?_;refine tk 30 ?_;refine tk 31 ?_;refine tk 32 ?_;refine tk 33 ?_;(try simp only[Act.put,List.getElem_toArray,List.getElem_cons_zero,List.getElem_cons_succ,List.setIfInBounds_toArray,List.set_cons_zero,List.set_cons_succ])
  refine cm 23 (fun K hK=>?_)
  (go_simp;go_fit (mmul1_any (w.heap.size+1) B.2 a v _ (HOa.out.1.1.kp H4.out.m.k) (H4.out.o v (by simp)) H4.out.m.o (H4.out.tab HT.out));rintro e q5 ⟨t1,rfl,o1,d1,rg1,ch1⟩)
  have H5:=hid (((H4.out.chg ch1 (show OkB q5 (w.heap.size+1) M1.2 from by rw[HM.out.1,← HUV.out.2];exact rg1)).addK o1))
  have H5e:=hid (show t1.dy=M1.1 by rw[HM.out.1,← HUV.out.2];exact d1)
  refine hK.out _ _ (p11 H5.out) (fun hHeld=>?_);clear hK K o1 d1 rg1 ch1
  refine cm 27 (fun K hK=>?_)
  (go_simp;go_fit (mmul1_any (w.heap.size+1) M1.2 u c _ (H5.out.o u (by simp)) (HOa.out.2.1.kp H5.out.m.k) H5.out.m.o (H5.out.tab HT.out));rintro e q6 ⟨t2,rfl,o1,d1,rg1,ch1⟩)
  have H6:=hid (((H5.out.chg ch1 (show OkB q6 (w.heap.size+1) M2.2 from by rw[HM.out.2.1,← HUV.out.1];exact rg1)).addK o1))
  have H6e:=hid (show t2.dy=M2.1 by rw[HM.out.2.1,← HUV.out.1];exact d1)
  refine hK.out _ _ (p11 H6.out) (fun hHeld=>?_);clear hK K o1 d1 rg1 ch1
  refine cm 28 (fun K hK=>?_)
  (go_simp;go_fit (msub1_any (w.heap.size+1) M2.2 t1 t2 _ (H6.out.o t1 (by simp)) (H6.out.o t2 (by simp)) H6.out.m.o (H6.out.tab HT.out));rintro e q7 ⟨t3,rfl,o1,d1,rg1,ch1⟩)
  have H7:=hid (((H6.out.chg ch1 (show OkB q7 (w.heap.size+1) N1.2 from by rw[HM.out.2.2,← H5e.out,← H6e.out];exact rg1)).addK o1))
  have H7e:=hid (show t3.dy=N1.1 by rw[HM.out.2.2,← H5e.out,← H6e.out];exact d1)
  refine hK.out _ _ (p11 H7.out) (fun hHeld=>?_);clear hK K o1 d1 rg1 ch1
  refine cm 34 (fun K hK=>?_)
  have HC:=hid (bet_any (w.heap.size+1+1) (w.heap.size+1) N1.2 t3 x3 r1 _ (H7.out.o t3 (by simp)) (H7.out.o x3 (by simp)) (HOr.out.1.2.kp H7.out.m.k) HOr.out.2.2 H7.out.m.o H7.out.m.m (by omega) (H7.out.tab HT.out))
  rw[H7e.out,HX3.out,← HR2.out] at HC
  (go_simp;go_fit HC.out;rintro e q8 ⟨rfl,rg1,ch1⟩)
  clear HC
  have H8:=hid (H7.out.chg ch1 rg1)
  refine hK.out _ _ (p11 H8.out) (fun hHeld=>?_);clear hK K rg1 ch1
  refine tk 35 ?_;refine tk 36 ?_;(try simp only[Act.put,List.getElem_toArray,List.getElem_cons_zero,List.getElem_cons_succ,List.setIfInBounds_toArray,List.set_cons_zero,List.set_cons_succ])
  refine wpAnyH_done (by kernel_rfl) ?_ _
  go_wp2_with fail
  go_meet
  case rel=>exact⟨rfl,⟨H8.out.m,H8.out.l,fun y hy=>H8.out.o y (by
   simp only[List.mem_cons,List.not_mem_nil,or_false] at hy ⊢
   rcases hy with rfl | rfl | rfl <;> simp)⟩⟩
 case rest =>
 obtain⟨rfl,hm⟩:=hcut
 obtain⟨V3,hV⟩:∃ X:World,X=wc:=⟨_,rfl⟩
 subst hV
 have HST:=hid hm
 have o0:=hm.m.o.c
 obtain⟨z0,z1,z2⟩:=(hm.l (h17,x3) (by simp)).cl
 have HSg:=hid (Sign_rd x3 V3 (hm.o x3 (by simp)).1 (hm.o x3 (by simp)).2)
 have HSZ:=hid (show (sgn x3.dy != 0)=decide (s.det.1.m≠0) from by
  rw[← HX3.out]
  have h:=sgn_iv0 x3.dy
  by_cases hz:x3.dy.m=0
  ·rw[h.2 hz,decide_eq_false (fun k=>k hz)];rfl
  ·rw[decide_eq_true hz,bne_iff_ne];exact fun e=>hz (h.1 e))
 have HKW:=hid hm.m.k
 clear hm HS HOa HOc HOr HT HE HST HUV HX3 HR
 cases hb2:R.2 with
 | false =>
  rw[hb2] at o0 HDs
  go_wp2_with fail
  refine bodyPost_ret (v:=.tuple #[.bool R.1,.bool false]) (by simp[results,Tryz.results16,go_sem]) rfl ?_
  exact⟨by rw[HDs.out];rfl,HKW.out⟩
 | true =>
 rw[hb2] at o0 HDs
 go_wp2_with fail
 go_fit HSg.out
 rintro e v3 ⟨rfl,j3⟩
 go_wp2_with fail
 refine bodyPost_ret (v:=.tuple #[.bool R.1,.bool (sgn x3.dy != 0)]) (by simp[results,Tryz.results16,go_sem]) rfl ?_
 exact⟨by rw[HDs.out,HSZ.out];rfl,HKW.out.trans j3⟩
end Go.Proofs.YtbhmhfnfceakoaaGreatDoor
