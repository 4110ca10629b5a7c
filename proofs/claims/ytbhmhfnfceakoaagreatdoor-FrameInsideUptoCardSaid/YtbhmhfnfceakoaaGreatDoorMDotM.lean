/-
  Walks: matrix.dot.
-/
import Derived.Deep.CutRange
import Derived.Deep.LoopGhost
import Derived.Deep.RegionWith
import Derived.Test.YtbhmhfnfceakoaaGreatDoorMIvMl
namespace Go.Proofs.YtbhmhfnfceakoaaGreatDoor
open Go.RowKit
open Lib (hid)
def BoxI (w:World) (g:Nat) (z:RI):Prop:=Box7 w g (.bool z.lo.neg) (.slice z.lo.a z.lo.xs.length z.lo.c) (.int .i64 z.lo.e) (.bool z.hi.neg) (.slice z.hi.a z.hi.xs.length z.hi.c) (.int .i64 z.hi.e) (.bool z.all)∧Frz w g
theorem BoxI.kp {w w':World} {g:Nat} {z:RI} (h:BoxI w g z) (k:Kp w w'):BoxI w' g z:=⟨h.1.kp k,h.2.kp h.1 k⟩
def HasI (w0 w:World) (g:Nat) (X:PI):Prop:=∃ z:RI,BoxI w g z∧z.rd w∧z.pl=X∧z.vl=true∧Kp w0 w∧w0.heap.size≤g
theorem HasI.kp {w0 w w':World} {g:Nat} {X:PI} (h:HasI w0 w g X) (k:Kp w w'):HasI w0 w' g X:=by
 obtain⟨z,h1,h2,h3,h4,h5,h6⟩:=h
 exact⟨z,h1.kp k,h2.kp k,h3,h4,h5.trans k,h6⟩
theorem hasI_alloc {w0 w:World} {z:RI} {X:PI} (hz:z.rd w) (hp:z.pl=X) (hv:z.vl=true) (k:Kp w0 w) (t:TypeId):HasI w0 (w.alloc (.cells #[.bool z.lo.neg,.slice z.lo.a z.lo.xs.length z.lo.c,.int .i64 z.lo.e,.bool z.hi.neg,.slice z.hi.a z.hi.xs.length z.hi.c,.int .i64 z.hi.e,.bool z.all] t)) w.heap.size X :=
 ⟨z,⟨Box7.new _ _ _ _ _ _ _ _ _,Frz.new _ _ _ _ _ _ _ _ _⟩,hz.kp ((Kp.refl w).alloc _),hp,hv,k.alloc _,k.size⟩
theorem hasI_store {w0 w:World} {g:Nat} {y0 y1 y2 y3 y4 y5 y6:Value} (hB:Box7 w g y0 y1 y2 y3 y4 y5 y6) (hF:Frz w g)
  (n0:∀ n:Int,y0≠.int .u32 n) (n1:∀ n:Int,y1≠.int .u32 n) (n2:∀ n:Int,y2≠.int .u32 n) (n3:∀ n:Int,y3≠.int .u32 n) (n4:∀ n:Int,y4≠.int .u32 n) (n5:∀ n:Int,y5≠.int .u32 n) (n6:∀ n:Int,y6≠.int .u32 n)
  {z:RI} {X:PI} (hz:z.rd w) (hp:z.pl=X) (hv:z.vl=true) (k:Kp w0 w) (hg:w0.heap.size≤g) :
  HasI w0 (((((((w.setCell ⟨g,0,none⟩ (.bool z.lo.neg)).setCell ⟨g,1,none⟩ (.slice z.lo.a z.lo.xs.length z.lo.c)).setCell ⟨g,2,none⟩ (.int .i64 z.lo.e)).setCell ⟨g,3,none⟩ (.bool z.hi.neg)).setCell ⟨g,4,none⟩ (.slice z.hi.a z.hi.xs.length z.hi.c)).setCell ⟨g,5,none⟩ (.int .i64 z.hi.e)).setCell ⟨g,6,none⟩ (.bool z.all)) g X:=by
 obtain⟨hb,U⟩:=stored7 hB n0 n1 n2 n3 n4 n5 n6 _ _ _ _ _ _ _ rfl
 exact⟨z,⟨hb,U.frz hF⟩,U.rdI hz,hp,hv,U.2.2.1 _ k hg,hg⟩
def AtI (P:Program) (g:FuncId) (cap:Array Value) (w:World) (n:Nat) (G:Nat→PI):Prop :=
 Enters P g∧∀ k,k<n→∀ w1,Kp w w1→Calls P g (#[.int .i64 (k:Int)]++cap) w1 (IvOut w1 (G k))
def rowG (r:List RI) (j:Nat):PI:=(r.getD j wholeR).pl
theorem rowG_at (m:List (List RI)) (i:Nat):rowG (m.getD i [])=atP m i:=rfl
theorem rowG_eq {r:List RI} {j:Nat} {x:RI} (h:r[j]? = some x):rowG r j=x.pl:=by unfold rowG;rw[List.getD_eq_getElem?_getD,h];rfl
theorem set7o {w:World} {g b o:Nat} (n:b≠g) {v0 v1 v2 v3 v4 v5 v6 x0 x1 x2 x3 x4 x5 x6:Value}
  (h:w.cell? ⟨b,o,none⟩=some v0∧w.cell? ⟨b,o+1,none⟩=some v1∧w.cell? ⟨b,o+2,none⟩=some v2∧w.cell? ⟨b,o+3,none⟩=some v3∧w.cell? ⟨b,o+4,none⟩=some v4∧w.cell? ⟨b,o+5,none⟩=some v5∧w.cell? ⟨b,o+6,none⟩=some v6) :
  (fun W:World=>W.cell? ⟨b,o,none⟩=some v0∧W.cell? ⟨b,o+1,none⟩=some v1∧W.cell? ⟨b,o+2,none⟩=some v2∧W.cell? ⟨b,o+3,none⟩=some v3∧W.cell? ⟨b,o+4,none⟩=some v4∧W.cell? ⟨b,o+5,none⟩=some v5∧W.cell? ⟨b,o+6,none⟩=some v6)
   (((((((w.setCell ⟨g,0,none⟩ x0).setCell ⟨g,1,none⟩ x1).setCell ⟨g,2,none⟩ x2).setCell ⟨g,3,none⟩ x3).setCell ⟨g,4,none⟩ x4).setCell ⟨g,5,none⟩ x5).setCell ⟨g,6,none⟩ x6):=by
 have ne (i j:Nat):(⟨g,i,none⟩:Addr)≠⟨b,j,none⟩:=fun e=>n (by injection e with e1;exact e1.symm)
 have key (j:Nat):(((((((w.setCell ⟨g,0,none⟩ x0).setCell ⟨g,1,none⟩ x1).setCell ⟨g,2,none⟩ x2).setCell ⟨g,3,none⟩ x3).setCell ⟨g,4,none⟩ x4).setCell ⟨g,5,none⟩ x5).setCell ⟨g,6,none⟩ x6).cell? ⟨b,j,none⟩=w.cell? ⟨b,j,none⟩:=by
  rw[cell_set_ne (ne 6 j),cell_set_ne (ne 5 j),cell_set_ne (ne 4 j),cell_set_ne (ne 3 j),cell_set_ne (ne 2 j),cell_set_ne (ne 1 j),cell_set_ne (ne 0 j)]
 simp only[key]
 exact h
theorem IMul_rd (x y:RI) (p:Nat) (w:World) (hx:x.rd w∧x.vl=true) (hy:y.rd w∧y.vl=true) (h0:8≤p) (h1:p≤512) (hT:Tab w) :
  Calls Tryz.prog 197 #[.agg #[.bool x.lo.neg,.slice x.lo.a x.lo.xs.length x.lo.c,.int .i64 x.lo.e,.bool x.hi.neg,.slice x.hi.a x.hi.xs.length x.hi.c,.int .i64 x.hi.e,.bool x.all],.agg #[.bool y.lo.neg,.slice y.lo.a y.lo.xs.length y.lo.c,.int .i64 y.lo.e,.bool y.hi.neg,.slice y.hi.a y.hi.xs.length y.hi.c,.int .i64 y.hi.e,.bool y.all],.int .i64 p] w (IvOut w (pMul x.pl y.pl p)):=IMul_any x y p w hx.1 hy.1 hx.2 hy.2 h0 h1 hT
theorem IAdd_rd (x y:RI) (p:Nat) (w:World) (hx:x.rd w∧x.vl=true) (hy:y.rd w∧y.vl=true) (h0:8≤p) (h1:p≤512) (hT:Tab w) :
  Calls Tryz.prog 80 #[.agg #[.bool x.lo.neg,.slice x.lo.a x.lo.xs.length x.lo.c,.int .i64 x.lo.e,.bool x.hi.neg,.slice x.hi.a x.hi.xs.length x.hi.c,.int .i64 x.hi.e,.bool x.all],.agg #[.bool y.lo.neg,.slice y.lo.a y.lo.xs.length y.lo.c,.int .i64 y.lo.e,.bool y.hi.neg,.slice y.hi.a y.hi.xs.length y.hi.c,.int .i64 y.hi.e,.bool y.all],.int .i64 p] w (IvOut w (pAdd x.pl y.pl p)):=IAdd_any x y p w hx.1 hy.1 hx.2 hy.2 h0 h1 hT
set_option maxRecDepth 100000 in
set_option maxHeartbeats 8000000 in
theorem dot_any (a:Option Addr) (r:List RI) (c:Nat) (g:FuncId) (cap:Array Value) (p:Nat) (G:Nat→PI) (w:World) (hr:RowI w a r) (hv:∀ x∈r,x.vl=true) (h0:0<r.length) (h8:r.length≤8)
   (hat:AtI Tryz.prog g cap w r.length G) (hp:8≤p) (hp2:p≤512) (hT:Tab w) :
   Calls Tryz.prog 147 #[.slice a r.length c,.func (.func g) #[] cap,.int .i64 p] w (IvOut w (dotF p (rowG r) G (r.length-1))):=by
 have hgo:∀ args w,(callFunc g args).run Tryz.prog w=.ok (.enter g args) w:=hat.1
 have HC:=hid hat.2
 clear hat
 obtain⟨x0,hx0⟩:∃ x,r[0]? = some x:=⟨_,List.getElem?_eq_getElem h0⟩
 obtain⟨b,o,rfl,_⟩:=hr 0 x0 hx0
 have Hx0:=hid hx0
 have HR:=hid hr
 have HV:=hid hv
 have HT:=hid hT
 clear hv hT
 go_enter Tryz.func147,Tryz.ntmps147
 go_upto_region 1 with fail
 generalize hW:w.alloc _=W at *
 have hk:Kp w W:=hW▸(Kp.refl w).alloc _
 have hV:Var7 W w.heap.size:=by rw[← hW];exact Var7.new _ _
 clear hW
 obtain⟨b2,o2,e2,hrd,hS⟩:=(hr.kp hk) 0 x0 hx0
 cases e2
 rw[Nat.zero_mul,Nat.add_zero] at hS
 have HK:=hid hk
 have HVr:=hid hV
 have X0:=hid (And.intro hrd (HV.out x0 (List.mem_of_getElem? hx0)))
 clear hr hx0 hk hV hrd
 have hb0:=World.block_lt_of_cell? W _ hS.1
 have hi0:(0:Int)<(r.length:Int):=by omega
 have HC0:=hid (show ∀ w1,Kp w w1→Calls Tryz.prog g (#[.int .i64 0]++cap) w1 (IvOut w1 (G 0)) from fun w1 k=>HC.out 0 h0 w1 k)
 go_cut [7] from 9 to 15 (fun s wx=>∃ b1:Nat,s=.pointer (some ⟨b1,0,none⟩)∧HasI W wx b1 (pMul x0.pl (G 0) p))
 case first =>
   have n1:b≠W.heap.size:=Nat.ne_of_lt hb0
   have kd:=hid (Kp.refl W).drew
   have hSd:=keep7 kd.out hS
   have KZ:=hid (show Kp W (W.alloc (.cells #[.bool false,.slice none 0 0,.int .i64 0,.bool false,.slice none 0 0,.int .i64 0,.bool false] 44)).drew from kd.out.trans ((Kp.refl W.drew).alloc _))
   have HSZ:=hid (keep7 KZ.out hS)
   have BZ:=hid (show Var7 (W.alloc (.cells #[.bool false,.slice none 0 0,.int .i64 0,.bool false,.slice none 0 0,.int .i64 0,.bool false] 44)).drew W.heap.size from Var7.new W.drew _)
   have HS0:=hid hS
   clear hS
   go_region_held3 (fun w'=>w'.cell? ⟨b,o,none⟩=some (.bool x0.lo.neg)∧w'.cell? ⟨b,o+1,none⟩=some (.slice x0.lo.a x0.lo.xs.length x0.lo.c)∧w'.cell? ⟨b,o+2,none⟩=some (.int .i64 x0.lo.e)∧w'.cell? ⟨b,o+3,none⟩=some (.bool x0.hi.neg)∧w'.cell? ⟨b,o+4,none⟩=some (.slice x0.hi.a x0.hi.xs.length x0.hi.c)∧w'.cell? ⟨b,o+5,none⟩=some (.int .i64 x0.hi.e)∧w'.cell? ⟨b,o+6,none⟩=some (.bool x0.all)) (first | with_reducible assumption | with_reducible exact keep7 (by assumption) (by assumption) | with_reducible exact keep7 ((Kp.refl _).alloc _) (by assumption) | with_reducible exact set7o (by assumption) (by assumption) | with_reducible exact HSZ.out)
     (first
       | ((with_reducible refine (HC0.out _ (HK.out.trans kd.out)).mono ?_); rintro e v1 ⟨z1, rfl, r1, p1, q1, j1⟩
          have KJ:=hid (kd.out.trans j1)
          have O1:=hid (And.intro r1 q1)
          have P1:=hid p1
          clear r1 p1 q1)
       | ((with_reducible refine (HC0.out _ (HK.out.trans KZ.out)).mono ?_); rintro e v1 ⟨z1, rfl, r1, p1, q1, j1⟩
          have KJ:=hid (KZ.out.trans j1)
          have BV:=hid (BZ.out.kp j1)
          have O1:=hid (And.intro r1 q1)
          have P1:=hid p1
          clear r1 p1 q1)
       | (go_at_call 197; (with_reducible refine (IMul_rd x0 z1 p _ (And.intro (X0.out.1.kp KJ.out) X0.out.2) O1.out hp hp2 (HT.out.kp (HK.out.trans KJ.out))).mono ?_); rintro e v2 ⟨z2, rfl, r2, p2, q2, j2⟩
          have KJ2:=hid (KJ.out.trans j2)
          have hS2:=keep7 KJ2.out HS0.out
          have O2:=hid (And.intro r2 (And.intro (p2.trans (congrArg (pMul x0.pl · p) P1.out)) q2))
          clear r2 p2 q2
          (try (have BW:=BV.out.kp j2;obtain⟨⟨q0,q1,q2,q3,q4,q5,q6⟩,f0,f1,f2,f3,f4,f5,f6⟩:=id BW)))
       | (go_at_call 197; (with_reducible refine (IMul_rd x0 z1 p _ (And.intro (X0.out.1.kp (KJ.out.alloc _)) X0.out.2) (And.intro (O1.out.1.kp ((Kp.refl _).alloc _)) O1.out.2) hp hp2 (HT.out.kp (HK.out.trans (KJ.out.alloc _)))).mono ?_); rintro e v2 ⟨z2, rfl, r2, p2, q2, j2⟩
          have n2:b≠v1.heap.size:=by have:=KJ.out.size;omega
          have KJ2:=hid ((KJ.out.alloc _).trans j2)
          have O2:=hid (And.intro r2 (And.intro (p2.trans (congrArg (pMul x0.pl · p) P1.out)) q2))
          have BW:=(Var7.new v1 44).kp j2
          clear r2 p2 q2
          obtain⟨⟨q0,q1,q2,q3,q4,q5,q6⟩,f0,f1,f2,f3,f4,f5,f6⟩:=id BW)
       | fail)
   all_goals
     go_wp2_with fail
     go_meet
     case rel=>first
       | exact⟨_,rfl,hasI_store BW.1 BW.2 nofun nofun nofun nofun nofun nofun nofun O2.out.1 O2.out.2.1 O2.out.2.2 KJ2.out (Nat.le_refl _)⟩
       | exact⟨_,rfl,hasI_store BW.1 BW.2 nofun nofun nofun nofun nofun nofun nofun O2.out.1 O2.out.2.1 O2.out.2.2 KJ2.out KJ.out.size⟩
       | exact⟨_,rfl,hasI_alloc O2.out.1 O2.out.2.1 O2.out.2.2 KJ2.out _⟩
 case rest =>
 obtain⟨b1,rfl,hI⟩:=hcut
 obtain⟨W2,hW2⟩:∃ x:World,x=wc:=⟨_,rfl⟩
 subst hW2
 have HI:=hid hI
 clear hI hS HC0
 go_wp2_with fail
 go_loopg [8] (r.length-1) (fun q v wr=>∃ k:Nat,1≤k∧k+q=r.length∧v=.int .i64 k∧HasI W wr b1 (dotF p (rowG r) G (k-1)))
 case atStart=>exact⟨1,by omega,by omega,rfl,by have:=HI.out;rw[← rowG_eq Hx0.out] at this;exact this⟩
 case round =>
 obtain⟨k,hk1,hkq,rfl,hI⟩:=hrel
 obtain⟨z,hB,hz,hp1,hv1,hkw,hg1⟩:=hI
 clear HI hi0
 have n1:b≠b1:=by have:b<W.heap.size:=hb0;omega
 by_cases hlt:k<r.length
 rotate_left
 · have hkk:k=r.length:=by omega
   obtain⟨⟨q0,q1,q2,q3,q4,q5,q6⟩,_⟩:=id hB
   obtain⟨⟨r0,r1,r2,r3,r4,r5,r6⟩,f0,f1,f2,f3,f4,f5,f6⟩:=HVr.out.kp hkw
   have HZ:=hid (And.intro hz (And.intro (show z.pl=dotF p (rowG r) G (r.length-1) by rw[hp1,hkk]) hv1))
   have hkk:=HK.out.trans hkw
   clear hkw hB hz hp1 hv1
   go_wp2_with fail
   generalize hW9:((((((wr.setCell _ _).setCell _ _).setCell _ _).setCell _ _).setCell _ _).setCell _ _).setCell _ _=W9
   obtain⟨⟨s0,s1,s2,s3,s4,s5,s6⟩,hU⟩:=stored7 (show Box7 wr _ _ _ _ _ _ _ _ from ⟨r0,r1,r2,r3,r4,r5,r6⟩) nofun nofun nofun nofun nofun nofun nofun _ _ _ _ _ _ _ hW9
   clear hW9 q0 q1 q2 q3 q4 q5 q6 r0 r1 r2 r3 r4 r5 r6 f0 f1 f2 f3 f4 f5 f6
   refine bodyPost_ret (v:=.agg #[.bool z.lo.neg,.slice z.lo.a z.lo.xs.length z.lo.c,.int .i64 z.lo.e,.bool z.hi.neg,.slice z.hi.a z.hi.xs.length z.hi.c,.int .i64 z.hi.e,.bool z.all]) (by simp[results,Tryz.results147,go_sem,s0,s1,s2,s3,s4,s5,s6]) rfl ?_
   exact⟨z,rfl,hU.rdI HZ.out.1,HZ.out.2.1,HZ.out.2.2,hU.2.2.1 _ hkk (by omega)⟩
 obtain⟨x,hx⟩:∃ x,r[k]? = some x:=⟨_,List.getElem?_eq_getElem hlt⟩
 obtain⟨b3,o3,e3,hrd,hS⟩:=(HR.out.kp (HK.out.trans hkw)) k x hx
 cases e3
 have kd:=hid (Kp.refl wr).drew
 have hSd:=keep7 kd.out hS
 have HS0:=hid hS
 have Ox:=hid (And.intro (hrd.kp kd.out) (HV.out x (List.mem_of_getElem? hx)))
 have HX:=hid (show dotF p (rowG r) G (k+1-1)=pAdd z.pl (pMul x.pl (G k) p) p by
   rw[hp1,← rowG_eq hx]
   obtain⟨j,rfl⟩:∃ j,k=j+1:=⟨k-1,by omega⟩
   rfl)
 have Oz:=hid (And.intro (hz.kp kd.out) hv1)
 have HKW:=hid (hkw.trans kd.out)
 have hBd:=hB.kp kd.out
 have HB:=hid hBd
 obtain⟨⟨q0,q1,q2,q3,q4,q5,q6⟩,f0,f1,f2,f3,f4,f5,f6⟩:=id hBd
 have hi1:(0:Int)≤(k:Int):=by omega
 have hi2:(k:Int)<(r.length:Int):=by omega
 have Hlt:=hid hlt
 have HQ:=hid (And.intro hk1 (And.intro hkq hg1))
 clear hS hrd hx hz hp1 hv1 hB hBd hkw hlt hk1 hkq hg1
 go_upto_region 5 with fail
 obtain⟨s0,s1,s2,s3,s4,s5,s6⟩:=id hSd
 go_region_with
   (first
     | ((with_reducible refine (HC.out k Hlt.out _ (HK.out.trans HKW.out)).mono ?_); rintro e v1 ⟨z1, rfl, r1, p1, q1', j1⟩
        have O1:=hid (And.intro r1 q1')
        have P1:=hid p1
        have hS1:=keep7 j1 hSd
        obtain⟨s0,s1,s2,s3,s4,s5,s6⟩:=id hS1
        have hB1:=HB.out.kp j1
        clear r1 p1 q1'
        obtain⟨⟨q0,q1,q2,q3,q4,q5,q6⟩,f0,f1,f2,f3,f4,f5,f6⟩:=id hB1)
     | (go_at_call 197; (with_reducible refine (IMul_rd x z1 p _ (And.intro (Ox.out.1.kp j1) Ox.out.2) O1.out hp hp2 (HT.out.kp ((HK.out.trans HKW.out).trans j1))).mono ?_); rintro e v2 ⟨z2, rfl, r2, p2, q2', j2⟩
        have O2:=hid (And.intro r2 q2')
        have P2:=hid (p2.trans (congrArg (pMul x.pl · p) P1.out))
        have hB2:=hB1.kp j2
        clear r2 p2 q2'
        obtain⟨⟨q0,q1,q2,q3,q4,q5,q6⟩,f0,f1,f2,f3,f4,f5,f6⟩:=id hB2)
     | (go_at_call 80; (with_reducible refine (IAdd_rd z z2 p _ (And.intro ((Oz.out.1.kp j1).kp j2) Oz.out.2) O2.out hp hp2 (HT.out.kp (((HK.out.trans HKW.out).trans j1).trans j2))).mono ?_); rintro e v3 ⟨z3, rfl, r3, p3, q3', j3⟩
        have O3:=hid (And.intro r3 (And.intro (p3.trans ((congrArg (pAdd z.pl · p) P2.out).trans HX.out.symm)) q3'))
        have hS2:=keep7 (((kd.out.trans j1).trans j2).trans j3) HS0.out
        have hB3:=hB2.kp j3
        have HK3:=hid (((HKW.out.trans j1).trans j2).trans j3)
        clear r3 p3 q3'
        obtain⟨⟨q0,q1,q2,q3,q4,q5,q6⟩,f0,f1,f2,f3,f4,f5,f6⟩:=id hB3)
     | fail)
 all_goals
   go_wp2_with fail
   go_roundg (gk-1)
   case measure=>have:=HQ.out;have:=Hlt.out;omega
   case rel=>exact⟨k+1,by omega,by have:=HQ.out;have:=Hlt.out;omega,by go_num,hasI_store hB3.1 hB3.2 nofun nofun nofun nofun nofun nofun nofun O3.out.1 O3.out.2.1 O3.out.2.2 HK3.out HQ.out.2.2⟩
end Go.Proofs.YtbhmhfnfceakoaaGreatDoor
