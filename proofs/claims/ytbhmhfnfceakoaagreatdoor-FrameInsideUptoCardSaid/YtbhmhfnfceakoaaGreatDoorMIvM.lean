/-
  Walks: interval.Mag of valid intervals.
-/
import Derived.Test.YtbhmhfnfceakoaaGreatDoorMRoAdd
import Derived.Laws.Rows
import Derived.Laws.Tables
import Derived.Test.YtbhmhfnfceakoaaGreatDoorMAwk3
namespace Go.Proofs.YtbhmhfnfceakoaaGreatDoor
open Go.RowKit
open Lib (hid)
def maxD (a b:Dy):Dy:=if b.iv≤a.iv then a else b
def magP (X:PI):Dy:=if X.all then .zero else maxD X.lo.absv X.hi.absv
def NumB (w:World) (d:Dy) (b:Bool) (e:Ending) (w':World):Prop:=∃ y:RD,e=.returned (.tuple #[.agg #[.bool y.neg,.slice y.a y.xs.length y.c,.int .i64 y.e],.bool b])∧y.rd w'∧y.dy=d∧y.vl=true∧Kp w w'
theorem set7by3 {w:World} {g b:Nat} (n:b≠g) {v0 v1 v2 v3 v4 v5 v6 x0 x1 x2:Value} (h:w.cell? ⟨b,0,none⟩=some v0∧w.cell? ⟨b,1,none⟩=some v1∧w.cell? ⟨b,2,none⟩=some v2∧w.cell? ⟨b,3,none⟩=some v3∧w.cell? ⟨b,4,none⟩=some v4∧w.cell? ⟨b,5,none⟩=some v5∧w.cell? ⟨b,6,none⟩=some v6) :
  (((w.setCell ⟨g,0,none⟩ x0).setCell ⟨g,1,none⟩ x1).setCell ⟨g,2,none⟩ x2).cell? ⟨b,0,none⟩=some v0∧(((w.setCell ⟨g,0,none⟩ x0).setCell ⟨g,1,none⟩ x1).setCell ⟨g,2,none⟩ x2).cell? ⟨b,1,none⟩=some v1∧(((w.setCell ⟨g,0,none⟩ x0).setCell ⟨g,1,none⟩ x1).setCell ⟨g,2,none⟩ x2).cell? ⟨b,2,none⟩=some v2∧(((w.setCell ⟨g,0,none⟩ x0).setCell ⟨g,1,none⟩ x1).setCell ⟨g,2,none⟩ x2).cell? ⟨b,3,none⟩=some v3∧(((w.setCell ⟨g,0,none⟩ x0).setCell ⟨g,1,none⟩ x1).setCell ⟨g,2,none⟩ x2).cell? ⟨b,4,none⟩=some v4∧(((w.setCell ⟨g,0,none⟩ x0).setCell ⟨g,1,none⟩ x1).setCell ⟨g,2,none⟩ x2).cell? ⟨b,5,none⟩=some v5∧(((w.setCell ⟨g,0,none⟩ x0).setCell ⟨g,1,none⟩ x1).setCell ⟨g,2,none⟩ x2).cell? ⟨b,6,none⟩=some v6:=by
 have ne (i j:Nat):(⟨g,i,none⟩:Addr)≠⟨b,j,none⟩:=fun e=>n (by injection e with e1;exact e1.symm)
 have key (j:Nat):(((w.setCell ⟨g,0,none⟩ x0).setCell ⟨g,1,none⟩ x1).setCell ⟨g,2,none⟩ x2).cell? ⟨b,j,none⟩=w.cell? ⟨b,j,none⟩:=by
  rw[cell_set_ne (ne 2 j),cell_set_ne (ne 1 j),cell_set_ne (ne 0 j)]
 simp only[key]
 exact h
theorem moreR_dy (x y:RD):(moreR x y).dy=maxD x.dy y.dy:=by
 unfold moreR maxD
 show (if y.dy.iv≤x.dy.iv then x else y).dy=_
 split <;> rfl
set_option maxRecDepth 100000 in
set_option maxHeartbeats 8000000 in
theorem Mag_any (x:RI) (w:World) (hx:x.rd w) (vx:x.vl=true) :
   Calls Tryz.prog 222 #[.agg #[.bool x.lo.neg,.slice x.lo.a x.lo.xs.length x.lo.c,.int .i64 x.lo.e,.bool x.hi.neg,.slice x.hi.a x.hi.xs.length x.hi.c,.int .i64 x.hi.e,.bool x.all]] w (NumB w (magP x.pl) (!x.all)):=by
 go_enter Tryz.func222,Tryz.ntmps222
 go_wp2_with fail
 generalize hW3:((w.alloc _).alloc _)=W3 at *
 have hk3:Kp w W3:=hW3▸((Kp.refl w).alloc _).alloc _
 have hS3:W3.cell? ⟨w.heap.size,0,none⟩=some (.bool x.lo.neg)∧W3.cell? ⟨w.heap.size,1,none⟩=some (.slice x.lo.a x.lo.xs.length x.lo.c)∧W3.cell? ⟨w.heap.size,2,none⟩=some (.int .i64 x.lo.e)∧W3.cell? ⟨w.heap.size,3,none⟩=some (.bool x.hi.neg)∧W3.cell? ⟨w.heap.size,4,none⟩=some (.slice x.hi.a x.hi.xs.length x.hi.c)∧W3.cell? ⟨w.heap.size,5,none⟩=some (.int .i64 x.hi.e)∧W3.cell? ⟨w.heap.size,6,none⟩=some (.bool x.all):=by rw[← hW3];simp
 have hV3:Box3 W3 (w.heap.size+1) (.bool false) (.slice none 0 0) (.int .i64 0):=by rw[← hW3];exact Box3.new2 _ _ _ _ _ _
 have hsz:W3.heap.size=w.heap.size+1+1:=by rw[← hW3];simp
 have hR:=rowI_oneR W3 x (hx.kp hk3) 44
 rw[hsz] at hR
 have hk4:=(Kp.refl W3).alloc (.cells #[.bool x.lo.neg,.slice x.lo.a x.lo.xs.length x.lo.c,.int .i64 x.lo.e,.bool x.hi.neg,.slice x.hi.a x.hi.xs.length x.hi.c,.int .i64 x.hi.e,.bool x.all] 44)
 generalize hW:W3.alloc _=W at *
 have hS:=keep7 hk4 hS3
 have hV:=hV3.kp hk4
 have hk:=hk3.trans hk4
 clear hW hW3 hS3 hV3 hk3 hk4 hsz
 go_fit (known_any _ [x] 1 _ hR (by simp))
 rintro e w1 ⟨rfl,hk1⟩
 have hS1:=keep7 hk1 hS
 have hV1:=hV.kp hk1
 have hk2:=(hk.trans hk1)
 have hx1:=hx.kp hk2
 clear hR hS hV hk hk1
 cases ha:x.all with
 | true =>
   have hg:[x].all goodI=false:=by simp[goodI_vl vx,ha]
   have HP:=hid (show magP x.pl=.zero by unfold magP;rw[if_pos (by exact ha)])
   have HA:=hid ha
   rw[hg]
   clear hg ha hS1
   obtain⟨q0,q1,q2,f0,f1,f2⟩:=hV1
   go_wp2_with fail
   have hst:=stored q0 q1 q2 nofun nofun nofun (.bool false) (.slice none 0 0) (.int .i64 0)
   generalize (((w1.setCell _ _).setCell _ _).setCell _ _)=W9 at hst ⊢
   obtain⟨s0,s1,s2,_,s4,s5,_,_⟩:=hst
   refine bodyPost_ret (v:=.tuple #[.agg #[.bool false,.slice none 0 0,.int .i64 0],.bool false]) (by simp[results,Tryz.results222,go_sem,s0,s1,s2]) rfl ?_
   rw[HP.out,HA.out]
   exact⟨rdZero,rfl,rdZero_rd _,rfl,rdZero_vl,s5 _ hk2 (by omega)⟩
 | false =>
 have ox:=ok_of hx1 vx ha
 have HA:=hid ha
 have hg:[x].all goodI=true:=by simp[(goodI_ok ox.1).2 ox]
 have HP:=hid (show magP x.pl=maxD x.lo.dy.absv x.hi.dy.absv by unfold magP;rw[if_neg (by show ¬ x.all=true;rw[ha];decide)];rfl)
 rw[hg]
 clear hg
 have kd:=(Kp.refl w1).drew
 have hB2:=hV1.kp kd
 have Ox:=hid (ox.kp kd)
 have hk3:=hk2.trans kd
 have hS4:=keep7 kd hS1
 clear hV1 hS1 kd hk2 ox hx1 ha
 go_wp2_with fail
 go_region_held3 (fun w'=>w'.cell? ⟨w.heap.size,0,none⟩=some (.bool x.lo.neg)∧w'.cell? ⟨w.heap.size,1,none⟩=some (.slice x.lo.a x.lo.xs.length x.lo.c)∧w'.cell? ⟨w.heap.size,2,none⟩=some (.int .i64 x.lo.e)∧w'.cell? ⟨w.heap.size,3,none⟩=some (.bool x.hi.neg)∧w'.cell? ⟨w.heap.size,4,none⟩=some (.slice x.hi.a x.hi.xs.length x.hi.c)∧w'.cell? ⟨w.heap.size,5,none⟩=some (.int .i64 x.hi.e)∧w'.cell? ⟨w.heap.size,6,none⟩=some (.bool x.all)) (first | with_reducible assumption | with_reducible exact keep7 (by assumption) (by assumption) | with_reducible exact set7by3 (by omega) (by assumption))
   (first
     | (go_at_call 170; go_fit (Abs_ok x.lo _ Ox.out.lo); rintro e w4 ⟨z1, rfl, r1, d1, v1, hk4⟩
        have O1:=hid (show z1.ok w4 from ⟨r1,v1 (Dy.absv_ok (rdok_dy Ox.out.lo))⟩)
        have D1:=hid d1
        clear r1 d1 v1)
     | (go_at_call 170; go_fit (Abs_ok x.hi _ (Ox.out.hi.kp hk4)); rintro e w5 ⟨z2, rfl, r2, d2, v2, hk5⟩
        have O2:=hid (show z2.ok w5 from ⟨r2,v2 (Dy.absv_ok (rdok_dy Ox.out.hi))⟩)
        have D2:=hid d2
        clear r2 d2 v2)
     | (go_at_call 177;go_fit (more_ok z1 z2 _ (O1.out.kp hk5) O2.out);rintro e w6 ⟨rfl,hk6⟩;have hk7:=(hk4.trans hk5).trans hk6;obtain⟨q0,q1,q2,f0,f1,f2⟩:=hB2.kp hk7)
     | fail)
 have hk8:=hk3.trans hk7
 have OM:=hid (moreR_ok ((O1.out.kp hk5).kp hk6) (O2.out.kp hk6))
 have DM:=hid (moreR_dy z1 z2)
 clear hS4 hB2
 generalize moreR z1 z2=Z at *
 have hst:=stored q0 q1 q2 nofun nofun nofun (.bool Z.neg) (.slice Z.a Z.xs.length Z.c) (.int .i64 Z.e)
 go_wp2_with fail
 generalize (((w6.setCell _ _).setCell _ _).setCell _ _)=W9 at hst ⊢
 obtain⟨s0,s1,s2,_,s4,s5,_,_⟩:=hst
 refine bodyPost_ret (v:=.tuple #[.agg #[.bool Z.neg,.slice Z.a Z.xs.length Z.c,.int .i64 Z.e],.bool true]) (by simp[results,Tryz.results222,go_sem,s0,s1,s2]) rfl ?_
 rw[HP.out,HA.out,← D1.out,← D2.out]
 exact⟨Z,rfl,⟨s4 _ _ OM.out.1.1,OM.out.1.2⟩,DM.out,OM.out.2,s5 _ hk8 (by omega)⟩
theorem mulDown_ok (a b:RD) {p:Nat} (h0:8≤p) (h1:p≤512) (W:World) (ha:a.ok W) (hb:b.ok W) (hT:Tab W) :
  Calls Tryz.prog 174 #[.agg #[.bool a.neg,.slice a.a a.xs.length a.c,.int .i64 a.e],.agg #[.bool b.neg,.slice b.a b.xs.length b.c,.int .i64 b.e],.int .i64 p] W (NumE W (muP a.dy b.dy p false).1 (muP a.dy b.dy p false).2):=by
 have:=rMulDown_of a b (p:Int) _ _ W (fun W' k'=>mul_rd a b p false W' (ha.1.kp k') (hb.1.kp k') (hT.kp k'))
 rwa [mulB_dy ha hb h0 h1 false] at this
theorem mulUp_ok (a b:RD) {p:Nat} (h0:8≤p) (h1:p≤512) (W:World) (ha:a.ok W) (hb:b.ok W) (hT:Tab W) :
  Calls Tryz.prog 103 #[.agg #[.bool a.neg,.slice a.a a.xs.length a.c,.int .i64 a.e],.agg #[.bool b.neg,.slice b.a b.xs.length b.c,.int .i64 b.e],.int .i64 p] W (NumE W (muP a.dy b.dy p true).1 (muP a.dy b.dy p true).2):=by
 have:=rMulUp_of a b (p:Int) _ _ W (fun W' k'=>mul_rd a b p true W' (ha.1.kp k') (hb.1.kp k') (hT.kp k'))
 rwa [mulB_dy ha hb h0 h1 true] at this
def pairR (x y:RI):List (RD×RD):=[(x.lo,y.lo),(x.lo,y.hi),(x.hi,y.lo),(x.hi,y.hi)]
def pairCs (x y:RI):Array Value:=#[.bool x.lo.neg,.slice x.lo.a x.lo.xs.length x.lo.c,.int .i64 x.lo.e,.bool y.lo.neg,.slice y.lo.a y.lo.xs.length y.lo.c,.int .i64 y.lo.e,.bool x.lo.neg,.slice x.lo.a x.lo.xs.length x.lo.c,.int .i64 x.lo.e,.bool y.hi.neg,.slice y.hi.a y.hi.xs.length y.hi.c,.int .i64 y.hi.e,.bool x.hi.neg,.slice x.hi.a x.hi.xs.length x.hi.c,.int .i64 x.hi.e,.bool y.lo.neg,.slice y.lo.a y.lo.xs.length y.lo.c,.int .i64 y.lo.e,.bool x.hi.neg,.slice x.hi.a x.hi.xs.length x.hi.c,.int .i64 x.hi.e,.bool y.hi.neg,.slice y.hi.a y.hi.xs.length y.hi.c,.int .i64 y.hi.e]
theorem pairR_ok {w:World} {x y:RI} (ox:x.ok w) (oy:y.ok w) {k:Nat} {q:RD×RD} (h:(pairR x y)[k]? = some q):q.1.ok w∧q.2.ok w:=by
 have hm:=List.mem_of_getElem? h
 simp only[pairR,List.mem_cons,List.not_mem_nil,or_false] at hm
 rcases hm with rfl | rfl | rfl | rfl
 ·exact⟨ox.lo,oy.lo⟩
 ·exact⟨ox.lo,oy.hi⟩
 ·exact⟨ox.hi,oy.lo⟩
 exact⟨ox.hi,oy.hi⟩
theorem index4c (cs:Array Value) (k:Nat) (hk:k<4) (w:World) :
  (Instr.index 189 (.agg cs) (.int .i64 k)).run Tryz.prog w=.ok (.agg (cs.extract (k*6) (k*6+6))) w:=by
 have h:(0:Int)≤k∧(k:Int)<(4:Nat):=by omega
 simp[Instr.index,run_underlying Tryz.underlying189,asIntOf,h,go_sem]
 intro h4;omega
theorem index4 (x y:RI) (k:Nat) (q:RD×RD) (h:(pairR x y)[k]? = some q) (w:World) :
  (Instr.index 189 (.agg (pairCs x y)) (.int .i64 k)).run Tryz.prog w=.ok (.agg #[.bool q.1.neg,.slice q.1.a q.1.xs.length q.1.c,.int .i64 q.1.e,.bool q.2.neg,.slice q.2.a q.2.xs.length q.2.c,.int .i64 q.2.e]) w:=by
 have hk:k<4:=(List.getElem?_eq_some_iff.1 h).1
 rw[index4c _ _ hk]
 match k,h with
 | 0,h=>cases h;rfl
 | 1,h=>cases h;rfl
 | 2,h=>cases h;rfl
 | 3,h=>cases h;rfl
 | k+4,h=>simp[pairR] at h
theorem build4 (a0 a1 a2 a3 a4 a5 b0 b1 b2 b3 b4 b5 c0 c1 c2 c3 c4 c5 d0 d1 d2 d3 d4 d5:Value) (w:World) :
  (Instr.build 189 #[(0,.agg #[a0,a1,a2,a3,a4,a5]),(1,.agg #[b0,b1,b2,b3,b4,b5]),(2,.agg #[c0,c1,c2,c3,c4,c5]),(3,.agg #[d0,d1,d2,d3,d4,d5])]).run Tryz.prog w=.ok (.agg #[a0,a1,a2,a3,a4,a5,b0,b1,b2,b3,b4,b5,c0,c1,c2,c3,c4,c5,d0,d1,d2,d3,d4,d5]) w:=by kernel_rfl
theorem wpList_build4 {w:World} {ops:Array Oper} {rest:List Oper} {o:Oper} {a:Act} {Q:Exit→Act→World→Prop} (hgd:o.guard=none) (x0 x1 x2 x3:Operand)
  (ho:o.op=.build 189 #[(0,x0),(1,x1),(2,x2),(3,x3)]) (x y:RI)
  (h0:a.eval x0=.agg #[.bool x.lo.neg,.slice x.lo.a x.lo.xs.length x.lo.c,.int .i64 x.lo.e,.bool y.lo.neg,.slice y.lo.a y.lo.xs.length y.lo.c,.int .i64 y.lo.e]) (h1:a.eval x1=.agg #[.bool x.lo.neg,.slice x.lo.a x.lo.xs.length x.lo.c,.int .i64 x.lo.e,.bool y.hi.neg,.slice y.hi.a y.hi.xs.length y.hi.c,.int .i64 y.hi.e])
  (h2:a.eval x2=.agg #[.bool x.hi.neg,.slice x.hi.a x.hi.xs.length x.hi.c,.int .i64 x.hi.e,.bool y.lo.neg,.slice y.lo.a y.lo.xs.length y.lo.c,.int .i64 y.lo.e]) (h3:a.eval x3=.agg #[.bool x.hi.neg,.slice x.hi.a x.hi.xs.length x.hi.c,.int .i64 x.hi.e,.bool y.hi.neg,.slice y.hi.a y.hi.xs.length y.hi.c,.int .i64 y.hi.e])
  (h:wpList Tryz.prog ops Q rest (a.put o.dst (.agg (pairCs x y))) w):wpList Tryz.prog ops Q (o::rest) a w :=
 wpList_plain hgd fun _ hK=>by
  unfold Oper.wp execOp
  have e:(#[(0,x0),(1,x1),(2,x2),(3,x3)].map fun (i,x)=>((i:Nat),a.eval x))=#[(0,a.eval x0),(1,a.eval x1),(2,a.eval x2),(3,a.eval x3)]:=by simp
  simp only[ho,e,h0,h1,h2,h3,build4,Sem.run_bind,Result.andThen_ok]
  exact hK _ _ h
theorem wpList_storePairs {w:World} {ops:Array Oper} {rest:List Oper} {o:Oper} {a:Act} {Q:Exit→Act→World→Prop} (hgd:o.guard=none) (x1 y1:Operand)
  (ho:o.op=.store 189 x1 y1) (x y:RI) (g:Nat) (hx:a.eval x1=.pointer (some ⟨g,0,none⟩)) (hy:a.eval y1=.agg (pairCs x y))
  (old:Array Value) (hg:w.heap[g]? = some (.cells old 189 (0,0))) (hold:old.size=24)
  (h:wpList Tryz.prog ops Q rest (a.put o.dst undef) (w.setRow g (pairCs x y))):wpList Tryz.prog ops Q (o::rest) a w :=
 wpList_store_row hgd 189 x1 y1 ho g (pairCs x y) hx hy 189 old hg (show (Tryz.prog.info? 189).map (·.size)=some 24 by kernel_rfl) hold (by simp[pairCs,Value.oneCell']) h
def accP (k:Nat) (lo hi:RD):Option (Dy×Dy):=if k=0 then none else some (lo.dy,hi.dy)
def opP (p:Nat):Dy→Dy→Bool→Dy×Int:=fun a b up=>muP a b p up
def restP (x y:RI) (k:Nat):List (Dy×Dy):=((pairR x y).map (fun q=>(q.1.dy,q.2.dy))).drop k
theorem restP_cons {x y:RI} {k:Nat} {q:RD×RD} (h:(pairR x y)[k]? = some q):restP x y k=(q.1.dy,q.2.dy)::restP x y (k+1):=by
 unfold restP
 obtain⟨hk,e⟩:=List.getElem?_eq_some_iff.1 h
 rw[List.drop_eq_getElem_cons (by simpa using hk),List.getElem_map,e]
theorem four_err {p:Nat} {x y:RI} {k:Nat} {q:RD×RD} {acc:Option (Dy×Dy)} (h:(pairR x y)[k]? = some q) (e:(muP q.1.dy q.2.dy p false).2≠0∨(muP q.1.dy q.2.dy p true).2≠0):fourP (opP p) (restP x y k) acc=.whole:=by
 rw[restP_cons h];unfold fourP;exact if_pos e
theorem four_first {p:Nat} {x y:RI} {q:RD×RD} {lo hi l u:RD} (h:(pairR x y)[0]? = some q) (e1:(muP q.1.dy q.2.dy p false).2=0) (e2:(muP q.1.dy q.2.dy p true).2=0)
  (d1:l.dy=(muP q.1.dy q.2.dy p false).1) (d2:u.dy=(muP q.1.dy q.2.dy p true).1):fourP (opP p) (restP x y 0) (accP 0 lo hi)=fourP (opP p) (restP x y (0+1)) (accP (0+1) l u):=by
 rw[restP_cons h]
 have hn:¬ ((opP p q.1.dy q.2.dy false).2≠0∨(opP p q.1.dy q.2.dy true).2≠0):=by unfold opP;omega
 show fourP (opP p) ((q.1.dy,q.2.dy)::restP x y (0+1)) none=fourP (opP p) (restP x y (0+1)) (some (l.dy,u.dy))
 rw[fourP,if_neg hn,d1,d2]
 rfl
theorem four_next {p:Nat} {x y:RI} {k:Nat} {q:RD×RD} {lo hi l u:RD} (h:(pairR x y)[k]? = some q) (hk:k≠0) (e1:(muP q.1.dy q.2.dy p false).2=0) (e2:(muP q.1.dy q.2.dy p true).2=0)
  (d1:l.dy=(if (muP q.1.dy q.2.dy p false).1.iv<lo.iv then (muP q.1.dy q.2.dy p false).1 else lo.dy)) (d2:u.dy=(if hi.iv<(muP q.1.dy q.2.dy p true).1.iv then (muP q.1.dy q.2.dy p true).1 else hi.dy)):fourP (opP p) (restP x y k) (accP k lo hi)=fourP (opP p) (restP x y (k+1)) (accP (k+1) l u):=by
 rw[restP_cons h]
 have hn:¬ ((opP p q.1.dy q.2.dy false).2≠0∨(opP p q.1.dy q.2.dy true).2≠0):=by unfold opP;omega
 have ha:accP k lo hi=some (lo.dy,hi.dy):=by unfold accP;rw[if_neg hk]
 have hb:accP (k+1) l u=some (l.dy,u.dy):=by unfold accP;rw[if_neg (by omega)]
 rw[ha,hb,fourP,if_neg hn,d1,d2]
 rfl
theorem four_round {p:Nat} {x y:RI} {k:Nat} {a b lo hi l u z1 z2:RD} (h:(pairR x y)[k]? = some (a,b)) (e1:(muP a.dy b.dy p false).2=0) (e2:(muP a.dy b.dy p true).2=0)
  (d1:z1.dy=(muP a.dy b.dy p false).1) (d2:z2.dy=(muP a.dy b.dy p true).1) (hl:(k=0∨z1.iv<lo.iv→l.dy=z1.dy)∧(¬ (k=0∨z1.iv<lo.iv)→l.dy=lo.dy))
  (hu:(k=0∨hi.iv<z2.iv→u.dy=z2.dy)∧(¬ (k=0∨hi.iv<z2.iv)→u.dy=hi.dy)) (hle:lo.iv≤hi.iv) (h0:8≤p) (h1:p≤512) :
  fourP (opP p) (restP x y k) (accP k lo hi)=fourP (opP p) (restP x y (k+1)) (accP (k+1) l u)∧l.iv≤u.iv:=by
 have hm:=muP_le a.dy b.dy h0 h1 e1 e2
 have i1:z1.iv=(muP a.dy b.dy p false).1.iv:=congrArg Dy.iv d1
 have i2:z2.iv=(muP a.dy b.dy p true).1.iv:=congrArg Dy.iv d2
 constructor
 ·by_cases hk:k=0
  ·subst hk
   exact four_first h e1 e2 ((hl.1 (.inl rfl)).trans d1) ((hu.1 (.inl rfl)).trans d2)
  refine four_next h hk e1 e2 ?_ ?_
  ·show l.dy=if (muP a.dy b.dy p false).1.iv<lo.iv then (muP a.dy b.dy p false).1 else lo.dy
   split
   ·next hc=>exact (hl.1 (.inr (by omega))).trans d1
   next hc=>exact hl.2 (by omega)
  show u.dy=if hi.iv<(muP a.dy b.dy p true).1.iv then (muP a.dy b.dy p true).1 else hi.dy
  split
  ·next hc=>exact (hu.1 (.inr (by omega))).trans d2
  next hc=>exact hu.2 (by omega)
 have il:l.iv=z1.iv∨(l.iv=lo.iv∧¬ (k=0∨z1.iv<lo.iv)):=by
  by_cases hc:k=0∨z1.iv<lo.iv
  ·exact .inl (congrArg Dy.iv (hl.1 hc))
  ·exact .inr ⟨congrArg Dy.iv (hl.2 hc),hc⟩
 have iu:u.iv=z2.iv∨(u.iv=hi.iv∧¬ (k=0∨hi.iv<z2.iv)):=by
  by_cases hc:k=0∨hi.iv<z2.iv
  ·exact .inl (congrArg Dy.iv (hu.1 hc))
  ·exact .inr ⟨congrArg Dy.iv (hu.2 hc),hc⟩
 omega
theorem four_end {p:Nat} {x y:RI} {lo hi:RD}:fourP (opP p) (restP x y 4) (accP 4 lo hi)=⟨lo.dy,hi.dy,false⟩:=rfl
theorem stored70 {w:World} {g:Nat} {y0 y1 y2 y3 y4 y5 y6:Value} (h:Box7 w g y0 y1 y2 y3 y4 y5 y6)
  (n0:∀ n:Int,y0≠.int .u32 n) (n1:∀ n:Int,y1≠.int .u32 n) (n2:∀ n:Int,y2≠.int .u32 n) (x0 x1 x2:Value) (W:World)
  (hW:((w.setCell ⟨g,0,none⟩ x0).setCell ⟨g,1,none⟩ x1).setCell ⟨g,2,none⟩ x2=W):Box7 W g x0 x1 x2 y3 y4 y5 y6∧Upd g w W:=by
 obtain⟨h0,h1,h2,h3,h4,h5,h6⟩:=h
 have a1:=set_at (i:=0) (v:=x0) (by decide) h1
 have a2:=set_at (i:=1) (v:=x1) (by decide) (set_at (i:=0) (v:=x0) (by decide) h2)
 have U:=(((Upd.refl g w).step h0 n0 x0).step a1 n1 x1).step a2 n2 x2
 rw[← hW]
 refine⟨⟨?_,?_,cell_set_eq a2,?_,?_,?_,?_⟩,U⟩
 ·exact set_at (by decide) (set_at (by decide) (cell_set_eq h0))
 ·exact set_at (by decide) (cell_set_eq a1)
 ·exact set_at (by decide) (set_at (by decide) (set_at (by decide) h3))
 ·exact set_at (by decide) (set_at (by decide) (set_at (by decide) h4))
 ·exact set_at (by decide) (set_at (by decide) (set_at (by decide) h5))
 exact set_at (by decide) (set_at (by decide) (set_at (by decide) h6))
theorem stored73 {w:World} {g:Nat} {y0 y1 y2 y3 y4 y5 y6:Value} (h:Box7 w g y0 y1 y2 y3 y4 y5 y6)
  (n3:∀ n:Int,y3≠.int .u32 n) (n4:∀ n:Int,y4≠.int .u32 n) (n5:∀ n:Int,y5≠.int .u32 n) (x3 x4 x5:Value) (W:World)
  (hW:((w.setCell ⟨g,3,none⟩ x3).setCell ⟨g,4,none⟩ x4).setCell ⟨g,5,none⟩ x5=W):Box7 W g y0 y1 y2 x3 x4 x5 y6∧Upd g w W:=by
 obtain⟨h0,h1,h2,h3,h4,h5,h6⟩:=h
 have a4:=set_at (i:=3) (v:=x3) (by decide) h4
 have a5:=set_at (i:=4) (v:=x4) (by decide) (set_at (i:=3) (v:=x3) (by decide) h5)
 have U:=(((Upd.refl g w).step h3 n3 x3).step a4 n4 x4).step a5 n5 x5
 rw[← hW]
 refine⟨⟨?_,?_,?_,?_,?_,cell_set_eq a5,?_⟩,U⟩
 ·exact set_at (by decide) (set_at (by decide) (set_at (by decide) h0))
 ·exact set_at (by decide) (set_at (by decide) (set_at (by decide) h1))
 ·exact set_at (by decide) (set_at (by decide) (set_at (by decide) h2))
 ·exact set_at (by decide) (set_at (by decide) (cell_set_eq h3))
 ·exact set_at (by decide) (cell_set_eq a4)
 exact set_at (by decide) (set_at (by decide) (set_at (by decide) h6))
theorem Upd.frz {g b:Nat} {w W:World} (h:Upd g w W) (f:Frz w b):Frz W b:=by
 obtain⟨h1,_⟩:=h
 unfold Frz
 simp only[h1]
 exact f
theorem Upd.okD {g:Nat} {w W:World} (h:Upd g w W) {x:RD} (hx:x.ok w):x.ok W:=⟨h.rdD hx.1,hx.2⟩
end Go.Proofs.YtbhmhfnfceakoaaGreatDoor
