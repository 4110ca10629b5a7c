/-
  Walks: the law's long, wide, great, fine.
-/
import Derived.Deep.DeepFit
import Derived.Test.YteidgoldnllabaaGreatDoorMR2L
import Derived.Test.YteidgoldnllabaaGreatDoorMProdP
import Derived.Test.YteidgoldnllabaaGreatDoorMIvB
import Derived.Deep.LoopGhost
import Derived.Deep.RegionHeld3
import Derived.Test.YteidgoldnllabaaGreatDoorMRoE
import Derived.Test.YteidgoldnllabaaGreatDoorMOwnD
import Derived.Test.YteidgoldnllabaaGreatDoorMIvF4
import Derived.Test.YteidgoldnllabaaGreatDoorMKnuE
import Derived.Test.YteidgoldnllabaaGreatDoorMRoSq
namespace Go.Proofs.YteidgoldnllabaaGreatDoor
open Go.RowKit
def dvP (d f:Dy) (p:Nat) (up:Bool):Dy×Int :=
 if f.m=0 then (.zero,10) else if d.m=0 then (.zero,0) else rndE (quoR (d.neg != f.neg) d.m f.m (d.e-f.e) p up ((p:Int)+(2:Nat)+bits f.m-bits d.m).toNat)
theorem divB_dy {w w':World} {x y:RD} (hx:x.ok w) (hy:y.ok w') {p:Nat} (h0:8≤p) (h1:p≤512) (up:Bool):divB x y p up=dvP x.dy y.dy p up:=by
 unfold divB dvP quoK
 rw[if_pos (fltB_zero.2 ⟨by simp[hx.2,hy.2],by omega,by omega⟩)]
 have e1:(y.xs.length=0)=(y.dy.m=0):=propext (rdok_zero hy)
 have e2:(x.xs.length=0)=(x.dy.m=0):=propext (rdok_zero hx)
 simp only[e1,e2]
 rfl
theorem dvP_okd {d f:Dy} {p:Nat} (h0:8≤p) (h1:p≤512) (up:Bool):(dvP d f p up).1.ok:=by
 unfold dvP
 split
 ·exact Dy.ok_zero
 split
 ·exact Dy.ok_zero
 unfold quoR
 exact rndS_ok (by omega) (by omega)
theorem Below.both {B:Nat} {a w:World} (h:Below B a w) (p:Addr) (v:Value):Below B (a.setCell p v) (w.setCell p v):=by
 have h1:=Below.setCell (Below.refl 0 a) (p:=p) (Nat.zero_le _) v
 have h2:=Below.setCell (Below.refl 0 w) (p:=p) (Nat.zero_le _) v
 refine⟨h2.os.trans (h.os.trans h1.os.symm),h2.tape.trans (h.tape.trans h1.tape.symm),h2.output.trans (h.output.trans h1.output.symm),by simpa using h.size,fun k hk=>?_⟩
 by_cases e:k=p.block
 ·subst e
  have hb:=h.block p.block hk
  unfold World.setCell
  simp only[Array.getElem?_modify,hb]
 rw[Below.heap_setCell w p v k e,Below.heap_setCell a p v k e];exact h.block k hk
theorem Kp.both {a w:World} (h:Kp a w) (p:Addr) (v:Value):Kp (a.setCell p v) (w.setCell p v):=by
 have:=Below.both h p v
 unfold Kp
 simpa using this
theorem RD.rd.set {w:World} {x:RD} (h:x.rd w) {p:Addr} {u:Value} (hc:w.cell? p=some u) (hu:NoU u) (v:Value):x.rd (w.setCell p v):=⟨h.1.other hc hu,h.2⟩
theorem RI.rd.set {w:World} {x:RI} (h:x.rd w) {p:Addr} {u:Value} (hc:w.cell? p=some u) (hu:NoU u) (v:Value):x.rd (w.setCell p v):=⟨RD.rd.set h.1 hc hu v,RD.rd.set h.2 hc hu v⟩
theorem OwnE.set {wb w:World} {v:Value} {zs:List RD} (h:OwnE wb w v zs) {b i:Nat} {u:Value} (hb:b<wb.heap.size) (hc:w.cell? ⟨b,i,none⟩=some u) (hu:NoU u) (y:Value):OwnE (wb.setCell ⟨b,i,none⟩ y) (w.setCell ⟨b,i,none⟩ y) v zs:=by
 obtain⟨h1,h2,h3,h4⟩:=h
 have hv:v.ownBlock≠some b:=fun e=>by have:=(h2.lt b e).1;omega
 refine⟨h1.both _ _,?_,fun g hg j z hz=>?_,fun x hx=>RD.rd.set (h4 x hx) hc hu y⟩
 ·have:=ownsRow_setCell_other h2 (a:=⟨b,i,none⟩) hv y
  simpa using this
 rw[cell_set_ne (fun e=>by injection e with e1;subst e1;exact hv hg)] at hz
 exact h3 g hg j z hz
def RowDs (S:Nat) (w:World) (a:Option Addr) (zs:List RD):Prop:=RowD w a zs∧∀ p,a=some p→S≤p.block
theorem RowDs.kp {S:Nat} {w w':World} {a:Option Addr} {zs:List RD} (h:RowDs S w a zs) (k:Kp w w'):RowDs S w' a zs:=⟨h.1.kp k,h.2⟩
theorem RowDs.set {S:Nat} {w:World} {a:Option Addr} {zs:List RD} (h:RowDs S w a zs) {b i:Nat} {u:Value} (hb:b<S) (hc:w.cell? ⟨b,i,none⟩=some u) (hu:NoU u) (y:Value):RowDs S (w.setCell ⟨b,i,none⟩ y) a zs:=by
 refine⟨fun j x hj=>?_,h.2⟩
 obtain⟨g,o,e,hr,h0,h1,h2⟩:=h.1 j x hj
 have hg:S≤g:=h.2 _ e
 have d (k:Nat):(⟨b,i,none⟩:Addr)≠⟨g,k,none⟩:=fun e=>by injection e with e1;omega
 refine⟨g,o,e,RD.rd.set hr hc hu y,?_,?_,?_⟩ <;> (rw[cell_set_ne (d _)];assumption)
theorem RowDs.far {S:Nat} {w w':World} {v:Value} {a:Option Addr} {r:List RD} (h:RowDs S w a r) (hg:w.grownBy w' v.ownBlock) (hn:AllC NoU w v) (ho:Off v a w):RowDs S w' a r:=by
 refine⟨fun i x hi=>?_,h.2⟩
 obtain⟨b,o,e,hr,h0,h1,h2⟩:=h.1 i x hi
 obtain⟨hne,_⟩:=ho _ e
 have hne':∀ j,some (⟨b,j,none⟩:Addr).block≠v.ownBlock:=fun j e=>hne e.symm
 exact⟨b,o,e,hr.far hg hn,hg.cell h0 (hne' _),hg.cell h1 (hne' _),hg.cell h2 (hne' _)⟩
def RowNs (S:Nat) (w:World) (a:Option Addr) (m:List (List RD)):Prop :=
 ∀ (i:Nat) (r:List RD),m[i]? = some r→∃ b o ra rc,a=some ⟨b,o,none⟩∧S≤b∧w.cell? ⟨b,o+i,none⟩=some (.slice ra r.length rc)∧RowDs S w ra r∧r.length≤1100000
theorem RowNs.row {S:Nat} {w:World} {a:Option Addr} {m:List (List RD)} (h:RowNs S w a m):RowN w a m:=fun i r hi=>by
 obtain⟨b,o,ra,rc,e,_,hc,hr,hl⟩:=h i r hi
 exact⟨b,o,ra,rc,e,hc,hr.1,hl⟩
theorem RowNs.kp {S:Nat} {w w':World} {a:Option Addr} {m:List (List RD)} (h:RowNs S w a m) (k:Kp w w'):RowNs S w' a m:=fun i r hi=>by
 obtain⟨b,o,ra,rc,e,hs,hc,hr,hl⟩:=h i r hi
 exact⟨b,o,ra,rc,e,hs,k.cell hc,hr.kp k,hl⟩
theorem RowNs.set {S:Nat} {w:World} {a:Option Addr} {m:List (List RD)} (h:RowNs S w a m) {b i:Nat} {u:Value} (hb:b<S) (hc:w.cell? ⟨b,i,none⟩=some u) (hu:NoU u) (y:Value):RowNs S (w.setCell ⟨b,i,none⟩ y) a m:=fun j r hj=>by
 obtain⟨g,o,ra,rc,e,hs,hq,hr,hl⟩:=h j r hj
 refine⟨g,o,ra,rc,e,hs,?_,RowDs.set hr hb hc hu y,hl⟩
 rw[cell_set_ne (fun e=>by injection e with e1;omega)];exact hq
def OwnX (S:Nat) (wb w:World) (v:Value) (us:List Value) (R:List (List RD)):Prop :=
 (Kp wb w∧S≤wb.heap.size)∧w.ownsRow wb.heap.size 291 1 v us.length us∧AllC NoU w v∧us.length=R.length ∧
 ∀ (i:Nat) (r:List RD),R[i]? = some r→r.length≤1100000∧∃ ra rc,us[i]? = some (Value.slice ra r.length rc)∧RowDs S w ra r∧Off v ra w
theorem OwnX.nil {S:Nat} {wb w:World} (k:Kp wb w) (hS:S≤wb.heap.size):OwnX S wb w (.slice none 0 0) [] []:=⟨⟨k,hS⟩,World.ownsRow_nil _ _ _ _,AllC.nil _ _,rfl,fun i r h=>by simp at h⟩
theorem OwnX.kp {S:Nat} {wb w w':World} {v:Value} {us:List Value} {R:List (List RD)} (h:OwnX S wb w v us R) (k:Kp w w'):OwnX S wb w' v us R:=by
 obtain⟨h1,h2,h3,h4,h5⟩:=h
 refine⟨⟨h1.1.trans k,h1.2⟩,Kp.owns h2 k,h3.kp h2 k,h4,fun i r hi=>?_⟩
 obtain⟨q1,ra,rc,q2,q3,q4⟩:=h5 i r hi
 exact⟨q1,ra,rc,q2,q3.kp k,q4.kp k.size⟩
theorem OwnX.set {S:Nat} {wb w:World} {v:Value} {us:List Value} {R:List (List RD)} (h:OwnX S wb w v us R) {b i:Nat} {u:Value} (hb:b<S) (hc:w.cell? ⟨b,i,none⟩=some u) (hu:NoU u) (y:Value):OwnX S (wb.setCell ⟨b,i,none⟩ y) (w.setCell ⟨b,i,none⟩ y) v us R:=by
 obtain⟨h1,h2,h3,h4,h5⟩:=h
 have hv:v.ownBlock≠some b:=fun e=>by have:=(h2.lt b e).1;have:=h1.2;omega
 refine⟨⟨h1.1.both _ _,by simpa using h1.2⟩,?_,fun g hg j z hz=>?_,h4,fun j r hj=>?_⟩
 ·have:=ownsRow_setCell_other h2 (a:=⟨b,i,none⟩) hv y
  simpa using this
 ·rw[cell_set_ne (fun e=>by injection e with e1;subst e1;exact hv hg)] at hz
  exact h3 g hg j z hz
 obtain⟨q1,ra,rc,q2,q3,q4⟩:=h5 j r hj
 exact⟨q1,ra,rc,q2,q3.set hb hc hu y,q4.kp (by simp)⟩
theorem OwnX.value {S:Nat} {wb w:World} {v:Value} {us:List Value} {R:List (List RD)} (h:OwnX S wb w v us R):∃ a c,v=.slice a R.length c∧R.length≤c∧c≤maxLen∧RowNs S w a R:=by
 obtain⟨h1,⟨h2,h3⟩,h6,h4,h5⟩:=h
 rcases h3 with ⟨rfl,h3⟩ | ⟨g,cap,cur,rfl,hb,hg,hn,hc,hs,ht⟩
 ·have h0:R=[]:=List.length_eq_zero_iff.1 (by omega)
  subst h0
  exact⟨none,0,rfl,Nat.le_refl _,by decide,fun i x hi=>by simp at hi⟩
 rw[h4]
 refine⟨_,_,rfl,by omega,hc,fun i r hi=>?_⟩
 obtain⟨q1,ra,rc,q2,q3,q4⟩:=h5 i r hi
 have hil:i<us.length:=(List.getElem?_eq_some_iff.1 q2).1
 refine⟨g,0,ra,rc,rfl,by have:=h1.2;omega,?_,q3,q1⟩
 rw[Nat.zero_add,cell_of_row w g _ cur _ _ hg]
 have h7:(cur.toList.take (us.length*1))[i]? = some (.slice ra r.length rc):=by rw[ht];exact q2
 rw[List.getElem?_take,if_pos (by omega)] at h7
 simpa using h7
theorem OwnX.new {S:Nat} {wb w:World} {v:Value} {us:List Value} {R:List (List RD)} (h:OwnX S wb w v us R):∀ g,v.ownBlock=some g→g<w.heap.size:=fun g hg=>(h.2.1.lt g hg).2
theorem OwnE.new {wb w:World} {v:Value} {zs:List RD} (h:OwnE wb w v zs):∀ g,v.ownBlock=some g→g<w.heap.size:=fun g hg=>(h.2.1.lt g hg).2
theorem OwnE.row {S:Nat} {wo w:World} {v u:Value} {zs:List RD} {a:Option Addr} {n c:Nat} (h:OwnE wo w v zs) (hS:S≤wo.heap.size) (hv:v=.slice a n c) (hr:RowD w a zs) (hu:∀ g,u.ownBlock=some g→g<wo.heap.size):RowDs S w a zs∧Off u a w:=by
 subst hv
 have hl:=h.new
 obtain⟨_,⟨_,hq⟩,_⟩:=h
 rcases hq with ⟨e,_⟩ | ⟨b,cap,cu,e,hb,_⟩
 ·cases e
  exact⟨⟨hr,fun p hp=>by cases hp⟩,fun p hp=>by cases hp⟩
 cases e
 have:=hl b rfl
 refine⟨⟨hr,fun p hp=>?_⟩,fun p hp=>?_⟩
 ·cases hp;exact Nat.le_trans hS hb
 cases hp
 exact⟨fun e=>by have h9:b<wo.heap.size:=hu _ e;omega,by show b<_;omega⟩
def HasD (w0 w:World) (g:Nat) (z:RD) (d:Dy):Prop:=(w.cell? ⟨g,0,none⟩=some (.bool z.neg)∧w.cell? ⟨g,1,none⟩=some (.slice z.a z.xs.length z.c)∧w.cell? ⟨g,2,none⟩=some (.int .i64 z.e))∧z.ok w∧z.dy=d∧Kp w0 w∧w0.heap.size≤g
theorem HasD.kp {w0 w w':World} {g:Nat} {z:RD} {d:Dy} (h:HasD w0 w g z d) (k:Kp w w'):HasD w0 w' g z d :=
 ⟨keep3 k h.1,h.2.1.kp k,h.2.2.1,h.2.2.2.1.trans k,h.2.2.2.2⟩
theorem hasD_alloc {w0 w:World} {z:RD} {d:Dy} (hz:z.ok w) (hd:z.dy=d) (k:Kp w0 w) (t:TypeId):HasD w0 (w.alloc (.cells #[.bool z.neg,.slice z.a z.xs.length z.c,.int .i64 z.e] t)) w.heap.size z d :=
 ⟨by simp,hz.kp ((Kp.refl w).alloc _),hd,k.alloc _,k.size⟩
theorem hasD_store {w0 w:World} {g:Nat} {y0 y1 y2:Value} (hB:Box3 w g y0 y1 y2) (n0:∀ n:Int,y0≠.int .u32 n) (n1:∀ n:Int,y1≠.int .u32 n) (n2:∀ n:Int,y2≠.int .u32 n)
  {z:RD} {d:Dy} (hz:z.ok w) (hd:z.dy=d) (k:Kp w0 w) (hg:w0.heap.size≤g) :
  HasD w0 (((w.setCell ⟨g,0,none⟩ (.bool z.neg)).setCell ⟨g,1,none⟩ (.slice z.a z.xs.length z.c)).setCell ⟨g,2,none⟩ (.int .i64 z.e)) g z d:=by
 obtain⟨s0,s1,s2,_,s4,s5,_,_⟩:=stored hB.1 hB.2.1 hB.2.2.1 n0 n1 n2 (.bool z.neg) (.slice z.a z.xs.length z.c) (.int .i64 z.e)
 exact⟨⟨s0,s1,s2⟩,⟨⟨s4 _ _ hz.1.1,hz.1.2⟩,hz.2⟩,hd,s5 _ k hg,hg⟩
end Go.Proofs.YteidgoldnllabaaGreatDoor
