/-
  Walks: slices.Equal at texts; the law's v, num, op.
-/
import Derived.Test.YteidgoldnllabaaGreatDoorTWalN
import Derived.Deep.RegionHeld3
import Derived.Test.YteidgoldnllabaaGreatDoorRows
import Derived.Deep.Slices
import Derived.ChangeArms
import Derived.OpenShut
import Derived.OpenVars
import Derived.ProofKit
import Derived.WideKeyArgs
import Derived.ChangeSame
import Derived.JoinedCond
import Derived.Deep.DeepHandedRow
import Derived.Test.YteidgoldnllabaaGreatDoorTIdxX
set_option maxHeartbeats 2000000
set_option maxRecDepth 20000
namespace Go.Proofs.YteidgoldnllabaaGreatDoor
open Go.RowKit
open Lib (hid)
section
open Go.RowKit Go.Sort Go.Shelf
theorem rowS_cells {w:World} {a:Option Addr} {ss:List ByteArray} (h:RowS w a ss) (hn:ss≠[]):∃ b o,a=some ⟨b,o,none⟩∧∀ j,j<ss.length→w.cell? ⟨b,o+j,none⟩=some (.string (ss.getD j ByteArray.empty)):=by
 cases ss with
 | nil=>exact absurd rfl hn
 | cons s t =>
 obtain⟨b,o,e,_⟩:=h 0 s rfl
 refine⟨b,o,e,fun j hj=>?_⟩
 obtain⟨b',o',e',hc⟩:=h j _ (List.getElem?_eq_getElem hj)
 rw[e] at e'
 cases e'
 rw[hc,List.getD_eq_getElem?_getD,List.getElem?_eq_getElem hj]
 rfl
theorem rowS_own {w:World} {base:Nat} {v:Value} {ss:List ByteArray} (h:OwnS w base v (ss.map (·.data.toList))):∃ a c,v=.slice a ss.length c∧RowS w a ss:=by
 have hn:(ss.map (·.data.toList)).length=ss.length:=List.length_map _
 rcases h.2 with ⟨rfl,h3⟩ | ⟨g,cap,cur,rfl,hb,hg,hn2,hc,hs,ht⟩
 ·have h0:ss=[]:=List.length_eq_zero_iff.1 (by rw[← hn];exact h3)
  subst h0
  exact⟨none,0,rfl,fun i s hs=>by simp at hs⟩
 refine⟨_,cap,by rw[hn],fun i s hs=>⟨g,0,rfl,?_⟩⟩
 have hil:i<ss.length:=(List.getElem?_eq_some_iff.1 hs).1
 rw[Nat.zero_add,cell_of_row w g _ cur _ _ hg]
 have h5:(cur.toList.take ((ss.map (·.data.toList)).length*1))[i]? = some (.string s):=by
  rw[ht,Lib.map_encStr,List.getElem?_map,hs];rfl
 rw[List.getElem?_take,if_pos (by rw[hn];omega)] at h5
 simpa using h5
end
section
def nX:ByteArray:=⟨#[120]⟩
def nY:ByteArray:=⟨#[121]⟩
theorem nX_name:nameB nX=true:=by kernel_rfl
theorem nY_name:nameB nY=true:=by kernel_rfl
end
section
open Go.RowKit Go.Sort Go.Shelf
abbrev rowYc:Obj:=.cells #[.int .i64 2,.int .i64 0,.int .i64 0,.string ⟨#[121]⟩,.int .i64 0,.slice none 0 0] 71
abbrev zeroXc:Obj:=.cells #[.int .i64 0,.int .i64 0,.int .i64 0,.string ⟨#[]⟩,.int .i64 0,.slice none 0 0] 71
end
section
open Go.ChangeShapes Go.WideShapes Go.ChangeAt Go.RowKit Go.Deep
theorem ownKnobs:ownKnob Tryz.prog.godebug=none:=by kernel_rfl
theorem laidOutSeat:laidOutB Tryz.prog=true:=by kernel_rfl
section
variable {H:Type}
theorem bulk_one (d:DataW H):1≤Rows.uptoBulk d:=by
 cases d with
 | nil=>simp[Rows.uptoBulk]
 | ptr d=>simp[Rows.uptoBulk]
 | slice elems spare=>simp[Rows.uptoBulk]
 | agg parts=>simp[Rows.uptoBulk]
 | iface t d=>simp[Rows.uptoBulk]
 | map entries=>simp[Rows.uptoBulk]
 | held h=>simp[Rows.uptoBulk]
 | lit l=>cases l <;> simp[Rows.uptoBulk]
theorem bulk_part {d:DataW H} {l:List (DataW H)} (h:d∈l):Rows.uptoBulk d≤Rows.uptoBulkAll l:=by
 induction l with
 | nil=>cases h
 | cons x r ih =>
  simp only[Rows.uptoBulkAll]
  cases List.mem_cons.1 h with
  | inl e=>subst e;omega
  | inr e=>have:=ih e;omega
theorem bulk_len (l:List (DataW H)):l.length≤Rows.uptoBulkAll l:=by
 induction l with
 | nil=>simp[Rows.uptoBulkAll]
 | cons x r ih=>have:=bulk_one x;simp only[Rows.uptoBulkAll,List.length_cons];omega
theorem bulk_slice (elems spare:List (DataW H)):elems.length≤Rows.uptoBulk (.slice elems spare):=by
 have h1:=bulk_len elems
 simp only[Rows.uptoBulk]
 omega
theorem bulk_elem {elems spare:List (DataW H)} {d:DataW H} (h:d∈elems):Rows.uptoBulk d≤Rows.uptoBulk (.slice elems spare):=by
 have:=bulk_part h
 simp only[Rows.uptoBulk]
 omega
theorem bulk_agg {parts:List (DataW H)} {d:DataW H} (h:d∈parts):Rows.uptoBulk d≤Rows.uptoBulk (.agg parts):=by
 have:=bulk_part h
 simp only[Rows.uptoBulk]
 omega
theorem bulk_bound {l:List (DataW H)} {d:DataW H} (hk:Rows.uptoSmall H l=true) (h:d∈l):Rows.uptoBulk d≤1048576 :=
 Nat.le_trans (bulk_part h) (of_decide_eq_true hk)
end
section
variable {H:Type} {enc:TypeId×Value→H} {w:World} {base:Nat} {spare:Nat→Bool} {held:Bool}
theorem cell_spot {a:Addr} {v:Value} (h:w.cell? (a.add 0)=some v):∃ b o,a=⟨b,o,none⟩:=by
 obtain⟨b,o,spot⟩:=a
 have hspot:spot=none:=by simpa [Addr.add] using World.cell?_spot h
 subst hspot
 exact⟨b,o,rfl⟩
theorem cellsE:Tryz.prog.cellsOf 71=6:=by kernel_rfl
theorem cellsR:Tryz.prog.cellsOf 25=2:=by kernel_rfl
theorem cellsI:Tryz.prog.cellsOf 3=1:=by kernel_rfl
theorem cellsSt:Tryz.prog.cellsOf 9=1:=by kernel_rfl
theorem cellsL:Tryz.prog.cellsOf 69=1:=by kernel_rfl
theorem list6 {α:Type} {l:List α} (h:l.length=6):∃ a b c d e f,l=[a,b,c,d,e,f]:=by
 match l,h with
 | [a,b,c,d,e,f],_=>exact⟨a,b,c,d,e,f,rfl⟩
theorem list5 {α:Type} {l:List α} (h:l.length=5):∃ a b c d e,l=[a,b,c,d,e]:=by
 match l,h with
 | [a,b,c,d,e],_=>exact⟨a,b,c,d,e,rfl⟩
theorem list2 {α:Type} {l:List α} (h:l.length=2):∃ a b,l=[a,b]:=by
 match l,h with
 | [a,b],_=>exact⟨a,b,rfl⟩
theorem choose_ex {n:Nat} {p:Nat→Ex→Prop} (h:∀ i,i<n→∃ y,p i y):∃ f:Nat→Ex,∀ i,i<n→p i (f i):=by
 refine⟨fun i=>if hi:i<n then Classical.choose (h i hi) else .mk 0 0 0 ByteArray.empty 0 none 0 [],fun i hi=>?_⟩
 dsimp only
 rw[dif_pos hi]
 exact Classical.choose_spec (h i hi)
theorem open_ex:∀ (N fuel:Nat) (cs:List Value) (x:DataW H×List MemPlace),fuel≤N→DataW.trod enc Tryz.prog w base spare held fuel 71 cs=some x→Rows.uptoBulk x.1≤1048576→∃ e:Ex,cs=[.int .i64 e.kind,.int .i64 e.rn,.int .i64 e.rd,.string e.name,.int .i64 e.pw,.slice e.a e.l.length e.c]∧e.at w w.heap.size
 | 0,fuel,cs,x,hN,h,hb=>by
  obtain rfl:fuel=0:=by omega
  simp[DataW.trod] at h
 | N+1,fuel,cs,x,hN,h,hb=>by
  obtain⟨xs,n,hfu,hx,hlen,hxl,hf⟩:=DataW.trod_struct Tryz.underlying71 h
  replace hlen:=hlen.trans cellsE
  obtain⟨c0,c1,c2,c3,c4,c5,rfl⟩:=list6 hlen
  obtain⟨y0,y1,y2,y3,y4,rfl⟩:=list5 hxl
  have h0:DataW.trod enc Tryz.prog w base spare held n 3 (([c0,c1,c2,c3,c4,c5].drop 0).take (Tryz.prog.cellsOf 3))=some y0:=hf 0 _ rfl
  have h1:DataW.trod enc Tryz.prog w base spare held n 25 (([c0,c1,c2,c3,c4,c5].drop 1).take (Tryz.prog.cellsOf 25))=some y1:=hf 1 _ rfl
  have h2:DataW.trod enc Tryz.prog w base spare held n 9 (([c0,c1,c2,c3,c4,c5].drop 3).take (Tryz.prog.cellsOf 9))=some y2:=hf 2 _ rfl
  have h3:DataW.trod enc Tryz.prog w base spare held n 3 (([c0,c1,c2,c3,c4,c5].drop 4).take (Tryz.prog.cellsOf 3))=some y3:=hf 3 _ rfl
  have h4:DataW.trod enc Tryz.prog w base spare held n 69 (([c0,c1,c2,c3,c4,c5].drop 5).take (Tryz.prog.cellsOf 69))=some y4:=hf 4 _ rfl
  rw[cellsI] at h0 h3
  rw[cellsR] at h1
  rw[cellsSt] at h2
  rw[cellsL] at h4
  have h0:DataW.trod enc Tryz.prog w base spare held n 3 [c0]=some y0:=h0
  have h1:DataW.trod enc Tryz.prog w base spare held n 25 [c1,c2]=some y1:=h1
  have h2:DataW.trod enc Tryz.prog w base spare held n 9 [c3]=some y2:=h2
  have h3:DataW.trod enc Tryz.prog w base spare held n 3 [c4]=some y3:=h3
  have h4:DataW.trod enc Tryz.prog w base spare held n 69 [c5]=some y4:=h4
  have b4:Rows.uptoBulk y4.1≤Rows.uptoBulk x.1:=by rw[hx];exact bulk_agg (by simp)
  obtain⟨k,e0,_,_⟩:=DataW.trod_int Tryz.underlying3 h0
  obtain⟨p,e3,_,_⟩:=DataW.trod_int Tryz.underlying3 h3
  obtain⟨s,e2,_,hs⟩:=DataW.trod_string Tryz.underlying9 h2
  obtain⟨zs,n2,_,_,hzl,hzz,hg⟩:=DataW.trod_struct Tryz.underlying25 h1
  obtain⟨z0,z1,rfl⟩:=list2 hzz
  have g0:DataW.trod enc Tryz.prog w base spare held n2 3 (([c1,c2].drop 0).take (Tryz.prog.cellsOf 3))=some z0:=hg 0 _ rfl
  have g1:DataW.trod enc Tryz.prog w base spare held n2 3 (([c1,c2].drop 1).take (Tryz.prog.cellsOf 3))=some z1:=hg 1 _ rfl
  rw[cellsI] at g0 g1
  have g0:DataW.trod enc Tryz.prog w base spare held n2 3 [c1]=some z0:=g0
  have g1:DataW.trod enc Tryz.prog w base spare held n2 3 [c2]=some z1:=g1
  obtain⟨r,e1,_,_⟩:=DataW.trod_int Tryz.underlying3 g0
  obtain⟨d,e1',_,_⟩:=DataW.trod_int Tryz.underlying3 g1
  simp only[List.cons.injEq,and_true] at e0 e1 e1' e2 e3
  subst e0 e1 e1' e2 e3
  rcases DataW.trod_slice Tryz.underlying69 h4 with ⟨hcs,hx4⟩ | ⟨a,len,cap,elems,rest,n3,hfu2,hcs,hx4,_,hl,hm,hel,hi,_⟩
  ·obtain hcs:=(List.cons.inj hcs).1
   subst hcs
   exact⟨.mk k r d s p none 0 [],rfl,Ex.at_iff.2 ⟨⟨Nat.le_refl _,Nat.zero_le _,hs,Nat.zero_le _⟩,fun i x hx=>by simp[Ex.l] at hx,fun x hx=>by simp[Ex.l] at hx⟩⟩
  ·obtain hcs:=(List.cons.inj hcs).1
   subst hcs
   have hll:len≤1048576:=by
    refine Nat.le_trans ?_ (Nat.le_trans b4 hb)
    rw[hx4]
    refine Nat.le_trans ?_ (bulk_slice _ _)
    rw[List.length_map,hel]
    exact Nat.le_refl _
   obtain⟨f,hf'⟩:=choose_ex (n:=len) (p:=fun i y=>w.cells? base (a.add (i*6)) 6=some [.int .i64 y.kind,.int .i64 y.rn,.int .i64 y.rd,.string y.name,.int .i64 y.pw,.slice y.a y.l.length y.c]∧y.at w w.heap.size) (fun i hil=>by
    have h5:=hi i hil
    rw[cellsE,List.getElem?_eq_getElem (by omega)] at h5
    cases hc:w.cells? base (a.add (i*6)) 6 with
    | none=>rw[hc] at h5;cases h5
    | some cs' =>
     rw[hc] at h5
     have h6:DataW.trod enc Tryz.prog w base spare held n3 71 cs'=some (elems[i]'(by omega)):=h5
     obtain⟨y,e,hr⟩:=open_ex N n3 cs' _ (by omega) h6 (by
      refine Nat.le_trans ?_ (Nat.le_trans b4 hb)
      rw[hx4]
      exact bulk_elem (List.mem_map.2 ⟨_,List.getElem_mem _,rfl⟩))
     exact⟨y,by rw[e],hr⟩)
   have hfl:((List.range len).map f).length=len:=by simp
   refine⟨.mk k r d s p (some a) cap ((List.range len).map f),?_,Ex.at_iff.2 ⟨⟨?_,hm,hs,?_⟩,fun i x hx=>?_,fun x hx=>?_⟩⟩
   ·show _=[Value.int .i64 k,.int .i64 r,.int .i64 d,.string s,.int .i64 p,.slice (some a) ((List.range len).map f).length cap]
    rw[hfl]
   ·show ((List.range len).map f).length≤cap
    rw[hfl];exact hl
   ·show ((List.range len).map f).length≤1048576
    rw[hfl];exact hll
   ·have hil:i<len:=by have:=(List.getElem?_eq_some_iff.1 (show ((List.range len).map f)[i]? = some x from hx)).1;rwa [hfl] at this
    have hx:((List.range len).map f)[i]? = some x:=hx
    rw[List.getElem?_map,List.getElem?_range hil] at hx
    cases hx
    obtain⟨h1,h2⟩:=hf' i hil
    obtain⟨_,_,hat⟩:=World.cells?_some h1
    have h0':=hf' 0 (by omega)
    have hspot:∃ b o,a=⟨b,o,none⟩:=by
     obtain⟨_,_,hat0⟩:=World.cells?_some h0'.1
     have:=hat0 0 (by decide)
     rw[Nat.zero_mul,add_add] at this
     exact cell_spot this
    obtain⟨b,o,rfl⟩:=hspot
    have key (j:Nat) (hj:j<6) (u:Value) (hu:([.int .i64 (f i).kind,.int .i64 (f i).rn,.int .i64 (f i).rd,.string (f i).name,.int .i64 (f i).pw,.slice (f i).a (f i).l.length (f i).c]:List Value)[j]? = some u):w.cell? ⟨b,o+i*6+j,none⟩=some u:=by
     have:=hat j hj
     rw[add_add,Addr.add_lit,hu,← Nat.add_assoc] at this
     exact this
    exact⟨b,o,rfl,cell_ltT (key 0 (by decide) _ rfl),key 0 (by decide) _ rfl,key 1 (by decide) _ rfl,key 2 (by decide) _ rfl,key 3 (by decide) _ rfl,key 4 (by decide) _ rfl,key 5 (by decide) _ rfl⟩
   ·obtain⟨i,hi',rfl⟩:=List.mem_map.1 (show x∈(List.range len).map f from hx)
    exact (hf' i (List.mem_range.1 hi')).2
end
section
variable {H:Type} {enc:TypeId×Value→H} {P:Program}
theorem post_of_below {f:Func} {s:ChangeSpec} {apart fresh handsOn again:Bool} {W W':World} {args:Array Value} {v:Value} {ds gs:List (DataW H)} {before pa pv:List MemPlace}
  (hW:DataW.Whole enc P f.params.toList s.vars apart W args.toList ds gs before)
  (hres:∀ (b:Nat) (sp:Nat→Bool) (hd:Bool),DataW.TrodAll enc P W' b sp hd f.resultTypes.toList (v.resultList f.resultTypes.size) (s.fn H (ds++gs)).results [])
  (hargs:∀ sp:Nat→Bool,(∀ p∈before,sp p.block=true)→DataW.TrodAll enc P W' 0 sp true f.params.toList args.toList (s.fn H (ds++gs)).args pa)
  (hvars:∀ sp:Nat→Bool,(∀ p∈before,sp p.block=true)→DataW.TrodVars enc P W' sp s.vars (s.fn H (ds++gs)).vars pv)
  (hps:before=pa++pv) (hb:Below W.heap.size W W')
  (hok:∀ (j:Nat) (t:TypeId) (r:Value),f.resultTypes[j]? = some t→(v.resultList f.resultTypes.size)[j]? = some r→Value.okWide P W' .any 0 t r) :
  s.post enc P f apart fresh handsOn again W args v W':=by
 have hlt:∀ p∈before,p.block<W.heap.size:=fun p hp=>hW.lt p hp
 have hold:∀ p∈before,(fun b=>decide (b<W.heap.size)) p.block=true:=fun p hp=>by simpa using hlt p hp
 refine⟨ds,gs,before,[],pa,pv,hW,hres _ _ _,hargs _ hold,hvars _ hold,World.keptBut_mono (fun p hp=>⟨hp,?_⟩) (hb.frame (·∈before)),fun _=>?_⟩
 ·rw[hps,List.mem_append] at hp
  exact Or.inr hp
 obtain⟨_,_,_,_,_,hz,hn⟩:=hW
 refine⟨hok,_,_,([]++pa)++pv,⟨[]++pa,pv,trodAll_append (hargs _ (fun _ _=>rfl)) (hres _ _ _),hvars _ (fun _ _=>rfl),rfl,?_,?_⟩,?_⟩
 ·intro b off hp
  have hin:MemPlace.cell b off∈before:=by rw[hps];simpa using hp
  rw[hb.frozen (hlt _ hin)]
  exact hz b off hin
 ·intro ha
  have:=hn ha
  rw[hps] at this
  simpa using this
 intro p hp _
 rw[hps]
 simpa using hp
end
end
section
open Go.RowKit Go.Sort
end
section
open Go.RowKit Go.Sort
def argsK (k:Int):Int:=if 1≤k∧k≤2 then 0 else opsK k
theorem args_any (k:Int) (w:World):Calls Tryz.prog 240 #[.int .i64 k] w fun e w'=>e=.returned (.int .i64 (argsK k))∧w'=w:=by
 have hk:=hid (show argsK k=if 1≤k∧k≤2 then 0 else if 3≤k∧k≤6 then 2 else if 7≤k∧k≤13 then 1 else -1 from rfl)
 go_enter Tryz.func240,Tryz.ntmps240
 go_wp2
 all_goals go_ret
 all_goals refine⟨ret_int ?_,rfl⟩
 all_goals rw[hk.out]
 all_goals simp only[beq_iff_eq,beq_eq_false_iff_ne,ne_eq] at *
 all_goals (split <;> (try split) <;> (try split) <;> omega)
theorem r4size_any (n:Int) (w:World) (h0:-1073741824≤n) (h1:n≤1073741824):Calls Tryz.prog 82 #[.int .i64 n] w fun e w'=>e=.returned (.int .u64 (n.natAbs:Int))∧w'=w:=by
 go_enter Tryz.func82,Tryz.ntmps82
 by_cases hn:n<0
 ·go_wp2
  go_ret
  refine⟨ret_int ?_,rfl⟩
  omega
 go_wp2
 go_ret
 refine⟨ret_int ?_,rfl⟩
 omega
theorem r4gcd_any (a b:Nat) (w:World) (ha:a≤1073741824) (hb:b≤1073741824):Calls Tryz.prog 81 #[.int .u64 (a:Int),.int .u64 (b:Int)] w fun e w'=>e=.returned (.int .u64 ((Nat.gcd a b:Nat):Int))∧∃ m,w'=w.drewN m:=by
 go_enter Tryz.func81,Tryz.ntmps81
 go_wp2
 go_loopw [0,1] (fun x y wr=>∃ c d:Nat,x=.int .u64 (c:Int)∧y=.int .u64 (d:Int)∧c≤1073741824∧d≤1073741824∧Nat.gcd c d=Nat.gcd a b∧∃ m,wr=w.drewN m) (fun _ y _=>(intOf y).toNat)
 case atStart=>exact⟨a,b,rfl,rfl,ha,hb,rfl,0,rfl⟩
 case round =>
 obtain⟨c,d,rfl,rfl,hc,hd,hg,q,rfl⟩:=hrel
 have Hg:=hid hg;clear hg
 by_cases h0:d=0
 ·subst h0
  go_wp2
  go_ret
  exact⟨ret_int (by rw[← Hg.out,Nat.gcd_zero_right]),q,rfl⟩
 have h1:((d:Int) != 0)=true:=by rw[bne_iff_ne];omega
 have h2:(d:Int)≠0:=by omega
 have hm:((c:Int) % (d:Int))=((c % d:Nat):Int):=by omega
 have hlt:c % d<d:=Nat.mod_lt _ (by omega)
 have hle:c % d≤1073741824:=by omega
 have hgc:Nat.gcd d (c % d)=Nat.gcd c d:=by rw[Nat.gcd_comm c d,Nat.gcd_rec d c,Nat.gcd_comm]
 have Hm:=hid hm
 have Hc:=hid hgc
 clear hm hgc h0
 go_wp2
 go_region
 go_wp2
 go_roundw
 case measure=>simp[intOf];omega
 case rel=>exact⟨d,c % d,rfl,by rw[Hm.out],hd,hle,by rw[Hc.out,Hg.out],q+1,rfl⟩
theorem kp_drewN {w w':World} (h:∃ m,w'=w.drewN m):Kp w w':=by
 obtain⟨m,rfl⟩:=h
 exact (Kp.refl w).drewN m
theorem r4valid_any (n d:Int) (w:World):Calls Tryz.prog 27 #[.agg #[.int .i64 n,.int .i64 d]] w fun e w'=>e=.returned (.bool (ratB n d))∧Kp w w':=by
 have Hr:=hid (ratB_iff n d)
 have k1:Kp w (w.alloc (.cells #[.int .i64 n,.int .i64 d] 25)):=(Kp.refl w).alloc _
 have hS:(w.alloc (.cells #[.int .i64 n,.int .i64 d] 25)).cell? ⟨w.heap.size,0,none⟩=some (.int .i64 n)∧(w.alloc (.cells #[.int .i64 n,.int .i64 d] 25)).cell? ⟨w.heap.size,1,none⟩=some (.int .i64 d):=by simp
 go_enter Tryz.func27,Tryz.ntmps27
 go_upto_region 1 with fail
 generalize w.alloc _=W at *
 have kd:=(Kp.refl W).drew
 obtain⟨s0,s1⟩:=hS
 have e0:=kd.cell s0
 have e1:=kd.cell s1
 have HK:=hid (k1.trans kd)
 have HK1:=hid k1
 clear kd k1
 by_cases c0:1≤d
 rotate_left
 ·have hr:=Hr.out
  rw[decide_eq_false (p:=1≤d∧d≤1073741824) (by omega)] at hr
  have Hr:=hid hr
  clear hr
  clear e0 e1
  go_quiet (fail)
  all_goals
   go_wp2_with fail
   go_ret
   exact⟨ret_bool (by rw[Hr.out];simp),HK1.out.drewN _⟩
 by_cases c1:d≤1073741824
 rotate_left
 ·have hr:=Hr.out
  rw[decide_eq_false (p:=1≤d∧d≤1073741824) (by omega)] at hr
  have Hr:=hid hr
  clear hr
  clear e0 e1
  go_quiet (fail)
  all_goals
   go_wp2_with fail
   go_ret
   exact⟨ret_bool (by rw[Hr.out];simp),HK1.out.drewN _⟩
 by_cases c2:-1073741824≤n
 rotate_left
 ·have hr:=Hr.out
  rw[decide_eq_false (p:=-1073741824≤n∧n≤1073741824) (by omega)] at hr
  have Hr:=hid hr
  clear hr
  clear e0 e1
  go_quiet (fail)
  all_goals
   go_wp2_with fail
   go_ret
   exact⟨ret_bool (by rw[Hr.out];simp),HK1.out.drewN _⟩
 by_cases c3:n≤1073741824
 rotate_left
 ·have hr:=Hr.out
  rw[decide_eq_false (p:=-1073741824≤n∧n≤1073741824) (by omega)] at hr
  have Hr:=hid hr
  clear hr
  clear e0 e1
  go_quiet (fail)
  all_goals
   go_wp2_with fail
   go_ret
   exact⟨ret_bool (by rw[Hr.out];simp),HK1.out.drewN _⟩
 have hg0:n.natAbs≤1073741824:=by omega
 have hg1:d.natAbs≤1073741824:=by omega
 have d0:-1073741824≤d:=by omega
 have hr:=Hr.out
 rw[decide_eq_true ⟨c0,c1⟩,decide_eq_true ⟨c2,c3⟩] at hr
 have Hr:=hid hr
 clear hr
 obtain⟨d',hd'⟩:∃ d':Nat,d=d':=⟨d.toNat,by omega⟩
 subst hd'
 have hd1:d'≤1073741824:=by omega
 have hw:IntKind.u64.wrap (d':Int)=(d':Int):=IntWalk.u64_in _ (by omega)
 have G1:decide ((1:Int)≤d')=true:=decide_eq_true c0
 have G2:decide ((d':Int)≤1073741824)=true:=decide_eq_true c1
 have G3:decide (-1073741824≤n)=true:=decide_eq_true c2
 have G4:decide (n≤1073741824)=true:=decide_eq_true c3
 have HW:=hid (Kp.refl W.drew)
 have hSd:W.drew.cell? ⟨w.heap.size,0,none⟩=some (.int .i64 n)∧W.drew.cell? ⟨w.heap.size,1,none⟩=some (.int .i64 (d':Int)):=⟨e0,e1⟩
 clear s0 s1 e0 e1
 go_region_held3 (fun w'=>w'.cell? ⟨w.heap.size,0,none⟩=some (.int .i64 n)∧w'.cell? ⟨w.heap.size,1,none⟩=some (.int .i64 (d':Int))) (first | with_reducible assumption | with_reducible exact⟨Kp.cell (by assumption) hSd.1,Kp.cell (by assumption) hSd.2⟩ | fail) (first
  | (go_at_call 82;go_fit (r4size_any n _ c2 c3);rintro r w4 ⟨rfl,rfl⟩)
  | (go_at_call 81;go_fit (r4gcd_any n.natAbs d' _ hg0 hd1);rintro r w5 ⟨rfl,hm5⟩;have k5:=kp_drewN hm5;clear hm5)
  | fail)
 go_wp2_with fail
 go_ret
 exact⟨ret_bool (by rw[Hr.out,Bool.true_and,Bool.true_and];exact intNat_one _),HK.out.trans k5⟩
end
section
open Go.RowKit Go.Sort
theorem r12let_any (b:UInt8) (w:World):Calls Tryz.prog 278 #[.int .u8 (b.toNat:Int)] w fun e w'=>e=.returned (.bool (isLet b))∧w'=w:=by
 have hL:isLet b=((decide (97≤b.toNat)&&decide (b.toNat≤122))||(decide (65≤b.toNat)&&decide (b.toNat≤90))):=rfl
 generalize isLet b=l at *
 generalize b.toNat=n at *
 rcases (by omega:n<65∨(65≤n∧n≤90)∨(91≤n∧n≤96)∨(97≤n∧n≤122)∨123≤n) with h | h | h | h | h
 all_goals
  have H:=hid h
  have HL:=hid hL
  clear hL
  go_enter Tryz.func278,Tryz.ntmps278
 ·have d0:¬ (97:Int)≤(n:Int):=by omega
  have e0:¬ (65:Int)≤(n:Int):=by omega
  clear h
  go_wp2
  go_ret
  exact⟨ret_bool (by rw[HL.out];have:=H.out;rw[decide_eq_false (by omega:¬ 97≤n),decide_eq_false (by omega:¬ 65≤n)];rfl),rfl⟩
 ·have d0:¬ (97:Int)≤(n:Int):=by omega
  have e0:(65:Int)≤(n:Int):=by omega
  have e1:(n:Int)≤90:=by omega
  clear h
  go_wp2
  go_ret
  exact⟨ret_bool (by rw[HL.out];have:=H.out;rw[decide_eq_false (by omega:¬ 97≤n),decide_eq_true (by omega:65≤n),decide_eq_true (by omega:n≤90)];rfl),rfl⟩
 ·have d0:¬ (97:Int)≤(n:Int):=by omega
  have e0:(65:Int)≤(n:Int):=by omega
  have e1:¬ (n:Int)≤90:=by omega
  clear h
  go_wp2
  go_ret
  exact⟨ret_bool (by rw[HL.out];have:=H.out;rw[decide_eq_false (by omega:¬ 97≤n),decide_eq_true (by omega:65≤n),decide_eq_false (by omega:¬ n≤90)];rfl),rfl⟩
 ·have d0:(97:Int)≤(n:Int):=by omega
  have d1:(n:Int)≤122:=by omega
  clear h
  go_wp2
  go_ret
  exact⟨ret_bool (by rw[HL.out];have:=H.out;rw[decide_eq_true (by omega:97≤n),decide_eq_true (by omega:n≤122)];rfl),rfl⟩
 have d0:(97:Int)≤(n:Int):=by omega
 have d1:¬ (n:Int)≤122:=by omega
 have e0:(65:Int)≤(n:Int):=by omega
 have e1:¬ (n:Int)≤90:=by omega
 clear h
 go_wp2
 go_ret
 exact⟨ret_bool (by rw[HL.out];have:=H.out;rw[decide_eq_true (by omega:97≤n),decide_eq_false (by omega:¬ n≤122),decide_eq_true (by omega:65≤n),decide_eq_false (by omega:¬ n≤90)];rfl),rfl⟩
theorem r12dig_any (b:UInt8) (w:World):Calls Tryz.prog 279 #[.int .u8 (b.toNat:Int)] w fun e w'=>e=.returned (.bool (isDig b))∧w'=w:=by
 have hL:isDig b=(decide (48≤b.toNat)&&decide (b.toNat≤57)):=rfl
 generalize isDig b=l at *
 generalize b.toNat=n at *
 have HL:=hid hL
 clear hL
 go_enter Tryz.func279,Tryz.ntmps279
 by_cases h1:48≤n
 rotate_left
 ·have H1:=hid h1
  have d0:¬ (48:Int)≤(n:Int):=by omega
  clear h1
  go_wp2
  go_ret
  exact⟨ret_bool (by rw[HL.out,decide_eq_false H1.out];rfl),rfl⟩
 have H1:=hid h1
 have d0:(48:Int)≤(n:Int):=by omega
 by_cases h2:n≤57
 ·have H2:=hid h2
  have d1:(n:Int)≤57:=by omega
  clear h1 h2
  go_wp2
  go_ret
  exact⟨ret_bool (by rw[HL.out,decide_eq_true H1.out,decide_eq_true H2.out];rfl),rfl⟩
 have H2:=hid h2
 have d1:¬ (n:Int)≤57:=by omega
 clear h1 h2
 go_wp2
 go_ret
 exact⟨ret_bool (by rw[HL.out,decide_eq_true H1.out,decide_eq_false H2.out];rfl),rfl⟩
def inRunB (b:UInt8):Bool:=isRun b||decide (b.toNat=46)
theorem r12run_any (b:UInt8) (w:World):Calls Tryz.prog 277 #[.int .u8 (b.toNat:Int)] w fun e w'=>e=.returned (.bool (inRunB b))∧w'=w:=by
 have hL:inRunB b=((isLet b||(isDig b||decide (b.toNat=95)))||decide (b.toNat=46)):=rfl
 have HA:=hid (r12let_any b w)
 have HD:=hid (r12dig_any b w)
 generalize inRunB b=r at *
 generalize isLet b=l at *
 generalize isDig b=d at *
 generalize b.toNat=n at *
 go_enter Tryz.func277,Tryz.ntmps277
 cases l
 rotate_left
 ·have HL:=hid hL
  clear hL
  go_wp2_with (first | (go_at_call 278;go_fit HA.out;rintro e w' ⟨rfl,rfl⟩) | (go_at_call 279;go_fit HD.out;rintro e w' ⟨rfl,rfl⟩) | fail)
  go_ret
  exact⟨ret_bool (by rw[HL.out];rfl),rfl⟩
 cases d
 rotate_left
 ·have HL:=hid hL
  clear hL
  go_wp2_with (first | (go_at_call 278;go_fit HA.out;rintro e w' ⟨rfl,rfl⟩) | (go_at_call 279;go_fit HD.out;rintro e w' ⟨rfl,rfl⟩) | fail)
  go_ret
  exact⟨ret_bool (by rw[HL.out];rfl),rfl⟩
 by_cases h1:n=95
 ·have HL:=hid hL
  have H1:=hid h1
  have e1:((n:Int)==95)=true:=by rw[h1];rfl
  clear hL h1
  go_wp2_with (first | (go_at_call 278;go_fit HA.out;rintro e w' ⟨rfl,rfl⟩) | (go_at_call 279;go_fit HD.out;rintro e w' ⟨rfl,rfl⟩) | fail)
  go_ret
  exact⟨ret_bool (by rw[HL.out,decide_eq_true H1.out];rfl),rfl⟩
 by_cases h2:n=46
 ·have HL:=hid hL
  have H1:=hid h1
  have H2:=hid h2
  have e1:((n:Int)==95)=false:=beq_eq_false_iff_ne.2 (by omega)
  have e2:((n:Int)==46)=true:=by rw[h2];rfl
  clear hL h1 h2
  go_wp2_with (first | (go_at_call 278;go_fit HA.out;rintro e w' ⟨rfl,rfl⟩) | (go_at_call 279;go_fit HD.out;rintro e w' ⟨rfl,rfl⟩) | fail)
  go_ret
  exact⟨ret_bool (by rw[HL.out,decide_eq_true H2.out];simp),rfl⟩
 have HL:=hid hL
 have H1:=hid h1
 have H2:=hid h2
 have e1:((n:Int)==95)=false:=beq_eq_false_iff_ne.2 (by omega)
 have e2:((n:Int)==46)=false:=beq_eq_false_iff_ne.2 (by omega)
 clear hL h1 h2
 go_wp2_with (first | (go_at_call 278;go_fit HA.out;rintro e w' ⟨rfl,rfl⟩) | (go_at_call 279;go_fit HD.out;rintro e w' ⟨rfl,rfl⟩) | fail)
 go_ret
 exact⟨ret_bool (by rw[HL.out,decide_eq_false H1.out,decide_eq_false H2.out];rfl),rfl⟩
theorem r12word_any (s:ByteArray) (w:World) (hs:s.size≤maxLen):Calls Tryz.prog 254 #[.string s] w fun e w'=>e=.returned (.bool (wordB s))∧w'=w:=by
 go_enter Tryz.func254,Tryz.ntmps254
 have hs2:s.size≤9223372036854775807:=hs
 go_wp2
 go_loopw [3] (fun x wr=>∃ k:Nat,k≤s.size∧x=.int .i64 k∧(∀ (i:Nat) (c:UInt8),s.data.toList[i]? = some c→i<k→isRun c=true)∧wr=w) (fun x _=>s.size-(intOf x).toNat)
 case atStart=>exact⟨0,by omega,rfl,fun i c _ h=>by omega,rfl⟩
 case round =>
 obtain⟨k,hk,rfl,hz,rfl⟩:=hrel
 have Hz:=hid hz;clear hz
 by_cases hlt:k<s.size
 rotate_left
 · obtain rfl:k=s.size:=by omega
   have Hrun:=hid (fun i c (hi:s.data.toList[i]? = some c)=>Hz.out i c hi (by rw[← byte_size];exact (List.getElem?_eq_some_iff.1 hi).1))
   by_cases h0:s.size=0
   · have hw:=hid (word_empty h0)
     obtain rfl:=size_zero.1 h0
     go_wp2
     go_ret
     exact⟨ret_bool hw.out.symm,rfl⟩
   have h1:0<s.size:=by omega
   have hb:=hid (byte_at h1)
   have hne:s.toList.isEmpty=false:=by
     rw[← Bool.not_eq_true,List.isEmpty_iff];exact fun e=>h0 (by rw[← byte_size,← ByteArray.toList_eq,e];rfl)
   have hs1:(0:Int)≤0∧(0:Int)<s.size:=by omega
   have HC:=hid (r12let_any (s[0]'h1) wr)
   cases hl:isLet (s[0]'h1) with
   | true =>
     have hw:=hid (word_yes hb.out hl Hrun.out)
     rw[hl] at HC
     clear hl
     go_wp2_with (first | (go_at_call 278;go_fit HC.out;rintro e w' ⟨rfl,rfl⟩) | fail)
     go_ret
     exact⟨ret_bool hw.out.symm,rfl⟩
   | false =>
   have hw:=hid (word_let hb.out hl)
   rw[hl] at HC
   clear hl
   go_wp2_with (first | (go_at_call 278;go_fit HC.out;rintro e w' ⟨rfl,rfl⟩) | fail)
   go_ret
   exact⟨ret_bool hw.out.symm,rfl⟩
 have Hk:=hid (byte_at hlt)
 have hr:(0:Int)≤k∧(k:Int)<s.size:=by omega
 by_cases h46:(s[k]'hlt).toNat=46
 · have hw:=hid (word_no Hk.out (b:=s[k]'hlt) (by unfold isRun isDig isLet;rw[h46];rfl))
   have e1:(((s[k]'hlt).toNat:Int)==46)=true:=by rw[h46];rfl
   have e2:(((s[k]'hlt).toNat:Int))=46:=by rw[h46];rfl
   clear h46
   go_wp2
   go_ret
   exact⟨ret_bool hw.out.symm,rfl⟩
 have e1:(((s[k]'hlt).toNat:Int)==46)=false:=beq_eq_false_iff_ne.2 (by omega)
 have HR:=hid (show inRunB (s[k]'hlt)=isRun (s[k]'hlt) by unfold inRunB;rw[decide_eq_false h46,Bool.or_false])
 clear h46
 cases hq:isRun (s[k]'hlt) with
 | false =>
   have hw:=hid (word_no Hk.out hq)
   have HC:=hid (r12run_any (s[k]'hlt) wr)
   rw[HR.out,hq] at HC
   clear hq
   go_wp2_with (first | (go_at_call 277;go_fit HC.out;rintro e w' ⟨rfl,rfl⟩) | fail)
   go_ret
   exact⟨ret_bool hw.out.symm,rfl⟩
 | true =>
 have HC:=hid (r12run_any (s[k]'hlt) wr)
 rw[HR.out,hq] at HC
 have Hq:=hid hq;clear hq
 go_wp2_with (first | (go_at_call 277;go_fit HC.out;rintro e w' ⟨rfl,rfl⟩) | fail)
 all_goals go_roundw
 all_goals first
   | (simp[intOf];omega)
   | (refine ⟨k + 1, by omega, by go_num, fun i c hi hik => ?_, by trivial⟩
      rcases Nat.lt_or_ge i k with hik2 | hik2
      · exact Hz.out i c hi hik2
      · rw[show i=k from by omega,Hk.out] at hi
        injection hi with hi
        rw[← hi];exact Hq.out)
def TNumOut (r:Ending):Prop:=∃ (n:Int) (b:Bool),r=.returned (.tuple #[.int .i64 n,.bool b])
def KindOut (s:ByteArray) (r:Ending):Prop:=∃ k f:Int,r=.returned (.tuple #[.int .i64 k,.int .i64 f])∧(k==1)=(wordB s&&decide (s.size≤20))
theorem r12num_any (s:ByteArray) (w:World) (hs:s.size≤maxLen):Calls Tryz.prog 255 #[.string s] w fun e w'=>TNumOut e∧w'=w:=by
 go_enter Tryz.func255,Tryz.ntmps255
 have hs2:s.size≤9223372036854775807:=hs
 go_wp2
 go_loopw [4,5,6] (fun x y z wr=>∃ k p d:Nat,k≤s.size∧p≤k∧d≤k∧x=.int .i64 p∧y=.int .i64 d∧z=.int .i64 k∧wr=w) (fun _ _ z _=>s.size-(intOf z).toNat)
 case atStart=>exact⟨0,0,0,by omega,by omega,by omega,rfl,rfl,rfl,rfl⟩
 case round =>
 obtain⟨k,p,d,hk,hp,hd,rfl,rfl,rfl,rfl⟩:=hrel
 by_cases hlt:k<s.size
 ·have hr:(0:Int)≤k∧(k:Int)<s.size:=by omega
  by_cases h46:(s[k]'hlt).toNat=46
  ·have e1:(((s[k]'hlt).toNat:Int)==46)=true:=by rw[h46];rfl
   have e2:(((s[k]'hlt).toNat:Int))=46:=by rw[h46];rfl
   clear h46
   go_wp2
   go_roundw
   case measure=>simp[intOf];omega
   case rel=>exact⟨k+1,p+1,d,by omega,by omega,by omega,by go_num,rfl,by go_num,trivial⟩
  have e1:(((s[k]'hlt).toNat:Int)==46)=false:=beq_eq_false_iff_ne.2 (by omega)
  clear h46
  have HC:=hid (r12dig_any (s[k]'hlt) wr)
  cases hq:isDig (s[k]'hlt) with
  | true =>
   rw[hq] at HC
   clear hq
   go_wp2_with (first | (go_at_call 279;go_fit HC.out;rintro e w' ⟨rfl,rfl⟩) | fail)
   go_roundw
   case measure=>simp[intOf];omega
   case rel=>exact⟨k+1,p,d+1,by omega,by omega,by omega,rfl,by go_num,by go_num,trivial⟩
  | false =>
  rw[hq] at HC
  clear hq
  go_wp2_with (first | (go_at_call 279;go_fit HC.out;rintro e w' ⟨rfl,rfl⟩) | fail)
  first
   | (refine bodyPost_ret (v:=.tuple #[.int .i64 0,.bool false]) ?_ rfl ?_;(focus (simp[results,Tryz.results255,go_sem];done));exact⟨⟨_,_,rfl⟩,rfl⟩)
   | (refine bodyPost_ret (v:=.tuple #[.int .i64 d,.bool true]) ?_ rfl ?_;(focus (simp[results,Tryz.results255,go_sem];done));exact⟨⟨_,_,rfl⟩,rfl⟩)
   | fail
 obtain rfl:k=s.size:=by omega
 by_cases hp1:(1:Int)<p
 ·go_wp2
  first
   | (refine bodyPost_ret (v:=.tuple #[.int .i64 0,.bool false]) ?_ rfl ?_;(focus (simp[results,Tryz.results255,go_sem];done));exact⟨⟨_,_,rfl⟩,rfl⟩)
   | (refine bodyPost_ret (v:=.tuple #[.int .i64 d,.bool true]) ?_ rfl ?_;(focus (simp[results,Tryz.results255,go_sem];done));exact⟨⟨_,_,rfl⟩,rfl⟩)
   | fail
 by_cases h0:s.size=0
 ·obtain rfl:=size_zero.1 h0
  go_wp2
  first
   | (refine bodyPost_ret (v:=.tuple #[.int .i64 0,.bool false]) ?_ rfl ?_;(focus (simp[results,Tryz.results255,go_sem];done));exact⟨⟨_,_,rfl⟩,rfl⟩)
   | (refine bodyPost_ret (v:=.tuple #[.int .i64 d,.bool true]) ?_ rfl ?_;(focus (simp[results,Tryz.results255,go_sem];done));exact⟨⟨_,_,rfl⟩,rfl⟩)
   | fail
 have h1:0<s.size:=by omega
 have hne:s.toList.isEmpty=false:=by
  rw[← Bool.not_eq_true,List.isEmpty_iff];exact fun e=>h0 (by rw[← byte_size,← ByteArray.toList_eq,e];rfl)
 have hs1:(0:Int)≤0∧(0:Int)<s.size:=by omega
 by_cases h46:(s[0]'h1).toNat=46
 ·have e1:(((s[0]'h1).toNat:Int)==46)=true:=by rw[h46];rfl
  have e2:(((s[0]'h1).toNat:Int))=46:=by rw[h46];rfl
  clear h46
  go_wp2
  first
   | (refine bodyPost_ret (v:=.tuple #[.int .i64 0,.bool false]) ?_ rfl ?_;(focus (simp[results,Tryz.results255,go_sem];done));exact⟨⟨_,_,rfl⟩,rfl⟩)
   | (refine bodyPost_ret (v:=.tuple #[.int .i64 d,.bool true]) ?_ rfl ?_;(focus (simp[results,Tryz.results255,go_sem];done));exact⟨⟨_,_,rfl⟩,rfl⟩)
   | fail
 have e1:(((s[0]'h1).toNat:Int)==46)=false:=beq_eq_false_iff_ne.2 (by omega)
 clear h46
 have h2:s.size-1<s.size:=by omega
 have hs3:(0:Int)≤(s.size:Int)-1∧(s.size:Int)-1<s.size:=by omega
 go_wp2
 all_goals
  first
   | (refine bodyPost_ret (v:=.tuple #[.int .i64 0,.bool false]) ?_ rfl ?_;(focus (simp[results,Tryz.results255,go_sem];done));exact⟨⟨_,_,rfl⟩,rfl⟩)
   | (refine bodyPost_ret (v:=.tuple #[.int .i64 d,.bool true]) ?_ rfl ?_;(focus (simp[results,Tryz.results255,go_sem];done));exact⟨⟨_,_,rfl⟩,rfl⟩)
   | fail
theorem r12kind_any (s:ByteArray) (w:World) (hs:s.size≤maxLen):Calls Tryz.prog 220 #[.string s] w fun e w'=>KindOut s e∧w'=w:=by
 have HW:=hid (r12word_any s w hs)
 have HN:=hid (r12num_any s w hs)
 go_enter Tryz.func220,Tryz.ntmps220
 cases h1:wordB s with
 | false =>
  rw[h1] at HW
  have Hv:=hid (show ((0:Int)==1)=(wordB s&&decide (s.size≤20)) by rw[h1,Bool.false_and];rfl)
  have Hv2:=hid (show ((2:Int)==1)=(wordB s&&decide (s.size≤20)) by rw[h1,Bool.false_and];rfl)
  go_wp2_with (first | (go_at_call 254;go_fit HW.out;rintro e w' ⟨rfl,rfl⟩) | (go_at_call 255;go_fit HN.out;rintro e w' ⟨⟨n,b,rfl⟩,rfl⟩;cases b <;> by_cases hn:18<n) | fail)
  all_goals
   first
    | (refine bodyPost_ret (v:=.tuple #[.int .i64 0,.int .i64 3]) ?_ rfl ?_;(focus (simp[results,Tryz.results220,go_sem];done));exact⟨⟨_,_,rfl,Hv.out⟩,rfl⟩)
    | (refine bodyPost_ret (v:=.tuple #[.int .i64 0,.int .i64 5]) ?_ rfl ?_;(focus (simp[results,Tryz.results220,go_sem];done));exact⟨⟨_,_,rfl,Hv.out⟩,rfl⟩)
    | (refine bodyPost_ret (v:=.tuple #[.int .i64 1,.int .i64 0]) ?_ rfl ?_;(focus (simp[results,Tryz.results220,go_sem];done));exact⟨⟨_,_,rfl,Hv.out⟩,rfl⟩)
    | (refine bodyPost_ret (v:=.tuple #[.int .i64 2,.int .i64 0]) ?_ rfl ?_;(focus (simp[results,Tryz.results220,go_sem];done));exact⟨⟨_,_,rfl,Hv2.out⟩,rfl⟩)
    | fail
 | true =>
 rw[h1] at HW
 by_cases h2:s.size≤20
 ·have h3:(s.size:Int)≤20:=by omega
  have Hv:=hid (show ((1:Int)==1)=(wordB s&&decide (s.size≤20)) by rw[h1,decide_eq_true h2];rfl)
  go_wp2_with (first | (go_at_call 254;go_fit HW.out;rintro e w' ⟨rfl,rfl⟩) | fail)
  first
   | (refine bodyPost_ret (v:=.tuple #[.int .i64 0,.int .i64 3]) ?_ rfl ?_;(focus (simp[results,Tryz.results220,go_sem];done));exact⟨⟨_,_,rfl,Hv.out⟩,rfl⟩)
   | (refine bodyPost_ret (v:=.tuple #[.int .i64 0,.int .i64 5]) ?_ rfl ?_;(focus (simp[results,Tryz.results220,go_sem];done));exact⟨⟨_,_,rfl,Hv.out⟩,rfl⟩)
   | (refine bodyPost_ret (v:=.tuple #[.int .i64 1,.int .i64 0]) ?_ rfl ?_;(focus (simp[results,Tryz.results220,go_sem];done));exact⟨⟨_,_,rfl,Hv.out⟩,rfl⟩)
   | (refine bodyPost_ret (v:=.tuple #[.int .i64 2,.int .i64 0]) ?_ rfl ?_;(focus (simp[results,Tryz.results220,go_sem];done));exact⟨⟨_,_,rfl,Hv2.out⟩,rfl⟩)
   | fail
 have h3:¬ (s.size:Int)≤20:=by omega
 have Hv:=hid (show ((0:Int)==1)=(wordB s&&decide (s.size≤20)) by rw[h1,decide_eq_false h2];rfl)
 go_wp2_with (first | (go_at_call 254;go_fit HW.out;rintro e w' ⟨rfl,rfl⟩) | fail)
 first
  | (refine bodyPost_ret (v:=.tuple #[.int .i64 0,.int .i64 3]) ?_ rfl ?_;(focus (simp[results,Tryz.results220,go_sem];done));exact⟨⟨_,_,rfl,Hv.out⟩,rfl⟩)
  | (refine bodyPost_ret (v:=.tuple #[.int .i64 0,.int .i64 5]) ?_ rfl ?_;(focus (simp[results,Tryz.results220,go_sem];done));exact⟨⟨_,_,rfl,Hv.out⟩,rfl⟩)
  | (refine bodyPost_ret (v:=.tuple #[.int .i64 1,.int .i64 0]) ?_ rfl ?_;(focus (simp[results,Tryz.results220,go_sem];done));exact⟨⟨_,_,rfl,Hv.out⟩,rfl⟩)
  | (refine bodyPost_ret (v:=.tuple #[.int .i64 2,.int .i64 0]) ?_ rfl ?_;(focus (simp[results,Tryz.results220,go_sem];done));exact⟨⟨_,_,rfl,Hv2.out⟩,rfl⟩)
  | fail
def keyA:List ByteArray:=keyL.map fun l=>⟨l.toArray⟩
def ResOut (w w':World) (r:Ending):Prop:=(∃ g,r=.returned (.slice (some ⟨g,0,none⟩) 15 15)∧RowS w' (some ⟨g,0,none⟩) keyA)∧Kp w w'
theorem r12res_any (w:World):Calls Tryz.prog 256 #[] w fun e w'=>ResOut w w' e:=by
 go_enter Tryz.func256,Tryz.ntmps256
 go_wp2
 generalize hA:(#[Value.string _,_,_,_,_,_,_,_,_,_,_,_,_,_,_]:Array Value)=A
 go_ret
 refine⟨⟨_,rfl,fun i s hs=>⟨_,0,rfl,?_⟩⟩,(Kp.refl _).alloc _⟩
 have hi:i<15:=by have:=(List.getElem?_eq_some_iff.1 hs).1;exact this
 subst hA
 rcases (by omega:i=0∨i=1∨i=2∨i=3∨i=4∨i=5∨i=6∨i=7∨i=8∨i=9∨i=10∨i=11∨i=12∨i=13∨i=14) with rfl | rfl | rfl | rfl | rfl | rfl | rfl | rfl | rfl | rfl | rfl | rfl | rfl | rfl | rfl
 all_goals
  injection hs with hs
  subst hs
  simp
theorem key_any (s:ByteArray):keyB s=keyA.any fun k=>k.toList==s.toList:=by
 rw[key_list,keyA,List.any_map]
 congr 1
 funext l
 have h:(ByteArray.mk l.toArray).toList=l:=by rw[ByteArray.toList_eq]
 show _=((ByteArray.mk l.toArray).toList==s.toList)
 rw[h,Bool.beq_comm]
theorem r12key_any (s:ByteArray) (w:World):Calls Tryz.prog 221 #[.string s] w fun e w'=>e=.returned (.bool (keyB s))∧Kp w w':=by
 have hk:=hid (key_any s)
 have hlen:keyA.length=15:=rfl
 have HL:=hid hlen
 clear hlen
 have HR:=hid (r12res_any w)
 obtain⟨L,hLL⟩:∃ L,L=keyA:=⟨_,rfl⟩
 rw[← hLL] at hk HL
 have HLL:=hid hLL;clear hLL
 have hk0:=hk;clear hk
 go_enter Tryz.func221,Tryz.ntmps221
 go_wp2_with (first | (go_at_call 256;go_fit HR.out;rintro e w1 ⟨⟨g,rfl,hrow⟩,k1⟩) | fail)
 rw[← HLL.out] at hrow
 have HW:=hid hrow
 clear hrow
 go_loopw [4] (fun x wr=>∃ k:Nat,k≤15∧x=.int .i64 (k:Int)∧(∀ (i:Nat) (c:ByteArray),L[i]? = some c→i<k→(c.toList==s.toList)=false)∧wr=w1) (fun x _=>15-(intOf x).toNat)
 case atStart=>exact⟨0,by omega,rfl,fun i c _ h=>by omega,rfl⟩
 case round =>
 obtain⟨k,hk,rfl,hz,rfl⟩:=hrel
 have Hz:=hid hz;clear hz
 by_cases hlt:k<15
 rotate_left
 ·obtain rfl:k=15:=by omega
  have Ha:=hid (show L.any (fun k=>k.toList==s.toList)=false from List.any_eq_false.2 fun c hc=>by
   obtain⟨i,hi⟩:=List.getElem?_of_mem hc
   rw[Hz.out i c hi (by rw[← HL.out];exact (List.getElem?_eq_some_iff.1 hi).1)]
   simp)
  go_wp2
  go_ret
  exact⟨ret_bool (by rw[hk0.out,Ha.out]),k1⟩
 obtain⟨c,hc⟩:∃ c,L[k]? = some c:=⟨_,List.getElem?_eq_getElem (by rw[HL.out];exact hlt)⟩
 obtain⟨b,o,ha,h0⟩:=HW.out k c hc
 have Hc:=hid hc;clear hc
 injection ha with ha;injection ha with hb ho _
 subst hb ho
 rw[Nat.zero_add] at h0
 cases hq:(c.toList==s.toList) with
 | true =>
  have Hq:=hid hq
  have Ha:=hid (show L.any (fun k=>k.toList==s.toList)=true from List.any_eq_true.2 ⟨c,List.mem_of_getElem? Hc.out,hq⟩)
  go_wp2
  go_ret
  exact⟨ret_bool (by rw[hk0.out,Ha.out]),k1⟩
 | false =>
 have Hq:=hid hq
 go_wp2
 go_roundw
 case measure=>simp[intOf];omega
 case rel =>
 refine⟨k+1,by omega,by go_num,fun i c' hi hik=>?_,by trivial⟩
 rcases Nat.lt_or_ge i k with hik2 | hik2
 ·exact Hz.out i c' hi hik2
 rw[show i=k from by omega,Hc.out] at hi
 injection hi with hi
 rw[← hi];exact Hq.out
theorem r12name_any (s:ByteArray) (w:World) (hs:s.size≤maxLen):Calls Tryz.prog 184 #[.string s] w fun e w'=>e=.returned (.bool (nameB s))∧Kp w w':=by
 have hd:nameB s=((wordB s&&decide (s.size≤20))&&!keyB s):=by unfold nameB;rw[Bool.and_assoc]
 have HI:=hid (r12kind_any s w hs)
 have HK:=hid (r12key_any s w)
 go_enter Tryz.func184,Tryz.ntmps184
 cases h1:(wordB s&&decide (s.size≤20)) with
 | true =>
  rw[h1] at hd
  have H1:=hid h1
  have Hd:=hid hd;clear hd h1
  go_wp2_with (first | (go_at_call 220;go_fit HI.out;rintro e w' ⟨⟨k,f,rfl,hk⟩,rfl⟩;rw[H1.out] at hk;(obtain rfl:k=1:=by simpa using hk);clear hk) | (go_at_call 221;go_fit HK.out;rintro e w' ⟨rfl,k1⟩) | fail)
  go_ret
  exact⟨ret_bool (by rw[Hd.out,Bool.true_and]),k1⟩
 | false =>
 rw[h1] at hd
 have H1:=hid h1
 have Hd:=hid hd;clear hd h1
 go_wp2_with (first | (go_at_call 220;go_fit HI.out;rintro e w' ⟨⟨k,f,rfl,hk⟩,rfl⟩;rw[H1.out] at hk) | fail)
 go_ret
 exact⟨ret_bool Hd.out.symm,.refl _⟩
end
end Go.Proofs.YteidgoldnllabaaGreatDoor
