/-
  Walks: slices.Equal at texts; the law's v, num, op.
-/
import Derived.Test.YteidgoldnllabaaGreatDoorMWalN
import Derived.Deep.RegionHeld3
import Derived.Test.YteidgoldnllabaaGreatDoorRows
import Derived.Deep.Slices
import Derived.ChangeArms
import Derived.OpenShut
import Derived.OpenVars
import Derived.ProofKit
import Derived.WideKeyArgs
import Derived.ChangeSame
import Derived.JoinedCond
import Derived.Deep.DeepHandedRow
import Derived.Test.YteidgoldnllabaaGreatDoorMIdxX
namespace Go.Proofs.YteidgoldnllabaaGreatDoor
open Go.RowKit
section
open Go.RowKit Go.Sort Go.Shelf
theorem rowS_cells {w:World} {a:Option Addr} {ss:List ByteArray} (h:RowS w a ss) (hn:ss≠[]):∃ b o,a=some ⟨b,o,none⟩∧∀ j,j<ss.length→w.cell? ⟨b,o+j,none⟩=some (.string (ss.getD j ByteArray.empty)):=by
 cases ss with
 | nil=>exact absurd rfl hn
 | cons s t =>
 obtain⟨b,o,e,_⟩:=h 0 s rfl
 refine⟨b,o,e,fun j hj=>?_⟩
 obtain⟨b',o',e',hc⟩:=h j _ (List.getElem?_eq_getElem hj)
 rw[e] at e'
 cases e'
 rw[hc,List.getD_eq_getElem?_getD,List.getElem?_eq_getElem hj]
 rfl
theorem rowS_own {w:World} {base:Nat} {v:Value} {ss:List ByteArray} (h:OwnS w base v (ss.map (·.data.toList))):∃ a c,v=.slice a ss.length c∧RowS w a ss:=by
 have hn:(ss.map (·.data.toList)).length=ss.length:=List.length_map _
 rcases h.2 with ⟨rfl,h3⟩ | ⟨g,cap,cur,rfl,hb,hg,hn2,hc,hs,ht⟩
 ·have h0:ss=[]:=List.length_eq_zero_iff.1 (by rw[← hn];exact h3)
  subst h0
  exact⟨none,0,rfl,fun i s hs=>by simp at hs⟩
 refine⟨_,cap,by rw[hn],fun i s hs=>⟨g,0,rfl,?_⟩⟩
 have hil:i<ss.length:=(List.getElem?_eq_some_iff.1 hs).1
 rw[Nat.zero_add,cell_of_row w g _ cur _ _ hg]
 have h5:(cur.toList.take ((ss.map (·.data.toList)).length*1))[i]? = some (.string s):=by
  rw[ht,Lib.map_encStr,List.getElem?_map,hs];rfl
 rw[List.getElem?_take,if_pos (by rw[hn];omega)] at h5
 simpa using h5
end
section
def nX:ByteArray:=⟨#[120]⟩
def nY:ByteArray:=⟨#[121]⟩
theorem nX_name:nameB nX=true:=by kernel_rfl
theorem nY_name:nameB nY=true:=by kernel_rfl
end
section
open Go.RowKit Go.Sort Go.Shelf
abbrev rowYc:Obj:=.cells #[.int .i64 2,.int .i64 0,.int .i64 0,.string ⟨#[121]⟩,.int .i64 0,.slice none 0 0] 71
abbrev zeroXc:Obj:=.cells #[.int .i64 0,.int .i64 0,.int .i64 0,.string ⟨#[]⟩,.int .i64 0,.slice none 0 0] 71
end
section
open Go.ChangeShapes Go.WideShapes Go.ChangeAt Go.RowKit Go.Deep
theorem ownKnobs:ownKnob Tryz.prog.godebug=none:=by kernel_rfl
theorem laidOutSeat:laidOutB Tryz.prog=true:=by kernel_rfl
section
variable {H:Type}
theorem bulk_one (d:DataW H):1≤Rows.uptoBulk d:=by
 cases d with
 | nil=>simp[Rows.uptoBulk]
 | ptr d=>simp[Rows.uptoBulk]
 | slice elems spare=>simp[Rows.uptoBulk]
 | agg parts=>simp[Rows.uptoBulk]
 | iface t d=>simp[Rows.uptoBulk]
 | map entries=>simp[Rows.uptoBulk]
 | held h=>simp[Rows.uptoBulk]
 | lit l=>cases l <;> simp[Rows.uptoBulk]
theorem bulk_part {d:DataW H} {l:List (DataW H)} (h:d∈l):Rows.uptoBulk d≤Rows.uptoBulkAll l:=by
 induction l with
 | nil=>cases h
 | cons x r ih =>
  simp only[Rows.uptoBulkAll]
  cases List.mem_cons.1 h with
  | inl e=>subst e;omega
  | inr e=>have:=ih e;omega
theorem bulk_len (l:List (DataW H)):l.length≤Rows.uptoBulkAll l:=by
 induction l with
 | nil=>simp[Rows.uptoBulkAll]
 | cons x r ih=>have:=bulk_one x;simp only[Rows.uptoBulkAll,List.length_cons];omega
theorem bulk_slice (elems spare:List (DataW H)):elems.length≤Rows.uptoBulk (.slice elems spare):=by
 have h1:=bulk_len elems
 simp only[Rows.uptoBulk]
 omega
theorem bulk_elem {elems spare:List (DataW H)} {d:DataW H} (h:d∈elems):Rows.uptoBulk d≤Rows.uptoBulk (.slice elems spare):=by
 have:=bulk_part h
 simp only[Rows.uptoBulk]
 omega
theorem bulk_agg {parts:List (DataW H)} {d:DataW H} (h:d∈parts):Rows.uptoBulk d≤Rows.uptoBulk (.agg parts):=by
 have:=bulk_part h
 simp only[Rows.uptoBulk]
 omega
theorem bulk_bound {l:List (DataW H)} {d:DataW H} (hk:Rows.uptoSmall H l=true) (h:d∈l):Rows.uptoBulk d≤1048576 :=
 Nat.le_trans (bulk_part h) (of_decide_eq_true hk)
end
section
variable {H:Type} {enc:TypeId×Value→H} {w:World} {base:Nat} {spare:Nat→Bool} {held:Bool}
theorem cell_spot {a:Addr} {v:Value} (h:w.cell? (a.add 0)=some v):∃ b o,a=⟨b,o,none⟩:=by
 obtain⟨b,o,spot⟩:=a
 have hspot:spot=none:=by simpa [Addr.add] using World.cell?_spot h
 subst hspot
 exact⟨b,o,rfl⟩
theorem cellsE:Tryz.prog.cellsOf 71=6:=by kernel_rfl
theorem cellsR:Tryz.prog.cellsOf 25=2:=by kernel_rfl
theorem cellsI:Tryz.prog.cellsOf 3=1:=by kernel_rfl
theorem cellsSt:Tryz.prog.cellsOf 9=1:=by kernel_rfl
theorem cellsL:Tryz.prog.cellsOf 69=1:=by kernel_rfl
theorem list6 {α:Type} {l:List α} (h:l.length=6):∃ a b c d e f,l=[a,b,c,d,e,f]:=by
 match l,h with
 | [a,b,c,d,e,f],_=>exact⟨a,b,c,d,e,f,rfl⟩
theorem list5 {α:Type} {l:List α} (h:l.length=5):∃ a b c d e,l=[a,b,c,d,e]:=by
 match l,h with
 | [a,b,c,d,e],_=>exact⟨a,b,c,d,e,rfl⟩
theorem list2 {α:Type} {l:List α} (h:l.length=2):∃ a b,l=[a,b]:=by
 match l,h with
 | [a,b],_=>exact⟨a,b,rfl⟩
theorem choose_ex {n:Nat} {p:Nat→Ex→Prop} (h:∀ i,i<n→∃ y,p i y):∃ f:Nat→Ex,∀ i,i<n→p i (f i):=by
 refine⟨fun i=>if hi:i<n then Classical.choose (h i hi) else .mk 0 0 0 ByteArray.empty 0 none 0 [],fun i hi=>?_⟩
 dsimp only
 rw[dif_pos hi]
 exact Classical.choose_spec (h i hi)
theorem open_ex:∀ (N fuel:Nat) (cs:List Value) (x:DataW H×List MemPlace),fuel≤N→DataW.trod enc Tryz.prog w base spare held fuel 71 cs=some x→Rows.uptoBulk x.1≤1048576→∃ e:Ex,cs=[.int .i64 e.kind,.int .i64 e.rn,.int .i64 e.rd,.string e.name,.int .i64 e.pw,.slice e.a e.l.length e.c]∧e.at w w.heap.size
 | 0,fuel,cs,x,hN,h,hb=>by
  obtain rfl:fuel=0:=by omega
  simp[DataW.trod] at h
 | N+1,fuel,cs,x,hN,h,hb=>by
  obtain⟨xs,n,hfu,hx,hlen,hxl,hf⟩:=DataW.trod_struct Tryz.underlying71 h
  replace hlen:=hlen.trans cellsE
  obtain⟨c0,c1,c2,c3,c4,c5,rfl⟩:=list6 hlen
  obtain⟨y0,y1,y2,y3,y4,rfl⟩:=list5 hxl
  have h0:DataW.trod enc Tryz.prog w base spare held n 3 (([c0,c1,c2,c3,c4,c5].drop 0).take (Tryz.prog.cellsOf 3))=some y0:=hf 0 _ rfl
  have h1:DataW.trod enc Tryz.prog w base spare held n 25 (([c0,c1,c2,c3,c4,c5].drop 1).take (Tryz.prog.cellsOf 25))=some y1:=hf 1 _ rfl
  have h2:DataW.trod enc Tryz.prog w base spare held n 9 (([c0,c1,c2,c3,c4,c5].drop 3).take (Tryz.prog.cellsOf 9))=some y2:=hf 2 _ rfl
  have h3:DataW.trod enc Tryz.prog w base spare held n 3 (([c0,c1,c2,c3,c4,c5].drop 4).take (Tryz.prog.cellsOf 3))=some y3:=hf 3 _ rfl
  have h4:DataW.trod enc Tryz.prog w base spare held n 69 (([c0,c1,c2,c3,c4,c5].drop 5).take (Tryz.prog.cellsOf 69))=some y4:=hf 4 _ rfl
  rw[cellsI] at h0 h3
  rw[cellsR] at h1
  rw[cellsSt] at h2
  rw[cellsL] at h4
  have h0:DataW.trod enc Tryz.prog w base spare held n 3 [c0]=some y0:=h0
  have h1:DataW.trod enc Tryz.prog w base spare held n 25 [c1,c2]=some y1:=h1
  have h2:DataW.trod enc Tryz.prog w base spare held n 9 [c3]=some y2:=h2
  have h3:DataW.trod enc Tryz.prog w base spare held n 3 [c4]=some y3:=h3
  have h4:DataW.trod enc Tryz.prog w base spare held n 69 [c5]=some y4:=h4
  have b4:Rows.uptoBulk y4.1≤Rows.uptoBulk x.1:=by rw[hx];exact bulk_agg (by simp)
  obtain⟨k,e0,_,_⟩:=DataW.trod_int Tryz.underlying3 h0
  obtain⟨p,e3,_,_⟩:=DataW.trod_int Tryz.underlying3 h3
  obtain⟨s,e2,_,hs⟩:=DataW.trod_string Tryz.underlying9 h2
  obtain⟨zs,n2,_,_,hzl,hzz,hg⟩:=DataW.trod_struct Tryz.underlying25 h1
  obtain⟨z0,z1,rfl⟩:=list2 hzz
  have g0:DataW.trod enc Tryz.prog w base spare held n2 3 (([c1,c2].drop 0).take (Tryz.prog.cellsOf 3))=some z0:=hg 0 _ rfl
  have g1:DataW.trod enc Tryz.prog w base spare held n2 3 (([c1,c2].drop 1).take (Tryz.prog.cellsOf 3))=some z1:=hg 1 _ rfl
  rw[cellsI] at g0 g1
  have g0:DataW.trod enc Tryz.prog w base spare held n2 3 [c1]=some z0:=g0
  have g1:DataW.trod enc Tryz.prog w base spare held n2 3 [c2]=some z1:=g1
  obtain⟨r,e1,_,_⟩:=DataW.trod_int Tryz.underlying3 g0
  obtain⟨d,e1',_,_⟩:=DataW.trod_int Tryz.underlying3 g1
  simp only[List.cons.injEq,and_true] at e0 e1 e1' e2 e3
  subst e0 e1 e1' e2 e3
  rcases DataW.trod_slice Tryz.underlying69 h4 with ⟨hcs,hx4⟩ | ⟨a,len,cap,elems,rest,n3,hfu2,hcs,hx4,_,hl,hm,hel,hi,_⟩
  ·obtain hcs:=(List.cons.inj hcs).1
   subst hcs
   exact⟨.mk k r d s p none 0 [],rfl,Ex.at_iff.2 ⟨⟨Nat.le_refl _,Nat.zero_le _,hs,Nat.zero_le _⟩,fun i x hx=>by simp[Ex.l] at hx,fun x hx=>by simp[Ex.l] at hx⟩⟩
  ·obtain hcs:=(List.cons.inj hcs).1
   subst hcs
   have hll:len≤1048576:=by
    refine Nat.le_trans ?_ (Nat.le_trans b4 hb)
    rw[hx4]
    refine Nat.le_trans ?_ (bulk_slice _ _)
    rw[List.length_map,hel]
    exact Nat.le_refl _
   obtain⟨f,hf'⟩:=choose_ex (n:=len) (p:=fun i y=>w.cells? base (a.add (i*6)) 6=some [.int .i64 y.kind,.int .i64 y.rn,.int .i64 y.rd,.string y.name,.int .i64 y.pw,.slice y.a y.l.length y.c]∧y.at w w.heap.size) (fun i hil=>by
    have h5:=hi i hil
    rw[cellsE,List.getElem?_eq_getElem (by omega)] at h5
    cases hc:w.cells? base (a.add (i*6)) 6 with
    | none=>rw[hc] at h5;cases h5
    | some cs' =>
     rw[hc] at h5
     have h6:DataW.trod enc Tryz.prog w base spare held n3 71 cs'=some (elems[i]'(by omega)):=h5
     obtain⟨y,e,hr⟩:=open_ex N n3 cs' _ (by omega) h6 (by
      refine Nat.le_trans ?_ (Nat.le_trans b4 hb)
      rw[hx4]
      exact bulk_elem (List.mem_map.2 ⟨_,List.getElem_mem _,rfl⟩))
     exact⟨y,by rw[e],hr⟩)
   have hfl:((List.range len).map f).length=len:=by simp
   refine⟨.mk k r d s p (some a) cap ((List.range len).map f),?_,Ex.at_iff.2 ⟨⟨?_,hm,hs,?_⟩,fun i x hx=>?_,fun x hx=>?_⟩⟩
   ·show _=[Value.int .i64 k,.int .i64 r,.int .i64 d,.string s,.int .i64 p,.slice (some a) ((List.range len).map f).length cap]
    rw[hfl]
   ·show ((List.range len).map f).length≤cap
    rw[hfl];exact hl
   ·show ((List.range len).map f).length≤1048576
    rw[hfl];exact hll
   ·have hil:i<len:=by have:=(List.getElem?_eq_some_iff.1 (show ((List.range len).map f)[i]? = some x from hx)).1;rwa [hfl] at this
    have hx:((List.range len).map f)[i]? = some x:=hx
    rw[List.getElem?_map,List.getElem?_range hil] at hx
    cases hx
    obtain⟨h1,h2⟩:=hf' i hil
    obtain⟨_,_,hat⟩:=World.cells?_some h1
    have h0':=hf' 0 (by omega)
    have hspot:∃ b o,a=⟨b,o,none⟩:=by
     obtain⟨_,_,hat0⟩:=World.cells?_some h0'.1
     have:=hat0 0 (by decide)
     rw[Nat.zero_mul,add_add] at this
     exact cell_spot this
    obtain⟨b,o,rfl⟩:=hspot
    have key (j:Nat) (hj:j<6) (u:Value) (hu:([.int .i64 (f i).kind,.int .i64 (f i).rn,.int .i64 (f i).rd,.string (f i).name,.int .i64 (f i).pw,.slice (f i).a (f i).l.length (f i).c]:List Value)[j]? = some u):w.cell? ⟨b,o+i*6+j,none⟩=some u:=by
     have:=hat j hj
     rw[add_add,Addr.add_lit,hu,← Nat.add_assoc] at this
     exact this
    exact⟨b,o,rfl,cell_ltT (key 0 (by decide) _ rfl),key 0 (by decide) _ rfl,key 1 (by decide) _ rfl,key 2 (by decide) _ rfl,key 3 (by decide) _ rfl,key 4 (by decide) _ rfl,key 5 (by decide) _ rfl⟩
   ·obtain⟨i,hi',rfl⟩:=List.mem_map.1 (show x∈(List.range len).map f from hx)
    exact (hf' i (List.mem_range.1 hi')).2
end
section
variable {H:Type} {enc:TypeId×Value→H} {P:Program}
theorem post_of_below {f:Func} {s:ChangeSpec} {apart fresh handsOn again:Bool} {W W':World} {args:Array Value} {v:Value} {ds gs:List (DataW H)} {before pa pv:List MemPlace}
  (hW:DataW.Whole enc P f.params.toList s.vars apart W args.toList ds gs before)
  (hres:∀ (b:Nat) (sp:Nat→Bool) (hd:Bool),DataW.TrodAll enc P W' b sp hd f.resultTypes.toList (v.resultList f.resultTypes.size) (s.fn H (ds++gs)).results [])
  (hargs:∀ sp:Nat→Bool,(∀ p∈before,sp p.block=true)→DataW.TrodAll enc P W' 0 sp true f.params.toList args.toList (s.fn H (ds++gs)).args pa)
  (hvars:∀ sp:Nat→Bool,(∀ p∈before,sp p.block=true)→DataW.TrodVars enc P W' sp s.vars (s.fn H (ds++gs)).vars pv)
  (hps:before=pa++pv) (hb:Below W.heap.size W W')
  (hok:∀ (j:Nat) (t:TypeId) (r:Value),f.resultTypes[j]? = some t→(v.resultList f.resultTypes.size)[j]? = some r→Value.okWide P W' .any 0 t r) :
  s.post enc P f apart fresh handsOn again W args v W':=by
 have hlt:∀ p∈before,p.block<W.heap.size:=fun p hp=>hW.lt p hp
 have hold:∀ p∈before,(fun b=>decide (b<W.heap.size)) p.block=true:=fun p hp=>by simpa using hlt p hp
 refine⟨ds,gs,before,[],pa,pv,hW,hres _ _ _,hargs _ hold,hvars _ hold,World.keptBut_mono (fun p hp=>⟨hp,?_⟩) (hb.frame (·∈before)),fun _=>?_⟩
 ·rw[hps,List.mem_append] at hp
  exact Or.inr hp
 obtain⟨_,_,_,_,_,hz,hn⟩:=hW
 refine⟨hok,_,_,([]++pa)++pv,⟨[]++pa,pv,trodAll_append (hargs _ (fun _ _=>rfl)) (hres _ _ _),hvars _ (fun _ _=>rfl),rfl,?_,?_⟩,?_⟩
 ·intro b off hp
  have hin:MemPlace.cell b off∈before:=by rw[hps];simpa using hp
  rw[hb.frozen (hlt _ hin)]
  exact hz b off hin
 ·intro ha
  have:=hn ha
  rw[hps] at this
  simpa using this
 intro p hp _
 rw[hps]
 simpa using hp
end
end
section
open Go.RowKit Go.Sort
end
section
open Go.RowKit Go.Sort
end
section
open Go.RowKit Go.Sort
end
end Go.Proofs.YteidgoldnllabaaGreatDoor
