/-
  Arguments opened: systems.
-/
import Derived.Test.YteidgoldnllabaaGreatDoorMCmpD
import Derived.Test.YteidgoldnllabaaGreatDoorMVsyN
import Derived.Test.YteidgoldnllabaaGreatDoorCards
import Derived.Test.YteidgoldnllabaaGreatDoorTie
import Derived.Test.YteidgoldnllabaaGreatDoorMNum
import Derived.WideKeyArgs
import Derived.WalkKit
import Derived.Below
import Derived.ChangeSame
import Derived.Deep.DeepHandedRow
import Derived.Lib.LaidTab
import Derived.Test.YteidgoldnllabaaGreatDoorMRCoN
import Derived.Test.YteidgoldnllabaaGreatDoorMRFlN
import Derived.Test.YteidgoldnllabaaGreatDoorMBoxV
import Derived.Test.YteidgoldnllabaaGreatDoorMIvlN
namespace Go.Proofs.YteidgoldnllabaaGreatDoor
open Go.RowKit
section
open Go.ChangeShapes Go.WideShapes Go.ChangeAt Go.RowKit Go.Deep
theorem cut_at {α:Type} (cs:List α) (a b:Nat):cs.drop a=(cs.drop a).take b++cs.drop (a+b):=by
 rw[← List.drop_drop,List.take_append_drop]
theorem list3V {α:Type} {l:List α} (h:l.length=3):∃ a b c,l=[a,b,c]:=by
 match l,h with
 | [a,b,c],_=>exact⟨a,b,c,rfl⟩
theorem choose_gen {α:Type} (d:α) {n:Nat} {p:Nat→α→Prop} (h:∀ i,i<n→∃ y,p i y):∃ f:Nat→α,∀ i,i<n→p i (f i):=by
 refine⟨fun i=>if hi:i<n then Classical.choose (h i hi) else d,fun i hi=>?_⟩
 dsimp only
 rw[dif_pos hi]
 exact Classical.choose_spec (h i hi)
theorem list2S {α:Type} {l:List α} (h:l.length=2):∃ a b,l=[a,b]:=by
 match l,h with
 | [a,b],_=>exact⟨a,b,rfl⟩
theorem list5S {α:Type} {l:List α} (h:l.length=5):∃ a b c d e,l=[a,b,c,d,e]:=by
 match l,h with
 | [a,b,c,d,e],_=>exact⟨a,b,c,d,e,rfl⟩
theorem cellsInt':Tryz.prog.cellsOf 3=1:=by kernel_rfl
theorem cellsRat:Tryz.prog.cellsOf 25=2:=by kernel_rfl
theorem cellsOpn:Tryz.prog.cellsOf 120=6:=by kernel_rfl
theorem cellsTape:Tryz.prog.cellsOf 57=3:=by kernel_rfl
theorem cellsSys:Tryz.prog.cellsOf 60=5:=by kernel_rfl
theorem cellsRowO:Tryz.prog.cellsOf 54=1:=by kernel_rfl
theorem cellsRowZ:Tryz.prog.cellsOf 55=1:=by kernel_rfl
theorem cellsRowI:Tryz.prog.cellsOf 58=1:=by kernel_rfl
section
variable {H:Type} {enc:TypeId×Value→H} {w:World} {base:Nat} {spare:Nat→Bool} {held:Bool}
theorem open_rowV {α:Type} (d:α) (cells:α→List Value) (k:Nat) (hk:0<k) (tS tE:TypeId) (hu:Tryz.prog.underlying tS=some (.slice tE)) (hce:Tryz.prog.cellsOf tE=k) (hlen:∀ x,(cells x).length=k) (at':α→Prop)
  (helem:∀ (fuel:Nat) (cs:List Value) (x:DataW H×List MemPlace),DataW.trod enc Tryz.prog w base spare held fuel tE cs=some x→Rows.uptoBulk x.1≤1048576→∃ y,cs=cells y∧at' y)
  {fuel:Nat} {cs:List Value} {x:DataW H×List MemPlace} (h:DataW.trod enc Tryz.prog w base spare held fuel tS cs=some x) (hb:Rows.uptoBulk x.1≤1048576) :
  ∃ (a:Option Addr) (zs:List α) (c:Nat),cs=[.slice a zs.length c]∧RowV cells k w w.heap.size a zs∧zs.length≤1048576∧∀ z∈zs,at' z:=by
 rcases DataW.trod_slice hu h with ⟨rfl,_⟩ | ⟨a,len,cap,elems,rest,n3,_,rfl,hx4,_,hl,hm,hel,hi,_⟩
 ·exact⟨none,[],0,rfl,fun i x hx=>by simp at hx,by simp,fun z hz=>by simp at hz⟩
 have hll:len≤1048576:=by
  refine Nat.le_trans ?_ hb
  rw[hx4]
  refine Nat.le_trans ?_ (bulk_slice _ _)
  rw[List.length_map,hel]
  exact Nat.le_refl _
 obtain⟨f,hf'⟩:=choose_gen d (n:=len) (p:=fun i y=>w.cells? base (a.add (i*k)) k=some (cells y)∧at' y) (fun i hil=>by
  have h5:=hi i hil
  rw[hce,List.getElem?_eq_getElem (by omega)] at h5
  cases hc:w.cells? base (a.add (i*k)) k with
  | none=>rw[hc] at h5;cases h5
  | some cs' =>
   rw[hc] at h5
   have h6:DataW.trod enc Tryz.prog w base spare held n3 tE cs'=some (elems[i]'(by omega)):=h5
   obtain⟨y,e,hr⟩:=helem n3 cs' _ h6 (by
    refine Nat.le_trans ?_ hb
    rw[hx4]
    exact bulk_elem (List.mem_map.2 ⟨_,List.getElem_mem _,rfl⟩))
   exact⟨y,by rw[e],hr⟩)
 have hfl:((List.range len).map f).length=len:=by simp
 refine⟨some a,(List.range len).map f,cap,by rw[hfl],fun i x hx=>?_,by rw[hfl];exact hll,fun z hz=>?_⟩
 ·have hil:i<len:=by have:=(List.getElem?_eq_some_iff.1 hx).1;rwa [hfl] at this
  rw[List.getElem?_map,List.getElem?_range hil] at hx
  cases hx
  obtain⟨h1,h2⟩:=hf' i hil
  obtain⟨_,_,hat⟩:=World.cells?_some h1
  have h0':=hf' 0 (by omega)
  have hspot:∃ b o,a=⟨b,o,none⟩:=by
   obtain⟨_,_,hat0⟩:=World.cells?_some h0'.1
   have:=hat0 0 (by omega)
   rw[Nat.zero_mul,add_add] at this
   cases hz:(cells (f 0))[0]? with
   | none=>have:=List.getElem?_eq_none_iff.1 hz;rw[hlen] at this;omega
   | some u=>rw[hz] at this;exact cell_spot this
  obtain⟨b,o,rfl⟩:=hspot
  have key (j:Nat) (u:Value) (hu:(cells (f i))[j]? = some u):w.cell? ⟨b,o+i*k+j,none⟩=some u:=by
   have hj:j<k:=by have:=(List.getElem?_eq_some_iff.1 hu).1;rwa [hlen] at this
   have:=hat j hj
   rw[add_add,Addr.add_lit,hu,← Nat.add_assoc] at this
   exact this
  refine⟨b,o,rfl,?_,fun j u hu=>key j u hu⟩
  cases hz:(cells (f i))[0]? with
  | some u=>exact cell_ltT (key 0 u hz)
  | none=>have:=List.getElem?_eq_none_iff.1 hz;rw[hlen] at this;omega
 obtain⟨i,hi',rfl⟩:=List.mem_map.1 hz
 exact (hf' i (List.mem_range.1 hi')).2
theorem open_ratS {fuel:Nat} {cs:List Value} {x:DataW H×List MemPlace} (h:DataW.trod enc Tryz.prog w base spare held fuel 25 cs=some x):∃ r d:Int,cs=[.int .i64 r,.int .i64 d]:=by
 obtain⟨zs,n2,_,_,hlen,hzz,hg⟩:=DataW.trod_struct Tryz.underlying25 h
 replace hlen:=hlen.trans cellsRat
 obtain⟨c1,c2,rfl⟩:=list2S hlen
 obtain⟨z0,z1,rfl⟩:=list2S hzz
 have g0:DataW.trod enc Tryz.prog w base spare held n2 3 (([c1,c2].drop 0).take (Tryz.prog.cellsOf 3))=some z0:=hg 0 _ rfl
 have g1:DataW.trod enc Tryz.prog w base spare held n2 3 (([c1,c2].drop 1).take (Tryz.prog.cellsOf 3))=some z1:=hg 1 _ rfl
 rw[cellsInt'] at g0 g1
 have g0:DataW.trod enc Tryz.prog w base spare held n2 3 [c1]=some z0:=g0
 have g1:DataW.trod enc Tryz.prog w base spare held n2 3 [c2]=some z1:=g1
 obtain⟨r,e1,_,_⟩:=DataW.trod_int Tryz.underlying3 g0
 obtain⟨d,e2,_,_⟩:=DataW.trod_int Tryz.underlying3 g1
 exact⟨r,d,by rw[(List.cons.inj e1).1,(List.cons.inj e2).1]⟩
theorem open_opn {fuel:Nat} {cs:List Value} {x:DataW H×List MemPlace} (h:DataW.trod enc Tryz.prog w base spare held fuel 120 cs=some x):∃ o:Opn,cs=o.cells:=by
 obtain⟨zs,n2,_,_,hlen,hzz,hg⟩:=DataW.trod_struct Tryz.underlying120 h
 replace hlen:=hlen.trans cellsOpn
 obtain⟨z0,z1,z2,z3,z4,rfl⟩:=list5S hzz
 have g0:DataW.trod enc Tryz.prog w base spare held n2 3 ((cs.drop 0).take (Tryz.prog.cellsOf 3))=some z0:=hg 0 _ rfl
 have g1:DataW.trod enc Tryz.prog w base spare held n2 3 ((cs.drop 1).take (Tryz.prog.cellsOf 3))=some z1:=hg 1 _ rfl
 have g2:DataW.trod enc Tryz.prog w base spare held n2 3 ((cs.drop 2).take (Tryz.prog.cellsOf 3))=some z2:=hg 2 _ rfl
 have g3:DataW.trod enc Tryz.prog w base spare held n2 3 ((cs.drop 3).take (Tryz.prog.cellsOf 3))=some z3:=hg 3 _ rfl
 have g4:DataW.trod enc Tryz.prog w base spare held n2 25 ((cs.drop 4).take (Tryz.prog.cellsOf 25))=some z4:=hg 4 _ rfl
 rw[cellsInt'] at g0 g1 g2 g3
 rw[cellsRat] at g4
 obtain⟨k,e0,_,_⟩:=DataW.trod_int Tryz.underlying3 g0
 obtain⟨a,e1,_,_⟩:=DataW.trod_int Tryz.underlying3 g1
 obtain⟨b,e2,_,_⟩:=DataW.trod_int Tryz.underlying3 g2
 obtain⟨n,e3,_,_⟩:=DataW.trod_int Tryz.underlying3 g3
 obtain⟨r,d,e4⟩:=open_ratS g4
 refine⟨⟨k,a,b,n,r,d⟩,?_⟩
 have h0:cs=cs.drop 0:=rfl
 rw[h0,cut_at cs 0 1,e0,cut_at cs (0+1) 1,e1,cut_at cs (0+1+1) 1,e2,cut_at cs (0+1+1+1) 1,e3,cut_at cs (0+1+1+1+1) 2,e4,List.drop_of_length_le (by omega)]
 rfl
theorem open_num {fuel:Nat} {cs:List Value} {x:DataW H×List MemPlace} (h:DataW.trod enc Tryz.prog w base spare held fuel 3 cs=some x):∃ n:Int,cs=numC n:=by
 obtain⟨n,e,_,_⟩:=DataW.trod_int Tryz.underlying3 h
 exact⟨n,e⟩
def Sy.rd (x:Sy) (w:World):Prop:=(RowV Opn.cells 6 w w.heap.size x.oa x.ops∧RowV numC 1 w w.heap.size x.ua x.outs∧RowI w x.pa x.ps)∧x.ops.length≤1048576∧x.outs.length≤1048576∧x.ps.length≤1048576
theorem open_sys {fuel:Nat} {cs:List Value} {x:DataW H×List MemPlace} (h:DataW.trod enc Tryz.prog w base spare held fuel 60 cs=some x) (hb:Rows.uptoBulk x.1≤1048576):∃ q:Sy,cs=q.cells∧q.rd w:=by
 obtain⟨zs,n2,_,hx,hlen,hzz,hg⟩:=DataW.trod_struct Tryz.underlying60 h
 replace hlen:=hlen.trans cellsSys
 obtain⟨z0,z1,z2,rfl⟩:=list3V hzz
 have g0:DataW.trod enc Tryz.prog w base spare held n2 57 ((cs.drop 0).take (Tryz.prog.cellsOf 57))=some z0:=hg 0 _ rfl
 have g1:DataW.trod enc Tryz.prog w base spare held n2 3 ((cs.drop 3).take (Tryz.prog.cellsOf 3))=some z1:=hg 1 _ rfl
 have g2:DataW.trod enc Tryz.prog w base spare held n2 58 ((cs.drop 4).take (Tryz.prog.cellsOf 58))=some z2:=hg 2 _ rfl
 rw[cellsTape] at g0
 rw[cellsInt'] at g1
 rw[cellsRowI] at g2
 have hb0:Rows.uptoBulk z0.1≤1048576:=Nat.le_trans (by rw[hx];exact bulk_agg (by simp)) hb
 obtain⟨ys,n3,_,hy,hylen,hyy,hyg⟩:=DataW.trod_struct Tryz.underlying57 g0
 obtain⟨y0,y1,y2,rfl⟩:=list3V hyy
 have f0:DataW.trod enc Tryz.prog w base spare held n3 3 ((((cs.drop 0).take 3).drop 0).take (Tryz.prog.cellsOf 3))=some y0:=hyg 0 _ rfl
 have f1:DataW.trod enc Tryz.prog w base spare held n3 54 ((((cs.drop 0).take 3).drop 1).take (Tryz.prog.cellsOf 54))=some y1:=hyg 1 _ rfl
 have f2:DataW.trod enc Tryz.prog w base spare held n3 55 ((((cs.drop 0).take 3).drop 2).take (Tryz.prog.cellsOf 55))=some y2:=hyg 2 _ rfl
 rw[cellsInt'] at f0
 rw[cellsRowO] at f1
 rw[cellsRowZ] at f2
 obtain⟨ins,e0,_,_⟩:=DataW.trod_int Tryz.underlying3 f0
 obtain⟨oa,ops,oc,e1,hro,hlo,_⟩:=open_rowV (⟨0,0,0,0,0,0⟩:Opn) Opn.cells 6 (by decide) _ _ Tryz.underlying54 cellsOpn (fun _=>rfl) (fun _=>True) (fun f cs x h _=>by obtain⟨o,e⟩:=open_opn h;exact⟨o,e,trivial⟩) f1 (Nat.le_trans (by rw[hy];exact bulk_agg (by simp)) hb0)
 obtain⟨ua,outs,uc,e2,hru,hlu,_⟩:=open_rowV (0:Int) numC 1 (by decide) _ _ Tryz.underlying55 cellsInt' (fun _=>rfl) (fun _=>True) (fun f cs x h _=>by obtain⟨o,e⟩:=open_num h;exact⟨o,e,trivial⟩) f2 (Nat.le_trans (by rw[hy];exact bulk_agg (by simp)) hb0)
 obtain⟨st,e3,_,_⟩:=DataW.trod_int Tryz.underlying3 g1
 obtain⟨pa,ps,pc,e4,hrp,hlp⟩:=open_rowI g2 (Nat.le_trans (by rw[hx];exact bulk_agg (by simp)) hb)
 refine⟨⟨ins,oa,oc,ops,ua,uc,outs,st,pa,pc,ps⟩,?_,⟨hro,hru,hrp⟩,hlo,hlu,hlp⟩
 have h0:cs=cs.drop 0:=rfl
 have ht:(cs.drop 0).take 3=[.int .i64 ins,.slice oa ops.length oc,.slice ua outs.length uc]:=by
  have h1:(cs.drop 0).take 3=((cs.drop 0).take 3).drop 0:=rfl
  have hl3:((cs.drop 0).take 3).length=3:=by rw[List.length_take,List.length_drop];omega
  rw[h1,cut_at _ 0 1,e0,cut_at _ (0+1) 1,e1,cut_at _ (0+1+1) 1,e2,List.drop_of_length_le (by omega)]
  rfl
 rw[h0,cut_at cs 0 3,ht,cut_at cs (0+3) 1,e3,cut_at cs (0+3+1) 1,e4,List.drop_of_length_le (by omega)]
 rfl
end
end
section
open Go.ChangeShapes Go.WideShapes Go.ChangeAt Go.RowKit
theorem ownKnobs:ownKnob Tryz.prog.godebug=none:=by kernel_rfl
theorem laidOutSeat:laidOutB Tryz.prog=true:=by kernel_rfl
theorem gTab : Tryz.prog.globalNamed "math/bits.deBruijn32tab" = some 1 := by kernel_rfl
theorem gTabType:(Tryz.prog.globals[1]?).map (·.type)=some 304:=by kernel_rfl
theorem cellsTab:Tryz.prog.cellsOf 304=32:=by kernel_rfl
theorem cellsByte:Tryz.prog.cellsOf 5=1:=by kernel_rfl
def tabInts:List Int:=[0,1,28,2,29,14,24,3,30,22,20,15,25,17,4,8,31,27,13,23,21,19,16,7,26,12,18,6,11,5,10,9]
theorem tab_of_laid {W : World} (h : laidMetH Tryz.prog [("math/bits.deBruijn32tab", Rows.laid_math_bits_deBruijn32tab)] W) : Tab W := by
 have T : Lib.TabIs Tryz.prog W "math/bits.deBruijn32tab" .u8 tabInts :=
  Lib.tabIs_of_head (rest:=[]) gTab gTabType Tryz.underlying304 Tryz.underlying5 cellsByte cellsTab h
 intro j hj
 have hc:=T.cell gTab j hj
 rw[hc]
 have e:∀ j:Fin 32,tabInts.getD j.1 0=((Lib.deBruijn32tab.getD j.1 0:Nat):Int):=by decide
 exact congrArg some (congrArg (Value.int IntKind.u8) (e ⟨j,hj⟩))
noncomputable def laidWorld (os:Os):World :=
 { World.holding Tryz.prog os ⟨#[],#[],[]⟩ with heap:=(World.holding Tryz.prog os ⟨#[],#[],[]⟩).heap.modify 1 fun
   | .cells _ t frozen=>.cells (tabInts.map fun z=>Value.int .u8 z).toArray t frozen
   | o=>o }
section
variable {H:Type} {enc:TypeId×Value→H} {P:Program}
theorem post_of_below {f:Func} {s:ChangeSpec} {apart fresh handsOn again:Bool} {W W':World} {args:Array Value} {v:Value} {ds gs:List (DataW H)} {before pa pv:List MemPlace}
  (hW:DataW.Whole enc P f.params.toList s.vars apart W args.toList ds gs before)
  (hres:∀ (b:Nat) (sp:Nat→Bool) (hd:Bool),DataW.TrodAll enc P W' b sp hd f.resultTypes.toList (v.resultList f.resultTypes.size) (s.fn H (ds++gs)).results [])
  (hargs:∀ sp:Nat→Bool,(∀ p∈before,sp p.block=true)→DataW.TrodAll enc P W' 0 sp true f.params.toList args.toList (s.fn H (ds++gs)).args pa)
  (hvars:∀ sp:Nat→Bool,(∀ p∈before,sp p.block=true)→DataW.TrodVars enc P W' sp s.vars (s.fn H (ds++gs)).vars pv)
  (hps:before=pa++pv) (hb:Below W.heap.size W W')
  (hok:∀ (j:Nat) (t:TypeId) (r:Value),f.resultTypes[j]? = some t→(v.resultList f.resultTypes.size)[j]? = some r→Value.okWide P W' .any 0 t r) :
  s.post enc P f apart fresh handsOn again W args v W':=by
 have hlt:∀ p∈before,p.block<W.heap.size:=fun p hp=>hW.lt p hp
 have hold:∀ p∈before,(fun b=>decide (b<W.heap.size)) p.block=true:=fun p hp=>by simpa using hlt p hp
 refine⟨ds,gs,before,[],pa,pv,hW,hres _ _ _,hargs _ hold,hvars _ hold,World.keptBut_mono (fun p hp=>⟨hp,?_⟩) (hb.frame (·∈before)),fun _=>?_⟩
 ·rw[hps,List.mem_append] at hp
  exact Or.inr hp
 obtain⟨_,_,_,_,_,hz,hn⟩:=hW
 refine⟨hok,_,_,([]++pa)++pv,⟨[]++pa,pv,trodAll_append (hargs _ (fun _ _=>rfl)) (hres _ _ _),hvars _ (fun _ _=>rfl),rfl,?_,?_⟩,?_⟩
 ·intro b off hp
  have hin:MemPlace.cell b off∈before:=by rw[hps];simpa using hp
  rw[hb.frozen (hlt _ hin)]
  exact hz b off hin
 ·intro ha
  have:=hn ha
  rw[hps] at this
  simpa using this
 intro p hp _
 rw[hps]
 simpa using hp
end
theorem bulk_bound {H:Type} {l:List (DataW H)} {d:DataW H} (hk:Rows.uptoSmall H l=true) (h:d∈l):Rows.uptoBulk d≤1048576 :=
 Nat.le_trans (bulk_part h) (of_decide_eq_true hk)
end
section
open Go.ChangeShapes Go.WideShapes Go.ChangeAt Go.RowKit
theorem pe_laid:laidOutB Tryz.pinned.checked.prog=true:=by kernel_rfl
theorem pe_maps:mapsRowed Tryz.pinned.checked.prog=true:=by kernel_rfl
theorem pe_heard:Tryz.pinned.checked.prog.stopsHeard=true:=by kernel_rfl
theorem pe_enter:Tryz.pinned.checked.prog.mayEnter=true:=by kernel_rfl
end
section
def nX:ByteArray:=⟨#[120]⟩
def nY:ByteArray:=⟨#[121]⟩
theorem nX_name:nameB nX=true:=by kernel_rfl
theorem nY_name:nameB nY=true:=by kernel_rfl
end
section
open Go.RowKit Go.Sort
end
section
open Go.RowKit Go.Sort
end
section
def nRun:ByteArray:=⟨#[114,117,110]⟩
def exG (a1 a2:Option Addr):Ex:=.mk 7 0 0 ⟨#[]⟩ 0 a2 1 [.mk 5 0 0 ⟨#[]⟩ 0 a1 2 [varE nX,varE nX]]
def exM (fa a1 a2:Option Addr):Mo:=⟨nRun,fa,2,[⟨nY,exG a1 a2⟩,⟨nX,varE nY⟩],none,0,[]⟩
def exP (sa ma fa a1 a2:Option Addr):Pr:=⟨sa,2,[⟨nX,1,1,1,1⟩,⟨nY,1,1,1,1⟩],none,0,[],ma,1,[exM fa a1 a2],1,1⟩
theorem exG_er (a1 a2:Option Addr):(exG a1 a2).er=(exG none none).er:=rfl
theorem exG_ok (a1 a2:Option Addr):(exG a1 a2).ok=true:=by
 rw[ok_er (exG_er a1 a2)];kernel_rfl
theorem exV_ok:(varE nY).ok=true:=by kernel_rfl
theorem namO_exG (a1 a2:Option Addr):namO (exG a1 a2)=[nX]:=by
 unfold namO flatE
 rw[if_pos (exG_ok _ _)]
 show namesL [nX,nX]=[nX]
 show insS [nX] nX=[nX]
 unfold insS
 rw[if_neg (by rw[blt_irrefl];decide),if_pos rfl]
theorem namO_exV:namO (varE nY)=[nY]:=by
 unfold namO flatE
 rw[if_pos exV_ok]
 rfl
theorem inX:inS [nX,nY] nX=true:=by kernel_rfl
theorem inY:inS [nX,nY] nY=true:=by kernel_rfl
theorem exG_known (a1 a2:Option Addr):knownF [nX,nY] (exG a1 a2)=none:=by
 unfold knownF
 rw[namO_exG]
 simp only[unknF,isIn,inX,needF,orF,if_true]
theorem exV_known:knownF [nX,nY] (varE nY)=none:=by
 unfold knownF
 rw[namO_exV]
 simp only[unknF,isIn,inY,needF,orF,if_true]
theorem nRun_name:nameB nRun=true:=by kernel_rfl
theorem exD_ok:[(⟨nX,1,1,1,1⟩:De),⟨nY,1,1,1,1⟩].all declB=true:=by kernel_rfl
theorem rat11:ratB 1 1=true:=by kernel_rfl
theorem exP_prob (sa ma fa a1 a2:Option Addr):probB (exP sa ma fa a1 a2)=true:=by
 have h1:eqnB ⟨nY,exG a1 a2⟩=true:=by
  unfold eqnB
  simp only[exG_ok,nY_name,Bool.and_self]
 have h2:eqnB ⟨nX,varE nY⟩=true:=by
  unfold eqnB
  simp only[exV_ok,nX_name,Bool.and_self]
 have h3:modeB (exM fa a1 a2)=true:=by
  have e:modeB (exM fa a1 a2)=(nameB nRun&&(true&&(true&&((eqnB ⟨nY,exG a1 a2⟩&&(eqnB ⟨nX,varE nY⟩&&true))&&true)))):=rfl
  rw[e,h1,h2,nRun_name]
  rfl
 have e:probB (exP sa ma fa a1 a2)=((true&&(true&&true))&&([(⟨nX,1,1,1,1⟩:De),⟨nY,1,1,1,1⟩].all declB&&(true&&((modeB (exM fa a1 a2)&&true)&&ratB 1 1)))):=rfl
 rw[e,h3,exD_ok,rat11]
 rfl
theorem exMiss:missF [nY,nX] [nX,nY]=none:=by kernel_rfl
theorem exOnce1:onceF [] [nX,nY]=none:=by kernel_rfl
theorem exOnce2:onceF [] [nRun]=none:=by kernel_rfl
theorem exRng:rngF [⟨nX,1,1,1,1⟩,⟨nY,1,1,1,1⟩]=none:=by kernel_rfl
theorem exIn:isIn nX ([]++[nY])=false:=by kernel_rfl
theorem exP_check (sa ma fa a1 a2:Option Addr):checkF (exP sa ma fa a1 a2)=none:=by
 have hm:modesF [nX,nY] [nX,nY] [nRun] [exM fa a1 a2]=none:=by
  have h1:flowF [nX,nY] [nX,nY] [] [⟨nY,exG a1 a2⟩,⟨nX,varE nY⟩]=none:=by
   have e1:isIn nY []=false:=rfl
   have e2:=exIn
   simp only[flowF,givenF,exG_known,exV_known,e1,e2]
   simp only[isIn,inX,inY,needF,orF,if_true,Bool.not_false]
  have h2:missF ([⟨nY,exG a1 a2⟩,⟨nX,varE nY⟩].map Qe.name) [nX,nY]=none:=by
   exact exMiss
  unfold modesF modeF exM
  simp only[h1]
  rw[orF_none,show missF (List.map Qe.name [{ name:=nY,e:=exG a1 a2 },{ name:=nX,e:=varE nY }]) [nX,nY]=none from h2]
  rfl
 unfold checkF
 rw[exP_prob]
 show orF (needF true 1 _) (orF (onceF [] [nX,nY]) (orF (onceF [] [nRun]) (orF (rngF [⟨nX,1,1,1,1⟩,⟨nY,1,1,1,1⟩]) (orF (needF (decide ((0:Int)<1)) 2 _) (modesF [nX,nY] [nX,nY] [nRun] [exM fa a1 a2])))))=none
 rw[hm,exOnce1,exOnce2,exRng]
 rfl
theorem exP_okF (sa ma fa a1 a2:Option Addr):okF (exP sa ma fa a1 a2)=true:=by
 unfold okF
 rw[exP_check];rfl
theorem exP_mode (sa ma fa a1 a2:Option Addr):modeO (exP sa ma fa a1 a2) nRun=some (exM fa a1 a2):=by
 unfold modeO
 rw[if_pos (exP_okF _ _ _ _ _)]
 show [exM fa a1 a2].find? _=_
 rw[List.find?_cons,show decide ((exM fa a1 a2).name=nRun)=true from decide_eq_true rfl]
theorem exP_tape (sa ma fa a1 a2:Option Addr):tapeF (allN (exP sa ma fa a1 a2)) [] (rightsF (exP sa ma fa a1 a2) (exM fa a1 a2))=([⟨5,0,0,0,0,0⟩,⟨7,2,0,0,0,0⟩],[1,3]):=by
 kernel_rfl
theorem exP_sysE (sa ma fa a1 a2:Option Addr):sysE (exP sa ma fa a1 a2) nRun 60=0:=by
 unfold sysE
 rw[if_neg (by rw[exP_okF];decide),if_neg (by decide),exP_mode]
 simp only
 rw[exP_tape]
 rfl
theorem exP_sysV (sa ma fa a1 a2:Option Addr):sysV (exP sa ma fa a1 a2) nRun 60=(2,[⟨5,0,0,0,0,0⟩,⟨7,2,0,0,0,0⟩],[1,3],2,[]):=by
 unfold sysV
 rw[exP_mode]
 simp only
 rw[exP_tape]
 rw[if_pos ⟨by decide,by decide⟩]
 rfl
end
end Go.Proofs.YteidgoldnllabaaGreatDoor
