/-
  Plain: expressions as trees: size, depth, validity; no program in sight.
-/
import Derived.Test.YteidgoldnllabaaGreatDoorMNum
import Derived.Lib.Strings
import Derived.Lib.Slices
import Derived.Lib.Bytealg
import Derived.Deep.CutRange
import Derived.Deep.DeepFit
import Derived.Deep.LoopGhost
import Derived.Deep.RegionWith
namespace Go.Proofs.YteidgoldnllabaaGreatDoor
open Go.RowKit
open Lib (hid)
section
inductive Ex where
 | mk (kind rn rd:Int) (name:ByteArray) (pw:Int) (a:Option Addr) (c:Nat) (l:List Ex)
def Ex.kind:Ex→Int | .mk k _ _ _ _ _ _ _=>k
def Ex.rn:Ex→Int | .mk _ n _ _ _ _ _ _=>n
def Ex.rd:Ex→Int | .mk _ _ d _ _ _ _ _=>d
def Ex.name:Ex→ByteArray | .mk _ _ _ s _ _ _ _=>s
def Ex.pw:Ex→Int | .mk _ _ _ _ p _ _ _=>p
def Ex.a:Ex→Option Addr | .mk _ _ _ _ _ a _ _=>a
def Ex.c:Ex→Nat | .mk _ _ _ _ _ _ c _=>c
def Ex.l:Ex→List Ex | .mk _ _ _ _ _ _ _ l=>l
theorem Ex.ind {P:Ex→Prop} (h:∀ e:Ex,(∀ x∈e.l,P x)→P e):∀ e,P e
 | .mk k n d s p a c l=>h _ (fun x hx=>by
   have:SizeOf.sizeOf x<SizeOf.sizeOf l:=List.sizeOf_lt_of_mem hx
   exact Ex.ind h x)
termination_by e=>SizeOf.sizeOf e
decreasing_by
 simp_wf
 omega
mutual
def Ex.size:Ex→Nat | .mk _ _ _ _ _ _ _ l=>1+Ex.sizeL l
def Ex.sizeL:List Ex→Nat | []=>0 | x::t=>x.size+Ex.sizeL t
end
mutual
def Ex.depth:Ex→Nat | .mk _ _ _ _ _ _ _ l=>1+Ex.depthL l
def Ex.depthL:List Ex→Nat | []=>0 | x::t=>max x.depth (Ex.depthL t)
end
theorem Ex.size_eq (e:Ex):e.size=1+Ex.sizeL e.l:=by cases e;rw[Ex.size];rfl
theorem Ex.depth_eq (e:Ex):e.depth=1+Ex.depthL e.l:=by cases e;rw[Ex.depth];rfl
theorem Ex.size_pos (e:Ex):1≤e.size:=by rw[e.size_eq];omega
def isLet (b:UInt8):Bool:=(decide (97≤b.toNat)&&decide (b.toNat≤122))||(decide (65≤b.toNat)&&decide (b.toNat≤90))
def isDig (b:UInt8):Bool:=decide (48≤b.toNat)&&decide (b.toNat≤57)
def isRun (b:UInt8):Bool:=isLet b||(isDig b||decide (b.toNat=95))
def wordB (s:ByteArray):Bool:=match s.data.toList with | []=>false | b::t=>isLet b&&t.all isRun
def keywords : List String := ["state", "param", "in", "mode", "when", "rises", "falls", "goto", "with", "time", "exp", "log", "sin", "cos", "sqrt"]
def keyB (s:ByteArray):Bool:=keywords.any fun k=>decide (s=k.toUTF8)
def nameB (s:ByteArray):Bool:=wordB s&&(decide (s.size≤20)&&!keyB s)
def ratB (n d:Int):Bool:=decide (1≤d∧d≤1073741824)&&(decide (-1073741824≤n∧n≤1073741824)&&decide (Nat.gcd n.natAbs d.natAbs=1))
def opsK (k:Int):Int:=if 3≤k∧k≤6 then 2 else if 7≤k∧k≤13 then 1 else -1
def nodeB (e:Ex):Bool :=
 if e.kind=1 then ratB e.rn e.rd&&(decide (e.name.size=0)&&(decide (e.pw=0)&&decide (e.l.length=0)))
 else if e.kind=2 then decide (e.rn=0∧e.rd=0)&&(nameB e.name&&(decide (e.pw=0)&&decide (e.l.length=0)))
 else if e.kind=8 then decide (e.rn=0∧e.rd=0)&&(decide (e.name.size=0)&&(decide (0≤e.pw∧e.pw≤16)&&decide (e.l.length=1)))
 else decide (e.rn=0∧e.rd=0)&&(decide (e.name.size=0)&&(decide (e.pw=0)&&decide ((e.l.length:Int)=opsK e.kind)))
mutual
def Ex.allB:Ex→Bool | .mk k n d s p a c l=>nodeB (.mk k n d s p a c l)&&Ex.allL l
def Ex.allL:List Ex→Bool | []=>true | x::t=>x.allB&&Ex.allL t
end
theorem Ex.allB_eq (e:Ex):e.allB=(nodeB e&&Ex.allL e.l):=by cases e;rw[Ex.allB];rfl
def Ex.ok (e:Ex):Bool:=e.allB&&(decide (e.depth≤20)&&decide (e.size≤200))
mutual
def Ex.cnt:Ex→Nat→Nat→Bool×Nat
 | .mk k r d s p a c l,dp,n=>if 20<dp∨200<n+1∨nodeB (.mk k r d s p a c l)=false then (false,n+1) else Ex.cntL l (dp+1) (n+1)
def Ex.cntL:List Ex→Nat→Nat→Bool×Nat
 | [],_,n=>(true,n)
 | x::t,dp,n=>if (x.cnt dp n).1=true then Ex.cntL t dp (x.cnt dp n).2 else (false,(x.cnt dp n).2)
end
theorem Ex.cnt_eq (e:Ex) (dp n:Nat):e.cnt dp n=if 20<dp∨200<n+1∨nodeB e=false then (false,n+1) else Ex.cntL e.l (dp+1) (n+1):=by cases e;rw[Ex.cnt];rfl
theorem Ex.cntL_cons (x:Ex) (t:List Ex) (dp n:Nat):Ex.cntL (x::t) dp n=if (x.cnt dp n).1=true then Ex.cntL t dp (x.cnt dp n).2 else (false,(x.cnt dp n).2):=by rw[Ex.cntL]
theorem Ex.cntL_nil (dp n:Nat):Ex.cntL [] dp n=(true,n):=by rw[Ex.cntL]
theorem Ex.sizeL_cons (x:Ex) (t:List Ex):Ex.sizeL (x::t)=x.size+Ex.sizeL t:=by rw[Ex.sizeL]
theorem Ex.sizeL_nil:Ex.sizeL []=0:=by rw[Ex.sizeL]
theorem Ex.depthL_cons (x:Ex) (t:List Ex):Ex.depthL (x::t)=max x.depth (Ex.depthL t):=by rw[Ex.depthL]
theorem Ex.depthL_nil:Ex.depthL []=0:=by rw[Ex.depthL]
theorem Ex.allL_cons (x:Ex) (t:List Ex):Ex.allL (x::t)=(x.allB&&Ex.allL t):=by rw[Ex.allL]
theorem Ex.allL_nil:Ex.allL []=true:=by rw[Ex.allL]
theorem cnt_list {l:List Ex} (ih:∀ x∈l,∀ dp n,(((x.cnt dp n).1=true↔x.allB=true∧x.depth+dp≤21∧n+x.size≤200)∧((x.cnt dp n).1=true→(x.cnt dp n).2=n+x.size))) :
  ∀ dp n,dp≤21→n≤200→(((Ex.cntL l dp n).1=true↔Ex.allL l=true∧Ex.depthL l+dp≤21∧n+Ex.sizeL l≤200)∧((Ex.cntL l dp n).1=true→(Ex.cntL l dp n).2=n+Ex.sizeL l)):=by
 induction l with
 | nil =>
  intro dp n h1 h2
  rw[Ex.cntL_nil,Ex.allL_nil,Ex.depthL_nil,Ex.sizeL_nil]
  exact⟨⟨fun _=>⟨rfl,by omega,by omega⟩,fun _=>rfl⟩,fun _=>rfl⟩
 | cons x t iht =>
  intro dp n h1 h2
  obtain⟨hx,hx2⟩:=ih x (.head _) dp n
  rw[Ex.cntL_cons,Ex.allL_cons,Ex.depthL_cons,Ex.sizeL_cons,Bool.and_eq_true]
  by_cases hc:(x.cnt dp n).1=true
  ·obtain⟨h3,h4,h5⟩:=hx.1 hc
   rw[if_pos hc,hx2 hc]
   obtain⟨i1,i2⟩:=iht (fun y hy=>ih y (.tail _ hy)) dp (n+x.size) h1 h5
   refine⟨⟨fun h=>?_,fun h=>?_⟩,fun h=>?_⟩
   ·obtain⟨q1,q2,q3⟩:=i1.1 h
    exact⟨⟨h3,q1⟩,by omega,by omega⟩
   ·exact i1.2 ⟨h.1.2,by omega,by omega⟩
   ·rw[i2 h];omega
  ·rw[if_neg hc]
   refine⟨⟨fun h=>(by cases h),fun h=>absurd (hx.2 ⟨h.1.1,by omega,by omega⟩) hc⟩,fun h=>by cases h⟩
theorem cnt_iff:∀ (e:Ex) (dp n:Nat),(((e.cnt dp n).1=true↔e.allB=true∧e.depth+dp≤21∧n+e.size≤200)∧((e.cnt dp n).1=true→(e.cnt dp n).2=n+e.size)):=by
 refine Ex.ind fun e ih dp n=>?_
 rw[Ex.cnt_eq,Ex.allB_eq,e.depth_eq,e.size_eq,Bool.and_eq_true]
 by_cases h:20<dp∨200<n+1∨nodeB e=false
 ·rw[if_pos h]
  refine⟨⟨fun h2=>(by cases h2),fun h2=>?_⟩,fun h2=>by cases h2⟩
  rcases h with h | h | h
  ·omega
  ·omega
  rw[h2.1.1] at h;cases h
 rw[if_neg h]
 have hn:nodeB e=true:=by cases hb:nodeB e with | true=>rfl | false=>exact absurd (.inr (.inr hb)) h
 have hd:¬ 20<dp:=fun h2=>h (.inl h2)
 have hs:¬ 200<n+1:=fun h2=>h (.inr (.inl h2))
 obtain⟨i1,i2⟩:=cnt_list ih (dp+1) (n+1) (by omega) (by omega)
 refine⟨⟨fun h2=>?_,fun h2=>?_⟩,fun h2=>?_⟩
 ·obtain⟨q1,q2,q3⟩:=i1.1 h2
  exact⟨⟨hn,q1⟩,by omega,by omega⟩
 ·exact i1.2 ⟨h2.1.2,by omega,by omega⟩
 rw[i2 h2];omega
theorem cnt_ok (e:Ex):(e.cnt 1 0).1=e.ok:=by
 rw[Bool.eq_iff_iff,(cnt_iff e 1 0).1]
 unfold Ex.ok
 rw[Bool.and_eq_true,Bool.and_eq_true,decide_eq_true_eq,decide_eq_true_eq]
 exact and_congr_right fun _=>and_congr (by omega) (by omega)
mutual
def Ex.rct:Ex→Nat→Nat
 | .mk _ _ _ _ _ _ _ _,0=>1048576
 | .mk k r d s p a c l,lv+1=>if nodeB (.mk k r d s p a c l)=false then 1048576 else Ex.rctL l lv 1
def Ex.rctL:List Ex→Nat→Nat→Nat
 | [],_,n=>n
 | x::t,lv,n=>if n≤200 then Ex.rctL t lv (n+x.rct lv) else n
end
end
section
mutual
def Ex.er:Ex→Ex | .mk k r d s p _ _ l=>.mk k r d s p none 0 (Ex.erL l)
def Ex.erL:List Ex→List Ex | []=>[] | x::t=>x.er::Ex.erL t
end
theorem Ex.erL_map (l:List Ex):Ex.erL l=l.map Ex.er:=by
 induction l with
 | nil=>rw[Ex.erL];rfl
 | cons x t ih=>rw[Ex.erL,ih];rfl
theorem Ex.er_eq (e:Ex):e.er=.mk e.kind e.rn e.rd e.name e.pw none 0 (e.l.map Ex.er):=by cases e;rw[Ex.er,Ex.erL_map];rfl
theorem Ex.er_l (e:Ex):e.er.l=e.l.map Ex.er:=by rw[e.er_eq];rfl
theorem Ex.er_kind (e:Ex):e.er.kind=e.kind:=by rw[e.er_eq];rfl
theorem Ex.er_name (e:Ex):e.er.name=e.name:=by rw[e.er_eq];rfl
theorem Ex.er_iff {x y:Ex}:x.er=y.er↔(x.kind=y.kind∧x.rn=y.rn∧x.rd=y.rd∧x.name=y.name∧x.pw=y.pw)∧x.l.map Ex.er=y.l.map Ex.er:=by
 rw[x.er_eq,y.er_eq]
 simp only[Ex.mk.injEq,true_and]
 constructor
 ·rintro ⟨h1,h2,h3,h4,h5,h6⟩;exact⟨⟨h1,h2,h3,h4,h5⟩,h6⟩
 rintro ⟨⟨h1,h2,h3,h4,h5⟩,h6⟩;exact⟨h1,h2,h3,h4,h5,h6⟩
theorem sizeL_er {l:List Ex} (h:∀ x∈l,x.er.size=x.size):Ex.sizeL (l.map Ex.er)=Ex.sizeL l:=by
 induction l with
 | nil=>rfl
 | cons x t ih=>rw[List.map_cons,Ex.sizeL_cons,Ex.sizeL_cons,h x (.head _),ih fun y hy=>h y (.tail _ hy)]
theorem Ex.er_size:∀ e:Ex,e.er.size=e.size:=by
 refine Ex.ind fun e ih=>?_
 rw[e.er.size_eq,e.size_eq,e.er_l,sizeL_er ih]
theorem depthL_er {l:List Ex} (h:∀ x∈l,x.er.depth=x.depth):Ex.depthL (l.map Ex.er)=Ex.depthL l:=by
 induction l with
 | nil=>rfl
 | cons x t ih=>rw[List.map_cons,Ex.depthL_cons,Ex.depthL_cons,h x (.head _),ih fun y hy=>h y (.tail _ hy)]
theorem Ex.er_depth:∀ e:Ex,e.er.depth=e.depth:=by
 refine Ex.ind fun e ih=>?_
 rw[e.er.depth_eq,e.depth_eq,e.er_l,depthL_er ih]
theorem Ex.er_rn (e:Ex):e.er.rn=e.rn:=by rw[e.er_eq];rfl
theorem Ex.er_rd (e:Ex):e.er.rd=e.rd:=by rw[e.er_eq];rfl
theorem Ex.er_pw (e:Ex):e.er.pw=e.pw:=by rw[e.er_eq];rfl
theorem nodeB_er (e:Ex):nodeB e.er=nodeB e:=by unfold nodeB;rw[e.er_kind,e.er_rn,e.er_rd,e.er_name,e.er_pw,e.er_l,List.length_map]
theorem allL_er {l:List Ex} (h:∀ x∈l,x.er.allB=x.allB):Ex.allL (l.map Ex.er)=Ex.allL l:=by
 induction l with
 | nil=>rfl
 | cons x t ih=>rw[List.map_cons,Ex.allL_cons,Ex.allL_cons,h x (.head _),ih fun y hy=>h y (.tail _ hy)]
theorem Ex.er_all:∀ e:Ex,e.er.allB=e.allB:=by
 refine Ex.ind fun e ih=>?_
 rw[e.er.allB_eq,e.allB_eq,nodeB_er,e.er_l,allL_er ih]
theorem Ex.er_ok (e:Ex):e.er.ok=e.ok:=by unfold Ex.ok;rw[e.er_all,e.er_depth,e.er_size]
theorem ok_er {x y:Ex} (h:x.er=y.er):x.ok=y.ok:=by rw[← x.er_ok,← y.er_ok,h]
mutual
def Ex.eqv:Ex→Ex→Bool
 | .mk k r d s p _ _ l,y=>(decide (k=y.kind)&&(decide (r=y.rn∧d=y.rd)&&(decide (s=y.name)&&decide (p=y.pw))))&&Ex.eqL l y.l
def Ex.eqL:List Ex→List Ex→Bool
 | [],[]=>true
 | [],_::_=>false
 | _::_,[]=>false
 | x::t,y::u=>x.eqv y&&Ex.eqL t u
end
mutual
def Ex.sub (f:ByteArray→Option Ex):Ex→Ex
 | .mk k r d s p a c l=>if k=2∧(f s).isSome=true then (f s).getD (.mk k r d s p a c l) else .mk k r d s p none 0 (Ex.subL f l)
def Ex.subL (f:ByteArray→Option Ex):List Ex→List Ex
 | []=>[]
 | x::t=>x.sub f::Ex.subL f t
end
mutual
def Ex.flat:Ex→List Ex | .mk k r d s p a c l=>.mk k r d s p a c l::Ex.flatL l
def Ex.flatL:List Ex→List Ex | []=>[] | x::t=>x.flat++Ex.flatL t
end
theorem Ex.flat_eq (e:Ex):e.flat=e::Ex.flatL e.l:=by cases e;rw[Ex.flat];rfl
theorem Ex.flatL_cons (x:Ex) (t:List Ex):Ex.flatL (x::t)=x.flat++Ex.flatL t:=by rw[Ex.flatL]
theorem Ex.flatL_nil:Ex.flatL []=[]:=by rw[Ex.flatL]
theorem flatL_len {l:List Ex} (h:∀ x∈l,x.flat.length=x.size):(Ex.flatL l).length=Ex.sizeL l:=by
 induction l with
 | nil=>rw[Ex.flatL_nil,Ex.sizeL_nil];rfl
 | cons x t ih=>rw[Ex.flatL_cons,Ex.sizeL_cons,List.length_append,h x (.head _),ih fun y hy=>h y (.tail _ hy)]
theorem Ex.flat_len:∀ e:Ex,e.flat.length=e.size:=by
 refine Ex.ind fun e ih=>?_
 rw[e.flat_eq,e.size_eq,List.length_cons,flatL_len ih,Nat.add_comm]
mutual
def Ex.occ (s:ByteArray):Ex→Nat | .mk k _ _ n _ _ _ l=>(if k=2∧n=s then 1 else 0)+Ex.occL s l
def Ex.occL (s:ByteArray):List Ex→Nat | []=>0 | x::t=>x.occ s+Ex.occL s t
end
end
section
end
section
def varE (s:ByteArray):Ex:=.mk 2 0 0 s 0 none 0 []
def Ex.vars (e:Ex):List ByteArray:=(e.flat.filter fun x=>decide (x.kind=2)).map Ex.name
end
section
theorem bl_irrefl:∀ x:List UInt8,Op.bytesLess x x=false
 | []=>rfl
 | a::x=>by
  unfold Op.bytesLess
  rw[bl_irrefl x]
  simp
theorem bl_trans:∀ x y z:List UInt8,Op.bytesLess x y=true→Op.bytesLess y z=true→Op.bytesLess x z=true
 | _,[],_,h,_=>by unfold Op.bytesLess at h;cases h
 | _,_::_,[],_,h=>by unfold Op.bytesLess at h;cases h
 | [],_::_,_::_,_,_=>rfl
 | a::x,b::y,c::z,h1,h2=>by
  unfold Op.bytesLess at h1 h2 ⊢
  simp only[Bool.or_eq_true,decide_eq_true_eq,Bool.and_eq_true,beq_iff_eq] at h1 h2 ⊢
  rcases h1 with h1 | ⟨rfl,h1⟩
  ·rcases h2 with h2 | ⟨rfl,h2⟩
   ·exact .inl (UInt8.lt_trans h1 h2)
   ·exact .inl h1
  ·rcases h2 with h2 | ⟨rfl,h2⟩
   ·exact .inl h2
   ·exact .inr ⟨rfl,bl_trans x y z h1 h2⟩
theorem bl_total:∀ x y:List UInt8,Op.bytesLess x y=false→Op.bytesLess y x=false→x=y
 | [],[],_,_=>rfl
 | [],_::_,h,_=>by unfold Op.bytesLess at h;cases h
 | _::_,[],_,h=>by unfold Op.bytesLess at h;cases h
 | a::x,b::y,h1,h2=>by
  unfold Op.bytesLess at h1 h2
  simp only[Bool.or_eq_false_iff,decide_eq_false_iff_not,Bool.and_eq_false_iff,beq_eq_false_iff_ne] at h1 h2
  have hab:a=b:=by
   have e1:¬ a.toNat<b.toNat:=fun h=>h1.1 (UInt8.lt_iff_toNat_lt.2 h)
   have e2:¬ b.toNat<a.toNat:=fun h=>h2.1 (UInt8.lt_iff_toNat_lt.2 h)
   exact UInt8.toNat_inj.1 (by omega)
  subst hab
  rw[bl_total x y (by rcases h1.2 with h | h;exact absurd rfl h;exact h) (by rcases h2.2 with h | h;exact absurd rfl h;exact h)]
def blt (x y:ByteArray):Bool:=Op.bytesLess x.toList y.toList
theorem blt_irrefl (x:ByteArray):blt x x=false:=bl_irrefl _
theorem blt_trans {x y z:ByteArray} (h1:blt x y=true) (h2:blt y z=true):blt x z=true:=bl_trans _ _ _ h1 h2
theorem blt_total {x y:ByteArray} (h1:blt x y=false) (h2:blt y x=false):x=y:=by
 have h:=bl_total _ _ h1 h2
 rw[ByteArray.toList_eq,ByteArray.toList_eq] at h
 exact Go.WideShapes.bytes_inj h
theorem blt_ne {x y:ByteArray} (h:blt x y=true):x≠y:=fun e=>by rw[e,blt_irrefl] at h;cases h
def Asc:List ByteArray→Prop
 | []=>True
 | x::t=>(∀ y∈t,blt x y=true)∧Asc t
def insS:List ByteArray→ByteArray→List ByteArray
 | [],s=>[s]
 | x::t,s=>if blt x s=true then x::insS t s else if x=s then x::t else s::x::t
theorem insS_mem {y s:ByteArray}:∀ {l:List ByteArray},y∈insS l s↔y=s∨y∈l
 | []=>by unfold insS;simp
 | x::t=>by
  unfold insS
  split
  ·rw[List.mem_cons,insS_mem (l:=t),List.mem_cons]
   constructor
   ·rintro (h | h | h)
    ·exact .inr (.inl h)
    ·exact .inl h
    ·exact .inr (.inr h)
   ·rintro (h | h | h)
    ·exact .inr (.inl h)
    ·exact .inl h
    ·exact .inr (.inr h)
  ·split
   ·next hx =>
    subst hx
    constructor
    ·exact fun h=>.inr h
    ·rintro (h | h)
     ·rw[h];exact .head _
     ·exact h
   ·simp
theorem insS_asc {s:ByteArray}:∀ {l:List ByteArray},Asc l→Asc (insS l s)
 | [],_=>by unfold insS;exact⟨fun y h=>by simp at h,trivial⟩
 | x::t,h=>by
  unfold insS
  split
  ·next hx =>
   refine⟨fun y hy=>?_,insS_asc h.2⟩
   rcases insS_mem.1 hy with rfl | hy
   ·exact hx
   ·exact h.1 y hy
  ·split
   ·exact h
   ·next h1 h2 =>
    have hsx:blt s x=true:=by
     cases hb:blt s x with
     | true=>rfl
     | false=>exact absurd (blt_total (by simpa using h1) hb) h2
    refine⟨fun y hy=>?_,h⟩
    rcases List.mem_cons.1 hy with rfl | hy
    ·exact hsx
    ·exact blt_trans hsx (h.1 y hy)
theorem asc_uniq:∀ {l m:List ByteArray},Asc l→Asc m→(∀ y,y∈l↔y∈m)→l=m
 | [],[],_,_,_=>rfl
 | [],y::u,_,_,h=>absurd ((h y).2 (.head _)) (by simp)
 | x::t,[],_,_,h=>absurd ((h x).1 (.head _)) (by simp)
 | x::t,y::u,hl,hm,h=>by
  have hxy:x=y:=by
   have h1:=(h x).1 (.head _)
   have h2:=(h y).2 (.head _)
   rcases List.mem_cons.1 h1 with e | h1
   ·exact e
   ·rcases List.mem_cons.1 h2 with e | h2
    ·exact e.symm
    ·have:=blt_trans (hl.1 y h2) (hm.1 x h1)
     rw[blt_irrefl] at this;cases this
  subst hxy
  rw[asc_uniq hl.2 hm.2 fun z=>?_]
  constructor
  ·intro hz
   rcases List.mem_cons.1 ((h z).1 (.tail _ hz)) with e | h1
   ·exact absurd e (blt_ne (hl.1 z hz)).symm
   ·exact h1
  ·intro hz
   rcases List.mem_cons.1 ((h z).2 (.tail _ hz)) with e | h1
   ·exact absurd e (blt_ne (hm.1 z hz)).symm
   ·exact h1
def namesL (vs:List ByteArray):List ByteArray:=vs.foldl insS []
theorem foldl_asc:∀ (vs l:List ByteArray),Asc l→Asc (vs.foldl insS l)∧∀ y,y∈vs.foldl insS l↔y∈l∨y∈vs
 | [],l,h=>⟨h,fun y=>by simp⟩
 | v::vs,l,h=>by
  obtain⟨h1,h2⟩:=foldl_asc vs (insS l v) (insS_asc h)
  refine⟨h1,fun y=>?_⟩
  rw[List.foldl_cons,h2 y,insS_mem,List.mem_cons]
  constructor
  ·rintro ((h | h) | h)
   ·exact .inr (.inl h)
   ·exact .inl h
   ·exact .inr (.inr h)
  ·rintro (h | h | h)
   ·exact .inl (.inr h)
   ·exact .inl (.inl h)
   ·exact .inr h
theorem namesL_asc (vs:List ByteArray):Asc (namesL vs):=(foldl_asc vs [] trivial).1
theorem namesL_mem {vs:List ByteArray} {y:ByteArray}:y∈namesL vs↔y∈vs:=by rw[show y∈namesL vs↔_ from (foldl_asc vs [] trivial).2 y];simp
end
section
theorem str_eq (a b:ByteArray):(a.toList==b.toList)=decide (a=b):=by
 by_cases h:a=b
 ·subst h;simp
 have:a.toList≠b.toList:=fun e=>h (by
  rw[ByteArray.toList_eq,ByteArray.toList_eq] at e
  cases a;cases b
  simp only[] at e
  congr 1
  exact Array.toList_inj.1 e)
 rw[decide_eq_false h]
 exact beq_eq_false_iff_ne.2 this
theorem byte_at {s:ByteArray} {i:Nat} (h:i<s.size):s.data.toList[i]? = some (s[i]'h):=by
 have h1:i<s.data.toList.length:=by rw[Array.length_toList];exact h
 rw[List.getElem?_eq_getElem h1]
 rfl
theorem byte_size (s:ByteArray):s.data.toList.length=s.size:=Array.length_toList
theorem size_zero {s:ByteArray}:s.size=0↔s=ByteArray.empty:=by
 constructor
 ·intro h
  obtain⟨⟨l⟩⟩:=s
  have:l=[]:=List.length_eq_zero_iff.1 h
  rw[this];rfl
 rintro rfl;rfl
theorem let_run {b:UInt8} (h:isLet b=true):isRun b=true:=by unfold isRun;rw[h];rfl
theorem all_at {p:UInt8→Bool} {l:List UInt8}:l.all p=true↔∀ (i:Nat) (b:UInt8),l[i]? = some b→p b=true:=by
 rw[List.all_eq_true]
 constructor
 ·intro h i b hi;exact h b (List.mem_of_getElem? hi)
 intro h b hb
 obtain⟨i,hi⟩:=List.getElem?_of_mem hb
 exact h i b hi
theorem word_iff (s:ByteArray):wordB s=true↔(∃ b,s.data.toList[0]? = some b∧isLet b=true)∧∀ (i:Nat) (b:UInt8),s.data.toList[i]? = some b→isRun b=true:=by
 unfold wordB
 cases hl:s.data.toList with
 | nil=>simp
 | cons b t =>
 show (isLet b&&t.all isRun)=true↔_
 rw[Bool.and_eq_true,all_at]
 constructor
 ·rintro ⟨h1,h2⟩
  refine⟨⟨b,rfl,h1⟩,fun i c hi=>?_⟩
  cases i with
  | succ j=>exact h2 j c hi
  | zero=>injection hi with hi;subst hi;exact let_run h1
 rintro ⟨⟨c,hc,h1⟩,h2⟩
 injection hc with hc;subst hc
 exact⟨h1,fun i c hi=>h2 (i+1) c hi⟩
theorem word_no {s:ByteArray} {i:Nat} {b:UInt8} (h:s.data.toList[i]? = some b) (hr:isRun b=false):wordB s=false:=by
 refine Bool.eq_false_iff.2 fun hw=>?_
 rw[((word_iff s).1 hw).2 i b h] at hr
 cases hr
theorem word_let {s:ByteArray} {b:UInt8} (h:s.data.toList[0]? = some b) (hl:isLet b=false):wordB s=false:=by
 refine Bool.eq_false_iff.2 fun hw=>?_
 obtain⟨⟨c,hc,h1⟩,_⟩:=(word_iff s).1 hw
 rw[h] at hc;injection hc with hc;subst hc
 rw[h1] at hl;cases hl
theorem word_empty {s:ByteArray} (h:s.size=0):wordB s=false:=by
 unfold wordB
 have:s.data.toList=[]:=List.length_eq_zero_iff.1 (by rw[byte_size];exact h)
 rw[this]
theorem word_yes {s:ByteArray} {b:UInt8} (h0:s.data.toList[0]? = some b) (h1:isLet b=true) (h:∀ (i:Nat) (c:UInt8),s.data.toList[i]? = some c→isRun c=true):wordB s=true:=(word_iff s).2 ⟨⟨b,h0,h1⟩,h⟩
end
section
set_option maxHeartbeats 1000000 in
set_option maxRecDepth 100000 in
theorem ixl_any (s:ByteArray) (c:Int) (w:World) :
  Calls Tryz.prog 272 #[.string s,.int .u8 c] w fun e w'=>e=.returned (.int .i64 (Lib.indexByte s.data.toList c.toNat.toUInt8))∧w'=w:=by
 go_enter Tryz.func272,Tryz.ntmps272
 go_wp2
 rw[run_callFunc_extern Tryz.func290 (by kernel_rfl) (by kernel_rfl) (by kernel_rfl) (e:=Extern.BytealgIndexByte.indexByte) (by kernel_rfl),Lib.run_indexByteString]
 simp only[Result.andThen]
 rw[Oper.upon_value]
 go_wp2
 go_ret
 exact⟨rfl,rfl⟩
set_option maxHeartbeats 1000000 in
theorem ixb_any (s:ByteArray) (c:Int) (w:World) :
  Calls Tryz.prog 243 #[.string s,.int .u8 c] w fun e w'=>∃ k:Int,e=.returned (.int .i64 k)∧w'=w:=by
 go_enter Tryz.func243,Tryz.ntmps243
 go_wp2_with (refine (ixl_any _ _ _).mono ?_;rintro e w' ⟨rfl,rfl⟩)
 go_ret
 exact⟨_,rfl,rfl⟩
end
set_option maxHeartbeats 4000000 in
set_option maxRecDepth 20000 in
theorem class_any (b:UInt8) (w:World):Calls Tryz.prog 199 #[.int .u8 (b.toNat:Int)] w fun e w' =>
  ∃ k:Int,e=.returned (.int .i64 k)∧w'=w∧(k=2↔isLet b=true)∧((k=2∨k=3∨k=4)↔isRun b=true):=by
 have hb:b.toNat<256:=b.toNat_lt
 have hL:isLet b=true↔(97≤b.toNat∧b.toNat≤122)∨(65≤b.toNat∧b.toNat≤90):=by unfold isLet;simp
 have hR:isRun b=true↔((97≤b.toNat∧b.toNat≤122)∨(65≤b.toNat∧b.toNat≤90))∨(48≤b.toNat∧b.toNat≤57)∨b.toNat=95:=by unfold isRun isDig isLet;simp
 generalize hn:b.toNat=n at *
 have HL:=hid hL
 have HR:=hid hR
 clear hL hR hn
 generalize isLet b=l at *
 generalize isRun b=r at *
 clear b
 go_enter Tryz.func199,Tryz.ntmps199
 have n0:(0:Int)≤(n:Int):=by omega
 by_cases c0:(n:Int)=32
 ·(go_wp2;go_ret;refine⟨1,?_,rfl,by rw[HL.out];omega,by rw[HR.out];omega⟩;rfl)
 replace c0:((n:Int)==32)=false:=beq_eq_false_iff_ne.2 c0
 by_cases c1:(n:Int)=9
 ·(go_wp2;go_ret;refine⟨1,?_,rfl,by rw[HL.out];omega,by rw[HR.out];omega⟩;rfl)
 replace c1:((n:Int)==9)=false:=beq_eq_false_iff_ne.2 c1
 by_cases c2:(n:Int)=13
 ·(go_wp2;go_ret;refine⟨1,?_,rfl,by rw[HL.out];omega,by rw[HR.out];omega⟩;rfl)
 replace c2:((n:Int)==13)=false:=beq_eq_false_iff_ne.2 c2
 by_cases c3:(n:Int)=10
 ·(go_wp2;go_ret;refine⟨1,?_,rfl,by rw[HL.out];omega,by rw[HR.out];omega⟩;rfl)
 replace c3:((n:Int)==10)=false:=beq_eq_false_iff_ne.2 c3
 rcases (by omega:(0≤n∧n≤45)∨(46≤n∧n≤46)∨(47≤n∧n≤47)∨(48≤n∧n≤57)∨(58≤n∧n≤64)∨(65≤n∧n≤90)∨(91≤n∧n≤94)∨(95≤n∧n≤95)∨(96≤n∧n≤96)∨(97≤n∧n≤122)∨(123≤n∧n≤255)) with hi | hi | hi | hi | hi | hi | hi | hi | hi | hi | hi
 ·have d0:¬ (97:Int)≤(n:Int):=by omega
  have e0:¬ (65:Int)≤(n:Int):=by omega
  have f0:¬ (48:Int)≤(n:Int):=by omega
  have d1:(n:Int)≤122:=by omega
  have e1:(n:Int)≤90:=by omega
  have f1:(n:Int)≤57:=by omega
  have g:((n:Int)==95)=false:=beq_eq_false_iff_ne.2 (by omega)
  have h:((n:Int)==46)=false:=beq_eq_false_iff_ne.2 (by omega)
  have Hi:=hid hi
  clear hi hb
  go_wp2_with (refine (ixb_any _ _ _).mono ?_;rintro e w' ⟨k2,rfl,rfl⟩;by_cases hk:(0:Int)≤k2)
  ·go_ret
   refine⟨6,?_,rfl,by rw[HL.out];have:=Hi.out;omega,by rw[HR.out];have:=Hi.out;omega⟩
   rfl
  go_ret
  refine⟨0,?_,rfl,by rw[HL.out];have:=Hi.out;omega,by rw[HR.out];have:=Hi.out;omega⟩
  rfl
 ·have d0:¬ (97:Int)≤(n:Int):=by omega
  have e0:¬ (65:Int)≤(n:Int):=by omega
  have f0:¬ (48:Int)≤(n:Int):=by omega
  have d1:(n:Int)≤122:=by omega
  have e1:(n:Int)≤90:=by omega
  have f1:(n:Int)≤57:=by omega
  have g:((n:Int)==95)=false:=beq_eq_false_iff_ne.2 (by omega)
  have h:(n:Int)=46:=by omega
  have Hi:=hid hi
  clear hi hb
  go_wp2
  go_ret
  refine⟨5,?_,rfl,by rw[HL.out];have:=Hi.out;omega,by rw[HR.out];have:=Hi.out;omega⟩
  rfl
 ·have d0:¬ (97:Int)≤(n:Int):=by omega
  have e0:¬ (65:Int)≤(n:Int):=by omega
  have f0:¬ (48:Int)≤(n:Int):=by omega
  have d1:(n:Int)≤122:=by omega
  have e1:(n:Int)≤90:=by omega
  have f1:(n:Int)≤57:=by omega
  have g:((n:Int)==95)=false:=beq_eq_false_iff_ne.2 (by omega)
  have h:((n:Int)==46)=false:=beq_eq_false_iff_ne.2 (by omega)
  have Hi:=hid hi
  clear hi hb
  go_wp2_with (refine (ixb_any _ _ _).mono ?_;rintro e w' ⟨k2,rfl,rfl⟩;by_cases hk:(0:Int)≤k2)
  ·go_ret
   refine⟨6,?_,rfl,by rw[HL.out];have:=Hi.out;omega,by rw[HR.out];have:=Hi.out;omega⟩
   rfl
  go_ret
  refine⟨0,?_,rfl,by rw[HL.out];have:=Hi.out;omega,by rw[HR.out];have:=Hi.out;omega⟩
  rfl
 ·have d0:¬ (97:Int)≤(n:Int):=by omega
  have e0:¬ (65:Int)≤(n:Int):=by omega
  have f0:(48:Int)≤(n:Int):=by omega
  have d1:(n:Int)≤122:=by omega
  have e1:(n:Int)≤90:=by omega
  have f1:(n:Int)≤57:=by omega
  have g:((n:Int)==95)=false:=beq_eq_false_iff_ne.2 (by omega)
  have h:((n:Int)==46)=false:=beq_eq_false_iff_ne.2 (by omega)
  have Hi:=hid hi
  clear hi hb
  go_wp2
  go_ret
  refine⟨3,?_,rfl,by rw[HL.out];have:=Hi.out;omega,by rw[HR.out];have:=Hi.out;omega⟩
  rfl
 ·have d0:¬ (97:Int)≤(n:Int):=by omega
  have e0:¬ (65:Int)≤(n:Int):=by omega
  have f0:(48:Int)≤(n:Int):=by omega
  have d1:(n:Int)≤122:=by omega
  have e1:(n:Int)≤90:=by omega
  have f1:¬ (n:Int)≤57:=by omega
  have g:((n:Int)==95)=false:=beq_eq_false_iff_ne.2 (by omega)
  have h:((n:Int)==46)=false:=beq_eq_false_iff_ne.2 (by omega)
  have Hi:=hid hi
  clear hi hb
  go_wp2_with (refine (ixb_any _ _ _).mono ?_;rintro e w' ⟨k2,rfl,rfl⟩;by_cases hk:(0:Int)≤k2)
  ·go_ret
   refine⟨6,?_,rfl,by rw[HL.out];have:=Hi.out;omega,by rw[HR.out];have:=Hi.out;omega⟩
   rfl
  go_ret
  refine⟨0,?_,rfl,by rw[HL.out];have:=Hi.out;omega,by rw[HR.out];have:=Hi.out;omega⟩
  rfl
 ·have d0:¬ (97:Int)≤(n:Int):=by omega
  have e0:(65:Int)≤(n:Int):=by omega
  have f0:(48:Int)≤(n:Int):=by omega
  have d1:(n:Int)≤122:=by omega
  have e1:(n:Int)≤90:=by omega
  have f1:¬ (n:Int)≤57:=by omega
  have g:((n:Int)==95)=false:=beq_eq_false_iff_ne.2 (by omega)
  have h:((n:Int)==46)=false:=beq_eq_false_iff_ne.2 (by omega)
  have Hi:=hid hi
  clear hi hb
  go_wp2
  go_ret
  refine⟨2,?_,rfl,by rw[HL.out];have:=Hi.out;omega,by rw[HR.out];have:=Hi.out;omega⟩
  rfl
 ·have d0:¬ (97:Int)≤(n:Int):=by omega
  have e0:(65:Int)≤(n:Int):=by omega
  have f0:(48:Int)≤(n:Int):=by omega
  have d1:(n:Int)≤122:=by omega
  have e1:¬ (n:Int)≤90:=by omega
  have f1:¬ (n:Int)≤57:=by omega
  have g:((n:Int)==95)=false:=beq_eq_false_iff_ne.2 (by omega)
  have h:((n:Int)==46)=false:=beq_eq_false_iff_ne.2 (by omega)
  have Hi:=hid hi
  clear hi hb
  go_wp2_with (refine (ixb_any _ _ _).mono ?_;rintro e w' ⟨k2,rfl,rfl⟩;by_cases hk:(0:Int)≤k2)
  ·go_ret
   refine⟨6,?_,rfl,by rw[HL.out];have:=Hi.out;omega,by rw[HR.out];have:=Hi.out;omega⟩
   rfl
  go_ret
  refine⟨0,?_,rfl,by rw[HL.out];have:=Hi.out;omega,by rw[HR.out];have:=Hi.out;omega⟩
  rfl
 ·have d0:¬ (97:Int)≤(n:Int):=by omega
  have e0:(65:Int)≤(n:Int):=by omega
  have f0:(48:Int)≤(n:Int):=by omega
  have d1:(n:Int)≤122:=by omega
  have e1:¬ (n:Int)≤90:=by omega
  have f1:¬ (n:Int)≤57:=by omega
  have g:(n:Int)=95:=by omega
  have h:((n:Int)==46)=false:=beq_eq_false_iff_ne.2 (by omega)
  have Hi:=hid hi
  clear hi hb
  go_wp2
  go_ret
  refine⟨4,?_,rfl,by rw[HL.out];have:=Hi.out;omega,by rw[HR.out];have:=Hi.out;omega⟩
  rfl
 ·have d0:¬ (97:Int)≤(n:Int):=by omega
  have e0:(65:Int)≤(n:Int):=by omega
  have f0:(48:Int)≤(n:Int):=by omega
  have d1:(n:Int)≤122:=by omega
  have e1:¬ (n:Int)≤90:=by omega
  have f1:¬ (n:Int)≤57:=by omega
  have g:((n:Int)==95)=false:=beq_eq_false_iff_ne.2 (by omega)
  have h:((n:Int)==46)=false:=beq_eq_false_iff_ne.2 (by omega)
  have Hi:=hid hi
  clear hi hb
  go_wp2_with (refine (ixb_any _ _ _).mono ?_;rintro e w' ⟨k2,rfl,rfl⟩;by_cases hk:(0:Int)≤k2)
  ·go_ret
   refine⟨6,?_,rfl,by rw[HL.out];have:=Hi.out;omega,by rw[HR.out];have:=Hi.out;omega⟩
   rfl
  go_ret
  refine⟨0,?_,rfl,by rw[HL.out];have:=Hi.out;omega,by rw[HR.out];have:=Hi.out;omega⟩
  rfl
 ·have d0:(97:Int)≤(n:Int):=by omega
  have e0:(65:Int)≤(n:Int):=by omega
  have f0:(48:Int)≤(n:Int):=by omega
  have d1:(n:Int)≤122:=by omega
  have e1:¬ (n:Int)≤90:=by omega
  have f1:¬ (n:Int)≤57:=by omega
  have g:((n:Int)==95)=false:=beq_eq_false_iff_ne.2 (by omega)
  have h:((n:Int)==46)=false:=beq_eq_false_iff_ne.2 (by omega)
  have Hi:=hid hi
  clear hi hb
  go_wp2
  go_ret
  refine⟨2,?_,rfl,by rw[HL.out];have:=Hi.out;omega,by rw[HR.out];have:=Hi.out;omega⟩
  rfl
 have d0:(97:Int)≤(n:Int):=by omega
 have e0:(65:Int)≤(n:Int):=by omega
 have f0:(48:Int)≤(n:Int):=by omega
 have d1:¬ (n:Int)≤122:=by omega
 have e1:¬ (n:Int)≤90:=by omega
 have f1:¬ (n:Int)≤57:=by omega
 have g:((n:Int)==95)=false:=beq_eq_false_iff_ne.2 (by omega)
 have h:((n:Int)==46)=false:=beq_eq_false_iff_ne.2 (by omega)
 have Hi:=hid hi
 clear hi hb
 go_wp2_with (refine (ixb_any _ _ _).mono ?_;rintro e w' ⟨k2,rfl,rfl⟩;by_cases hk:(0:Int)≤k2)
 ·go_ret
  refine⟨6,?_,rfl,by rw[HL.out];have:=Hi.out;omega,by rw[HR.out];have:=Hi.out;omega⟩
  rfl
 go_ret
 refine⟨0,?_,rfl,by rw[HL.out];have:=Hi.out;omega,by rw[HR.out];have:=Hi.out;omega⟩
 rfl
set_option maxHeartbeats 1000000 in
set_option maxRecDepth 20000 in
theorem lword_any (s:ByteArray) (w:World) (hs:s.size≤maxLen):Calls Tryz.prog 156 #[.string s] w fun e w'=>e=.returned (.bool (wordB s))∧w'=w:=by
 go_enter Tryz.func156,Tryz.ntmps156
 have hs2:s.size≤9223372036854775807:=hs
 by_cases h0:s.size=0
 · have hw:=hid (word_empty h0)
   obtain rfl:=size_zero.1 h0
   go_wp2
   go_ret
   exact⟨ret_bool hw.out.symm,rfl⟩
 have h1:0<s.size:=by omega
 have hb:=hid (byte_at h1)
 have hne:s.toList.isEmpty=false:=by
   rw[← Bool.not_eq_true,List.isEmpty_iff];exact fun e=>h0 (by rw[← byte_size,← ByteArray.toList_eq,e];rfl)
 have hs1:(0:Int)≤0∧(0:Int)<s.size:=by omega
 cases hl:isLet (s[0]'h1) with
 | false =>
   have hw:=hid (word_let hb.out hl)
   go_wp2_with (refine (class_any _ _).mono ?_;rintro e w' ⟨k,rfl,rfl,hk1,hk2⟩;have hk:(k != 2)=true:=(by rw[bne_iff_ne,Ne,hk1,hl];decide);clear hk1 hk2)
   go_ret
   exact⟨ret_bool hw.out.symm,rfl⟩
 | true =>
 have Hl:=hid hl
 clear hl
 go_wp2_with (refine (class_any _ _).mono ?_;rintro e w' ⟨k,rfl,rfl,hk1,hk2⟩;have hk:k=2:=(by rw[hk1];exact Hl.out);subst hk;clear hk1 hk2 hs1 hne)
 go_loopw [15] (fun x wr=>∃ k:Nat,k≤s.size∧x=.int .i64 k∧(∀ (i:Nat) (c:UInt8),s.data.toList[i]? = some c→i<k→isRun c=true)∧wr=w') (fun x _=>s.size-(intOf x).toNat)
 case atStart=>exact⟨0,by omega,rfl,fun i c _ h=>by omega,rfl⟩
 case round =>
 obtain⟨k,hk,rfl,hz,rfl⟩:=hrel
 have Hz:=hid hz;clear hz
 by_cases hlt:k<s.size
 rotate_left
 · obtain rfl:k=s.size:=by omega
   have hw:=hid (word_yes hb.out Hl.out fun i c hi=>Hz.out i c hi (by rw[← byte_size];exact (List.getElem?_eq_some_iff.1 hi).1))
   go_wp2
   go_ret
   exact⟨ret_bool hw.out.symm,rfl⟩
 have Hk:=hid (byte_at hlt)
 have hr:(0:Int)≤k∧(k:Int)<s.size:=by omega
 cases hq:isRun (s[k]'hlt) with
 | false =>
   have hw:=hid (word_no Hk.out hq)
   have Hq:=hid hq;clear hq
   go_wp2_with (refine (class_any _ _).mono ?_;rintro e w2 ⟨k2,rfl,rfl,hk1,hk2⟩;rw[Hq.out] at hk2;have a2:(k2 != 2)=true:=(bne_iff_ne.2 fun e=>by simp[e] at hk2);have a3:(k2 != 3)=true:=(bne_iff_ne.2 fun e=>by simp[e] at hk2);have a4:(k2 != 4)=true:=(bne_iff_ne.2 fun e=>by simp[e] at hk2);clear hk1 hk2)
   go_ret
   exact⟨ret_bool hw.out.symm,rfl⟩
 | true =>
 have Hq:=hid hq;clear hq
 go_wp2_with (refine (class_any _ _).mono ?_;rintro e w2 ⟨k2,rfl,rfl,hk1,hk2⟩;rcases hk2.2 Hq.out with rfl | rfl | rfl <;> clear hk1 hk2)
 all_goals go_roundw
 all_goals first
   | (simp[intOf];omega)
   | (refine ⟨k + 1, by omega, by go_num, fun i c hi hik => ?_, by trivial⟩
      rcases Nat.lt_or_ge i k with hik2 | hik2
      · exact Hz.out i c hi hik2
      · rw[show i=k from by omega,Hk.out] at hi
        injection hi with hi
        rw[← hi];exact Hq.out)
def keyL:List (List UInt8):=[[115,116,97,116,101],[112,97,114,97,109],[105,110],[109,111,100,101],[119,104,101,110],[114,105,115,101,115],[102,97,108,108,115],[103,111,116,111],[119,105,116,104],[116,105,109,101],[101,120,112],[108,111,103],[115,105,110],[99,111,115],[115,113,114,116]]
theorem key_list (s:ByteArray):keyB s=keyL.any fun k=>s.toList==k:=by
 have h:∀ k:String,decide (s=k.toUTF8)=(s.toList==k.toUTF8.data.toList):=fun k=>by rw[← ByteArray.toList_eq];exact (str_eq s k.toUTF8).symm
 have e:keyL=keywords.map fun k=>k.toUTF8.data.toList:=by decide +kernel
 unfold keyB
 rw[e,List.any_map]
 congr 1
 funext k
 exact h k
set_option maxHeartbeats 2000000 in
theorem lkey_any (s:ByteArray) (w:World):Calls Tryz.prog 157 #[.string s] w fun e w'=>e=.returned (.bool (keyB s))∧w'=w:=by
 have hk:=hid (key_list s)
 go_enter Tryz.func157,Tryz.ntmps157
 go_wp2
 all_goals go_ret
 all_goals refine⟨ret_bool ?_,rfl⟩
 all_goals rw[hk.out]
 all_goals simp_all [keyL]
set_option maxHeartbeats 2000000 in
theorem lname_any (s:ByteArray) (w:World) (hs:s.size≤maxLen):Calls Tryz.prog 104 #[.string s] w fun e w'=>e=.returned (.bool (nameB s))∧w'=w:=by
 have hd:nameB s=(wordB s&&(decide (s.size≤20)&&!keyB s)):=rfl
 have HW:=hid (lword_any s w hs)
 have HK:=hid (lkey_any s w)
 go_enter Tryz.func104,Tryz.ntmps104
 cases h1:wordB s with
 | false =>
  rw[h1] at hd HW
  have Hd:=hid hd;clear hd h1
  go_wp2_with (refine HW.out.mono ?_;rintro e w' ⟨rfl,rfl⟩)
  go_ret
  exact⟨ret_bool Hd.out.symm,rfl⟩
 | true =>
 rw[h1] at hd HW
 by_cases h2:s.size≤20
 ·rw[decide_eq_true h2] at hd
  have Hd:=hid hd;clear hd h1
  have h3:(s.size:Int)≤20:=by omega
  go_wp2_with (first | (refine HW.out.mono ?_;rintro e w' ⟨rfl,rfl⟩) | (refine HK.out.mono ?_;rintro e w' ⟨rfl,rfl⟩) | fail)
  go_ret
  exact⟨ret_bool (by rw[Hd.out];simp),rfl⟩
 rw[decide_eq_false h2] at hd
 have Hd:=hid hd;clear hd h1
 have h3:¬ (s.size:Int)≤20:=by omega
 go_wp2_with (refine HW.out.mono ?_;rintro e w' ⟨rfl,rfl⟩)
 go_ret
 exact⟨ret_bool (by rw[Hd.out];rfl),rfl⟩
set_option maxHeartbeats 1000000 in
theorem rsize_any (n:Int) (w:World) (h0:-1073741824≤n) (h1:n≤1073741824):Calls Tryz.prog 168 #[.int .i64 n] w fun e w'=>e=.returned (.int .u64 (n.natAbs:Int))∧w'=w:=by
 go_enter Tryz.func168,Tryz.ntmps168
 by_cases hn:n<0
 ·go_wp2
  go_ret
  refine⟨ret_int ?_,rfl⟩
  omega
 go_wp2
 go_ret
 refine⟨ret_int ?_,rfl⟩
 omega
set_option maxHeartbeats 1000000 in
theorem rgcd_any (a b:Nat) (w:World) (ha:a≤1073741824) (hb:b≤1073741824):Calls Tryz.prog 167 #[.int .u64 (a:Int),.int .u64 (b:Int)] w fun e w'=>e=.returned (.int .u64 ((Nat.gcd a b:Nat):Int))∧∃ m,w'=w.drewN m:=by
 go_enter Tryz.func167,Tryz.ntmps167
 go_wp2
 go_loopw [0,1] (fun x y wr=>∃ c d:Nat,x=.int .u64 (c:Int)∧y=.int .u64 (d:Int)∧c≤1073741824∧d≤1073741824∧Nat.gcd c d=Nat.gcd a b∧∃ m,wr=w.drewN m) (fun _ y _=>(intOf y).toNat)
 case atStart=>exact⟨a,b,rfl,rfl,ha,hb,rfl,0,rfl⟩
 case round =>
 obtain⟨c,d,rfl,rfl,hc,hd,hg,q,rfl⟩:=hrel
 have Hg:=hid hg;clear hg
 by_cases h0:d=0
 ·subst h0
  go_wp2
  go_ret
  exact⟨ret_int (by rw[← Hg.out,Nat.gcd_zero_right]),q,rfl⟩
 have h1:((d:Int) != 0)=true:=by rw[bne_iff_ne];omega
 have h2:(d:Int)≠0:=by omega
 have hm:((c:Int) % (d:Int))=((c % d:Nat):Int):=by omega
 have hlt:c % d<d:=Nat.mod_lt _ (by omega)
 have hle:c % d≤1073741824:=by omega
 have hgc:Nat.gcd d (c % d)=Nat.gcd c d:=by rw[Nat.gcd_comm c d,Nat.gcd_rec d c,Nat.gcd_comm]
 have Hm:=hid hm
 have Hc:=hid hgc
 clear hm hgc h0
 go_wp2
 go_region
 go_wp2
 go_roundw
 case measure=>simp[intOf];omega
 case rel=>exact⟨d,c % d,rfl,by rw[Hm.out],hd,hle,by rw[Hc.out,Hg.out],q+1,rfl⟩
theorem ratB_iff (n d:Int):ratB n d=(decide (1≤d∧d≤1073741824)&&(decide (-1073741824≤n∧n≤1073741824)&&decide (Nat.gcd n.natAbs d.natAbs=1))):=rfl
theorem intNat_one (k:Nat):((k:Int)==1)=decide (k=1):=by
 by_cases h:k=1
 ·subst h;rfl
 rw[decide_eq_false h];exact beq_eq_false_iff_ne.2 (by omega)
set_option maxHeartbeats 2000000 in
set_option maxRecDepth 20000 in
theorem rvalid_any (n d:Int) (w:World):Calls Tryz.prog 119 #[.agg #[.int .i64 n,.int .i64 d]] w fun e w'=>e=.returned (.bool (ratB n d))∧Kp w w':=by
 have Hr:=hid (ratB_iff n d)
 have k1:Kp w (w.alloc (.cells #[.int .i64 n,.int .i64 d] 25)):=(Kp.refl w).alloc _
 have hS:(w.alloc (.cells #[.int .i64 n,.int .i64 d] 25)).cell? ⟨w.heap.size,0,none⟩=some (.int .i64 n)∧(w.alloc (.cells #[.int .i64 n,.int .i64 d] 25)).cell? ⟨w.heap.size,1,none⟩=some (.int .i64 d):=by simp
 go_enter Tryz.func119,Tryz.ntmps119
 go_upto_region 1 with fail
 generalize w.alloc _=W at *
 have kd:=(Kp.refl W).drew
 obtain⟨s0,s1⟩:=hS
 have e0:=kd.cell s0
 have e1:=kd.cell s1
 have HK:=hid (k1.trans kd)
 have HK1:=hid k1
 clear kd k1
 by_cases c0:1≤d
 rotate_left
 ·have hr:=Hr.out
  rw[decide_eq_false (p:=1≤d∧d≤1073741824) (by omega)] at hr
  have Hr:=hid hr
  clear hr
  clear e0 e1
  go_quiet (fail)
  all_goals
   go_wp2_with fail
   go_ret
   exact⟨ret_bool (by rw[Hr.out];simp),HK1.out.drewN _⟩
 by_cases c1:d≤1073741824
 rotate_left
 ·have hr:=Hr.out
  rw[decide_eq_false (p:=1≤d∧d≤1073741824) (by omega)] at hr
  have Hr:=hid hr
  clear hr
  clear e0 e1
  go_quiet (fail)
  all_goals
   go_wp2_with fail
   go_ret
   exact⟨ret_bool (by rw[Hr.out];simp),HK1.out.drewN _⟩
 by_cases c2:-1073741824≤n
 rotate_left
 ·have hr:=Hr.out
  rw[decide_eq_false (p:=-1073741824≤n∧n≤1073741824) (by omega)] at hr
  have Hr:=hid hr
  clear hr
  clear e0 e1
  go_quiet (fail)
  all_goals
   go_wp2_with fail
   go_ret
   exact⟨ret_bool (by rw[Hr.out];simp),HK1.out.drewN _⟩
 by_cases c3:n≤1073741824
 rotate_left
 ·have hr:=Hr.out
  rw[decide_eq_false (p:=-1073741824≤n∧n≤1073741824) (by omega)] at hr
  have Hr:=hid hr
  clear hr
  clear e0 e1
  go_quiet (fail)
  all_goals
   go_wp2_with fail
   go_ret
   exact⟨ret_bool (by rw[Hr.out];simp),HK1.out.drewN _⟩
 have hg0:n.natAbs≤1073741824:=by omega
 have hg1:d.natAbs≤1073741824:=by omega
 have d0:-1073741824≤d:=by omega
 have hr:=Hr.out
 rw[decide_eq_true ⟨c0,c1⟩,decide_eq_true ⟨c2,c3⟩] at hr
 have Hr:=hid hr
 clear hr e0 e1
 go_quiet (first
  | (go_at_call_of 168 n;exact Calls.quiet_of_same (rsize_any n _ c2 c3))
  | (go_at_call_of 168 d;exact Calls.quiet_of_same (rsize_any d _ d0 c1))
  | (go_at_call 167;exact Calls.quiet_of (rgcd_any n.natAbs d.natAbs _ hg0 hg1))
  | fail)
 all_goals
  go_wp2_with fail
  go_ret
  exact⟨ret_bool (by rw[Hr.out,Bool.true_and,Bool.true_and];exact intNat_one _),HK1.out.drewN _⟩
section
theorem setcell_ne {w:World} {g i:Nat} {p:Addr} {v:Value} (h:(⟨g,i,none⟩:Addr)≠p):(w.setCell ⟨g,i,none⟩ v).cell? p=w.cell? p:=by
 rw[World.cell?_setCell_other];exact h
theorem below_bothT {B:Nat} {a w:World} (h:Below B a w) (p:Addr) (v:Value):Below B (a.setCell p v) (w.setCell p v):=by
 have h1:=Below.setCell (Below.refl 0 a) (p:=p) (Nat.zero_le _) v
 have h2:=Below.setCell (Below.refl 0 w) (p:=p) (Nat.zero_le _) v
 refine⟨h2.os.trans (h.os.trans h1.os.symm),h2.tape.trans (h.tape.trans h1.tape.symm),h2.output.trans (h.output.trans h1.output.symm),by simpa using h.size,fun k hk=>?_⟩
 by_cases e:k=p.block
 ·subst e
  have hb:=h.block p.block hk
  unfold World.setCell
  simp only[Array.getElem?_modify,hb]
 rw[Below.heap_setCell w p v k e,Below.heap_setCell a p v k e];exact h.block k hk
theorem kp_bothT {a w:World} (h:Kp a w) (p:Addr) (v:Value):Kp (a.setCell p v) (w.setCell p v):=by
 have:=below_bothT h p v
 unfold Kp
 simpa using this
mutual
def Ex.at (w:World) (B:Nat):Ex→Prop
 | .mk _ _ _ s _ a c l=>(l.length≤c∧c≤maxLen∧s.size≤maxLen∧l.length≤1048576)∧(∀ (i:Nat) (x:Ex),l[i]? = some x→∃ b o,a=some ⟨b,o,none⟩∧b<B∧w.cell? ⟨b,o+i*6,none⟩=some (.int .i64 x.kind)∧w.cell? ⟨b,o+i*6+1,none⟩=some (.int .i64 x.rn)∧w.cell? ⟨b,o+i*6+2,none⟩=some (.int .i64 x.rd)∧w.cell? ⟨b,o+i*6+3,none⟩=some (.string x.name)∧w.cell? ⟨b,o+i*6+4,none⟩=some (.int .i64 x.pw)∧w.cell? ⟨b,o+i*6+5,none⟩=some (.slice x.a x.l.length x.c))∧Ex.atL w B l
def Ex.atL (w:World) (B:Nat):List Ex→Prop
 | []=>True
 | x::t=>x.at w B∧Ex.atL w B t
end
theorem Ex.atL_iff {w:World} {B:Nat} {l:List Ex}:Ex.atL w B l↔∀ x∈l,x.at w B:=by
 induction l with
 | nil=>rw[Ex.atL];simp
 | cons x t ih =>
  rw[Ex.atL,ih]
  constructor
  ·rintro ⟨h1,h2⟩ y hy
   rcases List.mem_cons.1 hy with rfl | hy
   ·exact h1
   ·exact h2 y hy
  ·exact fun h=>⟨h x (.head _),fun y hy=>h y (.tail _ hy)⟩
def RowX (w:World) (B:Nat) (a:Option Addr) (l:List Ex):Prop:=∀ (i:Nat) (x:Ex),l[i]? = some x→∃ b o,a=some ⟨b,o,none⟩∧b<B∧w.cell? ⟨b,o+i*6,none⟩=some (.int .i64 x.kind)∧w.cell? ⟨b,o+i*6+1,none⟩=some (.int .i64 x.rn)∧w.cell? ⟨b,o+i*6+2,none⟩=some (.int .i64 x.rd)∧w.cell? ⟨b,o+i*6+3,none⟩=some (.string x.name)∧w.cell? ⟨b,o+i*6+4,none⟩=some (.int .i64 x.pw)∧w.cell? ⟨b,o+i*6+5,none⟩=some (.slice x.a x.l.length x.c)
theorem Ex.at_iff {w:World} {B:Nat} {e:Ex}:e.at w B↔(e.l.length≤e.c∧e.c≤maxLen∧e.name.size≤maxLen∧e.l.length≤1048576)∧RowX w B e.a e.l∧∀ x∈e.l,x.at w B:=by
 cases e
 rw[Ex.at,Ex.atL_iff]
 exact Iff.rfl
theorem RowX.same {w w':World} {B B':Nat} {a:Option Addr} {l:List Ex} (h:RowX w B a l) (hB:B≤B') (hc:∀ b i v,b<B→w.cell? ⟨b,i,none⟩=some v→w'.cell? ⟨b,i,none⟩=some v):RowX w' B' a l:=by
 intro i x hx
 obtain⟨b,o,e,hb,h0,h1,h2,h3,h4,h5⟩:=h i x hx
 exact⟨b,o,e,by omega,hc _ _ _ hb h0,hc _ _ _ hb h1,hc _ _ _ hb h2,hc _ _ _ hb h3,hc _ _ _ hb h4,hc _ _ _ hb h5⟩
theorem Ex.same {w w':World} {B B':Nat} (hB:B≤B') (hc:∀ b i v,b<B→w.cell? ⟨b,i,none⟩=some v→w'.cell? ⟨b,i,none⟩=some v):∀ e:Ex,e.at w B→e.at w' B':=by
 refine Ex.ind fun e ih h=>?_
 obtain⟨h1,h2,h3⟩:=Ex.at_iff.1 h
 exact Ex.at_iff.2 ⟨h1,h2.same hB hc,fun x hx=>ih x hx (h3 x hx)⟩
theorem Ex.at_kp {w w':World} {B:Nat} {e:Ex} (h:e.at w B) (k:Kp w w'):e.at w' B:=Ex.same (Nat.le_refl _) (fun _ _ _ _ hc=>k.cell hc) e h
theorem RowX.kp {w w':World} {B:Nat} {a:Option Addr} {l:List Ex} (h:RowX w B a l) (k:Kp w w'):RowX w' B a l:=h.same (Nat.le_refl _) fun _ _ _ _ hc=>k.cell hc
theorem Ex.at_set {w:World} {B g i:Nat} {e:Ex} (h:e.at w B) (hg:B≤g) (v:Value):e.at (w.setCell ⟨g,i,none⟩ v) B :=
 Ex.same (Nat.le_refl _) (fun b j u hb hc=>by rw[setcell_ne (fun e=>by injection e with e1;omega)];exact hc) e h
theorem RowX.set {w:World} {B g i:Nat} {a:Option Addr} {l:List Ex} (h:RowX w B a l) (hg:B≤g) (v:Value):RowX (w.setCell ⟨g,i,none⟩ v) B a l :=
 h.same (Nat.le_refl _) fun b j u hb hc=>by rw[setcell_ne (fun e=>by injection e with e1;omega)];exact hc
theorem keepE6 {w w':World} (k:Kp w w') {p0 p1 p2 p3 p4 p5:Addr} {v0 v1 v2 v3 v4 v5:Value} (h:w.cell? p0=some v0∧w.cell? p1=some v1∧w.cell? p2=some v2∧w.cell? p3=some v3∧w.cell? p4=some v4∧w.cell? p5=some v5) :
  w'.cell? p0=some v0∧w'.cell? p1=some v1∧w'.cell? p2=some v2∧w'.cell? p3=some v3∧w'.cell? p4=some v4∧w'.cell? p5=some v5:=⟨k.cell h.1,k.cell h.2.1,k.cell h.2.2.1,k.cell h.2.2.2.1,k.cell h.2.2.2.2.1,k.cell h.2.2.2.2.2⟩
end
end Go.Proofs.YteidgoldnllabaaGreatDoor
