/-
  Plain: what linear.Correct and linear.Discs return; no program in sight.
-/
import Derived.Test.YtbhmhfnfceakoaaGreatDoorMRoQ
import Derived.Test.YtbhmhfnfceakoaaGreatDoorMEchM
import Derived.Test.YtbhmhfnfceakoaaGreatDoorMRoE
import Derived.Test.YtbhmhfnfceakoaaGreatDoorMEqfR
import Derived.Deep.RegionHeld3
import Derived.Test.YtbhmhfnfceakoaaGreatDoorMRoAdd
import Derived.Test.YtbhmhfnfceakoaaGreatDoorMR2I
import Derived.Test.YtbhmhfnfceakoaaGreatDoorMAwk3
import Derived.Test.YtbhmhfnfceakoaaGreatDoorMIvMl
import Derived.Test.YtbhmhfnfceakoaaGreatDoorMMulN
import Derived.Deep.RegionLaw
import Derived.Deep.LoopGhost
import Derived.Test.YtbhmhfnfceakoaaGreatDoorMNrmP
import Derived.Test.YtbhmhfnfceakoaaGreatDoorMOpen
import Derived.Test.YtbhmhfnfceakoaaGreatDoorMDotM
import Derived.Test.YtbhmhfnfceakoaaGreatDoorMSumG
namespace Go.Proofs.YtbhmhfnfceakoaaGreatDoor
open Go.RowKit
open Lib (hid)
def sqN (m:List (List RD)):Bool:=vlN m&&decide (m.length=colsN m)
theorem sqN_iff {m:List (List RD)}:sqN m=true↔(1≤m.length∧m.length≤8)∧∀ r∈m,r.length=m.length∧∀ x∈r,x.vl=true:=by
 unfold sqN
 rw[Bool.and_eq_true,decide_eq_true_eq,vlN_iff]
 constructor
 ·rintro ⟨⟨h1,h2,h3⟩,h4⟩
  exact⟨h1,fun r hr=>⟨by rw[(h3 r hr).1,h4],(h3 r hr).2⟩⟩
 rintro ⟨h1,h3⟩
 have hc:colsN m=m.length:=by
  unfold colsN
  cases m with
  | nil=>simp at h1
  | cons r t=>exact (h3 r (.head _)).1
 exact⟨⟨h1,by rw[hc];exact h1,fun r hr=>by rw[hc];exact h3 r hr⟩,hc.symm⟩
def sumQ (p:Nat):List PI→Dy→Option Dy
 | [],s=>some s
 | X::r,s=>if X.all=true then none else if (adP s (magP X) p true).2≠0 then none else sumQ p r (adP s (magP X) p true).1
def nrmQ (p:Nat):List (List PI)→Dy→Option Dy
 | [],t=>some t
 | r::m,t=>match sumQ p r .zero with
  | none=>none
  | some s=>nrmQ p m (if t.iv<s.iv then s else t)
theorem sumN_Q {p:Nat}:∀ (r:List RI) (s:Dy),sumN p r s=sumQ p (plR r) s
 | [],s=>rfl
 | x::r,s=>by
  show sumN p (x::r) s=sumQ p (x.pl::plR r) s
  unfold sumN sumQ
  rw[sumN_Q r];rfl
theorem nrmN_Q {p:Nat}:∀ (m:List (List RI)) (t:Dy),nrmN p m t=nrmQ p (plM m) t
 | [],t=>rfl
 | r::m,t=>by
  show nrmN p (r::m) t=nrmQ p (plR r::plM m) t
  unfold nrmN nrmQ
  rw[sumN_Q r]
  cases sumQ p (plR r) .zero with
  | none=>rfl
  | some s=>exact nrmN_Q m _
theorem nrmO_Q {m:List (List RI)} {p:Int} (hv:vlM m=true) (hp:preB p=true):nrmO m p=nrmQ p.toNat (plM m) .zero:=by
 unfold nrmO
 rw[hv,hp,if_pos (by decide),nrmN_Q]
def dvP (d f:Dy) (p:Nat) (up:Bool):Dy×Int :=
 if f.m=0 then (.zero,10) else if d.m=0 then (.zero,0) else rndE (quoR (d.neg != f.neg) d.m f.m (d.e-f.e) p up ((p:Int)+(2:Nat)+bits f.m-bits d.m).toNat)
theorem divB_dy {w w':World} {x y:RD} (hx:x.ok w) (hy:y.ok w') {p:Nat} (h0:8≤p) (h1:p≤512) (up:Bool):divB x y p up=dvP x.dy y.dy p up:=by
 unfold divB dvP quoK
 rw[if_pos (fltB_zero.2 ⟨by simp[hx.2,hy.2],by omega,by omega⟩)]
 have e1:(y.xs.length=0)=(y.dy.m=0):=propext (rdok_zero hy)
 have e2:(x.xs.length=0)=(x.dy.m=0):=propext (rdok_zero hx)
 simp only[e1,e2]
 rfl
def corD (a v:List (List RD)) (p:Nat):Option Dy :=
 match nrmQ p (tabM a.length a.length fun i j=>pSub (idP i j) (dotF p (fun t=>ptP (atN v i t)) (fun t=>ptP (atN a t j)) (a.length-1)) p) .zero with
 | none=>none
 | some q=>if (intD 1).iv≤q.iv then none else if (adP (intD 1) q.opp p false).2≠0 then none else if (dvP q (adP (intD 1) q.opp p false).1 p true).2≠0 then none else some (dvP q (adP (intD 1) q.opp p false).1 p true).1
def corF (a v:List (List RD)) (p:Nat) (d:Dy):List (List PI) :=
 tabM a.length a.length fun i j=>dotF p (fun t=>pAdd (idP i t) ⟨d.opp,d,false⟩ p) (fun t=>ptP (atN v t j)) (a.length-1)
def corO (a v:List (List RD)) (p:Nat):Option Dy→List (List PI)×Int
 | none=>([],15)
 | some d=>(corF a v p d,0)
def corB (a v:List (List RD)) (p:Int):Bool:=preB p&&(sqN a&&(sqN v&&decide (a.length=v.length)))
def corC (a v:List (List RD)) (p:Int):List (List PI)×Int:=if corB a v p=true then corO a v p.toNat (corD a v p.toNat) else ([],1)
theorem adP_upS {a b:Dy} {p:Nat} (h0:8≤p) (h1:p≤512) (he:(adP a b p true).2=0):a.iv+b.iv≤(adP a b p true).1.iv:=by
 have h:=(rndK_up (K:=0) (by omega) (by omega) (rndE_some he)).2.1
 rw[Int.pow_zero,Int.mul_one] at h
 exact h
theorem magP_pos (X:PI):0≤(magP X).iv:=by
 unfold magP maxD
 split
 ·exact Int.le_of_eq (Dy.iv_eq_zero.2 rfl).symm
 split
 ·rw[Dy.absv_iv];omega
 rw[Dy.absv_iv];omega
theorem dyTiny_ok:(⟨false,1,-16384⟩:Dy).ok:=.inr ⟨by decide,by decide,by decide,by decide,by decide⟩
theorem rest_pos {q:Dy} {p:Nat} (h0:8≤p) (h1:p≤512) (hq:q.iv<(intD 1).iv) (he:(adP (intD 1) q.opp p false).2=0):0<(adP (intD 1) q.opp p false).1.iv:=by
 have h:=(rndK_down (K:=0) (by omega) (by omega) (rndE_some he)).2.2 ⟨false,1,-16384⟩ ⟨dyTiny_ok,by show bits 1≤p;rw[show bits 1=1 from by decide];omega⟩ (by
  rw[Dy.opp_iv]
  show sg false 1*2 ^ (0:Nat)*2 ^ 0≤_
  rw[show (sg false 1:Int)=1 from rfl]
  omega)
 have e:(⟨false,1,-16384⟩:Dy).iv=1:=rfl
 rw[e] at h
 exact Int.lt_of_lt_of_le (by decide) h
def bndR (p:Nat):Option Dy→Option Dy
 | none=>none
 | some q=>if (intD 1).iv≤q.iv then none else if (adP (intD 1) q.opp p false).2≠0 then none else if (dvP q (adP (intD 1) q.opp p false).1 p true).2≠0 then none else some (dvP q (adP (intD 1) q.opp p false).1 p true).1
def bndQ (N:List (List PI)) (p:Nat):Option Dy:=bndR p (nrmQ p N .zero)
def resQ (n p:Nat) (V A:Nat→Nat→PI):List (List PI):=tabM n n fun i j=>pSub (idP i j) (dotF p (V i) (fun t=>A t j) (n-1)) p
theorem corD_eq (a v:List (List RD)) (p:Nat):corD a v p=bndQ (resQ a.length p (fun i t=>ptP (atN v i t)) (fun t j=>ptP (atN a t j))) p:=by
 unfold corD bndQ bndR resQ
 rfl
theorem neg_pos {d:Dy} (h:d.neg=false):0≤d.iv:=by
 unfold Dy.iv sg
 rw[h,if_neg (by decide)]
 exact Int.natCast_nonneg _
theorem pos_neg {d:Dy} (h:0<d.iv):d.neg=false∧d.m≠0:=by
 constructor
 ·cases hn:d.neg with
  | false=>rfl
  | true =>
  unfold Dy.iv sg at h
  rw[hn,if_pos rfl] at h
  exfalso
  generalize d.m*2 ^ (d.e+16384).toNat=k at h
  omega
 intro e
 rw[Dy.iv_eq_zero.2 e] at h
 exact absurd h (by decide)
theorem rcut_pos {m:Nat} {e:Int} {more:Bool} {p:Nat} {up:Bool} (hp:0<p) (hp2:p≤4096):0≤(rndE (rcut m e more p up)).1.iv:=by
 cases h:rcut m e more p up with
 | some d=>exact neg_pos (rcut_isP hp hp2 h).2
 | none=>exact Int.le_of_eq (Dy.iv_eq_zero.2 rfl).symm
theorem dvP_pos {d f:Dy} {p:Nat} (h0:8≤p) (h1:p≤512) (hd:0≤d.iv) (hf:0<f.iv):0≤(dvP d f p true).1.iv:=by
 obtain⟨f1,f2⟩:=pos_neg hf
 unfold dvP
 rw[if_neg f2]
 split
 ·exact Int.le_of_eq (Dy.iv_eq_zero.2 rfl).symm
 next hm =>
 have hd2:0<d.iv:=by
  rcases Int.lt_or_eq_of_le hd with h | h
  ·exact h
  ·exact absurd (Dy.iv_eq_zero.1 h.symm) hm
 rw[(pos_neg hd2).1,f1]
 unfold quoR rndS sgnR
 rw[if_neg (by decide)]
 exact rcut_pos (by omega) (by omega)
theorem sumQ_pos {p:Nat} (h0:8≤p) (h1:p≤512):∀ (r:List PI) (s t:Dy),s.ok→0≤s.iv→sumQ p r s=some t→t.ok∧0≤t.iv
 | [],s,t,hk,hs,h=>by
  unfold sumQ at h
  cases h;exact⟨hk,hs⟩
 | X::r,s,t,hk,hs,h=>by
  unfold sumQ at h
  split at h
  ·cases h
  ·split at h
   ·cases h
   ·next he =>
    have:=adP_upS (a:=s) (b:=magP X) h0 h1 (by omega)
    have:=magP_pos X
    exact sumQ_pos h0 h1 r _ t (adP_ok _ _ h0 h1 _) (by omega) h
theorem nrmQ_pos {p:Nat} (h0:8≤p) (h1:p≤512):∀ (m:List (List PI)) (t u:Dy),t.ok→0≤t.iv→nrmQ p m t=some u→u.ok∧0≤u.iv
 | [],t,u,hk,ht,h=>by
  unfold nrmQ at h
  cases h;exact⟨hk,ht⟩
 | r::m,t,u,hk,ht,h=>by
  unfold nrmQ at h
  split at h
  ·cases h
  ·next s hs =>
   obtain⟨k1,k2⟩:=sumQ_pos h0 h1 r _ _ Dy.ok_zero (Int.le_of_eq (Dy.iv_eq_zero.2 rfl).symm) hs
   refine nrmQ_pos h0 h1 m _ u ?_ ?_ h
   ·split <;> assumption
   ·split <;> assumption
theorem dvP_okd {d f:Dy} {p:Nat} (h0:8≤p) (h1:p≤512) (up:Bool):(dvP d f p up).1.ok:=by
 unfold dvP
 split
 ·exact Dy.ok_zero
 split
 ·exact Dy.ok_zero
 unfold quoR
 exact rndS_ok (by omega) (by omega)
theorem dvP_err {d f:Dy} {p:Nat} {up:Bool} (h:(dvP d f p up).2≠0):(dvP d f p up).1=.zero:=by
 unfold dvP at h ⊢
 split
 ·rfl
 next g =>
 rw[if_neg g] at h
 split
 ·rfl
 next g2 =>
 rw[if_neg g2] at h
 unfold rndE at h ⊢
 split at h
 ·exact absurd rfl h
 rfl
theorem bndQ_pos {N:List (List PI)} {p:Nat} {d:Dy} (h0:8≤p) (h1:p≤512) (h:bndQ N p=some d):d.ok∧0≤d.iv:=by
 unfold bndQ at h
 cases hq:nrmQ p N .zero with
 | none=>rw[hq] at h;cases h
 | some q =>
 obtain⟨k1,k2⟩:=nrmQ_pos h0 h1 N _ _ Dy.ok_zero (Int.le_of_eq (Dy.iv_eq_zero.2 rfl).symm) hq
 rw[hq] at h
 unfold bndR at h
 dsimp only at h
 split at h
 ·cases h
 next g1 =>
 split at h
 ·cases h
 next g2 =>
 split at h
 ·cases h
 cases h
 exact⟨dvP_okd h0 h1 _,dvP_pos h0 h1 k2 (rest_pos h0 h1 (by omega) (by omega))⟩
def OpE (P:Program) (fid:FuncId) (p:Nat) (op:PI→PI→PI):Prop :=
 Enters P fid∧∀ (x y:RI) (W:World),(x.rd W∧x.vl=true)→(y.rd W∧y.vl=true)→Tab W→Calls P fid #[.agg #[.bool x.lo.neg,.slice x.lo.a x.lo.xs.length x.lo.c,.int .i64 x.lo.e,.bool x.hi.neg,.slice x.hi.a x.hi.xs.length x.hi.c,.int .i64 x.hi.e,.bool x.all],.agg #[.bool y.lo.neg,.slice y.lo.a y.lo.xs.length y.lo.c,.int .i64 y.lo.e,.bool y.hi.neg,.slice y.hi.a y.hi.xs.length y.hi.c,.int .i64 y.hi.e,.bool y.all],.int .i64 (p:Int)] W (IvOut W (op x.pl y.pl))
theorem keepE {w w':World} (k:Kp w w') {pf pb pr pp:Addr} {bx by9 oy:Nat} {vf vb vr vp x0 x1 x2 x3 x4 x5 x6 y0 y1 y2 y3 y4 y5 y6:Value} (h:w.cell? pf=some vf∧w.cell? pb=some vb∧w.cell? pr=some vr∧w.cell? pp=some vp∧w.cell? ⟨bx,0,none⟩=some x0∧w.cell? ⟨bx,1,none⟩=some x1∧w.cell? ⟨bx,2,none⟩=some x2∧w.cell? ⟨bx,3,none⟩=some x3∧w.cell? ⟨bx,4,none⟩=some x4∧w.cell? ⟨bx,5,none⟩=some x5∧w.cell? ⟨bx,6,none⟩=some x6∧w.cell? ⟨by9,oy,none⟩=some y0∧w.cell? ⟨by9,oy+1,none⟩=some y1∧w.cell? ⟨by9,oy+2,none⟩=some y2∧w.cell? ⟨by9,oy+3,none⟩=some y3∧w.cell? ⟨by9,oy+4,none⟩=some y4∧w.cell? ⟨by9,oy+5,none⟩=some y5∧w.cell? ⟨by9,oy+6,none⟩=some y6):w'.cell? pf=some vf∧w'.cell? pb=some vb∧w'.cell? pr=some vr∧w'.cell? pp=some vp∧w'.cell? ⟨bx,0,none⟩=some x0∧w'.cell? ⟨bx,1,none⟩=some x1∧w'.cell? ⟨bx,2,none⟩=some x2∧w'.cell? ⟨bx,3,none⟩=some x3∧w'.cell? ⟨bx,4,none⟩=some x4∧w'.cell? ⟨bx,5,none⟩=some x5∧w'.cell? ⟨bx,6,none⟩=some x6∧w'.cell? ⟨by9,oy,none⟩=some y0∧w'.cell? ⟨by9,oy+1,none⟩=some y1∧w'.cell? ⟨by9,oy+2,none⟩=some y2∧w'.cell? ⟨by9,oy+3,none⟩=some y3∧w'.cell? ⟨by9,oy+4,none⟩=some y4∧w'.cell? ⟨by9,oy+5,none⟩=some y5∧w'.cell? ⟨by9,oy+6,none⟩=some y6:=by
 obtain⟨h0,h1,h2,h3,h4,h5,h6,h7,h8,h9,h10,h11,h12,h13,h14,h15,h16,h17⟩:=h
 exact⟨k.cell h0,k.cell h1,k.cell h2,k.cell h3,k.cell h4,k.cell h5,k.cell h6,k.cell h7,k.cell h8,k.cell h9,k.cell h10,k.cell h11,k.cell h12,k.cell h13,k.cell h14,k.cell h15,k.cell h16,k.cell h17⟩
theorem keepEU {g:Nat} {w W:World} (U:Upd g w W) {pf pb pr pp:Addr} {bx by9 oy:Nat} (nf:pf.block≠g) (nb:pb.block≠g) (nr:pr.block≠g) (np:pp.block≠g) (nx:bx≠g) (ny:by9≠g) {vf vb vr vp x0 x1 x2 x3 x4 x5 x6 y0 y1 y2 y3 y4 y5 y6:Value} (h:w.cell? pf=some vf∧w.cell? pb=some vb∧w.cell? pr=some vr∧w.cell? pp=some vp∧w.cell? ⟨bx,0,none⟩=some x0∧w.cell? ⟨bx,1,none⟩=some x1∧w.cell? ⟨bx,2,none⟩=some x2∧w.cell? ⟨bx,3,none⟩=some x3∧w.cell? ⟨bx,4,none⟩=some x4∧w.cell? ⟨bx,5,none⟩=some x5∧w.cell? ⟨bx,6,none⟩=some x6∧w.cell? ⟨by9,oy,none⟩=some y0∧w.cell? ⟨by9,oy+1,none⟩=some y1∧w.cell? ⟨by9,oy+2,none⟩=some y2∧w.cell? ⟨by9,oy+3,none⟩=some y3∧w.cell? ⟨by9,oy+4,none⟩=some y4∧w.cell? ⟨by9,oy+5,none⟩=some y5∧w.cell? ⟨by9,oy+6,none⟩=some y6):W.cell? pf=some vf∧W.cell? pb=some vb∧W.cell? pr=some vr∧W.cell? pp=some vp∧W.cell? ⟨bx,0,none⟩=some x0∧W.cell? ⟨bx,1,none⟩=some x1∧W.cell? ⟨bx,2,none⟩=some x2∧W.cell? ⟨bx,3,none⟩=some x3∧W.cell? ⟨bx,4,none⟩=some x4∧W.cell? ⟨bx,5,none⟩=some x5∧W.cell? ⟨bx,6,none⟩=some x6∧W.cell? ⟨by9,oy,none⟩=some y0∧W.cell? ⟨by9,oy+1,none⟩=some y1∧W.cell? ⟨by9,oy+2,none⟩=some y2∧W.cell? ⟨by9,oy+3,none⟩=some y3∧W.cell? ⟨by9,oy+4,none⟩=some y4∧W.cell? ⟨by9,oy+5,none⟩=some y5∧W.cell? ⟨by9,oy+6,none⟩=some y6:=by
 obtain⟨_,_,_,h4,_⟩:=U
 rw[h4 pf nf,h4 pb nb,h4 pr nr,h4 pp np]
 have kx (i:Nat):W.cell? ⟨bx,i,none⟩=w.cell? ⟨bx,i,none⟩:=h4 _ nx
 have ky (i:Nat):W.cell? ⟨by9,i,none⟩=w.cell? ⟨by9,i,none⟩:=h4 _ ny
 simp only[kx,ky]
 exact h
set_option maxRecDepth 100000 in
set_option maxHeartbeats 8000000 in
theorem entel_any (n:List (List RI)) (x y:RI) (r:List RI) (d rc i j bf bb bp:Nat) (b2 o2 b3 o3:Nat) (fid:FuncId) (p:Nat) (op:PI→PI→PI) (w:World) (hop:OpE Tryz.prog fid p op) (hx:x.rd w) (vx:x.vl=true) (hy:y.rd w) (vy:y.vl=true) (hT:Tab w)
   (hf:w.cell? ⟨bf,0,none⟩=some (.func (.func fid) #[] #[])) (hb:w.cell? ⟨bb,0,none⟩=some (.slice (some ⟨b2,o2,none⟩) n.length d)) (hp:w.cell? ⟨bp,0,none⟩=some (.int .i64 (p:Int)))
   (hr:w.cell? ⟨b2,o2+i,none⟩=some (.slice (some ⟨b3,o3,none⟩) r.length rc)) (hY:w.cell? ⟨b3,o3+j*7,none⟩=some (.bool y.lo.neg)∧w.cell? ⟨b3,o3+j*7+1,none⟩=some (.slice y.lo.a y.lo.xs.length y.lo.c)∧w.cell? ⟨b3,o3+j*7+2,none⟩=some (.int .i64 y.lo.e)∧w.cell? ⟨b3,o3+j*7+3,none⟩=some (.bool y.hi.neg)∧w.cell? ⟨b3,o3+j*7+4,none⟩=some (.slice y.hi.a y.hi.xs.length y.hi.c)∧w.cell? ⟨b3,o3+j*7+5,none⟩=some (.int .i64 y.hi.e)∧w.cell? ⟨b3,o3+j*7+6,none⟩=some (.bool y.all))
   (hi:i<n.length) (hj:j<r.length) :
   Calls Tryz.prog 224 #[.int .i64 (i:Int),.int .i64 (j:Int),.agg #[.bool x.lo.neg,.slice x.lo.a x.lo.xs.length x.lo.c,.int .i64 x.lo.e,.bool x.hi.neg,.slice x.hi.a x.hi.xs.length x.hi.c,.int .i64 x.hi.e,.bool x.all],.pointer (some ⟨bf,0,none⟩),.pointer (some ⟨bb,0,none⟩),.pointer (some ⟨bp,0,none⟩)] w (IvOut w (op x.pl y.pl)):=by
 have hgo:∀ args w,(callFunc fid args).run Tryz.prog w=.ok (.enter fid args) w:=hop.1
 have HOP:=hid hop.2
 have hi1:(0:Int)≤(i:Int):=by omega
 have hi2:(i:Int)<(n.length:Int):=by omega
 have hj1:(0:Int)≤(j:Int):=by omega
 have hj2:(j:Int)<(r.length:Int):=by omega
 have nf:(⟨bf,0,none⟩:Addr).block≠w.heap.size+1:=by have:=World.block_lt_of_cell? w _ hf;omega
 have nb:(⟨bb,0,none⟩:Addr).block≠w.heap.size+1:=by have:=World.block_lt_of_cell? w _ hb;omega
 have nr:(⟨b2,o2+i,none⟩:Addr).block≠w.heap.size+1:=by have:=World.block_lt_of_cell? w _ hr;omega
 have np:(⟨bp,0,none⟩:Addr).block≠w.heap.size+1:=by have:=World.block_lt_of_cell? w _ hp;omega
 have ny:b3≠w.heap.size+1:=by have:=World.block_lt_of_cell? w _ hY.1;simp only at this;omega
 have Nn:=hid (And.intro nf (And.intro nb (And.intro nr (And.intro np ny))))
 have h0:=hid (And.intro hf (And.intro hb (And.intro hr (And.intro hp hY))))
 have HX:=hid (And.intro hx (And.intro vx (And.intro hy (And.intro vy hT))))
 clear hop hf hb hr hp hY hx vx hy vy hT nf nb nr np ny
 go_enter Tryz.func224,Tryz.ntmps224
 go_upto_region 1 with fail
 generalize hW:((w.alloc _).alloc _)=W at *
 have hk:Kp w W:=hW▸((Kp.refl w).alloc _).alloc _
 have hS:W.cell? ⟨w.heap.size,0,none⟩=some (.bool x.lo.neg)∧W.cell? ⟨w.heap.size,1,none⟩=some (.slice x.lo.a x.lo.xs.length x.lo.c)∧W.cell? ⟨w.heap.size,2,none⟩=some (.int .i64 x.lo.e)∧W.cell? ⟨w.heap.size,3,none⟩=some (.bool x.hi.neg)∧W.cell? ⟨w.heap.size,4,none⟩=some (.slice x.hi.a x.hi.xs.length x.hi.c)∧W.cell? ⟨w.heap.size,5,none⟩=some (.int .i64 x.hi.e)∧W.cell? ⟨w.heap.size,6,none⟩=some (.bool x.all):=by rw[← hW];simp
 have hV:Var7 W (w.heap.size+1):=by rw[← hW];exact Var7.new1 _ _ _
 clear hW
 have kd:=(Kp.refl W).drew
 have hk2:=hk.trans kd
 have HS:=hid (keepE kd (show W.cell? ⟨bf,0,none⟩=some (.func (.func fid) #[] #[])∧W.cell? ⟨bb,0,none⟩=some (.slice (some ⟨b2,o2,none⟩) n.length d)∧W.cell? ⟨b2,o2+i,none⟩=some (.slice (some ⟨b3,o3,none⟩) r.length rc)∧W.cell? ⟨bp,0,none⟩=some (.int .i64 (p:Int))∧W.cell? ⟨w.heap.size,0,none⟩=some (.bool x.lo.neg)∧W.cell? ⟨w.heap.size,1,none⟩=some (.slice x.lo.a x.lo.xs.length x.lo.c)∧W.cell? ⟨w.heap.size,2,none⟩=some (.int .i64 x.lo.e)∧W.cell? ⟨w.heap.size,3,none⟩=some (.bool x.hi.neg)∧W.cell? ⟨w.heap.size,4,none⟩=some (.slice x.hi.a x.hi.xs.length x.hi.c)∧W.cell? ⟨w.heap.size,5,none⟩=some (.int .i64 x.hi.e)∧W.cell? ⟨w.heap.size,6,none⟩=some (.bool x.all)∧W.cell? ⟨b3,o3+j*7,none⟩=some (.bool y.lo.neg)∧W.cell? ⟨b3,o3+j*7+1,none⟩=some (.slice y.lo.a y.lo.xs.length y.lo.c)∧W.cell? ⟨b3,o3+j*7+2,none⟩=some (.int .i64 y.lo.e)∧W.cell? ⟨b3,o3+j*7+3,none⟩=some (.bool y.hi.neg)∧W.cell? ⟨b3,o3+j*7+4,none⟩=some (.slice y.hi.a y.hi.xs.length y.hi.c)∧W.cell? ⟨b3,o3+j*7+5,none⟩=some (.int .i64 y.hi.e)∧W.cell? ⟨b3,o3+j*7+6,none⟩=some (.bool y.all) by
   obtain⟨s0,s1,s2,s3,s4,s5,s6⟩:=hS
   exact⟨hk.cell h0.out.1,hk.cell h0.out.2.1,hk.cell h0.out.2.2.1,hk.cell h0.out.2.2.2.1,s0,s1,s2,s3,s4,s5,s6,keep7 hk h0.out.2.2.2.2⟩))
 have HC:=hid (HOP.out x y W.drew ⟨HX.out.1.kp hk2,HX.out.2.1⟩ ⟨HX.out.2.2.1.kp hk2,HX.out.2.2.2.1⟩ (HX.out.2.2.2.2.kp hk2))
 have HV:=hid (hV.kp kd)
 have HK:=hid hk2
 have hgn:w.heap.size≠w.heap.size+1:=by omega
 clear hS hV kd hk2 hk
 go_region_held3 (fun w'=>w'.cell? ⟨bf,0,none⟩=some (.func (.func fid) #[] #[])∧w'.cell? ⟨bb,0,none⟩=some (.slice (some ⟨b2,o2,none⟩) n.length d)∧w'.cell? ⟨b2,o2+i,none⟩=some (.slice (some ⟨b3,o3,none⟩) r.length rc)∧w'.cell? ⟨bp,0,none⟩=some (.int .i64 (p:Int))∧w'.cell? ⟨w.heap.size,0,none⟩=some (.bool x.lo.neg)∧w'.cell? ⟨w.heap.size,1,none⟩=some (.slice x.lo.a x.lo.xs.length x.lo.c)∧w'.cell? ⟨w.heap.size,2,none⟩=some (.int .i64 x.lo.e)∧w'.cell? ⟨w.heap.size,3,none⟩=some (.bool x.hi.neg)∧w'.cell? ⟨w.heap.size,4,none⟩=some (.slice x.hi.a x.hi.xs.length x.hi.c)∧w'.cell? ⟨w.heap.size,5,none⟩=some (.int .i64 x.hi.e)∧w'.cell? ⟨w.heap.size,6,none⟩=some (.bool x.all)∧w'.cell? ⟨b3,o3+j*7,none⟩=some (.bool y.lo.neg)∧w'.cell? ⟨b3,o3+j*7+1,none⟩=some (.slice y.lo.a y.lo.xs.length y.lo.c)∧w'.cell? ⟨b3,o3+j*7+2,none⟩=some (.int .i64 y.lo.e)∧w'.cell? ⟨b3,o3+j*7+3,none⟩=some (.bool y.hi.neg)∧w'.cell? ⟨b3,o3+j*7+4,none⟩=some (.slice y.hi.a y.hi.xs.length y.hi.c)∧w'.cell? ⟨b3,o3+j*7+5,none⟩=some (.int .i64 y.hi.e)∧w'.cell? ⟨b3,o3+j*7+6,none⟩=some (.bool y.all)) (first | with_reducible exact HS.out | with_reducible assumption | with_reducible exact keepE (by assumption) (by assumption) | exact keepEU HU.out Nn.out.1 Nn.out.2.1 Nn.out.2.2.1 Nn.out.2.2.2.1 hgn Nn.out.2.2.2.2 HS1.out)
   (first
     | ((with_reducible refine HC.out.mono ?_); rintro e v1 ⟨z, rfl, hz, hzp, hzv, j1⟩
        have HZ:=hid (And.intro hz (And.intro hzp hzv))
        have hV1:=HV.out.kp j1
        have HK1:=hid (HK.out.trans j1)
        have HS1:=hid (keepE j1 HS.out)
        have HU:=hid (stored7 hV1.1 nofun nofun nofun nofun nofun nofun nofun (.bool z.lo.neg) (.slice z.lo.a z.lo.xs.length z.lo.c) (.int .i64 z.lo.e) (.bool z.hi.neg) (.slice z.hi.a z.hi.xs.length z.hi.c) (.int .i64 z.hi.e) (.bool z.all) rfl).2
        clear hz hzp hzv
        obtain⟨⟨q0,q1,q2,q3,q4,q5,q6⟩,f0,f1,f2,f3,f4,f5,f6⟩:=id hV1)
     | fail)
 go_wp2_with fail
 generalize hW9:((((((v1.setCell _ _).setCell _ _).setCell _ _).setCell _ _).setCell _ _).setCell _ _).setCell _ _=W9
 obtain⟨⟨s0,s1,s2,s3,s4,s5,s6⟩,hU⟩:=stored7 (show Box7 v1 _ _ _ _ _ _ _ _ from ⟨q0,q1,q2,q3,q4,q5,q6⟩) nofun nofun nofun nofun nofun nofun nofun _ _ _ _ _ _ _ hW9
 clear hW9 q0 q1 q2 q3 q4 q5 q6 f0 f1 f2 f3 f4 f5 f6
 refine bodyPost_ret (v:=.agg #[.bool z.lo.neg,.slice z.lo.a z.lo.xs.length z.lo.c,.int .i64 z.lo.e,.bool z.hi.neg,.slice z.hi.a z.hi.xs.length z.hi.c,.int .i64 z.hi.e,.bool z.all]) (by simp[results,Tryz.results224,go_sem,s0,s1,s2,s3,s4,s5,s6]) rfl ?_
 exact⟨z,rfl,hU.rdI HZ.out.1,HZ.out.2.1,HZ.out.2.2,hU.2.2.1 _ HK1.out (by omega)⟩
def entC (op:Nat→PI→PI→PI) (m n:List (List RI)) (p:Int):List (List PI)×Int :=
 if (!vlM m||!vlM n)=true then ([],1) else if preB p=false then ([],2) else if m.length≠n.length∨colsM m≠colsM n then ([],3) else (tabM m.length (colsM m) (fun i j=>op p.toNat (atP m i j) (atP n i j)),0)
set_option maxRecDepth 100000 in
set_option maxHeartbeats 8000000 in
theorem ent_any (a b:Option Addr) (m n:List (List RI)) (c d:Nat) (p:Int) (fid:FuncId) (op:Nat→PI→PI→PI) (w:World) (hm:RowM w a m) (hn:RowM w b n) (hl:m.length≤1100000) (hl2:n.length≤1100000) (hT:Tab w)
  (hop:∀ q,8≤q→q≤512→OpE Tryz.prog fid q (op q)) :
  Calls Tryz.prog 195 #[.slice a m.length c,.slice b n.length d,.int .i64 p,.func (.func fid) #[] #[]] w (MatE w (entC op m n p).1 (entC op m n p).2):=by
 have hsf:=storeF
 have HM:=hid hm
 have HN:=hid hn
 have HT:=hid hT
 have HOP:=hid hop
 obtain⟨D,hD⟩:∃ D,D=entC op m n p:=⟨_,rfl⟩
 have HD:=hid hD
 rw[← hD]
 clear hm hn hT hD hop
 go_enter Tryz.func195,Tryz.ntmps195
 go_wp2_with fail
 generalize hW:(((w.alloc _).alloc _).alloc _)=W at *
 have hk:Kp w W:=hW▸(((Kp.refl w).alloc _).alloc _).alloc _
 have hbb:W.cell? ⟨w.heap.size,0,none⟩=some (.slice b n.length d):=by rw[← hW];exact ((Kp.refl _).alloc _).cell (by simp)
 have hpb:W.cell? ⟨w.heap.size+1,0,none⟩=some (.int .i64 p):=by rw[← hW];exact ((Kp.refl _).alloc _).cell (by simp)
 have hfb:W.cell? ⟨w.heap.size+1+1,0,none⟩=some (.func (.func fid) #[] #[]):=by
  have:=heap_alloc_new ((w.alloc (.cells #[.slice b n.length d] 27)).alloc (.cells #[.int .i64 p] 3)) (.cells #[.func (.func fid) #[] #[]] 99)
  rw[hW] at this
  have e:=cell_of_row W _ 0 _ _ _ this
  simpa using e
 clear hW
 go_fit (mvalid_any a m c _ (HM.out.kp hk) hl)
 rintro e w1 ⟨rfl,k1⟩
 have hk1:=hk.trans k1
 have hbb1:=k1.cell hbb
 have HPF:=hid (And.intro (k1.cell hpb) (k1.cell hfb))
 clear hk hbb hpb hfb k1
 cases hvm:vlM m with
 | false =>
  have HE:=hid (show D=([],1) by rw[HD.out];unfold entC;rw[hvm];rfl)
  clear hvm
  go_wp2_with fail
  rw[HE.out]
  refine bodyPost_ret (v:=.tuple #[.slice none 0 0,.int .i64 1]) (by simp[results,Tryz.results195,go_sem]) rfl ?_
  exact matE_nil rfl hk1
 | true =>
 have HVM:=hid hvm
 clear hvm
 go_wp2_with fail
 go_fit (mvalid_any b n d _ (HN.out.kp hk1) hl2)
 rintro e w2 ⟨rfl,k2⟩
 have hk2:=hk1.trans k2
 have hbb2:=k2.cell hbb1
 have hpb2:=k2.cell HPF.out.1
 have HF2:=hid (k2.cell HPF.out.2)
 clear hk1 hbb1 HPF k2
 cases hvn:vlM n with
 | false =>
  have HE:=hid (show D=([],1) by rw[HD.out];unfold entC;rw[HVM.out,hvn];rfl)
  clear hvn
  go_wp2_with fail
  rw[HE.out]
  refine bodyPost_ret (v:=.tuple #[.slice none 0 0,.int .i64 1]) (by simp[results,Tryz.results195,go_sem]) rfl ?_
  exact matE_nil rfl hk2
 | true =>
 have HVN:=hid hvn
 clear hvn
 go_wp2_with fail
 go_fit (mprecise_any p _)
 rintro e w3 ⟨rfl,rfl⟩
 cases hp:preB p with
 | false =>
  have HE:=hid (show D=([],2) by rw[HD.out];unfold entC;rw[HVM.out,HVN.out,hp];rfl)
  clear hp
  go_wp2_with fail
  rw[HE.out]
  refine bodyPost_ret (v:=.tuple #[.slice none 0 0,.int .i64 2]) (by simp[results,Tryz.results195,go_sem]) rfl ?_
  exact matE_nil rfl hk2
 | true =>
 have HP:=hid hp
 clear hp
 obtain⟨r0,hr0,hc0⟩:=vlM_row0 HVM.out
 obtain⟨s0,hs0,hd0⟩:=vlM_row0 HVN.out
 have hml:=(vlM_iff.1 HVM.out).1
 have hmc:=(vlM_iff.1 HVM.out).2.1
 have hnl:=(vlM_iff.1 HVN.out).1
 have hnc:=(vlM_iff.1 HVN.out).2.1
 obtain⟨ba,oa,ra,rc,rfl,hrow,_⟩:=HM.out 0 r0 hr0
 obtain⟨bb,ob,rb,rd,rfl,hrowb,_⟩:=HN.out 0 s0 hs0
 rw[Nat.add_zero] at hrow hrowb
 have hi1:(0:Int)<(m.length:Int):=by omega
 have hi2:(0:Int)<(n.length:Int):=by omega
 have HC0:=hid (And.intro hc0 hd0)
 have kd:=(Kp.refl w2).drew
 have hk3:=hk2.trans kd
 have g1:=hk3.cell hrow
 have g2:=hk3.cell hrowb
 have g3:=kd.cell hbb2
 have HB:=hid (And.intro g3 (And.intro (kd.cell hpb2) (kd.cell HF2.out)))
 have hlr:r0.length≤8:=by omega
 have hls:s0.length≤8:=by omega
 have hlm:m.length≤8:=by omega
 have hln:n.length≤8:=by omega
 clear hr0 hs0 hrow hrowb hc0 hd0 kd hbb2 hpb2 HF2 hk2 hml hmc hnl hnc
 go_upto_region 5 with fail
 by_cases hne:m.length=n.length
 rotate_left
 ·have hne1:((m.length:Int) != (n.length:Int))=true:=by simpa using (by omega:¬ (m.length:Int)=(n.length:Int))
  have HE:=hid (show D=([],3) by
   rw[HD.out];unfold entC
   rw[HVM.out,HVN.out,HP.out,if_neg (by decide),if_neg (by decide),if_pos (.inl hne)])
  clear hne
  go_region
  generalize w2.drew=W0 at *
  go_wp2_with fail
  rw[HE.out]
  refine bodyPost_ret (v:=.tuple #[.slice none 0 0,.int .i64 3]) (by simp[results,Tryz.results195,go_sem]) rfl ?_
  exact matE_nil rfl hk3
 have hne1:((m.length:Int) != (n.length:Int))=false:=by rw[hne];simp
 by_cases hnc:r0.length=s0.length
 rotate_left
 ·have hnc1:((r0.length:Int) != (s0.length:Int))=true:=by simpa using (by omega:¬ (r0.length:Int)=(s0.length:Int))
  have HE:=hid (show D=([],3) by
   rw[HD.out];unfold entC
   rw[HVM.out,HVN.out,HP.out,if_neg (by decide),if_neg (by decide),if_pos (by have:=HC0.out;omega)])
  clear hne hnc
  go_region
  generalize w2.drew=W0 at *
  go_wp2_with fail
  rw[HE.out]
  refine bodyPost_ret (v:=.tuple #[.slice none 0 0,.int .i64 3]) (by simp[results,Tryz.results195,go_sem]) rfl ?_
  exact matE_nil rfl hk3
 have hnc1:((r0.length:Int) != (s0.length:Int))=false:=by rw[hnc];simp
 go_region
 generalize w2.drew=W0 at *
 clear g1 g2 g3
 obtain⟨q,hq⟩:∃ q:Nat,q=p.toNat:=⟨_,rfl⟩
 have hpq:p=(q:Int):=by have:=preB_iff.1 HP.out;omega
 have hq0:8≤q:=by have:=preB_iff.1 HP.out;omega
 have hq1:q≤512:=by have:=preB_iff.1 HP.out;omega
 have HDm:=hid (show D=(tabM m.length (colsM m) (fun i j=>op q (atP m i j) (atP n i j)),0) by
  rw[HD.out];unfold entC
  rw[HVM.out,HVN.out,HP.out,if_neg (by decide),if_neg (by decide),if_neg (by have:=HC0.out;omega),hq])
 have HG:=hid (show FunE Tryz.prog 224 #[.pointer (some ⟨w.heap.size+1+1,0,none⟩),.pointer (some ⟨w.heap.size,0,none⟩),.pointer (some ⟨w.heap.size+1,0,none⟩)] W0 m (fun i j=>op q (atP m i j) (atP n i j)) from by
  refine⟨fun _ _=>by kernel_rfl,fun i j r x hr hx w1 k hxr=>?_⟩
  have hir:=(List.getElem?_eq_some_iff.1 hr).1
  have hjr:=(List.getElem?_eq_some_iff.1 hx).1
  have hjc:j<colsM n:=by have:=(vlM_row HVM.out hr).1;have:=HC0.out;omega
  obtain⟨s,y,hs,hy,hyv,hat⟩:=vlM_get HVN.out (show i<n.length by omega) hjc
  have kk:=hk3.trans k
  obtain⟨b2,o2,ra2,rc2,e2,hrc,hrow2,_⟩:=(HN.out.kp kk) i s hs
  cases e2
  obtain⟨b3,o3,e3,hyr,hY⟩:=hrow2 j y hy
  subst e3
  have:=entel_any n x y s d rc2 i j (w.heap.size+1+1) w.heap.size (w.heap.size+1) bb ob b3 o3 fid q (op q) w1 (HOP.out q hq0 hq1) hxr ((vlM_row HVM.out hr).2 x (List.mem_of_getElem? hx)) hyr hyv (HT.out.kp kk)
   (k.cell HB.out.2.2) (k.cell HB.out.1) (by rw[← hpq];exact k.cell HB.out.2.1) hrc hY (by omega) (List.getElem?_eq_some_iff.1 hy).1
  have e9:op q (atP m i j) (atP n i j)=op q x.pl y.pl:=by rw[atP_eq hr hx,show atP n i j=y.pl by unfold atP;rw[hat]]
  rw[← e9] at this
  exact this)
 have HE:=hid (each_any (some ⟨ba,oa,none⟩) m c 224 _ _ W0 (HM.out.kp hk3) HVM.out HG.out)
 clear hpq hq hne hnc
 go_wp2_with fail
 go_fit HE.out
 rintro e w4 ⟨aZ,Z,cZ,rfl,hZ,hp,ho,hz,k4⟩
 have hk4:=hk3.trans k4
 go_wp2_with fail
 rw[HDm.out]
 refine bodyPost_ret (v:=.tuple #[.slice aZ Z.length cZ,.int .i64 0]) (by simp[results,Tryz.results195,go_sem]) rfl ?_
 exact⟨aZ,Z,cZ,rfl,hZ,hp,ho,hz,hk4⟩
theorem opAdd (q:Nat) (h0:8≤q) (h1:q≤512):OpE Tryz.prog 80 q (fun X Y=>pAdd X Y q):=⟨fun _ _=>by kernel_rfl,fun x y W hx hy hT=>IAdd_rd x y q W hx hy h0 h1 hT⟩
theorem opSub (q:Nat) (h0:8≤q) (h1:q≤512):OpE Tryz.prog 76 q (fun X Y=>pSub X Y q):=⟨fun _ _=>by kernel_rfl,fun x y W hx hy hT=>ISub_any x y q W hx.1 hy.1 hx.2 hy.2 h0 h1 hT⟩
theorem madd_any (a b:Option Addr) (m n:List (List RI)) (c d:Nat) (p:Int) (w:World) (hm:RowM w a m) (hn:RowM w b n) (hl:m.length≤1100000) (hl2:n.length≤1100000) (hT:Tab w) :
  Calls Tryz.prog 143 #[.slice a m.length c,.slice b n.length d,.int .i64 p] w (MatE w (entC (fun q X Y=>pAdd X Y q) m n p).1 (entC (fun q X Y=>pAdd X Y q) m n p).2):=by
 have H:=hid (ent_any a b m n c d p _ _ w hm hn hl hl2 hT opAdd)
 generalize entC (fun q X Y=>pAdd X Y q) m n p=D at *
 clear hm hn hT
 go_enter Tryz.func143,Tryz.ntmps143
 go_wp2_with fail
 go_fit H.out
 rintro e w4 ⟨aZ,Z,cZ,rfl,hZ,hp,ho,hz,k4⟩
 go_wp2_with fail
 refine bodyPost_ret (v:=.tuple #[.slice aZ Z.length cZ,.int .i64 D.2]) (by simp[results,Tryz.results143,go_sem]) rfl ?_
 exact⟨aZ,Z,cZ,rfl,hZ,hp,ho,hz,k4⟩
theorem msub_any (a b:Option Addr) (m n:List (List RI)) (c d:Nat) (p:Int) (w:World) (hm:RowM w a m) (hn:RowM w b n) (hl:m.length≤1100000) (hl2:n.length≤1100000) (hT:Tab w) :
  Calls Tryz.prog 192 #[.slice a m.length c,.slice b n.length d,.int .i64 p] w (MatE w (entC (fun q X Y=>pSub X Y q) m n p).1 (entC (fun q X Y=>pSub X Y q) m n p).2):=by
 have H:=hid (ent_any a b m n c d p _ _ w hm hn hl hl2 hT opSub)
 generalize entC (fun q X Y=>pSub X Y q) m n p=D at *
 clear hm hn hT
 go_enter Tryz.func192,Tryz.ntmps192
 go_wp2_with fail
 go_fit H.out
 rintro e w4 ⟨aZ,Z,cZ,rfl,hZ,hp,ho,hz,k4⟩
 go_wp2_with fail
 refine bodyPost_ret (v:=.tuple #[.slice aZ Z.length cZ,.int .i64 D.2]) (by simp[results,Tryz.results192,go_sem]) rfl ?_
 exact⟨aZ,Z,cZ,rfl,hZ,hp,ho,hz,k4⟩
set_option maxRecDepth 100000 in
set_option maxHeartbeats 2000000 in
theorem pInt_any (n:Nat) (w:World) (hn:n≤9000000) (hT:Tab w) :
  Calls Tryz.prog 92 #[.int .i64 n] w (DyOut w (canon false n 0)):=by
 have hB:=Box3.new w (.bool false) (.slice none 0 0) (.int .i64 0) 38
 have k0:=(Kp.refl w).alloc (.cells #[.bool false,.slice none 0 0,.int .i64 0] 38)
 have hneg:decide ((n:Int)<0)=false:=decide_eq_false (by omega)
 have h1:(n:Int) % 18446744073709551616=n:=by omega
 have h2:(n:Int) % 4294967296=n:=by omega
 have h3:(n:Int)/4294967296=0:=by omega
 have hT1:=hid (hT.kp k0)
 have hR:=rd_pair (w.alloc (.cells #[.bool false,.slice none 0 0,.int .i64 0] 38)) n 0 (by omega) (by decide) n 0 rfl rfl
 rw[World.size_alloc] at hR
 have hO:=hid (canonical_any false _ [n,0] 2 0 _ hR (by simp) (by unfold maxLen;omega) (by simp) (by decide) (by decide) (hT1.out.kp ((Kp.refl _).alloc _)))
 clear hR
 go_enter Tryz.func92,Tryz.ntmps92
 go_wp2_with fail
 refine hO.out.mono ?_
 rintro e w3 ⟨a3,c3,rfl,r3,l3,m3,k3⟩
 have hkb:=((Kp.refl _).alloc _).trans k3
 obtain⟨q0,q1,q2,f0,f1,f2⟩:=hB.kp hkb
 have hk2:=k0.trans hkb
 rw[show val [n,0]=n from by simp[val]] at r3 l3 ⊢
 generalize canon false n 0=D at *
 have hst:=stored q0 q1 q2 nofun nofun nofun (.bool D.neg) (.slice a3 (limbs D.m).length c3) (.int .i64 D.e)
 go_wp2_with fail
 generalize (((w3.setCell _ _).setCell _ _).setCell _ _)=W at hst ⊢
 obtain⟨s0,s1,s2,_,s4,s5,_,_⟩:=hst
 refine bodyPost_ret (v:=.agg #[.bool D.neg,.slice a3 (limbs D.m).length c3,.int .i64 D.e]) (by simp[results,Tryz.results92,go_sem,s0,s1,s2]) rfl ?_
 exact⟨a3,c3,rfl,s4 _ _ r3,l3,m3,s5 _ hk2 (by omega)⟩
theorem intD_nat (n:Nat):intD (n:Int)=canon false n 0:=by unfold intD;rw[decide_eq_false (by omega)];rfl
theorem pIntR_any (n:Nat) (w:World) (hn:n≤1) (hT:Tab w) :
  Calls Tryz.prog 92 #[.int .i64 n] w fun e w'=>∃ y:RD,e=.returned (.agg #[.bool y.neg,.slice y.a y.xs.length y.c,.int .i64 y.e])∧y.ok w'∧y.dy=intD n∧Kp w w':=by
 refine (pInt_any n w (by omega) hT).mono ?_
 rintro e w' ⟨a,c,rfl,r,l,m,k⟩
 have hd:(intD (n:Int)).ok:=(intD_isP (p:=10) (by decide) (by decide) (by omega)).1
 rw[← intD_nat] at r l ⊢
 exact⟨rdOf (intD n) a c,rfl,⟨rdOf_rd hd r l m,rdOf_vl hd _ _⟩,rdOf_dy _ _ _,k⟩
theorem pInt0_any (w:World) (hT:Tab w):Calls Tryz.prog 92 #[.int .i64 0] w fun e w'=>∃ y:RD,e=.returned (.agg #[.bool y.neg,.slice y.a y.xs.length y.c,.int .i64 y.e])∧y.ok w'∧y.dy=intD 0∧Kp w w':=pIntR_any 0 w (by decide) hT
theorem pInt1_any (w:World) (hT:Tab w):Calls Tryz.prog 92 #[.int .i64 1] w fun e w'=>∃ y:RD,e=.returned (.agg #[.bool y.neg,.slice y.a y.xs.length y.c,.int .i64 y.e])∧y.ok w'∧y.dy=intD 1∧Kp w w':=pIntR_any 1 w (by decide) hT
set_option maxRecDepth 100000 in
set_option maxHeartbeats 8000000 in
theorem midn_any (n:Nat) (w:World) (h1:1≤n) (h8:n≤8) (hT:Tab w) :
   Calls Tryz.prog 36 #[.int .i64 n] w (MatV w (tabM n n idP)):=by
 have HT:=hid hT
 have hn1:¬ ((n:Int)<1):=by omega
 have hn8:¬ (8<(n:Int)):=by omega
 obtain⟨F,hF⟩:∃ F:Nat→Nat→PI,F=idP:=⟨_,rfl⟩
 have HF:=hid hF
 rw[← hF]
 have hmk:=make_rows (n:Int) n rfl (by omega)
 clear hT hF
 go_enter Tryz.func36,Tryz.ntmps36
 go_wp2_with fail
 have hO:=OutH.made w n
 have hk1:=(Kp.refl w).alloc (.cells (madeCells #[.slice none 0 0] n) 24)
 generalize hW1:w.alloc _=W1 at *
 have HK:=hid (Kp.refl w)
 have HO:=hid hO
 clear hW1 hmk hk1 hO hn1 hn8
 go_loopg [17] n (fun q v wr=>∃ R:List (List RI),R.length+q=n∧v=.int .i64 (R.length:Int)∧OutH w wr w.heap.size n R∧plM R=tabM R.length n F∧okM R)
 case atStart=>exact⟨[],by simp,rfl,HO.out,rfl,fun r h=>by simp at h⟩
 case round =>
 obtain⟨R,hRq,rfl,hO,hpl,hok⟩:=hrel
 clear HO
 have HH:=hid (And.intro hpl hok)
 have HOH:=hid hO
 have hkr:=hO.2.1
 clear hpl hok hO
 by_cases hlt:R.length<n
 rotate_left
 · have hRe:R.length=n:=by omega
   have HRe:=hid hRe
   clear hRe hRq
   go_wp2_with fail
   refine bodyPost_ret (v:=.slice (some ⟨w.heap.size,0,none⟩) n n) (by simp[results,Tryz.results36,go_sem]) rfl ?_
   refine⟨_,R,n,by rw[HRe.out],HOH.out.rowM,?_,HH.out.2,by have:=HRe.out;omega,hkr⟩
   rw[HH.out.1,HRe.out]
 have HMO:=hid (HOH.out.open hlt)
 have Hlt:=hid (And.intro hlt hRq)
 clear hRq
 have hj1:(0:Int)≤(R.length:Int):=by omega
 have hj2:(R.length:Int)<(n:Int):=by omega
 go_wp2_with fail
 clear HOH
 obtain⟨gk1,hgk1⟩:∃ x:Nat,x=gk:=⟨_,rfl⟩
 subst hgk1
 obtain⟨wr1,hwr1⟩:∃ x:World,x=wr:=⟨_,rfl⟩
 subst hwr1
 go_loopg [21] n (fun q v wr=>∃ (u:Value) (cur:List RI),cur.length+q=n∧v=.int .i64 (cur.length:Int)∧OutM w wr w.heap.size n R u cur∧plR cur=rowF cur.length (F R.length)∧∀ x∈cur,x.vl=true)
 case atStart=>exact⟨_,[],by simp,rfl,HMO.out,rfl,fun x h=>by simp at h⟩
 case round =>
 obtain⟨u,cur,hcq,rfl,hM,hpc,hvc⟩:=hrel
 clear HMO
 by_cases hlt2:cur.length<n
 rotate_left
 · have hce:cur.length=n:=by omega
   have hcl:cur.length≤1100000:=by omega
   have hcc:=hid (hM.close hcl)
   have HPC:=hid (And.intro hpc (And.intro hvc hce))
   clear hpc hvc hcq hM hce hcl
   go_wp2_with fail
   go_roundg (gk1-1)
   case measure=>have:=Hlt.out;omega
   case rel =>
   refine⟨R++[cur],by have:=Hlt.out;rw[List.length_append,List.length_singleton];omega,by rw[List.length_append,List.length_singleton];go_num,hcc.out,?_,okM_snoc HH.out.2 HPC.out.2.1⟩
   rw[plM_snoc,HH.out.1,List.length_append,List.length_singleton,tabM_snoc,HPC.out.1,HPC.out.2.2]
 have HPC:=hid (And.intro hpc (And.intro hvc (And.intro hcq hlt2)))
 clear hpc hvc hcq
 by_cases hij:R.length=cur.length
 · have heq:((R.length:Int)==(cur.length:Int))=true:=by rw[hij];simp
   have HIJ:=hid hij
   clear hij
   have HP:=hid (show pnI 1 1=F R.length cur.length by rw[HF.out];show _=idP _ _;unfold idP;rw[if_pos HIJ.out])
   go_upto_region 13 with fail
   have kd:=(Kp.refl wr).drew
   have kk:=HK.out.trans hM.2.1.1
   have hM3:=hM.kp kd
   have hcell:=hM3.cellF
   obtain⟨hc1,hf1⟩:=id hcell
   have HM3:=hid hM3
   have HT3:=hid (HT.out.kp (kk.trans kd))
   have hcl:cur.length+1≤9000000:=by omega
   clear hM hM3 kd hcell kk
   go_region_law (first
     | (go_simp; go_at_call 92; (with_reducible refine (pInt1_any _ HT3.out).mono ?_); rintro e v1 ⟨y, rfl, hy, hyd, j1⟩
        have hM4:=HM3.out.kp j1
        obtain⟨hc1,hf1⟩:=hM4.cellF
        have HY:=hid (And.intro hy hyd)
        clear hM4 hy hyd)
     | (go_simp; go_at_call 35; (with_reducible refine (IPoint_pt y _ HY.out.1).mono ?_); rintro e v2 ⟨rfl, j2⟩
        have kY:=j2.alloc (.cells #[.bool (ptI y).lo.neg,.slice (ptI y).lo.a (ptI y).lo.xs.length (ptI y).lo.c,.int .i64 (ptI y).lo.e,.bool (ptI y).hi.neg,.slice (ptI y).hi.a (ptI y).hi.xs.length (ptI y).hi.c,.int .i64 (ptI y).hi.e,.bool (ptI y).all] 44)
        have hM4:=HM3.out.kp (j1.trans j2)
        obtain⟨hc1,hf1⟩:=hM4.cellF
        have hM5:=HM3.out.kp (j1.trans kY)
        obtain⟨hc1,hf1⟩:=hM5.cellF
        have hown:=hM5.2.1
        have hzO:=ptI_ok (HY.out.1.kp kY)
        have hzA:=ptI_rd (HY.out.1.kp kY).1
        have HZ:=hid (And.intro (show (ptI y).pl=pnI 1 1 by show PI.mk y.dy y.dy false=_;rw[HY.out.2];rfl) hzO.2.2)
        have HM5:=hid hM5
        clear kY hM5 hM4 hzO)
     | (refine step_append_ivg (by rfl) _ _ (by rfl) w u cur (by rfl) hown _ _ (by rfl) (ptI y) hzA (by simp) hcl ?_; intro a' c' w9 hown9 hgrow hblk
        obtain⟨hc1,hf1⟩:=HM5.out.cellG hgrow)
     | fail)
   all_goals
     have hst:=OutM.step HM5.out hown9 hgrow hblk HM5.out.2.1.noU
     go_wp2_with fail
     go_roundg (gk-1)
     case measure=>have:=HPC.out.2.2;omega
     case rel =>
       refine⟨_,cur++[ptI y],by have:=HPC.out.2.2;rw[List.length_append,List.length_singleton];omega,by rw[List.length_append,List.length_singleton];go_num,hst,?_,ok_snoc HPC.out.2.1 HZ.out.2⟩
       rw[plR_snoc,HPC.out.1,List.length_append,List.length_singleton,rowF_snoc,HZ.out.1,HP.out]
 have heq:((R.length:Int)==(cur.length:Int))=false:=beq_eq_false_iff_ne.2 (by omega)
 have HIJ:=hid hij
 clear hij
 have HP:=hid (show pnI 0 0=F R.length cur.length by rw[HF.out];show _=idP _ _;unfold idP;rw[if_neg HIJ.out])
 go_upto_region 13 with fail
 have kd:=(Kp.refl wr).drew
 have kk:=HK.out.trans hM.2.1.1
 have hM3:=hM.kp kd
 have hcell:=hM3.cellF
 obtain⟨hc1,hf1⟩:=id hcell
 have HM3:=hid hM3
 have HT3:=hid (HT.out.kp (kk.trans kd))
 have hcl:cur.length+1≤9000000:=by omega
 clear hM hM3 kd hcell kk
 go_region_law (first
   | (go_simp; go_at_call 92; (with_reducible refine (pInt0_any _ HT3.out).mono ?_); rintro e v1 ⟨y, rfl, hy, hyd, j1⟩
      have hM4:=HM3.out.kp j1
      obtain⟨hc1,hf1⟩:=hM4.cellF
      have HY:=hid (And.intro hy hyd)
      clear hM4 hy hyd)
   | (go_simp; go_at_call 35; (with_reducible refine (IPoint_pt y _ HY.out.1).mono ?_); rintro e v2 ⟨rfl, j2⟩
      have kY:=j2.alloc (.cells #[.bool (ptI y).lo.neg,.slice (ptI y).lo.a (ptI y).lo.xs.length (ptI y).lo.c,.int .i64 (ptI y).lo.e,.bool (ptI y).hi.neg,.slice (ptI y).hi.a (ptI y).hi.xs.length (ptI y).hi.c,.int .i64 (ptI y).hi.e,.bool (ptI y).all] 44)
      have hM4:=HM3.out.kp (j1.trans j2)
      obtain⟨hc1,hf1⟩:=hM4.cellF
      have hM5:=HM3.out.kp (j1.trans kY)
      obtain⟨hc1,hf1⟩:=hM5.cellF
      have hown:=hM5.2.1
      have hzO:=ptI_ok (HY.out.1.kp kY)
      have hzA:=ptI_rd (HY.out.1.kp kY).1
      have HZ:=hid (And.intro (show (ptI y).pl=pnI 0 0 by show PI.mk y.dy y.dy false=_;rw[HY.out.2];rfl) hzO.2.2)
      have HM5:=hid hM5
      clear kY hM5 hM4 hzO)
   | (refine step_append_ivg (by rfl) _ _ (by rfl) w u cur (by rfl) hown _ _ (by rfl) (ptI y) hzA (by simp) hcl ?_; intro a' c' w9 hown9 hgrow hblk
      obtain⟨hc1,hf1⟩:=HM5.out.cellG hgrow)
   | fail)
 all_goals
   have hst:=OutM.step HM5.out hown9 hgrow hblk HM5.out.2.1.noU
   go_wp2_with fail
   go_roundg (gk-1)
   case measure=>have:=HPC.out.2.2;omega
   case rel =>
     refine⟨_,cur++[ptI y],by have:=HPC.out.2.2;rw[List.length_append,List.length_singleton];omega,by rw[List.length_append,List.length_singleton];go_num,hst,?_,ok_snoc HPC.out.2.1 HZ.out.2⟩
     rw[plR_snoc,HPC.out.1,List.length_append,List.length_singleton,rowF_snoc,HZ.out.1,HP.out]
set_option maxRecDepth 100000 in
set_option maxHeartbeats 8000000 in
theorem mnorm_any (a:Option Addr) (m:List (List RI)) (c:Nat) (p:Int) (w:World) (hm:RowM w a m) (hl:m.length≤1100000) (hT:Tab w) :
  Calls Tryz.prog 193 #[.slice a m.length c,.int .i64 p] w (NumB w ((nrmO m p).getD .zero) (nrmO m p).isSome):=by
 have HM:=hid hm
 have HT:=hid hT
 obtain⟨D,hD⟩:∃ D,D=nrmO m p:=⟨_,rfl⟩
 have HD:=hid hD
 rw[← hD]
 clear hm hT hD
 go_enter Tryz.func193,Tryz.ntmps193
 go_wp2_with fail
 generalize hW:w.alloc _=W at *
 have hk:Kp w W:=hW▸(Kp.refl w).alloc _
 have hB:BoxD W w.heap.size rdZero:=by rw[← hW];exact Box3.new _ _ _ _ _
 clear hW
 go_fit (mvalid_any a m c _ (HM.out.kp hk) hl)
 rintro e w1 ⟨rfl,k1⟩
 have hk1:=hk.trans k1
 have hB1:=hB.kp k1
 clear hk hB k1
 cases hvm:vlM m with
 | false =>
  have HE:=hid (show D=none by rw[HD.out];unfold nrmO;rw[hvm];rfl)
  clear hvm
  obtain⟨q0,q1,q2,f0,f1,f2⟩:=id hB1
  go_wp2_with fail
  generalize hW9:(((w1.setCell _ _).setCell _ _).setCell _ _)=W9
  obtain⟨⟨s0,s1,s2,_⟩,hU⟩:=BoxD.store hB1 rdZero hW9
  clear hW9 q0 q1 q2 f0 f1 f2
  refine bodyPost_ret (v:=.tuple #[.agg #[.bool rdZero.neg,.slice rdZero.a rdZero.xs.length rdZero.c,.int .i64 rdZero.e],.bool false]) (by simp[results,Tryz.results193,go_sem,s0,s1,s2]) rfl ?_
  rw[HE.out]
  exact⟨rdZero,rfl,rdZero_rd _,rfl,rdZero_vl,hU.2.2.1 _ hk1 (by omega)⟩
 | true =>
 have HVM:=hid hvm
 clear hvm
 go_wp2_with fail
 go_fit (mprecise_any p _)
 rintro e w3 ⟨rfl,rfl⟩
 cases hp:preB p with
 | false =>
  have HE:=hid (show D=none by rw[HD.out];unfold nrmO;rw[HVM.out,hp];rfl)
  clear hp
  obtain⟨q0,q1,q2,f0,f1,f2⟩:=id hB1
  go_wp2_with fail
  generalize hW9:(((w1.setCell _ _).setCell _ _).setCell _ _)=W9
  obtain⟨⟨s0,s1,s2,_⟩,hU⟩:=BoxD.store hB1 rdZero hW9
  clear hW9 q0 q1 q2 f0 f1 f2
  refine bodyPost_ret (v:=.tuple #[.agg #[.bool rdZero.neg,.slice rdZero.a rdZero.xs.length rdZero.c,.int .i64 rdZero.e],.bool false]) (by simp[results,Tryz.results193,go_sem,s0,s1,s2]) rfl ?_
  rw[HE.out]
  exact⟨rdZero,rfl,rdZero_rd _,rfl,rdZero_vl,hU.2.2.1 _ hk1 (by omega)⟩
 | true =>
 have HP:=hid hp
 obtain⟨q,hq⟩:∃ q:Nat,q=p.toNat:=⟨_,rfl⟩
 have hpq:p=(q:Int):=by have:=preB_iff.1 hp;omega
 have hq0:8≤q:=by have:=preB_iff.1 hp;omega
 have hq1:q≤512:=by have:=preB_iff.1 hp;omega
 have HDm:=hid (show nrmN q m .zero=D by rw[HD.out];unfold nrmO;rw[HVM.out,hp,hq];rfl)
 clear hp
 rw[hpq]
 clear hpq hq
 have hml:=(vlM_iff.1 HVM.out).1
 have hm8:m.length≤8:=hml.2
 clear hml
 go_upto_region 4 with fail
 generalize hW2:w1.alloc _=W2 at *
 have hk2:Kp w1 W2:=hW2▸(Kp.refl w1).alloc _
 have hY:BoxD W2 w1.heap.size rdZero:=by rw[← hW2];exact Box3.new _ _ _ _ _
 clear hW2
 have HK1:=hid hk1
 have HB1:=hid hB1
 clear hk1 hB1
 go_wp2_with fail
 go_loopg [27] m.length (fun n v wr=>∃ (i:Nat) (y:RD),i+n=m.length∧v=.int .i64 (i:Int)∧Kp w1 wr∧BoxD wr w1.heap.size y∧y.ok wr∧nrmN q (m.drop i) y.dy=D)
 case atStart=>exact⟨0,rdZero,by omega,rfl,hk2,hY,⟨rdZero_rd _,rdZero_vl⟩,by rw[List.drop_zero];exact HDm.out⟩
 case round =>
 obtain⟨i,y,hin,rfl,hkr,hYr,hyo,hN⟩:=hrel
 have HN:=hid hN
 have HYo:=hid hyo
 clear hN hyo hY hk2
 by_cases hlt:i<m.length
 rotate_left
 ·have HC3:=hid (show D=some y.dy by
   have hd:m.drop i=[]:=List.drop_eq_nil_of_le (by omega)
   have:=HN.out
   rw[hd] at this
   exact this.symm)
  have hB9:=HB1.out.kp hkr
  have hkz:=HK1.out.trans hkr
  obtain⟨q0,q1,q2,f0,f1,f2⟩:=id hYr
  obtain⟨r0,r1,r2,g0,g1,g2⟩:=id hB9
  go_wp2_with fail
  generalize hW9:(((wr.setCell _ _).setCell _ _).setCell _ _)=W9
  obtain⟨⟨s0,s1,s2,_⟩,hU⟩:=BoxD.store hB9 y hW9
  clear hW9 q0 q1 q2 f0 f1 f2 r0 r1 r2 g0 g1 g2
  refine bodyPost_ret (v:=.tuple #[.agg #[.bool y.neg,.slice y.a y.xs.length y.c,.int .i64 y.e],.bool true]) (by simp[results,Tryz.results193,go_sem,s0,s1,s2]) rfl ?_
  rw[HC3.out]
  exact⟨y,rfl,hU.rdD HYo.out.1,rfl,HYo.out.2,hU.2.2.1 _ hkz (by omega)⟩
 obtain⟨r,hr⟩:∃ r,m[i]? = some r:=⟨_,List.getElem?_eq_getElem hlt⟩
 obtain⟨b2,o2,ra,rc,rfl,hrc,hrow,hrl⟩:=HM.out i r hr
 have hrc1:=(HK1.out.trans hkr).cell hrc
 have HRW:=hid (And.intro hrow (vlM_row HVM.out hr))
 have HR:=hid (show contN q (m.drop (i+1)) y.dy (sumN q (r.drop 0) .zero)=D from (nrmN_row hr).symm.trans HN.out)
 have hi1:(0:Int)≤(i:Int):=by omega
 have hi2:(i:Int)<(m.length:Int):=by omega
 have hr8:r.length≤8:=by rw[(vlM_row HVM.out hr).1];exact (vlM_iff.1 HVM.out).2.1.2
 have Hin:=hid (And.intro hin hlt)
 clear hr hrc hrow hrl hin
 go_upto_region 8 with fail
 clear hrc1
 obtain⟨V,hV⟩:∃ x:World,x=wr:=⟨_,rfl⟩
 subst hV
 generalize hW3:V.alloc _=W3 at *
 have hk3:Kp V W3:=hW3▸(Kp.refl V).alloc _
 have hS3:BoxD W3 V.heap.size rdZero:=by rw[← hW3];exact Box3.new _ _ _ _ _
 clear hW3
 obtain⟨gk1,hgk1⟩:∃ x:Nat,x=gk:=⟨_,rfl⟩
 subst hgk1
 have HKR:=hid hkr
 have HYr:=hid hYr
 clear hkr hYr
 go_wp2_with fail
 go_loopg [33] r.length (fun n v wr=>∃ (k:Nat) (s:RD),k+n=r.length∧v=.int .i64 (k:Int)∧Kp V wr∧BoxD wr V.heap.size s∧s.ok wr∧contN q (m.drop (i+1)) y.dy (sumN q (r.drop k) s.dy)=D)
 case atStart=>exact⟨0,rdZero,by omega,rfl,hk3,hS3,⟨rdZero_rd _,rdZero_vl⟩,HR.out⟩
 case round =>
 obtain⟨k,s,hkn,rfl,hks,hS,hso,hC⟩:=hrel
 have HC:=hid hC
 have HSo:=hid hso
 clear hC hso hS3 hk3
 by_cases hlt2:k<r.length
 rotate_left
 ·have HC2:=hid (show nrmN q (m.drop (i+1)) (if y.dy.iv<s.dy.iv then s.dy else y.dy)=D by
   have hd:r.drop k=[]:=List.drop_eq_nil_of_le (by omega)
   have:=HC.out
   rw[hd] at this
   exact this)
  have hY2:=HYr.out.kp hks
  have hyo:=HYo.out.kp hks
  have hKK:=HKR.out.trans hks
  obtain⟨q0,q1,q2,f0,f1,f2⟩:=id hS
  obtain⟨r0,r1,r2,g0,g1,g2⟩:=id hY2
  go_wp2_with fail
  go_fit (Cmp_raw s y _ HSo.out.1 hyo.1 HSo.out.2 hyo.2)
  rintro e w7 ⟨rfl,k7⟩
  have hS7:=hS.kp k7
  have hY7:=hY2.kp k7
  have Hyo:=hid (hyo.kp k7)
  have HSo7:=hid (HSo.out.kp k7)
  have hK7:=hKK.trans k7
  clear q0 q1 q2 f0 f1 f2 r0 r1 r2 g0 g1 g2 hS hY2 hyo hks hKK k7
  obtain⟨q0,q1,q2,f0,f1,f2⟩:=id hS7
  obtain⟨r0,r1,r2,g0,g1,g2⟩:=id hY7
  by_cases hc:0<cmpZ s.iv y.iv
  rotate_left
  ·have hd:=decide_eq_false hc
   have HC3:=hid (show nrmN q (m.drop (i+1)) y.dy=D by
    have h1:¬ y.dy.iv<s.dy.iv:=fun h=>hc (cmpZ_gt.2 h)
    have:=HC2.out
    rwa [if_neg h1] at this)
   clear hc
   go_wp2_with fail
   go_roundg (gk1-1)
   case rel=>exact⟨i+1,y,by have:=Hin.out;omega,by go_num,hK7,hY7,Hyo.out,HC3.out⟩
   case measure=>have:=Hin.out;omega
  have hd:=decide_eq_true hc
  have HC3:=hid (show nrmN q (m.drop (i+1)) s.dy=D by
   have h1:y.dy.iv<s.dy.iv:=cmpZ_gt.1 hc
   have:=HC2.out
   rwa [if_pos h1] at this)
  clear hc
  go_wp2_with fail
  go_roundg (gk1-1)
  case measure=>have:=Hin.out;omega
  case rel =>
  generalize hW9:(((w7.setCell _ _).setCell _ _).setCell _ _)=W9
  obtain⟨hN,hU⟩:=BoxD.store hY7 s hW9
  exact⟨i+1,s,by have:=Hin.out;omega,by go_num,hU.2.2.1 _ hK7 (Nat.le_refl _),hN,hU.okD HSo7.out,HC3.out⟩
 obtain⟨x,hx⟩:∃ x,r[k]? = some x:=⟨_,List.getElem?_eq_getElem hlt2⟩
 obtain⟨b3,o3,e3,hrd,s0,s1,s2,s3,s4,s5,s6⟩:=(HRW.out.1.kp ((HK1.out.trans HKR.out).trans hks)) k x hx
 subst e3
 have kA:=(Kp.refl wr).alloc (.cells #[.bool x.lo.neg,.slice x.lo.a x.lo.xs.length x.lo.c,.int .i64 x.lo.e,.bool x.hi.neg,.slice x.hi.a x.hi.xs.length x.hi.c,.int .i64 x.hi.e,.bool x.all] 44)
 have Hx:=hid hx
 have HX:=hid (And.intro (hrd.kp kA) (HRW.out.2.2 x (List.mem_of_getElem? hx)))
 have hj1:(0:Int)≤(k:Int):=by omega
 have hj2:(k:Int)<(r.length:Int):=by omega
 have Hkn:=hid (And.intro hkn hlt2)
 have hSA:=hS.kp kA
 have hKA:=hks.trans kA
 clear hx hrd hkn hS hks
 go_upto_region 11 with fail
 clear s0 s1 s2 s3 s4 s5 s6
 generalize hW4:wr.alloc _=W4 at *
 obtain⟨s0,s1,s2,s3,s4,s5,s6⟩:W4.cell? ⟨wr.heap.size,0,none⟩=some (.bool x.lo.neg)∧W4.cell? ⟨wr.heap.size,1,none⟩=some (.slice x.lo.a x.lo.xs.length x.lo.c)∧W4.cell? ⟨wr.heap.size,2,none⟩=some (.int .i64 x.lo.e)∧W4.cell? ⟨wr.heap.size,3,none⟩=some (.bool x.hi.neg)∧W4.cell? ⟨wr.heap.size,4,none⟩=some (.slice x.hi.a x.hi.xs.length x.hi.c)∧W4.cell? ⟨wr.heap.size,5,none⟩=some (.int .i64 x.hi.e)∧W4.cell? ⟨wr.heap.size,6,none⟩=some (.bool x.all):=by rw[← hW4];simp
 have kA4:=hid kA
 clear hW4 kA
 go_wp2_with fail
 go_fit (Mag_any x _ HX.out.1 HX.out.2)
 rintro e w5 ⟨z1,rfl,rz,dz,vz,k5⟩
 have kB:=(Kp.refl w5).alloc (.cells #[.bool z1.neg,.slice z1.a z1.xs.length z1.c,.int .i64 z1.e] 38)
 have O1:=hid (show z1.ok (w5.alloc (.cells #[.bool z1.neg,.slice z1.a z1.xs.length z1.c,.int .i64 z1.e] 38)) from ⟨rz.kp kB,vz⟩)
 have D1:=hid dz
 have hSB:=hSA.kp (k5.trans kB)
 have hKB:=hKA.trans (k5.trans kB)
 clear rz dz vz hSA hKA s0 s1 s2 s3 s4 s5 s6
 have HWA:=hid (kA4.out.trans (k5.trans kB))
 go_upto_region 12 with fail
 have SoB:=hid (show s.ok (w5.alloc (.cells #[.bool z1.neg,.slice z1.a z1.xs.length z1.c,.int .i64 z1.e] 38)) from HSo.out.kp HWA.out)
 generalize hW5:w5.alloc _=W5 at *
 obtain⟨m0,m1,m2⟩:W5.cell? ⟨w5.heap.size,0,none⟩=some (.bool z1.neg)∧W5.cell? ⟨w5.heap.size,1,none⟩=some (.slice z1.a z1.xs.length z1.c)∧W5.cell? ⟨w5.heap.size,2,none⟩=some (.int .i64 z1.e):=by rw[← hW5];simp
 clear hW5 kB k5
 cases hxa:x.all with
 | true =>
  have HE:=hid (show D=none from (HC.out.symm.trans (by rw[sumN_all Hx.out hxa];rfl)))
  have hBz:=HB1.out.kp (HKR.out.trans hKB)
  have hkz:=HK1.out.trans (HKR.out.trans hKB)
  clear hSB m0 m1 m2 hKB hxa
  obtain⟨q0,q1,q2,f0,f1,f2⟩:=id hBz
  go_wp2_with fail
  generalize hW9:(((W5.setCell _ _).setCell _ _).setCell _ _)=W9
  obtain⟨⟨s0,s1,s2,_⟩,hU⟩:=BoxD.store hBz rdZero hW9
  clear hW9 q0 q1 q2 f0 f1 f2
  refine bodyPost_ret (v:=.tuple #[.agg #[.bool rdZero.neg,.slice rdZero.a rdZero.xs.length rdZero.c,.int .i64 rdZero.e],.bool false]) (by simp[results,Tryz.results193,go_sem,s0,s1,s2]) rfl ?_
  rw[HE.out]
  exact⟨rdZero,rfl,rdZero_rd _,rfl,rdZero_vl,hU.2.2.1 _ hkz (by omega)⟩
 | false =>
 have Hxa:=hid hxa
 clear hxa
 obtain⟨q0,q1,q2,f0,f1,f2⟩:=id hSB
 go_wp2_with fail
 go_fit (addUp_ok s z1 hq0 hq1 _ SoB.out O1.out (HT.out.kp ((HK1.out.trans HKR.out).trans hKB)))
 rintro e w6 ⟨z2,rfl,rz,dz,vz,k6⟩
 have kC:=(Kp.refl w6).alloc (.cells #[.bool z2.neg,.slice z2.a z2.xs.length z2.c,.int .i64 z2.e] 38)
 have O2:=hid (show z2.ok (w6.alloc (.cells #[.bool z2.neg,.slice z2.a z2.xs.length z2.c,.int .i64 z2.e] 38)) from ⟨rz.kp kC,vz (adP_ok _ _ hq0 hq1 true)⟩)
 have D2:=hid dz
 have hSC:=hSB.kp (k6.trans kC)
 have hKC:=hKB.trans (k6.trans kC)
 clear rz dz vz hSB hKB q0 q1 q2 f0 f1 f2 m0 m1 m2
 go_upto_region 15 with fail
 generalize hW6:w6.alloc _=W6 at *
 obtain⟨m0,m1,m2⟩:W6.cell? ⟨w6.heap.size,0,none⟩=some (.bool z2.neg)∧W6.cell? ⟨w6.heap.size,1,none⟩=some (.slice z2.a z2.xs.length z2.c)∧W6.cell? ⟨w6.heap.size,2,none⟩=some (.int .i64 z2.e):=by rw[← hW6];simp
 clear hW6 kC k6
 by_cases he:(adP s.dy z1.dy q true).2=0
 ·rw[he]
  have HC2:=hid (show contN q (m.drop (i+1)) y.dy (sumN q (r.drop (k+1)) z2.dy)=D by
   rw[D2.out,D1.out,← sumN_next Hx.out Hxa.out (by rw[← D1.out];exact he)];exact HC.out)
  clear he
  obtain⟨q0,q1,q2,f0,f1,f2⟩:=id hSC
  go_wp2_with fail
  go_roundg (gk-1)
  case measure=>have:=Hkn.out;omega
  case rel =>
  generalize hW9:(((W6.setCell _ _).setCell _ _).setCell _ _)=W9
  obtain⟨hN,hU⟩:=BoxD.store hSC z2 hW9
  exact⟨k+1,z2,by have:=Hkn.out;omega,by go_num,hU.2.2.1 _ hKC (Nat.le_refl _),hN,hU.okD O2.out,HC2.out⟩
 have g1:((adP s.dy z1.dy q true).2 != 0)=true:=by rw[bne,beq_eq_false_iff_ne.2 he];rfl
 have g3:((adP s.dy z1.dy q true).2==0)=false:=beq_eq_false_iff_ne.2 he
 have HE:=hid (show D=none from (HC.out.symm.trans (by rw[sumN_err Hx.out Hxa.out (by rw[← D1.out];exact he)];rfl)))
 have hBz:=HB1.out.kp (HKR.out.trans hKC)
 have hkz:=HK1.out.trans (HKR.out.trans hKC)
 clear hSC m0 m1 m2 hKC he
 obtain⟨q0,q1,q2,f0,f1,f2⟩:=id hBz
 go_wp2_with fail
 generalize hW9:(((W6.setCell _ _).setCell _ _).setCell _ _)=W9
 obtain⟨⟨s0,s1,s2,_⟩,hU⟩:=BoxD.store hBz rdZero hW9
 clear hW9 q0 q1 q2 f0 f1 f2
 refine bodyPost_ret (v:=.tuple #[.agg #[.bool rdZero.neg,.slice rdZero.a rdZero.xs.length rdZero.c,.int .i64 rdZero.e],.bool false]) (by simp[results,Tryz.results193,go_sem,s0,s1,s2]) rfl ?_
 rw[HE.out]
 exact⟨rdZero,rfl,rdZero_rd _,rfl,rdZero_vl,hU.2.2.1 _ hkz (by omega)⟩
theorem Below.both {B:Nat} {a w:World} (h:Below B a w) (p:Addr) (v:Value):Below B (a.setCell p v) (w.setCell p v):=by
 have h1:=Below.setCell (Below.refl 0 a) (p:=p) (Nat.zero_le _) v
 have h2:=Below.setCell (Below.refl 0 w) (p:=p) (Nat.zero_le _) v
 refine⟨h2.os.trans (h.os.trans h1.os.symm),h2.tape.trans (h.tape.trans h1.tape.symm),h2.output.trans (h.output.trans h1.output.symm),by simpa using h.size,fun k hk=>?_⟩
 by_cases e:k=p.block
 ·subst e
  have hb:=h.block p.block hk
  unfold World.setCell
  simp only[Array.getElem?_modify,hb]
 rw[Below.heap_setCell w p v k e,Below.heap_setCell a p v k e];exact h.block k hk
theorem Kp.both {a w:World} (h:Kp a w) (p:Addr) (v:Value):Kp (a.setCell p v) (w.setCell p v):=by
 have:=Below.both h p v
 unfold Kp
 simpa using this
theorem RD.rd.set {w:World} {x:RD} (h:x.rd w) {p:Addr} {u:Value} (hc:w.cell? p=some u) (hu:NoU u) (v:Value):x.rd (w.setCell p v):=⟨h.1.other hc hu,h.2⟩
theorem RI.rd.set {w:World} {x:RI} (h:x.rd w) {p:Addr} {u:Value} (hc:w.cell? p=some u) (hu:NoU u) (v:Value):x.rd (w.setCell p v):=⟨RD.rd.set h.1 hc hu v,RD.rd.set h.2 hc hu v⟩
theorem OwnE.set {wb w:World} {v:Value} {zs:List RD} (h:OwnE wb w v zs) {b i:Nat} {u:Value} (hb:b<wb.heap.size) (hc:w.cell? ⟨b,i,none⟩=some u) (hu:NoU u) (y:Value):OwnE (wb.setCell ⟨b,i,none⟩ y) (w.setCell ⟨b,i,none⟩ y) v zs:=by
 obtain⟨h1,h2,h3,h4⟩:=h
 have hv:v.ownBlock≠some b:=fun e=>by have:=(h2.lt b e).1;omega
 refine⟨h1.both _ _,?_,fun g hg j z hz=>?_,fun x hx=>RD.rd.set (h4 x hx) hc hu y⟩
 ·have:=ownsRow_setCell_other h2 (a:=⟨b,i,none⟩) hv y
  simpa using this
 rw[cell_set_ne (fun e=>by injection e with e1;subst e1;exact hv hg)] at hz
 exact h3 g hg j z hz
def RowDs (S:Nat) (w:World) (a:Option Addr) (zs:List RD):Prop:=RowD w a zs∧∀ p,a=some p→S≤p.block
theorem RowDs.kp {S:Nat} {w w':World} {a:Option Addr} {zs:List RD} (h:RowDs S w a zs) (k:Kp w w'):RowDs S w' a zs:=⟨h.1.kp k,h.2⟩
theorem RowDs.set {S:Nat} {w:World} {a:Option Addr} {zs:List RD} (h:RowDs S w a zs) {b i:Nat} {u:Value} (hb:b<S) (hc:w.cell? ⟨b,i,none⟩=some u) (hu:NoU u) (y:Value):RowDs S (w.setCell ⟨b,i,none⟩ y) a zs:=by
 refine⟨fun j x hj=>?_,h.2⟩
 obtain⟨g,o,e,hr,h0,h1,h2⟩:=h.1 j x hj
 have hg:S≤g:=h.2 _ e
 have d (k:Nat):(⟨b,i,none⟩:Addr)≠⟨g,k,none⟩:=fun e=>by injection e with e1;omega
 refine⟨g,o,e,RD.rd.set hr hc hu y,?_,?_,?_⟩ <;> (rw[cell_set_ne (d _)];assumption)
theorem RowDs.far {S:Nat} {w w':World} {v:Value} {a:Option Addr} {r:List RD} (h:RowDs S w a r) (hg:w.grownBy w' v.ownBlock) (hn:AllC NoU w v) (ho:Off v a w):RowDs S w' a r:=by
 refine⟨fun i x hi=>?_,h.2⟩
 obtain⟨b,o,e,hr,h0,h1,h2⟩:=h.1 i x hi
 obtain⟨hne,_⟩:=ho _ e
 have hne':∀ j,some (⟨b,j,none⟩:Addr).block≠v.ownBlock:=fun j e=>hne e.symm
 exact⟨b,o,e,hr.far hg hn,hg.cell h0 (hne' _),hg.cell h1 (hne' _),hg.cell h2 (hne' _)⟩
def RowNs (S:Nat) (w:World) (a:Option Addr) (m:List (List RD)):Prop :=
 ∀ (i:Nat) (r:List RD),m[i]? = some r→∃ b o ra rc,a=some ⟨b,o,none⟩∧S≤b∧w.cell? ⟨b,o+i,none⟩=some (.slice ra r.length rc)∧RowDs S w ra r∧r.length≤1100000
theorem RowNs.row {S:Nat} {w:World} {a:Option Addr} {m:List (List RD)} (h:RowNs S w a m):RowN w a m:=fun i r hi=>by
 obtain⟨b,o,ra,rc,e,_,hc,hr,hl⟩:=h i r hi
 exact⟨b,o,ra,rc,e,hc,hr.1,hl⟩
theorem RowNs.kp {S:Nat} {w w':World} {a:Option Addr} {m:List (List RD)} (h:RowNs S w a m) (k:Kp w w'):RowNs S w' a m:=fun i r hi=>by
 obtain⟨b,o,ra,rc,e,hs,hc,hr,hl⟩:=h i r hi
 exact⟨b,o,ra,rc,e,hs,k.cell hc,hr.kp k,hl⟩
theorem RowNs.set {S:Nat} {w:World} {a:Option Addr} {m:List (List RD)} (h:RowNs S w a m) {b i:Nat} {u:Value} (hb:b<S) (hc:w.cell? ⟨b,i,none⟩=some u) (hu:NoU u) (y:Value):RowNs S (w.setCell ⟨b,i,none⟩ y) a m:=fun j r hj=>by
 obtain⟨g,o,ra,rc,e,hs,hq,hr,hl⟩:=h j r hj
 refine⟨g,o,ra,rc,e,hs,?_,RowDs.set hr hb hc hu y,hl⟩
 rw[cell_set_ne (fun e=>by injection e with e1;omega)];exact hq
def OwnX (S:Nat) (wb w:World) (v:Value) (us:List Value) (R:List (List RD)):Prop :=
 (Kp wb w∧S≤wb.heap.size)∧w.ownsRow wb.heap.size 22 1 v us.length us∧AllC NoU w v∧us.length=R.length ∧
 ∀ (i:Nat) (r:List RD),R[i]? = some r→r.length≤1100000∧∃ ra rc,us[i]? = some (Value.slice ra r.length rc)∧RowDs S w ra r∧Off v ra w
theorem OwnX.nil {S:Nat} {wb w:World} (k:Kp wb w) (hS:S≤wb.heap.size):OwnX S wb w (.slice none 0 0) [] []:=⟨⟨k,hS⟩,World.ownsRow_nil _ _ _ _,AllC.nil _ _,rfl,fun i r h=>by simp at h⟩
theorem OwnX.kp {S:Nat} {wb w w':World} {v:Value} {us:List Value} {R:List (List RD)} (h:OwnX S wb w v us R) (k:Kp w w'):OwnX S wb w' v us R:=by
 obtain⟨h1,h2,h3,h4,h5⟩:=h
 refine⟨⟨h1.1.trans k,h1.2⟩,Kp.owns h2 k,h3.kp h2 k,h4,fun i r hi=>?_⟩
 obtain⟨q1,ra,rc,q2,q3,q4⟩:=h5 i r hi
 exact⟨q1,ra,rc,q2,q3.kp k,q4.kp k.size⟩
theorem OwnX.set {S:Nat} {wb w:World} {v:Value} {us:List Value} {R:List (List RD)} (h:OwnX S wb w v us R) {b i:Nat} {u:Value} (hb:b<S) (hc:w.cell? ⟨b,i,none⟩=some u) (hu:NoU u) (y:Value):OwnX S (wb.setCell ⟨b,i,none⟩ y) (w.setCell ⟨b,i,none⟩ y) v us R:=by
 obtain⟨h1,h2,h3,h4,h5⟩:=h
 have hv:v.ownBlock≠some b:=fun e=>by have:=(h2.lt b e).1;have:=h1.2;omega
 refine⟨⟨h1.1.both _ _,by simpa using h1.2⟩,?_,fun g hg j z hz=>?_,h4,fun j r hj=>?_⟩
 ·have:=ownsRow_setCell_other h2 (a:=⟨b,i,none⟩) hv y
  simpa using this
 ·rw[cell_set_ne (fun e=>by injection e with e1;subst e1;exact hv hg)] at hz
  exact h3 g hg j z hz
 obtain⟨q1,ra,rc,q2,q3,q4⟩:=h5 j r hj
 exact⟨q1,ra,rc,q2,q3.set hb hc hu y,q4.kp (by simp)⟩
theorem OwnX.value {S:Nat} {wb w:World} {v:Value} {us:List Value} {R:List (List RD)} (h:OwnX S wb w v us R):∃ a c,v=.slice a R.length c∧R.length≤c∧c≤maxLen∧RowNs S w a R:=by
 obtain⟨h1,⟨h2,h3⟩,h6,h4,h5⟩:=h
 rcases h3 with ⟨rfl,h3⟩ | ⟨g,cap,cur,rfl,hb,hg,hn,hc,hs,ht⟩
 ·have h0:R=[]:=List.length_eq_zero_iff.1 (by omega)
  subst h0
  exact⟨none,0,rfl,Nat.le_refl _,by decide,fun i x hi=>by simp at hi⟩
 rw[h4]
 refine⟨_,_,rfl,by omega,hc,fun i r hi=>?_⟩
 obtain⟨q1,ra,rc,q2,q3,q4⟩:=h5 i r hi
 have hil:i<us.length:=(List.getElem?_eq_some_iff.1 q2).1
 refine⟨g,0,ra,rc,rfl,by have:=h1.2;omega,?_,q3,q1⟩
 rw[Nat.zero_add,cell_of_row w g _ cur _ _ hg]
 have h7:(cur.toList.take (us.length*1))[i]? = some (.slice ra r.length rc):=by rw[ht];exact q2
 rw[List.getElem?_take,if_pos (by omega)] at h7
 simpa using h7
theorem OwnX.new {S:Nat} {wb w:World} {v:Value} {us:List Value} {R:List (List RD)} (h:OwnX S wb w v us R):∀ g,v.ownBlock=some g→g<w.heap.size:=fun g hg=>(h.2.1.lt g hg).2
theorem OwnE.new {wb w:World} {v:Value} {zs:List RD} (h:OwnE wb w v zs):∀ g,v.ownBlock=some g→g<w.heap.size:=fun g hg=>(h.2.1.lt g hg).2
theorem OwnE.row {S:Nat} {wo w:World} {v u:Value} {zs:List RD} {a:Option Addr} {n c:Nat} (h:OwnE wo w v zs) (hS:S≤wo.heap.size) (hv:v=.slice a n c) (hr:RowD w a zs) (hu:∀ g,u.ownBlock=some g→g<wo.heap.size):RowDs S w a zs∧Off u a w:=by
 subst hv
 have hl:=h.new
 obtain⟨_,⟨_,hq⟩,_⟩:=h
 rcases hq with ⟨e,_⟩ | ⟨b,cap,cu,e,hb,_⟩
 ·cases e
  exact⟨⟨hr,fun p hp=>by cases hp⟩,fun p hp=>by cases hp⟩
 cases e
 have:=hl b rfl
 refine⟨⟨hr,fun p hp=>?_⟩,fun p hp=>?_⟩
 ·cases hp;exact Nat.le_trans hS hb
 cases hp
 exact⟨fun e=>by have h9:b<wo.heap.size:=hu _ e;omega,by show b<_;omega⟩
def HasD (w0 w:World) (g:Nat) (z:RD) (d:Dy):Prop:=(w.cell? ⟨g,0,none⟩=some (.bool z.neg)∧w.cell? ⟨g,1,none⟩=some (.slice z.a z.xs.length z.c)∧w.cell? ⟨g,2,none⟩=some (.int .i64 z.e))∧z.ok w∧z.dy=d∧Kp w0 w∧w0.heap.size≤g
theorem HasD.kp {w0 w w':World} {g:Nat} {z:RD} {d:Dy} (h:HasD w0 w g z d) (k:Kp w w'):HasD w0 w' g z d :=
 ⟨keep3 k h.1,h.2.1.kp k,h.2.2.1,h.2.2.2.1.trans k,h.2.2.2.2⟩
theorem hasD_alloc {w0 w:World} {z:RD} {d:Dy} (hz:z.ok w) (hd:z.dy=d) (k:Kp w0 w) (t:TypeId):HasD w0 (w.alloc (.cells #[.bool z.neg,.slice z.a z.xs.length z.c,.int .i64 z.e] t)) w.heap.size z d :=
 ⟨by simp,hz.kp ((Kp.refl w).alloc _),hd,k.alloc _,k.size⟩
theorem hasD_store {w0 w:World} {g:Nat} {y0 y1 y2:Value} (hB:Box3 w g y0 y1 y2) (n0:∀ n:Int,y0≠.int .u32 n) (n1:∀ n:Int,y1≠.int .u32 n) (n2:∀ n:Int,y2≠.int .u32 n)
  {z:RD} {d:Dy} (hz:z.ok w) (hd:z.dy=d) (k:Kp w0 w) (hg:w0.heap.size≤g) :
  HasD w0 (((w.setCell ⟨g,0,none⟩ (.bool z.neg)).setCell ⟨g,1,none⟩ (.slice z.a z.xs.length z.c)).setCell ⟨g,2,none⟩ (.int .i64 z.e)) g z d:=by
 obtain⟨s0,s1,s2,_,s4,s5,_,_⟩:=stored hB.1 hB.2.1 hB.2.2.1 n0 n1 n2 (.bool z.neg) (.slice z.a z.xs.length z.c) (.int .i64 z.e)
 exact⟨⟨s0,s1,s2⟩,⟨⟨s4 _ _ hz.1.1,hz.1.2⟩,hz.2⟩,hd,s5 _ k hg,hg⟩
theorem set33x {w:World} {g b o b2 o2:Nat} (n:b≠g) (n2:b2≠g) {v0 v1 v2 v3 v4 v5 x0 x1 x2:Value}
  (h:(w.cell? ⟨b,o,none⟩=some v0∧w.cell? ⟨b,o+1,none⟩=some v1∧w.cell? ⟨b,o+2,none⟩=some v2)∧w.cell? ⟨b2,o2,none⟩=some v3∧w.cell? ⟨b2,o2+1,none⟩=some v4∧w.cell? ⟨b2,o2+2,none⟩=some v5) :
  (fun W:World=>(W.cell? ⟨b,o,none⟩=some v0∧W.cell? ⟨b,o+1,none⟩=some v1∧W.cell? ⟨b,o+2,none⟩=some v2)∧W.cell? ⟨b2,o2,none⟩=some v3∧W.cell? ⟨b2,o2+1,none⟩=some v4∧W.cell? ⟨b2,o2+2,none⟩=some v5)
   (((w.setCell ⟨g,0,none⟩ x0).setCell ⟨g,1,none⟩ x1).setCell ⟨g,2,none⟩ x2):=by
 have ne (i j:Nat):(⟨g,i,none⟩:Addr)≠⟨b,j,none⟩:=fun e=>n (by injection e with e1;exact e1.symm)
 have ne2 (i j:Nat):(⟨g,i,none⟩:Addr)≠⟨b2,j,none⟩:=fun e=>n2 (by injection e with e1;exact e1.symm)
 have key (j:Nat):(((w.setCell ⟨g,0,none⟩ x0).setCell ⟨g,1,none⟩ x1).setCell ⟨g,2,none⟩ x2).cell? ⟨b,j,none⟩=w.cell? ⟨b,j,none⟩:=by
  rw[cell_set_ne (ne 2 j),cell_set_ne (ne 1 j),cell_set_ne (ne 0 j)]
 have key2 (j:Nat):(((w.setCell ⟨g,0,none⟩ x0).setCell ⟨g,1,none⟩ x1).setCell ⟨g,2,none⟩ x2).cell? ⟨b2,j,none⟩=w.cell? ⟨b2,j,none⟩:=by
  rw[cell_set_ne (ne2 2 j),cell_set_ne (ne2 1 j),cell_set_ne (ne2 0 j)]
 simp only[key,key2]
 exact h
theorem vl_snocD {W:List RD} {s:RD} (h:∀ y∈W,y.vl=true) (hs:s.vl=true):∀ y∈W++[s],y.vl=true:=by
 intro y hy
 rcases List.mem_append.1 hy with h1 | h1
 ·exact h y h1
 simp only[List.mem_singleton] at h1;subst h1;exact hs
end Go.Proofs.YtbhmhfnfceakoaaGreatDoor
