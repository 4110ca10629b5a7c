/-
  Walks: slices.Equal at operations, at numbers.
-/
import Derived.Deep.QuietTactic
import Derived.BigQuiet
import Derived.Test.YteidgoldnllabaaGreatDoorTTpoN
set_option maxHeartbeats 4000000
namespace Go.Proofs.YteidgoldnllabaaGreatDoor
open Go.RowKit Go.Sort
theorem eq_at {α:Type} {zs ys:List α} (hl:zs.length=ys.length) (h:∀ (i:Nat) (x y:α),zs[i]? = some x→ys[i]? = some y→x=y):zs=ys:=by
 refine List.ext_getElem? fun i=>?_
 rcases Nat.lt_or_ge i zs.length with hi | hi
 ·obtain⟨x,hx⟩:∃ x,zs[i]? = some x:=⟨_,List.getElem?_eq_getElem hi⟩
  obtain⟨y,hy⟩:∃ y,ys[i]? = some y:=⟨_,List.getElem?_eq_getElem (by omega)⟩
  rw[hx,hy,h i x y hx hy]
 rw[List.getElem?_eq_none hi,List.getElem?_eq_none (by omega)]
theorem opn_ext {x y:Opn} (h1:x.k=y.k) (h2:x.a=y.a) (h3:x.b=y.b) (h4:x.n=y.n) (h5:x.cn=y.cn) (h6:x.cd=y.cd):x=y:=by
 cases x;cases y;simp only at h1 h2 h3 h4 h5 h6;subst h1 h2 h3 h4 h5 h6;rfl
theorem opn_ne {x y:Opn} (h:¬ x=y):¬ x.k=y.k∨(x.k=y.k∧(¬ x.a=y.a∨(x.a=y.a∧(¬ x.b=y.b∨(x.b=y.b∧(¬ x.n=y.n∨(x.n=y.n∧(¬ x.cn=y.cn∨(x.cn=y.cn∧¬ x.cd=y.cd))))))))):=by
 by_cases h1:x.k=y.k
 ·by_cases h2:x.a=y.a
  ·by_cases h3:x.b=y.b
   ·by_cases h4:x.n=y.n
    ·by_cases h5:x.cn=y.cn
     ·exact .inr ⟨h1,.inr ⟨h2,.inr ⟨h3,.inr ⟨h4,.inr ⟨h5,fun h6=>h (opn_ext h1 h2 h3 h4 h5 h6)⟩⟩⟩⟩⟩
     exact .inr ⟨h1,.inr ⟨h2,.inr ⟨h3,.inr ⟨h4,.inl h5⟩⟩⟩⟩
    exact .inr ⟨h1,.inr ⟨h2,.inr ⟨h3,.inl h4⟩⟩⟩
   exact .inr ⟨h1,.inr ⟨h2,.inl h3⟩⟩
  exact .inr ⟨h1,.inl h2⟩
 exact .inl h1
theorem eqop_any (a a':Option Addr) (zs ys:List Opn) (c d B B':Nat) (w:World) (hm:zs.length≤1100000) (_hm2:ys.length≤1100000) (h:RowV Opn.cells 6 w B a zs) (h':RowV Opn.cells 6 w B' a' ys) :
  Calls Tryz.prog 59 #[.slice a zs.length c,.slice a' ys.length d] w fun e w'=>e=.returned (.bool (decide (zs=ys)))∧Kp w w':=by
 have HR:=Lib.hid h
 have HR':=Lib.hid h'
 clear h h'
 by_cases hlen:zs.length=ys.length
 rotate_left
 ·have hle:((zs.length:Int) != (ys.length:Int))=true:=bne_iff_ne.2 (by omega)
  have Ha:=Lib.hid (show decide (zs=ys)=false from decide_eq_false fun e=>hlen (by rw[e]))
  rw[Ha.out]
  clear hlen
  go_enter Tryz.func59,Tryz.ntmps59
  go_wp2
  go_ret
  exact⟨ret_bool rfl,.refl _⟩
 obtain⟨b0,hb0⟩:∃ b0,decide (zs=ys)=b0:=⟨_,rfl⟩
 rw[hb0]
 have HB:=Lib.hid hb0
 clear hb0
 go_enter Tryz.func59,Tryz.ntmps59
 have Hlen:=Lib.hid hlen
 have hle:((zs.length:Int) != (ys.length:Int))=false:=by rw[hlen];simp
 generalize hn:zs.length=n at *
 generalize hn':ys.length=n' at *
 have Hn:=Lib.hid hn
 have Hn':=Lib.hid hn'
 clear hlen hn hn'
 go_wp2
 go_loopw [13] (fun x wr=>∃ k:Nat,k≤n∧x=.int .i64 k∧(∀ (i:Nat) (x y:Opn),zs[i]? = some x→ys[i]? = some y→i<k→x=y)∧Kp w wr) (fun x _=>n-(intOf x).toNat)
 case atStart=>exact⟨0,by omega,rfl,fun i x y _ _ h1=>by omega,.refl _⟩
 case round =>
 obtain⟨k,hk,rfl,hz,hkp⟩:=hrel
 have Hz:=Lib.hid hz;clear hz
 by_cases hlt:k<n
 rotate_left
 ·have Ha:=Lib.hid (show b0=true by
   rw[← HB.out]
   refine decide_eq_true (eq_at (Hn.out.trans (Hlen.out.trans Hn'.out.symm)) fun i x y hx hy=>Hz.out i x y hx hy ?_)
   have:=(List.getElem?_eq_some_iff.1 hx).1
   have:=Hn.out
   omega)
  have Hkp:=Lib.hid hkp
  clear hkp
  go_wp2
  go_ret
  exact⟨ret_bool (by rw[Ha.out]),Hkp.out⟩
 have hlt2:k<n':=by have:=Hlen.out;omega
 obtain⟨x,hx⟩:∃ x,zs[k]? = some x:=⟨_,List.getElem?_eq_getElem (by rw[Hn.out];exact hlt)⟩
 obtain⟨y,hy⟩:∃ y,ys[k]? = some y:=⟨_,List.getElem?_eq_getElem (by rw[Hn'.out];exact hlt2)⟩
 obtain⟨b,o,rfl,_,h0⟩:=(HR.out.kp hkp) k x hx
 obtain⟨b2,o2,rfl,_,j0⟩:=(HR'.out.kp hkp) k y hy
 have Hg:=Lib.hid hx
 have Hg2:=Lib.hid hy
 have Hkp:=Lib.hid hkp
 have q0:wr.cell? ⟨b,o+k*6,none⟩=some (.int .i64 x.k):=h0 0 _ rfl
 have q1:=h0 1 _ rfl
 have q2:=h0 2 _ rfl
 have q3:=h0 3 _ rfl
 have q4:=h0 4 _ rfl
 have q5:=h0 5 _ rfl
 have s0:wr.cell? ⟨b2,o2+k*6,none⟩=some (.int .i64 y.k):=j0 0 _ rfl
 have s1:=j0 1 _ rfl
 have s2:=j0 2 _ rfl
 have s3:=j0 3 _ rfl
 have s4:=j0 4 _ rfl
 have s5:=j0 5 _ rfl
 clear h0 j0 hx hy hkp
 by_cases hq:x=y
 ·subst hq
  go_upto_region 6 with fail
  go_quiet (fail)
  go_wp2
  go_roundw
  case measure=>simp[intOf];omega
  case rel =>
  refine⟨k+1,by omega,by go_num,fun i x' y' hx hy hi=>?_,Hkp.out.trans ((Kp.refl wr).drewN _)⟩
  by_cases h:i=k
  ·subst h;rw[Hg.out] at hx;rw[Hg2.out] at hy;cases hx;cases hy;rfl
  exact Hz.out i x' y' hx hy (by omega)
 have Ha:=Lib.hid (show b0=false by
  rw[← HB.out]
  refine decide_eq_false fun e=>hq ?_
  have h1:=Hg.out
  rw[e,Hg2.out] at h1
  injection h1 with h1
  exact h1.symm)
 have Hq:=Lib.hid hq
 clear hq
 rcases opn_ne Hq.out with e1 | ⟨e1,e2 | ⟨e2,e3 | ⟨e3,e4 | ⟨e4,e5 | ⟨e5,e6⟩⟩⟩⟩⟩
 ·have f:(x.k==y.k)=false:=beq_eq_false_iff_ne.2 e1
  clear e1
  go_upto_region 6 with fail
  go_quiet (fail)
  go_wp2
  go_ret
  exact⟨ret_bool (by rw[Ha.out]),Hkp.out.trans ((Kp.refl wr).drewN _)⟩
 ·rw[← e1] at s0;have f:(x.a==y.a)=false:=beq_eq_false_iff_ne.2 e2
  clear e1 e2
  go_upto_region 6 with fail
  go_quiet (fail)
  go_wp2
  go_ret
  exact⟨ret_bool (by rw[Ha.out]),Hkp.out.trans ((Kp.refl wr).drewN _)⟩
 ·rw[← e1] at s0;rw[← e2] at s1;have f:(x.b==y.b)=false:=beq_eq_false_iff_ne.2 e3
  clear e1 e2 e3
  go_upto_region 6 with fail
  go_quiet (fail)
  go_wp2
  go_ret
  exact⟨ret_bool (by rw[Ha.out]),Hkp.out.trans ((Kp.refl wr).drewN _)⟩
 ·rw[← e1] at s0;rw[← e2] at s1;rw[← e3] at s2;have f:(x.n==y.n)=false:=beq_eq_false_iff_ne.2 e4
  clear e1 e2 e3 e4
  go_upto_region 6 with fail
  go_quiet (fail)
  go_wp2
  go_ret
  exact⟨ret_bool (by rw[Ha.out]),Hkp.out.trans ((Kp.refl wr).drewN _)⟩
 ·rw[← e1] at s0;rw[← e2] at s1;rw[← e3] at s2;rw[← e4] at s3;have f:(x.cn==y.cn)=false:=beq_eq_false_iff_ne.2 e5
  clear e1 e2 e3 e4 e5
  go_upto_region 6 with fail
  go_quiet (fail)
  go_wp2
  go_ret
  exact⟨ret_bool (by rw[Ha.out]),Hkp.out.trans ((Kp.refl wr).drewN _)⟩
 rw[← e1] at s0;rw[← e2] at s1;rw[← e3] at s2;rw[← e4] at s3;rw[← e5] at s4;have f:(x.cd==y.cd)=false:=beq_eq_false_iff_ne.2 e6
 clear e1 e2 e3 e4 e5 e6
 go_upto_region 6 with fail
 go_quiet (fail)
 go_wp2
 go_ret
 exact⟨ret_bool (by rw[Ha.out]),Hkp.out.trans ((Kp.refl wr).drewN _)⟩
theorem eqint_any (a a':Option Addr) (zs ys:List Int) (c d B B':Nat) (w:World) (hm:zs.length≤1100000) (_hm2:ys.length≤1100000) (h:RowV numC 1 w B a zs) (h':RowV numC 1 w B' a' ys) :
  Calls Tryz.prog 58 #[.slice a zs.length c,.slice a' ys.length d] w fun e w'=>e=.returned (.bool (decide (zs=ys)))∧Kp w w':=by
 have HR:=Lib.hid h
 have HR':=Lib.hid h'
 clear h h'
 by_cases hlen:zs.length=ys.length
 rotate_left
 ·have hle:((zs.length:Int) != (ys.length:Int))=true:=bne_iff_ne.2 (by omega)
  have Ha:=Lib.hid (show decide (zs=ys)=false from decide_eq_false fun e=>hlen (by rw[e]))
  rw[Ha.out]
  clear hlen
  go_enter Tryz.func58,Tryz.ntmps58
  go_wp2
  go_ret
  exact⟨ret_bool rfl,.refl _⟩
 obtain⟨b0,hb0⟩:∃ b0,decide (zs=ys)=b0:=⟨_,rfl⟩
 rw[hb0]
 have HB:=Lib.hid hb0
 clear hb0
 go_enter Tryz.func58,Tryz.ntmps58
 have Hlen:=Lib.hid hlen
 have hle:((zs.length:Int) != (ys.length:Int))=false:=by rw[hlen];simp
 generalize hn:zs.length=n at *
 generalize hn':ys.length=n' at *
 have Hn:=Lib.hid hn
 have Hn':=Lib.hid hn'
 clear hlen hn hn'
 go_wp2
 go_loopw [13] (fun x wr=>∃ k:Nat,k≤n∧x=.int .i64 k∧(∀ (i:Nat) (x y:Int),zs[i]? = some x→ys[i]? = some y→i<k→x=y)∧Kp w wr) (fun x _=>n-(intOf x).toNat)
 case atStart=>exact⟨0,by omega,rfl,fun i x y _ _ h1=>by omega,.refl _⟩
 case round =>
 obtain⟨k,hk,rfl,hz,hkp⟩:=hrel
 have Hz:=Lib.hid hz;clear hz
 by_cases hlt:k<n
 rotate_left
 ·have Ha:=Lib.hid (show b0=true by
   rw[← HB.out]
   refine decide_eq_true (eq_at (Hn.out.trans (Hlen.out.trans Hn'.out.symm)) fun i x y hx hy=>Hz.out i x y hx hy ?_)
   have:=(List.getElem?_eq_some_iff.1 hx).1
   have:=Hn.out
   omega)
  have Hkp:=Lib.hid hkp
  clear hkp
  go_wp2
  go_ret
  exact⟨ret_bool (by rw[Ha.out]),Hkp.out⟩
 have hlt2:k<n':=by have:=Hlen.out;omega
 obtain⟨x,hx⟩:∃ x,zs[k]? = some x:=⟨_,List.getElem?_eq_getElem (by rw[Hn.out];exact hlt)⟩
 obtain⟨y,hy⟩:∃ y,ys[k]? = some y:=⟨_,List.getElem?_eq_getElem (by rw[Hn'.out];exact hlt2)⟩
 obtain⟨b,o,rfl,_,h0⟩:=(HR.out.kp hkp) k x hx
 obtain⟨b2,o2,rfl,_,j0⟩:=(HR'.out.kp hkp) k y hy
 have Hg:=Lib.hid hx
 have Hg2:=Lib.hid hy
 have Hkp:=Lib.hid hkp
 have q0:wr.cell? ⟨b,o+k*1,none⟩=some (.int .i64 x):=h0 0 _ rfl
 have s0:wr.cell? ⟨b2,o2+k*1,none⟩=some (.int .i64 y):=j0 0 _ rfl
 clear h0 j0 hx hy hkp
 rw[Nat.mul_one] at q0 s0
 by_cases hq:x=y
 ·subst hq
  go_upto_region 6 with fail
  go_quiet (fail)
  go_wp2
  go_roundw
  case measure=>simp[intOf];omega
  case rel =>
  refine⟨k+1,by omega,by go_num,fun i x' y' hx hy hi=>?_,Hkp.out.trans ((Kp.refl wr).drewN _)⟩
  by_cases h:i=k
  ·subst h;rw[Hg.out] at hx;rw[Hg2.out] at hy;cases hx;cases hy;rfl
  exact Hz.out i x' y' hx hy (by omega)
 have Ha:=Lib.hid (show b0=false by
  rw[← HB.out]
  refine decide_eq_false fun e=>hq ?_
  have h1:=Hg.out
  rw[e,Hg2.out] at h1
  injection h1 with h1
  exact h1.symm)
 have Hq:=Lib.hid hq
 clear hq
 have f:(x==y)=false:=beq_eq_false_iff_ne.2 Hq.out
 have f2:(x != y)=true:=bne_iff_ne.2 Hq.out
 go_upto_region 6 with fail
 go_quiet (fail)
 go_wp2
 go_ret
 exact⟨ret_bool (by rw[Ha.out]),Hkp.out.trans ((Kp.refl wr).drewN _)⟩
end Go.Proofs.YteidgoldnllabaaGreatDoor
