/-
  Walks: dyadic.Int of any small integer; ratio.Enclose.
-/
import Derived.Deep.CutRange
import Derived.Deep.DeepFit
import Derived.Deep.RegionHeld3
import Derived.Test.YteidgoldnllabaaGreatDoorTCmpR
import Derived.Test.YteidgoldnllabaaGreatDoorTEqfR
import Derived.Test.YteidgoldnllabaaGreatDoorTAwk4
import Derived.Test.YteidgoldnllabaaGreatDoorTIncP
import Derived.Test.YteidgoldnllabaaGreatDoorTKnuE
set_option maxHeartbeats 8000000
set_option maxRecDepth 100000
namespace Go.Proofs.YteidgoldnllabaaGreatDoor
open Go.RowKit
open Lib (hid)
theorem zIntP_any (n:Nat) (w:World) (hn:n≤1073741824) (hT:Tab w) :
  Calls Tryz.prog 223 #[.int .i64 n] w (DyOut w (canon false n 0)):=by
 have hB:=Box3.new w (.bool false) (.slice none 0 0) (.int .i64 0) 113
 have k0:=(Kp.refl w).alloc (.cells #[.bool false,.slice none 0 0,.int .i64 0] 113)
 have hneg:decide ((n:Int)<0)=false:=decide_eq_false (by omega)
 have h1:(n:Int) % 18446744073709551616=n:=by omega
 have h2:(n:Int) % 4294967296=n:=by omega
 have h3:(n:Int)/4294967296=0:=by omega
 have hT1:=hid (hT.kp k0)
 have hR:=rd_pair (w.alloc (.cells #[.bool false,.slice none 0 0,.int .i64 0] 113)) n 0 (by omega) (by decide) n 0 rfl rfl
 rw[World.size_alloc] at hR
 have hO:=hid (canonical_any false _ [n,0] 2 0 _ hR (by simp) (by unfold maxLen;omega) (by simp) (by decide) (by decide) (hT1.out.kp ((Kp.refl _).alloc _)))
 clear hR
 go_enter Tryz.func223,Tryz.ntmps223
 go_wp2_with fail
 refine hO.out.mono ?_
 rintro e w3 ⟨a3,c3,rfl,r3,l3,m3,k3⟩
 have hkb:=((Kp.refl _).alloc _).trans k3
 obtain⟨q0,q1,q2,f0,f1,f2⟩:=hB.kp hkb
 have hk2:=k0.trans hkb
 rw[show val [n,0]=n from by simp[val]] at r3 l3 ⊢
 generalize canon false n 0=D at *
 have hst:=stored q0 q1 q2 nofun nofun nofun (.bool D.neg) (.slice a3 (limbs D.m).length c3) (.int .i64 D.e)
 go_wp2_with fail
 generalize (((w3.setCell _ _).setCell _ _).setCell _ _)=W at hst ⊢
 obtain⟨s0,s1,s2,_,s4,s5,_,_⟩:=hst
 refine bodyPost_ret (v:=.agg #[.bool D.neg,.slice a3 (limbs D.m).length c3,.int .i64 D.e]) (by simp[results,Tryz.results223,go_sem,s0,s1,s2]) rfl ?_
 exact⟨a3,c3,rfl,s4 _ _ r3,l3,m3,s5 _ hk2 (by omega)⟩
theorem zIntN_any (n:Nat) (w:World) (h0:0<n) (hn:n≤1073741824) (hT:Tab w) :
  Calls Tryz.prog 223 #[.int .i64 (-(n:Int))] w (DyOut w (canon true n 0)):=by
 have hB:=Box3.new w (.bool false) (.slice none 0 0) (.int .i64 0) 113
 have k0:=(Kp.refl w).alloc (.cells #[.bool false,.slice none 0 0,.int .i64 0] 113)
 have hneg:decide (-(n:Int)<0)=true:=decide_eq_true (by omega)
 have hw:IntKind.u64.wrap (-IntKind.u64.wrap (-(n:Int)))=n:=by
  rw[IntKind.wrap_u64,IntKind.wrap_u64];omega
 have h1:(-(n:Int)) % 18446744073709551616=18446744073709551616-n:=by omega
 have h1b:(-(18446744073709551616-(n:Int))) % 18446744073709551616=n:=by omega
 have h1c:((n:Int)-18446744073709551616) % 18446744073709551616=n:=by omega
 have h1d:(n:Int) % 18446744073709551616=n:=by omega
 have h2:(n:Int) % 4294967296=n:=by omega
 have h3:(n:Int)/4294967296=0:=by omega
 have hT1:=hid (hT.kp k0)
 have hR:=rd_pair (w.alloc (.cells #[.bool false,.slice none 0 0,.int .i64 0] 113)) n 0 (by omega) (by decide) n 0 rfl rfl
 rw[World.size_alloc] at hR
 have hO:=hid (canonical_any true _ [n,0] 2 0 _ hR (by simp) (by unfold maxLen;omega) (by simp) (by decide) (by decide) (hT1.out.kp ((Kp.refl _).alloc _)))
 clear hR
 have hlt:-(n:Int)<0:=by omega
 go_enter Tryz.func223,Tryz.ntmps223
 go_wp2_with fail
 refine hO.out.mono ?_
 rintro e w3 ⟨a3,c3,rfl,r3,l3,m3,k3⟩
 have hkb:=((Kp.refl _).alloc _).trans k3
 obtain⟨q0,q1,q2,f0,f1,f2⟩:=hB.kp hkb
 have hk2:=k0.trans hkb
 rw[show val [n,0]=n from by simp[val]] at r3 l3 ⊢
 generalize canon true n 0=D at *
 have hst:=stored q0 q1 q2 nofun nofun nofun (.bool D.neg) (.slice a3 (limbs D.m).length c3) (.int .i64 D.e)
 go_wp2_with fail
 generalize (((w3.setCell _ _).setCell _ _).setCell _ _)=W at hst ⊢
 obtain⟨s0,s1,s2,_,s4,s5,_,_⟩:=hst
 refine bodyPost_ret (v:=.agg #[.bool D.neg,.slice a3 (limbs D.m).length c3,.int .i64 D.e]) (by simp[results,Tryz.results223,go_sem,s0,s1,s2]) rfl ?_
 exact⟨a3,c3,rfl,s4 _ _ r3,l3,m3,s5 _ hk2 (by omega)⟩
theorem zIntR_any (n:Int) (w:World) (hn:-1073741824≤n∧n≤1073741824) (hT:Tab w) :
   Calls Tryz.prog 223 #[.int .i64 n] w fun e w'=>∃ y:RD,e=.returned (.agg #[.bool y.neg,.slice y.a y.xs.length y.c,.int .i64 y.e])∧(y.ok w'∧y.dy=intD n)∧Kp w w':=by
 have hd : (intD n).ok := (intD_isP (p := 40) (by decide) (by decide) (by have : (2 : Nat) ^ 40 = 1099511627776 := by decide
                                                                          omega)).1
 have key:DyOut w (intD n)=DyOut w (intD n):=rfl
 have h:Calls Tryz.prog 223 #[.int .i64 n] w (DyOut w (intD n)):=by
   by_cases hz:0≤n
   · obtain⟨m,rfl⟩:=Int.eq_ofNat_of_zero_le hz
     have:=zIntP_any m w (by omega) hT
     unfold intD
     rw[decide_eq_false (by omega)]
     exact this
   · obtain⟨m,hm⟩:=Int.eq_ofNat_of_zero_le (show 0≤-n by omega)
     have e:n=-(m:Int):=by omega
     have:=zIntN_any m w (by omega) (by omega) hT
     unfold intD
     rw[decide_eq_true (by omega),e]
     rw[show (-(m:Int)).natAbs=m by omega]
     exact this
 refine h.mono ?_
 rintro e w' ⟨a,c,rfl,r,l,m,k⟩
 exact⟨rdOf (intD n) a c,rfl,⟨⟨rdOf_rd hd r l m,rdOf_vl hd _ _⟩,rdOf_dy _ _ _⟩,k⟩
theorem set2x {w:World} {g b o p:Nat} (n:b≠g) {v0 v1 x0 x1 x2:Value} (h:w.cell? ⟨b,o,none⟩=some v0∧w.cell? ⟨b,p,none⟩=some v1) :
  (((w.setCell ⟨g,0,none⟩ x0).setCell ⟨g,1,none⟩ x1).setCell ⟨g,2,none⟩ x2).cell? ⟨b,o,none⟩=some v0∧(((w.setCell ⟨g,0,none⟩ x0).setCell ⟨g,1,none⟩ x1).setCell ⟨g,2,none⟩ x2).cell? ⟨b,p,none⟩=some v1:=by
 have ne (i j:Nat):(⟨g,i,none⟩:Addr)≠⟨b,j,none⟩:=fun e=>n (by injection e with e1;exact e1.symm)
 have key (j:Nat):(((w.setCell ⟨g,0,none⟩ x0).setCell ⟨g,1,none⟩ x1).setCell ⟨g,2,none⟩ x2).cell? ⟨b,j,none⟩=w.cell? ⟨b,j,none⟩:=by
  rw[cellV_ne (ne 2 j),cellV_ne (ne 1 j),cellV_ne (ne 0 j)]
 simp only[key]
 exact h
def encR (n d:Int) (p:Nat):Dy×Dy×Bool :=
 if (dvP (intD n) (intD d) p false).2=0∧(dvP (intD n) (intD d) p true).2=0 then ((dvP (intD n) (intD d) p false).1,(dvP (intD n) (intD d) p true).1,false) else (.zero,.zero,true)
def EncOut (w:World) (n d:Int) (p:Nat) (e:Ending) (w':World):Prop:=∃ z:RI,e=.returned (.agg #[.bool z.lo.neg,.slice z.lo.a z.lo.xs.length z.lo.c,.int .i64 z.lo.e,.bool z.hi.neg,.slice z.hi.a z.hi.xs.length z.hi.c,.int .i64 z.hi.e,.bool z.all])∧(z.lo.ok w'∧z.hi.ok w')∧(z.lo.dy,z.hi.dy,z.all)=encR n d p∧Kp w w'
theorem enc_any (n d:Int) (p:Nat) (w:World) (hv:ratB n d=true) (h0:8≤p) (h1:p≤512) (hT:Tab w) :
   Calls Tryz.prog 188 #[.agg #[.int .i64 n,.int .i64 d],.int .i64 (p:Int)] w (EncOut w n d p):=by
 have HN:=hid (show -1073741824≤n∧n≤1073741824 from ⟨(ratB_parts hv).2.2.1,(ratB_parts hv).2.2.2⟩)
 have HDn:=hid (show -1073741824≤d∧d≤1073741824 from ⟨by have:=(ratB_parts hv).1;omega,(ratB_parts hv).2.1⟩)
 have HV:=hid fun W'=>rvalid_any n d W'
 rw[hv] at HV
 have H0:=hid h0
 have H1:=hid h1
 have k1:Kp w ((w.alloc (.cells #[.int .i64 n,.int .i64 d] 25)).alloc (.cells #[.bool false,.slice none 0 0,.int .i64 0,.bool false,.slice none 0 0,.int .i64 0,.bool false] 115)):=((Kp.refl w).alloc _).alloc _
 have hA:BoxV ((w.alloc (.cells #[.int .i64 n,.int .i64 d] 25)).alloc (.cells #[.bool false,.slice none 0 0,.int .i64 0,.bool false,.slice none 0 0,.int .i64 0,.bool false] 115)) w.heap.size [.int .i64 n,.int .i64 d]:=(BoxV.new w [_,_] _ _ rfl).kp ((Kp.refl _).alloc _)
 have hB:Var7 ((w.alloc (.cells #[.int .i64 n,.int .i64 d] 25)).alloc (.cells #[.bool false,.slice none 0 0,.int .i64 0,.bool false,.slice none 0 0,.int .i64 0,.bool false] 115)) (w.heap.size+1):=by
   have:=Var7.new (w.alloc (.cells #[.int .i64 n,.int .i64 d] 25)) 115
   rwa [World.size_alloc] at this
 have HD1:=hid fun (W:World) (y x:RD) (oy:y.ok W) (ox:x.ok W) (dy:y.dy=intD n) (dx:x.dy=intD d) (T:Tab W)=>rDivDown_of y x (p:Int) (dvP (intD n) (intD d) p false).1 (dvP (intD n) (intD d) p false).2 W (fun W' k'=>by
   have h:=div_rd y x p false W' (oy.1.kp k') (ox.1.kp k') (T.kp k')
   rw[divB_dy oy ox h0 h1,dy,dx] at h
   exact h)
 have HD2:=hid fun (W:World) (y x:RD) (oy:y.ok W) (ox:x.ok W) (dy:y.dy=intD n) (dx:x.dy=intD d) (T:Tab W)=>rDivUp_of y x (p:Int) (dvP (intD n) (intD d) p true).1 (dvP (intD n) (intD d) p true).2 W (fun W' k'=>by
   have h:=div_rd y x p true W' (oy.1.kp k') (ox.1.kp k') (T.kp k')
   rw[divB_dy oy ox h0 h1,dy,dx] at h
   exact h)
 clear hv h0 h1
 go_enter Tryz.func188,Tryz.ntmps188
 go_upto_region 1 with fail
 generalize World.alloc _ _=W at *
 have q0:=hA.cell 0 rfl
 have q1:=hA.cell 1 rfl
 have HA:=hid hA
 have HB:=hid hB
 have HT:=hid (hT.kp k1)
 have K1:=hid k1
 clear hA hB hT k1
 go_upto_region 3 with (first | (go_at_call 119;go_fit (HV.out _);rintro r w2 ⟨rfl,k2⟩) | fail)
 have HA2:=hid (HA.out.kp k2)
 have HB2:=hid (HB.out.kp k2)
 have HT2:=hid (HT.out.kp k2)
 have HK2:=hid (K1.out.trans k2)
 have HS2:=hid (show w2.cell? ⟨w.heap.size,0,none⟩=some (.int .i64 n)∧w2.cell? ⟨w.heap.size,1,none⟩=some (.int .i64 d) from ⟨HA2.out.cell 0 rfl,HA2.out.cell 1 rfl⟩)
 have HSZ2:=hid HA2.out.2.2
 clear q0 q1 k2 HA HB HT K1 HV
 go_cut [5,6] from 13 to 23 (fun t0 s0 wx=>∃ (b1:Nat) (z:RD),s0=.int .i64 (dvP (intD n) (intD d) p false).2∧t0=.pointer (some ⟨b1,0,none⟩)∧HasD w2 wx b1 z (dvP (intD n) (intD d) p false).1)
 case first =>
   have KJ:=hid (Kp.refl w2).drew
   have KZ:=hid (show Kp w2 (w2.alloc (.cells #[.bool false,.slice none 0 0,.int .i64 0] 113)).drew from ((Kp.refl w2).alloc _).drew)
   have BZ:=hid (show Box3 (w2.alloc (.cells #[.bool false,.slice none 0 0,.int .i64 0] 113)).drew w2.heap.size _ _ _∧w2.heap.size≤w2.heap.size from ⟨Box3.new w2.drew _ _ _ _,Nat.le_refl _⟩)
   have hSd:=keep2 KJ.out HS2.out
   have HSW:=hid (keep2 KZ.out HS2.out)
   go_region_held3 (fun w'=>w'.cell? ⟨w.heap.size,0,none⟩=some (.int .i64 n)∧w'.cell? ⟨w.heap.size,1,none⟩=some (.int .i64 d)) (first | with_reducible assumption | with_reducible exact keep2 (by assumption) (by assumption) | with_reducible exact keep2 ((Kp.refl _).alloc _) (by assumption) | exact set2x (Nat.ne_of_lt (Nat.lt_of_lt_of_le HSZ2.out BF.out.2)) (by assumption) | with_reducible exact HSW.out | fail)
     (first
       | (go_at_call 223; (with_reducible refine (zIntR_any n _ HN.out (HT2.out.kp ?hk)).mono ?_)
          (case hk=>first | with_reducible exact KJ.out | with_reducible exact KJ.out.alloc _ | with_reducible exact KZ.out | fail)
          rintro e v1 ⟨y,rfl,oy,j1⟩
          have OY:=hid oy
          clear oy
          (first | (replace BF:=hid (And.intro (BF.out.1.kp j1) BF.out.2)) | (have BF:=hid (And.intro (BZ.out.1.kp j1) BZ.out.2)) | (have BF:=hid (And.intro ((Box3.new _ (.bool false) (.slice none 0 0) (.int .i64 0) 113).kp j1) KJ.out.size)) | skip)
          (first | (replace KJ:=hid (KJ.out.trans j1)) | (replace KJ:=hid (KZ.out.trans j1)) | (replace KJ:=hid (KJ.out.trans (((Kp.refl _).alloc _).trans j1))) | fail)
          have hSn:=keep2 KJ.out HS2.out)
       | (go_at_call 223; (with_reducible refine (zIntR_any d _ HDn.out (HT2.out.kp ?hk)).mono ?_)
          (case hk=>first | with_reducible exact KJ.out | with_reducible exact KJ.out.alloc _ | with_reducible exact KZ.out | fail)
          rintro e v2 ⟨x,rfl,ox,j1⟩
          have OX:=hid ox
          clear ox
          (try (replace OY:=hid (show y.ok v2∧y.dy=intD n from And.intro (by (first | with_reducible exact OY.out.1.kp j1 | with_reducible exact OY.out.1.kp (((Kp.refl _).alloc _).trans j1))) OY.out.2)))
          (first | (replace BF:=hid (And.intro (BF.out.1.kp j1) BF.out.2)) | (have BF:=hid (And.intro (BZ.out.1.kp j1) BZ.out.2)) | (have BF:=hid (And.intro ((Box3.new _ (.bool false) (.slice none 0 0) (.int .i64 0) 113).kp j1) KJ.out.size)) | skip)
          (first | (replace KJ:=hid (KJ.out.trans j1)) | (replace KJ:=hid (KZ.out.trans j1)) | (replace KJ:=hid (KJ.out.trans (((Kp.refl _).alloc _).trans j1))) | fail)
          have hSn:=keep2 KJ.out HS2.out)
       | (go_at_call 222; (with_reducible refine (HD1.out _ y x ?ho ?hn OY.out.2 OX.out.2 (HT2.out.kp ?hk)).mono ?_)
          case ho=>first | with_reducible exact OY.out.1 | with_reducible exact OY.out.1.kp ((Kp.refl _).alloc _) | fail
          case hn=>first | with_reducible exact OX.out.1 | with_reducible exact OX.out.1.kp ((Kp.refl _).alloc _) | fail
          (case hk=>first | with_reducible exact KJ.out | with_reducible exact KJ.out.alloc _ | with_reducible exact KZ.out | fail)
          rintro e v3 ⟨z,rfl,zr,zd,zv,j1⟩
          have OZ:=hid (And.intro (show z.ok v3 from ⟨zr,zv (dvP_okd H0.out H1.out _)⟩) zd)
          clear zr zd zv
          (first | (replace BF:=hid (And.intro (BF.out.1.kp j1) BF.out.2)) | (have BF:=hid (And.intro (BZ.out.1.kp j1) BZ.out.2)) | (have BF:=hid (And.intro ((Box3.new _ (.bool false) (.slice none 0 0) (.int .i64 0) 113).kp j1) KJ.out.size)) | skip)
          (first | (replace KJ:=hid (KJ.out.trans j1)) | (replace KJ:=hid (KZ.out.trans j1)) | (replace KJ:=hid (KJ.out.trans (((Kp.refl _).alloc _).trans j1))) | fail)
          have hSn:=keep2 KJ.out HS2.out
          try (obtain⟨q0,q1,q2,f0,f1,f2⟩:=id BF.out.1))
       | fail)
   all_goals
     go_wp2_with fail
     go_meet
     case rel=>first
       | exact⟨_,z,rfl,rfl,hasD_store BF.out.1 nofun nofun nofun OZ.out.1 OZ.out.2 KJ.out BF.out.2⟩
       | exact⟨_,z,rfl,rfl,hasD_alloc OZ.out.1 OZ.out.2 KJ.out _⟩
 case rest =>
 obtain⟨b1,z,rfl,rfl,hD⟩:=hcut
 obtain⟨W3,hW⟩:∃ X:World,X=wc:=⟨_,rfl⟩
 subst hW
 have HZ:=hid hD
 have HA3:=hid (HA2.out.kp hD.2.2.2.1)
 have HB3:=hid (HB2.out.kp hD.2.2.2.1)
 have HT3:=hid (HT2.out.kp hD.2.2.2.1)
 have HK3:=hid (HK2.out.trans hD.2.2.2.1)
 have HS3:=hid (keep2 hD.2.2.2.1 HS2.out)
 have HSZ3:=hid HA3.out.2.2
 clear hD HA2 HB2 HT2 HK2 HS2 HSZ2 HD1
 go_upto_region 4 with fail
 go_cut [7,8] from 24 to 34 (fun t0 s0 wx=>∃ (b1:Nat) (z:RD),s0=.int .i64 (dvP (intD n) (intD d) p true).2∧t0=.pointer (some ⟨b1,0,none⟩)∧HasD W3 wx b1 z (dvP (intD n) (intD d) p true).1)
 case first =>
   have KJ:=hid (Kp.refl W3).drew
   have KZ:=hid (show Kp W3 (W3.alloc (.cells #[.bool false,.slice none 0 0,.int .i64 0] 113)).drew from ((Kp.refl W3).alloc _).drew)
   have BZ:=hid (show Box3 (W3.alloc (.cells #[.bool false,.slice none 0 0,.int .i64 0] 113)).drew W3.heap.size _ _ _∧W3.heap.size≤W3.heap.size from ⟨Box3.new W3.drew _ _ _ _,Nat.le_refl _⟩)
   have hSd:=keep2 KJ.out HS3.out
   have HSW:=hid (keep2 KZ.out HS3.out)
   go_region_held3 (fun w'=>w'.cell? ⟨w.heap.size,0,none⟩=some (.int .i64 n)∧w'.cell? ⟨w.heap.size,1,none⟩=some (.int .i64 d)) (first | with_reducible assumption | with_reducible exact keep2 (by assumption) (by assumption) | with_reducible exact keep2 ((Kp.refl _).alloc _) (by assumption) | exact set2x (Nat.ne_of_lt (Nat.lt_of_lt_of_le HSZ3.out BF.out.2)) (by assumption) | with_reducible exact HSW.out | fail)
     (first
       | (go_at_call 223; (with_reducible refine (zIntR_any n _ HN.out (HT3.out.kp ?hk)).mono ?_)
          (case hk=>first | with_reducible exact KJ.out | with_reducible exact KJ.out.alloc _ | with_reducible exact KZ.out | fail)
          rintro e v1 ⟨y,rfl,oy,j1⟩
          have OY:=hid oy
          clear oy
          (first | (replace BF:=hid (And.intro (BF.out.1.kp j1) BF.out.2)) | (have BF:=hid (And.intro (BZ.out.1.kp j1) BZ.out.2)) | (have BF:=hid (And.intro ((Box3.new _ (.bool false) (.slice none 0 0) (.int .i64 0) 113).kp j1) KJ.out.size)) | skip)
          (first | (replace KJ:=hid (KJ.out.trans j1)) | (replace KJ:=hid (KZ.out.trans j1)) | (replace KJ:=hid (KJ.out.trans (((Kp.refl _).alloc _).trans j1))) | fail)
          have hSn:=keep2 KJ.out HS3.out)
       | (go_at_call 223; (with_reducible refine (zIntR_any d _ HDn.out (HT3.out.kp ?hk)).mono ?_)
          (case hk=>first | with_reducible exact KJ.out | with_reducible exact KJ.out.alloc _ | with_reducible exact KZ.out | fail)
          rintro e v2 ⟨x,rfl,ox,j1⟩
          have OX:=hid ox
          clear ox
          (try (replace OY:=hid (show y.ok v2∧y.dy=intD n from And.intro (by (first | with_reducible exact OY.out.1.kp j1 | with_reducible exact OY.out.1.kp (((Kp.refl _).alloc _).trans j1))) OY.out.2)))
          (first | (replace BF:=hid (And.intro (BF.out.1.kp j1) BF.out.2)) | (have BF:=hid (And.intro (BZ.out.1.kp j1) BZ.out.2)) | (have BF:=hid (And.intro ((Box3.new _ (.bool false) (.slice none 0 0) (.int .i64 0) 113).kp j1) KJ.out.size)) | skip)
          (first | (replace KJ:=hid (KJ.out.trans j1)) | (replace KJ:=hid (KZ.out.trans j1)) | (replace KJ:=hid (KJ.out.trans (((Kp.refl _).alloc _).trans j1))) | fail)
          have hSn:=keep2 KJ.out HS3.out)
       | (go_at_call 224; (with_reducible refine (HD2.out _ y x ?ho ?hn OY.out.2 OX.out.2 (HT3.out.kp ?hk)).mono ?_)
          case ho=>first | with_reducible exact OY.out.1 | with_reducible exact OY.out.1.kp ((Kp.refl _).alloc _) | fail
          case hn=>first | with_reducible exact OX.out.1 | with_reducible exact OX.out.1.kp ((Kp.refl _).alloc _) | fail
          (case hk=>first | with_reducible exact KJ.out | with_reducible exact KJ.out.alloc _ | with_reducible exact KZ.out | fail)
          rintro e v3 ⟨z,rfl,zr,zd,zv,j1⟩
          have OZ:=hid (And.intro (show z.ok v3 from ⟨zr,zv (dvP_okd H0.out H1.out _)⟩) zd)
          clear zr zd zv
          (first | (replace BF:=hid (And.intro (BF.out.1.kp j1) BF.out.2)) | (have BF:=hid (And.intro (BZ.out.1.kp j1) BZ.out.2)) | (have BF:=hid (And.intro ((Box3.new _ (.bool false) (.slice none 0 0) (.int .i64 0) 113).kp j1) KJ.out.size)) | skip)
          (first | (replace KJ:=hid (KJ.out.trans j1)) | (replace KJ:=hid (KZ.out.trans j1)) | (replace KJ:=hid (KJ.out.trans (((Kp.refl _).alloc _).trans j1))) | fail)
          have hSn:=keep2 KJ.out HS3.out
          try (obtain⟨q0,q1,q2,f0,f1,f2⟩:=id BF.out.1))
       | fail)
   all_goals
     go_wp2_with fail
     go_meet
     case rel=>first
       | exact⟨_,z,rfl,rfl,hasD_store BF.out.1 nofun nofun nofun OZ.out.1 OZ.out.2 KJ.out BF.out.2⟩
       | exact⟨_,z,rfl,rfl,hasD_alloc OZ.out.1 OZ.out.2 KJ.out _⟩
 case rest =>
 obtain⟨b2,z2,rfl,rfl,hD⟩:=hcut
 obtain⟨W4,hW⟩:∃ X:World,X=wc:=⟨_,rfl⟩
 subst hW
 have HZ2:=hid hD
 have HY:=hid (HZ.out.kp hD.2.2.2.1)
 have HB4:=hid (HB3.out.kp hD.2.2.2.1)
 have HK4:=hid (HK3.out.trans hD.2.2.2.1)
 clear hD HA3 HB3 HT3 HS3 HSZ3 HD2 HK3 HZ
 have HE:=hid (show encR n d p=if (dvP (intD n) (intD d) p false).2=0∧(dvP (intD n) (intD d) p true).2=0 then ((dvP (intD n) (intD d) p false).1,(dvP (intD n) (intD d) p true).1,false) else (.zero,.zero,true) from rfl)
 generalize (dvP (intD n) (intD d) p false).2=a1 at *
 generalize (dvP (intD n) (intD d) p true).2=a2 at *
 obtain⟨⟨q0,q1,q2,q3,q4,q5,q6⟩,f0,f1,f2,f3,f4,f5,f6⟩:=id HB4.out
 by_cases h1:a1=0
 rotate_left
 · have HE2:=hid (show encR n d p=(.zero,.zero,true) by rw[HE.out,if_neg (fun h=>h1 h.1)])
   have g1:(a1 != 0)=true:=by rw[bne,beq_eq_false_iff_ne.2 h1];rfl
   clear h1
   go_wp2_with fail
   generalize hW9:((((((W4.setCell _ _).setCell _ _).setCell _ _).setCell _ _).setCell _ _).setCell _ _).setCell _ _=W9
   obtain⟨⟨s0,s1,s2,s3,s4,s5,s6⟩,hU⟩:=stored7 (show Box7 W4 _ _ _ _ _ _ _ _ from ⟨q0,q1,q2,q3,q4,q5,q6⟩) nofun nofun nofun nofun nofun nofun nofun _ _ _ _ _ _ _ hW9
   clear hW9 q0 q1 q2 q3 q4 q5 q6 f0 f1 f2 f3 f4 f5 f6
   refine bodyPost_ret (v:=.agg #[.bool (RI.mk rdZero rdZero true).lo.neg,.slice (RI.mk rdZero rdZero true).lo.a (RI.mk rdZero rdZero true).lo.xs.length (RI.mk rdZero rdZero true).lo.c,.int .i64 (RI.mk rdZero rdZero true).lo.e,.bool (RI.mk rdZero rdZero true).hi.neg,.slice (RI.mk rdZero rdZero true).hi.a (RI.mk rdZero rdZero true).hi.xs.length (RI.mk rdZero rdZero true).hi.c,.int .i64 (RI.mk rdZero rdZero true).hi.e,.bool (RI.mk rdZero rdZero true).all]) (by simp[results,Tryz.results188,go_sem,s0,s1,s2,s3,s4,s5,s6,rdZero]) rfl ?_
   exact⟨RI.mk rdZero rdZero true,rfl,⟨⟨rdZero_rd _,rdZero_vl⟩,⟨rdZero_rd _,rdZero_vl⟩⟩,by rw[HE2.out];rfl,hU.2.2.1 _ HK4.out (by omega)⟩
 by_cases h2:a2=0
 rotate_left
 · have HE2:=hid (show encR n d p=(.zero,.zero,true) by rw[HE.out,if_neg (fun h=>h2 h.2)])
   have g2:(a2 != 0)=true:=by rw[bne,beq_eq_false_iff_ne.2 h2];rfl
   clear h2
   subst h1
   go_wp2_with fail
   generalize hW9:((((((W4.setCell _ _).setCell _ _).setCell _ _).setCell _ _).setCell _ _).setCell _ _).setCell _ _=W9
   obtain⟨⟨s0,s1,s2,s3,s4,s5,s6⟩,hU⟩:=stored7 (show Box7 W4 _ _ _ _ _ _ _ _ from ⟨q0,q1,q2,q3,q4,q5,q6⟩) nofun nofun nofun nofun nofun nofun nofun _ _ _ _ _ _ _ hW9
   clear hW9 q0 q1 q2 q3 q4 q5 q6 f0 f1 f2 f3 f4 f5 f6
   refine bodyPost_ret (v:=.agg #[.bool (RI.mk rdZero rdZero true).lo.neg,.slice (RI.mk rdZero rdZero true).lo.a (RI.mk rdZero rdZero true).lo.xs.length (RI.mk rdZero rdZero true).lo.c,.int .i64 (RI.mk rdZero rdZero true).lo.e,.bool (RI.mk rdZero rdZero true).hi.neg,.slice (RI.mk rdZero rdZero true).hi.a (RI.mk rdZero rdZero true).hi.xs.length (RI.mk rdZero rdZero true).hi.c,.int .i64 (RI.mk rdZero rdZero true).hi.e,.bool (RI.mk rdZero rdZero true).all]) (by simp[results,Tryz.results188,go_sem,s0,s1,s2,s3,s4,s5,s6,rdZero]) rfl ?_
   exact⟨RI.mk rdZero rdZero true,rfl,⟨⟨rdZero_rd _,rdZero_vl⟩,⟨rdZero_rd _,rdZero_vl⟩⟩,by rw[HE2.out];rfl,hU.2.2.1 _ HK4.out (by omega)⟩
 have HE2:=hid (show encR n d p=((dvP (intD n) (intD d) p false).1,(dvP (intD n) (intD d) p true).1,false) by rw[HE.out,if_pos ⟨h1,h2⟩])
 subst h1
 subst h2
 obtain⟨c0,c1,c2⟩:=HY.out.1
 obtain⟨d0,d1,d2⟩:=HZ2.out.1
 go_wp2_with fail
 generalize hW9:((((((W4.setCell _ _).setCell _ _).setCell _ _).setCell _ _).setCell _ _).setCell _ _).setCell _ _=W9
 obtain⟨⟨s0,s1,s2,s3,s4,s5,s6⟩,hU⟩:=stored7 (show Box7 W4 _ _ _ _ _ _ _ _ from ⟨q0,q1,q2,q3,q4,q5,q6⟩) nofun nofun nofun nofun nofun nofun nofun _ _ _ _ _ _ _ hW9
 clear hW9 q0 q1 q2 q3 q4 q5 q6 f0 f1 f2 f3 f4 f5 f6
 refine bodyPost_ret (v:=.agg #[.bool (RI.mk z z2 false).lo.neg,.slice (RI.mk z z2 false).lo.a (RI.mk z z2 false).lo.xs.length (RI.mk z z2 false).lo.c,.int .i64 (RI.mk z z2 false).lo.e,.bool (RI.mk z z2 false).hi.neg,.slice (RI.mk z z2 false).hi.a (RI.mk z z2 false).hi.xs.length (RI.mk z z2 false).hi.c,.int .i64 (RI.mk z z2 false).hi.e,.bool (RI.mk z z2 false).all]) (by simp[results,Tryz.results188,go_sem,s0,s1,s2,s3,s4,s5,s6]) rfl ?_
 exact⟨RI.mk z z2 false,rfl,⟨⟨hU.rdD HY.out.2.1.1,HY.out.2.1.2⟩,⟨hU.rdD HZ2.out.2.1.1,HZ2.out.2.1.2⟩⟩,by rw[HE2.out,← HY.out.2.2.1,← HZ2.out.2.2.1],hU.2.2.1 _ HK4.out (by omega)⟩
end Go.Proofs.YteidgoldnllabaaGreatDoor
