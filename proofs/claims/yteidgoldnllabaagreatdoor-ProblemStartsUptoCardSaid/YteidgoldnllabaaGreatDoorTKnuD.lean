/-
  Walks: natural.divide.
-/
import Derived.Test.YteidgoldnllabaaGreatDoorTDotM
set_option maxHeartbeats 8000000
set_option maxRecDepth 100000
namespace Go.Proofs.YteidgoldnllabaaGreatDoor
open Go.RowKit
open Lib (hid)
theorem divide2_any (a b:Option Addr) (xs ys:List Nat) (c d:Nat) (w:World) (hx:Rd w a xs) (hy:Rd w b ys) (hxl:xs.length≤256) (hxc:xs.length≤c) (hyc:ys.length≤d) (hc:c≤maxLen) (hd:d≤maxLen) (h1:2≤(limbs (val ys)).length) (hle:val ys≤val xs) :
  Calls Tryz.prog 292 #[.slice a xs.length c,.slice b ys.length d] w (DivOut w (val xs) (val ys) 256):=by
 have H1:=hid (trim_any a xs c w hx hxc hc)
 have H2:=hid (trim_any b ys d w hy hyc hd)
 have g1:=hx.limbs
 have g2:=hy.limbs
 have hl1:=limbs_len_le hx.lt32
 have hl2:=limbs_len_le hy.lt32
 have hl3:=limbs_length_mono hle
 have Hv1:=hid (val_limbs (val xs))
 have Hv2:=hid (val_limbs (val ys))
 have Ht2:=hid (limbs_top (val ys))
 have H11:=hid h1
 clear h1
 have hcu:(limbs (val xs)).length≤c:=by omega
 have hcv:(limbs (val ys)).length≤d:=by omega
 go_enter Tryz.func292,Tryz.ntmps292
 go_wp2_with fail
 refine H1.out.mono ?_
 rintro e w2 ⟨rfl,rfl⟩
 go_wp2_with fail
 refine H2.out.mono ?_
 rintro e w2 ⟨rfl,rfl⟩
 clear H1 H2 hx hy
 have Hsl:=hid (fun W s (k:Kp w W) (hs:s≤31)=>shl_own a (limbs (val xs)) c s W (g1.kp k) hcu hc (by omega) (by omega))
 have Hsr:=hid (fun W s (k:Kp w W) (hs:s≤31)=>shl_own b (limbs (val ys)) d s W (g2.kp k) hcv hd (by omega) (by omega))
 rw[Hv1.out] at Hsl
 rw[Hv2.out] at Hsr
 have Hml:=hid (val_lt (limbs_lt32 (val xs)))
 rw[Hv1.out] at Hml
 generalize val xs=m at *
 generalize val ys=n at *
 have Hnl:=hid (fun s hs=>norm_len (n:=n) (s:=s) (by have:=H11.out;omega) hs)
 have Hvs:=hid (rfl:limbs n=limbs n)
 generalize limbs m=us at *
 generalize limbs n=vs at *
 have hul:us.length≤256:=by omega
 clear hxl hxc hyc hl1 hl2
 go_wp2_with fail
 refine (cmp_any a b us vs c d _ g1 g2 hcu hcv hc hd).mono ?_
 rw[Hv1.out,Hv2.out]
 rintro e w3 ⟨rfl,hk3⟩
 have hcm:¬ cmpN m n<0:=by
  unfold cmpN;split <;> (try split) <;> omega
 have Hle:=hid hle
 clear hle
 have hlen:((vs.length:Int)==1)=false:=beq_eq_false_iff_ne.2 (by have:=H11.out;omega)
 have hpos:(0:Int)<(vs.length:Int):=by have:=H11.out;omega
 obtain⟨b1,o1,rfl,hcx⟩:=(g2.kp hk3).some (i:=vs.length-1) (by omega)
 have hy0:=hcx (vs.length-1) (by omega)
 have by0:=(g2.lt32).nth (vs.length-1)
 clear hcx
 go_wp2_with fail
 refine (lz32_any _ _ by0).mono ?_
 have hy1:nth vs (vs.length-1)≠0:=top_nth Ht2.out (by omega)
 have hbt:bits (nth vs (vs.length-1))≤32:=bits_le.2 by0
 have hbp:=bits_pos hy1
 obtain⟨s,hs⟩:∃ s,s=32-bits (nth vs (vs.length-1)):=⟨_,rfl⟩
 rw[← hs]
 have Hs:=hid hs
 have hs31:s≤31:=by omega
 clear hs hbt hbp hy1 hy0 by0
 rintro e w4 ⟨rfl,rfl⟩
 have H3:=Hsl.out w3 s hk3 hs31
 rw[show s/32=0 by omega,Nat.zero_add] at H3
 have H3':=hid H3
 clear H3
 go_wp2_with fail
 refine H3'.out.mono ?_
 rintro e w5 ⟨au,cu,u0,rfl,hul0,huv,hown,hk5⟩
 have H4:=Hsr.out w5 s (hk3.trans hk5) hs31
 rw[show s/32=0 by omega,Nat.zero_add] at H4
 have H4':=hid H4
 clear H4 H3' Hsl Hsr
 go_wp2_with fail
 refine H4'.out.mono ?_
 rintro e w6 ⟨av,cv,v0,rfl,hvl0,hvv,hownv,hk6⟩
 obtain⟨g,rfl,hg3,hpre⟩:=Pre.of hown (fun h=>by rw[h] at hul0;simp at hul0)
 obtain⟨gv,rfl,hg5,hprev⟩:=Pre.of hownv (fun h=>by rw[h] at hvl0;simp at hvl0)
 have hgg:gv≠g:=by have:=hpre.lt;omega
 have hltv:gv<w6.heap.size:=hprev.lt
 obtain⟨hA,hvc,hvm,hvr⟩:=hownv.rd
 obtain⟨hB,huc,hum,hur⟩:=hown.rd
 have u32:=hur.lt32
 have Ht:=hid (trim_any (some ⟨gv,0,none⟩) v0 cv w6 hvr hvc hvm)
 have hvr2:=hvr.limbs
 rw[hvv] at Ht hvr2
 rw[hvl0] at Ht
 have hpre6:=hpre.kp hk6
 have hk7:=hk3.trans (hk5.trans hk6)
 have HN:=hid (Hnl.out s Hs.out)
 have Hul:=hid (And.intro hul0 huv)
 have hcu1:us.length+1≤cu:=by omega
 clear hA hB H4' hown hownv hvr hur hpre hk5 hk6 hprev hul0 hvl0 huv hvv
 go_wp2_with fail
 (with_reducible refine Ht.out.mono ?_)
 rintro e w7 ⟨rfl,rfl⟩
 obtain⟨hn1,hn2,hn3⟩:=HN.out
 rw[← hn1] at hn2 hn3
 have Hn2:=hid hn2
 have Hvl:=hid hn1
 have Hvv:=hid (val_limbs (n*2 ^ s))
 have hvn1:2≤(limbs (n*2 ^ s)).length:=by have:=H11.out;omega
 have hvn2:(limbs (n*2 ^ s)).length≤us.length:=by omega
 clear hn1 hn2 HN Ht
 generalize limbs (n*2 ^ s)=vn at *
 go_wp2_with fail
 go_loopw [9] (fun uv wr=>uv=.slice (some ⟨g,0,none⟩) (us.length+1) cu∧w6=wr) (fun _ _=>0)
 case atStart=>exact⟨rfl,rfl⟩
 case round =>
 obtain⟨rfl,rfl⟩:=hrel
 have hmk:=make_u32 ((us.length:Int)+1-(vn.length:Int)) (us.length+1-vn.length) (by omega) (by omega)
 have hgt:¬ ((us.length:Int)+1≤(us.length:Int)):=by omega
 go_wp2_with fail
 clear hmk hgt
 obtain⟨M,hM⟩:∃ M,M=us.length+1-vn.length:=⟨_,rfl⟩
 have HM:=hid hM
 have hM1:M+vn.length=us.length+1:=by omega
 have HM1:=hid hM1
 have hM2:M≤256:=by omega
 rw[show (us.length:Int)+1-(vn.length:Int)-1=(M:Int)-1 by omega,← hM]
 have hBq:=Blk.made w6 M
 have hk8:=(Kp.refl w6).alloc (.cells (madeCells #[.int .u32 0] M) 213)
 have hsz:w6.heap.size<(w6.alloc (.cells (madeCells #[.int .u32 0] M) 213)).heap.size:=by simp
 have hlt6:=hpre6.lt
 generalize w6.alloc _=W at *
 have hpre7:=hpre6.kp hk8
 have hvr7:=hvr2.kp hk8
 have hk9:=hk7.trans hk8
 have hszw:w.heap.size≤w6.heap.size:=hk7.size
 clear hM hM1 hpre6 hvr2 hk7 hk8 hsz
 go_loopw [13] (fun jv wr=>∃ (k:Nat) (ul qs:List Nat),k≤M∧jv=.int .i64 ((k:Int)-1)∧qs.length=M∧Pre wr g ul∧Blk wr w6.heap.size qs∧Rd wr (some ⟨gv,0,none⟩) vn∧Kp w wr∧DivInv u0 ul qs (n*2 ^ s) k) (fun jv _=>(intOf jv+1).toNat)
 case atStart =>
  refine⟨M,u0,List.replicate M 0,Nat.le_refl _,rfl,by simp,hpre7,hBq,hvr7,hk9,rfl,u32,.replicate _,rfl,?_,?_⟩
  ·rw[HM.out]
   exact first_rest Hul.out.1 Hul.out.2 Hml.out hs31 (by omega) hvn2 Hn2.out
  have e0:(List.replicate M 0).drop M=[]:=List.drop_of_length_le (by simp)
  rw[e0,val_nil]
  omega
 case round =>
 obtain⟨k,ul,qs,hk,rfl,hql,hpre,hbq,hvr,hkp,hinv⟩:=hrel
 rcases k with _ | j
 ·rw[show (((0:Nat):Int)-1)=-1 from rfl]
  have Hinv:=hid hinv
  have Hql:=hid hql
  clear hinv hql
  obtain⟨rl,hrl⟩:∃ rl,rl=ul.take vn.length:=⟨_,rfl⟩
  have hVN:n*2 ^ s<4294967296 ^ vn.length:=by
   have:=val_lt hvr.lt32
   rwa [Hvv.out] at this
  have hulen:ul.length=us.length+1:=by rw[Hinv.out.1];exact Hul.out.1
  have hrlen:rl.length=vn.length:=by rw[hrl,List.length_take];omega
  have Hrv:=hid (show val rl=val ul by
   rw[hrl]
   have h5:=Hinv.out.2.2.2.2.1
   rw[List.drop_zero] at h5
   exact take_all h5 hVN (by omega))
  have hrr:Rd wr (some ⟨g,0,none⟩) rl:=by rw[hrl];exact (hpre.rd Hinv.out.2.1).take _
  have Hsh:=shr_any (some ⟨g,0,none⟩) rl cu s wr hrr (by omega) hum (by omega) (by omega)
  rw[hrlen] at Hsh
  have HSh:=hid Hsh
  have hq:=hbq.rd Hinv.out.2.2.1
  clear Hsh hrl hulen hVN
  go_wp2_with fail
  refine HSh.out.mono ?_
  rintro e w8 ⟨a8,c8,rs,rfl,hrl8,hrc,hrm,hrv,hrr8,hk8⟩
  have Hlim:=hid (limbs_len_le hrr.lt32)
  have Hr8:=hid (And.intro hrl8 hrv)
  have Hrl:=hid hrlen
  clear hrl8 hrv hrlen
  go_wp2_with fail
  refine bodyPost_ret (v:=.tuple #[.slice (some ⟨w6.heap.size,0,none⟩) M M,.slice a8 ((limbs (val rl)).length-s/32) c8]) (by simp[results,Tryz.results292,go_sem]) rfl ?_
  have hi:=Hinv.out
  have hV:0<n*2 ^ s:=Nat.lt_of_lt_of_le (Nat.mul_pos (Nat.pow_pos (by decide)) (by decide)) Hn2.out
  have hfin:=div_end (m:=m) (n:=n) (s:=s) (Q:=val qs) (R:=val ul) (U:=val u0) (by
   rcases Nat.eq_zero_or_pos n with h | h
   ·rw[h,Nat.zero_mul] at hV;omega
   ·exact h) Hul.out.2 (by have:=hi.2.2.2.2.1;rwa [List.drop_zero] at this) (by have:=hi.2.2.2.2.2;rwa [List.drop_zero,List.drop_zero,List.drop_zero] at this)
  refine⟨_,M,qs,a8,c8,rs,by rw[Hql.out,Hr8.out.1],by rw[Hql.out];exact Nat.le_refl _,by unfold maxLen;omega,by rw[Hr8.out.1];exact hrc,hrm,hq.kp hk8,hrr8,hfin.1,?_,by rw[Hql.out];exact hM2,?_,hkp.trans hk8⟩
  ·rw[Hr8.out.2,Hrv.out];exact hfin.2
  have:=Hlim.out
  have:=Hrl.out
  rw[Hr8.out.1];omega
 rw[show (((j+1:Nat):Int)-1)=(j:Int) from by omega]
 have Hinv:=hid hinv
 obtain⟨i1,i2,i3,i4,i5,i6⟩:=hinv
 have hjl:j+(vn.length+1)≤ul.length:=by rw[i1,Hul.out.1];have:=HM1.out;omega
 have Hcut:=hid (cut_window ul j (vn.length+1))
 have Hcut2:=hid (congrArg List.length Hcut.out)
 have hul2:=i1
 have hpl:(ul.take j).length=j:=by rw[List.length_take];omega
 have hwl:((ul.drop j).take (vn.length+1)).length=vn.length+1:=by rw[List.length_take,List.length_drop];omega
 rw[Hcut.out] at hpre
 rw[← Hvv.out] at i5
 have Hwin:=hid (window i2 hvr.lt32 hjl i5)
 have hw32:Lt32 ((ul.drop j).take (vn.length+1)):=(i2.drop j).take _
 have Hstep:=hid (fun x ys h=>quot_step (us:=ul) (u0:=u0) (qs:=qs) (ys:=ys) (V:=n*2 ^ s) (j:=j) (n:=vn.length+1) (x:=x) hjl (by omega) i1 (by omega) i4 Hwin.out.2.1 i6 h)
 clear i1 i4 i5 i6 hjl
 obtain⟨pre,hpre0⟩:∃ pre,pre=ul.take j:=⟨_,rfl⟩
 obtain⟨ws,hws0⟩:∃ ws,ws=(ul.drop j).take (vn.length+1):=⟨_,rfl⟩
 obtain⟨post,hpo0⟩:∃ post,post=ul.drop (j+(vn.length+1)):=⟨_,rfl⟩
 rw[← hpre0] at hpl
 rw[← hws0] at hwl hw32
 rw[← hpre0,← hws0,← hpo0] at hpre
 rw[← hws0,← hpo0] at Hwin
 rw[← hpre0,← hpo0] at Hstep
 have HPa:=hid (show Lt32 pre∧Lt32 post∧pre.length+ws.length+post.length=u0.length from
  ⟨by rw[hpre0];exact i2.take _,by rw[hpo0];exact i2.drop _,by
   have e:=Hcut2.out
   rw[← hpre0,← hws0,← hpo0,List.length_append,List.length_append] at e
   omega⟩)
 clear Hcut Hcut2 hul2
 clear hpre0 hws0 hpo0
 subst hpl
 have Hgs:=hid (guess_len hw32 hvr.lt32 hwl rfl hvn1 hn3 Hwin.out.2.2)
 have HG:=hid (fun W=>guess_any (nth ws vn.length) (nth ws (vn.length-1)) (nth ws (vn.length-2)) (nth vn (vn.length-1)) (nth vn (vn.length-2)) W Hgs.out.1 (hw32.nth _) (hw32.nth _) (hvr.lt32.nth _) hn3 (hvr.lt32.nth _))
 generalize guessF (nth ws vn.length) (nth ws (vn.length-1)) (nth ws (vn.length-2)) (nth vn (vn.length-1)) (nth vn (vn.length-2))=x at *
 have q0:=hpre.at (i:=vn.length) (by omega)
 have q1:=hpre.at (i:=vn.length-1) (by omega)
 have q2:=hpre.at (i:=vn.length-2) (by omega)
 obtain⟨b2,o2,e,hcv⟩:=hvr.some (i:=0) (by omega)
 cases e
 have r1:=hcv (vn.length-1) (by omega)
 have r2:=hcv (vn.length-2) (by omega)
 clear hcv
 rw[show pre.length+(vn.length-1)=pre.length+vn.length-1 by omega] at q1
 rw[show pre.length+(vn.length-2)=pre.length+vn.length-2 by omega] at q2
 rw[Nat.zero_add] at r1 r2
 have hpl2:pre.length≤256:=by omega
 have hj1:pre.length+vn.length<us.length+1:=by have:=HM1.out;omega
 have s1:IntKind.i64.wrap ((pre.length:Int)+vn.length)=(pre.length:Int)+vn.length:=IntWalk.i64_in _ (by omega)
 have s2:IntKind.i64.wrap ((pre.length:Int)+vn.length-1)=(pre.length:Int)+vn.length-1:=IntWalk.i64_in _ (by omega)
 have s3:IntKind.i64.wrap ((pre.length:Int)+vn.length-2)=(pre.length:Int)+vn.length-2:=IntWalk.i64_in _ (by omega)
 have s4:IntKind.i64.wrap ((vn.length:Int)-1)=(vn.length:Int)-1:=IntWalk.i64_in _ (by omega)
 have s5:IntKind.i64.wrap ((vn.length:Int)-2)=(vn.length:Int)-2:=IntWalk.i64_in _ (by omega)
 have t1:(0:Int)≤(pre.length:Int)+vn.length:=by omega
 have t2:(0:Int)≤(pre.length:Int)+vn.length-1:=by omega
 have t3:(0:Int)≤(pre.length:Int)+vn.length-2:=by omega
 have t4:(0:Int)≤(vn.length:Int)-1:=by omega
 have t5:(0:Int)≤(vn.length:Int)-2:=by omega
 have l1:(pre.length:Int)+vn.length<(us.length:Int)+1:=by omega
 have l2:(pre.length:Int)+vn.length-1<(us.length:Int)+1:=by omega
 have l3:(pre.length:Int)+vn.length-2<(us.length:Int)+1:=by omega
 have l4:(vn.length:Int)-1<(vn.length:Int):=by omega
 have l5:(vn.length:Int)-2<(vn.length:Int):=by omega
 have n1:((pre.length:Int)+vn.length).toNat=pre.length+vn.length:=by omega
 have n2:((pre.length:Int)+vn.length-1).toNat=pre.length+vn.length-1:=by omega
 have n3:((pre.length:Int)+vn.length-2).toNat=pre.length+vn.length-2:=by omega
 have n4:((vn.length:Int)-1).toNat=vn.length-1:=by omega
 have n5:((vn.length:Int)-2).toNat=vn.length-2:=by omega
 go_wp2_with fail
 go_quiet ((go_at_call 299;exact Calls.quiet_of (HG.out _)))
 clear s1 s2 s3 s4 s5 t1 t2 t3 t4 t5 l1 l2 l3 l4 l5 n1 n2 n3 n4 n5 q0 q1 q2 r1 r2
 have hkd:=(Kp.refl wr).drewN nq
 have hpre2:=hpre.kp hkd
 have hvr3:=hvr.kp hkd
 have hbq2:=hbq.kp hkd
 have hkp2:=hkp.trans hkd
 clear hpre hvr hbq hkp hkd
 go_wp2_with fail
 rw[show pre.length+vn.length+1-pre.length=vn.length+1 by omega]
 have hx5:=Hgs.out.2.2.2
 have HT:=hid (take_any g (cu-pre.length) gv 0 cv pre ws post vn x (wr.drewN nq) hpre2 hw32 hwl hvr3 hgg hx5 (by omega))
 generalize wr.drewN nq=W2 at *
 refine HT.out.mono ?_
 rintro e w8 ⟨bo,zs,rfl,hbo,hzl,hz32,hzv,hpre8,hmod⟩
 have hvr8:=hmod.rd hgg hvr3
 have hbq8:=hmod.blk (by omega) hbq2
 have hkp8:=hmod.below hkp2 (by have:=hk3.size;omega)
 have hzM:=val_lt hz32
 rw[hzl] at hzM
 have hVp:0<n*2 ^ s:=Nat.lt_of_lt_of_le (Nat.mul_pos (Nat.pow_pos (by decide)) (by decide)) Hn2.out
 have hVM:val vn≤4294967296 ^ ws.length:=by
  refine Nat.le_trans (Nat.le_of_lt (val_lt hvr3.lt32)) (Nat.pow_le_pow_right (by decide) (by omega))
 have Htk:=hid (took (U:=val ws) (V:=val vn) (x:=x) (b:=bo) (z:=val zs) (M:=4294967296 ^ ws.length) (by rw[Hvv.out];exact hVp) hzM hVM Hgs.out.2.1 Hgs.out.2.2.1 hzv hbo)
 have HVp:=hid hVp
 have HVM:=hid hVM
 clear hzM hVp hVM
 have Hzl:=hid hzl
 clear HT hpre2 hbq2 hkp2 hvr3 hmod hzv hzl HG
 by_cases hb0:bo=0
 ·rw[decide_eq_false (by omega)]
  have hq1:=hbq8.cell (i:=pre.length) (by omega)
  have hq2:=hbq8.frozen pre.length
  have Hb0:=hid hb0
  clear hb0 hbo
  go_wp2_with fail
  go_roundw
  case rel =>
   have hxq:x=val ws/(n*2 ^ s)∧val zs=val ws % (n*2 ^ s):=by
    rcases Htk.out with ⟨_,h1,h2⟩ | ⟨h0,_⟩
    ·rw[Hvv.out] at h1 h2;exact⟨h1,h2⟩
    ·rw[Hb0.out] at h0;cases h0
   refine⟨pre.length,pre++zs++post,qs.set pre.length x,by omega,rfl,by simp[hql],((Mod.refl _ w8).set _ _).pre (by omega) hpre8,hbq8.set _ _,((Mod.refl _ w8).set _ _).rd (by omega) hvr8,hkp8.set hszw _,?_⟩
   exact inv_next Hinv.out HPa.out Hzl.out hz32 (by omega) Hstep.out Hwin.out.1 HVp.out hxq.1 hxq.2
  all_goals (simp[intOf];try omega)
 rw[decide_eq_true (by omega)]
 have Hb0:=hid hb0
 have hx1:1≤x:=by
  rcases Htk.out with ⟨h0,_⟩ | ⟨_,h1,_⟩
  ·exact absurd h0 hb0
  ·rw[h1];exact Nat.le_add_left 1 _
 clear hb0 hbo
 go_wp2_with fail
 go_loopw [15,125] (fun cyv iv wi=>∃ (t cy:Nat) (yl:List Nat),t≤vn.length∧iv=.int .i64 t∧cyv=.int .u32 (cy:Nat)∧cy≤1∧yl.length=ws.length∧Lt32 yl∧(∀ i,t≤i→nth yl i=nth zs i) ∧
  val (yl.take t)+4294967296 ^ t*cy=val (zs.take t)+val (vn.take t)∧Pre wi g (pre++yl++post)∧Blk wi w6.heap.size qs∧Rd wi (some ⟨gv,0,none⟩) vn∧Kp w wi) (fun _ iv _=>vn.length-(intOf iv).toNat)
 case atStart=>exact⟨0,0,zs,Nat.zero_le _,rfl,rfl,by decide,Hzl.out,hz32,fun _ _=>rfl,by simp[val],hpre8,hbq8,hvr8,hkp8⟩
 case round =>
 obtain⟨t,cy,yl,ht,rfl,rfl,hcy,hyl,hy32,hsame,hyv,hprei,hbqi,hvri,hkpi⟩:=hrel
 have Hyl:=hid hyl
 have Hsm:=hid hsame
 have Hyv:=hid hyv
 clear hyl hsame hyv hpre8 hbq8 hvr8 hkp8
 by_cases hlt:t<vn.length
 ·obtain⟨b3,o3,e,hcv⟩:=hvri.some hlt
  cases e
  have hv1:=hcv t hlt
  rw[Nat.zero_add] at hv1
  have bv:=hvri.lt32.nth t
  have hu1:=hprei.at (i:=t) (by have:=Hyl.out;omega)
  have hu2:=hprei.frozen (pre.length+t)
  have bu:=hy32.nth t
  clear hcv
  have hsm':=Hsm.out t (Nat.le_refl _)
  have Hst:=hid (add_step (xs:=zs) (ys:=vn) (zs:=yl) (k:=t) (c:=cy) (by have:=Hyl.out;omega) Hyv.out)
  rw[← hsm'] at Hst
  clear hsm'
  go_wp2_with fail
  refine (add32_any _ _ _ _ (by omega) (by omega) (by omega) (by omega) (by omega) (by omega)).mono ?_
  rintro e w9 ⟨rfl,rfl⟩
  go_wp2_with fail
  go_roundw
  case rel =>
   refine⟨t+1,(nth yl t+nth vn t+cy)/4294967296,yl.set t ((nth yl t+nth vn t+cy) % 4294967296),by omega,by go_num,by congr 1,by omega,by simp[Hyl.out],hy32.set _ _ (by omega),fun i hi=>?_,Hst.out,hprei.put (by have:=Hyl.out;omega) (by omega),((Mod.refl _ _).set _ _).blk (by omega) hbqi,((Mod.refl _ _).set _ _).rd hgg hvri,hkpi.set (by have:=hk3.size;omega) _⟩
   rw[nth_set_ne (by omega)]
   exact Hsm.out i (by omega)
  all_goals (simp[intOf];try omega)
 have hte:t=vn.length:=by omega
 have hu1:=hprei.at (i:=vn.length) (by have:=Hyl.out;omega)
 have hu2:=hprei.frozen (pre.length+vn.length)
 have bu:=hy32.nth vn.length
 have Hte:=hid hte
 have hq2:=hbqi.cell (i:=pre.length) (by omega)
 have hq3:=hbqi.frozen pre.length
 clear hte
 have hsm':=Hsm.out vn.length (by have:=Hte.out;omega)
 have hlast:=Hyv.out
 rw[Hte.out] at hlast
 have Hl:=hid (back_last (ys:=yl) (zs:=zs) (vn:=vn) (cy:=cy) (N:=vn.length) (by rw[Hzl.out];exact hwl) (by rw[Hyl.out,Hzl.out]) rfl hlast)
 rw[← hsm'] at Hl
 clear hsm' hlast
 go_wp2_with fail
 go_roundw
 case rel =>
  have hr:val (yl.set vn.length ((nth yl vn.length+cy) % 4294967296))=val ws % val vn∧x=val ws/val vn+1:=by
   rcases Htk.out with ⟨h0,_⟩ | ⟨_,h1,h2⟩
   ·exact absurd h0 Hb0.out
   ·have h3:=Hl.out
    rw[← hwl] at h3
    refine⟨back h2 (Nat.mod_lt _ (by rw[Hvv.out];exact HVp.out)) HVM.out ?_ h3,h1⟩
    have:=val_lt (hy32.set vn.length ((nth yl vn.length+cy) % 4294967296) (Nat.mod_lt _ (by decide)))
    rwa [List.length_set,Hyl.out] at this
  obtain⟨hr1,hr2⟩:=hr
  rw[Hvv.out] at hr1 hr2
  refine⟨pre.length,pre++yl.set vn.length ((nth yl vn.length+cy) % 4294967296)++post,qs.set pre.length (x-1),by omega,rfl,by simp[hql],((Mod.refl _ _).set _ _).pre (by omega) (hprei.put (by have:=Hyl.out;omega) (by omega)),
   (((Mod.refl _ _).set _ _).blk (by omega) hbqi).put (by omega),((Mod.refl _ _).set _ _).rd (by omega) (((Mod.refl _ _).set _ _).rd hgg hvri),(hkpi.set (by have:=hk3.size;omega) _).set hszw _,?_⟩
  refine inv_next Hinv.out HPa.out (by simp[Hyl.out]) (hy32.set _ _ (Nat.mod_lt _ (by decide))) (by omega) Hstep.out Hwin.out.1 HVp.out ?_ hr1
  rw[hr2,Nat.add_sub_cancel]
 all_goals (simp[intOf];try omega)
end Go.Proofs.YteidgoldnllabaaGreatDoor
