/-
  Walks: round.cut.
-/
import Derived.Test.YteidgoldnllabaaGreatDoorTIvA
import Derived.Test.YteidgoldnllabaaGreatDoorTPub
set_option maxHeartbeats 8000000
set_option maxRecDepth 100000
namespace Go.Proofs.YteidgoldnllabaaGreatDoor
open Go.RowKit
open Lib (hid)
def rndE:Option Dy→Dy×Int
 | some d=>(d,0)
 | none=>(.zero,9)
theorem limbs_pow {p:Nat} (hp:p≤512):(limbs (2 ^ p)).length≤256:=limbs_len_bits (by rw[bits_two_pow];omega)
theorem rq_len {q p:Nat} (hq:q≤2 ^ p) (hp:p≤512):(limbs q).length≤256:=Nat.le_trans (limbs_length_mono hq) (limbs_pow hp)
theorem val_one:val [1]=1:=rfl
theorem rd_one (w:World):Rd (w.alloc (.cells #[.int .u32 1] 213)) (some ⟨w.heap.size,0,none⟩) [1]:=by
 refine⟨fun x hx=>by simp at hx;omega,.inr ⟨_,_,rfl,fun i hi=>?_⟩⟩
 obtain rfl:i=0:=by simp at hi;omega
 simp[nth]
theorem cut_any (a:Option Addr) (xs:List Nat) (c:Nat) (ex:Int) (more:Bool) (p:Nat) (up:Bool) (w:World) (hx:Rd w a xs) (hxl:xs.length≤256) (hxc:xs.length≤c) (hc:c≤maxLen) (he0:-200000≤ex) (he1:ex≤200000) (hp0:8≤p) (hp1:p≤512) (hT:Tab w) :
   Calls Tryz.prog 293 #[.agg #[.slice a xs.length c,.int .i64 ex,.bool more],.int .i64 p,.bool up] w (NumE w (rndE (rcut (val xs) ex more p up)).1 (rndE (rcut (val xs) ex more p up)).2):=by
 have hb:=bits_val_le hx.lt32
 have HB:=hid (bits_any a xs c)
 have Hrc:=hid (show rcut (val xs) ex more p up=if (bits (rq (val xs) ex more p up):Int)+runit (val xs) ex p > 16384 then
   (if up then none else some (canon false (2 ^ p-1) (16384-p)))
 else some (canon false (rq (val xs) ex more p up) (runit (val xs) ex p)) from rfl)
 have Hrq:=hid (show rq (val xs) ex more p up=if up&&(more||rlost (val xs) ex (runit (val xs) ex p)) then rlow (val xs) ex (runit (val xs) ex p)+1 else rlow (val xs) ex (runit (val xs) ex p) from rfl)
 have Hrle:=hid (@rq_le (val xs) ex more p up)
 have Hlow:=hid (show ∀ U,rlow (val xs) ex U=if U≤ex then val xs*2 ^ (ex-U).toNat else val xs/2 ^ (U-ex).toNat from fun _=>rfl)
 have Hlost:=hid (show ∀ U,rlost (val xs) ex U=(!decide (U≤ex)&&!decide (val xs % 2 ^ (U-ex).toNat=0)) from fun _=>rfl)
 have Hlt:=hid (@rlow_lt (val xs) ex p)
 have hu1:runit (val xs) ex p=max (ex+bits (val xs)-p) (-16384):=rfl
 have hu2:runit (val xs) ex p=ex+bits (val xs)-p∨runit (val xs) ex p=-16384:=by omega
 have hu3:-16384≤runit (val xs) ex p:=runit_ge
 have hu4:ex+bits (val xs)-p≤runit (val xs) ex p:=by omega
 have e1:IntKind.i64.wrap (ex+(bits (val xs):Int))=ex+(bits (val xs):Int):=IntWalk.i64_in _ (by omega)
 have e2:IntKind.i64.wrap (ex+(bits (val xs):Int)-(p:Int))=ex+(bits (val xs):Int)-(p:Int):=IntWalk.i64_in _ (by omega)
 generalize rcut (val xs) ex more p up=R at *
 generalize rq (val xs) ex more p up=Q at *
 generalize runit (val xs) ex p=U at *
 have Hu1:=hid hu1.symm
 clear hu1
 go_enter Tryz.func293,Tryz.ntmps293
 go_wp2_with fail
 generalize hW:((w.alloc _).alloc _)=W at *
 have hk:Kp w W:=hW▸((Kp.refl w).alloc _).alloc _
 have hS:W.cell? ⟨w.heap.size,0,none⟩=some (.slice a xs.length c)∧W.cell? ⟨w.heap.size,1,none⟩=some (.int .i64 ex)∧W.cell? ⟨w.heap.size,2,none⟩=some (.bool more):=by rw[← hW];simp
 have hB:Box3 W (w.heap.size+1) (.bool false) (.slice none 0 0) (.int .i64 0):=hW▸Box3.new2 _ _ _ _ _ _
 clear hW
 have hx1:=hx.kp hk.drew
 have hS0:=keep3 (Kp.refl W).drew hS
 clear hS
 go_region_held3 (fun w'=>w'.cell? ⟨w.heap.size,0,none⟩=some (.slice a xs.length c)∧w'.cell? ⟨w.heap.size,1,none⟩=some (.int .i64 ex)∧w'.cell? ⟨w.heap.size,2,none⟩=some (.bool more)) (first | with_reducible assumption | with_reducible exact keep3 (by assumption) (by assumption))
   (first
     | (go_at_call 244;refine (HB.out _ hx1 hxc hc (by omega)).mono ?_;rintro e w2 ⟨rfl,rfl⟩))
 clear e1 e2
 go_wp2_with fail
 rw[Hu1.out]
 have hS1:=keep3 (Kp.refl W.drew).drew hS0
 have hB1:=(hB.kp (Kp.refl W).drew).kp (Kp.refl W.drew).drew
 have hk1:=hk.drew.drew
 have hx2:=hx1.kp (Kp.refl W.drew).drew
 clear hS0 hx1 hB
 go_region_held3 (fun w'=>w'.cell? ⟨w.heap.size,0,none⟩=some (.slice a xs.length c)∧w'.cell? ⟨w.heap.size,1,none⟩=some (.int .i64 ex)∧w'.cell? ⟨w.heap.size,2,none⟩=some (.bool more)) (first | with_reducible assumption) (fail)
 have hT2:=hT.kp hk1
 generalize W.drew.drew=W2 at *
 obtain⟨k0,k1,k2⟩:=hS1
 by_cases hue:U≤ex
 · have hd:=decide_eq_true hue
   have hlow:rlow (val xs) ex U=val xs*2 ^ (ex-U).toNat:=by rw[Hlow.out,if_pos hue]
   have hlo:rlost (val xs) ex U=false:=by rw[Hlost.out,hd];rfl
   have e3:IntKind.i64.wrap (ex-U)=ex-U:=IntWalk.i64_in _ (by omega)
   have hlt:=Hlt.out
   rw[hlow] at hlt
   have Hll:=hid (rq_len (Nat.le_of_lt hlt) hp1)
   have h0:0≤ex-U:=by omega
   have h1:ex-U≤65536:=by omega
   clear hlt
   cases more
   all_goals
     go_wp2_with fail
     refine (roshl_any a xs c _ _ hx2 hxl hxc hc h0 h1 Hll.out).mono ?_
     rintro e w3 ⟨a2,c2,rfl,l2,m2,r2,hk2⟩
     rw[← hlow] at l2 r2 ⊢
     rw[hlo] at Hrq
     have Hl2:=hid hlow
     clear hlow hlo e3 h0 h1 hd
     generalize rlow (val xs) ex U=q at *
     have hk3:=hk1.trans hk2
     have hT3:=hT2.kp hk2
     have hB3:=hB1.kp hk2
     clear hk2 hT2 hB1 k0 k1 k2
     cases up
     · have HQ:=hid (show Q=q from Hrq.out)
       have hqp:=Nat.le_of_lt Hlt.out
       have hql:=rq_len hqp hp1
       have hbq:bits q≤513:=Nat.le_trans (bits_mono hqp) (by rw[bits_two_pow];omega)
       have hBq:=bits_any a2 (limbs q) c2 w3 r2 l2 m2 (by omega)
       rw[val_limbs] at hBq
       go_wp2_with fail
       refine hBq.mono ?_
       rintro e w4 ⟨rfl,rfl⟩
       clear hBq
       by_cases hbig:16384<(bits q:Int)+U
       · have hdb:=decide_eq_true hbig
         have HR:=hid (show R=some (canon false (2 ^ p-1) (16384-p)) by rw[Hrc.out,HQ.out,if_pos (by omega)];rfl)
         have hDok:=hid (canon_isP (p:=p) (n:=2 ^ p-1) (u:=16384-p) (by omega) (by omega) (Nat.sub_le _ _) (by omega) (by rw[bits_two_pow_sub_one (by omega)];omega)).1
         have Hp1:=hid (show val [1]*2 ^ ((p:Int)).toNat=2 ^ p by rw[Int.toNat_natCast,val_one,Nat.one_mul])
         have Hp2:=hid (limbs_pow hp1)
         have Hp3:=hid (rq_len (Nat.sub_le (2 ^ p) 1) hp1)
         have Hp4:=hid (two_pow_pos p)
         have ep:IntKind.i64.wrap (16384-(p:Int))=16384-(p:Int):=IntWalk.i64_in _ (by omega)
         have Ep:=hid ep
         clear ep
         go_wp2_with fail
         refine (roshl_any _ [1] 1 _ _ (rd_one _) (by decide) (by decide) (by decide) (by omega) (by omega) (by rw[Hp1.out];exact Hp2.out)).mono ?_
         rintro e w6 ⟨a6,c6,rfl,l6,m6,r6,hk6⟩
         rw[Hp1.out] at l6 r6 ⊢
         go_wp2_with fail
         refine (Sub_any a6 _ (limbs (2 ^ p)) [1] c6 1 _ (r6.kp ((Kp.refl _).alloc _)) (rd_one _) Hp2.out (by decide) l6 (by decide) m6 (by decide) (by rw[val_limbs,val_one];exact Hp4.out)).mono ?_
         rintro e w7 ⟨a7,c7,rfl,l7,m7,r7,hk7⟩
         rw[val_limbs,val_one] at l7 r7 ⊢
         have hkk:=hid (((Kp.refl w3).alloc _).trans (hk6.trans (((Kp.refl _).alloc _).trans hk7)))
         have hM:=Make_any false a7 (limbs (2 ^ p-1)) c7 (16384-p) w7 r7 l7 m7 Hp3.out (by omega) (by omega) (hT3.kp hkk.out)
         rw[val_limbs,chk_of_ok hDok.out] at hM
         dsimp only at hM
         clear hk6 hk7
         go_wp2_with fail
         refine hM.mono ?_
         clear hM
         rintro e w5 ⟨a5,c5,rfl,r5,l5,m5,hk5⟩
         obtain⟨q0,q1,q2,f0,f1,f2⟩:=hB3.kp (hkk.out.trans hk5)
         have hk9:=hk3.trans (hkk.out.trans hk5)
         generalize canon false (2 ^ p-1) (16384-p)=D at *
         go_wp2_with fail
         have hst:=stored q0 q1 q2 nofun nofun nofun (.bool D.neg) (.slice a5 (limbs D.m).length c5) (.int .i64 D.e)
         generalize (((w5.setCell _ _).setCell _ _).setCell _ _)=W9 at hst ⊢
         obtain⟨s0,s1,s2,_,s4,s5,_,_⟩:=hst
         refine bodyPost_ret (v:=.tuple #[.agg #[.bool D.neg,.slice a5 (limbs D.m).length c5,.int .i64 D.e],.int .i64 0]) (by simp[results,Tryz.results293,go_sem,s0,s1,s2]) rfl ?_
         rw[HR.out]
         exact⟨rdOf D a5 c5,rfl,rdOf_rd hDok.out (s4 _ _ r5) l5 m5,rdOf_dy _ _ _,fun hd=>rdOf_vl hd _ _,s5 _ hk9 (by omega)⟩
       · have hdb:=decide_eq_false hbig
         have HR:=hid (show R=some (canon false q U) by rw[Hrc.out,HQ.out,if_neg (by omega)])
         have hDok:=hid (canon_isP (p:=p) (by omega) (by omega) hqp hu3 (by omega)).1
         have hM:=Make_any false a2 (limbs q) c2 U w3 r2 l2 m2 hql (by omega) (by omega) hT3
         rw[val_limbs,chk_of_ok hDok.out] at hM
         dsimp only at hM
         clear hqp
         go_wp2_with fail
         refine hM.mono ?_
         clear hM
         rintro e w5 ⟨a5,c5,rfl,r5,l5,m5,hk5⟩
         obtain⟨q0,q1,q2,f0,f1,f2⟩:=hB3.kp (hk5)
         have hk9:=hk3.trans (hk5)
         generalize canon false q U=D at *
         go_wp2_with fail
         have hst:=stored q0 q1 q2 nofun nofun nofun (.bool D.neg) (.slice a5 (limbs D.m).length c5) (.int .i64 D.e)
         generalize (((w5.setCell _ _).setCell _ _).setCell _ _)=W9 at hst ⊢
         obtain⟨s0,s1,s2,_,s4,s5,_,_⟩:=hst
         refine bodyPost_ret (v:=.tuple #[.agg #[.bool D.neg,.slice a5 (limbs D.m).length c5,.int .i64 D.e],.int .i64 0]) (by simp[results,Tryz.results293,go_sem,s0,s1,s2]) rfl ?_
         rw[HR.out]
         exact⟨rdOf D a5 c5,rfl,rdOf_rd hDok.out (s4 _ _ r5) l5 m5,rdOf_dy _ _ _,fun hd=>rdOf_vl hd _ _,s5 _ hk9 (by omega)⟩
     · first
       | (have HQ := hid (show Q = q from Hrq.out)
          have hqp:=Nat.le_of_lt Hlt.out
          have hql:=rq_len hqp hp1
          have hbq:bits q≤513:=Nat.le_trans (bits_mono hqp) (by rw[bits_two_pow];omega)
          have hBq:=bits_any a2 (limbs q) c2 w3 r2 l2 m2 (by omega)
          rw[val_limbs] at hBq
          go_wp2_with fail
          refine hBq.mono ?_
          rintro e w4 ⟨rfl,rfl⟩
          clear hBq
          by_cases hbig:16384<(bits q:Int)+U
          · have hdb:=decide_eq_true hbig
            have HR:=hid (show R=none by rw[Hrc.out,HQ.out,if_pos (by omega)];rfl)
            obtain⟨q0,q1,q2,f0,f1,f2⟩:=hB3
            go_wp2_with fail
            have hst:=stored q0 q1 q2 nofun nofun nofun (.bool false) (.slice none 0 0) (.int .i64 0)
            generalize (((w3.setCell _ _).setCell _ _).setCell _ _)=W9 at hst ⊢
            obtain⟨s0,s1,s2,_,s4,s5,_,_⟩:=hst
            refine bodyPost_ret (v:=.tuple #[.agg #[.bool false,.slice none 0 0,.int .i64 0],.int .i64 9]) (by simp[results,Tryz.results293,go_sem,s0,s1,s2]) rfl ?_
            rw[HR.out]
            exact numE_zero rfl (s5 _ hk3 (by omega))
          · have hdb:=decide_eq_false hbig
            have HR:=hid (show R=some (canon false q U) by rw[Hrc.out,HQ.out,if_neg (by omega)])
            have hDok:=hid (canon_isP (p:=p) (by omega) (by omega) hqp hu3 (by omega)).1
            have hM:=Make_any false a2 (limbs q) c2 U w3 r2 l2 m2 hql (by omega) (by omega) hT3
            rw[val_limbs,chk_of_ok hDok.out] at hM
            dsimp only at hM
            clear hqp
            go_wp2_with fail
            refine hM.mono ?_
            clear hM
            rintro e w5 ⟨a5,c5,rfl,r5,l5,m5,hk5⟩
            obtain⟨q0,q1,q2,f0,f1,f2⟩:=hB3.kp (hk5)
            have hk9:=hk3.trans (hk5)
            generalize canon false q U=D at *
            go_wp2_with fail
            have hst:=stored q0 q1 q2 nofun nofun nofun (.bool D.neg) (.slice a5 (limbs D.m).length c5) (.int .i64 D.e)
            generalize (((w5.setCell _ _).setCell _ _).setCell _ _)=W9 at hst ⊢
            obtain⟨s0,s1,s2,_,s4,s5,_,_⟩:=hst
            refine bodyPost_ret (v:=.tuple #[.agg #[.bool D.neg,.slice a5 (limbs D.m).length c5,.int .i64 D.e],.int .i64 0]) (by simp[results,Tryz.results293,go_sem,s0,s1,s2]) rfl ?_
            rw[HR.out]
            exact⟨rdOf D a5 c5,rfl,rdOf_rd hDok.out (s4 _ _ r5) l5 m5,rdOf_dy _ _ _,fun hd=>rdOf_vl hd _ _,s5 _ hk9 (by omega)⟩)
       | (have HQ := hid (show Q = q + 1 from Hrq.out)
          have hqp1:q+1≤2 ^ p:=Hlt.out
          go_wp2_with fail
          refine (Add_any a2 _ (limbs q) [1] c2 1 _ (r2.kp ((Kp.refl _).alloc _)) (rd_one _) (rq_len (Nat.le_of_lt Hlt.out) hp1) (by decide) (by rw[val_limbs,val_one];exact rq_len hqp1 hp1)).mono ?_
          clear r2 l2 m2
          rintro e w3 ⟨a2,c2,rfl,l2,m2,r2,hk6⟩
          rw[val_limbs,val_one] at l2 r2 ⊢
          have hk6':=((Kp.refl _).alloc _).trans hk6
          replace hk3:=hk3.trans hk6'
          replace hT3:=hT3.kp hk6'
          replace hB3:=hB3.kp hk6'
          clear hk6 hk6'
          have hqp:=hqp1
          clear hqp1
          have hql:=rq_len hqp hp1
          have hbq:bits (q+1)≤513:=Nat.le_trans (bits_mono hqp) (by rw[bits_two_pow];omega)
          have hBq:=bits_any a2 (limbs (q+1)) c2 w3 r2 l2 m2 (by omega)
          rw[val_limbs] at hBq
          go_wp2_with fail
          refine hBq.mono ?_
          rintro e w4 ⟨rfl,rfl⟩
          clear hBq
          by_cases hbig:16384<(bits (q+1):Int)+U
          · have hdb:=decide_eq_true hbig
            have HR:=hid (show R=none by rw[Hrc.out,HQ.out,if_pos (by omega)];rfl)
            obtain⟨q0,q1,q2,f0,f1,f2⟩:=hB3
            go_wp2_with fail
            have hst:=stored q0 q1 q2 nofun nofun nofun (.bool false) (.slice none 0 0) (.int .i64 0)
            generalize (((w3.setCell _ _).setCell _ _).setCell _ _)=W9 at hst ⊢
            obtain⟨s0,s1,s2,_,s4,s5,_,_⟩:=hst
            refine bodyPost_ret (v:=.tuple #[.agg #[.bool false,.slice none 0 0,.int .i64 0],.int .i64 9]) (by simp[results,Tryz.results293,go_sem,s0,s1,s2]) rfl ?_
            rw[HR.out]
            exact numE_zero rfl (s5 _ hk3 (by omega))
          · have hdb:=decide_eq_false hbig
            have HR:=hid (show R=some (canon false (q+1) U) by rw[Hrc.out,HQ.out,if_neg (by omega)])
            have hDok:=hid (canon_isP (p:=p) (by omega) (by omega) hqp hu3 (by omega)).1
            have hM:=Make_any false a2 (limbs (q+1)) c2 U w3 r2 l2 m2 hql (by omega) (by omega) hT3
            rw[val_limbs,chk_of_ok hDok.out] at hM
            dsimp only at hM
            clear hqp
            go_wp2_with fail
            refine hM.mono ?_
            clear hM
            rintro e w5 ⟨a5,c5,rfl,r5,l5,m5,hk5⟩
            obtain⟨q0,q1,q2,f0,f1,f2⟩:=hB3.kp (hk5)
            have hk9:=hk3.trans (hk5)
            generalize canon false (q+1) U=D at *
            go_wp2_with fail
            have hst:=stored q0 q1 q2 nofun nofun nofun (.bool D.neg) (.slice a5 (limbs D.m).length c5) (.int .i64 D.e)
            generalize (((w5.setCell _ _).setCell _ _).setCell _ _)=W9 at hst ⊢
            obtain⟨s0,s1,s2,_,s4,s5,_,_⟩:=hst
            refine bodyPost_ret (v:=.tuple #[.agg #[.bool D.neg,.slice a5 (limbs D.m).length c5,.int .i64 D.e],.int .i64 0]) (by simp[results,Tryz.results293,go_sem,s0,s1,s2]) rfl ?_
            rw[HR.out]
            exact⟨rdOf D a5 c5,rfl,rdOf_rd hDok.out (s4 _ _ r5) l5 m5,rdOf_dy _ _ _,fun hd=>rdOf_vl hd _ _,s5 _ hk9 (by omega)⟩)
 have hd:=decide_eq_false hue
 have hlow:rlow (val xs) ex U=val xs/2 ^ (U-ex).toNat:=by rw[Hlow.out,if_neg hue]
 have hlo:rlost (val xs) ex U=!decide (val xs % 2 ^ (U-ex).toNat=0):=by rw[Hlost.out,hd];rfl
 have e3:IntKind.i64.wrap (U-ex)=U-ex:=IntWalk.i64_in _ (by omega)
 obtain⟨n,hn⟩:∃ n:Nat,U-ex=n:=⟨(U-ex).toNat,by omega⟩
 rw[hn,Int.toNat_natCast] at hlow hlo
 have hn1:n≤9000000:=by omega
 rw[hn] at e3
 have Hn:=hid hn
 have hin:U-ex=(n:Int):=hn
 go_wp2_with fail
 refine (roshr_any a xs c n _ hx2 hxl hxc hc hn1).mono ?_
 rintro e w3 ⟨a2,c2,rfl,l2,m2,r2,hk2⟩
 rw[← hlow] at l2 r2 ⊢
 rw[← hlo]
 have Hl2:=hid hlow
 clear hlow e3 hn hd hlo hin hue hn1
 generalize rlow (val xs) ex U=q at *
 generalize rlost (val xs) ex U=lo at *
 cases more
 all_goals cases lo
 all_goals
   have hk3:=hk1.trans hk2
   have hT3:=hT2.kp hk2
   have hB3:=hB1.kp hk2
   clear hk2 hT2 hB1 k0 k1 k2
   cases up
   · have HQ:=hid (show Q=q from Hrq.out)
     have hqp:=Nat.le_of_lt Hlt.out
     have hql:=rq_len hqp hp1
     have hbq:bits q≤513:=Nat.le_trans (bits_mono hqp) (by rw[bits_two_pow];omega)
     have hBq:=bits_any a2 (limbs q) c2 w3 r2 l2 m2 (by omega)
     rw[val_limbs] at hBq
     go_wp2_with fail
     refine hBq.mono ?_
     rintro e w4 ⟨rfl,rfl⟩
     clear hBq
     by_cases hbig:16384<(bits q:Int)+U
     · have hdb:=decide_eq_true hbig
       have HR:=hid (show R=some (canon false (2 ^ p-1) (16384-p)) by rw[Hrc.out,HQ.out,if_pos (by omega)];rfl)
       have hDok:=hid (canon_isP (p:=p) (n:=2 ^ p-1) (u:=16384-p) (by omega) (by omega) (Nat.sub_le _ _) (by omega) (by rw[bits_two_pow_sub_one (by omega)];omega)).1
       have Hp1:=hid (show val [1]*2 ^ ((p:Int)).toNat=2 ^ p by rw[Int.toNat_natCast,val_one,Nat.one_mul])
       have Hp2:=hid (limbs_pow hp1)
       have Hp3:=hid (rq_len (Nat.sub_le (2 ^ p) 1) hp1)
       have Hp4:=hid (two_pow_pos p)
       have ep:IntKind.i64.wrap (16384-(p:Int))=16384-(p:Int):=IntWalk.i64_in _ (by omega)
       have Ep:=hid ep
       clear ep
       go_wp2_with fail
       refine (roshl_any _ [1] 1 _ _ (rd_one _) (by decide) (by decide) (by decide) (by omega) (by omega) (by rw[Hp1.out];exact Hp2.out)).mono ?_
       rintro e w6 ⟨a6,c6,rfl,l6,m6,r6,hk6⟩
       rw[Hp1.out] at l6 r6 ⊢
       go_wp2_with fail
       refine (Sub_any a6 _ (limbs (2 ^ p)) [1] c6 1 _ (r6.kp ((Kp.refl _).alloc _)) (rd_one _) Hp2.out (by decide) l6 (by decide) m6 (by decide) (by rw[val_limbs,val_one];exact Hp4.out)).mono ?_
       rintro e w7 ⟨a7,c7,rfl,l7,m7,r7,hk7⟩
       rw[val_limbs,val_one] at l7 r7 ⊢
       have hkk:=hid (((Kp.refl w3).alloc _).trans (hk6.trans (((Kp.refl _).alloc _).trans hk7)))
       have hM:=Make_any false a7 (limbs (2 ^ p-1)) c7 (16384-p) w7 r7 l7 m7 Hp3.out (by omega) (by omega) (hT3.kp hkk.out)
       rw[val_limbs,chk_of_ok hDok.out] at hM
       dsimp only at hM
       clear hk6 hk7
       go_wp2_with fail
       refine hM.mono ?_
       clear hM
       rintro e w5 ⟨a5,c5,rfl,r5,l5,m5,hk5⟩
       obtain⟨q0,q1,q2,f0,f1,f2⟩:=hB3.kp (hkk.out.trans hk5)
       have hk9:=hk3.trans (hkk.out.trans hk5)
       generalize canon false (2 ^ p-1) (16384-p)=D at *
       go_wp2_with fail
       have hst:=stored q0 q1 q2 nofun nofun nofun (.bool D.neg) (.slice a5 (limbs D.m).length c5) (.int .i64 D.e)
       generalize (((w5.setCell _ _).setCell _ _).setCell _ _)=W9 at hst ⊢
       obtain⟨s0,s1,s2,_,s4,s5,_,_⟩:=hst
       refine bodyPost_ret (v:=.tuple #[.agg #[.bool D.neg,.slice a5 (limbs D.m).length c5,.int .i64 D.e],.int .i64 0]) (by simp[results,Tryz.results293,go_sem,s0,s1,s2]) rfl ?_
       rw[HR.out]
       exact⟨rdOf D a5 c5,rfl,rdOf_rd hDok.out (s4 _ _ r5) l5 m5,rdOf_dy _ _ _,fun hd=>rdOf_vl hd _ _,s5 _ hk9 (by omega)⟩
     · have hdb:=decide_eq_false hbig
       have HR:=hid (show R=some (canon false q U) by rw[Hrc.out,HQ.out,if_neg (by omega)])
       have hDok:=hid (canon_isP (p:=p) (by omega) (by omega) hqp hu3 (by omega)).1
       have hM:=Make_any false a2 (limbs q) c2 U w3 r2 l2 m2 hql (by omega) (by omega) hT3
       rw[val_limbs,chk_of_ok hDok.out] at hM
       dsimp only at hM
       clear hqp
       go_wp2_with fail
       refine hM.mono ?_
       clear hM
       rintro e w5 ⟨a5,c5,rfl,r5,l5,m5,hk5⟩
       obtain⟨q0,q1,q2,f0,f1,f2⟩:=hB3.kp (hk5)
       have hk9:=hk3.trans (hk5)
       generalize canon false q U=D at *
       go_wp2_with fail
       have hst:=stored q0 q1 q2 nofun nofun nofun (.bool D.neg) (.slice a5 (limbs D.m).length c5) (.int .i64 D.e)
       generalize (((w5.setCell _ _).setCell _ _).setCell _ _)=W9 at hst ⊢
       obtain⟨s0,s1,s2,_,s4,s5,_,_⟩:=hst
       refine bodyPost_ret (v:=.tuple #[.agg #[.bool D.neg,.slice a5 (limbs D.m).length c5,.int .i64 D.e],.int .i64 0]) (by simp[results,Tryz.results293,go_sem,s0,s1,s2]) rfl ?_
       rw[HR.out]
       exact⟨rdOf D a5 c5,rfl,rdOf_rd hDok.out (s4 _ _ r5) l5 m5,rdOf_dy _ _ _,fun hd=>rdOf_vl hd _ _,s5 _ hk9 (by omega)⟩
   · first
     | (have HQ := hid (show Q = q from Hrq.out)
        have hqp:=Nat.le_of_lt Hlt.out
        have hql:=rq_len hqp hp1
        have hbq:bits q≤513:=Nat.le_trans (bits_mono hqp) (by rw[bits_two_pow];omega)
        have hBq:=bits_any a2 (limbs q) c2 w3 r2 l2 m2 (by omega)
        rw[val_limbs] at hBq
        go_wp2_with fail
        refine hBq.mono ?_
        rintro e w4 ⟨rfl,rfl⟩
        clear hBq
        by_cases hbig:16384<(bits q:Int)+U
        · have hdb:=decide_eq_true hbig
          have HR:=hid (show R=none by rw[Hrc.out,HQ.out,if_pos (by omega)];rfl)
          obtain⟨q0,q1,q2,f0,f1,f2⟩:=hB3
          go_wp2_with fail
          have hst:=stored q0 q1 q2 nofun nofun nofun (.bool false) (.slice none 0 0) (.int .i64 0)
          generalize (((w3.setCell _ _).setCell _ _).setCell _ _)=W9 at hst ⊢
          obtain⟨s0,s1,s2,_,s4,s5,_,_⟩:=hst
          refine bodyPost_ret (v:=.tuple #[.agg #[.bool false,.slice none 0 0,.int .i64 0],.int .i64 9]) (by simp[results,Tryz.results293,go_sem,s0,s1,s2]) rfl ?_
          rw[HR.out]
          exact numE_zero rfl (s5 _ hk3 (by omega))
        · have hdb:=decide_eq_false hbig
          have HR:=hid (show R=some (canon false q U) by rw[Hrc.out,HQ.out,if_neg (by omega)])
          have hDok:=hid (canon_isP (p:=p) (by omega) (by omega) hqp hu3 (by omega)).1
          have hM:=Make_any false a2 (limbs q) c2 U w3 r2 l2 m2 hql (by omega) (by omega) hT3
          rw[val_limbs,chk_of_ok hDok.out] at hM
          dsimp only at hM
          clear hqp
          go_wp2_with fail
          refine hM.mono ?_
          clear hM
          rintro e w5 ⟨a5,c5,rfl,r5,l5,m5,hk5⟩
          obtain⟨q0,q1,q2,f0,f1,f2⟩:=hB3.kp (hk5)
          have hk9:=hk3.trans (hk5)
          generalize canon false q U=D at *
          go_wp2_with fail
          have hst:=stored q0 q1 q2 nofun nofun nofun (.bool D.neg) (.slice a5 (limbs D.m).length c5) (.int .i64 D.e)
          generalize (((w5.setCell _ _).setCell _ _).setCell _ _)=W9 at hst ⊢
          obtain⟨s0,s1,s2,_,s4,s5,_,_⟩:=hst
          refine bodyPost_ret (v:=.tuple #[.agg #[.bool D.neg,.slice a5 (limbs D.m).length c5,.int .i64 D.e],.int .i64 0]) (by simp[results,Tryz.results293,go_sem,s0,s1,s2]) rfl ?_
          rw[HR.out]
          exact⟨rdOf D a5 c5,rfl,rdOf_rd hDok.out (s4 _ _ r5) l5 m5,rdOf_dy _ _ _,fun hd=>rdOf_vl hd _ _,s5 _ hk9 (by omega)⟩)
     | (have HQ := hid (show Q = q + 1 from Hrq.out)
        have hqp1:q+1≤2 ^ p:=Hlt.out
        go_wp2_with fail
        refine (Add_any a2 _ (limbs q) [1] c2 1 _ (r2.kp ((Kp.refl _).alloc _)) (rd_one _) (rq_len (Nat.le_of_lt Hlt.out) hp1) (by decide) (by rw[val_limbs,val_one];exact rq_len hqp1 hp1)).mono ?_
        clear r2 l2 m2
        rintro e w3 ⟨a2,c2,rfl,l2,m2,r2,hk6⟩
        rw[val_limbs,val_one] at l2 r2 ⊢
        have hk6':=((Kp.refl _).alloc _).trans hk6
        replace hk3:=hk3.trans hk6'
        replace hT3:=hT3.kp hk6'
        replace hB3:=hB3.kp hk6'
        clear hk6 hk6'
        have hqp:=hqp1
        clear hqp1
        have hql:=rq_len hqp hp1
        have hbq:bits (q+1)≤513:=Nat.le_trans (bits_mono hqp) (by rw[bits_two_pow];omega)
        have hBq:=bits_any a2 (limbs (q+1)) c2 w3 r2 l2 m2 (by omega)
        rw[val_limbs] at hBq
        go_wp2_with fail
        refine hBq.mono ?_
        rintro e w4 ⟨rfl,rfl⟩
        clear hBq
        by_cases hbig:16384<(bits (q+1):Int)+U
        · have hdb:=decide_eq_true hbig
          have HR:=hid (show R=none by rw[Hrc.out,HQ.out,if_pos (by omega)];rfl)
          obtain⟨q0,q1,q2,f0,f1,f2⟩:=hB3
          go_wp2_with fail
          have hst:=stored q0 q1 q2 nofun nofun nofun (.bool false) (.slice none 0 0) (.int .i64 0)
          generalize (((w3.setCell _ _).setCell _ _).setCell _ _)=W9 at hst ⊢
          obtain⟨s0,s1,s2,_,s4,s5,_,_⟩:=hst
          refine bodyPost_ret (v:=.tuple #[.agg #[.bool false,.slice none 0 0,.int .i64 0],.int .i64 9]) (by simp[results,Tryz.results293,go_sem,s0,s1,s2]) rfl ?_
          rw[HR.out]
          exact numE_zero rfl (s5 _ hk3 (by omega))
        · have hdb:=decide_eq_false hbig
          have HR:=hid (show R=some (canon false (q+1) U) by rw[Hrc.out,HQ.out,if_neg (by omega)])
          have hDok:=hid (canon_isP (p:=p) (by omega) (by omega) hqp hu3 (by omega)).1
          have hM:=Make_any false a2 (limbs (q+1)) c2 U w3 r2 l2 m2 hql (by omega) (by omega) hT3
          rw[val_limbs,chk_of_ok hDok.out] at hM
          dsimp only at hM
          clear hqp
          go_wp2_with fail
          refine hM.mono ?_
          clear hM
          rintro e w5 ⟨a5,c5,rfl,r5,l5,m5,hk5⟩
          obtain⟨q0,q1,q2,f0,f1,f2⟩:=hB3.kp (hk5)
          have hk9:=hk3.trans (hk5)
          generalize canon false (q+1) U=D at *
          go_wp2_with fail
          have hst:=stored q0 q1 q2 nofun nofun nofun (.bool D.neg) (.slice a5 (limbs D.m).length c5) (.int .i64 D.e)
          generalize (((w5.setCell _ _).setCell _ _).setCell _ _)=W9 at hst ⊢
          obtain⟨s0,s1,s2,_,s4,s5,_,_⟩:=hst
          refine bodyPost_ret (v:=.tuple #[.agg #[.bool D.neg,.slice a5 (limbs D.m).length c5,.int .i64 D.e],.int .i64 0]) (by simp[results,Tryz.results293,go_sem,s0,s1,s2]) rfl ?_
          rw[HR.out]
          exact⟨rdOf D a5 c5,rfl,rdOf_rd hDok.out (s4 _ _ r5) l5 m5,rdOf_dy _ _ _,fun hd=>rdOf_vl hd _ _,s5 _ hk9 (by omega)⟩)
end Go.Proofs.YteidgoldnllabaaGreatDoor
