/-
  Walks: ProblemStarts.
-/
import Derived.Test.YteidgoldnllabaaGreatDoorTRchN
import Derived.Test.YteidgoldnllabaaGreatDoorTRcpN
import Derived.Test.YteidgoldnllabaaGreatDoorTStaN
set_option maxHeartbeats 16000000
set_option maxRecDepth 20000
namespace Go.Proofs.YteidgoldnllabaaGreatDoor
open Go.RowKit Go.Sort
theorem sta_box {w:World} {p:Pr} {prec:Int} {zs:List RI} {k:Nat} {z:RI} (hm:zs.map valI=staV p prec) (hz:zs[k]? = some z) (hr:z.rd w) (hv:z.lo.vl=true∧z.hi.vl=true) :
  ∃ d,p.ss[k]? = some d∧(ratB d.ln d.ld=true∧ratB d.hn d.hd=true)∧(0≤cmpV d.ln d.ld z.lo.dy∧cmpV d.hn d.hd z.hi.dy≤0)∧z.ok w:=by
 have h1:(zs.map valI)[k]? = some (valI z):=by rw[List.getElem?_map,hz];rfl
 rw[hm] at h1
 unfold staV at h1
 split at h1
 rotate_left
 ·rw[List.getElem?_nil] at h1;cases h1
 rename_i he
 have hf:okF p=true:=by
  cases hf:okF p
  ·unfold staE at he;rw[if_pos hf] at he;cases he
  ·rfl
 have hb:preB prec=true:=by
  cases hb:preB prec
  ·unfold staE at he;rw[if_neg (by rw[hf];decide),if_pos hb] at he;cases he
  ·rfl
 have hpp:=preB_iff.1 hb
 rw[List.getElem?_map] at h1
 cases hd:p.ss[k]? with
 | none=>rw[hd] at h1;cases h1
 | some d =>
 rw[hd] at h1
 have h2:rngV prec.toNat d=valI z:=by injection h1
 have hdm:d∈p.ss++p.ps:=List.mem_append_left _ (List.mem_of_getElem? hd)
 have hdb:=probB_de (okF_prob hf) d hdm
 obtain⟨r1,r2⟩:=declB_rat hdb
 obtain⟨lo1,hi1,e1,a1,b1⟩:=enc_q (p:=prec.toNat) r1 (by omega) (by omega)
 obtain⟨lo2,hi2,e2',a2,b2⟩:=enc_q (p:=prec.toNat) r2 (by omega) (by omega)
 have h3:=rng_le (p:=prec.toNat) hdb (okF_rng hf d hdm) (by omega) (by omega)
 have a4:z.all=false:=(congrArg (fun q=>q.2.2) h2).symm
 have a5:(rngV prec.toNat d).1=z.lo.dy:=congrArg Prod.fst h2
 have a6:(rngV prec.toNat d).2.1=z.hi.dy:=congrArg (fun q=>q.2.1) h2
 rw[a5,a6] at h3
 have a7:z.lo.dy=lo1:=by rw[← a5];unfold rngV;rw[e1]
 have a8:z.hi.dy=hi2:=by rw[← a6];unfold rngV;rw[e2']
 have h4:z.lo.iv≤z.hi.iv:=h3
 have h5:¬ 0<cmpZ z.lo.iv z.hi.iv:=fun h=>by have:=cmpZ_gt.1 h;omega
 refine⟨d,rfl,⟨r1,r2⟩,⟨(cmpV_spec r1 (rdok_dy ⟨hr.1,hv.1⟩)).1 (by rw[a7];exact a1),(cmpV_spec r2 (rdok_dy ⟨hr.2,hv.2⟩)).2 (by rw[a8];exact b2)⟩,hr,a4,?_⟩
 unfold RI.vl
 rw[a4,hv.1,hv.2,decide_eq_true (by omega)]
 rfl
theorem sta_all {p:Pr} {prec:Int}:∀ v∈staV p prec,v.2.2=false:=by
 unfold staV
 split
 ·intro v hv
  obtain⟨d,_,rfl⟩:=List.mem_map.1 hv
  rfl
 intro v hv;cases hv
theorem sta_len {p:Pr} {prec:Int}:(staV p prec).length≤p.ss.length:=by
 unfold staV
 split
 ·rw[List.length_map];exact Nat.le_refl _
 exact Nat.zero_le _
theorem keep6S {w w':World} (k:Kp w w') {p0 p1 p2 p3 p4 p5:Addr} {v0 v1 v2 v3 v4 v5:Value} (h:w.cell? p0=some v0∧w.cell? p1=some v1∧w.cell? p2=some v2∧w.cell? p3=some v3∧w.cell? p4=some v4∧w.cell? p5=some v5) :
  w'.cell? p0=some v0∧w'.cell? p1=some v1∧w'.cell? p2=some v2∧w'.cell? p3=some v3∧w'.cell? p4=some v4∧w'.cell? p5=some v5:=⟨k.cell h.1,k.cell h.2.1,k.cell h.2.2.1,k.cell h.2.2.2.1,k.cell h.2.2.2.2.1,k.cell h.2.2.2.2.2⟩
theorem Starts_ok (p:Pr) (prec:Int) (w:World) (hat:p.at w w.heap.size) (hT:Tab w) :
  Calls Tryz.prog 12 #[.agg #[.slice p.sa p.ss.length p.sc,.slice p.pa p.ps.length p.pc,.slice p.ma p.ms.length p.mc,.int .i64 p.tn,.int .i64 p.td],.int .i64 prec] w fun r w'=>r=.returned (.bool true)∧Kp w w':=by
 have k1:Kp w (w.alloc (.cells #[.slice p.sa p.ss.length p.sc,.slice p.pa p.ps.length p.pc,.slice p.ma p.ms.length p.mc,.int .i64 p.tn,.int .i64 p.td] 27)):=(Kp.refl w).alloc _
 have h0:BoxV (w.alloc (.cells #[.slice p.sa p.ss.length p.sc,.slice p.pa p.ps.length p.pc,.slice p.ma p.ms.length p.mc,.int .i64 p.tn,.int .i64 p.td] 27)) w.heap.size p.cells:=BoxV.new w p.cells _ _ rfl
 go_enter Tryz.func12,Tryz.ntmps12
 go_upto_region 1 with fail
 generalize w.alloc _=W at *
 have HAW:=Lib.hid (awakeq_any W (hT.kp k1))
 have HAT:=Lib.hid (Pr.at_kp hat k1)
 have HBW:=Lib.hid k1.size
 have HSm:=Lib.hid fun W' (k:Kp W W')=>small_any p W' w.heap.size (Pr.at_kp HAT.out k) (Nat.le_trans HBW.out k.size)
 have H0:=Lib.hid h0
 have K1:=Lib.hid k1
 have HSy:=Lib.hid fun W' (k:Kp W W')=>pstart_any p prec W' w.heap.size (Pr.at_kp HAT.out k) (Nat.le_trans HBW.out k.size) (hT.kp (k1.trans k))
 have HRy:=Lib.hid fun W' (k:Kp W W')=>r16start_any p prec W' w.heap.size (Pr.at_kp HAT.out k) (hT.kp (k1.trans k))
 clear h0 k1 hat hT
 go_upto_region 3 with (first | (go_at_call 13;go_fit HAW.out;rintro r w2 ⟨rfl,k2⟩) | fail)
 have hq:=H0.out.kp k2
 have q0:=hq.cell 0 rfl;have q1:=hq.cell 1 rfl;have q2:=hq.cell 2 rfl;have q3:=hq.cell 3 rfl;have q4:=hq.cell 4 rfl
 have K2:=Lib.hid k2
 clear hq k2
 by_cases hpr:(200:Int)<prec
 ·go_wp2_with (first | (go_at_call 14;go_fit (HSm.out w2 K2.out);rintro r w3 ⟨b,rfl,k3⟩;cases b) | fail)
  all_goals
   go_ret
   exact⟨rfl,K1.out.trans (K2.out.trans k3)⟩
 go_upto_region 5 with (first | (go_at_call 14;go_fit (HSm.out w2 K2.out);rintro r w3 ⟨b,rfl,k3⟩;cases b) | fail)
 ·go_ret
  exact⟨rfl,K1.out.trans (K2.out.trans k3)⟩
 have K3:=Lib.hid (K2.out.trans k3)
 clear q0 q1 q2 q3 q4 k3
 have hq:=H0.out.kp K3.out
 have q0:=hq.cell 0 rfl;have q1:=hq.cell 1 rfl;have q2:=hq.cell 2 rfl;have q3:=hq.cell 3 rfl;have q4:=hq.cell 4 rfl
 clear hq
 go_upto_region 6 with (first | (go_at_call 38;go_fit (HSy.out w3 K3.out);rintro r w4 ⟨v,zs,rfl,hO,hm,hv⟩) | fail)
 obtain⟨za,zc,rfl,_,_,hR⟩:=hO.value
 have K4:=Lib.hid (K3.out.trans hO.1)
 have HZ:=Lib.hid (And.intro hR (And.intro hm hv))
 clear q0 q1 q2 q3 q4 hO hR hm hv
 have hq:=H0.out.kp K4.out
 have q0:=hq.cell 0 rfl;have q1:=hq.cell 1 rfl;have q2:=hq.cell 2 rfl;have q3:=hq.cell 3 rfl;have q4:=hq.cell 4 rfl
 clear hq
 go_upto_region 7 with (first | (go_at_call 54;go_fit (HRy.out w4 K4.out);rintro r w5 ⟨v,ys,rfl,hO,hm,hv⟩) | fail)
 obtain⟨ya,yc,rfl,_,_,hR⟩:=hO.value
 have K5:=Lib.hid (K4.out.trans hO.1)
 have hzl:zs.length≤p.ss.length:=by
  have:=congrArg List.length HZ.out.2.1
  rw[List.length_map] at this
  rw[this];exact sta_len
 have hyl:ys.length=zs.length:=by
  have h1:=congrArg List.length HZ.out.2.1
  have h2:=congrArg List.length hm
  rw[List.length_map] at h1 h2
  omega
 have hzb:=Lib.hid (show zs.length≤1048576 from Nat.le_trans hzl HAT.out.1.1)
 have HR5:=Lib.hid (HZ.out.1.kp hO.1)
 have HB:=Lib.hid (boxes_same zs ys zs.length za ya zc yc w5 HR5.out hR (by have:=hzb.out;omega) rfl hyl (HZ.out.2.1.trans hm.symm) HZ.out.2.2 hv (fun z hz=>sta_all (valI z) (by rw[← HZ.out.2.1];exact List.mem_map_of_mem hz)))
 rw[hyl]
 clear q0 q1 q2 q3 q4 hO hR hm hv hyl
 go_upto_region 10 with (first | (go_at_call 48;go_fit HB.out;rintro r w6 ⟨rfl,k6⟩) | fail)
 have K6:=Lib.hid (K5.out.trans k6)
 have HR6:=Lib.hid (HR5.out.kp k6)
 clear k6
 go_loopw [46] (fun x wr=>∃ k:Nat,k≤zs.length∧x=.int .i64 k∧Kp w6 wr) (fun x _=>zs.length-(intOf x).toNat)
 case atStart=>exact⟨0,Nat.zero_le _,rfl,Kp.refl _⟩
 case round =>
 obtain⟨k,hk,rfl,hkw⟩:=hrel
 have hzn:=hzb.out
 by_cases hlt:k<zs.length
 rotate_left
 ·go_wp2_with fail
  go_ret
  exact⟨rfl,K1.out.trans (K6.out.trans hkw)⟩
 obtain⟨z,hz⟩:∃ z,zs[k]? = some z:=⟨_,List.getElem?_eq_getElem hlt⟩
 obtain⟨bx,ox,hax,hzr,x0,x1,x2,x3,x4,x5,x6⟩:=HR6.out.kp hkw k z hz
 obtain⟨d,hd,hrt,hc,hzo⟩:=sta_box HZ.out.2.1 hz hzr (HZ.out.2.2 z (List.mem_of_getElem? hz))
 have hlp:k<p.ss.length:=Nat.lt_of_lt_of_le hlt hzl
 have hsn:=HAT.out.1.1
 have HKW:=Lib.hid (K6.out.trans hkw)
 obtain⟨b,o,ha,_,hcs⟩:=HAT.out.2.1.1.kp HKW.out k d hd
 have hq:=H0.out.kp HKW.out
 have q0:=hq.cell 0 rfl
 clear hq
 rw[ha] at q0
 have s0:wr.cell? ⟨b,o+k*5,none⟩=some (.string d.name):=hcs 0 _ rfl;have s1:=hcs 1 _ rfl;have s2:=hcs 2 _ rfl;have s3:=hcs 3 _ rfl;have s4:=hcs 4 _ rfl
 have Hax:=Lib.hid hax
 rw[hax]
 have HC:=Lib.hid hc
 have HRt:=Lib.hid hrt
 have HZo:=Lib.hid hzo
 have HKw:=Lib.hid hkw
 clear hcs hax ha hz hd hc hrt hzo hzr hkw
 go_upto_region 12 with fail
 have hSd:wr.drew.cell? ⟨w.heap.size,0,none⟩=some (.slice (some ⟨b,o,none⟩) p.ss.length p.sc)∧wr.drew.cell? ⟨b,o+k*5+1,none⟩=some (.int .i64 d.ln)∧wr.drew.cell? ⟨b,o+k*5+2,none⟩=some (.int .i64 d.ld)∧wr.drew.cell? ⟨bx,ox+k*7,none⟩=some (.bool z.lo.neg)∧wr.drew.cell? ⟨bx,ox+k*7+1,none⟩=some (.slice z.lo.a z.lo.xs.length z.lo.c)∧wr.drew.cell? ⟨bx,ox+k*7+2,none⟩=some (.int .i64 z.lo.e):=keep6S (Kp.refl wr).drew ⟨q0,s1,s2,x0,x1,x2⟩
 have HD:=Lib.hid hSd
 refine wp_region_held_drew (S:=fun w'=>w'.cell? ⟨w.heap.size,0,none⟩=some (.slice (some ⟨b,o,none⟩) p.ss.length p.sc)∧w'.cell? ⟨b,o+k*5+1,none⟩=some (.int .i64 d.ln)∧w'.cell? ⟨b,o+k*5+2,none⟩=some (.int .i64 d.ld)∧w'.cell? ⟨bx,ox+k*7,none⟩=some (.bool z.lo.neg)∧w'.cell? ⟨bx,ox+k*7+1,none⟩=some (.slice z.lo.a z.lo.xs.length z.lo.c)∧w'.cell? ⟨bx,ox+k*7+2,none⟩=some (.int .i64 z.lo.e)) (by kernel_rfl) hSd (fun hHeld=>?_)
 clear hSd
 refine tk 0 ?_;refine tk 1 ?_;refine tk 2 ?_;refine tk 3 ?_;refine tk 4 ?_;refine tk 5 ?_;refine tk 6 ?_;refine tk 7 ?_;refine tk 8 ?_;refine tk 9 ?_;refine tk 10 ?_;refine tk 11 ?_;(try simp only[aput])
 refine cm 12 (fun K hK=>?_)
 (go_simp;go_fit (qcompare_any d.ln d.ld z.lo wr.drew HRt.out.1 HZo.out.lo.drew);rintro r v1 ⟨rfl,j1⟩)
 refine hK.out _ _ (keep6S j1 HD.out) (fun hHeld=>?_);clear hK K HD
 refine tk 13 ?_;refine tk 14 ?_;refine tk 15 ?_;refine tk 16 ?_;(try simp only[aput])
 refine cm 17 (fun K hK=>?_)
 go_simp
 refine hK.out _ _ (by assumption) (fun hHeld=>?_);clear hK K
 refine wpAnyH_done (by kernel_rfl) ?_ _
 have J1:=Lib.hid ((Kp.refl wr).drew.trans j1)
 clear j1
 go_upto_region 13 with fail
 have hSd:v1.drew.cell? ⟨w.heap.size,0,none⟩=some (.slice (some ⟨b,o,none⟩) p.ss.length p.sc)∧v1.drew.cell? ⟨b,o+k*5+3,none⟩=some (.int .i64 d.hn)∧v1.drew.cell? ⟨b,o+k*5+4,none⟩=some (.int .i64 d.hd)∧v1.drew.cell? ⟨bx,ox+k*7+3,none⟩=some (.bool z.hi.neg)∧v1.drew.cell? ⟨bx,ox+k*7+4,none⟩=some (.slice z.hi.a z.hi.xs.length z.hi.c)∧v1.drew.cell? ⟨bx,ox+k*7+5,none⟩=some (.int .i64 z.hi.e):=keep6S (J1.out.drew) ⟨q0,s3,s4,x3,x4,x5⟩
 have HD:=Lib.hid hSd
 refine wp_region_held_drew (S:=fun w'=>w'.cell? ⟨w.heap.size,0,none⟩=some (.slice (some ⟨b,o,none⟩) p.ss.length p.sc)∧w'.cell? ⟨b,o+k*5+3,none⟩=some (.int .i64 d.hn)∧w'.cell? ⟨b,o+k*5+4,none⟩=some (.int .i64 d.hd)∧w'.cell? ⟨bx,ox+k*7+3,none⟩=some (.bool z.hi.neg)∧w'.cell? ⟨bx,ox+k*7+4,none⟩=some (.slice z.hi.a z.hi.xs.length z.hi.c)∧w'.cell? ⟨bx,ox+k*7+5,none⟩=some (.int .i64 z.hi.e)) (by kernel_rfl) hSd (fun hHeld=>?_)
 clear hSd
 refine tk 0 ?_;refine tk 1 ?_;refine tk 2 ?_;refine tk 3 ?_;refine tk 4 ?_;refine tk 5 ?_;refine tk 6 ?_;refine tk 7 ?_;refine tk 8 ?_;refine tk 9 ?_;refine tk 10 ?_;refine tk 11 ?_;(try simp only[aput])
 refine cm 12 (fun K hK=>?_)
 (go_simp;go_fit (qcompare_any d.hn d.hd z.hi v1.drew HRt.out.2 ((HZo.out.hi.kp J1.out).drew));rintro r v2 ⟨rfl,j2⟩)
 refine hK.out _ _ (keep6S j2 HD.out) (fun hHeld=>?_);clear hK K HD
 refine tk 13 ?_;refine tk 14 ?_;refine tk 15 ?_;refine tk 16 ?_;(try simp only[aput])
 refine cm 17 (fun K hK=>?_)
 go_simp
 refine hK.out _ _ (by assumption) (fun hHeld=>?_);clear hK K
 refine wpAnyH_done (by kernel_rfl) ?_ _
 have J2:=Lib.hid (J1.out.drew.trans j2)
 clear j2
 have hc1:=HC.out.1
 have hc2:=HC.out.2
 generalize cmpV d.ln d.ld z.lo.dy=C1 at *
 generalize cmpV d.hn d.hd z.hi.dy=C2 at *
 rw[HZo.out.2.1] at x6
 have y0:=J2.out.cell x0
 have y1:=J2.out.cell x1
 have y2:=J2.out.cell x2
 have y3:=J2.out.cell x3
 have y4:=J2.out.cell x4
 have y5:=J2.out.cell x5
 have y6:=J2.out.cell x6
 clear x0 x1 x2 x3 x4 x5 x6 q0 s0 s1 s2 s3 s4
 go_wp2_with (first
  | (go_at_call 56;go_fit (IValid_ok z v2 (HZo.out.kp J2.out));rintro r v3 ⟨rfl,j3⟩)
  | fail)
 go_roundw
 case measure=>simp only[intOf];omega
 case rel=>exact⟨k+1,by omega,by go_num,HKw.out.trans (J2.out.trans j3)⟩
end Go.Proofs.YteidgoldnllabaaGreatDoor
