/-
  Walks: problem.Check, Valid.
-/
import Derived.Defers
import Derived.Recover
import Derived.Test.YteidgoldnllabaaGreatDoorTBoxV
import Derived.Test.YteidgoldnllabaaGreatDoorTCmpR
set_option maxHeartbeats 16000000
set_option maxRecDepth 20000
namespace Go.Proofs.YteidgoldnllabaaGreatDoor
open Go.RowKit Go.Sort
theorem run_is_stop (c:Int) (s:ByteArray) (w:World):(Instr.typeAssert (fltV c s) 20 131 true).run Tryz.prog w=.ok (.tuple #[.agg #[.int .i64 c,.string s],.bool true]) w:=by kernel_rfl
def fltT:Flt→Value
 | none=>.agg #[.int .i64 0,.string ⟨#[]⟩]
 | some x=>.agg #[.int .i64 x.1,.string x.2]
theorem checkF_eq (p:Pr):checkF p=orF (needF (probB p) 1 ByteArray.empty) (orF (onceF [] (allN p)) (orF (onceF [] (mdN p)) (orF (rngF (p.ss++p.ps)) (orF (needF (decide (0<p.tn)) 2 ByteArray.empty) (modesF (stN p) (allN p) (mdN p) p.ms))))):=rfl
theorem catch_stop (fb gb:Nat) (c:Int) (s:ByteArray) (older:List PanicEntry) (w:World) (v0 v1 v2:Value) (hF:BoxV w fb [v0,v1]) (hG:BoxV w gb [v2]) (hne:fb≠gb) :
  CallsD Tryz.prog 60 #[.pointer (some ⟨fb,0,none⟩),.pointer (some ⟨gb,0,none⟩)] (.panicking ({ v:=fltV c s,recovered:=false }::older)) w fun e u' w' =>
   e=.returned (.tuple #[])∧u'=.panicking ({ v:=fltV c s,recovered:=true }::older)∧BoxV w' fb [.int .i64 c,.string s]∧BoxV w' gb [.bool true]∧∀ a:World,Kp a w→a.heap.size≤fb→a.heap.size≤gb→Kp a w':=by
 have k1:Kp w (w.alloc (.cells #[.int .i64 c,.string s] 131)):=(Kp.refl w).alloc _
 have HF:=Lib.hid (hF.kp k1)
 have HG:=Lib.hid (hG.kp k1)
 have e0:(w.alloc (.cells #[.int .i64 c,.string s] 131)).cell? ⟨fb,0,none⟩=some v0:=HF.out.cell 0 rfl
 have e1:(w.alloc (.cells #[.int .i64 c,.string s] 131)).cell? ⟨fb,1,none⟩=some v1:=HF.out.cell 1 rfl
 have e2:(w.alloc (.cells #[.int .i64 c,.string s] 131)).cell? ⟨gb,0,none⟩=some v2:=HG.out.cell 0 rfl
 have f0:=HF.out.2.1 0
 have f1:=HF.out.2.1 1
 have f2:=HG.out.2.1 0
 have hne2:¬ gb=fb:=fun e=>hne e.symm
 have hta:=run_is_stop
 clear hF hG
 refine callsD_of_wpS Tryz.func60 rfl fun c₀ cs hu=>?_
 apply wpS_seq
 apply wpS_region
 simp[wpOpsS,go_sem,recoverD,hu,Tryz.ntmps60,Exit.thenS]
 refine wpS_of_wp ?_
 generalize hQ:(fun (e:Exit) (a':Act) (w':World)=>bodyPostS Tryz.prog Tryz.f60 c₀ cs _ e a' _ w')=Q
 have HQ:=Lib.hid hQ
 clear hQ hu
 simp only[Array.replicate_succ,Array.replicate_zero,List.push_toArray,List.append_toArray,List.nil_append,List.cons_append,List.setIfInBounds_toArray,List.set_cons_zero,List.set_cons_succ]
 go_upto_region 2 with fail
 go_wp2
 rw[← HQ.out]
 have b1:=((HF.out.set (i:=0) (by simp) (.int .i64 c)).set (i:=1) (by simp) (.string s)).other (i:=0) hne (.bool true)
 have b2:=((HG.out.other (i:=0) hne2 (.int .i64 c)).other (i:=1) hne2 (.string s)).set (i:=0) (by simp) (.bool true)
 have kk:∀ a:World,Kp a w→a.heap.size≤fb→a.heap.size≤gb→Kp a ((((w.alloc (.cells #[.int .i64 c,.string s] 131)).setCell ⟨fb,0,none⟩ (.int .i64 c)).setCell ⟨fb,1,none⟩ (.string s)).setCell ⟨gb,0,none⟩ (.bool true)):=fun a h h1 h2=>(((h.alloc _).set h1 _).set h1 _).set h2 _
 clear HF HG e0 e1 e2 f0 f1 f2 k1 hta HQ
 exact⟨rfl,_,rfl,_,results_none rfl _ _ _,rfl,rfl,b1,b2,kk⟩
theorem catch_idle (fb gb:Nat) (w:World) :
  CallsD Tryz.prog 60 #[.pointer (some ⟨fb,0,none⟩),.pointer (some ⟨gb,0,none⟩)] .returning w fun e u' w'=>e=.returned (.tuple #[])∧u'=.returning∧w'=w:=by
 refine callsD_of_wpS Tryz.func60 rfl fun c₀ cs hu=>?_
 apply wpS_seq
 apply wpS_region
 simp[wpOpsS,go_sem,recoverD,hu,Tryz.ntmps60,Exit.thenS]
 refine wpS_of_wp ?_
 generalize hQ:(fun (e:Exit) (a':Act) (w':World)=>bodyPostS Tryz.prog Tryz.f60 c₀ cs _ e a' _ w')=Q
 have HQ:=Lib.hid hQ
 simp only[Array.replicate_succ,Array.replicate_zero,List.push_toArray,List.append_toArray,List.nil_append,List.cons_append,List.setIfInBounds_toArray,List.set_cons_zero,List.set_cons_succ]
 clear hQ
 go_wp2
 rw[← HQ.out]
 exact⟨rfl,.returning,by cases c₀;simp_all,_,results_none rfl _ _ _,rfl,rfl,rfl⟩
theorem probB_ss {p:Pr} (h:probB p=true):1≤p.ss.length∧p.ss.length≤4∧p.ps.length≤4∧p.ms.length≤8:=by
 unfold probB at h
 simp only[Bool.and_eq_true,decide_eq_true_eq] at h
 exact⟨h.1.1.1,h.1.1.2,h.1.2.1,h.1.2.2.2⟩
theorem probB_de {p:Pr} (h:probB p=true):∀ d∈p.ss++p.ps,declB d=true:=by
 unfold probB at h
 simp only[Bool.and_eq_true,List.all_eq_true] at h
 intro d hd
 rcases List.mem_append.1 hd with hd | hd
 ·exact h.2.1 d hd
 exact h.2.2.1 d hd
theorem rngF_step {ds:List De} {k:Nat} {d:De} (h:ds[k]? = some d) (hv:declB d=true) (R:Flt):orF (rngF (ds.drop k)) R=orF (needF (decide (ordZ (d.ln*d.hd) (d.hn*d.ld)≤0)) 2 d.name) (orF (rngF (ds.drop (k+1))) R):=by
 rw[drop_eq h,← orF_assoc]
 have h2:ratC d.ln d.ld d.hn d.hd=ordZ (d.ln*d.hd) (d.hn*d.ld):=by
  unfold declB at hv
  simp only[Bool.and_eq_true] at hv
  unfold ratC
  rw[if_pos ⟨hv.2.1,hv.2.2⟩];rfl
 show orF (orF (needF (decide (ratC d.ln d.ld d.hn d.hd≤0)) 2 d.name) (rngF (ds.drop (k+1)))) R=_
 rw[h2]
theorem modesF_step {st all mds:List ByteArray} {ms:List Mo} {k:Nat} {m:Mo} (h:ms[k]? = some m):modesF st all mds (ms.drop k)=orF (modeF st all mds m) (modesF st all mds (ms.drop (k+1))):=by
 rw[drop_eq h];rfl
theorem keep5 {w w':World} (k:Kp w w') {p0 p1 p2 p3 p4:Addr} {v0 v1 v2 v3 v4:Value} (h:w.cell? p0=some v0∧w.cell? p1=some v1∧w.cell? p2=some v2∧w.cell? p3=some v3∧w.cell? p4=some v4) :
  w'.cell? p0=some v0∧w'.cell? p1=some v1∧w'.cell? p2=some v2∧w'.cell? p3=some v3∧w'.cell? p4=some v4:=⟨k.cell h.1,k.cell h.2.1,k.cell h.2.2.1,k.cell h.2.2.2.1,k.cell h.2.2.2.2⟩
theorem declB_rat {d:De} (h:declB d=true):ratB d.ln d.ld=true∧ratB d.hn d.hd=true:=by
 unfold declB at h
 simp only[Bool.and_eq_true] at h
 exact h.2
theorem door_ret (tm:Array Value) (n:Nat) (w w2:World) (e:Exit) (he:e=.ret∨e=.normal) (h2:tm[2]?.getD undef=.pointer (some ⟨n+1,0,none⟩)) (h3:tm[3]?.getD undef=.pointer (some ⟨n+1+1,0,none⟩))
  (hF:BoxV w2 (n+1) [.int .i64 0,.string ⟨#[]⟩]) (hG:BoxV w2 (n+1+1) [.bool false]) (hK:Kp w w2) :
  bodyPostD Tryz.prog Tryz.f15 (fun r w'=>r=.returned (.tuple #[fltT none,.bool (none:Flt).isSome])∧Kp w w') e
   { tmps:=tm,defers:=[{ target:=.fn (.func 60) #[.pointer (some ⟨n+1,0,none⟩),.pointer (some ⟨n+1+1,0,none⟩)],args:=#[] }] } w2:=by
 have c0:=hF.cell 0 rfl
 have c1:=hF.cell 1 rfl
 have c2:=hG.cell 0 rfl
 rcases he with rfl | rfl
 ·refine leaves_cons (f:=60) (args:=#[.pointer (some ⟨n+1,0,none⟩),.pointer (some ⟨n+1+1,0,none⟩)]) (by simp) (by simp[go_sem]) ?_
  refine (catch_idle (n+1) (n+1+1) w2).mono ?_
  rintro e u' w'' ⟨rfl,rfl,rfl⟩
  simp[Leaves,settle,results,Tryz.results15,go_sem,h2,h3,c0,c1,c2]
  exact⟨rfl,hK⟩
 refine leaves_cons (f:=60) (args:=#[.pointer (some ⟨n+1,0,none⟩),.pointer (some ⟨n+1+1,0,none⟩)]) (by simp) (by simp[go_sem]) ?_
 refine (catch_idle (n+1) (n+1+1) w2).mono ?_
 rintro e u' w'' ⟨rfl,rfl,rfl⟩
 simp[Leaves,settle,results,Tryz.results15,go_sem,h2,h3,c0,c1,c2]
 exact⟨rfl,hK⟩
theorem leaves_same {P:Program} {fn:Func} {tm tm':Array Value} (h:results fn tm=results fn tm') (R:Ending→World→Prop):∀ (ds:List Deferred) (u:FrameMode) (w:World),Leaves P fn tm R ds u w→Leaves P fn tm' R ds u w
 | [],.returning,w,hl=>by
  unfold Leaves at *
  rw[← h];exact hl
 | [],.panicking _,w,hl=>hl
 | [],.run,w,hl=>hl
 | d::ds,u,w,hl=>by
  unfold Leaves at *
  obtain⟨h1,fv,cap,f,args,h2,h3,h4⟩:=hl
  refine⟨h1,fv,cap,f,args,h2,h3,h4.mono fun e u' w' he=>?_⟩
  cases e with
  | returned v=>exact leaves_same h R ds _ _ he
  | panicked c=>exact leaves_same h R ds _ _ he
  | outgrown=>exact he
theorem res_put (tm:Array Value) (d:Nat) (v:Value) (h2:d≠2) (h3:d≠3):results Tryz.f15 (tm.setIfInBounds d v)=results Tryz.f15 tm:=by
 simp[results,Tryz.results15,Array.getElem?_setIfInBounds_ne,h2,h3]
theorem door_put {R:Ending→World→Prop} {c:List PanicEntry} {a:Act} {w:World} {d:Nat} {v:Value} (h2:d≠2) (h3:d≠3)
  (h:bodyPostD Tryz.prog Tryz.f15 R (.panic c) (a.put (some d) v) w):bodyPostD Tryz.prog Tryz.f15 R (.panic c) a w :=
 leaves_same (res_put a.tmps d v h2 h3) R a.defers _ w h
theorem door_stop (F:Flt) (c:Int) (s:ByteArray) (tm:Array Value) (n:Nat) (w w2:World) (v0 v1 v2:Value) (h2:tm[2]?.getD undef=.pointer (some ⟨n+1,0,none⟩)) (h3:tm[3]?.getD undef=.pointer (some ⟨n+1+1,0,none⟩))
  (hF:BoxV w2 (n+1) [v0,v1]) (hG:BoxV w2 (n+1+1) [v2]) (hK:Kp w w2) (hn:w.heap.size=n) (hf:F=some (c,s)) :
  bodyPostD Tryz.prog Tryz.f15 (fun r w'=>r=.returned (.tuple #[fltT F,.bool F.isSome])∧Kp w w') (.panic [{ v:=fltV c s,recovered:=false }])
   { tmps:=tm,defers:=[{ target:=.fn (.func 60) #[.pointer (some ⟨n+1,0,none⟩),.pointer (some ⟨n+1+1,0,none⟩)],args:=#[] }] } w2:=by
 subst hf
 refine leaves_cons (f:=60) (args:=#[.pointer (some ⟨n+1,0,none⟩),.pointer (some ⟨n+1+1,0,none⟩)]) (by simp) (by simp[go_sem]) ?_
 refine (catch_stop (n+1) (n+1+1) c s [] w2 v0 v1 v2 hF hG (by omega)).mono ?_
 rintro e u' w'' ⟨rfl,rfl,b1,b2,kk⟩
 have c0:=b1.cell 0 rfl
 have c1:=b1.cell 1 rfl
 have c2:=b2.cell 0 rfl
 have kw:=kk w hK (by omega) (by omega)
 simp[Leaves,settle,results,Tryz.results15,go_sem,h2,h3,c0,c1,c2]
 exact⟨rfl,kw⟩
theorem check_any (p:Pr) (w:World) (B:Nat) (hat:p.at w B) (hB:B≤w.heap.size) :
  Calls Tryz.prog 15 #[.agg #[.slice p.sa p.ss.length p.sc,.slice p.pa p.ps.length p.pc,.slice p.ma p.ms.length p.mc,.int .i64 p.tn,.int .i64 p.td]] w fun r w'=>r=.returned (.tuple #[fltT (checkF p),.bool (checkF p).isSome])∧Kp w w':=by
 have hmf:∀ (fn:Fn) (first cap:Array Value) (w:World),(Instr.makeFunc fn first cap).run Tryz.prog w=.ok (.func fn first cap) w:=fun _ _ _ _=>rfl
 obtain⟨F,hF⟩:∃ F,checkF p=F:=⟨_,rfl⟩
 have HF:=Lib.hid (hF.symm.trans (checkF_eq p))
 rw[hF]
 clear hF
 have k0:Kp w (((w.alloc (.cells #[.slice p.sa p.ss.length p.sc,.slice p.pa p.ps.length p.pc,.slice p.ma p.ms.length p.mc,.int .i64 p.tn,.int .i64 p.td] 27)).alloc (.cells #[.int .i64 0,.string ⟨#[]⟩] 32)).alloc (.cells #[.bool false] 4)):=(((Kp.refl w).alloc _).alloc _).alloc _
 have hP:BoxV (((w.alloc (.cells #[.slice p.sa p.ss.length p.sc,.slice p.pa p.ps.length p.pc,.slice p.ma p.ms.length p.mc,.int .i64 p.tn,.int .i64 p.td] 27)).alloc (.cells #[.int .i64 0,.string ⟨#[]⟩] 32)).alloc (.cells #[.bool false] 4)) w.heap.size p.cells:=(BoxV.new w p.cells _ _ rfl).kp (((Kp.refl _).alloc _).alloc _)
 have hFb:BoxV (((w.alloc (.cells #[.slice p.sa p.ss.length p.sc,.slice p.pa p.ps.length p.pc,.slice p.ma p.ms.length p.mc,.int .i64 p.tn,.int .i64 p.td] 27)).alloc (.cells #[.int .i64 0,.string ⟨#[]⟩] 32)).alloc (.cells #[.bool false] 4)) (w.heap.size+1) [.int .i64 0,.string ⟨#[]⟩]:=(BoxV.new _ [_,_] _ _ (by simp)).kp ((Kp.refl _).alloc _)
 have hGb:BoxV (((w.alloc (.cells #[.slice p.sa p.ss.length p.sc,.slice p.pa p.ps.length p.pc,.slice p.ma p.ms.length p.mc,.int .i64 p.tn,.int .i64 p.td] 27)).alloc (.cells #[.int .i64 0,.string ⟨#[]⟩] 32)).alloc (.cells #[.bool false] 4)) (w.heap.size+1+1) [.bool false]:=BoxV.new _ [_] _ _ (by simp)
 go_enter_defers Tryz.func15,Tryz.ntmps15
 go_upto_region 1 with fail
 generalize World.alloc _ _=W at *
 have HAT:=Lib.hid (Pr.at_kp hat k0)
 have hBW:B≤W.heap.size:=Nat.le_trans hB k0.size
 obtain⟨hsl,hpl,hml⟩:=hat.1
 have HP:=Lib.hid hP
 have HFb:=Lib.hid hFb
 have HGb:=Lib.hid hGb
 have K0:=Lib.hid k0
 have HT:=Lib.hid (tproblem_any p W B HAT.out hBW)
 have q0:=hP.cell 0 rfl
 have q1:=hP.cell 1 rfl
 have q2:=hP.cell 2 rfl
 have q3:=hP.cell 3 rfl
 have q4:=hP.cell 4 rfl
 clear hat hB hP hFb hGb k0
 cases hpb:probB p with
 | false =>
  have HZ:=Lib.hid (show F=some (1,ByteArray.empty) by rw[HF.out,hpb];rfl)
  rw[hpb] at HT
  clear hpb
  go_wp2_with (first | (go_at_call 62;go_fit HT.out;rintro r w1 ⟨rfl,k1⟩) | (go_at_call 61;go_fit (need_no _ _ _);rintro r w2 ⟨rfl,rfl⟩) | fail)
  exact door_stop F 1 ByteArray.empty _ w.heap.size w w2 _ _ _ rfl rfl (HFb.out.kp k1) (HGb.out.kp k1) (K0.out.trans k1) rfl HZ.out
 | true =>
 rw[hpb] at HT
 have HF2:=Lib.hid (show F=orF (onceF [] (allN p)) (orF (onceF [] (mdN p)) (orF (rngF (p.ss++p.ps)) (orF (needF (decide (0<p.tn)) 2 ByteArray.empty) (modesF (stN p) (allN p) (mdN p) p.ms)))) by rw[HF.out,hpb];rfl)
 have HPB:=Lib.hid hpb
 have hss:=probB_ss hpb
 clear hpb
 go_upto_region 3 with (first | (go_at_call 62;go_fit HT.out;rintro r w1 ⟨rfl,k1⟩) | (go_at_call 61;go_fit (need_yes _ _ _);rintro r w2 ⟨rfl,rfl⟩) | fail)
 clear q0 q1 q2 q3 q4 HT HF
 obtain⟨Y,hY⟩:∃ Y:World,Y=w2:=⟨_,rfl⟩
 subst hY
 have k2:Kp Y (Y.alloc (.cells #[.slice none 0 0,.slice none 0 0,.slice none 0 0] 135)):=(Kp.refl Y).alloc _
 have hL:=LkO.new Y 135
 have q0:(Y.alloc (.cells #[.slice none 0 0,.slice none 0 0,.slice none 0 0] 135)).cell? ⟨w.heap.size,0,none⟩=some (.slice p.sa p.ss.length p.sc):=(HP.out.kp (k1.trans k2)).cell 0 rfl
 go_upto_region 5 with fail
 generalize Y.alloc _=W1 at *
 have HL0:=Lib.hid hL
 have KY:=Lib.hid (K0.out.trans k1)
 have HPY:=Lib.hid (HP.out.kp k1)
 have HFY:=Lib.hid (HFb.out.kp k1)
 have HGY:=Lib.hid (HGb.out.kp k1)
 have HATY:=Lib.hid (Pr.at_kp HAT.out k1)
 have hBY:B≤Y.heap.size:=Nat.le_trans hBW k1.size
 clear hL q0 k1 k2 HP HFb HGb HAT hBW hmf
 go_loopw [22] (fun x wr=>∃ (k:Nat) (vs:Value),k≤p.ss.length∧x=.int .i64 k∧LkO Y wr vs (.slice none 0 0) (.slice none 0 0) ((p.ss.take k).map De.name) [] []) (fun x _=>p.ss.length-(intOf x).toNat)
 case atStart=>exact⟨0,_,by omega,rfl,HL0.out⟩
 case round =>
 obtain⟨k,vs,hk,rfl,hL⟩:=hrel
 have HL:=Lib.hid hL
 have hkw:=hL.os.1
 by_cases hlt:k<p.ss.length
 ·obtain⟨d,hs⟩:∃ d,p.ss[k]? = some d:=⟨_,List.getElem?_eq_getElem hlt⟩
  obtain⟨b,o,ha,_,hc⟩:=HATY.out.2.1.1.kp hkw k d hs
  have HT:=Lib.hid (take_map De.name hs)
  have hnl:((p.ss.take k).map De.name).length≤1100000:=by rw[List.length_map,List.length_take];omega
  have k2:Kp wr (wr.alloc (.cells #[.string d.name,.int .i64 d.ln,.int .i64 d.ld,.int .i64 d.hn,.int .i64 d.hd] 68)):=(Kp.refl wr).alloc _
  have hb2:BoxV (wr.alloc (.cells #[.string d.name,.int .i64 d.ln,.int .i64 d.ld,.int .i64 d.hn,.int .i64 d.hd] 68)) wr.heap.size d.cells:=BoxV.new wr d.cells _ _ rfl
  have q0:wr.cell? ⟨b,o+k*5,none⟩=some (.string d.name):=hc 0 _ rfl;have q1:=hc 1 _ rfl;have q2:=hc 2 _ rfl;have q3:=hc 3 _ rfl;have q4:=hc 4 _ rfl
  have Ha:=ha
  generalize hnn:(p.ss.take k).map De.name=nn at *
  clear hc hs hkw hnn hL ha
  rw[Ha]
  go_upto_region 7 with fail
  generalize wr.alloc _=W2 at *
  have HL2:=Lib.hid (HL.out.kp k2)
  have p0:=hb2.cell 0 rfl
  have c0:=HL2.out.box.cell 0 rfl
  clear hb2 q0 q1 q2 q3 q4
  go_wp2_with (at_builtin;refine wpList_append_usg rfl _ _ rfl Y _ nn rfl (HL2.out.kp ((Kp.refl _).alloc _)).os ⟨W2.heap.size,0,none⟩ 1 [d.name] 1 rfl rfl (rowS_one _ _ _ (by simp)) (by simp only[List.length_cons,List.length_nil];omega) ?_;intro v' w5 hO5 hg5 hn5;obtain⟨a5,e5,rfl,_⟩:=hO5.sl;simp only[List.length_append,List.length_cons,List.length_nil,Nat.zero_add] at hO5 hn5 ⊢;have hB5:=(HL2.out.kp ((Kp.refl _).alloc _)).box.grown hg5 HL2.out.bs;have c5:=hB5.cell 0 rfl;have f5:=hB5.2.1 0)
  go_roundw
  case measure=>simp only[intOf];omega
  case rel=>exact⟨k+1,_,by omega,by go_num,by rw[HT.out];exact (HL2.out.kp ((Kp.refl _).alloc _)).s hO5 hg5 hn5⟩
 have hk2:k=p.ss.length:=by omega
 subst hk2
 rw[List.take_length] at HL hL
 obtain⟨SS,hSS⟩:∃ SS,SS=p.ss.map De.name:=⟨_,rfl⟩
 have HSS:=Lib.hid hSS
 rw[← hSS] at HL hL
 have hsl2:SS.length=p.ss.length:=by rw[hSS,List.length_map]
 have h0S:0<SS.length:=by omega
 have h1S:SS.length≤1000:=by omega
 obtain⟨sa,sc,rfl,hrS⟩:=hL.os.sl
 have c0:=hL.box.cell 0 rfl
 have HCl:=Lib.hid (cloneS_any sa sc SS wr hrS h0S (by omega))
 clear hSS hL hlt hkw hrS h0S hsl2 HL0
 go_upto_region 10 with (first | (go_at_call 63;go_fit HCl.out;rintro r w5 ⟨v5,rfl,hO5,k5⟩;obtain⟨na,nc,rfl,_⟩:=hO5.sl;have c5:=(HL.out.kp k5).box.cell 1 rfl;have f5:=(HL.out.kp k5).box.2.1 1) | fail)
 have hLn:=HL.out.n0 k5 hO5
 clear c5 f5 c0 HCl HL k5 hO5
 generalize World.setCell _ _ _=W6 at *
 have HLn:=Lib.hid hLn
 have q1:=(HPY.out.kp hLn.os.1).cell 1 rfl
 clear hLn
 go_upto_region 11 with fail
 clear q1
 obtain⟨V,hV⟩:∃ V:World,V=wr:=⟨_,rfl⟩
 subst hV
 go_loopw [41] (fun x wr=>∃ (k:Nat) (vn:Value),k≤p.ps.length∧x=.int .i64 k∧LkO Y wr (.slice sa SS.length sc) vn (.slice none 0 0) SS (SS++(p.ps.take k).map De.name) []) (fun x _=>p.ps.length-(intOf x).toNat)
 case atStart=>exact⟨0,_,by omega,rfl,by rw[List.take_zero,List.map_nil,List.append_nil];exact HLn.out⟩
 case round =>
 obtain⟨k,vn,hk,rfl,hL⟩:=hrel
 have HL:=Lib.hid hL
 have hkw:=hL.os.1
 by_cases hlt:k<p.ps.length
 ·obtain⟨d,hs⟩:∃ d,p.ps[k]? = some d:=⟨_,List.getElem?_eq_getElem hlt⟩
  obtain⟨b,o,ha,_,hc⟩:=HATY.out.2.2.1.1.kp hkw k d hs
  have HT:=Lib.hid (take_map De.name hs)
  have hnl:(SS++(p.ps.take k).map De.name).length≤3000000:=by rw[List.length_append,List.length_map,List.length_take];omega
  have k2:Kp wr (wr.alloc (.cells #[.string d.name,.int .i64 d.ln,.int .i64 d.ld,.int .i64 d.hn,.int .i64 d.hd] 68)):=(Kp.refl wr).alloc _
  have hb2:BoxV (wr.alloc (.cells #[.string d.name,.int .i64 d.ln,.int .i64 d.ld,.int .i64 d.hn,.int .i64 d.hd] 68)) wr.heap.size d.cells:=BoxV.new wr d.cells _ _ rfl
  have q0:wr.cell? ⟨b,o+k*5,none⟩=some (.string d.name):=hc 0 _ rfl;have q1:=hc 1 _ rfl;have q2:=hc 2 _ rfl;have q3:=hc 3 _ rfl;have q4:=hc 4 _ rfl
  have Ha:=ha
  generalize hnn:SS++(p.ps.take k).map De.name=nn at *
  have HNN:=Lib.hid hnn
  clear hc hs hkw hnn hL ha
  rw[Ha]
  go_upto_region 13 with fail
  generalize wr.alloc _=W2 at *
  have HL2:=Lib.hid (HL.out.kp k2)
  have p0:=hb2.cell 0 rfl
  have c0:=HL2.out.box.cell 1 rfl
  clear hb2 q0 q1 q2 q3 q4
  go_wp2_with (at_builtin;refine wpList_append_usg rfl _ _ rfl Y _ nn rfl (HL2.out.kp ((Kp.refl _).alloc _)).on ⟨W2.heap.size,0,none⟩ 1 [d.name] 1 rfl rfl (rowS_one _ _ _ (by simp)) (by simp only[List.length_cons,List.length_nil];omega) ?_;intro v' w5 hO5 hg5 hn5;obtain⟨a5,e5,rfl,_⟩:=hO5.sl;simp only[List.length_append,List.length_cons,List.length_nil,Nat.zero_add] at hO5 hn5 ⊢;have hB5:=(HL2.out.kp ((Kp.refl _).alloc _)).box.grown hg5 HL2.out.bn;have c5:=hB5.cell 1 rfl;have f5:=hB5.2.1 1)
  go_roundw
  case measure=>simp only[intOf];omega
  case rel=>exact⟨k+1,_,by omega,by go_num,by rw[HT.out,← List.append_assoc,HNN.out];exact (HL2.out.kp ((Kp.refl _).alloc _)).n hO5 hg5 hn5⟩
 have hk2:k=p.ps.length:=by omega
 subst hk2
 rw[List.take_length] at HL hL
 obtain⟨NN,hNN⟩:∃ NN,NN=SS++p.ps.map De.name:=⟨_,rfl⟩
 have HNN:=Lib.hid hNN
 rw[← hNN] at HL hL
 have hnl:NN.length≤1100000:=by rw[hNN,List.length_append,List.length_map];omega
 obtain⟨na2,nc2,rfl,_⟩:=hL.on.sl
 have q2:=(HPY.out.kp hL.os.1).cell 2 rfl
 clear hNN hL hlt hkw HLn
 go_upto_region 16 with fail
 clear q2
 obtain⟨V2,hV⟩:∃ V:World,V=wr:=⟨_,rfl⟩
 subst hV
 go_loopw [56] (fun x wr=>∃ (k:Nat) (vm:Value),k≤p.ms.length∧x=.int .i64 k∧LkO Y wr (.slice sa SS.length sc) (.slice na2 NN.length nc2) vm SS NN ((p.ms.take k).map Mo.name)) (fun x _=>p.ms.length-(intOf x).toNat)
 case atStart=>exact⟨0,_,by omega,rfl,HL.out⟩
 case round =>
 obtain⟨k,vm,hk,rfl,hL⟩:=hrel
 have HL:=Lib.hid hL
 have hkw:=hL.os.1
 by_cases hlt:k<p.ms.length
 ·obtain⟨d,hs⟩:∃ d,p.ms[k]? = some d:=⟨_,List.getElem?_eq_getElem hlt⟩
  obtain⟨b,o,ha,_,hc⟩:=HATY.out.2.2.2.1.kp hkw k d hs
  have HT:=Lib.hid (take_map Mo.name hs)
  have hnl:((p.ms.take k).map Mo.name).length≤1100000:=by rw[List.length_map,List.length_take];omega
  have k2:Kp wr (wr.alloc (.cells #[.string d.name,.slice d.fa d.fs.length d.fc,.slice d.ea d.es.length d.ec] 41)):=(Kp.refl wr).alloc _
  have hb2:BoxV (wr.alloc (.cells #[.string d.name,.slice d.fa d.fs.length d.fc,.slice d.ea d.es.length d.ec] 41)) wr.heap.size d.cells:=BoxV.new wr d.cells _ _ rfl
  have q0:wr.cell? ⟨b,o+k*3,none⟩=some (.string d.name):=hc 0 _ rfl;have q1:=hc 1 _ rfl;have q2:=hc 2 _ rfl
  have Ha:=ha
  generalize hnn:(p.ms.take k).map Mo.name=nn at *
  clear hc hs hkw hnn hL ha
  rw[Ha]
  go_upto_region 18 with fail
  generalize wr.alloc _=W2 at *
  have HL2:=Lib.hid (HL.out.kp k2)
  have p0:=hb2.cell 0 rfl
  have c0:=HL2.out.box.cell 2 rfl
  clear hb2 q0 q1 q2
  go_wp2_with (at_builtin;refine wpList_append_usg rfl _ _ rfl Y _ nn rfl (HL2.out.kp ((Kp.refl _).alloc _)).om ⟨W2.heap.size,0,none⟩ 1 [d.name] 1 rfl rfl (rowS_one _ _ _ (by simp)) (by simp only[List.length_cons,List.length_nil];omega) ?_;intro v' w5 hO5 hg5 hn5;obtain⟨a5,e5,rfl,_⟩:=hO5.sl;simp only[List.length_append,List.length_cons,List.length_nil,Nat.zero_add] at hO5 hn5 ⊢;have hB5:=(HL2.out.kp ((Kp.refl _).alloc _)).box.grown hg5 HL2.out.bm;have c5:=hB5.cell 2 rfl;have f5:=hB5.2.1 2)
  go_roundw
  case measure=>simp only[intOf];omega
  case rel=>exact⟨k+1,_,by omega,by go_num,by rw[HT.out];exact (HL2.out.kp ((Kp.refl _).alloc _)).m hO5 hg5 hn5⟩
 have hk2:k=p.ms.length:=by omega
 subst hk2
 rw[List.take_length] at HL hL
 obtain⟨MM,hMM⟩:∃ MM,MM=p.ms.map Mo.name:=⟨_,rfl⟩
 rw[← hMM] at HL hL
 have hml2:MM.length≤1100000:=by rw[hMM,List.length_map];omega
 obtain⟨ma,mc,rfl,hrM,hcM⟩:=hL.om.cap
 have HFF:=Lib.hid (show F=orF (onceF [] NN) (orF (onceF [] MM) (orF (rngF (p.ss++p.ps)) (orF (needF (decide (0<p.tn)) 2 ByteArray.empty) (modesF SS NN MM p.ms)))) by rw[hMM,HNN.out,HSS.out];exact HF2.out)
 have HX:=Lib.hid (show (⟨sa,sc,SS,na2,nc2,NN,ma,mc,MM⟩:Lk).at wr Y.heap.size from ⟨hL.box.1,⟨hL.os.at.1,hL.on.at.1,hrM⟩,by show SS.length≤_;omega,hnl,hml2⟩)
 have HO1:=Lib.hid (once_any na2 NN nc2 wr hnl hL.on.at.1 hL.on.at.2)
 have HO2:=Lib.hid fun W' (k:Kp wr W')=>once_any ma MM mc W' hml2 (hrM.kp k) hcM
 have c1:=hL.box.cell 1 rfl
 have HKY:=Lib.hid hkw
 have HBX:=Lib.hid hL.box
 clear hMM hL hlt hkw hrM hcM HL HF2 HNN HSS
 cases h1:onceF [] NN with
 | some f =>
  rw[h1] at HO1 HFF
  clear h1
  go_wp2_with (first | (go_at_call 64;go_fit HO1.out;rintro r w3 ⟨hr,k3⟩;obtain rfl:r=.panicked [{ v:=fltV f.1 f.2,recovered:=false }]:=hr) | fail)
  exact door_stop F f.1 f.2 _ w.heap.size w _ _ _ _ rfl rfl (HFY.out.kp (HKY.out.trans k3)) (HGY.out.kp (HKY.out.trans k3)) (KY.out.trans (HKY.out.trans k3)) rfl HFF.out
 | none =>
 rw[h1] at HO1 HFF
 clear h1
 cases h2:onceF [] MM with
 | some f =>
  rw[h2] at HO2 HFF
  clear h2
  go_wp2_with (first | (go_at_call 64;go_fit HO1.out;rintro r w3 ⟨hr,k3⟩;obtain rfl:r=.returned (.tuple #[]):=hr;have c2:=(HBX.out.kp k3).cell 2 rfl) | (go_at_call 64;go_fit (HO2.out _ k3);rintro r w4 ⟨hr,k4⟩;obtain rfl:r=.panicked [{ v:=fltV f.1 f.2,recovered:=false }]:=hr) | fail)
  exact door_stop F f.1 f.2 _ w.heap.size w _ _ _ _ rfl rfl (HFY.out.kp (HKY.out.trans (k3.trans k4))) (HGY.out.kp (HKY.out.trans (k3.trans k4))) (KY.out.trans (HKY.out.trans (k3.trans k4))) rfl HFF.out
 | none =>
 rw[h2] at HO2 HFF
 clear h2
 go_upto_region 22 with (first | (go_at_call 64;go_fit HO1.out;rintro r w3 ⟨hr,k3⟩;obtain rfl:r=.returned (.tuple #[]):=hr;have c2:=(HBX.out.kp k3).cell 2 rfl) | (go_at_call 64;go_fit (HO2.out _ k3);rintro r w4 ⟨hr,k4⟩;obtain rfl:r=.returned (.tuple #[]):=hr) | fail)
 have HK4:=Lib.hid (HKY.out.trans (k3.trans k4))
 have HXX:=Lib.hid (Lk.at_kp HX.out (k3.trans k4))
 have HF3:=Lib.hid (show F=orF (rngF (p.ss++p.ps)) (orF (needF (decide (0<p.tn)) 2 ByteArray.empty) (modesF SS NN MM p.ms)) from HFF.out)
 obtain⟨DD,hDD⟩:∃ DD,DD=p.ss++p.ps:=⟨_,rfl⟩
 have HDD:=Lib.hid hDD
 have hdl:DD.length≤1000:=by rw[hDD,List.length_append];omega
 have q0:=(HPY.out.kp HK4.out).cell 0 rfl
 have q1:=(HPY.out.kp HK4.out).cell 1 rfl
 have kc:Kp w4 (w4.alloc (.cells #[.slice p.sa p.ss.length p.sc,.slice p.pa p.ps.length p.pc] 22)):=(Kp.refl w4).alloc _
 have bc:=BoxV.new w4 [.slice p.sa p.ss.length p.sc,.slice p.pa p.ps.length p.pc] 22 _ rfl
 have HCon:=Lib.hid (concatDe_any p.ss p.ps p.sa p.pa p.sc p.pc 2 B w4.heap.size _ hss.1 (by omega) (by omega) (HATY.out.2.1.1.kp (HK4.out.trans kc)) (HATY.out.2.2.1.1.kp (HK4.out.trans kc)) ⟨bc.cell 0 rfl,bc.cell 1 rfl⟩)
 rw[← hDD] at HCon HF3
 clear k3 k4 c2 HX HO1 HO2 HFF HBX hDD bc
 go_upto_region 23 with (first | (go_at_call 65;go_fit HCon.out;rintro r w8 ⟨v8,rfl,hO8,k8⟩;obtain⟨da,dc,rfl,_,hr8⟩:=hO8.row de_len de_one) | fail)
 have HR8:=Lib.hid hr8
 have HK8:=Lib.hid (HK4.out.trans (kc.trans k8))
 have HX8:=Lib.hid (Lk.at_kp HXX.out (kc.trans k8))
 clear hr8 hO8 k8 kc HCon q0 q1 HXX HK4
 obtain⟨V3,hV⟩:∃ V:World,V=w8:=⟨_,rfl⟩
 subst hV
 go_loopw [81] (fun z wr=>∃ k:Nat,k≤DD.length∧z=.int .i64 k∧F=orF (rngF (DD.drop k)) (orF (needF (decide (0<p.tn)) 2 ByteArray.empty) (modesF SS NN MM p.ms))∧Kp V3 wr) (fun z _=>DD.length-(intOf z).toNat)
 case atStart=>exact⟨0,by omega,rfl,HF3.out,.refl _⟩
 case round =>
 obtain⟨k,hk,rfl,hz,hkw⟩:=hrel
 have HKW:=Lib.hid hkw
 by_cases hlt:k<DD.length
 ·obtain⟨d,hs⟩:∃ d,DD[k]? = some d:=⟨_,List.getElem?_eq_getElem hlt⟩
  obtain⟨b,o,ha,_,hc⟩:=HR8.out.kp hkw k d hs
  have hdv:=probB_de HPB.out d (by rw[← HDD.out];exact List.mem_of_getElem? hs)
  obtain⟨v1,v2⟩:=declB_rat hdv
  rw[rngF_step hs hdv] at hz
  have k2:Kp wr (wr.alloc (.cells #[.string d.name,.int .i64 d.ln,.int .i64 d.ld,.int .i64 d.hn,.int .i64 d.hd] 68)):=(Kp.refl wr).alloc _
  have hb2:BoxV (wr.alloc (.cells #[.string d.name,.int .i64 d.ln,.int .i64 d.ld,.int .i64 d.hn,.int .i64 d.hd] 68)) wr.heap.size d.cells:=BoxV.new wr d.cells _ _ rfl
  have q0:wr.cell? ⟨b,o+k*5,none⟩=some (.string d.name):=hc 0 _ rfl;have q1:=hc 1 _ rfl;have q2:=hc 2 _ rfl;have q3:=hc 3 _ rfl;have q4:=hc 4 _ rfl
  have Ha:=ha
  have HC:=Lib.hid fun W'=>rcmp_any d.ln d.ld d.hn d.hd W' v1 v2
  obtain⟨z,hzz⟩:∃ z,ordZ (d.ln*d.hd) (d.hn*d.ld)=z:=⟨_,rfl⟩
  rw[hzz] at HC hz
  have HS:=Lib.hid hz
  clear hc hs hkw ha hdv v1 v2 hzz hz
  rw[Ha]
  go_upto_region 25 with fail
  generalize wr.alloc _=W2 at *
  have hSd:W2.drew.cell? ⟨wr.heap.size,0,none⟩=some (.string d.name)∧W2.drew.cell? ⟨wr.heap.size,1,none⟩=some (.int .i64 d.ln)∧W2.drew.cell? ⟨wr.heap.size,2,none⟩=some (.int .i64 d.ld)∧W2.drew.cell? ⟨wr.heap.size,3,none⟩=some (.int .i64 d.hn)∧W2.drew.cell? ⟨wr.heap.size,4,none⟩=some (.int .i64 d.hd):=keep5 (Kp.refl W2).drew ⟨hb2.cell 0 rfl,hb2.cell 1 rfl,hb2.cell 2 rfl,hb2.cell 3 rfl,hb2.cell 4 rfl⟩
  have HK2:=Lib.hid k2
  clear hb2 q0 q1 q2 q3 q4 k2
  by_cases hle:z≤0
  rotate_left
  ·have HN:=Lib.hid (show ∀ W',Calls Tryz.prog 61 #[.bool (decide (z≤0)),.int .i64 2,.string d.name] W' fun r w'=>r=.panicked [{ v:=fltV 2 d.name,recovered:=false }]∧w'=W' from fun W'=>by rw[decide_eq_false hle];exact need_no _ _ _)
   rw[decide_eq_false hle] at HS
   refine wp_region_held_drew (S:=fun w'=>w'.cell? ⟨wr.heap.size,0,none⟩=some (.string d.name)∧w'.cell? ⟨wr.heap.size,1,none⟩=some (.int .i64 d.ln)∧w'.cell? ⟨wr.heap.size,2,none⟩=some (.int .i64 d.ld)∧w'.cell? ⟨wr.heap.size,3,none⟩=some (.int .i64 d.hn)∧w'.cell? ⟨wr.heap.size,4,none⟩=some (.int .i64 d.hd)) (by kernel_rfl) hSd (fun hHeld=>?_)
   have HD:=Lib.hid hSd
   clear hSd hle
   refine tk 0 (hQ:=by exact fun c a w h=>door_put (by decide) (by decide) h) ?_;refine tk 1 (hQ:=by exact fun c a w h=>door_put (by decide) (by decide) h) ?_;refine tk 2 (hQ:=by exact fun c a w h=>door_put (by decide) (by decide) h) ?_;refine tk 3 (hQ:=by exact fun c a w h=>door_put (by decide) (by decide) h) ?_;refine tk 4 (hQ:=by exact fun c a w h=>door_put (by decide) (by decide) h) ?_;refine tk 5 (hQ:=by exact fun c a w h=>door_put (by decide) (by decide) h) ?_;refine tk 8 (hQ:=by exact fun c a w h=>door_put (by decide) (by decide) h) ?_;refine tk 9 (hQ:=by exact fun c a w h=>door_put (by decide) (by decide) h) ?_;(try simp only[aput])
   refine cm 6 (fun K hK=>?_)
   (go_simp;go_fit (HC.out _);rintro r w9 ⟨rfl,k9⟩)
   refine hK.out _ _ (keep5 k9 HD.out) (fun hHeld=>?_);clear hK K
   refine tk 7 (hQ:=by exact fun c a w h=>door_put (by decide) (by decide) h) ?_;(try simp only[aput])
   refine cm 10 (fun K hK=>?_)
   (go_simp;go_fit (HN.out _);rintro r w10 ⟨rfl,rfl⟩)
   have HKZ:=HK8.out.trans (HKW.out.trans (HK2.out.trans ((Kp.refl _).drew.trans k9)))
   exact door_stop F 2 d.name _ w.heap.size w _ _ _ _ rfl rfl (HFY.out.kp HKZ) (HGY.out.kp HKZ) (KY.out.trans HKZ) rfl HS.out
  have HN:=Lib.hid (show ∀ W',Calls Tryz.prog 61 #[.bool (decide (z≤0)),.int .i64 2,.string d.name] W' fun r w'=>r=.returned (.tuple #[])∧w'=W' from fun W'=>by rw[decide_eq_true hle];exact need_yes _ _ _)
  rw[decide_eq_true hle] at HS
  refine wp_region_held_drew (S:=fun w'=>w'.cell? ⟨wr.heap.size,0,none⟩=some (.string d.name)∧w'.cell? ⟨wr.heap.size,1,none⟩=some (.int .i64 d.ln)∧w'.cell? ⟨wr.heap.size,2,none⟩=some (.int .i64 d.ld)∧w'.cell? ⟨wr.heap.size,3,none⟩=some (.int .i64 d.hn)∧w'.cell? ⟨wr.heap.size,4,none⟩=some (.int .i64 d.hd)) (by kernel_rfl) hSd (fun hHeld=>?_)
  have HD:=Lib.hid hSd
  clear hSd hle
  refine tk 0 (hQ:=by exact fun c a w h=>door_put (by decide) (by decide) h) ?_;refine tk 1 (hQ:=by exact fun c a w h=>door_put (by decide) (by decide) h) ?_;refine tk 2 (hQ:=by exact fun c a w h=>door_put (by decide) (by decide) h) ?_;refine tk 3 (hQ:=by exact fun c a w h=>door_put (by decide) (by decide) h) ?_;refine tk 4 (hQ:=by exact fun c a w h=>door_put (by decide) (by decide) h) ?_;refine tk 5 (hQ:=by exact fun c a w h=>door_put (by decide) (by decide) h) ?_;refine tk 8 (hQ:=by exact fun c a w h=>door_put (by decide) (by decide) h) ?_;refine tk 9 (hQ:=by exact fun c a w h=>door_put (by decide) (by decide) h) ?_;(try simp only[aput])
  refine cm 6 (fun K hK=>?_)
  (go_simp;go_fit (HC.out _);rintro r w9 ⟨rfl,k9⟩)
  refine hK.out _ _ (keep5 k9 HD.out) (fun hHeld=>?_);clear hK K
  refine tk 7 (hQ:=by exact fun c a w h=>door_put (by decide) (by decide) h) ?_;(try simp only[aput])
  refine cm 10 (fun K hK=>?_)
  (go_simp;go_fit (HN.out _);rintro r w10 ⟨rfl,rfl⟩)
  refine hK.out _ _ (keep5 k9 HD.out) (fun hHeld=>?_);clear hK K
  refine wpAnyH_done (by kernel_rfl) ?_ _
  go_wp2
  go_roundw
  case measure=>simp only[intOf];omega
  case rel=>exact⟨k+1,by omega,by go_num,HS.out,HKW.out.trans (HK2.out.trans ((Kp.refl _).drew.trans k9))⟩
 have hd:DD.drop k=[]:=List.drop_eq_nil_of_le (by omega)
 rw[hd] at hz
 have HF4:=Lib.hid (show F=orF (needF (decide (0<p.tn)) 2 ByteArray.empty) (modesF SS NN MM p.ms) from hz)
 have q3:=(HPY.out.kp (HK8.out.trans hkw)).cell 3 rfl
 have HK9:=Lib.hid (HK8.out.trans hkw)
 have HX9:=Lib.hid (Lk.at_kp HX8.out hkw)
 clear hd hz hkw
 have q2:=(HPY.out.kp HK9.out).cell 2 rfl
 by_cases ht:(0:Int)<p.tn
 rotate_left
 ·have HZ:=Lib.hid (show F=some (2,ByteArray.empty) by rw[HF4.out,decide_eq_false ht];rfl)
  have ht2:decide ((0:Int)<p.tn)=false:=decide_eq_false ht
  go_wp2_with (first | (go_at_call 61;go_fit (need_no _ _ _);rintro r w10 ⟨rfl,rfl⟩) | fail)
  exact door_stop F 2 ByteArray.empty _ w.heap.size w _ _ _ _ rfl rfl (HFY.out.kp HK9.out) (HGY.out.kp HK9.out) (KY.out.trans HK9.out) rfl (by exact HZ.out)
 have HZ:=Lib.hid (show F=modesF SS NN MM p.ms by rw[HF4.out,decide_eq_true ht];rfl)
 have ht2:decide ((0:Int)<p.tn)=true:=decide_eq_true ht
 clear HF4 HF3 HX8 HK8 HR8
 go_upto_region 29 with (first | (go_at_call 61;go_fit (need_yes _ _ _);rintro r w10 ⟨rfl,rfl⟩) | fail)
 clear q2 q3 ht ht2
 obtain⟨V4,hV⟩:∃ V:World,V=w10:=⟨_,rfl⟩
 subst hV
 go_loopw [105] (fun z wr=>∃ k:Nat,k≤p.ms.length∧z=.int .i64 k∧F=modesF SS NN MM (p.ms.drop k)∧Kp V4 wr) (fun z _=>p.ms.length-(intOf z).toNat)
 case atStart=>exact⟨0,by omega,rfl,HZ.out,.refl _⟩
 case round =>
 obtain⟨k,hk,rfl,hz,hkw⟩:=hrel
 have HKW:=Lib.hid (HK9.out.trans hkw)
 have HKV:=Lib.hid hkw
 by_cases hlt:k<p.ms.length
 rotate_left
 ·have hd:p.ms.drop k=[]:=List.drop_eq_nil_of_le (by omega)
  rw[hd] at hz
  have HZ2:=Lib.hid (show F=none from hz)
  have hFw:=HFY.out.kp HKW.out
  have hGw:=HGY.out.kp HKW.out
  have f0:=hFw.cell 0 rfl
  have f1:=hFw.cell 1 rfl
  have f2:=hGw.cell 0 rfl
  have z0:=hFw.2.1 0
  have z1:=hFw.2.1 1
  have z2:=hGw.2.1 0
  have HFw:=Lib.hid hFw
  have HGw:=Lib.hid hGw
  clear hd hz hkw hFw hGw
  go_wp2
  have b1:=((HFw.out.set (i:=0) (by simp) (.int .i64 0)).set (i:=1) (by simp) (.string ⟨#[]⟩)).other (k:=w.heap.size+1+1) (i:=0) (by omega) (.bool false)
  have b2:=((HGw.out.other (k:=w.heap.size+1) (i:=0) (by omega) (.int .i64 0)).other (k:=w.heap.size+1) (i:=1) (by omega) (.string ⟨#[]⟩)).set (i:=0) (by simp) (.bool false)
  have kk:=(((KY.out.trans HKW.out).set (show w.heap.size≤w.heap.size+1 by omega) (i:=0) (.int .i64 0)).set (show w.heap.size≤w.heap.size+1 by omega) (i:=1) (.string ⟨#[]⟩)).set (show w.heap.size≤w.heap.size+1+1 by omega) (i:=0) (.bool false)
  rw[HZ2.out]
  exact door_ret _ w.heap.size w _ .ret (.inl rfl) rfl rfl b1 b2 kk
 obtain⟨d,hs⟩:∃ d,p.ms[k]? = some d:=⟨_,List.getElem?_eq_getElem hlt⟩
 obtain⟨b,o,ha,_,hc⟩:=HATY.out.2.2.2.1.kp HKW.out k d hs
 have hm:=HATY.out.2.2.2.2 d (List.mem_of_getElem? hs)
 rw[modesF_step hs] at hz
 have k2:Kp wr (wr.alloc (.cells #[.string d.name,.slice d.fa d.fs.length d.fc,.slice d.ea d.es.length d.ec] 41)):=(Kp.refl wr).alloc _
 have hb2:BoxV (wr.alloc (.cells #[.string d.name,.slice d.fa d.fs.length d.fc,.slice d.ea d.es.length d.ec] 41)) wr.heap.size d.cells:=BoxV.new wr d.cells _ _ rfl
 have q0:wr.cell? ⟨b,o+k*3,none⟩=some (.string d.name):=hc 0 _ rfl;have q1:=hc 1 _ rfl;have q2:=hc 2 _ rfl
 have Ha:=ha
 have HS:=Lib.hid hz
 have HMo:=Lib.hid hm
 clear hc hs hkw ha hz hm
 rw[Ha]
 go_upto_region 31 with fail
 generalize wr.alloc _=W2 at *
 have HK2:=Lib.hid (HKW.out.trans k2)
 have HL9:=Lib.hid (lmode_any ⟨sa,sc,SS,na2,nc2,NN,ma,mc,MM⟩ Y.heap.size d B W2 (Lk.at_kp HX9.out (HKV.out.trans k2)) (Mo.at_kp HMo.out HK2.out) (Nat.le_trans hBY HK2.out.size))
 have p0:=hb2.cell 0 rfl
 have p1:=hb2.cell 1 rfl
 have p2:=hb2.cell 2 rfl
 clear hb2 q0 q1 q2
 cases hf:modeF SS NN MM d with
 | some f =>
  rw[hf] at HL9 HS
  clear hf
  go_wp2_with (first | (go_at_call 67;go_fit HL9.out;rintro r w12 ⟨hr,k12⟩;obtain rfl:r=.panicked [{ v:=fltV f.1 f.2,recovered:=false }]:=hr) | fail)
  exact door_stop F f.1 f.2 _ w.heap.size w _ _ _ _ rfl rfl (HFY.out.kp (HK2.out.trans k12)) (HGY.out.kp (HK2.out.trans k12)) (KY.out.trans (HK2.out.trans k12)) rfl HS.out
 | none =>
 rw[hf] at HL9 HS
 clear hf
 go_wp2_with (first | (go_at_call 67;go_fit HL9.out;rintro r w12 ⟨hr,k12⟩;obtain rfl:r=.returned (.tuple #[]):=hr) | fail)
 go_roundw
 case measure=>simp only[intOf];omega
 case rel=>exact⟨k+1,by omega,by go_num,HS.out,HKV.out.trans (k2.trans k12)⟩
end Go.Proofs.YteidgoldnllabaaGreatDoor
