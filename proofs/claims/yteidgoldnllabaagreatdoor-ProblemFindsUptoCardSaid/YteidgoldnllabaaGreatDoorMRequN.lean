/-
  Walks: ref13.Equal.
-/
import Derived.Deep.RegionHeld3
import Derived.Test.YteidgoldnllabaaGreatDoorMRCoN
import Derived.Test.YteidgoldnllabaaGreatDoorMWalN
namespace Go.Proofs.YteidgoldnllabaaGreatDoor
open Go.RowKit Go.Sort
def allXY (p:Ex→Ex→Bool) (l m:List Ex):Bool:=decide (l.length=m.length)&&(l.zip m).all fun z=>p z.1 z.2
theorem allXX_XY (l m:List Ex):allXX Ex.eqv l m=allXY Ex.eqv l m:=by unfold allXX allXY;rfl
theorem keep14 {w w':World} (k:Kp w w') {p0 p1 p2 p3 p4 p5 q0 q1 q2 q3 q4 q5 r0 r1:Addr} {v0 v1 v2 v3 v4 v5 u0 u1 u2 u3 u4 u5 x0 x1:Value}
  (h:w.cell? r0=some x0∧w.cell? r1=some x1∧(w.cell? p0=some v0∧w.cell? p1=some v1∧w.cell? p2=some v2∧w.cell? p3=some v3∧w.cell? p4=some v4∧w.cell? p5=some v5)∧(w.cell? q0=some u0∧w.cell? q1=some u1∧w.cell? q2=some u2∧w.cell? q3=some u3∧w.cell? q4=some u4∧w.cell? q5=some u5)) :
  w'.cell? r0=some x0∧w'.cell? r1=some x1∧(w'.cell? p0=some v0∧w'.cell? p1=some v1∧w'.cell? p2=some v2∧w'.cell? p3=some v3∧w'.cell? p4=some v4∧w'.cell? p5=some v5)∧(w'.cell? q0=some u0∧w'.cell? q1=some u1∧w'.cell? q2=some u2∧w'.cell? q3=some u3∧w'.cell? q4=some u4∧w'.cell? q5=some u5) :=
 ⟨k.cell h.1,k.cell h.2.1,keepE6 k h.2.2.1,keepE6 k h.2.2.2⟩
set_option maxHeartbeats 2000000 in
set_option maxRecDepth 20000 in
theorem requal_step (k r d p k' r' d' p':Int) (s s':ByteArray) (a a':Option Addr) (c c':Nat) (l l':List Ex) (B:Nat) (w:World) (hl:l.length≤1048576) (hrow:RowX w B a l) (hrow':RowX w B a' l')
  (hp:AnsXX Tryz.prog 137 #[] w l l' Ex.eqv) (b0:Bool) (h0:((decide (k=k')&&(decide (r=r'∧d=d')&&(decide (s=s')&&decide (p=p'))))&&allXX Ex.eqv l l')=b0) :
  Calls Tryz.prog 137 #[.agg #[.int .i64 k,.int .i64 r,.int .i64 d,.string s,.int .i64 p,.slice a l.length c],.agg #[.int .i64 k',.int .i64 r',.int .i64 d',.string s',.int .i64 p',.slice a' l'.length c']] w
   fun e w'=>e=.returned (.bool b0)∧Kp w w':=by
 have k1:Kp w ((w.alloc (.cells #[.int .i64 k,.int .i64 r,.int .i64 d,.string s,.int .i64 p,.slice a l.length c] 71)).alloc (.cells #[.int .i64 k',.int .i64 r',.int .i64 d',.string s',.int .i64 p',.slice a' l'.length c'] 71)):=((Kp.refl w).alloc _).alloc _
 have hB1:BoxX ((w.alloc (.cells #[.int .i64 k,.int .i64 r,.int .i64 d,.string s,.int .i64 p,.slice a l.length c] 71)).alloc (.cells #[.int .i64 k',.int .i64 r',.int .i64 d',.string s',.int .i64 p',.slice a' l'.length c'] 71)) w.heap.size (.mk k r d s p a c l):=(BoxX.new w (.mk k r d s p a c l) _ rfl).kp ((Kp.refl _).alloc _)
 have hB2:BoxX ((w.alloc (.cells #[.int .i64 k,.int .i64 r,.int .i64 d,.string s,.int .i64 p,.slice a l.length c] 71)).alloc (.cells #[.int .i64 k',.int .i64 r',.int .i64 d',.string s',.int .i64 p',.slice a' l'.length c'] 71)) (w.heap.size+1) (.mk k' r' d' s' p' a' c' l'):=BoxX.new _ (.mk k' r' d' s' p' a' c' l') _ (by simp)
 go_enter Tryz.func137,Tryz.ntmps137
 go_upto_region 1 with fail
 generalize World.alloc _ _=W at *
 have HP:=Lib.hid fun x hx y hy w1 hk=>hp.2 x hx y hy w1 (k1.trans hk)
 have HR:=Lib.hid (hrow.kp k1)
 have HR':=Lib.hid (hrow'.kp k1)
 have K1:=Lib.hid k1
 obtain⟨⟨q0,q1,q2,q3,q4,q5⟩,_⟩:=hB1
 obtain⟨⟨t0,t1,t2,t3,t4,t5⟩,_⟩:=hB2
 simp only[Ex.kind,Ex.rn,Ex.rd,Ex.name,Ex.pw,Ex.a,Ex.c,Ex.l] at q0 q1 q2 q3 q4 q5 t0 t1 t2 t3 t4 t5
 clear hrow hrow' hp k1
 by_cases c1:k=k'
 rotate_left
 ·skip
  have hz:b0=false:=by rw[← h0];rw[decide_eq_false c1];simp
  subst hz
  clear h0
  have h1:(k != k')=true:=bne_iff_ne.2 c1
  go_wp2_with fail
  all_goals go_ret
  all_goals exact⟨rfl,K1.out⟩
 subst c1
 by_cases c2:r=r'
 rotate_left
 ·skip
  have hz:b0=false:=by rw[← h0];rw[decide_eq_false (p:=r=r'∧d=d') (fun h=>c2 h.1)];simp
  subst hz
  clear h0
  have h2:(r != r')=true:=bne_iff_ne.2 c2
  go_wp2_with fail
  all_goals go_ret
  all_goals exact⟨rfl,K1.out⟩
 subst c2
 by_cases c3:d=d'
 rotate_left
 ·skip
  have hz:b0=false:=by rw[← h0];rw[decide_eq_false (p:=r=r∧d=d') (fun h=>c3 h.2)];simp
  subst hz
  clear h0
  have h3:(d != d')=true:=bne_iff_ne.2 c3
  go_wp2_with fail
  all_goals go_ret
  all_goals exact⟨rfl,K1.out⟩
 subst c3
 by_cases c4:s=s'
 rotate_left
 ·skip
  have hz:b0=false:=by rw[← h0];rw[decide_eq_false c4];simp
  subst hz
  clear h0
  have h4:(s.toList==s'.toList)=false:=strNe c4
  go_wp2_with fail
  all_goals go_ret
  all_goals exact⟨rfl,K1.out⟩
 subst c4
 by_cases c5:p=p'
 rotate_left
 ·skip
  have hz:b0=false:=by rw[← h0];rw[decide_eq_false c5];simp
  subst hz
  clear h0
  have h5:(p != p')=true:=bne_iff_ne.2 c5
  go_wp2_with fail
  all_goals go_ret
  all_goals exact⟨rfl,K1.out⟩
 subst c5
 by_cases c6:l.length=l'.length
 rotate_left
 ·skip
  have hz:b0=false:=by rw[← h0,allXX_XY];unfold allXY;rw[decide_eq_false c6];simp
  subst hz
  have e6:((l.length:Int) != (l'.length:Int))=true:=bne_iff_ne.2 (by omega)
  clear h0 c6
  go_wp2_with fail
  all_goals go_ret
  all_goals exact⟨rfl,K1.out⟩
 have hz:allXY Ex.eqv l l'=b0:=by rw[← h0,allXX_XY];simp
 have hz2:(l.zip l').all (fun z=>z.1.eqv z.2)=b0:=by rw[← hz];unfold allXY;rw[decide_eq_true c6];rfl
 have Hz:=Lib.hid hz2
 have C6:=Lib.hid c6
 have e6:((l.length:Int) != (l'.length:Int))=false:=by rw[c6];simp
 generalize hn:l.length=n at *
 generalize hn':l'.length=n' at *
 have Hn:=Lib.hid hn
 have Hn':=Lib.hid hn'
 clear h0 hz hz2 c6 hn hn'
 go_upto_region 4 with fail
 clear q0 q1 q2 q3 q4 t0 t1 t2 t3 t4
 go_loopw [5] (fun x wr=>∃ i:Nat,i≤n∧x=.int .i64 (i:Int)∧((l.drop i).zip (l'.drop i)).all (fun z=>z.1.eqv z.2)=b0∧Kp W wr) (fun x _=>n-(intOf x).toNat)
 case atStart=>exact⟨0,by omega,rfl,Hz.out,.refl _⟩
 case round =>
 obtain⟨i,hi,rfl,hm,hkp⟩:=hrel
 have Hm:=Lib.hid hm;clear hm
 have z5:=hkp.cell q5
 have y5:=hkp.cell t5
 by_cases hlt:i<n
 rotate_left
 ·obtain rfl:i=n:=by omega
  have hf:=Hm.out
  rw[show l.drop i=[] from List.drop_eq_nil_of_le (by rw[Hn.out];omega),List.zip_nil_left] at hf
  have Hf:=Lib.hid hf
  clear hf
  go_wp2
  go_ret
  exact⟨ret_bool Hf.out,K1.out.trans hkp⟩
 have hlt1:i<l.length:=by rw[Hn.out];exact hlt
 have hlt2:i<l'.length:=by rw[Hn'.out,← C6.out];exact hlt
 have hlt3:i<n':=by rw[← C6.out];exact hlt
 obtain⟨x,hx⟩:∃ x,l[i]? = some x:=⟨_,List.getElem?_eq_getElem hlt1⟩
 obtain⟨y,hy⟩:∃ y,l'[i]? = some y:=⟨_,List.getElem?_eq_getElem hlt2⟩
 have Hd:=Lib.hid (show l.drop i=x::l.drop (i+1) from (List.drop_eq_getElem_cons hlt1).trans (by rw[(List.getElem?_eq_some_iff.1 hx).2]))
 have Hd':=Lib.hid (show l'.drop i=y::l'.drop (i+1) from (List.drop_eq_getElem_cons hlt2).trans (by rw[(List.getElem?_eq_some_iff.1 hy).2]))
 have hxm:=List.mem_of_getElem? hx
 have hym:=List.mem_of_getElem? hy
 obtain⟨b,o,ha,hb2,x0,x1,x2,x3,x4,x5⟩:=(HR.out.kp hkp) i x hx
 obtain⟨b',o',ha',hb3,y0,y1,y2,y3,y4,y6⟩:=(HR'.out.kp hkp) i y hy
 have HX:=Lib.hid fun W' h=>HP.out x hxm y hym W' (hkp.trans h)
 have Hkp:=Lib.hid hkp
 rw[ha] at z5
 rw[ha'] at y5
 have kd:=(Kp.refl wr).drew
 have hSd:=keep14 kd ⟨z5,y5,⟨x0,x1,x2,x3,x4,x5⟩,⟨y0,y1,y2,y3,y4,y6⟩⟩
 have hm2:=Hm.out
 rw[Hd.out,Hd'.out,List.zip_cons_cons,List.all_cons] at hm2
 have Hm2:=Lib.hid hm2
 have HX2:=Lib.hid (HX.out _ kd)
 have KD:=Lib.hid kd
 clear hx hxm hkp hy hym hlt1 hlt2 q5 t5 hm2 kd
 rw[ha,ha']
 clear y5 x0 x1 x2 x3 x4 x5 y0 y1 y2 y3 y4 y6
 go_upto_region 6 with fail
 clear z5
 go_region_held3 (fun w'=>w'.cell? ⟨w.heap.size,5,none⟩=some (.slice (some ⟨b,o,none⟩) n c)∧w'.cell? ⟨w.heap.size+1,5,none⟩=some (.slice (some ⟨b',o',none⟩) n' c')∧(w'.cell? ⟨b,o+i*6,none⟩=some (.int .i64 x.kind)∧w'.cell? ⟨b,o+i*6+1,none⟩=some (.int .i64 x.rn)∧w'.cell? ⟨b,o+i*6+2,none⟩=some (.int .i64 x.rd)∧w'.cell? ⟨b,o+i*6+3,none⟩=some (.string x.name)∧w'.cell? ⟨b,o+i*6+4,none⟩=some (.int .i64 x.pw)∧w'.cell? ⟨b,o+i*6+5,none⟩=some (.slice x.a x.l.length x.c))∧(w'.cell? ⟨b',o'+i*6,none⟩=some (.int .i64 y.kind)∧w'.cell? ⟨b',o'+i*6+1,none⟩=some (.int .i64 y.rn)∧w'.cell? ⟨b',o'+i*6+2,none⟩=some (.int .i64 y.rd)∧w'.cell? ⟨b',o'+i*6+3,none⟩=some (.string y.name)∧w'.cell? ⟨b',o'+i*6+4,none⟩=some (.int .i64 y.pw)∧w'.cell? ⟨b',o'+i*6+5,none⟩=some (.slice y.a y.l.length y.c))) (first | with_reducible assumption | with_reducible exact keep14 (by assumption) hSd | fail) (first
  | (go_at_call 137;go_fit HX2.out;rintro r w2 ⟨rfl,k2⟩)
  | fail)
 cases hq:x.eqv y with
 | false =>
  have hm3:=Hm2.out
  rw[hq,Bool.false_and] at hm3
  have Hm3:=Lib.hid hm3
  clear hq hm3
  go_wp2
  go_ret
  exact⟨ret_bool Hm3.out,K1.out.trans (Hkp.out.trans (KD.out.trans k2))⟩
 | true =>
 have hm3:=Hm2.out
 rw[hq,Bool.true_and] at hm3
 have Hm3:=Lib.hid hm3
 clear hq hm3
 go_wp2
 go_roundw
 case measure=>simp[intOf];omega
 case rel=>exact⟨i+1,by omega,by go_num,Hm3.out,Hkp.out.trans (KD.out.trans k2)⟩
theorem requal_any:∀ (x y:Ex) (B:Nat) (w:World),x.at w B→y.at w B→Calls Tryz.prog 137 #[.agg #[.int .i64 x.kind,.int .i64 x.rn,.int .i64 x.rd,.string x.name,.int .i64 x.pw,.slice x.a x.l.length x.c],.agg #[.int .i64 y.kind,.int .i64 y.rn,.int .i64 y.rd,.string y.name,.int .i64 y.pw,.slice y.a y.l.length y.c]] w fun r w'=>r=.returned (.bool (x.eqv y))∧Kp w w':=by
 refine Ex.ind fun x ih y B w hx hy=>?_
 obtain⟨⟨_,_,_,hl⟩,hrow,hch⟩:=Ex.at_iff.1 hx
 obtain⟨_,hrow',hch'⟩:=Ex.at_iff.1 hy
 refine requal_step x.kind x.rn x.rd x.pw y.kind y.rn y.rd y.pw x.name y.name x.a y.a x.c y.c x.l y.l B w hl hrow hrow' ⟨fun _ _=>by kernel_rfl,fun u hu v hv w1 hk=>?_⟩ _ ?_
 ·exact ih u hu v B w1 (Ex.at_kp (hch u hu) hk) (Ex.at_kp (hch' v hv) hk)
 rw[x.eqv_eq,eqL_all]
end Go.Proofs.YteidgoldnllabaaGreatDoor
