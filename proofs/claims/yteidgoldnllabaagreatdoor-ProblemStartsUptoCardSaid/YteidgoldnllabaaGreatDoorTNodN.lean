/-
  Walks: tree.operands, node.
-/
import Derived.Test.YteidgoldnllabaaGreatDoorTLexN
set_option maxHeartbeats 2000000
set_option maxRecDepth 20000
namespace Go.Proofs.YteidgoldnllabaaGreatDoor
open Go.RowKit
open Lib (hid)
theorem ops_any (k:Int) (w:World):Calls Tryz.prog 226 #[.int .i64 k] w fun e w'=>e=.returned (.int .i64 (opsK k))∧w'=w:=by
 have hk:=hid (show opsK k=if 3≤k∧k≤6 then 2 else if 7≤k∧k≤13 then 1 else -1 from rfl)
 go_enter Tryz.func226,Tryz.ntmps226
 go_wp2
 all_goals go_ret
 all_goals refine⟨ret_int ?_,rfl⟩
 all_goals rw[hk.out]
 all_goals simp only[beq_iff_eq,beq_eq_false_iff_ne,ne_eq] at *
 all_goals (split <;> (try split) <;> omega)
def nodeF (k r d:Int) (s:ByteArray) (p:Int) (n:Nat):Bool :=
 if k=1 then ratB r d&&(decide (s.size=0)&&(decide (p=0)&&decide (n=0)))
 else if k=2 then decide (r=0∧d=0)&&(nameB s&&(decide (p=0)&&decide (n=0)))
 else if k=8 then decide (r=0∧d=0)&&(decide (s.size=0)&&(decide (0≤p∧p≤16)&&decide (n=1)))
 else decide (r=0∧d=0)&&(decide (s.size=0)&&(decide (p=0)&&decide ((n:Int)=opsK k)))
theorem nodeB_F (x:Ex):nodeB x=nodeF x.kind x.rn x.rd x.name x.pw x.l.length:=rfl
theorem isEmpty_size (s:ByteArray):s.toList.isEmpty=decide (s.size=0):=by
 rw[ByteArray.toList_eq,← byte_size]
 cases s.data.toList <;> simp
theorem beq_dec (a b:Int):(a==b)=decide (a=b):=by
 by_cases h:a=b
 ·subst h;simp
 rw[decide_eq_false h];exact beq_eq_false_iff_ne.2 h
theorem natInt_zero (n:Nat):((n:Int)==0)=decide (n=0):=by
 rw[beq_dec];congr 1;apply propext;omega
theorem natInt_one' (n:Nat):((n:Int)==1)=decide (n=1):=by
 rw[beq_dec];congr 1;apply propext;omega
theorem zeroA:decide ((0:Int)=0∧(0:Int)=0)=true:=by decide
theorem zeroB {d:Int} (h:¬ d=0):decide ((0:Int)=0∧d=0)=false:=decide_eq_false (fun e=>h e.2)
theorem zeroC {r d:Int} (h:¬ r=0):decide (r=0∧d=0)=false:=decide_eq_false (fun e=>h e.1)
theorem nodeF_1 (r d:Int) (s:ByteArray) (p:Int) (n:Nat):nodeF 1 r d s p n=(ratB r d&&(s.toList.isEmpty&&((p==0)&&((n:Int)==0)))):=by rw[isEmpty_size,beq_dec,natInt_zero];rfl
theorem nodeF_2 (r d:Int) (s:ByteArray) (p:Int) (n:Nat):nodeF 2 r d s p n=(decide (r=0∧d=0)&&(nameB s&&((p==0)&&((n:Int)==0)))):=by rw[beq_dec,natInt_zero];rfl
theorem nodeF_8 (r d:Int) (s:ByteArray) (p:Int) (n:Nat):nodeF 8 r d s p n=(decide (r=0∧d=0)&&(s.toList.isEmpty&&((decide (0≤p)&&decide (p≤16))&&((n:Int)==1)))):=by rw[isEmpty_size,natInt_one',← Bool.decide_and];rfl
theorem nodeF_k (k r d:Int) (s:ByteArray) (p:Int) (n:Nat) (h1:(k==1)=false) (h2:(k==2)=false) (h8:(k==8)=false):nodeF k r d s p n=(decide (r=0∧d=0)&&(s.toList.isEmpty&&((p==0)&&((n:Int)==opsK k)))):=by
 rw[isEmpty_size,beq_dec,beq_dec]
 unfold nodeF
 rw[if_neg (beq_eq_false_iff_ne.1 h1),if_neg (beq_eq_false_iff_ne.1 h2),if_neg (beq_eq_false_iff_ne.1 h8)]
-- GEN
theorem node1A (s:ByteArray) (p:Int) (a:Option Addr) (n c:Nat) (w:World) (_hl:n≤1100000) (_hs:s.size≤maxLen):Calls Tryz.prog 190 #[.agg #[.int .i64 1,.int .i64 0,.int .i64 0,.string s,.int .i64 p,.slice a n c]] w fun e w'=>e=.returned (.bool (nodeF 1 0 0 s p n))∧Kp w w':=by
 have k1:Kp w (w.alloc (.cells #[.int .i64 1,.int .i64 0,.int .i64 0,.string s,.int .i64 p,.slice a n c] 71)):=(Kp.refl w).alloc _
 have hS:(w.alloc (.cells #[.int .i64 1,.int .i64 0,.int .i64 0,.string s,.int .i64 p,.slice a n c] 71)).cell? ⟨w.heap.size,0,none⟩=some (.int .i64 1)∧(w.alloc (.cells #[.int .i64 1,.int .i64 0,.int .i64 0,.string s,.int .i64 p,.slice a n c] 71)).cell? ⟨w.heap.size,1,none⟩=some (.int .i64 0)∧(w.alloc (.cells #[.int .i64 1,.int .i64 0,.int .i64 0,.string s,.int .i64 p,.slice a n c] 71)).cell? ⟨w.heap.size,2,none⟩=some (.int .i64 0)∧(w.alloc (.cells #[.int .i64 1,.int .i64 0,.int .i64 0,.string s,.int .i64 p,.slice a n c] 71)).cell? ⟨w.heap.size,3,none⟩=some (.string s)∧(w.alloc (.cells #[.int .i64 1,.int .i64 0,.int .i64 0,.string s,.int .i64 p,.slice a n c] 71)).cell? ⟨w.heap.size,4,none⟩=some (.int .i64 p)∧(w.alloc (.cells #[.int .i64 1,.int .i64 0,.int .i64 0,.string s,.int .i64 p,.slice a n c] 71)).cell? ⟨w.heap.size,5,none⟩=some (.slice a n c):=by simp
 have hn:=hid (nodeF_1 0 0 s p n)
 have HV:=fun W=>hid (rvalid_any 0 0 W)
 go_enter Tryz.func190,Tryz.ntmps190
 go_upto_region 1 with fail
 generalize w.alloc _=W at *
 have HK:=hid k1
 clear k1
 obtain⟨s0,s1,s2,s3,s4,s5⟩:=hS
 cases hv:ratB 0 0 with
 | true =>
  rw[hv] at hn HV
  clear hv
  go_wp2_with (go_at_call 119;go_fit (HV _).out;rintro e w2 ⟨rfl,k2⟩;obtain⟨q0,q1,q2,q3,q4,q5⟩:=keepE6 k2 ⟨s0,s1,s2,s3,s4,s5⟩)
  all_goals go_ret
  all_goals exact⟨ret_bool (by rw[hn.out];simp[*]),HK.out.trans k2⟩
 | false =>
 rw[hv] at hn HV
 clear hv
 go_wp2_with (go_at_call 119;go_fit (HV _).out;rintro e w2 ⟨rfl,k2⟩)
 go_ret
 exact⟨ret_bool (by rw[hn.out];rfl),HK.out.trans k2⟩
theorem node1B (d:Int) (s:ByteArray) (p:Int) (a:Option Addr) (n c:Nat) (w:World) (_hl:n≤1100000) (_hs:s.size≤maxLen) (hd:¬ d=0):Calls Tryz.prog 190 #[.agg #[.int .i64 1,.int .i64 0,.int .i64 d,.string s,.int .i64 p,.slice a n c]] w fun e w'=>e=.returned (.bool (nodeF 1 0 d s p n))∧Kp w w':=by
 have k1:Kp w (w.alloc (.cells #[.int .i64 1,.int .i64 0,.int .i64 d,.string s,.int .i64 p,.slice a n c] 71)):=(Kp.refl w).alloc _
 have hS:(w.alloc (.cells #[.int .i64 1,.int .i64 0,.int .i64 d,.string s,.int .i64 p,.slice a n c] 71)).cell? ⟨w.heap.size,0,none⟩=some (.int .i64 1)∧(w.alloc (.cells #[.int .i64 1,.int .i64 0,.int .i64 d,.string s,.int .i64 p,.slice a n c] 71)).cell? ⟨w.heap.size,1,none⟩=some (.int .i64 0)∧(w.alloc (.cells #[.int .i64 1,.int .i64 0,.int .i64 d,.string s,.int .i64 p,.slice a n c] 71)).cell? ⟨w.heap.size,2,none⟩=some (.int .i64 d)∧(w.alloc (.cells #[.int .i64 1,.int .i64 0,.int .i64 d,.string s,.int .i64 p,.slice a n c] 71)).cell? ⟨w.heap.size,3,none⟩=some (.string s)∧(w.alloc (.cells #[.int .i64 1,.int .i64 0,.int .i64 d,.string s,.int .i64 p,.slice a n c] 71)).cell? ⟨w.heap.size,4,none⟩=some (.int .i64 p)∧(w.alloc (.cells #[.int .i64 1,.int .i64 0,.int .i64 d,.string s,.int .i64 p,.slice a n c] 71)).cell? ⟨w.heap.size,5,none⟩=some (.slice a n c):=by simp
 have hn:=hid (nodeF_1 0 d s p n)
 have HV:=fun W=>hid (rvalid_any 0 d W)
 go_enter Tryz.func190,Tryz.ntmps190
 go_upto_region 1 with fail
 generalize w.alloc _=W at *
 have HK:=hid k1
 clear k1
 obtain⟨s0,s1,s2,s3,s4,s5⟩:=hS
 cases hv:ratB 0 d with
 | true =>
  rw[hv] at hn HV
  clear hv
  go_wp2_with (go_at_call 119;go_fit (HV _).out;rintro e w2 ⟨rfl,k2⟩;obtain⟨q0,q1,q2,q3,q4,q5⟩:=keepE6 k2 ⟨s0,s1,s2,s3,s4,s5⟩)
  all_goals go_ret
  all_goals exact⟨ret_bool (by rw[hn.out];simp[*]),HK.out.trans k2⟩
 | false =>
 rw[hv] at hn HV
 clear hv
 go_wp2_with (go_at_call 119;go_fit (HV _).out;rintro e w2 ⟨rfl,k2⟩)
 go_ret
 exact⟨ret_bool (by rw[hn.out];rfl),HK.out.trans k2⟩
theorem node1C (r d:Int) (s:ByteArray) (p:Int) (a:Option Addr) (n c:Nat) (w:World) (_hl:n≤1100000) (_hs:s.size≤maxLen) (hr:¬ r=0):Calls Tryz.prog 190 #[.agg #[.int .i64 1,.int .i64 r,.int .i64 d,.string s,.int .i64 p,.slice a n c]] w fun e w'=>e=.returned (.bool (nodeF 1 r d s p n))∧Kp w w':=by
 have k1:Kp w (w.alloc (.cells #[.int .i64 1,.int .i64 r,.int .i64 d,.string s,.int .i64 p,.slice a n c] 71)):=(Kp.refl w).alloc _
 have hS:(w.alloc (.cells #[.int .i64 1,.int .i64 r,.int .i64 d,.string s,.int .i64 p,.slice a n c] 71)).cell? ⟨w.heap.size,0,none⟩=some (.int .i64 1)∧(w.alloc (.cells #[.int .i64 1,.int .i64 r,.int .i64 d,.string s,.int .i64 p,.slice a n c] 71)).cell? ⟨w.heap.size,1,none⟩=some (.int .i64 r)∧(w.alloc (.cells #[.int .i64 1,.int .i64 r,.int .i64 d,.string s,.int .i64 p,.slice a n c] 71)).cell? ⟨w.heap.size,2,none⟩=some (.int .i64 d)∧(w.alloc (.cells #[.int .i64 1,.int .i64 r,.int .i64 d,.string s,.int .i64 p,.slice a n c] 71)).cell? ⟨w.heap.size,3,none⟩=some (.string s)∧(w.alloc (.cells #[.int .i64 1,.int .i64 r,.int .i64 d,.string s,.int .i64 p,.slice a n c] 71)).cell? ⟨w.heap.size,4,none⟩=some (.int .i64 p)∧(w.alloc (.cells #[.int .i64 1,.int .i64 r,.int .i64 d,.string s,.int .i64 p,.slice a n c] 71)).cell? ⟨w.heap.size,5,none⟩=some (.slice a n c):=by simp
 have hn:=hid (nodeF_1 r d s p n)
 have HV:=fun W=>hid (rvalid_any r d W)
 go_enter Tryz.func190,Tryz.ntmps190
 go_upto_region 1 with fail
 generalize w.alloc _=W at *
 have HK:=hid k1
 clear k1
 obtain⟨s0,s1,s2,s3,s4,s5⟩:=hS
 cases hv:ratB r d with
 | true =>
  rw[hv] at hn HV
  clear hv
  go_wp2_with (go_at_call 119;go_fit (HV _).out;rintro e w2 ⟨rfl,k2⟩;obtain⟨q0,q1,q2,q3,q4,q5⟩:=keepE6 k2 ⟨s0,s1,s2,s3,s4,s5⟩)
  all_goals go_ret
  all_goals exact⟨ret_bool (by rw[hn.out];simp[*]),HK.out.trans k2⟩
 | false =>
 rw[hv] at hn HV
 clear hv
 go_wp2_with (go_at_call 119;go_fit (HV _).out;rintro e w2 ⟨rfl,k2⟩)
 go_ret
 exact⟨ret_bool (by rw[hn.out];rfl),HK.out.trans k2⟩
theorem node2A (s:ByteArray) (p:Int) (a:Option Addr) (n c:Nat) (w:World) (_hl:n≤1100000) (_hs:s.size≤maxLen):Calls Tryz.prog 190 #[.agg #[.int .i64 2,.int .i64 0,.int .i64 0,.string s,.int .i64 p,.slice a n c]] w fun e w'=>e=.returned (.bool (nodeF 2 0 0 s p n))∧Kp w w':=by
 have k1:Kp w (w.alloc (.cells #[.int .i64 2,.int .i64 0,.int .i64 0,.string s,.int .i64 p,.slice a n c] 71)):=(Kp.refl w).alloc _
 have hS:(w.alloc (.cells #[.int .i64 2,.int .i64 0,.int .i64 0,.string s,.int .i64 p,.slice a n c] 71)).cell? ⟨w.heap.size,0,none⟩=some (.int .i64 2)∧(w.alloc (.cells #[.int .i64 2,.int .i64 0,.int .i64 0,.string s,.int .i64 p,.slice a n c] 71)).cell? ⟨w.heap.size,1,none⟩=some (.int .i64 0)∧(w.alloc (.cells #[.int .i64 2,.int .i64 0,.int .i64 0,.string s,.int .i64 p,.slice a n c] 71)).cell? ⟨w.heap.size,2,none⟩=some (.int .i64 0)∧(w.alloc (.cells #[.int .i64 2,.int .i64 0,.int .i64 0,.string s,.int .i64 p,.slice a n c] 71)).cell? ⟨w.heap.size,3,none⟩=some (.string s)∧(w.alloc (.cells #[.int .i64 2,.int .i64 0,.int .i64 0,.string s,.int .i64 p,.slice a n c] 71)).cell? ⟨w.heap.size,4,none⟩=some (.int .i64 p)∧(w.alloc (.cells #[.int .i64 2,.int .i64 0,.int .i64 0,.string s,.int .i64 p,.slice a n c] 71)).cell? ⟨w.heap.size,5,none⟩=some (.slice a n c):=by simp
 have hn:=hid (nodeF_2 0 0 s p n)
 have hz:=hid zeroA
 go_enter Tryz.func190,Tryz.ntmps190
 go_upto_region 1 with fail
 generalize w.alloc _=W at *
 have HK:=hid k1
 clear k1
 obtain⟨s0,s1,s2,s3,s4,s5⟩:=hS
 go_wp2_with (go_at_call 104;go_fit (lname_any _ _ _hs);rintro e w2 ⟨rfl,rfl⟩)
 all_goals go_ret
 all_goals exact⟨ret_bool (by rw[hn.out,hz.out];first | (simp[*];done) | (simp[*];omega)),HK.out⟩
theorem node2B (d:Int) (s:ByteArray) (p:Int) (a:Option Addr) (n c:Nat) (w:World) (_hl:n≤1100000) (_hs:s.size≤maxLen) (hd:¬ d=0):Calls Tryz.prog 190 #[.agg #[.int .i64 2,.int .i64 0,.int .i64 d,.string s,.int .i64 p,.slice a n c]] w fun e w'=>e=.returned (.bool (nodeF 2 0 d s p n))∧Kp w w':=by
 have k1:Kp w (w.alloc (.cells #[.int .i64 2,.int .i64 0,.int .i64 d,.string s,.int .i64 p,.slice a n c] 71)):=(Kp.refl w).alloc _
 have hS:(w.alloc (.cells #[.int .i64 2,.int .i64 0,.int .i64 d,.string s,.int .i64 p,.slice a n c] 71)).cell? ⟨w.heap.size,0,none⟩=some (.int .i64 2)∧(w.alloc (.cells #[.int .i64 2,.int .i64 0,.int .i64 d,.string s,.int .i64 p,.slice a n c] 71)).cell? ⟨w.heap.size,1,none⟩=some (.int .i64 0)∧(w.alloc (.cells #[.int .i64 2,.int .i64 0,.int .i64 d,.string s,.int .i64 p,.slice a n c] 71)).cell? ⟨w.heap.size,2,none⟩=some (.int .i64 d)∧(w.alloc (.cells #[.int .i64 2,.int .i64 0,.int .i64 d,.string s,.int .i64 p,.slice a n c] 71)).cell? ⟨w.heap.size,3,none⟩=some (.string s)∧(w.alloc (.cells #[.int .i64 2,.int .i64 0,.int .i64 d,.string s,.int .i64 p,.slice a n c] 71)).cell? ⟨w.heap.size,4,none⟩=some (.int .i64 p)∧(w.alloc (.cells #[.int .i64 2,.int .i64 0,.int .i64 d,.string s,.int .i64 p,.slice a n c] 71)).cell? ⟨w.heap.size,5,none⟩=some (.slice a n c):=by simp
 have hn:=hid (nodeF_2 0 d s p n)
 have hz:=hid (zeroB hd)
 go_enter Tryz.func190,Tryz.ntmps190
 go_upto_region 1 with fail
 generalize w.alloc _=W at *
 have HK:=hid k1
 clear k1
 obtain⟨s0,s1,s2,s3,s4,s5⟩:=hS
 go_wp2_with fail
 go_ret
 exact⟨ret_bool (by rw[hn.out,hz.out];rfl),HK.out⟩
theorem node2C (r d:Int) (s:ByteArray) (p:Int) (a:Option Addr) (n c:Nat) (w:World) (_hl:n≤1100000) (_hs:s.size≤maxLen) (hr:¬ r=0):Calls Tryz.prog 190 #[.agg #[.int .i64 2,.int .i64 r,.int .i64 d,.string s,.int .i64 p,.slice a n c]] w fun e w'=>e=.returned (.bool (nodeF 2 r d s p n))∧Kp w w':=by
 have k1:Kp w (w.alloc (.cells #[.int .i64 2,.int .i64 r,.int .i64 d,.string s,.int .i64 p,.slice a n c] 71)):=(Kp.refl w).alloc _
 have hS:(w.alloc (.cells #[.int .i64 2,.int .i64 r,.int .i64 d,.string s,.int .i64 p,.slice a n c] 71)).cell? ⟨w.heap.size,0,none⟩=some (.int .i64 2)∧(w.alloc (.cells #[.int .i64 2,.int .i64 r,.int .i64 d,.string s,.int .i64 p,.slice a n c] 71)).cell? ⟨w.heap.size,1,none⟩=some (.int .i64 r)∧(w.alloc (.cells #[.int .i64 2,.int .i64 r,.int .i64 d,.string s,.int .i64 p,.slice a n c] 71)).cell? ⟨w.heap.size,2,none⟩=some (.int .i64 d)∧(w.alloc (.cells #[.int .i64 2,.int .i64 r,.int .i64 d,.string s,.int .i64 p,.slice a n c] 71)).cell? ⟨w.heap.size,3,none⟩=some (.string s)∧(w.alloc (.cells #[.int .i64 2,.int .i64 r,.int .i64 d,.string s,.int .i64 p,.slice a n c] 71)).cell? ⟨w.heap.size,4,none⟩=some (.int .i64 p)∧(w.alloc (.cells #[.int .i64 2,.int .i64 r,.int .i64 d,.string s,.int .i64 p,.slice a n c] 71)).cell? ⟨w.heap.size,5,none⟩=some (.slice a n c):=by simp
 have hn:=hid (nodeF_2 r d s p n)
 have hz:=hid (zeroC (d:=d) hr)
 go_enter Tryz.func190,Tryz.ntmps190
 go_upto_region 1 with fail
 generalize w.alloc _=W at *
 have HK:=hid k1
 clear k1
 obtain⟨s0,s1,s2,s3,s4,s5⟩:=hS
 go_wp2_with fail
 go_ret
 exact⟨ret_bool (by rw[hn.out,hz.out];rfl),HK.out⟩
theorem node8A (s:ByteArray) (p:Int) (a:Option Addr) (n c:Nat) (w:World) (_hl:n≤1100000) (_hs:s.size≤maxLen):Calls Tryz.prog 190 #[.agg #[.int .i64 8,.int .i64 0,.int .i64 0,.string s,.int .i64 p,.slice a n c]] w fun e w'=>e=.returned (.bool (nodeF 8 0 0 s p n))∧Kp w w':=by
 have k1:Kp w (w.alloc (.cells #[.int .i64 8,.int .i64 0,.int .i64 0,.string s,.int .i64 p,.slice a n c] 71)):=(Kp.refl w).alloc _
 have hS:(w.alloc (.cells #[.int .i64 8,.int .i64 0,.int .i64 0,.string s,.int .i64 p,.slice a n c] 71)).cell? ⟨w.heap.size,0,none⟩=some (.int .i64 8)∧(w.alloc (.cells #[.int .i64 8,.int .i64 0,.int .i64 0,.string s,.int .i64 p,.slice a n c] 71)).cell? ⟨w.heap.size,1,none⟩=some (.int .i64 0)∧(w.alloc (.cells #[.int .i64 8,.int .i64 0,.int .i64 0,.string s,.int .i64 p,.slice a n c] 71)).cell? ⟨w.heap.size,2,none⟩=some (.int .i64 0)∧(w.alloc (.cells #[.int .i64 8,.int .i64 0,.int .i64 0,.string s,.int .i64 p,.slice a n c] 71)).cell? ⟨w.heap.size,3,none⟩=some (.string s)∧(w.alloc (.cells #[.int .i64 8,.int .i64 0,.int .i64 0,.string s,.int .i64 p,.slice a n c] 71)).cell? ⟨w.heap.size,4,none⟩=some (.int .i64 p)∧(w.alloc (.cells #[.int .i64 8,.int .i64 0,.int .i64 0,.string s,.int .i64 p,.slice a n c] 71)).cell? ⟨w.heap.size,5,none⟩=some (.slice a n c):=by simp
 have hn:=hid (nodeF_8 0 0 s p n)
 have hz:=hid zeroA
 go_enter Tryz.func190,Tryz.ntmps190
 go_upto_region 1 with fail
 generalize w.alloc _=W at *
 have HK:=hid k1
 clear k1
 obtain⟨s0,s1,s2,s3,s4,s5⟩:=hS
 go_wp2_with fail
 all_goals go_ret
 all_goals exact⟨ret_bool (by rw[hn.out,hz.out];first | (simp[*];done) | (simp[*];omega)),HK.out⟩
theorem node8B (d:Int) (s:ByteArray) (p:Int) (a:Option Addr) (n c:Nat) (w:World) (_hl:n≤1100000) (_hs:s.size≤maxLen) (hd:¬ d=0):Calls Tryz.prog 190 #[.agg #[.int .i64 8,.int .i64 0,.int .i64 d,.string s,.int .i64 p,.slice a n c]] w fun e w'=>e=.returned (.bool (nodeF 8 0 d s p n))∧Kp w w':=by
 have k1:Kp w (w.alloc (.cells #[.int .i64 8,.int .i64 0,.int .i64 d,.string s,.int .i64 p,.slice a n c] 71)):=(Kp.refl w).alloc _
 have hS:(w.alloc (.cells #[.int .i64 8,.int .i64 0,.int .i64 d,.string s,.int .i64 p,.slice a n c] 71)).cell? ⟨w.heap.size,0,none⟩=some (.int .i64 8)∧(w.alloc (.cells #[.int .i64 8,.int .i64 0,.int .i64 d,.string s,.int .i64 p,.slice a n c] 71)).cell? ⟨w.heap.size,1,none⟩=some (.int .i64 0)∧(w.alloc (.cells #[.int .i64 8,.int .i64 0,.int .i64 d,.string s,.int .i64 p,.slice a n c] 71)).cell? ⟨w.heap.size,2,none⟩=some (.int .i64 d)∧(w.alloc (.cells #[.int .i64 8,.int .i64 0,.int .i64 d,.string s,.int .i64 p,.slice a n c] 71)).cell? ⟨w.heap.size,3,none⟩=some (.string s)∧(w.alloc (.cells #[.int .i64 8,.int .i64 0,.int .i64 d,.string s,.int .i64 p,.slice a n c] 71)).cell? ⟨w.heap.size,4,none⟩=some (.int .i64 p)∧(w.alloc (.cells #[.int .i64 8,.int .i64 0,.int .i64 d,.string s,.int .i64 p,.slice a n c] 71)).cell? ⟨w.heap.size,5,none⟩=some (.slice a n c):=by simp
 have hn:=hid (nodeF_8 0 d s p n)
 have hz:=hid (zeroB hd)
 go_enter Tryz.func190,Tryz.ntmps190
 go_upto_region 1 with fail
 generalize w.alloc _=W at *
 have HK:=hid k1
 clear k1
 obtain⟨s0,s1,s2,s3,s4,s5⟩:=hS
 go_wp2_with fail
 all_goals go_ret
 all_goals exact⟨ret_bool (by rw[hn.out,hz.out];first | (simp[*];done) | (simp[*];omega)),HK.out⟩
theorem node8C (r d:Int) (s:ByteArray) (p:Int) (a:Option Addr) (n c:Nat) (w:World) (_hl:n≤1100000) (_hs:s.size≤maxLen) (hr:¬ r=0):Calls Tryz.prog 190 #[.agg #[.int .i64 8,.int .i64 r,.int .i64 d,.string s,.int .i64 p,.slice a n c]] w fun e w'=>e=.returned (.bool (nodeF 8 r d s p n))∧Kp w w':=by
 have k1:Kp w (w.alloc (.cells #[.int .i64 8,.int .i64 r,.int .i64 d,.string s,.int .i64 p,.slice a n c] 71)):=(Kp.refl w).alloc _
 have hS:(w.alloc (.cells #[.int .i64 8,.int .i64 r,.int .i64 d,.string s,.int .i64 p,.slice a n c] 71)).cell? ⟨w.heap.size,0,none⟩=some (.int .i64 8)∧(w.alloc (.cells #[.int .i64 8,.int .i64 r,.int .i64 d,.string s,.int .i64 p,.slice a n c] 71)).cell? ⟨w.heap.size,1,none⟩=some (.int .i64 r)∧(w.alloc (.cells #[.int .i64 8,.int .i64 r,.int .i64 d,.string s,.int .i64 p,.slice a n c] 71)).cell? ⟨w.heap.size,2,none⟩=some (.int .i64 d)∧(w.alloc (.cells #[.int .i64 8,.int .i64 r,.int .i64 d,.string s,.int .i64 p,.slice a n c] 71)).cell? ⟨w.heap.size,3,none⟩=some (.string s)∧(w.alloc (.cells #[.int .i64 8,.int .i64 r,.int .i64 d,.string s,.int .i64 p,.slice a n c] 71)).cell? ⟨w.heap.size,4,none⟩=some (.int .i64 p)∧(w.alloc (.cells #[.int .i64 8,.int .i64 r,.int .i64 d,.string s,.int .i64 p,.slice a n c] 71)).cell? ⟨w.heap.size,5,none⟩=some (.slice a n c):=by simp
 have hn:=hid (nodeF_8 r d s p n)
 have hz:=hid (zeroC (d:=d) hr)
 go_enter Tryz.func190,Tryz.ntmps190
 go_upto_region 1 with fail
 generalize w.alloc _=W at *
 have HK:=hid k1
 clear k1
 obtain⟨s0,s1,s2,s3,s4,s5⟩:=hS
 go_wp2_with fail
 all_goals go_ret
 all_goals exact⟨ret_bool (by rw[hn.out,hz.out];first | (simp[*];done) | (simp[*];omega)),HK.out⟩
theorem nodekA (k:Int) (s:ByteArray) (p:Int) (a:Option Addr) (n c:Nat) (w:World) (_hl:n≤1100000) (_hs:s.size≤maxLen) (h1:(k==1)=false) (h2:(k==2)=false) (h8:(k==8)=false):Calls Tryz.prog 190 #[.agg #[.int .i64 k,.int .i64 0,.int .i64 0,.string s,.int .i64 p,.slice a n c]] w fun e w'=>e=.returned (.bool (nodeF k 0 0 s p n))∧Kp w w':=by
 have k1:Kp w (w.alloc (.cells #[.int .i64 k,.int .i64 0,.int .i64 0,.string s,.int .i64 p,.slice a n c] 71)):=(Kp.refl w).alloc _
 have hS:(w.alloc (.cells #[.int .i64 k,.int .i64 0,.int .i64 0,.string s,.int .i64 p,.slice a n c] 71)).cell? ⟨w.heap.size,0,none⟩=some (.int .i64 k)∧(w.alloc (.cells #[.int .i64 k,.int .i64 0,.int .i64 0,.string s,.int .i64 p,.slice a n c] 71)).cell? ⟨w.heap.size,1,none⟩=some (.int .i64 0)∧(w.alloc (.cells #[.int .i64 k,.int .i64 0,.int .i64 0,.string s,.int .i64 p,.slice a n c] 71)).cell? ⟨w.heap.size,2,none⟩=some (.int .i64 0)∧(w.alloc (.cells #[.int .i64 k,.int .i64 0,.int .i64 0,.string s,.int .i64 p,.slice a n c] 71)).cell? ⟨w.heap.size,3,none⟩=some (.string s)∧(w.alloc (.cells #[.int .i64 k,.int .i64 0,.int .i64 0,.string s,.int .i64 p,.slice a n c] 71)).cell? ⟨w.heap.size,4,none⟩=some (.int .i64 p)∧(w.alloc (.cells #[.int .i64 k,.int .i64 0,.int .i64 0,.string s,.int .i64 p,.slice a n c] 71)).cell? ⟨w.heap.size,5,none⟩=some (.slice a n c):=by simp
 have hn:=hid (nodeF_k k 0 0 s p n h1 h2 h8)
 have hz:=hid zeroA
 go_enter Tryz.func190,Tryz.ntmps190
 go_upto_region 1 with fail
 generalize w.alloc _=W at *
 have HK:=hid k1
 clear k1
 obtain⟨s0,s1,s2,s3,s4,s5⟩:=hS
 cases he:s.toList.isEmpty with
 | false =>
  have hn2:=hn.out
  rw[he,hz.out] at hn2
  have Hn:=hid hn2
  clear hn2
  go_wp2_with fail
  go_quiet (fail)
  go_wp2_with fail
  go_ret
  exact⟨ret_bool (by rw[Hn.out];rfl),HK.out.drewN _⟩
 | true =>
 cases hp:(p==0) with
 | true =>
  have hn2:=hn.out
  rw[he,hz.out,hp] at hn2
  have Hn:=hid hn2
  clear hn2
  go_wp2_with fail
  go_quiet (first | (go_at_call 226;exact Calls.quiet_of_same (ops_any k _)) | fail)
  go_wp2_with fail
  go_ret
  exact⟨ret_bool (by rw[Hn.out];simp),HK.out.drewN _⟩
 | false =>
 have hn2:=hn.out
 rw[he,hz.out,hp] at hn2
 have Hn:=hid hn2
 clear hn2
 go_wp2_with fail
 go_quiet (fail)
 go_wp2_with fail
 go_ret
 exact⟨ret_bool (by rw[Hn.out];rfl),HK.out.drewN _⟩
theorem nodekB (k:Int) (d:Int) (s:ByteArray) (p:Int) (a:Option Addr) (n c:Nat) (w:World) (_hl:n≤1100000) (_hs:s.size≤maxLen) (h1:(k==1)=false) (h2:(k==2)=false) (h8:(k==8)=false) (hd:¬ d=0):Calls Tryz.prog 190 #[.agg #[.int .i64 k,.int .i64 0,.int .i64 d,.string s,.int .i64 p,.slice a n c]] w fun e w'=>e=.returned (.bool (nodeF k 0 d s p n))∧Kp w w':=by
 have k1:Kp w (w.alloc (.cells #[.int .i64 k,.int .i64 0,.int .i64 d,.string s,.int .i64 p,.slice a n c] 71)):=(Kp.refl w).alloc _
 have hS:(w.alloc (.cells #[.int .i64 k,.int .i64 0,.int .i64 d,.string s,.int .i64 p,.slice a n c] 71)).cell? ⟨w.heap.size,0,none⟩=some (.int .i64 k)∧(w.alloc (.cells #[.int .i64 k,.int .i64 0,.int .i64 d,.string s,.int .i64 p,.slice a n c] 71)).cell? ⟨w.heap.size,1,none⟩=some (.int .i64 0)∧(w.alloc (.cells #[.int .i64 k,.int .i64 0,.int .i64 d,.string s,.int .i64 p,.slice a n c] 71)).cell? ⟨w.heap.size,2,none⟩=some (.int .i64 d)∧(w.alloc (.cells #[.int .i64 k,.int .i64 0,.int .i64 d,.string s,.int .i64 p,.slice a n c] 71)).cell? ⟨w.heap.size,3,none⟩=some (.string s)∧(w.alloc (.cells #[.int .i64 k,.int .i64 0,.int .i64 d,.string s,.int .i64 p,.slice a n c] 71)).cell? ⟨w.heap.size,4,none⟩=some (.int .i64 p)∧(w.alloc (.cells #[.int .i64 k,.int .i64 0,.int .i64 d,.string s,.int .i64 p,.slice a n c] 71)).cell? ⟨w.heap.size,5,none⟩=some (.slice a n c):=by simp
 have hn:=hid (nodeF_k k 0 d s p n h1 h2 h8)
 have hz:=hid (zeroB hd)
 go_enter Tryz.func190,Tryz.ntmps190
 go_upto_region 1 with fail
 generalize w.alloc _=W at *
 have HK:=hid k1
 clear k1
 obtain⟨s0,s1,s2,s3,s4,s5⟩:=hS
 go_wp2_with fail
 go_quiet (fail)
 go_wp2_with fail
 go_ret
 exact⟨ret_bool (by rw[hn.out,hz.out];rfl),HK.out.drewN _⟩
theorem nodekC (k:Int) (r d:Int) (s:ByteArray) (p:Int) (a:Option Addr) (n c:Nat) (w:World) (_hl:n≤1100000) (_hs:s.size≤maxLen) (h1:(k==1)=false) (h2:(k==2)=false) (h8:(k==8)=false) (hr:¬ r=0):Calls Tryz.prog 190 #[.agg #[.int .i64 k,.int .i64 r,.int .i64 d,.string s,.int .i64 p,.slice a n c]] w fun e w'=>e=.returned (.bool (nodeF k r d s p n))∧Kp w w':=by
 have k1:Kp w (w.alloc (.cells #[.int .i64 k,.int .i64 r,.int .i64 d,.string s,.int .i64 p,.slice a n c] 71)):=(Kp.refl w).alloc _
 have hS:(w.alloc (.cells #[.int .i64 k,.int .i64 r,.int .i64 d,.string s,.int .i64 p,.slice a n c] 71)).cell? ⟨w.heap.size,0,none⟩=some (.int .i64 k)∧(w.alloc (.cells #[.int .i64 k,.int .i64 r,.int .i64 d,.string s,.int .i64 p,.slice a n c] 71)).cell? ⟨w.heap.size,1,none⟩=some (.int .i64 r)∧(w.alloc (.cells #[.int .i64 k,.int .i64 r,.int .i64 d,.string s,.int .i64 p,.slice a n c] 71)).cell? ⟨w.heap.size,2,none⟩=some (.int .i64 d)∧(w.alloc (.cells #[.int .i64 k,.int .i64 r,.int .i64 d,.string s,.int .i64 p,.slice a n c] 71)).cell? ⟨w.heap.size,3,none⟩=some (.string s)∧(w.alloc (.cells #[.int .i64 k,.int .i64 r,.int .i64 d,.string s,.int .i64 p,.slice a n c] 71)).cell? ⟨w.heap.size,4,none⟩=some (.int .i64 p)∧(w.alloc (.cells #[.int .i64 k,.int .i64 r,.int .i64 d,.string s,.int .i64 p,.slice a n c] 71)).cell? ⟨w.heap.size,5,none⟩=some (.slice a n c):=by simp
 have hn:=hid (nodeF_k k r d s p n h1 h2 h8)
 have hz:=hid (zeroC (d:=d) hr)
 go_enter Tryz.func190,Tryz.ntmps190
 go_upto_region 1 with fail
 generalize w.alloc _=W at *
 have HK:=hid k1
 clear k1
 obtain⟨s0,s1,s2,s3,s4,s5⟩:=hS
 go_wp2_with fail
 go_quiet (fail)
 go_wp2_with fail
 go_ret
 exact⟨ret_bool (by rw[hn.out,hz.out];rfl),HK.out.drewN _⟩
theorem node_any (x:Ex) (w:World) (hl:x.l.length≤1100000) (hs:x.name.size≤maxLen):Calls Tryz.prog 190 #[.agg #[.int .i64 x.kind,.int .i64 x.rn,.int .i64 x.rd,.string x.name,.int .i64 x.pw,.slice x.a x.l.length x.c]] w fun e w'=>e=.returned (.bool (nodeB x))∧Kp w w':=by
 rw[nodeB_F]
 obtain⟨k,r,d,s,p,a,c,l⟩:=x
 show Calls Tryz.prog 190 #[.agg #[.int .i64 k,.int .i64 r,.int .i64 d,.string s,.int .i64 p,.slice a l.length c]] w fun e w'=>e=.returned (.bool (nodeF k r d s p l.length))∧Kp w w'
 replace hl:l.length≤1100000:=hl
 replace hs:s.size≤maxLen:=hs
 by_cases h1:k=1
 ·subst h1
  by_cases hr:r=0
  ·subst hr
   by_cases hd:d=0
   ·subst hd;exact node1A s p a l.length c w hl hs
   exact node1B d s p a l.length c w hl hs hd
  exact node1C r d s p a l.length c w hl hs hr
 by_cases h2:k=2
 ·subst h2
  by_cases hr:r=0
  ·subst hr
   by_cases hd:d=0
   ·subst hd;exact node2A s p a l.length c w hl hs
   exact node2B d s p a l.length c w hl hs hd
  exact node2C r d s p a l.length c w hl hs hr
 by_cases h8:k=8
 ·subst h8
  by_cases hr:r=0
  ·subst hr
   by_cases hd:d=0
   ·subst hd;exact node8A s p a l.length c w hl hs
   exact node8B d s p a l.length c w hl hs hd
  exact node8C r d s p a l.length c w hl hs hr
 have b1:(k==1)=false:=beq_eq_false_iff_ne.2 h1
 have b2:(k==2)=false:=beq_eq_false_iff_ne.2 h2
 have b8:(k==8)=false:=beq_eq_false_iff_ne.2 h8
 by_cases hr:r=0
 ·subst hr
  by_cases hd:d=0
  ·subst hd;exact nodekA k s p a l.length c w hl hs b1 b2 b8
  exact nodekB k d s p a l.length c w hl hs b1 b2 b8 hd
 exact nodekC k r d s p a l.length c w hl hs b1 b2 b8 hr
end Go.Proofs.YteidgoldnllabaaGreatDoor
