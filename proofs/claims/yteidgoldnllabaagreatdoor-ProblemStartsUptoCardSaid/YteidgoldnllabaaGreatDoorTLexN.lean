/-
  Walks: lex.class, lex.word.
-/
import Derived.Test.YteidgoldnllabaaGreatDoorTNum
import Derived.Deep.CutRange
import Derived.Deep.DeepFit
import Derived.Deep.LoopGhost
import Derived.Deep.RegionWith
set_option maxHeartbeats 4000000
set_option maxRecDepth 20000
namespace Go.Proofs.YteidgoldnllabaaGreatDoor
open Go.RowKit
open Lib (hid)
theorem class_any (b:UInt8) (w:World):Calls Tryz.prog 199 #[.int .u8 (b.toNat:Int)] w fun e w' =>
  ∃ k:Int,e=.returned (.int .i64 k)∧w'=w∧(k=2↔isLet b=true)∧((k=2∨k=3∨k=4)↔isRun b=true):=by
 have hb:b.toNat<256:=b.toNat_lt
 have hL:isLet b=true↔(97≤b.toNat∧b.toNat≤122)∨(65≤b.toNat∧b.toNat≤90):=by unfold isLet;simp
 have hR:isRun b=true↔((97≤b.toNat∧b.toNat≤122)∨(65≤b.toNat∧b.toNat≤90))∨(48≤b.toNat∧b.toNat≤57)∨b.toNat=95:=by unfold isRun isDig isLet;simp
 generalize hn:b.toNat=n at *
 have HL:=hid hL
 have HR:=hid hR
 clear hL hR hn
 generalize isLet b=l at *
 generalize isRun b=r at *
 clear b
 go_enter Tryz.func199,Tryz.ntmps199
 have n0:(0:Int)≤(n:Int):=by omega
 by_cases c0:(n:Int)=32
 ·(go_wp2;go_ret;refine⟨1,?_,rfl,by rw[HL.out];omega,by rw[HR.out];omega⟩;rfl)
 replace c0:((n:Int)==32)=false:=beq_eq_false_iff_ne.2 c0
 by_cases c1:(n:Int)=9
 ·(go_wp2;go_ret;refine⟨1,?_,rfl,by rw[HL.out];omega,by rw[HR.out];omega⟩;rfl)
 replace c1:((n:Int)==9)=false:=beq_eq_false_iff_ne.2 c1
 by_cases c2:(n:Int)=13
 ·(go_wp2;go_ret;refine⟨1,?_,rfl,by rw[HL.out];omega,by rw[HR.out];omega⟩;rfl)
 replace c2:((n:Int)==13)=false:=beq_eq_false_iff_ne.2 c2
 by_cases c3:(n:Int)=10
 ·(go_wp2;go_ret;refine⟨1,?_,rfl,by rw[HL.out];omega,by rw[HR.out];omega⟩;rfl)
 replace c3:((n:Int)==10)=false:=beq_eq_false_iff_ne.2 c3
 rcases (by omega:(0≤n∧n≤45)∨(46≤n∧n≤46)∨(47≤n∧n≤47)∨(48≤n∧n≤57)∨(58≤n∧n≤64)∨(65≤n∧n≤90)∨(91≤n∧n≤94)∨(95≤n∧n≤95)∨(96≤n∧n≤96)∨(97≤n∧n≤122)∨(123≤n∧n≤255)) with hi | hi | hi | hi | hi | hi | hi | hi | hi | hi | hi
 ·have d0:¬ (97:Int)≤(n:Int):=by omega
  have e0:¬ (65:Int)≤(n:Int):=by omega
  have f0:¬ (48:Int)≤(n:Int):=by omega
  have d1:(n:Int)≤122:=by omega
  have e1:(n:Int)≤90:=by omega
  have f1:(n:Int)≤57:=by omega
  have g:((n:Int)==95)=false:=beq_eq_false_iff_ne.2 (by omega)
  have h:((n:Int)==46)=false:=beq_eq_false_iff_ne.2 (by omega)
  have Hi:=hid hi
  clear hi hb
  go_wp2_with (refine (ixb_any _ _ _).mono ?_;rintro e w' ⟨k2,rfl,rfl⟩;by_cases hk:(0:Int)≤k2)
  ·go_ret
   refine⟨6,?_,rfl,by rw[HL.out];have:=Hi.out;omega,by rw[HR.out];have:=Hi.out;omega⟩
   rfl
  go_ret
  refine⟨0,?_,rfl,by rw[HL.out];have:=Hi.out;omega,by rw[HR.out];have:=Hi.out;omega⟩
  rfl
 ·have d0:¬ (97:Int)≤(n:Int):=by omega
  have e0:¬ (65:Int)≤(n:Int):=by omega
  have f0:¬ (48:Int)≤(n:Int):=by omega
  have d1:(n:Int)≤122:=by omega
  have e1:(n:Int)≤90:=by omega
  have f1:(n:Int)≤57:=by omega
  have g:((n:Int)==95)=false:=beq_eq_false_iff_ne.2 (by omega)
  have h:(n:Int)=46:=by omega
  have Hi:=hid hi
  clear hi hb
  go_wp2
  go_ret
  refine⟨5,?_,rfl,by rw[HL.out];have:=Hi.out;omega,by rw[HR.out];have:=Hi.out;omega⟩
  rfl
 ·have d0:¬ (97:Int)≤(n:Int):=by omega
  have e0:¬ (65:Int)≤(n:Int):=by omega
  have f0:¬ (48:Int)≤(n:Int):=by omega
  have d1:(n:Int)≤122:=by omega
  have e1:(n:Int)≤90:=by omega
  have f1:(n:Int)≤57:=by omega
  have g:((n:Int)==95)=false:=beq_eq_false_iff_ne.2 (by omega)
  have h:((n:Int)==46)=false:=beq_eq_false_iff_ne.2 (by omega)
  have Hi:=hid hi
  clear hi hb
  go_wp2_with (refine (ixb_any _ _ _).mono ?_;rintro e w' ⟨k2,rfl,rfl⟩;by_cases hk:(0:Int)≤k2)
  ·go_ret
   refine⟨6,?_,rfl,by rw[HL.out];have:=Hi.out;omega,by rw[HR.out];have:=Hi.out;omega⟩
   rfl
  go_ret
  refine⟨0,?_,rfl,by rw[HL.out];have:=Hi.out;omega,by rw[HR.out];have:=Hi.out;omega⟩
  rfl
 ·have d0:¬ (97:Int)≤(n:Int):=by omega
  have e0:¬ (65:Int)≤(n:Int):=by omega
  have f0:(48:Int)≤(n:Int):=by omega
  have d1:(n:Int)≤122:=by omega
  have e1:(n:Int)≤90:=by omega
  have f1:(n:Int)≤57:=by omega
  have g:((n:Int)==95)=false:=beq_eq_false_iff_ne.2 (by omega)
  have h:((n:Int)==46)=false:=beq_eq_false_iff_ne.2 (by omega)
  have Hi:=hid hi
  clear hi hb
  go_wp2
  go_ret
  refine⟨3,?_,rfl,by rw[HL.out];have:=Hi.out;omega,by rw[HR.out];have:=Hi.out;omega⟩
  rfl
 ·have d0:¬ (97:Int)≤(n:Int):=by omega
  have e0:¬ (65:Int)≤(n:Int):=by omega
  have f0:(48:Int)≤(n:Int):=by omega
  have d1:(n:Int)≤122:=by omega
  have e1:(n:Int)≤90:=by omega
  have f1:¬ (n:Int)≤57:=by omega
  have g:((n:Int)==95)=false:=beq_eq_false_iff_ne.2 (by omega)
  have h:((n:Int)==46)=false:=beq_eq_false_iff_ne.2 (by omega)
  have Hi:=hid hi
  clear hi hb
  go_wp2_with (refine (ixb_any _ _ _).mono ?_;rintro e w' ⟨k2,rfl,rfl⟩;by_cases hk:(0:Int)≤k2)
  ·go_ret
   refine⟨6,?_,rfl,by rw[HL.out];have:=Hi.out;omega,by rw[HR.out];have:=Hi.out;omega⟩
   rfl
  go_ret
  refine⟨0,?_,rfl,by rw[HL.out];have:=Hi.out;omega,by rw[HR.out];have:=Hi.out;omega⟩
  rfl
 ·have d0:¬ (97:Int)≤(n:Int):=by omega
  have e0:(65:Int)≤(n:Int):=by omega
  have f0:(48:Int)≤(n:Int):=by omega
  have d1:(n:Int)≤122:=by omega
  have e1:(n:Int)≤90:=by omega
  have f1:¬ (n:Int)≤57:=by omega
  have g:((n:Int)==95)=false:=beq_eq_false_iff_ne.2 (by omega)
  have h:((n:Int)==46)=false:=beq_eq_false_iff_ne.2 (by omega)
  have Hi:=hid hi
  clear hi hb
  go_wp2
  go_ret
  refine⟨2,?_,rfl,by rw[HL.out];have:=Hi.out;omega,by rw[HR.out];have:=Hi.out;omega⟩
  rfl
 ·have d0:¬ (97:Int)≤(n:Int):=by omega
  have e0:(65:Int)≤(n:Int):=by omega
  have f0:(48:Int)≤(n:Int):=by omega
  have d1:(n:Int)≤122:=by omega
  have e1:¬ (n:Int)≤90:=by omega
  have f1:¬ (n:Int)≤57:=by omega
  have g:((n:Int)==95)=false:=beq_eq_false_iff_ne.2 (by omega)
  have h:((n:Int)==46)=false:=beq_eq_false_iff_ne.2 (by omega)
  have Hi:=hid hi
  clear hi hb
  go_wp2_with (refine (ixb_any _ _ _).mono ?_;rintro e w' ⟨k2,rfl,rfl⟩;by_cases hk:(0:Int)≤k2)
  ·go_ret
   refine⟨6,?_,rfl,by rw[HL.out];have:=Hi.out;omega,by rw[HR.out];have:=Hi.out;omega⟩
   rfl
  go_ret
  refine⟨0,?_,rfl,by rw[HL.out];have:=Hi.out;omega,by rw[HR.out];have:=Hi.out;omega⟩
  rfl
 ·have d0:¬ (97:Int)≤(n:Int):=by omega
  have e0:(65:Int)≤(n:Int):=by omega
  have f0:(48:Int)≤(n:Int):=by omega
  have d1:(n:Int)≤122:=by omega
  have e1:¬ (n:Int)≤90:=by omega
  have f1:¬ (n:Int)≤57:=by omega
  have g:(n:Int)=95:=by omega
  have h:((n:Int)==46)=false:=beq_eq_false_iff_ne.2 (by omega)
  have Hi:=hid hi
  clear hi hb
  go_wp2
  go_ret
  refine⟨4,?_,rfl,by rw[HL.out];have:=Hi.out;omega,by rw[HR.out];have:=Hi.out;omega⟩
  rfl
 ·have d0:¬ (97:Int)≤(n:Int):=by omega
  have e0:(65:Int)≤(n:Int):=by omega
  have f0:(48:Int)≤(n:Int):=by omega
  have d1:(n:Int)≤122:=by omega
  have e1:¬ (n:Int)≤90:=by omega
  have f1:¬ (n:Int)≤57:=by omega
  have g:((n:Int)==95)=false:=beq_eq_false_iff_ne.2 (by omega)
  have h:((n:Int)==46)=false:=beq_eq_false_iff_ne.2 (by omega)
  have Hi:=hid hi
  clear hi hb
  go_wp2_with (refine (ixb_any _ _ _).mono ?_;rintro e w' ⟨k2,rfl,rfl⟩;by_cases hk:(0:Int)≤k2)
  ·go_ret
   refine⟨6,?_,rfl,by rw[HL.out];have:=Hi.out;omega,by rw[HR.out];have:=Hi.out;omega⟩
   rfl
  go_ret
  refine⟨0,?_,rfl,by rw[HL.out];have:=Hi.out;omega,by rw[HR.out];have:=Hi.out;omega⟩
  rfl
 ·have d0:(97:Int)≤(n:Int):=by omega
  have e0:(65:Int)≤(n:Int):=by omega
  have f0:(48:Int)≤(n:Int):=by omega
  have d1:(n:Int)≤122:=by omega
  have e1:¬ (n:Int)≤90:=by omega
  have f1:¬ (n:Int)≤57:=by omega
  have g:((n:Int)==95)=false:=beq_eq_false_iff_ne.2 (by omega)
  have h:((n:Int)==46)=false:=beq_eq_false_iff_ne.2 (by omega)
  have Hi:=hid hi
  clear hi hb
  go_wp2
  go_ret
  refine⟨2,?_,rfl,by rw[HL.out];have:=Hi.out;omega,by rw[HR.out];have:=Hi.out;omega⟩
  rfl
 have d0:(97:Int)≤(n:Int):=by omega
 have e0:(65:Int)≤(n:Int):=by omega
 have f0:(48:Int)≤(n:Int):=by omega
 have d1:¬ (n:Int)≤122:=by omega
 have e1:¬ (n:Int)≤90:=by omega
 have f1:¬ (n:Int)≤57:=by omega
 have g:((n:Int)==95)=false:=beq_eq_false_iff_ne.2 (by omega)
 have h:((n:Int)==46)=false:=beq_eq_false_iff_ne.2 (by omega)
 have Hi:=hid hi
 clear hi hb
 go_wp2_with (refine (ixb_any _ _ _).mono ?_;rintro e w' ⟨k2,rfl,rfl⟩;by_cases hk:(0:Int)≤k2)
 ·go_ret
  refine⟨6,?_,rfl,by rw[HL.out];have:=Hi.out;omega,by rw[HR.out];have:=Hi.out;omega⟩
  rfl
 go_ret
 refine⟨0,?_,rfl,by rw[HL.out];have:=Hi.out;omega,by rw[HR.out];have:=Hi.out;omega⟩
 rfl
theorem lword_any (s:ByteArray) (w:World) (hs:s.size≤maxLen):Calls Tryz.prog 156 #[.string s] w fun e w'=>e=.returned (.bool (wordB s))∧w'=w:=by
 go_enter Tryz.func156,Tryz.ntmps156
 have hs2:s.size≤9223372036854775807:=hs
 by_cases h0:s.size=0
 · have hw:=hid (word_empty h0)
   obtain rfl:=size_zero.1 h0
   go_wp2
   go_ret
   exact⟨ret_bool hw.out.symm,rfl⟩
 have h1:0<s.size:=by omega
 have hb:=hid (byte_at h1)
 have hne:s.toList.isEmpty=false:=by
   rw[← Bool.not_eq_true,List.isEmpty_iff];exact fun e=>h0 (by rw[← byte_size,← ByteArray.toList_eq,e];rfl)
 have hs1:(0:Int)≤0∧(0:Int)<s.size:=by omega
 cases hl:isLet (s[0]'h1) with
 | false =>
   have hw:=hid (word_let hb.out hl)
   go_wp2_with (refine (class_any _ _).mono ?_;rintro e w' ⟨k,rfl,rfl,hk1,hk2⟩;have hk:(k != 2)=true:=(by rw[bne_iff_ne,Ne,hk1,hl];decide);clear hk1 hk2)
   go_ret
   exact⟨ret_bool hw.out.symm,rfl⟩
 | true =>
 have Hl:=hid hl
 clear hl
 go_wp2_with (refine (class_any _ _).mono ?_;rintro e w' ⟨k,rfl,rfl,hk1,hk2⟩;have hk:k=2:=(by rw[hk1];exact Hl.out);subst hk;clear hk1 hk2 hs1 hne)
 go_loopw [15] (fun x wr=>∃ k:Nat,k≤s.size∧x=.int .i64 k∧(∀ (i:Nat) (c:UInt8),s.data.toList[i]? = some c→i<k→isRun c=true)∧wr=w') (fun x _=>s.size-(intOf x).toNat)
 case atStart=>exact⟨0,by omega,rfl,fun i c _ h=>by omega,rfl⟩
 case round =>
 obtain⟨k,hk,rfl,hz,rfl⟩:=hrel
 have Hz:=hid hz;clear hz
 by_cases hlt:k<s.size
 rotate_left
 · obtain rfl:k=s.size:=by omega
   have hw:=hid (word_yes hb.out Hl.out fun i c hi=>Hz.out i c hi (by rw[← byte_size];exact (List.getElem?_eq_some_iff.1 hi).1))
   go_wp2
   go_ret
   exact⟨ret_bool hw.out.symm,rfl⟩
 have Hk:=hid (byte_at hlt)
 have hr:(0:Int)≤k∧(k:Int)<s.size:=by omega
 cases hq:isRun (s[k]'hlt) with
 | false =>
   have hw:=hid (word_no Hk.out hq)
   have Hq:=hid hq;clear hq
   go_wp2_with (refine (class_any _ _).mono ?_;rintro e w2 ⟨k2,rfl,rfl,hk1,hk2⟩;rw[Hq.out] at hk2;have a2:(k2 != 2)=true:=(bne_iff_ne.2 fun e=>by simp[e] at hk2);have a3:(k2 != 3)=true:=(bne_iff_ne.2 fun e=>by simp[e] at hk2);have a4:(k2 != 4)=true:=(bne_iff_ne.2 fun e=>by simp[e] at hk2);clear hk1 hk2)
   go_ret
   exact⟨ret_bool hw.out.symm,rfl⟩
 | true =>
 have Hq:=hid hq;clear hq
 go_wp2_with (refine (class_any _ _).mono ?_;rintro e w2 ⟨k2,rfl,rfl,hk1,hk2⟩;rcases hk2.2 Hq.out with rfl | rfl | rfl <;> clear hk1 hk2)
 all_goals go_roundw
 all_goals first
   | (simp[intOf];omega)
   | (refine ⟨k + 1, by omega, by go_num, fun i c hi hik => ?_, by trivial⟩
      rcases Nat.lt_or_ge i k with hik2 | hik2
      · exact Hz.out i c hi hik2
      · rw[show i=k from by omega,Hk.out] at hi
        injection hi with hi
        rw[← hi];exact Hq.out)
def keyL:List (List UInt8):=[[115,116,97,116,101],[112,97,114,97,109],[105,110],[109,111,100,101],[119,104,101,110],[114,105,115,101,115],[102,97,108,108,115],[103,111,116,111],[119,105,116,104],[116,105,109,101],[101,120,112],[108,111,103],[115,105,110],[99,111,115],[115,113,114,116]]
theorem key_list (s:ByteArray):keyB s=keyL.any fun k=>s.toList==k:=by
 have h:∀ k:String,decide (s=k.toUTF8)=(s.toList==k.toUTF8.data.toList):=fun k=>by rw[← ByteArray.toList_eq];exact (str_eq s k.toUTF8).symm
 have e:keyL=keywords.map fun k=>k.toUTF8.data.toList:=by decide +kernel
 unfold keyB
 rw[e,List.any_map]
 congr 1
 funext k
 exact h k
theorem lkey_any (s:ByteArray) (w:World):Calls Tryz.prog 157 #[.string s] w fun e w'=>e=.returned (.bool (keyB s))∧w'=w:=by
 have hk:=hid (key_list s)
 go_enter Tryz.func157,Tryz.ntmps157
 go_wp2
 all_goals go_ret
 all_goals refine⟨ret_bool ?_,rfl⟩
 all_goals rw[hk.out]
 all_goals simp_all [keyL]
theorem lname_any (s:ByteArray) (w:World) (hs:s.size≤maxLen):Calls Tryz.prog 104 #[.string s] w fun e w'=>e=.returned (.bool (nameB s))∧w'=w:=by
 have hd:nameB s=(wordB s&&(decide (s.size≤20)&&!keyB s)):=rfl
 have HW:=hid (lword_any s w hs)
 have HK:=hid (lkey_any s w)
 go_enter Tryz.func104,Tryz.ntmps104
 cases h1:wordB s with
 | false =>
  rw[h1] at hd HW
  have Hd:=hid hd;clear hd h1
  go_wp2_with (refine HW.out.mono ?_;rintro e w' ⟨rfl,rfl⟩)
  go_ret
  exact⟨ret_bool Hd.out.symm,rfl⟩
 | true =>
 rw[h1] at hd HW
 by_cases h2:s.size≤20
 ·rw[decide_eq_true h2] at hd
  have Hd:=hid hd;clear hd h1
  have h3:(s.size:Int)≤20:=by omega
  go_wp2_with (first | (refine HW.out.mono ?_;rintro e w' ⟨rfl,rfl⟩) | (refine HK.out.mono ?_;rintro e w' ⟨rfl,rfl⟩) | fail)
  go_ret
  exact⟨ret_bool (by rw[Hd.out];simp),rfl⟩
 rw[decide_eq_false h2] at hd
 have Hd:=hid hd;clear hd h1
 have h3:¬ (s.size:Int)≤20:=by omega
 go_wp2_with (refine HW.out.mono ?_;rintro e w' ⟨rfl,rfl⟩)
 go_ret
 exact⟨ret_bool (by rw[Hd.out];rfl),rfl⟩
theorem rsize_any (n:Int) (w:World) (h0:-1073741824≤n) (h1:n≤1073741824):Calls Tryz.prog 168 #[.int .i64 n] w fun e w'=>e=.returned (.int .u64 (n.natAbs:Int))∧w'=w:=by
 go_enter Tryz.func168,Tryz.ntmps168
 by_cases hn:n<0
 ·go_wp2
  go_ret
  refine⟨ret_int ?_,rfl⟩
  omega
 go_wp2
 go_ret
 refine⟨ret_int ?_,rfl⟩
 omega
theorem rgcd_any (a b:Nat) (w:World) (ha:a≤1073741824) (hb:b≤1073741824):Calls Tryz.prog 167 #[.int .u64 (a:Int),.int .u64 (b:Int)] w fun e w'=>e=.returned (.int .u64 ((Nat.gcd a b:Nat):Int))∧∃ m,w'=w.drewN m:=by
 go_enter Tryz.func167,Tryz.ntmps167
 go_wp2
 go_loopw [0,1] (fun x y wr=>∃ c d:Nat,x=.int .u64 (c:Int)∧y=.int .u64 (d:Int)∧c≤1073741824∧d≤1073741824∧Nat.gcd c d=Nat.gcd a b∧∃ m,wr=w.drewN m) (fun _ y _=>(intOf y).toNat)
 case atStart=>exact⟨a,b,rfl,rfl,ha,hb,rfl,0,rfl⟩
 case round =>
 obtain⟨c,d,rfl,rfl,hc,hd,hg,q,rfl⟩:=hrel
 have Hg:=hid hg;clear hg
 by_cases h0:d=0
 ·subst h0
  go_wp2
  go_ret
  exact⟨ret_int (by rw[← Hg.out,Nat.gcd_zero_right]),q,rfl⟩
 have h1:((d:Int) != 0)=true:=by rw[bne_iff_ne];omega
 have h2:(d:Int)≠0:=by omega
 have hm:((c:Int) % (d:Int))=((c % d:Nat):Int):=by omega
 have hlt:c % d<d:=Nat.mod_lt _ (by omega)
 have hle:c % d≤1073741824:=by omega
 have hgc:Nat.gcd d (c % d)=Nat.gcd c d:=by rw[Nat.gcd_comm c d,Nat.gcd_rec d c,Nat.gcd_comm]
 have Hm:=hid hm
 have Hc:=hid hgc
 clear hm hgc h0
 go_wp2
 go_region
 go_wp2
 go_roundw
 case measure=>simp[intOf];omega
 case rel=>exact⟨d,c % d,rfl,by rw[Hm.out],hd,hle,by rw[Hc.out,Hg.out],q+1,rfl⟩
theorem ratB_iff (n d:Int):ratB n d=(decide (1≤d∧d≤1073741824)&&(decide (-1073741824≤n∧n≤1073741824)&&decide (Nat.gcd n.natAbs d.natAbs=1))):=rfl
theorem intNat_one (k:Nat):((k:Int)==1)=decide (k=1):=by
 by_cases h:k=1
 ·subst h;rfl
 rw[decide_eq_false h];exact beq_eq_false_iff_ne.2 (by omega)
theorem rvalid_any (n d:Int) (w:World):Calls Tryz.prog 119 #[.agg #[.int .i64 n,.int .i64 d]] w fun e w'=>e=.returned (.bool (ratB n d))∧Kp w w':=by
 have Hr:=hid (ratB_iff n d)
 have k1:Kp w (w.alloc (.cells #[.int .i64 n,.int .i64 d] 25)):=(Kp.refl w).alloc _
 have hS:(w.alloc (.cells #[.int .i64 n,.int .i64 d] 25)).cell? ⟨w.heap.size,0,none⟩=some (.int .i64 n)∧(w.alloc (.cells #[.int .i64 n,.int .i64 d] 25)).cell? ⟨w.heap.size,1,none⟩=some (.int .i64 d):=by simp
 go_enter Tryz.func119,Tryz.ntmps119
 go_upto_region 1 with fail
 generalize w.alloc _=W at *
 have kd:=(Kp.refl W).drew
 obtain⟨s0,s1⟩:=hS
 have e0:=kd.cell s0
 have e1:=kd.cell s1
 have HK:=hid (k1.trans kd)
 have HK1:=hid k1
 clear kd k1
 by_cases c0:1≤d
 rotate_left
 ·have hr:=Hr.out
  rw[decide_eq_false (p:=1≤d∧d≤1073741824) (by omega)] at hr
  have Hr:=hid hr
  clear hr
  clear e0 e1
  go_quiet (fail)
  all_goals
   go_wp2_with fail
   go_ret
   exact⟨ret_bool (by rw[Hr.out];simp),HK1.out.drewN _⟩
 by_cases c1:d≤1073741824
 rotate_left
 ·have hr:=Hr.out
  rw[decide_eq_false (p:=1≤d∧d≤1073741824) (by omega)] at hr
  have Hr:=hid hr
  clear hr
  clear e0 e1
  go_quiet (fail)
  all_goals
   go_wp2_with fail
   go_ret
   exact⟨ret_bool (by rw[Hr.out];simp),HK1.out.drewN _⟩
 by_cases c2:-1073741824≤n
 rotate_left
 ·have hr:=Hr.out
  rw[decide_eq_false (p:=-1073741824≤n∧n≤1073741824) (by omega)] at hr
  have Hr:=hid hr
  clear hr
  clear e0 e1
  go_quiet (fail)
  all_goals
   go_wp2_with fail
   go_ret
   exact⟨ret_bool (by rw[Hr.out];simp),HK1.out.drewN _⟩
 by_cases c3:n≤1073741824
 rotate_left
 ·have hr:=Hr.out
  rw[decide_eq_false (p:=-1073741824≤n∧n≤1073741824) (by omega)] at hr
  have Hr:=hid hr
  clear hr
  clear e0 e1
  go_quiet (fail)
  all_goals
   go_wp2_with fail
   go_ret
   exact⟨ret_bool (by rw[Hr.out];simp),HK1.out.drewN _⟩
 have hg0:n.natAbs≤1073741824:=by omega
 have hg1:d.natAbs≤1073741824:=by omega
 have d0:-1073741824≤d:=by omega
 have hr:=Hr.out
 rw[decide_eq_true ⟨c0,c1⟩,decide_eq_true ⟨c2,c3⟩] at hr
 have Hr:=hid hr
 clear hr e0 e1
 go_quiet (first
  | (go_at_call_of 168 n;exact Calls.quiet_of_same (rsize_any n _ c2 c3))
  | (go_at_call_of 168 d;exact Calls.quiet_of_same (rsize_any d _ d0 c1))
  | (go_at_call 167;exact Calls.quiet_of (rgcd_any n.natAbs d.natAbs _ hg0 hg1))
  | fail)
 all_goals
  go_wp2_with fail
  go_ret
  exact⟨ret_bool (by rw[Hr.out,Bool.true_and,Bool.true_and];exact intNat_one _),HK1.out.drewN _⟩
section
theorem setcell_ne {w:World} {g i:Nat} {p:Addr} {v:Value} (h:(⟨g,i,none⟩:Addr)≠p):(w.setCell ⟨g,i,none⟩ v).cell? p=w.cell? p:=by
 rw[World.cell?_setCell_other];exact h
theorem below_bothT {B:Nat} {a w:World} (h:Below B a w) (p:Addr) (v:Value):Below B (a.setCell p v) (w.setCell p v):=by
 have h1:=Below.setCell (Below.refl 0 a) (p:=p) (Nat.zero_le _) v
 have h2:=Below.setCell (Below.refl 0 w) (p:=p) (Nat.zero_le _) v
 refine⟨h2.os.trans (h.os.trans h1.os.symm),h2.tape.trans (h.tape.trans h1.tape.symm),h2.output.trans (h.output.trans h1.output.symm),by simpa using h.size,fun k hk=>?_⟩
 by_cases e:k=p.block
 ·subst e
  have hb:=h.block p.block hk
  unfold World.setCell
  simp only[Array.getElem?_modify,hb]
 rw[Below.heap_setCell w p v k e,Below.heap_setCell a p v k e];exact h.block k hk
theorem kp_bothT {a w:World} (h:Kp a w) (p:Addr) (v:Value):Kp (a.setCell p v) (w.setCell p v):=by
 have:=below_bothT h p v
 unfold Kp
 simpa using this
mutual
def Ex.at (w:World) (B:Nat):Ex→Prop
 | .mk _ _ _ s _ a c l=>(l.length≤c∧c≤maxLen∧s.size≤maxLen∧l.length≤1048576)∧(∀ (i:Nat) (x:Ex),l[i]? = some x→∃ b o,a=some ⟨b,o,none⟩∧b<B∧w.cell? ⟨b,o+i*6,none⟩=some (.int .i64 x.kind)∧w.cell? ⟨b,o+i*6+1,none⟩=some (.int .i64 x.rn)∧w.cell? ⟨b,o+i*6+2,none⟩=some (.int .i64 x.rd)∧w.cell? ⟨b,o+i*6+3,none⟩=some (.string x.name)∧w.cell? ⟨b,o+i*6+4,none⟩=some (.int .i64 x.pw)∧w.cell? ⟨b,o+i*6+5,none⟩=some (.slice x.a x.l.length x.c))∧Ex.atL w B l
def Ex.atL (w:World) (B:Nat):List Ex→Prop
 | []=>True
 | x::t=>x.at w B∧Ex.atL w B t
end
theorem Ex.atL_iff {w:World} {B:Nat} {l:List Ex}:Ex.atL w B l↔∀ x∈l,x.at w B:=by
 induction l with
 | nil=>rw[Ex.atL];simp
 | cons x t ih =>
  rw[Ex.atL,ih]
  constructor
  ·rintro ⟨h1,h2⟩ y hy
   rcases List.mem_cons.1 hy with rfl | hy
   ·exact h1
   ·exact h2 y hy
  ·exact fun h=>⟨h x (.head _),fun y hy=>h y (.tail _ hy)⟩
def RowX (w:World) (B:Nat) (a:Option Addr) (l:List Ex):Prop:=∀ (i:Nat) (x:Ex),l[i]? = some x→∃ b o,a=some ⟨b,o,none⟩∧b<B∧w.cell? ⟨b,o+i*6,none⟩=some (.int .i64 x.kind)∧w.cell? ⟨b,o+i*6+1,none⟩=some (.int .i64 x.rn)∧w.cell? ⟨b,o+i*6+2,none⟩=some (.int .i64 x.rd)∧w.cell? ⟨b,o+i*6+3,none⟩=some (.string x.name)∧w.cell? ⟨b,o+i*6+4,none⟩=some (.int .i64 x.pw)∧w.cell? ⟨b,o+i*6+5,none⟩=some (.slice x.a x.l.length x.c)
theorem Ex.at_iff {w:World} {B:Nat} {e:Ex}:e.at w B↔(e.l.length≤e.c∧e.c≤maxLen∧e.name.size≤maxLen∧e.l.length≤1048576)∧RowX w B e.a e.l∧∀ x∈e.l,x.at w B:=by
 cases e
 rw[Ex.at,Ex.atL_iff]
 exact Iff.rfl
theorem RowX.same {w w':World} {B B':Nat} {a:Option Addr} {l:List Ex} (h:RowX w B a l) (hB:B≤B') (hc:∀ b i v,b<B→w.cell? ⟨b,i,none⟩=some v→w'.cell? ⟨b,i,none⟩=some v):RowX w' B' a l:=by
 intro i x hx
 obtain⟨b,o,e,hb,h0,h1,h2,h3,h4,h5⟩:=h i x hx
 exact⟨b,o,e,by omega,hc _ _ _ hb h0,hc _ _ _ hb h1,hc _ _ _ hb h2,hc _ _ _ hb h3,hc _ _ _ hb h4,hc _ _ _ hb h5⟩
theorem Ex.same {w w':World} {B B':Nat} (hB:B≤B') (hc:∀ b i v,b<B→w.cell? ⟨b,i,none⟩=some v→w'.cell? ⟨b,i,none⟩=some v):∀ e:Ex,e.at w B→e.at w' B':=by
 refine Ex.ind fun e ih h=>?_
 obtain⟨h1,h2,h3⟩:=Ex.at_iff.1 h
 exact Ex.at_iff.2 ⟨h1,h2.same hB hc,fun x hx=>ih x hx (h3 x hx)⟩
theorem Ex.at_kp {w w':World} {B:Nat} {e:Ex} (h:e.at w B) (k:Kp w w'):e.at w' B:=Ex.same (Nat.le_refl _) (fun _ _ _ _ hc=>k.cell hc) e h
theorem RowX.kp {w w':World} {B:Nat} {a:Option Addr} {l:List Ex} (h:RowX w B a l) (k:Kp w w'):RowX w' B a l:=h.same (Nat.le_refl _) fun _ _ _ _ hc=>k.cell hc
theorem Ex.at_set {w:World} {B g i:Nat} {e:Ex} (h:e.at w B) (hg:B≤g) (v:Value):e.at (w.setCell ⟨g,i,none⟩ v) B :=
 Ex.same (Nat.le_refl _) (fun b j u hb hc=>by rw[setcell_ne (fun e=>by injection e with e1;omega)];exact hc) e h
theorem RowX.set {w:World} {B g i:Nat} {a:Option Addr} {l:List Ex} (h:RowX w B a l) (hg:B≤g) (v:Value):RowX (w.setCell ⟨g,i,none⟩ v) B a l :=
 h.same (Nat.le_refl _) fun b j u hb hc=>by rw[setcell_ne (fun e=>by injection e with e1;omega)];exact hc
theorem keepE6 {w w':World} (k:Kp w w') {p0 p1 p2 p3 p4 p5:Addr} {v0 v1 v2 v3 v4 v5:Value} (h:w.cell? p0=some v0∧w.cell? p1=some v1∧w.cell? p2=some v2∧w.cell? p3=some v3∧w.cell? p4=some v4∧w.cell? p5=some v5) :
  w'.cell? p0=some v0∧w'.cell? p1=some v1∧w'.cell? p2=some v2∧w'.cell? p3=some v3∧w'.cell? p4=some v4∧w'.cell? p5=some v5:=⟨k.cell h.1,k.cell h.2.1,k.cell h.2.2.1,k.cell h.2.2.2.1,k.cell h.2.2.2.2.1,k.cell h.2.2.2.2.2⟩
end
end Go.Proofs.YteidgoldnllabaaGreatDoor
