/-
  Walks: the reference's Valid, Checked.
-/
import Derived.Test.YteidgoldnllabaaGreatDoorMR2F
namespace Go.Proofs.YteidgoldnllabaaGreatDoor
open Go.RowKit
open Lib (hid)
theorem and1_u32 {x:Nat} (hx:x<4294967296):Go.bits BinOp.and IntKind.u32 (x:Int) 1=((x % 2:Nat):Int):=by
 have h:=bit32 (x:=x) (r:=0) hx
 rw[Nat.pow_zero,Nat.div_one] at h
 simpa using h
theorem top_of_last {xs:List Nat} (h:nth xs (xs.length-1)≠0) (hp:0<xs.length):Top xs:=by
 unfold Top
 rw[List.getLast?_eq_getElem?,List.getElem?_eq_getElem (by omega)]
 rw[nth_eq (by omega)] at h
 exact fun e=>h (Option.some.inj e)
set_option maxRecDepth 100000 in
set_option maxHeartbeats 4000000 in
theorem r2Valid_any (s:Bool) (a:Option Addr) (xs:List Nat) (c:Nat) (ex:Int) (w:World) (h:Rd w a xs) (hl:xs.length≤1100000) (_he:I64 ex) :
  Calls Tryz.prog 165 #[.agg #[.bool s,.slice a xs.length c,.int .i64 ex]] w fun e w'=>e=.returned (.bool (vld s xs ex))∧Kp w w':=by
 by_cases h0:xs=[]
 ·have H:=hid (show vld s xs ex=(!s&&decide (ex=0)) by unfold vld;rw[if_pos h0])
  have hz:xs.length=0:=by rw[h0];rfl
  clear h0
  rw[hz]
  cases s with
  | true =>
   go_enter Tryz.func165,Tryz.ntmps165
   go_wp2_with fail
   go_ret
   exact⟨ret_bool (by rw[H.out];rfl),(Kp.refl w).alloc _⟩
  | false =>
  by_cases hx:ex=0
  ·have hx2:(ex==0)=true:=beq_iff_eq.2 hx
   have Hx:=hid hx
   clear hx
   go_enter Tryz.func165,Tryz.ntmps165
   go_wp2_with fail
   go_ret
   exact⟨ret_bool (by rw[H.out,Hx.out];rfl),(Kp.refl w).alloc _⟩
  have hx2:(ex==0)=false:=beq_eq_false_iff_ne.2 hx
  go_enter Tryz.func165,Tryz.ntmps165
  go_wp2_with fail
  go_ret
  exact⟨ret_bool (by rw[H.out];simp[hx]),(Kp.refl w).alloc _⟩
 have H:=hid (show vld s xs ex=(decide (xs.length≤256)&&(decide (nth xs 0 % 2=1)&&(decide (nth xs (xs.length-1)≠0)&&inrB (val xs) ex))) by unfold vld;rw[if_neg h0])
 have hpos:0<xs.length:=List.length_pos_iff.2 h0
 clear h0
 have hz:((xs.length:Int)==0)=false:=beq_eq_false_iff_ne.2 (by omega)
 have h32:=h.lt32
 have hwk:=h.kp ((Kp.refl w).alloc (.cells #[.bool s,.slice a xs.length c,.int .i64 ex] 113))
 obtain⟨b,o,rfl,hcell⟩:=hwk.some hpos
 have x0:=hcell 0 hpos
 have x1:=hcell (xs.length-1) (by omega)
 rw[Nat.add_zero] at x0
 clear hcell
 have hand:=and1_u32 (h32.nth 0)
 by_cases h1:xs.length≤256
 rotate_left
 ·have h1':256<(xs.length:Int):=by omega
  clear hand hwk
  go_enter Tryz.func165,Tryz.ntmps165
  go_wp2_with fail
  go_ret
  exact⟨ret_bool (by rw[H.out];simp[h1]),(Kp.refl w).alloc _⟩
 by_cases h3:nth xs (xs.length-1)=0
 ·have h3':((nth xs (xs.length-1):Int)==0)=true:=by rw[h3];rfl
  have H3:=hid h3
  clear h3 hand
  go_enter Tryz.func165,Tryz.ntmps165
  go_wp2_with fail
  go_ret
  exact⟨ret_bool (by rw[H.out,H3.out];simp),(Kp.refl w).alloc _⟩
 have h3':((nth xs (xs.length-1):Int)==0)=false:=beq_eq_false_iff_ne.2 (by omega)
 have HX:=hid (limbs_val h32 (top_of_last h3 hpos))
 have H3:=hid h3
 clear h3
 by_cases h2:nth xs 0 % 2=1
 rotate_left
 ·have h2':(Go.bits BinOp.and IntKind.u32 (nth xs 0:Int) 1==0)=true:=by rw[hand,show nth xs 0 % 2=0 by omega];rfl
  clear hand hwk
  go_enter Tryz.func165,Tryz.ntmps165
  go_wp2_with fail
  go_ret
  exact⟨ret_bool (by rw[H.out];simp[h2]),(Kp.refl w).alloc _⟩
 have h2':(Go.bits BinOp.and IntKind.u32 (nth xs 0:Int) 1==0)=false:=by rw[hand,h2];rfl
 have H2:=hid h2
 have hnz:bits (val xs)≠0:=fun e=>by
  have e2:=HX.out
  rw[bits_eq_zero.1 e,limbs_zero] at e2
  rw[← e2] at hpos
  exact absurd hpos (Nat.lt_irrefl 0)
 clear h2 hand
 by_cases h4:-16384≤ex∧ex≤16384
 rotate_left
 ·have Hi:=hid (show inrB (val xs) ex=false by unfold inrB;simp only[decide_eq_false_iff_not];omega)
  clear hnz hwk
  by_cases h6:ex < -16384
  ·go_enter Tryz.func165,Tryz.ntmps165
   go_wp2_with fail
   go_ret
   exact⟨ret_bool (by rw[H.out,Hi.out];simp),(Kp.refl w).alloc _⟩
  have h7:16384<ex:=by omega
  go_enter Tryz.func165,Tryz.ntmps165
  go_wp2_with fail
  go_ret
  exact⟨ret_bool (by rw[H.out,Hi.out];simp),(Kp.refl w).alloc _⟩
 have hb:=r2bits_any (some ⟨b,o,none⟩) (val xs) c _ (by rw[HX.out];exact hwk) (by rw[HX.out];exact hl)
 rw[HX.out] at hb
 have Hb:=hid hb
 have hle:=bits_val_le h32
 clear hb hwk
 have hi:inrB (val xs) ex=(decide (bits (val xs)≤4096)&&decide ((bits (val xs):Int)+ex≤16384)):=by
  unfold inrB
  rw[← Bool.decide_and]
  apply decide_eq_decide.2
  omega
 have Hi:=hid hi
 clear hi
 generalize bits (val xs)=n at *
 by_cases h5:n≤4096
 ·have e1:IntKind.i64.wrap ((n:Int)+ex)=(n:Int)+ex:=IntWalk.i64_in _ (by omega)
  go_enter Tryz.func165,Tryz.ntmps165
  go_wp2_with fail
  refine Hb.out.mono ?_
  rintro e w2 ⟨rfl,rfl⟩
  go_wp2_with fail
  go_ret
  exact⟨ret_bool (by rw[H.out,Hi.out,H2.out];simp[h1,H3.out,h5]),(Kp.refl w).alloc _⟩
 go_enter Tryz.func165,Tryz.ntmps165
 go_wp2_with fail
 refine Hb.out.mono ?_
 rintro e w2 ⟨rfl,rfl⟩
 go_wp2_with fail
 go_ret
 exact⟨ret_bool (by rw[H.out,Hi.out];simp[h5]),(Kp.refl w).alloc _⟩
end Go.Proofs.YteidgoldnllabaaGreatDoor
