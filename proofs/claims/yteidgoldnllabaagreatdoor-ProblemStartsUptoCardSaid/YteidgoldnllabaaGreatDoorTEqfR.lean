/-
  Walks: slices.EqualFunc at [][]api.Interval, [][]api.Interval.
-/
import Derived.Test.YteidgoldnllabaaGreatDoorTBoxB
import Derived.Test.YteidgoldnllabaaGreatDoorTIvA
import Derived.Test.YteidgoldnllabaaGreatDoorTIncP
import Derived.Test.YteidgoldnllabaaGreatDoorTR7V
import Derived.Test.YteidgoldnllabaaGreatDoorTKnuE
import Derived.Test.YteidgoldnllabaaGreatDoorTRoE
import Derived.Test.YteidgoldnllabaaGreatDoorTDotM
import Derived.Test.YteidgoldnllabaaGreatDoorTAwk4
namespace Go.Proofs.YteidgoldnllabaaGreatDoor
open Go.RowKit
def dvP (d f:Dy) (p:Nat) (up:Bool):Dy×Int :=
 if f.m=0 then (.zero,10) else if d.m=0 then (.zero,0) else rndE (quoR (d.neg != f.neg) d.m f.m (d.e-f.e) p up ((p:Int)+(2:Nat)+bits f.m-bits d.m).toNat)
theorem divB_dy {w w':World} {x y:RD} (hx:x.ok w) (hy:y.ok w') {p:Nat} (h0:8≤p) (h1:p≤512) (up:Bool):divB x y p up=dvP x.dy y.dy p up:=by
 unfold divB dvP quoK
 rw[if_pos (fltB_zero.2 ⟨by simp[hx.2,hy.2],by omega,by omega⟩)]
 have e1:(y.xs.length=0)=(y.dy.m=0):=propext (rdok_zero hy)
 have e2:(x.xs.length=0)=(x.dy.m=0):=propext (rdok_zero hx)
 simp only[e1,e2]
 rfl
theorem dvP_okd {d f:Dy} {p:Nat} (h0:8≤p) (h1:p≤512) (up:Bool):(dvP d f p up).1.ok:=by
 unfold dvP
 split
 ·exact Dy.ok_zero
 split
 ·exact Dy.ok_zero
 unfold quoR
 exact rndS_ok (by omega) (by omega)
def HasD (w0 w:World) (g:Nat) (z:RD) (d:Dy):Prop:=(w.cell? ⟨g,0,none⟩=some (.bool z.neg)∧w.cell? ⟨g,1,none⟩=some (.slice z.a z.xs.length z.c)∧w.cell? ⟨g,2,none⟩=some (.int .i64 z.e))∧z.ok w∧z.dy=d∧Kp w0 w∧w0.heap.size≤g
theorem HasD.kp {w0 w w':World} {g:Nat} {z:RD} {d:Dy} (h:HasD w0 w g z d) (k:Kp w w'):HasD w0 w' g z d :=
 ⟨keep3 k h.1,h.2.1.kp k,h.2.2.1,h.2.2.2.1.trans k,h.2.2.2.2⟩
theorem hasD_alloc {w0 w:World} {z:RD} {d:Dy} (hz:z.ok w) (hd:z.dy=d) (k:Kp w0 w) (t:TypeId):HasD w0 (w.alloc (.cells #[.bool z.neg,.slice z.a z.xs.length z.c,.int .i64 z.e] t)) w.heap.size z d :=
 ⟨by simp,hz.kp ((Kp.refl w).alloc _),hd,k.alloc _,k.size⟩
theorem hasD_store {w0 w:World} {g:Nat} {y0 y1 y2:Value} (hB:Box3 w g y0 y1 y2) (n0:∀ n:Int,y0≠.int .u32 n) (n1:∀ n:Int,y1≠.int .u32 n) (n2:∀ n:Int,y2≠.int .u32 n)
  {z:RD} {d:Dy} (hz:z.ok w) (hd:z.dy=d) (k:Kp w0 w) (hg:w0.heap.size≤g) :
  HasD w0 (((w.setCell ⟨g,0,none⟩ (.bool z.neg)).setCell ⟨g,1,none⟩ (.slice z.a z.xs.length z.c)).setCell ⟨g,2,none⟩ (.int .i64 z.e)) g z d:=by
 obtain⟨s0,s1,s2,_,s4,s5,_,_⟩:=stored hB.1 hB.2.1 hB.2.2.1 n0 n1 n2 (.bool z.neg) (.slice z.a z.xs.length z.c) (.int .i64 z.e)
 exact⟨⟨s0,s1,s2⟩,⟨⟨s4 _ _ hz.1.1,hz.1.2⟩,hz.2⟩,hd,s5 _ k hg,hg⟩
end Go.Proofs.YteidgoldnllabaaGreatDoor
