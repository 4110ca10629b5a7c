/-
  Walks: tree.every at trees, with a function that changes what it holds.
-/
import Derived.Test.YthaphbbeiglolaaRepX
import Derived.Shelf.Abstract
namespace Go.Proofs.Ythaphbbeiglolaa
open Go.RowKit Go.Sort

/-- the function goes on from J k to J (k + 1) at each element and answers true, or answers false and leaves R k -/
def SoX (P : Program) (g : FuncId) (cap : Array Value) (l : List Ex) (J R : Nat → World → Prop) : Prop :=
  Enters P g ∧ ∀ (k : Nat) (x : Ex), l[k]? = some x → ∀ W, J k W → Calls P g (#[.agg #[.int .i64 x.kind, .int .i64 x.rn, .int .i64 x.rd, .string x.name, .int .i64 x.pw, .slice x.a x.l.length x.c]] ++ cap) W fun e W' => (e = .returned (.bool true) ∧ J (k + 1) W') ∨ (e = .returned (.bool false) ∧ R k W')
set_option maxHeartbeats 2000000 in
set_option maxRecDepth 20000 in
theorem every1_any (x : Ex) (g : FuncId) (cap : Array Value) (sb : Nat) (w : World) (Q : Ending → World → Prop) (hb : w.cell? ⟨sb, 0, none⟩ = some (.func (.func g) #[] cap)) (hE : Enters Try.prog g)
    (h : ∀ W, Kp w W → Calls Try.prog g (#[.agg #[.int .i64 x.kind, .int .i64 x.rn, .int .i64 x.rd, .string x.name, .int .i64 x.pw, .slice x.a x.l.length x.c]] ++ cap) W fun e W' => (e = .returned (.bool true) ∧ Q (.returned (.bool false)) W') ∨ (e = .returned (.bool false) ∧ Q (.returned (.bool true)) W')) :
    Calls Try.prog 78 #[.agg #[.int .i64 x.kind, .int .i64 x.rn, .int .i64 x.rd, .string x.name, .int .i64 x.pw, .slice x.a x.l.length x.c], .pointer (some ⟨sb, 0, none⟩)] w Q := by
  have k1 : Kp w (w.alloc (.cells #[.int .i64 x.kind, .int .i64 x.rn, .int .i64 x.rd, .string x.name, .int .i64 x.pw, .slice x.a x.l.length x.c] 26)) := (Kp.refl w).alloc _
  have hS : ((w.alloc (.cells #[.int .i64 x.kind, .int .i64 x.rn, .int .i64 x.rd, .string x.name, .int .i64 x.pw, .slice x.a x.l.length x.c] 26)).cell? ⟨w.heap.size, 0, none⟩ = some (.int .i64 x.kind) ∧ (w.alloc (.cells #[.int .i64 x.kind, .int .i64 x.rn, .int .i64 x.rd, .string x.name, .int .i64 x.pw, .slice x.a x.l.length x.c] 26)).cell? ⟨w.heap.size, 1, none⟩ = some (.int .i64 x.rn) ∧ (w.alloc (.cells #[.int .i64 x.kind, .int .i64 x.rn, .int .i64 x.rd, .string x.name, .int .i64 x.pw, .slice x.a x.l.length x.c] 26)).cell? ⟨w.heap.size, 2, none⟩ = some (.int .i64 x.rd) ∧ (w.alloc (.cells #[.int .i64 x.kind, .int .i64 x.rn, .int .i64 x.rd, .string x.name, .int .i64 x.pw, .slice x.a x.l.length x.c] 26)).cell? ⟨w.heap.size, 3, none⟩ = some (.string x.name) ∧ (w.alloc (.cells #[.int .i64 x.kind, .int .i64 x.rn, .int .i64 x.rd, .string x.name, .int .i64 x.pw, .slice x.a x.l.length x.c] 26)).cell? ⟨w.heap.size, 4, none⟩ = some (.int .i64 x.pw) ∧ (w.alloc (.cells #[.int .i64 x.kind, .int .i64 x.rn, .int .i64 x.rd, .string x.name, .int .i64 x.pw, .slice x.a x.l.length x.c] 26)).cell? ⟨w.heap.size, 5, none⟩ = some (.slice x.a x.l.length x.c)) := by simp
  have hgo : ∀ args w, (callFunc g args).run Try.prog w = .ok (.enter g args) w := hE
  go_enter Try.func78, Try.ntmps78
  go_upto_region 1 with fail
  generalize w.alloc _ = W at *
  have hb1 := k1.cell hb
  have HX := Lib.hid (h W k1)
  clear h hb k1
  obtain ⟨q0, q1, q2, q3, q4, q5⟩ := hS
  go_wp2_with (refine HX.out.mono ?_; rintro e w2 (⟨rfl, hq⟩ | ⟨rfl, hq⟩))
  · exact hq
  · exact hq
set_option maxHeartbeats 2000000 in
set_option maxRecDepth 20000 in
/-- the box that holds the function is named when it is there -/
theorem every_any (a : Option Addr) (l : List Ex) (c : Nat) (g : FuncId) (cap : Array Value) (w : World) (Q : Ending → World → Prop) (hm : l.length ≤ 1100000)
    (h : ∀ W sb, Kp w W → w.heap.size ≤ sb → W.heap[sb]? = some (.cells #[.func (.func g) #[] cap] 31 (0, 0)) → ∃ (B : Nat) (J R : Nat → World → Prop), J 0 W ∧
      (∀ k W, J k W → RowX W B a l ∧ W.cell? ⟨sb, 0, none⟩ = some (.func (.func g) #[] cap)) ∧ (∀ k W W', J k W → Kp W W' → J k W') ∧ SoX Try.prog g cap l J R ∧
      (∀ W, J l.length W → Q (.returned (.bool true)) W) ∧ ∀ k W, R k W → Q (.returned (.bool false)) W) :
    Calls Try.prog 63 #[.slice a l.length c, .func (.func g) #[] cap] w Q := by
  have H := Lib.hid (h (w.alloc (.cells #[.func (.func g) #[] cap] 31)) w.heap.size ((Kp.refl w).alloc _) (Nat.le_refl _) (heap_alloc_new _ _))
  clear h
  go_enter Try.func63, Try.ntmps63
  go_upto_region 1 with fail
  generalize w.alloc _ = W at *
  obtain ⟨B, J, R, h0, hrow, hkp, hso, hT, hF⟩ := H.out
  have HC := Lib.hid (containsX a l c B 78 #[.pointer (some ⟨w.heap.size, 0, none⟩)] W J R hm (fun k W h => (hrow k W h).1) h0
    ⟨fun _ _ => by kernel_rfl, fun k x hx W hW => every1_any x g cap w.heap.size W _ (hrow k W hW).2 hso.1 fun W' k' => (hso.2 k x hx W' (hkp k W W' hW k')).mono fun e W2 h => h.elim
      (fun ⟨e1, h1⟩ => .inl ⟨e1, .inr ⟨rfl, h1⟩⟩) (fun ⟨e1, h1⟩ => .inr ⟨e1, .inl ⟨rfl, h1⟩⟩)⟩)
  have HT := Lib.hid hT
  have HF := Lib.hid hF
  clear H h0 hrow hkp hso hT hF
  go_wp2_with (go_at_call 69; go_fit HC.out; rintro r w2 (⟨rfl, k, hk, hr⟩ | ⟨rfl, hj⟩))
  · exact HF.out _ _ hr
  · exact HT.out _ hj
end Go.Proofs.Ythaphbbeiglolaa
