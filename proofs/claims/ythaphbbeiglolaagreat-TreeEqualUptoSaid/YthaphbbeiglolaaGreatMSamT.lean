/-
  Walks: tree.Same and its functions.
  Walks: ref13.Equal.
-/
import Derived.Test.YthaphbbeiglolaaGreatMPrbN
import Derived.Test.YthaphbbeiglolaaGreatMEqwN
import Derived.Deep.RegionHeld3
import Derived.Test.YthaphbbeiglolaaGreatMRCoN
import Derived.Test.YthaphbbeiglolaaGreatMRatX
section
namespace Go.Proofs.YthaphbbeiglolaaGreat
open Go.RowKit Go.Sort

theorem store_fn (a : Addr) (f : Fn) (ts cap : Array Value) (m : Mode) (w : World) : (store a (.func f ts cap) m).run Tryz.prog w = Go.stored Tryz.prog w a (.func f ts cap) m := run_store _ w a _ m rfl
set_option maxHeartbeats 2000000 in
theorem same1_any (a b : Qe) (w : World) (B : Nat) (ha : a.at w B) (hb : b.at w B) : Calls Tryz.prog 33 #[.agg #[.string a.name, .int .i64 a.e.kind, .int .i64 a.e.rn, .int .i64 a.e.rd, .string a.e.name, .int .i64 a.e.pw, .slice a.e.a a.e.l.length a.e.c], .agg #[.string b.name, .int .i64 b.e.kind, .int .i64 b.e.rn, .int .i64 b.e.rd, .string b.e.name, .int .i64 b.e.pw, .slice b.e.a b.e.l.length b.e.c]] w fun e w' => e = .returned (.bool (qeqB a b)) ∧ Kp w w' := by
  have hd : qeqB a b = (decide (a.name = b.name) && a.e.eqv b.e) := rfl
  generalize qeqB a b = b0 at *
  have k1 : Kp w ((w.alloc (.cells #[.string a.name, .int .i64 a.e.kind, .int .i64 a.e.rn, .int .i64 a.e.rd, .string a.e.name, .int .i64 a.e.pw, .slice a.e.a a.e.l.length a.e.c] 66)).alloc (.cells #[.string b.name, .int .i64 b.e.kind, .int .i64 b.e.rn, .int .i64 b.e.rd, .string b.e.name, .int .i64 b.e.pw, .slice b.e.a b.e.l.length b.e.c] 66)) := ((Kp.refl w).alloc _).alloc _
  have h0 : CellsV ((w.alloc (.cells #[.string a.name, .int .i64 a.e.kind, .int .i64 a.e.rn, .int .i64 a.e.rd, .string a.e.name, .int .i64 a.e.pw, .slice a.e.a a.e.l.length a.e.c] 66)).alloc (.cells #[.string b.name, .int .i64 b.e.kind, .int .i64 b.e.rn, .int .i64 b.e.rd, .string b.e.name, .int .i64 b.e.pw, .slice b.e.a b.e.l.length b.e.c] 66)) w.heap.size 0 a.cells := (CellsV.new w a.cells _ _ rfl).kp ((Kp.refl _).alloc _)
  have h1 : CellsV ((w.alloc (.cells #[.string a.name, .int .i64 a.e.kind, .int .i64 a.e.rn, .int .i64 a.e.rd, .string a.e.name, .int .i64 a.e.pw, .slice a.e.a a.e.l.length a.e.c] 66)).alloc (.cells #[.string b.name, .int .i64 b.e.kind, .int .i64 b.e.rn, .int .i64 b.e.rd, .string b.e.name, .int .i64 b.e.pw, .slice b.e.a b.e.l.length b.e.c] 66)) (w.heap.size + 1) 0 b.cells := CellsV.new _ b.cells _ _ (by simp)
  go_enter Tryz.func33, Tryz.ntmps33
  go_upto_region 1 with fail
  generalize World.alloc _ _ = W at *
  have HE := Lib.hid (equal_any a.e b.e B W (Ex.at_kp ha.2 k1) (Ex.at_kp hb.2 k1))
  have K1 := Lib.hid k1
  have q0 : W.cell? ⟨w.heap.size, 0, none⟩ = some (.string a.name) := h0 0 _ rfl; have q1 : W.cell? ⟨w.heap.size, 1, none⟩ = some (.int .i64 a.e.kind) := h0 1 _ rfl; have q2 : W.cell? ⟨w.heap.size, 2, none⟩ = some (.int .i64 a.e.rn) := h0 2 _ rfl; have q3 : W.cell? ⟨w.heap.size, 3, none⟩ = some (.int .i64 a.e.rd) := h0 3 _ rfl; have q4 : W.cell? ⟨w.heap.size, 4, none⟩ = some (.string a.e.name) := h0 4 _ rfl; have q5 : W.cell? ⟨w.heap.size, 5, none⟩ = some (.int .i64 a.e.pw) := h0 5 _ rfl; have q6 : W.cell? ⟨w.heap.size, 6, none⟩ = some (.slice a.e.a a.e.l.length a.e.c) := h0 6 _ rfl
  have p0 : W.cell? ⟨(w.heap.size + 1), 0, none⟩ = some (.string b.name) := h1 0 _ rfl; have p1 : W.cell? ⟨(w.heap.size + 1), 1, none⟩ = some (.int .i64 b.e.kind) := h1 1 _ rfl; have p2 : W.cell? ⟨(w.heap.size + 1), 2, none⟩ = some (.int .i64 b.e.rn) := h1 2 _ rfl; have p3 : W.cell? ⟨(w.heap.size + 1), 3, none⟩ = some (.int .i64 b.e.rd) := h1 3 _ rfl; have p4 : W.cell? ⟨(w.heap.size + 1), 4, none⟩ = some (.string b.e.name) := h1 4 _ rfl; have p5 : W.cell? ⟨(w.heap.size + 1), 5, none⟩ = some (.int .i64 b.e.pw) := h1 5 _ rfl; have p6 : W.cell? ⟨(w.heap.size + 1), 6, none⟩ = some (.slice b.e.a b.e.l.length b.e.c) := h1 6 _ rfl
  clear h0 h1 k1 ha hb
  by_cases c1 : a.name = b.name
  · rw [decide_eq_true c1, Bool.true_and] at hd
    rw [← c1] at p0
    have Hd := Lib.hid hd
    clear hd c1
    go_wp2_with (first | (go_at_call 32; go_fit HE.out; rintro r w2 ⟨rfl, k2⟩) | fail)
    go_ret
    exact ⟨ret_bool Hd.out.symm, K1.out.trans k2⟩
  · rw [decide_eq_false c1, Bool.false_and] at hd
    have e1 : (a.name.toList == b.name.toList) = false := strNe c1
    subst hd
    clear c1
    go_wp2_with fail
    go_ret
    exact ⟨rfl, K1.out⟩
set_option maxHeartbeats 2000000 in
theorem same3_any (a b : Qe) (w : World) (B : Nat) (ha : a.at w B) (hb : b.at w B) : Calls Tryz.prog 36 #[.agg #[.string a.name, .int .i64 a.e.kind, .int .i64 a.e.rn, .int .i64 a.e.rd, .string a.e.name, .int .i64 a.e.pw, .slice a.e.a a.e.l.length a.e.c], .agg #[.string b.name, .int .i64 b.e.kind, .int .i64 b.e.rn, .int .i64 b.e.rd, .string b.e.name, .int .i64 b.e.pw, .slice b.e.a b.e.l.length b.e.c]] w fun e w' => e = .returned (.bool (qeqB a b)) ∧ Kp w w' := by
  have hd : qeqB a b = (decide (a.name = b.name) && a.e.eqv b.e) := rfl
  generalize qeqB a b = b0 at *
  have k1 : Kp w ((w.alloc (.cells #[.string a.name, .int .i64 a.e.kind, .int .i64 a.e.rn, .int .i64 a.e.rd, .string a.e.name, .int .i64 a.e.pw, .slice a.e.a a.e.l.length a.e.c] 73)).alloc (.cells #[.string b.name, .int .i64 b.e.kind, .int .i64 b.e.rn, .int .i64 b.e.rd, .string b.e.name, .int .i64 b.e.pw, .slice b.e.a b.e.l.length b.e.c] 73)) := ((Kp.refl w).alloc _).alloc _
  have h0 : CellsV ((w.alloc (.cells #[.string a.name, .int .i64 a.e.kind, .int .i64 a.e.rn, .int .i64 a.e.rd, .string a.e.name, .int .i64 a.e.pw, .slice a.e.a a.e.l.length a.e.c] 73)).alloc (.cells #[.string b.name, .int .i64 b.e.kind, .int .i64 b.e.rn, .int .i64 b.e.rd, .string b.e.name, .int .i64 b.e.pw, .slice b.e.a b.e.l.length b.e.c] 73)) w.heap.size 0 a.cells := (CellsV.new w a.cells _ _ rfl).kp ((Kp.refl _).alloc _)
  have h1 : CellsV ((w.alloc (.cells #[.string a.name, .int .i64 a.e.kind, .int .i64 a.e.rn, .int .i64 a.e.rd, .string a.e.name, .int .i64 a.e.pw, .slice a.e.a a.e.l.length a.e.c] 73)).alloc (.cells #[.string b.name, .int .i64 b.e.kind, .int .i64 b.e.rn, .int .i64 b.e.rd, .string b.e.name, .int .i64 b.e.pw, .slice b.e.a b.e.l.length b.e.c] 73)) (w.heap.size + 1) 0 b.cells := CellsV.new _ b.cells _ _ (by simp)
  go_enter Tryz.func36, Tryz.ntmps36
  go_upto_region 1 with fail
  generalize World.alloc _ _ = W at *
  have HE := Lib.hid (equal_any a.e b.e B W (Ex.at_kp ha.2 k1) (Ex.at_kp hb.2 k1))
  have K1 := Lib.hid k1
  have q0 : W.cell? ⟨w.heap.size, 0, none⟩ = some (.string a.name) := h0 0 _ rfl; have q1 : W.cell? ⟨w.heap.size, 1, none⟩ = some (.int .i64 a.e.kind) := h0 1 _ rfl; have q2 : W.cell? ⟨w.heap.size, 2, none⟩ = some (.int .i64 a.e.rn) := h0 2 _ rfl; have q3 : W.cell? ⟨w.heap.size, 3, none⟩ = some (.int .i64 a.e.rd) := h0 3 _ rfl; have q4 : W.cell? ⟨w.heap.size, 4, none⟩ = some (.string a.e.name) := h0 4 _ rfl; have q5 : W.cell? ⟨w.heap.size, 5, none⟩ = some (.int .i64 a.e.pw) := h0 5 _ rfl; have q6 : W.cell? ⟨w.heap.size, 6, none⟩ = some (.slice a.e.a a.e.l.length a.e.c) := h0 6 _ rfl
  have p0 : W.cell? ⟨(w.heap.size + 1), 0, none⟩ = some (.string b.name) := h1 0 _ rfl; have p1 : W.cell? ⟨(w.heap.size + 1), 1, none⟩ = some (.int .i64 b.e.kind) := h1 1 _ rfl; have p2 : W.cell? ⟨(w.heap.size + 1), 2, none⟩ = some (.int .i64 b.e.rn) := h1 2 _ rfl; have p3 : W.cell? ⟨(w.heap.size + 1), 3, none⟩ = some (.int .i64 b.e.rd) := h1 3 _ rfl; have p4 : W.cell? ⟨(w.heap.size + 1), 4, none⟩ = some (.string b.e.name) := h1 4 _ rfl; have p5 : W.cell? ⟨(w.heap.size + 1), 5, none⟩ = some (.int .i64 b.e.pw) := h1 5 _ rfl; have p6 : W.cell? ⟨(w.heap.size + 1), 6, none⟩ = some (.slice b.e.a b.e.l.length b.e.c) := h1 6 _ rfl
  clear h0 h1 k1 ha hb
  by_cases c1 : a.name = b.name
  · rw [decide_eq_true c1, Bool.true_and] at hd
    rw [← c1] at p0
    have Hd := Lib.hid hd
    clear hd c1
    go_wp2_with (first | (go_at_call 32; go_fit HE.out; rintro r w2 ⟨rfl, k2⟩) | fail)
    go_ret
    exact ⟨ret_bool Hd.out.symm, K1.out.trans k2⟩
  · rw [decide_eq_false c1, Bool.false_and] at hd
    have e1 : (a.name.toList == b.name.toList) = false := strNe c1
    subst hd
    clear c1
    go_wp2_with fail
    go_ret
    exact ⟨rfl, K1.out⟩
set_option maxHeartbeats 4000000 in
set_option maxRecDepth 20000 in
theorem same2_any (a b : Ed) (w : World) (B rb : Nat) (ha : a.at w B) (hb : b.at w B) (hrb : w.cell? ⟨rb, 0, none⟩ = some (.func (.func 33) #[] #[])) : Calls Tryz.prog 34 #[.agg #[.int .i64 a.g.kind, .int .i64 a.g.rn, .int .i64 a.g.rd, .string a.g.name, .int .i64 a.g.pw, .slice a.g.a a.g.l.length a.g.c, .int .i64 a.dir, .string a.tx, .slice a.a a.rs.length a.c], .agg #[.int .i64 b.g.kind, .int .i64 b.g.rn, .int .i64 b.g.rd, .string b.g.name, .int .i64 b.g.pw, .slice b.g.a b.g.l.length b.g.c, .int .i64 b.dir, .string b.tx, .slice b.a b.rs.length b.c], .pointer (some ⟨rb, 0, none⟩)] w fun e w' => e = .returned (.bool (xeqB a b)) ∧ Kp w w' := by
  have hd : xeqB a b = (a.g.eqv b.g && (decide (a.dir = b.dir) && (decide (a.tx = b.tx) && allW qeqB a.rs b.rs))) := rfl
  generalize xeqB a b = b0 at *
  have k1 : Kp w ((w.alloc (.cells #[.int .i64 a.g.kind, .int .i64 a.g.rn, .int .i64 a.g.rd, .string a.g.name, .int .i64 a.g.pw, .slice a.g.a a.g.l.length a.g.c, .int .i64 a.dir, .string a.tx, .slice a.a a.rs.length a.c] 70)).alloc (.cells #[.int .i64 b.g.kind, .int .i64 b.g.rn, .int .i64 b.g.rd, .string b.g.name, .int .i64 b.g.pw, .slice b.g.a b.g.l.length b.g.c, .int .i64 b.dir, .string b.tx, .slice b.a b.rs.length b.c] 70)) := ((Kp.refl w).alloc _).alloc _
  have h0 : CellsV ((w.alloc (.cells #[.int .i64 a.g.kind, .int .i64 a.g.rn, .int .i64 a.g.rd, .string a.g.name, .int .i64 a.g.pw, .slice a.g.a a.g.l.length a.g.c, .int .i64 a.dir, .string a.tx, .slice a.a a.rs.length a.c] 70)).alloc (.cells #[.int .i64 b.g.kind, .int .i64 b.g.rn, .int .i64 b.g.rd, .string b.g.name, .int .i64 b.g.pw, .slice b.g.a b.g.l.length b.g.c, .int .i64 b.dir, .string b.tx, .slice b.a b.rs.length b.c] 70)) w.heap.size 0 a.cells := (CellsV.new w a.cells _ _ rfl).kp ((Kp.refl _).alloc _)
  have h1 : CellsV ((w.alloc (.cells #[.int .i64 a.g.kind, .int .i64 a.g.rn, .int .i64 a.g.rd, .string a.g.name, .int .i64 a.g.pw, .slice a.g.a a.g.l.length a.g.c, .int .i64 a.dir, .string a.tx, .slice a.a a.rs.length a.c] 70)).alloc (.cells #[.int .i64 b.g.kind, .int .i64 b.g.rn, .int .i64 b.g.rd, .string b.g.name, .int .i64 b.g.pw, .slice b.g.a b.g.l.length b.g.c, .int .i64 b.dir, .string b.tx, .slice b.a b.rs.length b.c] 70)) (w.heap.size + 1) 0 b.cells := CellsV.new _ b.cells _ _ (by simp)
  go_enter Tryz.func34, Tryz.ntmps34
  go_upto_region 1 with fail
  generalize World.alloc _ _ = W at *
  have HE := Lib.hid (equal_any a.g b.g B W (Ex.at_kp ha.1.1 k1) (Ex.at_kp hb.1.1 k1))
  have HQ := Lib.hid fun W' (k : Kp W W') => eqwR a.a b.a a.rs b.rs a.c b.c B 33 #[] W' qeqB (by have := ha.1.2.2; omega) (ha.2.1.kp (k1.trans k)) (hb.2.1.kp (k1.trans k)) ⟨fun _ _ => by kernel_rfl, fun x hx y hy w1 h1 => same1_any x y w1 B (Qe.at_kp (ha.2.2 x hx) ((k1.trans k).trans h1)) (Qe.at_kp (hb.2.2 y hy) ((k1.trans k).trans h1))⟩
  have K1 := Lib.hid k1
  have H0 := Lib.hid h0
  have H1 := Lib.hid h1
  have hrw := k1.cell hrb
  have HRB := Lib.hid hrw
  have q0 : W.cell? ⟨w.heap.size, 0, none⟩ = some (.int .i64 a.g.kind) := h0 0 _ rfl; have q1 : W.cell? ⟨w.heap.size, 1, none⟩ = some (.int .i64 a.g.rn) := h0 1 _ rfl; have q2 : W.cell? ⟨w.heap.size, 2, none⟩ = some (.int .i64 a.g.rd) := h0 2 _ rfl; have q3 : W.cell? ⟨w.heap.size, 3, none⟩ = some (.string a.g.name) := h0 3 _ rfl; have q4 : W.cell? ⟨w.heap.size, 4, none⟩ = some (.int .i64 a.g.pw) := h0 4 _ rfl; have q5 : W.cell? ⟨w.heap.size, 5, none⟩ = some (.slice a.g.a a.g.l.length a.g.c) := h0 5 _ rfl; have q6 : W.cell? ⟨w.heap.size, 6, none⟩ = some (.int .i64 a.dir) := h0 6 _ rfl; have q7 : W.cell? ⟨w.heap.size, 7, none⟩ = some (.string a.tx) := h0 7 _ rfl; have q8 : W.cell? ⟨w.heap.size, 8, none⟩ = some (.slice a.a a.rs.length a.c) := h0 8 _ rfl
  have p0 : W.cell? ⟨(w.heap.size + 1), 0, none⟩ = some (.int .i64 b.g.kind) := h1 0 _ rfl; have p1 : W.cell? ⟨(w.heap.size + 1), 1, none⟩ = some (.int .i64 b.g.rn) := h1 1 _ rfl; have p2 : W.cell? ⟨(w.heap.size + 1), 2, none⟩ = some (.int .i64 b.g.rd) := h1 2 _ rfl; have p3 : W.cell? ⟨(w.heap.size + 1), 3, none⟩ = some (.string b.g.name) := h1 3 _ rfl; have p4 : W.cell? ⟨(w.heap.size + 1), 4, none⟩ = some (.int .i64 b.g.pw) := h1 4 _ rfl; have p5 : W.cell? ⟨(w.heap.size + 1), 5, none⟩ = some (.slice b.g.a b.g.l.length b.g.c) := h1 5 _ rfl; have p6 : W.cell? ⟨(w.heap.size + 1), 6, none⟩ = some (.int .i64 b.dir) := h1 6 _ rfl; have p7 : W.cell? ⟨(w.heap.size + 1), 7, none⟩ = some (.string b.tx) := h1 7 _ rfl; have p8 : W.cell? ⟨(w.heap.size + 1), 8, none⟩ = some (.slice b.a b.rs.length b.c) := h1 8 _ rfl
  clear h0 h1 k1 ha hb hrb hrw
  cases c0 : a.g.eqv b.g with
  | false =>
    rw [c0] at hd HE
    have Hd := Lib.hid hd
    clear hd c0
    go_wp2_with (first | (go_at_call 32; go_fit HE.out; rintro r w2 ⟨rfl, k2⟩) | fail)
    go_ret
    exact ⟨ret_bool (by rw [Hd.out]; rfl), K1.out.trans k2⟩
  | true =>
    rw [c0] at hd HE
    clear c0
    by_cases c1 : a.dir = b.dir
    rotate_left
    · rw [decide_eq_false c1] at hd
      have e1 : (a.dir == b.dir) = false := beq_eq_false_iff_ne.2 c1
      have Hd := Lib.hid hd
      clear hd c1
      go_wp2_with (first | (go_at_call 32; go_fit HE.out; rintro r w2 ⟨rfl, k2⟩; have h0 := H0.out.kp k2; have h1 := H1.out.kp k2; have s0 : w2.cell? ⟨w.heap.size, 0, none⟩ = some (.int .i64 a.g.kind) := h0 0 _ rfl; have s1 : w2.cell? ⟨w.heap.size, 1, none⟩ = some (.int .i64 a.g.rn) := h0 1 _ rfl; have s2 : w2.cell? ⟨w.heap.size, 2, none⟩ = some (.int .i64 a.g.rd) := h0 2 _ rfl; have s3 : w2.cell? ⟨w.heap.size, 3, none⟩ = some (.string a.g.name) := h0 3 _ rfl; have s4 : w2.cell? ⟨w.heap.size, 4, none⟩ = some (.int .i64 a.g.pw) := h0 4 _ rfl; have s5 : w2.cell? ⟨w.heap.size, 5, none⟩ = some (.slice a.g.a a.g.l.length a.g.c) := h0 5 _ rfl; have s6 : w2.cell? ⟨w.heap.size, 6, none⟩ = some (.int .i64 a.dir) := h0 6 _ rfl; have s7 : w2.cell? ⟨w.heap.size, 7, none⟩ = some (.string a.tx) := h0 7 _ rfl; have s8 : w2.cell? ⟨w.heap.size, 8, none⟩ = some (.slice a.a a.rs.length a.c) := h0 8 _ rfl; have t0 : w2.cell? ⟨(w.heap.size + 1), 0, none⟩ = some (.int .i64 b.g.kind) := h1 0 _ rfl; have t1 : w2.cell? ⟨(w.heap.size + 1), 1, none⟩ = some (.int .i64 b.g.rn) := h1 1 _ rfl; have t2 : w2.cell? ⟨(w.heap.size + 1), 2, none⟩ = some (.int .i64 b.g.rd) := h1 2 _ rfl; have t3 : w2.cell? ⟨(w.heap.size + 1), 3, none⟩ = some (.string b.g.name) := h1 3 _ rfl; have t4 : w2.cell? ⟨(w.heap.size + 1), 4, none⟩ = some (.int .i64 b.g.pw) := h1 4 _ rfl; have t5 : w2.cell? ⟨(w.heap.size + 1), 5, none⟩ = some (.slice b.g.a b.g.l.length b.g.c) := h1 5 _ rfl; have t6 : w2.cell? ⟨(w.heap.size + 1), 6, none⟩ = some (.int .i64 b.dir) := h1 6 _ rfl; have t7 : w2.cell? ⟨(w.heap.size + 1), 7, none⟩ = some (.string b.tx) := h1 7 _ rfl; have t8 : w2.cell? ⟨(w.heap.size + 1), 8, none⟩ = some (.slice b.a b.rs.length b.c) := h1 8 _ rfl; clear h0 h1) | fail)
      go_ret
      exact ⟨ret_bool (by rw [Hd.out]; rfl), K1.out.trans k2⟩
    rw [decide_eq_true c1] at hd
    by_cases c2 : a.tx = b.tx
    rotate_left
    · rw [decide_eq_false c2] at hd
      have e1 : (a.dir == b.dir) = true := by rw [c1]; exact beq_self_eq_true _
      have e2 : (a.tx.toList == b.tx.toList) = false := strNe c2
      have Hd := Lib.hid hd
      clear hd c2 c1
      go_wp2_with (first | (go_at_call 32; go_fit HE.out; rintro r w2 ⟨rfl, k2⟩; have h0 := H0.out.kp k2; have h1 := H1.out.kp k2; have s0 : w2.cell? ⟨w.heap.size, 0, none⟩ = some (.int .i64 a.g.kind) := h0 0 _ rfl; have s1 : w2.cell? ⟨w.heap.size, 1, none⟩ = some (.int .i64 a.g.rn) := h0 1 _ rfl; have s2 : w2.cell? ⟨w.heap.size, 2, none⟩ = some (.int .i64 a.g.rd) := h0 2 _ rfl; have s3 : w2.cell? ⟨w.heap.size, 3, none⟩ = some (.string a.g.name) := h0 3 _ rfl; have s4 : w2.cell? ⟨w.heap.size, 4, none⟩ = some (.int .i64 a.g.pw) := h0 4 _ rfl; have s5 : w2.cell? ⟨w.heap.size, 5, none⟩ = some (.slice a.g.a a.g.l.length a.g.c) := h0 5 _ rfl; have s6 : w2.cell? ⟨w.heap.size, 6, none⟩ = some (.int .i64 a.dir) := h0 6 _ rfl; have s7 : w2.cell? ⟨w.heap.size, 7, none⟩ = some (.string a.tx) := h0 7 _ rfl; have s8 : w2.cell? ⟨w.heap.size, 8, none⟩ = some (.slice a.a a.rs.length a.c) := h0 8 _ rfl; have t0 : w2.cell? ⟨(w.heap.size + 1), 0, none⟩ = some (.int .i64 b.g.kind) := h1 0 _ rfl; have t1 : w2.cell? ⟨(w.heap.size + 1), 1, none⟩ = some (.int .i64 b.g.rn) := h1 1 _ rfl; have t2 : w2.cell? ⟨(w.heap.size + 1), 2, none⟩ = some (.int .i64 b.g.rd) := h1 2 _ rfl; have t3 : w2.cell? ⟨(w.heap.size + 1), 3, none⟩ = some (.string b.g.name) := h1 3 _ rfl; have t4 : w2.cell? ⟨(w.heap.size + 1), 4, none⟩ = some (.int .i64 b.g.pw) := h1 4 _ rfl; have t5 : w2.cell? ⟨(w.heap.size + 1), 5, none⟩ = some (.slice b.g.a b.g.l.length b.g.c) := h1 5 _ rfl; have t6 : w2.cell? ⟨(w.heap.size + 1), 6, none⟩ = some (.int .i64 b.dir) := h1 6 _ rfl; have t7 : w2.cell? ⟨(w.heap.size + 1), 7, none⟩ = some (.string b.tx) := h1 7 _ rfl; have t8 : w2.cell? ⟨(w.heap.size + 1), 8, none⟩ = some (.slice b.a b.rs.length b.c) := h1 8 _ rfl; clear h0 h1) | fail)
      go_ret
      exact ⟨ret_bool (by rw [Hd.out]; rfl), K1.out.trans k2⟩
    rw [decide_eq_true c2] at hd
    have e1 : (a.dir == b.dir) = true := by rw [c1]; exact beq_self_eq_true _
    have e2 : (a.tx.toList == b.tx.toList) = true := by rw [c2]; exact beq_self_eq_true _
    have hd2 : b0 = allW qeqB a.rs b.rs := by rw [hd]; simp
    have Hd := Lib.hid hd2
    clear hd hd2 c1 c2
    go_wp2_with (first | (go_at_call 32; go_fit HE.out; rintro r w2 ⟨rfl, k2⟩; have h0 := H0.out.kp k2; have h1 := H1.out.kp k2; have hr2 := k2.cell HRB.out; have s0 : w2.cell? ⟨w.heap.size, 0, none⟩ = some (.int .i64 a.g.kind) := h0 0 _ rfl; have s1 : w2.cell? ⟨w.heap.size, 1, none⟩ = some (.int .i64 a.g.rn) := h0 1 _ rfl; have s2 : w2.cell? ⟨w.heap.size, 2, none⟩ = some (.int .i64 a.g.rd) := h0 2 _ rfl; have s3 : w2.cell? ⟨w.heap.size, 3, none⟩ = some (.string a.g.name) := h0 3 _ rfl; have s4 : w2.cell? ⟨w.heap.size, 4, none⟩ = some (.int .i64 a.g.pw) := h0 4 _ rfl; have s5 : w2.cell? ⟨w.heap.size, 5, none⟩ = some (.slice a.g.a a.g.l.length a.g.c) := h0 5 _ rfl; have s6 : w2.cell? ⟨w.heap.size, 6, none⟩ = some (.int .i64 a.dir) := h0 6 _ rfl; have s7 : w2.cell? ⟨w.heap.size, 7, none⟩ = some (.string a.tx) := h0 7 _ rfl; have s8 : w2.cell? ⟨w.heap.size, 8, none⟩ = some (.slice a.a a.rs.length a.c) := h0 8 _ rfl; have t0 : w2.cell? ⟨(w.heap.size + 1), 0, none⟩ = some (.int .i64 b.g.kind) := h1 0 _ rfl; have t1 : w2.cell? ⟨(w.heap.size + 1), 1, none⟩ = some (.int .i64 b.g.rn) := h1 1 _ rfl; have t2 : w2.cell? ⟨(w.heap.size + 1), 2, none⟩ = some (.int .i64 b.g.rd) := h1 2 _ rfl; have t3 : w2.cell? ⟨(w.heap.size + 1), 3, none⟩ = some (.string b.g.name) := h1 3 _ rfl; have t4 : w2.cell? ⟨(w.heap.size + 1), 4, none⟩ = some (.int .i64 b.g.pw) := h1 4 _ rfl; have t5 : w2.cell? ⟨(w.heap.size + 1), 5, none⟩ = some (.slice b.g.a b.g.l.length b.g.c) := h1 5 _ rfl; have t6 : w2.cell? ⟨(w.heap.size + 1), 6, none⟩ = some (.int .i64 b.dir) := h1 6 _ rfl; have t7 : w2.cell? ⟨(w.heap.size + 1), 7, none⟩ = some (.string b.tx) := h1 7 _ rfl; have t8 : w2.cell? ⟨(w.heap.size + 1), 8, none⟩ = some (.slice b.a b.rs.length b.c) := h1 8 _ rfl; clear h0 h1) | (go_at_call 35; go_fit (HQ.out _ k2); rintro r w3 ⟨rfl, k3⟩) | fail)
    go_ret
    exact ⟨ret_bool Hd.out.symm, K1.out.trans (k2.trans k3)⟩
set_option maxHeartbeats 4000000 in
set_option maxRecDepth 20000 in
theorem same4_any (a b : Mo) (w : World) (B fb xb rb : Nat) (ha : a.at w B) (hb : b.at w B) (hfb : w.cell? ⟨fb, 0, none⟩ = some (.func (.func 36) #[] #[])) (hxb : w.cell? ⟨xb, 0, none⟩ = some (.func (.func 34) #[] #[.pointer (some ⟨rb, 0, none⟩)]))
    (hrb : w.cell? ⟨rb, 0, none⟩ = some (.func (.func 33) #[] #[])) : Calls Tryz.prog 39 #[.agg #[.string a.name, .slice a.fa a.fs.length a.fc, .slice a.ea a.es.length a.ec], .agg #[.string b.name, .slice b.fa b.fs.length b.fc, .slice b.ea b.es.length b.ec], .pointer (some ⟨fb, 0, none⟩), .pointer (some ⟨xb, 0, none⟩)] w fun e w' => e = .returned (.bool (meqB a b)) ∧ Kp w w' := by
  have hd : meqB a b = (decide (a.name = b.name) && (allW qeqB a.fs b.fs && allW xeqB a.es b.es)) := rfl
  generalize meqB a b = b0 at *
  have k1 : Kp w ((w.alloc (.cells #[.string a.name, .slice a.fa a.fs.length a.fc, .slice a.ea a.es.length a.ec] 61)).alloc (.cells #[.string b.name, .slice b.fa b.fs.length b.fc, .slice b.ea b.es.length b.ec] 61)) := ((Kp.refl w).alloc _).alloc _
  have h0 : CellsV ((w.alloc (.cells #[.string a.name, .slice a.fa a.fs.length a.fc, .slice a.ea a.es.length a.ec] 61)).alloc (.cells #[.string b.name, .slice b.fa b.fs.length b.fc, .slice b.ea b.es.length b.ec] 61)) w.heap.size 0 a.cells := (CellsV.new w a.cells _ _ rfl).kp ((Kp.refl _).alloc _)
  have h1 : CellsV ((w.alloc (.cells #[.string a.name, .slice a.fa a.fs.length a.fc, .slice a.ea a.es.length a.ec] 61)).alloc (.cells #[.string b.name, .slice b.fa b.fs.length b.fc, .slice b.ea b.es.length b.ec] 61)) (w.heap.size + 1) 0 b.cells := CellsV.new _ b.cells _ _ (by simp)
  go_enter Tryz.func39, Tryz.ntmps39
  go_upto_region 1 with fail
  generalize World.alloc _ _ = W at *
  have HF := Lib.hid fun W' (k : Kp W W') => eqwQ a.fa b.fa a.fs b.fs a.fc b.fc B 36 #[] W' qeqB (by have := ha.1.2.1; omega) (ha.2.1.1.kp (k1.trans k)) (hb.2.1.1.kp (k1.trans k)) ⟨fun _ _ => by kernel_rfl, fun x hx y hy w1 h1 => same3_any x y w1 B (Qe.at_kp (ha.2.1.2 x hx) ((k1.trans k).trans h1)) (Qe.at_kp (hb.2.1.2 y hy) ((k1.trans k).trans h1))⟩
  have HX := Lib.hid fun W' (k : Kp W W') => eqwX a.ea b.ea a.es b.es a.ec b.ec B 34 #[.pointer (some ⟨rb, 0, none⟩)] W' xeqB (by have := ha.1.2.2; omega) (ha.2.2.1.kp (k1.trans k)) (hb.2.2.1.kp (k1.trans k)) ⟨fun _ _ => by kernel_rfl, fun x hx y hy w1 h1 => same2_any x y w1 B rb (Ed.at_kp (ha.2.2.2 x hx) ((k1.trans k).trans h1)) (Ed.at_kp (hb.2.2.2 y hy) ((k1.trans k).trans h1)) (((k1.trans k).trans h1).cell hrb)⟩
  have K1 := Lib.hid k1
  have H0 := Lib.hid h0
  have H1 := Lib.hid h1
  have hfw := k1.cell hfb
  have hxw := k1.cell hxb
  have HXB := Lib.hid hxw
  have q0 : W.cell? ⟨w.heap.size, 0, none⟩ = some (.string a.name) := h0 0 _ rfl; have q1 : W.cell? ⟨w.heap.size, 1, none⟩ = some (.slice a.fa a.fs.length a.fc) := h0 1 _ rfl; have q2 : W.cell? ⟨w.heap.size, 2, none⟩ = some (.slice a.ea a.es.length a.ec) := h0 2 _ rfl
  have p0 : W.cell? ⟨(w.heap.size + 1), 0, none⟩ = some (.string b.name) := h1 0 _ rfl; have p1 : W.cell? ⟨(w.heap.size + 1), 1, none⟩ = some (.slice b.fa b.fs.length b.fc) := h1 1 _ rfl; have p2 : W.cell? ⟨(w.heap.size + 1), 2, none⟩ = some (.slice b.ea b.es.length b.ec) := h1 2 _ rfl
  clear h0 h1 k1 ha hb hfb hxb hrb
  by_cases c1 : a.name = b.name
  rotate_left
  · rw [decide_eq_false c1, Bool.false_and] at hd
    have e1 : (a.name.toList == b.name.toList) = false := strNe c1
    subst hd
    clear c1
    go_wp2_with fail
    go_ret
    exact ⟨rfl, K1.out⟩
  rw [decide_eq_true c1, Bool.true_and] at hd
  have e1 : (a.name.toList == b.name.toList) = true := by rw [c1]; exact beq_self_eq_true _
  clear c1
  cases c2 : allW qeqB a.fs b.fs with
  | false =>
    rw [c2] at hd HF
    have Hd := Lib.hid hd
    clear hd c2
    go_wp2_with (first | (go_at_call 40; go_fit (HF.out _ (Kp.refl _)); rintro r w2 ⟨rfl, k2⟩) | fail)
    go_ret
    exact ⟨ret_bool (by rw [Hd.out]; rfl), K1.out.trans k2⟩
  | true =>
    rw [c2] at hd HF
    have Hd := Lib.hid hd
    clear hd c2
    go_wp2_with (first | (go_at_call 40; go_fit (HF.out _ (Kp.refl _)); rintro r w2 ⟨rfl, k2⟩; have h0 := H0.out.kp k2; have h1 := H1.out.kp k2; have hx2 := k2.cell HXB.out; have s0 : w2.cell? ⟨w.heap.size, 0, none⟩ = some (.string a.name) := h0 0 _ rfl; have s1 : w2.cell? ⟨w.heap.size, 1, none⟩ = some (.slice a.fa a.fs.length a.fc) := h0 1 _ rfl; have s2 : w2.cell? ⟨w.heap.size, 2, none⟩ = some (.slice a.ea a.es.length a.ec) := h0 2 _ rfl; have t0 : w2.cell? ⟨(w.heap.size + 1), 0, none⟩ = some (.string b.name) := h1 0 _ rfl; have t1 : w2.cell? ⟨(w.heap.size + 1), 1, none⟩ = some (.slice b.fa b.fs.length b.fc) := h1 1 _ rfl; have t2 : w2.cell? ⟨(w.heap.size + 1), 2, none⟩ = some (.slice b.ea b.es.length b.ec) := h1 2 _ rfl; clear h0 h1) | (go_at_call 41; go_fit (HX.out _ k2); rintro r w3 ⟨rfl, k3⟩) | fail)
    go_ret
    exact ⟨ret_bool (by rw [Hd.out]; rfl), K1.out.trans (k2.trans k3)⟩
end Go.Proofs.YthaphbbeiglolaaGreat
end

section
namespace Go.Proofs.YthaphbbeiglolaaGreat
open Go.RowKit Go.Sort

def allXY (p : Ex → Ex → Bool) (l m : List Ex) : Bool := decide (l.length = m.length) && (l.zip m).all fun z => p z.1 z.2
theorem allXX_XY (l m : List Ex) : allXX Ex.eqv l m = allXY Ex.eqv l m := by unfold allXX allXY; rfl
theorem keep14 {w w' : World} (k : Kp w w') {p0 p1 p2 p3 p4 p5 q0 q1 q2 q3 q4 q5 r0 r1 : Addr} {v0 v1 v2 v3 v4 v5 u0 u1 u2 u3 u4 u5 x0 x1 : Value}
    (h : w.cell? r0 = some x0 ∧ w.cell? r1 = some x1 ∧ (w.cell? p0 = some v0 ∧ w.cell? p1 = some v1 ∧ w.cell? p2 = some v2 ∧ w.cell? p3 = some v3 ∧ w.cell? p4 = some v4 ∧ w.cell? p5 = some v5) ∧ (w.cell? q0 = some u0 ∧ w.cell? q1 = some u1 ∧ w.cell? q2 = some u2 ∧ w.cell? q3 = some u3 ∧ w.cell? q4 = some u4 ∧ w.cell? q5 = some u5)) :
    w'.cell? r0 = some x0 ∧ w'.cell? r1 = some x1 ∧ (w'.cell? p0 = some v0 ∧ w'.cell? p1 = some v1 ∧ w'.cell? p2 = some v2 ∧ w'.cell? p3 = some v3 ∧ w'.cell? p4 = some v4 ∧ w'.cell? p5 = some v5) ∧ (w'.cell? q0 = some u0 ∧ w'.cell? q1 = some u1 ∧ w'.cell? q2 = some u2 ∧ w'.cell? q3 = some u3 ∧ w'.cell? q4 = some u4 ∧ w'.cell? q5 = some u5) :=
  ⟨k.cell h.1, k.cell h.2.1, keepE6 k h.2.2.1, keepE6 k h.2.2.2⟩
set_option maxHeartbeats 2000000 in
set_option maxRecDepth 20000 in
theorem requal_step (k r d p k' r' d' p' : Int) (s s' : ByteArray) (a a' : Option Addr) (c c' : Nat) (l l' : List Ex) (B : Nat) (w : World) (hl : l.length ≤ 1048576) (hrow : RowX w B a l) (hrow' : RowX w B a' l')
    (hp : AnsXX Tryz.prog 11 #[] w l l' Ex.eqv) (b0 : Bool) (h0 : ((decide (k = k') && (decide (r = r' ∧ d = d') && (decide (s = s') && decide (p = p')))) && allXX Ex.eqv l l') = b0) :
    Calls Tryz.prog 11 #[.agg #[.int .i64 k, .int .i64 r, .int .i64 d, .string s, .int .i64 p, .slice a l.length c], .agg #[.int .i64 k', .int .i64 r', .int .i64 d', .string s', .int .i64 p', .slice a' l'.length c']] w
      fun e w' => e = .returned (.bool b0) ∧ Kp w w' := by
  have k1 : Kp w ((w.alloc (.cells #[.int .i64 k, .int .i64 r, .int .i64 d, .string s, .int .i64 p, .slice a l.length c] 26)).alloc (.cells #[.int .i64 k', .int .i64 r', .int .i64 d', .string s', .int .i64 p', .slice a' l'.length c'] 26)) := ((Kp.refl w).alloc _).alloc _
  have hB1 : BoxX ((w.alloc (.cells #[.int .i64 k, .int .i64 r, .int .i64 d, .string s, .int .i64 p, .slice a l.length c] 26)).alloc (.cells #[.int .i64 k', .int .i64 r', .int .i64 d', .string s', .int .i64 p', .slice a' l'.length c'] 26)) w.heap.size (.mk k r d s p a c l) := (BoxX.new w (.mk k r d s p a c l) _ rfl).kp ((Kp.refl _).alloc _)
  have hB2 : BoxX ((w.alloc (.cells #[.int .i64 k, .int .i64 r, .int .i64 d, .string s, .int .i64 p, .slice a l.length c] 26)).alloc (.cells #[.int .i64 k', .int .i64 r', .int .i64 d', .string s', .int .i64 p', .slice a' l'.length c'] 26)) (w.heap.size + 1) (.mk k' r' d' s' p' a' c' l') := BoxX.new _ (.mk k' r' d' s' p' a' c' l') _ (by simp)
  go_enter Tryz.func11, Tryz.ntmps11
  go_upto_region 1 with fail
  generalize World.alloc _ _ = W at *
  have HP := Lib.hid fun x hx y hy w1 hk => hp.2 x hx y hy w1 (k1.trans hk)
  have HR := Lib.hid (hrow.kp k1)
  have HR' := Lib.hid (hrow'.kp k1)
  have K1 := Lib.hid k1
  obtain ⟨⟨q0, q1, q2, q3, q4, q5⟩, _⟩ := hB1
  obtain ⟨⟨t0, t1, t2, t3, t4, t5⟩, _⟩ := hB2
  simp only [Ex.kind, Ex.rn, Ex.rd, Ex.name, Ex.pw, Ex.a, Ex.c, Ex.l] at q0 q1 q2 q3 q4 q5 t0 t1 t2 t3 t4 t5
  clear hrow hrow' hp k1
  by_cases c1 : k = k'
  · subst c1
    by_cases c2 : r = r'
    · subst c2
      by_cases c3 : d = d'
      · subst c3
        by_cases c4 : s = s'
        · subst c4
          by_cases c5 : p = p'
          · subst c5
            by_cases c6 : l.length = l'.length
            · have hz : allXY Ex.eqv l l' = b0 := by rw [← h0, allXX_XY]; simp
              have hz2 : (l.zip l').all (fun z => z.1.eqv z.2) = b0 := by rw [← hz]; unfold allXY; rw [decide_eq_true c6]; rfl
              have Hz := Lib.hid hz2
              have C6 := Lib.hid c6
              have e6 : ((l.length : Int) != (l'.length : Int)) = false := by rw [c6]; simp
              generalize hn : l.length = n at *
              generalize hn' : l'.length = n' at *
              have Hn := Lib.hid hn
              have Hn' := Lib.hid hn'
              clear h0 hz hz2 c6 hn hn'
              go_upto_region 4 with fail
              clear q0 q1 q2 q3 q4 t0 t1 t2 t3 t4
              go_loopw [5] (fun x wr => ∃ i : Nat, i ≤ n ∧ x = .int .i64 (i : Int) ∧ ((l.drop i).zip (l'.drop i)).all (fun z => z.1.eqv z.2) = b0 ∧ Kp W wr) (fun x _ => n - (intOf x).toNat)
              case atStart => exact ⟨0, by omega, rfl, Hz.out, .refl _⟩
              case round =>
                obtain ⟨i, hi, rfl, hm, hkp⟩ := hrel
                have Hm := Lib.hid hm; clear hm
                have z5 := hkp.cell q5
                have y5 := hkp.cell t5
                by_cases hlt : i < n
                · have hlt1 : i < l.length := by rw [Hn.out]; exact hlt
                  have hlt2 : i < l'.length := by rw [Hn'.out, ← C6.out]; exact hlt
                  have hlt3 : i < n' := by rw [← C6.out]; exact hlt
                  obtain ⟨x, hx⟩ : ∃ x, l[i]? = some x := ⟨_, List.getElem?_eq_getElem hlt1⟩
                  obtain ⟨y, hy⟩ : ∃ y, l'[i]? = some y := ⟨_, List.getElem?_eq_getElem hlt2⟩
                  have Hd := Lib.hid (show l.drop i = x :: l.drop (i + 1) from (List.drop_eq_getElem_cons hlt1).trans (by rw [(List.getElem?_eq_some_iff.1 hx).2]))
                  have Hd' := Lib.hid (show l'.drop i = y :: l'.drop (i + 1) from (List.drop_eq_getElem_cons hlt2).trans (by rw [(List.getElem?_eq_some_iff.1 hy).2]))
                  have hxm := List.mem_of_getElem? hx
                  have hym := List.mem_of_getElem? hy
                  obtain ⟨b, o, ha, hb2, x0, x1, x2, x3, x4, x5⟩ := (HR.out.kp hkp) i x hx
                  obtain ⟨b', o', ha', hb3, y0, y1, y2, y3, y4, y6⟩ := (HR'.out.kp hkp) i y hy
                  have HX := Lib.hid fun W' h => HP.out x hxm y hym W' (hkp.trans h)
                  have Hkp := Lib.hid hkp
                  rw [ha] at z5
                  rw [ha'] at y5
                  have kd := (Kp.refl wr).drew
                  have hSd := keep14 kd ⟨z5, y5, ⟨x0, x1, x2, x3, x4, x5⟩, ⟨y0, y1, y2, y3, y4, y6⟩⟩
                  have hm2 := Hm.out
                  rw [Hd.out, Hd'.out, List.zip_cons_cons, List.all_cons] at hm2
                  have Hm2 := Lib.hid hm2
                  have HX2 := Lib.hid (HX.out _ kd)
                  have KD := Lib.hid kd
                  clear hx hxm hkp hy hym hlt1 hlt2 q5 t5 hm2 kd
                  rw [ha, ha']
                  clear y5 x0 x1 x2 x3 x4 x5 y0 y1 y2 y3 y4 y6
                  go_upto_region 6 with fail
                  clear z5
                  go_region_held3 (fun w' => w'.cell? ⟨w.heap.size, 5, none⟩ = some (.slice (some ⟨b, o, none⟩) n c) ∧ w'.cell? ⟨w.heap.size + 1, 5, none⟩ = some (.slice (some ⟨b', o', none⟩) n' c') ∧ (w'.cell? ⟨b, o + i * 6, none⟩ = some (.int .i64 x.kind) ∧ w'.cell? ⟨b, o + i * 6 + 1, none⟩ = some (.int .i64 x.rn) ∧ w'.cell? ⟨b, o + i * 6 + 2, none⟩ = some (.int .i64 x.rd) ∧ w'.cell? ⟨b, o + i * 6 + 3, none⟩ = some (.string x.name) ∧ w'.cell? ⟨b, o + i * 6 + 4, none⟩ = some (.int .i64 x.pw) ∧ w'.cell? ⟨b, o + i * 6 + 5, none⟩ = some (.slice x.a x.l.length x.c)) ∧ (w'.cell? ⟨b', o' + i * 6, none⟩ = some (.int .i64 y.kind) ∧ w'.cell? ⟨b', o' + i * 6 + 1, none⟩ = some (.int .i64 y.rn) ∧ w'.cell? ⟨b', o' + i * 6 + 2, none⟩ = some (.int .i64 y.rd) ∧ w'.cell? ⟨b', o' + i * 6 + 3, none⟩ = some (.string y.name) ∧ w'.cell? ⟨b', o' + i * 6 + 4, none⟩ = some (.int .i64 y.pw) ∧ w'.cell? ⟨b', o' + i * 6 + 5, none⟩ = some (.slice y.a y.l.length y.c))) (first | with_reducible assumption | with_reducible exact keep14 (by assumption) hSd | fail) (first
                    | (go_at_call 11; go_fit HX2.out; rintro r w2 ⟨rfl, k2⟩)
                    | fail)
                  cases hq : x.eqv y with
                  | true =>
                    have hm3 := Hm2.out
                    rw [hq, Bool.true_and] at hm3
                    have Hm3 := Lib.hid hm3
                    clear hq hm3
                    go_wp2
                    go_roundw
                    case rel => exact ⟨i + 1, by omega, by go_num, Hm3.out, Hkp.out.trans (KD.out.trans k2)⟩
                    case measure => simp [intOf]; omega
                  | false =>
                    have hm3 := Hm2.out
                    rw [hq, Bool.false_and] at hm3
                    have Hm3 := Lib.hid hm3
                    clear hq hm3
                    go_wp2
                    go_ret
                    exact ⟨ret_bool Hm3.out, K1.out.trans (Hkp.out.trans (KD.out.trans k2))⟩
                · obtain rfl : i = n := by omega
                  have hf := Hm.out
                  rw [show l.drop i = [] from List.drop_eq_nil_of_le (by rw [Hn.out]; omega), List.zip_nil_left] at hf
                  have Hf := Lib.hid hf
                  clear hf
                  go_wp2
                  go_ret
                  exact ⟨ret_bool Hf.out, K1.out.trans hkp⟩
            · skip
              have hz : b0 = false := by rw [← h0, allXX_XY]; unfold allXY; rw [decide_eq_false c6]; simp
              subst hz
              have e6 : ((l.length : Int) != (l'.length : Int)) = true := bne_iff_ne.2 (by omega)
              clear h0 c6
              go_wp2_with fail
              all_goals go_ret
              all_goals exact ⟨rfl, K1.out⟩
          · skip
            have hz : b0 = false := by rw [← h0]; rw [decide_eq_false c5]; simp
            subst hz
            clear h0
            have h5 : (p != p') = true := bne_iff_ne.2 c5
            go_wp2_with fail
            all_goals go_ret
            all_goals exact ⟨rfl, K1.out⟩
        · skip
          have hz : b0 = false := by rw [← h0]; rw [decide_eq_false c4]; simp
          subst hz
          clear h0
          have h4 : (s.toList == s'.toList) = false := strNe c4
          go_wp2_with fail
          all_goals go_ret
          all_goals exact ⟨rfl, K1.out⟩
      · skip
        have hz : b0 = false := by rw [← h0]; rw [decide_eq_false (p := r = r ∧ d = d') (fun h => c3 h.2)]; simp
        subst hz
        clear h0
        have h3 : (d != d') = true := bne_iff_ne.2 c3
        go_wp2_with fail
        all_goals go_ret
        all_goals exact ⟨rfl, K1.out⟩
    · skip
      have hz : b0 = false := by rw [← h0]; rw [decide_eq_false (p := r = r' ∧ d = d') (fun h => c2 h.1)]; simp
      subst hz
      clear h0
      have h2 : (r != r') = true := bne_iff_ne.2 c2
      go_wp2_with fail
      all_goals go_ret
      all_goals exact ⟨rfl, K1.out⟩
  · skip
    have hz : b0 = false := by rw [← h0]; rw [decide_eq_false c1]; simp
    subst hz
    clear h0
    have h1 : (k != k') = true := bne_iff_ne.2 c1
    go_wp2_with fail
    all_goals go_ret
    all_goals exact ⟨rfl, K1.out⟩
theorem requal_any : ∀ (x y : Ex) (B : Nat) (w : World), x.at w B → y.at w B → Calls Tryz.prog 11 #[.agg #[.int .i64 x.kind, .int .i64 x.rn, .int .i64 x.rd, .string x.name, .int .i64 x.pw, .slice x.a x.l.length x.c], .agg #[.int .i64 y.kind, .int .i64 y.rn, .int .i64 y.rd, .string y.name, .int .i64 y.pw, .slice y.a y.l.length y.c]] w fun r w' => r = .returned (.bool (x.eqv y)) ∧ Kp w w' := by
  refine Ex.ind fun x ih y B w hx hy => ?_
  obtain ⟨⟨_, _, _, hl⟩, hrow, hch⟩ := Ex.at_iff.1 hx
  obtain ⟨_, hrow', hch'⟩ := Ex.at_iff.1 hy
  refine requal_step x.kind x.rn x.rd x.pw y.kind y.rn y.rd y.pw x.name y.name x.a y.a x.c y.c x.l y.l B w hl hrow hrow' ⟨fun _ _ => by kernel_rfl, fun u hu v hv w1 hk => ?_⟩ _ ?_
  · exact ih u hu v B w1 (Ex.at_kp (hch u hu) hk) (Ex.at_kp (hch' v hv) hk)
  · rw [x.eqv_eq, eqL_all]
end Go.Proofs.YthaphbbeiglolaaGreat
end
