/-
  Walks: ref13.sameDecls, sameEdge, sameMode, Same.
-/
import Derived.Deep.RegionHeld3
import Derived.Deep.QuietTactic
import Derived.BigQuiet
import Derived.Test.YthaphbbeiglolaaGreatMPrbR
import Derived.Test.YthaphbbeiglolaaGreatMSamT
namespace Go.Proofs.YthaphbbeiglolaaGreat
open Go.RowKit Go.Sort

theorem keepc8 {w w' : World} (k : Kp w w') {p0 p1 p2 p3 p4 p5 p6 p7 : Addr} {v0 v1 v2 v3 v4 v5 v6 v7 : Value} (h : w.cell? p0 = some v0 ∧ w.cell? p1 = some v1 ∧ w.cell? p2 = some v2 ∧ w.cell? p3 = some v3 ∧ w.cell? p4 = some v4 ∧ w.cell? p5 = some v5 ∧ w.cell? p6 = some v6 ∧ w.cell? p7 = some v7) : w'.cell? p0 = some v0 ∧ w'.cell? p1 = some v1 ∧ w'.cell? p2 = some v2 ∧ w'.cell? p3 = some v3 ∧ w'.cell? p4 = some v4 ∧ w'.cell? p5 = some v5 ∧ w'.cell? p6 = some v6 ∧ w'.cell? p7 = some v7 := ⟨k.cell h.1, k.cell h.2.1, k.cell h.2.2.1, k.cell h.2.2.2.1, k.cell h.2.2.2.2.1, k.cell h.2.2.2.2.2.1, k.cell h.2.2.2.2.2.2.1, k.cell h.2.2.2.2.2.2.2⟩
theorem keepc16 {w w' : World} (k : Kp w w') {p0 p1 p2 p3 p4 p5 p6 p7 p8 p9 p10 p11 p12 p13 p14 p15 : Addr} {v0 v1 v2 v3 v4 v5 v6 v7 v8 v9 v10 v11 v12 v13 v14 v15 : Value} (h : w.cell? p0 = some v0 ∧ w.cell? p1 = some v1 ∧ w.cell? p2 = some v2 ∧ w.cell? p3 = some v3 ∧ w.cell? p4 = some v4 ∧ w.cell? p5 = some v5 ∧ w.cell? p6 = some v6 ∧ w.cell? p7 = some v7 ∧ w.cell? p8 = some v8 ∧ w.cell? p9 = some v9 ∧ w.cell? p10 = some v10 ∧ w.cell? p11 = some v11 ∧ w.cell? p12 = some v12 ∧ w.cell? p13 = some v13 ∧ w.cell? p14 = some v14 ∧ w.cell? p15 = some v15) : w'.cell? p0 = some v0 ∧ w'.cell? p1 = some v1 ∧ w'.cell? p2 = some v2 ∧ w'.cell? p3 = some v3 ∧ w'.cell? p4 = some v4 ∧ w'.cell? p5 = some v5 ∧ w'.cell? p6 = some v6 ∧ w'.cell? p7 = some v7 ∧ w'.cell? p8 = some v8 ∧ w'.cell? p9 = some v9 ∧ w'.cell? p10 = some v10 ∧ w'.cell? p11 = some v11 ∧ w'.cell? p12 = some v12 ∧ w'.cell? p13 = some v13 ∧ w'.cell? p14 = some v14 ∧ w'.cell? p15 = some v15 := ⟨k.cell h.1, k.cell h.2.1, k.cell h.2.2.1, k.cell h.2.2.2.1, k.cell h.2.2.2.2.1, k.cell h.2.2.2.2.2.1, k.cell h.2.2.2.2.2.2.1, k.cell h.2.2.2.2.2.2.2.1, k.cell h.2.2.2.2.2.2.2.2.1, k.cell h.2.2.2.2.2.2.2.2.2.1, k.cell h.2.2.2.2.2.2.2.2.2.2.1, k.cell h.2.2.2.2.2.2.2.2.2.2.2.1, k.cell h.2.2.2.2.2.2.2.2.2.2.2.2.1, k.cell h.2.2.2.2.2.2.2.2.2.2.2.2.2.1, k.cell h.2.2.2.2.2.2.2.2.2.2.2.2.2.2.1, k.cell h.2.2.2.2.2.2.2.2.2.2.2.2.2.2.2⟩
theorem keepc20 {w w' : World} (k : Kp w w') {p0 p1 p2 p3 p4 p5 p6 p7 p8 p9 p10 p11 p12 p13 p14 p15 p16 p17 p18 p19 : Addr} {v0 v1 v2 v3 v4 v5 v6 v7 v8 v9 v10 v11 v12 v13 v14 v15 v16 v17 v18 v19 : Value} (h : w.cell? p0 = some v0 ∧ w.cell? p1 = some v1 ∧ w.cell? p2 = some v2 ∧ w.cell? p3 = some v3 ∧ w.cell? p4 = some v4 ∧ w.cell? p5 = some v5 ∧ w.cell? p6 = some v6 ∧ w.cell? p7 = some v7 ∧ w.cell? p8 = some v8 ∧ w.cell? p9 = some v9 ∧ w.cell? p10 = some v10 ∧ w.cell? p11 = some v11 ∧ w.cell? p12 = some v12 ∧ w.cell? p13 = some v13 ∧ w.cell? p14 = some v14 ∧ w.cell? p15 = some v15 ∧ w.cell? p16 = some v16 ∧ w.cell? p17 = some v17 ∧ w.cell? p18 = some v18 ∧ w.cell? p19 = some v19) : w'.cell? p0 = some v0 ∧ w'.cell? p1 = some v1 ∧ w'.cell? p2 = some v2 ∧ w'.cell? p3 = some v3 ∧ w'.cell? p4 = some v4 ∧ w'.cell? p5 = some v5 ∧ w'.cell? p6 = some v6 ∧ w'.cell? p7 = some v7 ∧ w'.cell? p8 = some v8 ∧ w'.cell? p9 = some v9 ∧ w'.cell? p10 = some v10 ∧ w'.cell? p11 = some v11 ∧ w'.cell? p12 = some v12 ∧ w'.cell? p13 = some v13 ∧ w'.cell? p14 = some v14 ∧ w'.cell? p15 = some v15 ∧ w'.cell? p16 = some v16 ∧ w'.cell? p17 = some v17 ∧ w'.cell? p18 = some v18 ∧ w'.cell? p19 = some v19 := ⟨k.cell h.1, k.cell h.2.1, k.cell h.2.2.1, k.cell h.2.2.2.1, k.cell h.2.2.2.2.1, k.cell h.2.2.2.2.2.1, k.cell h.2.2.2.2.2.2.1, k.cell h.2.2.2.2.2.2.2.1, k.cell h.2.2.2.2.2.2.2.2.1, k.cell h.2.2.2.2.2.2.2.2.2.1, k.cell h.2.2.2.2.2.2.2.2.2.2.1, k.cell h.2.2.2.2.2.2.2.2.2.2.2.1, k.cell h.2.2.2.2.2.2.2.2.2.2.2.2.1, k.cell h.2.2.2.2.2.2.2.2.2.2.2.2.2.1, k.cell h.2.2.2.2.2.2.2.2.2.2.2.2.2.2.1, k.cell h.2.2.2.2.2.2.2.2.2.2.2.2.2.2.2.1, k.cell h.2.2.2.2.2.2.2.2.2.2.2.2.2.2.2.2.1, k.cell h.2.2.2.2.2.2.2.2.2.2.2.2.2.2.2.2.2.1, k.cell h.2.2.2.2.2.2.2.2.2.2.2.2.2.2.2.2.2.2.1, k.cell h.2.2.2.2.2.2.2.2.2.2.2.2.2.2.2.2.2.2.2⟩
set_option maxHeartbeats 8000000 in
set_option maxRecDepth 20000 in
theorem sedge_any (a c : Ed) (B : Nat) (w : World) (ha : a.at w B) (hc : c.at w B) : Calls Tryz.prog 72 #[.agg #[.int .i64 a.g.kind, .int .i64 a.g.rn, .int .i64 a.g.rd, .string a.g.name, .int .i64 a.g.pw, .slice a.g.a a.g.l.length a.g.c, .int .i64 a.dir, .string a.tx, .slice a.a a.rs.length a.c], .agg #[.int .i64 c.g.kind, .int .i64 c.g.rn, .int .i64 c.g.rd, .string c.g.name, .int .i64 c.g.pw, .slice c.g.a c.g.l.length c.g.c, .int .i64 c.dir, .string c.tx, .slice c.a c.rs.length c.c]] w fun e w' => e = .returned (.bool (xeqB a c)) ∧ Kp w w' := by
  generalize hbb : xeqB a c = b0 at *
  have k1 : Kp w ((w.alloc (.cells #[.int .i64 a.g.kind, .int .i64 a.g.rn, .int .i64 a.g.rd, .string a.g.name, .int .i64 a.g.pw, .slice a.g.a a.g.l.length a.g.c, .int .i64 a.dir, .string a.tx, .slice a.a a.rs.length a.c] 70)).alloc (.cells #[.int .i64 c.g.kind, .int .i64 c.g.rn, .int .i64 c.g.rd, .string c.g.name, .int .i64 c.g.pw, .slice c.g.a c.g.l.length c.g.c, .int .i64 c.dir, .string c.tx, .slice c.a c.rs.length c.c] 70)) := ((Kp.refl w).alloc _).alloc _
  have h0 : CellsV ((w.alloc (.cells #[.int .i64 a.g.kind, .int .i64 a.g.rn, .int .i64 a.g.rd, .string a.g.name, .int .i64 a.g.pw, .slice a.g.a a.g.l.length a.g.c, .int .i64 a.dir, .string a.tx, .slice a.a a.rs.length a.c] 70)).alloc (.cells #[.int .i64 c.g.kind, .int .i64 c.g.rn, .int .i64 c.g.rd, .string c.g.name, .int .i64 c.g.pw, .slice c.g.a c.g.l.length c.g.c, .int .i64 c.dir, .string c.tx, .slice c.a c.rs.length c.c] 70)) w.heap.size 0 a.cells := (CellsV.new w a.cells _ _ rfl).kp ((Kp.refl _).alloc _)
  have h1 : CellsV ((w.alloc (.cells #[.int .i64 a.g.kind, .int .i64 a.g.rn, .int .i64 a.g.rd, .string a.g.name, .int .i64 a.g.pw, .slice a.g.a a.g.l.length a.g.c, .int .i64 a.dir, .string a.tx, .slice a.a a.rs.length a.c] 70)).alloc (.cells #[.int .i64 c.g.kind, .int .i64 c.g.rn, .int .i64 c.g.rd, .string c.g.name, .int .i64 c.g.pw, .slice c.g.a c.g.l.length c.g.c, .int .i64 c.dir, .string c.tx, .slice c.a c.rs.length c.c] 70)) (w.heap.size + 1) 0 c.cells := CellsV.new _ c.cells _ _ (by simp)
  go_enter Tryz.func72, Tryz.ntmps72
  go_upto_region 1 with fail
  generalize World.alloc _ _ = W at *
  have K1 := Lib.hid k1
  have H0 := Lib.hid h0
  have H1 := Lib.hid h1
  have hd : b0 = (a.g.eqv c.g && (decide (a.dir = c.dir) && (decide (a.tx = c.tx) && allW qeqB a.rs c.rs))) := hbb.symm
  clear hbb
  have HE := Lib.hid (requal_any a.g c.g B W (Ex.at_kp ha.1.1 k1) (Ex.at_kp hc.1.1 k1))
  have HR := Lib.hid (ha.2.1.kp k1)
  have HR' := Lib.hid (hc.2.1.kp k1)
  have HQA := Lib.hid fun q hq => Qe.at_kp (ha.2.2 q hq) k1
  have HQB := Lib.hid fun q hq => Qe.at_kp (hc.2.2 q hq) k1
  have hlen := ha.1.2.2
  have q0 : W.cell? ⟨w.heap.size, 0, none⟩ = some (.int .i64 a.g.kind) := h0 0 _ rfl; have q1 : W.cell? ⟨w.heap.size, 1, none⟩ = some (.int .i64 a.g.rn) := h0 1 _ rfl; have q2 : W.cell? ⟨w.heap.size, 2, none⟩ = some (.int .i64 a.g.rd) := h0 2 _ rfl; have q3 : W.cell? ⟨w.heap.size, 3, none⟩ = some (.string a.g.name) := h0 3 _ rfl; have q4 : W.cell? ⟨w.heap.size, 4, none⟩ = some (.int .i64 a.g.pw) := h0 4 _ rfl; have q5 : W.cell? ⟨w.heap.size, 5, none⟩ = some (.slice a.g.a a.g.l.length a.g.c) := h0 5 _ rfl; have q6 : W.cell? ⟨w.heap.size, 6, none⟩ = some (.int .i64 a.dir) := h0 6 _ rfl; have q7 : W.cell? ⟨w.heap.size, 7, none⟩ = some (.string a.tx) := h0 7 _ rfl; have q8 : W.cell? ⟨w.heap.size, 8, none⟩ = some (.slice a.a a.rs.length a.c) := h0 8 _ rfl
  have p0 : W.cell? ⟨(w.heap.size + 1), 0, none⟩ = some (.int .i64 c.g.kind) := h1 0 _ rfl; have p1 : W.cell? ⟨(w.heap.size + 1), 1, none⟩ = some (.int .i64 c.g.rn) := h1 1 _ rfl; have p2 : W.cell? ⟨(w.heap.size + 1), 2, none⟩ = some (.int .i64 c.g.rd) := h1 2 _ rfl; have p3 : W.cell? ⟨(w.heap.size + 1), 3, none⟩ = some (.string c.g.name) := h1 3 _ rfl; have p4 : W.cell? ⟨(w.heap.size + 1), 4, none⟩ = some (.int .i64 c.g.pw) := h1 4 _ rfl; have p5 : W.cell? ⟨(w.heap.size + 1), 5, none⟩ = some (.slice c.g.a c.g.l.length c.g.c) := h1 5 _ rfl; have p6 : W.cell? ⟨(w.heap.size + 1), 6, none⟩ = some (.int .i64 c.dir) := h1 6 _ rfl; have p7 : W.cell? ⟨(w.heap.size + 1), 7, none⟩ = some (.string c.tx) := h1 7 _ rfl; have p8 : W.cell? ⟨(w.heap.size + 1), 8, none⟩ = some (.slice c.a c.rs.length c.c) := h1 8 _ rfl
  clear h0 h1 k1 ha hc
  cases c0 : a.g.eqv c.g with
  | false =>
    rw [c0] at hd HE
    have Hd := Lib.hid hd
    clear hd c0
    go_wp2_with (first | (go_at_call 11; go_fit HE.out; rintro r w2 ⟨rfl, k2⟩) | fail)
    go_ret
    exact ⟨ret_bool (by rw [Hd.out]; rfl), K1.out.trans k2⟩
  | true =>
    rw [c0] at hd HE
    clear c0
    by_cases c1 : a.dir = c.dir
    rotate_left
    · rw [decide_eq_false c1] at hd
      have e1 : (a.dir != c.dir) = true := bne_iff_ne.2 c1
      have Hd := Lib.hid hd
      clear hd c1
      go_wp2_with (first | (go_at_call 11; go_fit HE.out; rintro r w2 ⟨rfl, k2⟩; have h0 := H0.out.kp k2; have h1 := H1.out.kp k2; have s0 : w2.cell? ⟨w.heap.size, 0, none⟩ = some (.int .i64 a.g.kind) := h0 0 _ rfl; have s1 : w2.cell? ⟨w.heap.size, 1, none⟩ = some (.int .i64 a.g.rn) := h0 1 _ rfl; have s2 : w2.cell? ⟨w.heap.size, 2, none⟩ = some (.int .i64 a.g.rd) := h0 2 _ rfl; have s3 : w2.cell? ⟨w.heap.size, 3, none⟩ = some (.string a.g.name) := h0 3 _ rfl; have s4 : w2.cell? ⟨w.heap.size, 4, none⟩ = some (.int .i64 a.g.pw) := h0 4 _ rfl; have s5 : w2.cell? ⟨w.heap.size, 5, none⟩ = some (.slice a.g.a a.g.l.length a.g.c) := h0 5 _ rfl; have s6 : w2.cell? ⟨w.heap.size, 6, none⟩ = some (.int .i64 a.dir) := h0 6 _ rfl; have s7 : w2.cell? ⟨w.heap.size, 7, none⟩ = some (.string a.tx) := h0 7 _ rfl; have s8 : w2.cell? ⟨w.heap.size, 8, none⟩ = some (.slice a.a a.rs.length a.c) := h0 8 _ rfl; have t0 : w2.cell? ⟨(w.heap.size + 1), 0, none⟩ = some (.int .i64 c.g.kind) := h1 0 _ rfl; have t1 : w2.cell? ⟨(w.heap.size + 1), 1, none⟩ = some (.int .i64 c.g.rn) := h1 1 _ rfl; have t2 : w2.cell? ⟨(w.heap.size + 1), 2, none⟩ = some (.int .i64 c.g.rd) := h1 2 _ rfl; have t3 : w2.cell? ⟨(w.heap.size + 1), 3, none⟩ = some (.string c.g.name) := h1 3 _ rfl; have t4 : w2.cell? ⟨(w.heap.size + 1), 4, none⟩ = some (.int .i64 c.g.pw) := h1 4 _ rfl; have t5 : w2.cell? ⟨(w.heap.size + 1), 5, none⟩ = some (.slice c.g.a c.g.l.length c.g.c) := h1 5 _ rfl; have t6 : w2.cell? ⟨(w.heap.size + 1), 6, none⟩ = some (.int .i64 c.dir) := h1 6 _ rfl; have t7 : w2.cell? ⟨(w.heap.size + 1), 7, none⟩ = some (.string c.tx) := h1 7 _ rfl; have t8 : w2.cell? ⟨(w.heap.size + 1), 8, none⟩ = some (.slice c.a c.rs.length c.c) := h1 8 _ rfl; clear h0 h1) | fail)
      go_ret
      exact ⟨ret_bool (by rw [Hd.out]; rfl), K1.out.trans k2⟩
    rw [decide_eq_true c1] at hd
    have e1 : (a.dir != c.dir) = false := by rw [c1]; simp
    clear c1
    by_cases c2 : a.tx = c.tx
    rotate_left
    · rw [decide_eq_false c2] at hd
      have e2 : (a.tx.toList == c.tx.toList) = false := strNe c2
      have Hd := Lib.hid hd
      clear hd c2
      go_wp2_with (first | (go_at_call 11; go_fit HE.out; rintro r w2 ⟨rfl, k2⟩; have h0 := H0.out.kp k2; have h1 := H1.out.kp k2; have s0 : w2.cell? ⟨w.heap.size, 0, none⟩ = some (.int .i64 a.g.kind) := h0 0 _ rfl; have s1 : w2.cell? ⟨w.heap.size, 1, none⟩ = some (.int .i64 a.g.rn) := h0 1 _ rfl; have s2 : w2.cell? ⟨w.heap.size, 2, none⟩ = some (.int .i64 a.g.rd) := h0 2 _ rfl; have s3 : w2.cell? ⟨w.heap.size, 3, none⟩ = some (.string a.g.name) := h0 3 _ rfl; have s4 : w2.cell? ⟨w.heap.size, 4, none⟩ = some (.int .i64 a.g.pw) := h0 4 _ rfl; have s5 : w2.cell? ⟨w.heap.size, 5, none⟩ = some (.slice a.g.a a.g.l.length a.g.c) := h0 5 _ rfl; have s6 : w2.cell? ⟨w.heap.size, 6, none⟩ = some (.int .i64 a.dir) := h0 6 _ rfl; have s7 : w2.cell? ⟨w.heap.size, 7, none⟩ = some (.string a.tx) := h0 7 _ rfl; have s8 : w2.cell? ⟨w.heap.size, 8, none⟩ = some (.slice a.a a.rs.length a.c) := h0 8 _ rfl; have t0 : w2.cell? ⟨(w.heap.size + 1), 0, none⟩ = some (.int .i64 c.g.kind) := h1 0 _ rfl; have t1 : w2.cell? ⟨(w.heap.size + 1), 1, none⟩ = some (.int .i64 c.g.rn) := h1 1 _ rfl; have t2 : w2.cell? ⟨(w.heap.size + 1), 2, none⟩ = some (.int .i64 c.g.rd) := h1 2 _ rfl; have t3 : w2.cell? ⟨(w.heap.size + 1), 3, none⟩ = some (.string c.g.name) := h1 3 _ rfl; have t4 : w2.cell? ⟨(w.heap.size + 1), 4, none⟩ = some (.int .i64 c.g.pw) := h1 4 _ rfl; have t5 : w2.cell? ⟨(w.heap.size + 1), 5, none⟩ = some (.slice c.g.a c.g.l.length c.g.c) := h1 5 _ rfl; have t6 : w2.cell? ⟨(w.heap.size + 1), 6, none⟩ = some (.int .i64 c.dir) := h1 6 _ rfl; have t7 : w2.cell? ⟨(w.heap.size + 1), 7, none⟩ = some (.string c.tx) := h1 7 _ rfl; have t8 : w2.cell? ⟨(w.heap.size + 1), 8, none⟩ = some (.slice c.a c.rs.length c.c) := h1 8 _ rfl; clear h0 h1) | fail)
      go_ret
      exact ⟨ret_bool (by rw [Hd.out]; rfl), K1.out.trans k2⟩
    rw [decide_eq_true c2] at hd
    have e2 : (a.tx.toList == c.tx.toList) = true := by rw [c2]; exact beq_self_eq_true _
    clear c2
    by_cases c3 : a.rs.length = c.rs.length
    rotate_left
    · rw [allW_len c3] at hd
      have e3 : ((a.rs.length : Int) != (c.rs.length : Int)) = true := bne_iff_ne.2 (by omega)
      have Hd := Lib.hid hd
      clear hd c3
      go_wp2_with (first | (go_at_call 11; go_fit HE.out; rintro r w2 ⟨rfl, k2⟩; have h0 := H0.out.kp k2; have h1 := H1.out.kp k2; have s0 : w2.cell? ⟨w.heap.size, 0, none⟩ = some (.int .i64 a.g.kind) := h0 0 _ rfl; have s1 : w2.cell? ⟨w.heap.size, 1, none⟩ = some (.int .i64 a.g.rn) := h0 1 _ rfl; have s2 : w2.cell? ⟨w.heap.size, 2, none⟩ = some (.int .i64 a.g.rd) := h0 2 _ rfl; have s3 : w2.cell? ⟨w.heap.size, 3, none⟩ = some (.string a.g.name) := h0 3 _ rfl; have s4 : w2.cell? ⟨w.heap.size, 4, none⟩ = some (.int .i64 a.g.pw) := h0 4 _ rfl; have s5 : w2.cell? ⟨w.heap.size, 5, none⟩ = some (.slice a.g.a a.g.l.length a.g.c) := h0 5 _ rfl; have s6 : w2.cell? ⟨w.heap.size, 6, none⟩ = some (.int .i64 a.dir) := h0 6 _ rfl; have s7 : w2.cell? ⟨w.heap.size, 7, none⟩ = some (.string a.tx) := h0 7 _ rfl; have s8 : w2.cell? ⟨w.heap.size, 8, none⟩ = some (.slice a.a a.rs.length a.c) := h0 8 _ rfl; have t0 : w2.cell? ⟨(w.heap.size + 1), 0, none⟩ = some (.int .i64 c.g.kind) := h1 0 _ rfl; have t1 : w2.cell? ⟨(w.heap.size + 1), 1, none⟩ = some (.int .i64 c.g.rn) := h1 1 _ rfl; have t2 : w2.cell? ⟨(w.heap.size + 1), 2, none⟩ = some (.int .i64 c.g.rd) := h1 2 _ rfl; have t3 : w2.cell? ⟨(w.heap.size + 1), 3, none⟩ = some (.string c.g.name) := h1 3 _ rfl; have t4 : w2.cell? ⟨(w.heap.size + 1), 4, none⟩ = some (.int .i64 c.g.pw) := h1 4 _ rfl; have t5 : w2.cell? ⟨(w.heap.size + 1), 5, none⟩ = some (.slice c.g.a c.g.l.length c.g.c) := h1 5 _ rfl; have t6 : w2.cell? ⟨(w.heap.size + 1), 6, none⟩ = some (.int .i64 c.dir) := h1 6 _ rfl; have t7 : w2.cell? ⟨(w.heap.size + 1), 7, none⟩ = some (.string c.tx) := h1 7 _ rfl; have t8 : w2.cell? ⟨(w.heap.size + 1), 8, none⟩ = some (.slice c.a c.rs.length c.c) := h1 8 _ rfl; clear h0 h1) | fail)
      go_ret
      exact ⟨ret_bool (by rw [Hd.out]; rfl), K1.out.trans k2⟩
    have e3 : ((a.rs.length : Int) != (c.rs.length : Int)) = false := by rw [c3]; simp
    obtain ⟨bq, hbq⟩ : ∃ bq, (a.rs.zip c.rs).all (fun z => qeqB z.1 z.2) = bq := ⟨_, rfl⟩
    have hd2 : b0 = bq := by rw [hd, ← hbq]; unfold allW; rw [decide_eq_true c3]; simp
    have HDQ := Lib.hid hd2
    have HZQ := Lib.hid hbq
    have C6 := Lib.hid c3
    generalize hn : a.rs.length = n at *
    generalize hn' : c.rs.length = n' at *
    have Hn := Lib.hid hn
    have Hn' := Lib.hid hn'
    clear hd hd2 hbq c3 hn hn'
    go_upto_region 4 with (first | (go_at_call 11; go_fit HE.out; rintro r w2 ⟨rfl, k2⟩; have h0 := H0.out.kp k2; have h1 := H1.out.kp k2; have s0 : w2.cell? ⟨w.heap.size, 0, none⟩ = some (.int .i64 a.g.kind) := h0 0 _ rfl; have s1 : w2.cell? ⟨w.heap.size, 1, none⟩ = some (.int .i64 a.g.rn) := h0 1 _ rfl; have s2 : w2.cell? ⟨w.heap.size, 2, none⟩ = some (.int .i64 a.g.rd) := h0 2 _ rfl; have s3 : w2.cell? ⟨w.heap.size, 3, none⟩ = some (.string a.g.name) := h0 3 _ rfl; have s4 : w2.cell? ⟨w.heap.size, 4, none⟩ = some (.int .i64 a.g.pw) := h0 4 _ rfl; have s5 : w2.cell? ⟨w.heap.size, 5, none⟩ = some (.slice a.g.a a.g.l.length a.g.c) := h0 5 _ rfl; have s6 : w2.cell? ⟨w.heap.size, 6, none⟩ = some (.int .i64 a.dir) := h0 6 _ rfl; have s7 : w2.cell? ⟨w.heap.size, 7, none⟩ = some (.string a.tx) := h0 7 _ rfl; have s8 : w2.cell? ⟨w.heap.size, 8, none⟩ = some (.slice a.a a.rs.length a.c) := h0 8 _ rfl; have t0 : w2.cell? ⟨(w.heap.size + 1), 0, none⟩ = some (.int .i64 c.g.kind) := h1 0 _ rfl; have t1 : w2.cell? ⟨(w.heap.size + 1), 1, none⟩ = some (.int .i64 c.g.rn) := h1 1 _ rfl; have t2 : w2.cell? ⟨(w.heap.size + 1), 2, none⟩ = some (.int .i64 c.g.rd) := h1 2 _ rfl; have t3 : w2.cell? ⟨(w.heap.size + 1), 3, none⟩ = some (.string c.g.name) := h1 3 _ rfl; have t4 : w2.cell? ⟨(w.heap.size + 1), 4, none⟩ = some (.int .i64 c.g.pw) := h1 4 _ rfl; have t5 : w2.cell? ⟨(w.heap.size + 1), 5, none⟩ = some (.slice c.g.a c.g.l.length c.g.c) := h1 5 _ rfl; have t6 : w2.cell? ⟨(w.heap.size + 1), 6, none⟩ = some (.int .i64 c.dir) := h1 6 _ rfl; have t7 : w2.cell? ⟨(w.heap.size + 1), 7, none⟩ = some (.string c.tx) := h1 7 _ rfl; have t8 : w2.cell? ⟨(w.heap.size + 1), 8, none⟩ = some (.slice c.a c.rs.length c.c) := h1 8 _ rfl; clear h0 h1; rw [Hn.out] at s8; rw [Hn'.out] at t8) | fail)
    have HST := Lib.hid k2
    clear q0 p0 s0 t0 q1 p1 s1 t1 q2 p2 s2 t2 q3 p3 s3 t3 q4 p4 s4 t4 q5 p5 s5 t5 q6 p6 s6 t6 q7 p7 s7 t7 q8 p8 s8 t8 k2
    go_loopw [5] (fun v wr => ∃ i : Nat, i ≤ n ∧ v = .int .i64 (i : Int) ∧ (((a.rs).drop i).zip ((c.rs).drop i)).all (fun z => qeqB z.1 z.2) = bq ∧ Kp w2 wr) (fun v _ => n - (intOf v).toNat)
    case atStart => exact ⟨0, by omega, rfl, HZQ.out, .refl _⟩
    case round =>
      obtain ⟨i, hi, rfl, hm, hkp⟩ := hrel
      have Hm := Lib.hid hm; clear hm
      have hb1 := H0.out.kp (HST.out.trans hkp)
      have hb2 := H1.out.kp (HST.out.trans hkp)
      have z5 : wr.cell? ⟨w.heap.size, 8, none⟩ = some (.slice a.a (a.rs).length a.c) := hb1 8 _ rfl
      have y5 : wr.cell? ⟨w.heap.size + 1, 8, none⟩ = some (.slice c.a (c.rs).length c.c) := hb2 8 _ rfl
      rw [Hn.out] at z5
      rw [Hn'.out] at y5
      clear hb1 hb2
      by_cases hlt : i < n
      · have hlt1 : i < (a.rs).length := by rw [Hn.out]; exact hlt
        have hlt2 : i < (c.rs).length := by rw [Hn'.out, ← C6.out]; exact hlt
        have hlt3 : i < n' := by rw [← C6.out]; exact hlt
        obtain ⟨x, hx⟩ : ∃ x, (a.rs)[i]? = some x := ⟨_, List.getElem?_eq_getElem hlt1⟩
        obtain ⟨y, hy⟩ : ∃ y, (c.rs)[i]? = some y := ⟨_, List.getElem?_eq_getElem hlt2⟩
        have Hd := Lib.hid (show (a.rs).drop i = x :: (a.rs).drop (i + 1) from (List.drop_eq_getElem_cons hlt1).trans (by rw [(List.getElem?_eq_some_iff.1 hx).2]))
        have Hd' := Lib.hid (show (c.rs).drop i = y :: (c.rs).drop (i + 1) from (List.drop_eq_getElem_cons hlt2).trans (by rw [(List.getElem?_eq_some_iff.1 hy).2]))
        have hxm := List.mem_of_getElem? hx
        have hym := List.mem_of_getElem? hy
        obtain ⟨b, o, ha, _, h0⟩ := (HR.out.kp (HST.out.trans hkp)) i x hx
        obtain ⟨b', o', ha', _, h1⟩ := (HR'.out.kp (HST.out.trans hkp)) i y hy
        have Hkp := Lib.hid hkp
        rw [ha] at z5
        rw [ha'] at y5
        have kd := (Kp.refl wr).drew
        have hSd : wr.drew.cell? ⟨w.heap.size, 8, none⟩ = some (.slice (some ⟨b, o, none⟩) n a.c) ∧ wr.drew.cell? ⟨w.heap.size + 1, 8, none⟩ = some (.slice (some ⟨b', o', none⟩) n' c.c) ∧ wr.drew.cell? ⟨b, o + i * 7, none⟩ = some (.string x.name) ∧ wr.drew.cell? ⟨b, o + i * 7 + 1, none⟩ = some (.int .i64 x.e.kind) ∧ wr.drew.cell? ⟨b, o + i * 7 + 2, none⟩ = some (.int .i64 x.e.rn) ∧ wr.drew.cell? ⟨b, o + i * 7 + 3, none⟩ = some (.int .i64 x.e.rd) ∧ wr.drew.cell? ⟨b, o + i * 7 + 4, none⟩ = some (.string x.e.name) ∧ wr.drew.cell? ⟨b, o + i * 7 + 5, none⟩ = some (.int .i64 x.e.pw) ∧ wr.drew.cell? ⟨b, o + i * 7 + 6, none⟩ = some (.slice x.e.a x.e.l.length x.e.c) ∧ wr.drew.cell? ⟨b', o' + i * 7, none⟩ = some (.string y.name) ∧ wr.drew.cell? ⟨b', o' + i * 7 + 1, none⟩ = some (.int .i64 y.e.kind) ∧ wr.drew.cell? ⟨b', o' + i * 7 + 2, none⟩ = some (.int .i64 y.e.rn) ∧ wr.drew.cell? ⟨b', o' + i * 7 + 3, none⟩ = some (.int .i64 y.e.rd) ∧ wr.drew.cell? ⟨b', o' + i * 7 + 4, none⟩ = some (.string y.e.name) ∧ wr.drew.cell? ⟨b', o' + i * 7 + 5, none⟩ = some (.int .i64 y.e.pw) ∧ wr.drew.cell? ⟨b', o' + i * 7 + 6, none⟩ = some (.slice y.e.a y.e.l.length y.e.c) := keepc16 kd ⟨z5, y5, h0 0 _ rfl, h0 1 _ rfl, h0 2 _ rfl, h0 3 _ rfl, h0 4 _ rfl, h0 5 _ rfl, h0 6 _ rfl, h1 0 _ rfl, h1 1 _ rfl, h1 2 _ rfl, h1 3 _ rfl, h1 4 _ rfl, h1 5 _ rfl, h1 6 _ rfl⟩
        have hm2 := Hm.out
        rw [Hd.out, Hd'.out, List.zip_cons_cons, List.all_cons] at hm2
        have Hm2 := Lib.hid hm2
        have HX2 := Lib.hid (requal_any x.e y.e B _ (Ex.at_kp (HQA.out x hxm).2 ((HST.out.trans hkp).trans kd)) (Ex.at_kp (HQB.out y hym).2 ((HST.out.trans hkp).trans kd)))
        have KD := Lib.hid kd
        have qn : wr.cell? ⟨b, o + i * 7, none⟩ = some (.string x.name) := h0 0 _ rfl
        have pn : wr.cell? ⟨b', o' + i * 7, none⟩ = some (.string y.name) := h1 0 _ rfl
        clear hx hxm hkp hy hym hlt1 hlt2 hm2 kd h0 h1
        rw [ha, ha']
        have hpq : qeqB x y = (decide (x.name = y.name) && x.e.eqv y.e) := rfl
        by_cases c1 : x.name = y.name
        rotate_left
        · rw [decide_eq_false c1, Bool.false_and] at hpq
          have e1 : (x.name.toList == y.name.toList) = false := strNe c1
          have hm3 := Hm2.out
          rw [show qeqB (x, y).1 (x, y).2 = false from hpq, Bool.false_and] at hm3
          have Hm3 := Lib.hid hm3
          clear hm3 c1 hpq
          clear hSd
          go_upto_region 6 with fail
          go_quiet (fail)
          go_wp2
          go_ret
          exact ⟨ret_bool (by rw [HDQ.out, ← Hm3.out]), K1.out.trans (HST.out.trans (Hkp.out.trans ((Kp.refl wr).drewN _)))⟩
        rw [decide_eq_true c1, Bool.true_and] at hpq
        have e1 : (x.name.toList == y.name.toList) = true := by rw [c1]; exact beq_self_eq_true _
        clear c1 y5 qn pn
        go_upto_region 6 with fail
        clear z5
        go_region_held3 (fun w' => w'.cell? ⟨w.heap.size, 8, none⟩ = some (.slice (some ⟨b, o, none⟩) n a.c) ∧ w'.cell? ⟨w.heap.size + 1, 8, none⟩ = some (.slice (some ⟨b', o', none⟩) n' c.c) ∧ w'.cell? ⟨b, o + i * 7, none⟩ = some (.string x.name) ∧ w'.cell? ⟨b, o + i * 7 + 1, none⟩ = some (.int .i64 x.e.kind) ∧ w'.cell? ⟨b, o + i * 7 + 2, none⟩ = some (.int .i64 x.e.rn) ∧ w'.cell? ⟨b, o + i * 7 + 3, none⟩ = some (.int .i64 x.e.rd) ∧ w'.cell? ⟨b, o + i * 7 + 4, none⟩ = some (.string x.e.name) ∧ w'.cell? ⟨b, o + i * 7 + 5, none⟩ = some (.int .i64 x.e.pw) ∧ w'.cell? ⟨b, o + i * 7 + 6, none⟩ = some (.slice x.e.a x.e.l.length x.e.c) ∧ w'.cell? ⟨b', o' + i * 7, none⟩ = some (.string y.name) ∧ w'.cell? ⟨b', o' + i * 7 + 1, none⟩ = some (.int .i64 y.e.kind) ∧ w'.cell? ⟨b', o' + i * 7 + 2, none⟩ = some (.int .i64 y.e.rn) ∧ w'.cell? ⟨b', o' + i * 7 + 3, none⟩ = some (.int .i64 y.e.rd) ∧ w'.cell? ⟨b', o' + i * 7 + 4, none⟩ = some (.string y.e.name) ∧ w'.cell? ⟨b', o' + i * 7 + 5, none⟩ = some (.int .i64 y.e.pw) ∧ w'.cell? ⟨b', o' + i * 7 + 6, none⟩ = some (.slice y.e.a y.e.l.length y.e.c)) (first | with_reducible assumption | with_reducible exact keepc16 (by assumption) hSd | fail) (first
          | (go_at_call 11; go_fit HX2.out; rintro r w2 ⟨rfl, k2⟩)
          | fail)
        have hm3 := Hm2.out
        rw [show qeqB (x, y).1 (x, y).2 = x.e.eqv y.e from hpq] at hm3
        clear hpq
        cases hq : x.e.eqv y.e with
        | true =>
          rw [hq, Bool.true_and] at hm3
          have Hm3 := Lib.hid hm3
          clear hq hm3
          go_wp2
          go_roundw
          case rel => exact ⟨i + 1, by omega, by go_num, Hm3.out, Hkp.out.trans (KD.out.trans k2)⟩
          case measure => simp [intOf]; omega
        | false =>
          rw [hq, Bool.false_and] at hm3
          have Hm3 := Lib.hid hm3
          clear hq hm3
          go_wp2
          go_ret
          exact ⟨ret_bool (by rw [HDQ.out, ← Hm3.out]), K1.out.trans (HST.out.trans (Hkp.out.trans (KD.out.trans k2)))⟩
      · obtain rfl : i = n := by omega
        have hf := Hm.out
        rw [show (a.rs).drop i = [] from List.drop_eq_nil_of_le (by rw [Hn.out]; omega), List.zip_nil_left] at hf
        have Hf := Lib.hid hf
        clear hf y5
        go_wp2
        go_ret
        exact ⟨ret_bool (by rw [HDQ.out, ← Hf.out]; rfl), K1.out.trans (HST.out.trans hkp)⟩
set_option maxHeartbeats 8000000 in
set_option maxRecDepth 20000 in
theorem smode_any (a c : Mo) (B : Nat) (w : World) (ha : a.at w B) (hc : c.at w B) : Calls Tryz.prog 42 #[.agg #[.string a.name, .slice a.fa a.fs.length a.fc, .slice a.ea a.es.length a.ec], .agg #[.string c.name, .slice c.fa c.fs.length c.fc, .slice c.ea c.es.length c.ec]] w fun e w' => e = .returned (.bool (meqB a c)) ∧ Kp w w' := by
  generalize hbb : meqB a c = b0 at *
  have k1 : Kp w ((w.alloc (.cells #[.string a.name, .slice a.fa a.fs.length a.fc, .slice a.ea a.es.length a.ec] 61)).alloc (.cells #[.string c.name, .slice c.fa c.fs.length c.fc, .slice c.ea c.es.length c.ec] 61)) := ((Kp.refl w).alloc _).alloc _
  have h0 : CellsV ((w.alloc (.cells #[.string a.name, .slice a.fa a.fs.length a.fc, .slice a.ea a.es.length a.ec] 61)).alloc (.cells #[.string c.name, .slice c.fa c.fs.length c.fc, .slice c.ea c.es.length c.ec] 61)) w.heap.size 0 a.cells := (CellsV.new w a.cells _ _ rfl).kp ((Kp.refl _).alloc _)
  have h1 : CellsV ((w.alloc (.cells #[.string a.name, .slice a.fa a.fs.length a.fc, .slice a.ea a.es.length a.ec] 61)).alloc (.cells #[.string c.name, .slice c.fa c.fs.length c.fc, .slice c.ea c.es.length c.ec] 61)) (w.heap.size + 1) 0 c.cells := CellsV.new _ c.cells _ _ (by simp)
  go_enter Tryz.func42, Tryz.ntmps42
  go_upto_region 1 with fail
  generalize World.alloc _ _ = W at *
  have K1 := Lib.hid k1
  have H0 := Lib.hid h0
  have H1 := Lib.hid h1
  have hd : b0 = (decide (a.name = c.name) && (allW qeqB a.fs c.fs && allW xeqB a.es c.es)) := hbb.symm
  clear hbb
  have HR := Lib.hid (ha.2.1.1.kp k1)
  have HR' := Lib.hid (hc.2.1.1.kp k1)
  have HQA := Lib.hid fun q hq => Qe.at_kp (ha.2.1.2 q hq) k1
  have HQB := Lib.hid fun q hq => Qe.at_kp (hc.2.1.2 q hq) k1
  have HRB := Lib.hid (ha.2.2.1.kp k1)
  have HRB' := Lib.hid (hc.2.2.1.kp k1)
  have HQC := Lib.hid fun q hq => Ed.at_kp (ha.2.2.2 q hq) k1
  have HQD := Lib.hid fun q hq => Ed.at_kp (hc.2.2.2 q hq) k1
  have hlen := ha.1.2.1
  have hlen2 := ha.1.2.2
  have q0 : W.cell? ⟨w.heap.size, 0, none⟩ = some (.string a.name) := h0 0 _ rfl; have q1 : W.cell? ⟨w.heap.size, 1, none⟩ = some (.slice a.fa a.fs.length a.fc) := h0 1 _ rfl; have q2 : W.cell? ⟨w.heap.size, 2, none⟩ = some (.slice a.ea a.es.length a.ec) := h0 2 _ rfl
  have p0 : W.cell? ⟨(w.heap.size + 1), 0, none⟩ = some (.string c.name) := h1 0 _ rfl; have p1 : W.cell? ⟨(w.heap.size + 1), 1, none⟩ = some (.slice c.fa c.fs.length c.fc) := h1 1 _ rfl; have p2 : W.cell? ⟨(w.heap.size + 1), 2, none⟩ = some (.slice c.ea c.es.length c.ec) := h1 2 _ rfl
  clear h0 h1 k1 ha hc
  by_cases c1 : a.name = c.name
  rotate_left
  · rw [decide_eq_false c1, Bool.false_and] at hd
    have e1 : (a.name.toList == c.name.toList) = false := strNe c1
    subst hd
    clear c1
    go_wp2_with fail
    go_ret
    exact ⟨rfl, K1.out⟩
  rw [decide_eq_true c1, Bool.true_and] at hd
  have e1 : (a.name.toList == c.name.toList) = true := by rw [c1]; exact beq_self_eq_true _
  clear c1
  by_cases c2 : a.fs.length = c.fs.length
  rotate_left
  · rw [allW_len c2, Bool.false_and] at hd
    have e2 : ((a.fs.length : Int) != (c.fs.length : Int)) = true := bne_iff_ne.2 (by omega)
    subst hd
    clear c2
    go_wp2_with fail
    go_ret
    exact ⟨rfl, K1.out⟩
  have e2 : ((a.fs.length : Int) != (c.fs.length : Int)) = false := by rw [c2]; simp
  by_cases c3 : a.es.length = c.es.length
  rotate_left
  · rw [allW_len c3, Bool.and_false] at hd
    have e3 : ((a.es.length : Int) != (c.es.length : Int)) = true := bne_iff_ne.2 (by omega)
    subst hd
    clear c3 c2
    go_wp2_with fail
    go_ret
    exact ⟨rfl, K1.out⟩
  have e3 : ((a.es.length : Int) != (c.es.length : Int)) = false := by rw [c3]; simp
  obtain ⟨bq, hbq⟩ : ∃ bq, (a.fs.zip c.fs).all (fun z => qeqB z.1 z.2) = bq := ⟨_, rfl⟩
  obtain ⟨br, hbr⟩ : ∃ br, (a.es.zip c.es).all (fun z => xeqB z.1 z.2) = br := ⟨_, rfl⟩
  have hd2 : b0 = (bq && br) := by rw [hd, ← hbq, ← hbr]; unfold allW; rw [decide_eq_true c2, decide_eq_true c3, Bool.true_and, Bool.true_and]
  have HDQ := Lib.hid hd2
  have HZQ := Lib.hid hbq
  have HZR := Lib.hid hbr
  have C6 := Lib.hid c2
  have C7 := Lib.hid c3
  generalize hn : a.fs.length = n at *
  generalize hn' : c.fs.length = n' at *
  generalize hnb : a.es.length = nb at *
  generalize hnb' : c.es.length = nb' at *
  have Hn := Lib.hid hn
  have Hn' := Lib.hid hn'
  have HnB := Lib.hid hnb
  have HnB' := Lib.hid hnb'
  have HST := Lib.hid (Kp.refl W)
  clear hd hd2 hbq hbr c2 c3 hn hn' hnb hnb'
  go_upto_region 4 with fail
  clear q0 q1 q2 p0 p1 p2
  go_loopw [5] (fun v wr => ∃ i : Nat, i ≤ n ∧ v = .int .i64 (i : Int) ∧ (((a.fs).drop i).zip ((c.fs).drop i)).all (fun z => qeqB z.1 z.2) = bq ∧ Kp W wr) (fun v _ => n - (intOf v).toNat)
  case atStart => exact ⟨0, by omega, rfl, HZQ.out, .refl _⟩
  case round =>
    obtain ⟨i, hi, rfl, hm, hkp⟩ := hrel
    have Hm := Lib.hid hm; clear hm
    have hb1 := H0.out.kp (HST.out.trans hkp)
    have hb2 := H1.out.kp (HST.out.trans hkp)
    have z5 : wr.cell? ⟨w.heap.size, 1, none⟩ = some (.slice a.fa (a.fs).length a.fc) := hb1 1 _ rfl
    have y5 : wr.cell? ⟨w.heap.size + 1, 1, none⟩ = some (.slice c.fa (c.fs).length c.fc) := hb2 1 _ rfl
    rw [Hn.out] at z5
    rw [Hn'.out] at y5
    clear hb1 hb2
    by_cases hlt : i < n
    · have hlt1 : i < (a.fs).length := by rw [Hn.out]; exact hlt
      have hlt2 : i < (c.fs).length := by rw [Hn'.out, ← C6.out]; exact hlt
      have hlt3 : i < n' := by rw [← C6.out]; exact hlt
      obtain ⟨x, hx⟩ : ∃ x, (a.fs)[i]? = some x := ⟨_, List.getElem?_eq_getElem hlt1⟩
      obtain ⟨y, hy⟩ : ∃ y, (c.fs)[i]? = some y := ⟨_, List.getElem?_eq_getElem hlt2⟩
      have Hd := Lib.hid (show (a.fs).drop i = x :: (a.fs).drop (i + 1) from (List.drop_eq_getElem_cons hlt1).trans (by rw [(List.getElem?_eq_some_iff.1 hx).2]))
      have Hd' := Lib.hid (show (c.fs).drop i = y :: (c.fs).drop (i + 1) from (List.drop_eq_getElem_cons hlt2).trans (by rw [(List.getElem?_eq_some_iff.1 hy).2]))
      have hxm := List.mem_of_getElem? hx
      have hym := List.mem_of_getElem? hy
      obtain ⟨b, o, ha, _, h0⟩ := (HR.out.kp (HST.out.trans hkp)) i x hx
      obtain ⟨b', o', ha', _, h1⟩ := (HR'.out.kp (HST.out.trans hkp)) i y hy
      have Hkp := Lib.hid hkp
      rw [ha] at z5
      rw [ha'] at y5
      have kd := (Kp.refl wr).drew
      have hSd : wr.drew.cell? ⟨w.heap.size, 1, none⟩ = some (.slice (some ⟨b, o, none⟩) n a.fc) ∧ wr.drew.cell? ⟨w.heap.size + 1, 1, none⟩ = some (.slice (some ⟨b', o', none⟩) n' c.fc) ∧ wr.drew.cell? ⟨b, o + i * 7, none⟩ = some (.string x.name) ∧ wr.drew.cell? ⟨b, o + i * 7 + 1, none⟩ = some (.int .i64 x.e.kind) ∧ wr.drew.cell? ⟨b, o + i * 7 + 2, none⟩ = some (.int .i64 x.e.rn) ∧ wr.drew.cell? ⟨b, o + i * 7 + 3, none⟩ = some (.int .i64 x.e.rd) ∧ wr.drew.cell? ⟨b, o + i * 7 + 4, none⟩ = some (.string x.e.name) ∧ wr.drew.cell? ⟨b, o + i * 7 + 5, none⟩ = some (.int .i64 x.e.pw) ∧ wr.drew.cell? ⟨b, o + i * 7 + 6, none⟩ = some (.slice x.e.a x.e.l.length x.e.c) ∧ wr.drew.cell? ⟨b', o' + i * 7, none⟩ = some (.string y.name) ∧ wr.drew.cell? ⟨b', o' + i * 7 + 1, none⟩ = some (.int .i64 y.e.kind) ∧ wr.drew.cell? ⟨b', o' + i * 7 + 2, none⟩ = some (.int .i64 y.e.rn) ∧ wr.drew.cell? ⟨b', o' + i * 7 + 3, none⟩ = some (.int .i64 y.e.rd) ∧ wr.drew.cell? ⟨b', o' + i * 7 + 4, none⟩ = some (.string y.e.name) ∧ wr.drew.cell? ⟨b', o' + i * 7 + 5, none⟩ = some (.int .i64 y.e.pw) ∧ wr.drew.cell? ⟨b', o' + i * 7 + 6, none⟩ = some (.slice y.e.a y.e.l.length y.e.c) := keepc16 kd ⟨z5, y5, h0 0 _ rfl, h0 1 _ rfl, h0 2 _ rfl, h0 3 _ rfl, h0 4 _ rfl, h0 5 _ rfl, h0 6 _ rfl, h1 0 _ rfl, h1 1 _ rfl, h1 2 _ rfl, h1 3 _ rfl, h1 4 _ rfl, h1 5 _ rfl, h1 6 _ rfl⟩
      have hm2 := Hm.out
      rw [Hd.out, Hd'.out, List.zip_cons_cons, List.all_cons] at hm2
      have Hm2 := Lib.hid hm2
      have HX2 := Lib.hid (requal_any x.e y.e B _ (Ex.at_kp (HQA.out x hxm).2 ((HST.out.trans hkp).trans kd)) (Ex.at_kp (HQB.out y hym).2 ((HST.out.trans hkp).trans kd)))
      have KD := Lib.hid kd
      have qn : wr.cell? ⟨b, o + i * 7, none⟩ = some (.string x.name) := h0 0 _ rfl
      have pn : wr.cell? ⟨b', o' + i * 7, none⟩ = some (.string y.name) := h1 0 _ rfl
      clear hx hxm hkp hy hym hlt1 hlt2 hm2 kd h0 h1
      rw [ha, ha']
      have hpq : qeqB x y = (decide (x.name = y.name) && x.e.eqv y.e) := rfl
      by_cases c1 : x.name = y.name
      rotate_left
      · rw [decide_eq_false c1, Bool.false_and] at hpq
        have e1 : (x.name.toList == y.name.toList) = false := strNe c1
        have hm3 := Hm2.out
        rw [show qeqB (x, y).1 (x, y).2 = false from hpq, Bool.false_and] at hm3
        have Hm3 := Lib.hid hm3
        clear hm3 c1 hpq
        clear hSd
        go_upto_region 6 with fail
        go_quiet (fail)
        go_wp2
        go_ret
        exact ⟨ret_bool (by rw [HDQ.out, ← Hm3.out, Bool.false_and]), K1.out.trans (HST.out.trans (Hkp.out.trans ((Kp.refl wr).drewN _)))⟩
      rw [decide_eq_true c1, Bool.true_and] at hpq
      have e1 : (x.name.toList == y.name.toList) = true := by rw [c1]; exact beq_self_eq_true _
      clear c1 y5 qn pn
      go_upto_region 6 with fail
      clear z5
      go_region_held3 (fun w' => w'.cell? ⟨w.heap.size, 1, none⟩ = some (.slice (some ⟨b, o, none⟩) n a.fc) ∧ w'.cell? ⟨w.heap.size + 1, 1, none⟩ = some (.slice (some ⟨b', o', none⟩) n' c.fc) ∧ w'.cell? ⟨b, o + i * 7, none⟩ = some (.string x.name) ∧ w'.cell? ⟨b, o + i * 7 + 1, none⟩ = some (.int .i64 x.e.kind) ∧ w'.cell? ⟨b, o + i * 7 + 2, none⟩ = some (.int .i64 x.e.rn) ∧ w'.cell? ⟨b, o + i * 7 + 3, none⟩ = some (.int .i64 x.e.rd) ∧ w'.cell? ⟨b, o + i * 7 + 4, none⟩ = some (.string x.e.name) ∧ w'.cell? ⟨b, o + i * 7 + 5, none⟩ = some (.int .i64 x.e.pw) ∧ w'.cell? ⟨b, o + i * 7 + 6, none⟩ = some (.slice x.e.a x.e.l.length x.e.c) ∧ w'.cell? ⟨b', o' + i * 7, none⟩ = some (.string y.name) ∧ w'.cell? ⟨b', o' + i * 7 + 1, none⟩ = some (.int .i64 y.e.kind) ∧ w'.cell? ⟨b', o' + i * 7 + 2, none⟩ = some (.int .i64 y.e.rn) ∧ w'.cell? ⟨b', o' + i * 7 + 3, none⟩ = some (.int .i64 y.e.rd) ∧ w'.cell? ⟨b', o' + i * 7 + 4, none⟩ = some (.string y.e.name) ∧ w'.cell? ⟨b', o' + i * 7 + 5, none⟩ = some (.int .i64 y.e.pw) ∧ w'.cell? ⟨b', o' + i * 7 + 6, none⟩ = some (.slice y.e.a y.e.l.length y.e.c)) (first | with_reducible assumption | with_reducible exact keepc16 (by assumption) hSd | fail) (first
        | (go_at_call 11; go_fit HX2.out; rintro r w2 ⟨rfl, k2⟩)
        | fail)
      have hm3 := Hm2.out
      rw [show qeqB (x, y).1 (x, y).2 = x.e.eqv y.e from hpq] at hm3
      clear hpq
      cases hq : x.e.eqv y.e with
      | true =>
        rw [hq, Bool.true_and] at hm3
        have Hm3 := Lib.hid hm3
        clear hq hm3
        go_wp2
        go_roundw
        case rel => exact ⟨i + 1, by omega, by go_num, Hm3.out, Hkp.out.trans (KD.out.trans k2)⟩
        case measure => simp [intOf]; omega
      | false =>
        rw [hq, Bool.false_and] at hm3
        have Hm3 := Lib.hid hm3
        clear hq hm3
        go_wp2
        go_ret
        exact ⟨ret_bool (by rw [HDQ.out, ← Hm3.out, Bool.false_and]), K1.out.trans (HST.out.trans (Hkp.out.trans (KD.out.trans k2)))⟩
    · obtain rfl : i = n := by omega
      have hf := Hm.out
      rw [show (a.fs).drop i = [] from List.drop_eq_nil_of_le (by rw [Hn.out]; omega), List.zip_nil_left] at hf
      have Hf := Lib.hid hf
      clear hf y5
      have HF1 := Hf
      have HSU := Lib.hid (HST.out.trans hkp)
      obtain ⟨w8, hw8⟩ : ∃ w8 : World, w8 = wr := ⟨_, rfl⟩
      subst hw8
      clear hkp Hf
      go_wp2
      go_loopw [6] (fun v wr => ∃ i : Nat, i ≤ nb ∧ v = .int .i64 (i : Int) ∧ (((a.es).drop i).zip ((c.es).drop i)).all (fun z => xeqB z.1 z.2) = br ∧ Kp w8 wr) (fun v _ => nb - (intOf v).toNat)
      case atStart => exact ⟨0, by omega, rfl, HZR.out, .refl _⟩
      case round =>
        obtain ⟨i, hi, rfl, hm, hkp⟩ := hrel
        have Hm := Lib.hid hm; clear hm
        have hb1 := H0.out.kp (HSU.out.trans hkp)
        have hb2 := H1.out.kp (HSU.out.trans hkp)
        have z5 : wr.cell? ⟨w.heap.size, 2, none⟩ = some (.slice a.ea (a.es).length a.ec) := hb1 2 _ rfl
        have y5 : wr.cell? ⟨w.heap.size + 1, 2, none⟩ = some (.slice c.ea (c.es).length c.ec) := hb2 2 _ rfl
        rw [HnB.out] at z5
        rw [HnB'.out] at y5
        clear hb1 hb2
        by_cases hlt : i < nb
        · have hlt1 : i < (a.es).length := by rw [HnB.out]; exact hlt
          have hlt2 : i < (c.es).length := by rw [HnB'.out, ← C7.out]; exact hlt
          have hlt3 : i < nb' := by rw [← C7.out]; exact hlt
          obtain ⟨x, hx⟩ : ∃ x, (a.es)[i]? = some x := ⟨_, List.getElem?_eq_getElem hlt1⟩
          obtain ⟨y, hy⟩ : ∃ y, (c.es)[i]? = some y := ⟨_, List.getElem?_eq_getElem hlt2⟩
          have Hd := Lib.hid (show (a.es).drop i = x :: (a.es).drop (i + 1) from (List.drop_eq_getElem_cons hlt1).trans (by rw [(List.getElem?_eq_some_iff.1 hx).2]))
          have Hd' := Lib.hid (show (c.es).drop i = y :: (c.es).drop (i + 1) from (List.drop_eq_getElem_cons hlt2).trans (by rw [(List.getElem?_eq_some_iff.1 hy).2]))
          have hxm := List.mem_of_getElem? hx
          have hym := List.mem_of_getElem? hy
          obtain ⟨b, o, ha, _, h0⟩ := (HRB.out.kp (HSU.out.trans hkp)) i x hx
          obtain ⟨b', o', ha', _, h1⟩ := (HRB'.out.kp (HSU.out.trans hkp)) i y hy
          have Hkp := Lib.hid hkp
          rw [ha] at z5
          rw [ha'] at y5
          have kd := (Kp.refl wr).drew
          have hSd : wr.drew.cell? ⟨w.heap.size, 2, none⟩ = some (.slice (some ⟨b, o, none⟩) nb a.ec) ∧ wr.drew.cell? ⟨w.heap.size + 1, 2, none⟩ = some (.slice (some ⟨b', o', none⟩) nb' c.ec) ∧ wr.drew.cell? ⟨b, o + i * 9, none⟩ = some (.int .i64 x.g.kind) ∧ wr.drew.cell? ⟨b, o + i * 9 + 1, none⟩ = some (.int .i64 x.g.rn) ∧ wr.drew.cell? ⟨b, o + i * 9 + 2, none⟩ = some (.int .i64 x.g.rd) ∧ wr.drew.cell? ⟨b, o + i * 9 + 3, none⟩ = some (.string x.g.name) ∧ wr.drew.cell? ⟨b, o + i * 9 + 4, none⟩ = some (.int .i64 x.g.pw) ∧ wr.drew.cell? ⟨b, o + i * 9 + 5, none⟩ = some (.slice x.g.a x.g.l.length x.g.c) ∧ wr.drew.cell? ⟨b, o + i * 9 + 6, none⟩ = some (.int .i64 x.dir) ∧ wr.drew.cell? ⟨b, o + i * 9 + 7, none⟩ = some (.string x.tx) ∧ wr.drew.cell? ⟨b, o + i * 9 + 8, none⟩ = some (.slice x.a x.rs.length x.c) ∧ wr.drew.cell? ⟨b', o' + i * 9, none⟩ = some (.int .i64 y.g.kind) ∧ wr.drew.cell? ⟨b', o' + i * 9 + 1, none⟩ = some (.int .i64 y.g.rn) ∧ wr.drew.cell? ⟨b', o' + i * 9 + 2, none⟩ = some (.int .i64 y.g.rd) ∧ wr.drew.cell? ⟨b', o' + i * 9 + 3, none⟩ = some (.string y.g.name) ∧ wr.drew.cell? ⟨b', o' + i * 9 + 4, none⟩ = some (.int .i64 y.g.pw) ∧ wr.drew.cell? ⟨b', o' + i * 9 + 5, none⟩ = some (.slice y.g.a y.g.l.length y.g.c) ∧ wr.drew.cell? ⟨b', o' + i * 9 + 6, none⟩ = some (.int .i64 y.dir) ∧ wr.drew.cell? ⟨b', o' + i * 9 + 7, none⟩ = some (.string y.tx) ∧ wr.drew.cell? ⟨b', o' + i * 9 + 8, none⟩ = some (.slice y.a y.rs.length y.c) := keepc20 kd ⟨z5, y5, h0 0 _ rfl, h0 1 _ rfl, h0 2 _ rfl, h0 3 _ rfl, h0 4 _ rfl, h0 5 _ rfl, h0 6 _ rfl, h0 7 _ rfl, h0 8 _ rfl, h1 0 _ rfl, h1 1 _ rfl, h1 2 _ rfl, h1 3 _ rfl, h1 4 _ rfl, h1 5 _ rfl, h1 6 _ rfl, h1 7 _ rfl, h1 8 _ rfl⟩
          have hm2 := Hm.out
          rw [Hd.out, Hd'.out, List.zip_cons_cons, List.all_cons] at hm2
          have Hm2 := Lib.hid hm2
          have HX2 := Lib.hid (sedge_any x y B _ (Ed.at_kp (HQC.out x hxm) ((HSU.out.trans hkp).trans kd)) (Ed.at_kp (HQD.out y hym) ((HSU.out.trans hkp).trans kd)))
          have KD := Lib.hid kd
          clear hx hxm hkp hy hym hlt1 hlt2 hm2 kd h0 h1
          rw [ha, ha']
          clear y5
          go_upto_region 11 with fail
          clear z5
          go_region_held3 (fun w' => w'.cell? ⟨w.heap.size, 2, none⟩ = some (.slice (some ⟨b, o, none⟩) nb a.ec) ∧ w'.cell? ⟨w.heap.size + 1, 2, none⟩ = some (.slice (some ⟨b', o', none⟩) nb' c.ec) ∧ w'.cell? ⟨b, o + i * 9, none⟩ = some (.int .i64 x.g.kind) ∧ w'.cell? ⟨b, o + i * 9 + 1, none⟩ = some (.int .i64 x.g.rn) ∧ w'.cell? ⟨b, o + i * 9 + 2, none⟩ = some (.int .i64 x.g.rd) ∧ w'.cell? ⟨b, o + i * 9 + 3, none⟩ = some (.string x.g.name) ∧ w'.cell? ⟨b, o + i * 9 + 4, none⟩ = some (.int .i64 x.g.pw) ∧ w'.cell? ⟨b, o + i * 9 + 5, none⟩ = some (.slice x.g.a x.g.l.length x.g.c) ∧ w'.cell? ⟨b, o + i * 9 + 6, none⟩ = some (.int .i64 x.dir) ∧ w'.cell? ⟨b, o + i * 9 + 7, none⟩ = some (.string x.tx) ∧ w'.cell? ⟨b, o + i * 9 + 8, none⟩ = some (.slice x.a x.rs.length x.c) ∧ w'.cell? ⟨b', o' + i * 9, none⟩ = some (.int .i64 y.g.kind) ∧ w'.cell? ⟨b', o' + i * 9 + 1, none⟩ = some (.int .i64 y.g.rn) ∧ w'.cell? ⟨b', o' + i * 9 + 2, none⟩ = some (.int .i64 y.g.rd) ∧ w'.cell? ⟨b', o' + i * 9 + 3, none⟩ = some (.string y.g.name) ∧ w'.cell? ⟨b', o' + i * 9 + 4, none⟩ = some (.int .i64 y.g.pw) ∧ w'.cell? ⟨b', o' + i * 9 + 5, none⟩ = some (.slice y.g.a y.g.l.length y.g.c) ∧ w'.cell? ⟨b', o' + i * 9 + 6, none⟩ = some (.int .i64 y.dir) ∧ w'.cell? ⟨b', o' + i * 9 + 7, none⟩ = some (.string y.tx) ∧ w'.cell? ⟨b', o' + i * 9 + 8, none⟩ = some (.slice y.a y.rs.length y.c)) (first | with_reducible assumption | with_reducible exact keepc20 (by assumption) hSd | fail) (first
            | (go_at_call 72; go_fit HX2.out; rintro r w2 ⟨rfl, k2⟩)
            | fail)
          cases hq : xeqB x y with
          | true =>
            have hm3 := Hm2.out
            rw [show xeqB (x, y).1 (x, y).2 = true from hq, Bool.true_and] at hm3
            have Hm3 := Lib.hid hm3
            clear hq hm3
            go_wp2
            go_roundw
            case rel => exact ⟨i + 1, by omega, by go_num, Hm3.out, Hkp.out.trans (KD.out.trans k2)⟩
            case measure => simp [intOf]; omega
          | false =>
            have hm3 := Hm2.out
            rw [show xeqB (x, y).1 (x, y).2 = false from hq, Bool.false_and] at hm3
            have Hm3 := Lib.hid hm3
            clear hq hm3
            go_wp2
            go_ret
            exact ⟨ret_bool (by rw [HDQ.out, ← Hm3.out, Bool.and_false]), K1.out.trans (HSU.out.trans (Hkp.out.trans (KD.out.trans k2)))⟩
        · obtain rfl : i = nb := by omega
          have hf := Hm.out
          rw [show (a.es).drop i = [] from List.drop_eq_nil_of_le (by rw [HnB.out]; omega), List.zip_nil_left] at hf
          have Hf := Lib.hid hf
          clear hf y5
          go_wp2
          go_ret
          exact ⟨ret_bool (by rw [HDQ.out, ← HF1.out, ← Hf.out]; rfl), K1.out.trans (HSU.out.trans hkp)⟩
end Go.Proofs.YthaphbbeiglolaaGreat
