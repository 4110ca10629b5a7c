/-
  Walks: TreeValid.
-/
import Derived.Deep.RegionHeld3
import Derived.Test.YthaphbbeiglolaaGreatAwkW
import Derived.Test.YthaphbbeiglolaaGreatPrbR
namespace Go.Proofs.YthaphbbeiglolaaGreat
open Go.RowKit Go.Sort

theorem keep11 {w w' : World} (k : Kp w w') {p0 p1 p2 p3 p4 p5 q0 q1 q2 q3 q4 : Addr} {v0 v1 v2 v3 v4 v5 u0 u1 u2 u3 u4 : Value}
    (h : (w.cell? p0 = some v0 ∧ w.cell? p1 = some v1 ∧ w.cell? p2 = some v2 ∧ w.cell? p3 = some v3 ∧ w.cell? p4 = some v4 ∧ w.cell? p5 = some v5) ∧ (w.cell? q0 = some u0 ∧ w.cell? q1 = some u1 ∧ w.cell? q2 = some u2 ∧ w.cell? q3 = some u3 ∧ w.cell? q4 = some u4)) :
    (w'.cell? p0 = some v0 ∧ w'.cell? p1 = some v1 ∧ w'.cell? p2 = some v2 ∧ w'.cell? p3 = some v3 ∧ w'.cell? p4 = some v4 ∧ w'.cell? p5 = some v5) ∧ (w'.cell? q0 = some u0 ∧ w'.cell? q1 = some u1 ∧ w'.cell? q2 = some u2 ∧ w'.cell? q3 = some u3 ∧ w'.cell? q4 = some u4) :=
  ⟨keepE6 k h.1, k.cell h.2.1, k.cell h.2.2.1, k.cell h.2.2.2.1, k.cell h.2.2.2.2.1, k.cell h.2.2.2.2.2⟩
theorem cells5 {w : World} {b : Nat} {v0 v1 v2 v3 v4 : Value} (h : CellsV w b 0 [v0, v1, v2, v3, v4]) : w.cell? ⟨b, 0, none⟩ = some v0 ∧ w.cell? ⟨b, 1, none⟩ = some v1 ∧ w.cell? ⟨b, 2, none⟩ = some v2 ∧ w.cell? ⟨b, 3, none⟩ = some v3 ∧ w.cell? ⟨b, 4, none⟩ = some v4 :=
  ⟨h 0 _ rfl, h 1 _ rfl, h 2 _ rfl, h 3 _ rfl, h 4 _ rfl⟩
set_option maxHeartbeats 4000000 in
set_option maxRecDepth 100000 in
theorem Valid_ok (e : Ex) (p : Pr) (w : World) (hat : e.at w w.heap.size) (hap : p.at w w.heap.size) :
    Calls Tryz.prog 3 #[.agg #[.int .i64 e.kind, .int .i64 e.rn, .int .i64 e.rd, .string e.name, .int .i64 e.pw, .slice e.a e.l.length e.c], .agg #[.slice p.sa p.ss.length p.sc, .slice p.pa p.ps.length p.pc, .slice p.ma p.ms.length p.mc, .int .i64 p.tn, .int .i64 p.td]] w fun r w' => r = .returned (.bool true) ∧ Kp w w' := by
  have k1 : Kp w ((w.alloc (.cells #[.int .i64 e.kind, .int .i64 e.rn, .int .i64 e.rd, .string e.name, .int .i64 e.pw, .slice e.a e.l.length e.c] 26)).alloc (.cells #[.slice p.sa p.ss.length p.sc, .slice p.pa p.ps.length p.pc, .slice p.ma p.ms.length p.mc, .int .i64 p.tn, .int .i64 p.td] 30)) := ((Kp.refl w).alloc _).alloc _
  have hB1 : BoxX ((w.alloc (.cells #[.int .i64 e.kind, .int .i64 e.rn, .int .i64 e.rd, .string e.name, .int .i64 e.pw, .slice e.a e.l.length e.c] 26)).alloc (.cells #[.slice p.sa p.ss.length p.sc, .slice p.pa p.ps.length p.pc, .slice p.ma p.ms.length p.mc, .int .i64 p.tn, .int .i64 p.td] 30)) w.heap.size e := (BoxX.new w e _ rfl).kp ((Kp.refl _).alloc _)
  have hB2 : CellsV ((w.alloc (.cells #[.int .i64 e.kind, .int .i64 e.rn, .int .i64 e.rd, .string e.name, .int .i64 e.pw, .slice e.a e.l.length e.c] 26)).alloc (.cells #[.slice p.sa p.ss.length p.sc, .slice p.pa p.ps.length p.pc, .slice p.ma p.ms.length p.mc, .int .i64 p.tn, .int .i64 p.td] 30)) (w.heap.size + 1) 0 p.cells := CellsV.new _ p.cells _ _ (by simp)
  go_enter Tryz.func3, Tryz.ntmps3
  go_upto_region 1 with fail
  generalize World.alloc _ _ = W at *
  have KC := Lib.hid k1
  have HE := Lib.hid (Ex.at_kp hat k1)
  have HP := Lib.hid (Pr.at_kp hap k1)
  have HB1 := Lib.hid hB1
  have HB2 := Lib.hid hB2
  obtain ⟨hl1, hl2, hl3⟩ := hap.1
  clear hat hap hB1 hB2 k1
  go_upto_region 3 with (first | (go_at_call 5; go_fit (awake_one _); rintro r w1 ⟨rfl, k1⟩) | fail)
  have KC := Lib.hid (KC.out.trans k1)
  have HE := Lib.hid (Ex.at_kp HE.out k1)
  have HP := Lib.hid (Pr.at_kp HP.out k1)
  have HB1 := Lib.hid (HB1.out.kp k1)
  have HB2 := Lib.hid (HB2.out.kp k1)
  have hs1 : w.heap.size ≤ w1.heap.size := KC.out.size
  clear k1
  obtain ⟨⟨p0, p1, p2, p3, p4, p5⟩, _⟩ := id HB1.out
  have hb2 := HB2.out
  have q0 : w1.cell? ⟨(w.heap.size + 1), 0, none⟩ = some (.slice p.sa p.ss.length p.sc) := hb2 0 _ rfl; have q1 : w1.cell? ⟨(w.heap.size + 1), 1, none⟩ = some (.slice p.pa p.ps.length p.pc) := hb2 1 _ rfl; have q2 : w1.cell? ⟨(w.heap.size + 1), 2, none⟩ = some (.slice p.ma p.ms.length p.mc) := hb2 2 _ rfl; have q3 : w1.cell? ⟨(w.heap.size + 1), 3, none⟩ = some (.int .i64 p.tn) := hb2 3 _ rfl; have q4 : w1.cell? ⟨(w.heap.size + 1), 4, none⟩ = some (.int .i64 p.td) := hb2 4 _ rfl
  clear hb2
  by_cases hs : (100 : Int) < (p.ss.length : Int) + (p.ps.length : Int) + (p.ms.length : Int)
  · go_wp2
    go_ret
    exact ⟨rfl, KC.out⟩
  go_upto_region 5 with fail
  have HV1 := Lib.hid fun W' (k : Kp w1 W') => tvalid_any e w.heap.size W' (Ex.at_kp HE.out k) (Nat.le_trans hs1 k.size)
  have HV2 := Lib.hid fun W' (k : Kp w1 W') => rvalid13_any e w.heap.size W' (Ex.at_kp HE.out k)
  have HP1 := Lib.hid fun W' (k : Kp w1 W') => tproblem_any p W' w.heap.size (Pr.at_kp HP.out k) (Nat.le_trans hs1 k.size)
  have HP2 := Lib.hid fun W' (k : Kp w1 W') => rproblem_any p W' w.heap.size (Pr.at_kp HP.out k)
  generalize e.ok = eo at *
  generalize probB p = po at *
  have b1 : (eo == eo) = true := beq_self_eq_true _
  have b2 : (po == po) = true := beq_self_eq_true _
  have kd := (Kp.refl w1).drew
  have hSd := keep11 kd ⟨HB1.out.1, cells5 HB2.out⟩
  have KJ := Lib.hid kd
  clear p0 p1 p2 p3 p4 p5 q0 q1 q2 q3 q4 kd hs
  go_region_held3 (fun w' => (w'.cell? ⟨w.heap.size, 0, none⟩ = some (.int .i64 e.kind) ∧ w'.cell? ⟨w.heap.size, 1, none⟩ = some (.int .i64 e.rn) ∧ w'.cell? ⟨w.heap.size, 2, none⟩ = some (.int .i64 e.rd) ∧ w'.cell? ⟨w.heap.size, 3, none⟩ = some (.string e.name) ∧ w'.cell? ⟨w.heap.size, 4, none⟩ = some (.int .i64 e.pw) ∧ w'.cell? ⟨w.heap.size, 5, none⟩ = some (.slice e.a e.l.length e.c)) ∧ (w'.cell? ⟨w.heap.size + 1, 0, none⟩ = some (.slice p.sa p.ss.length p.sc) ∧ w'.cell? ⟨w.heap.size + 1, 1, none⟩ = some (.slice p.pa p.ps.length p.pc) ∧ w'.cell? ⟨w.heap.size + 1, 2, none⟩ = some (.slice p.ma p.ms.length p.mc) ∧ w'.cell? ⟨w.heap.size + 1, 3, none⟩ = some (.int .i64 p.tn) ∧ w'.cell? ⟨w.heap.size + 1, 4, none⟩ = some (.int .i64 p.td))) (first | with_reducible assumption | with_reducible exact keep11 (by assumption) (by assumption) | fail) (first
    | (go_at_call 6; go_fit (HV1.out _ KJ.out); rintro r w3 ⟨rfl, k3⟩; replace KJ := Lib.hid (KJ.out.trans k3))
    | (go_at_call 7; go_fit (HV2.out _ KJ.out); rintro r w4 ⟨rfl, k4⟩; replace KJ := Lib.hid (KJ.out.trans k4))
    | (go_at_call 8; go_fit (HP1.out _ KJ.out); rintro r w5 ⟨rfl, k5⟩; replace KJ := Lib.hid (KJ.out.trans k5))
    | (go_at_call 9; go_fit (HP2.out _ KJ.out); rintro r w6 ⟨rfl, k6⟩; replace KJ := Lib.hid (KJ.out.trans k6))
    | fail)
  go_wp2
  go_ret
  exact ⟨rfl, KC.out.trans KJ.out⟩
end Go.Proofs.YthaphbbeiglolaaGreat
