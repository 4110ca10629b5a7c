/-
  Walks: TreeEqual.
-/
import Derived.Deep.RegionHeld3
import Derived.Deep.CutRange
import Derived.Test.YthaphbbeiglolaaGreatMAwkW
import Derived.Test.YthaphbbeiglolaaGreatMSamN
namespace Go.Proofs.YthaphbbeiglolaaGreat
open Go.RowKit Go.Sort

theorem keepc22 {w w' : World} (k : Kp w w') {p0 p1 p2 p3 p4 p5 p6 p7 p8 p9 p10 p11 p12 p13 p14 p15 p16 p17 p18 p19 p20 p21 : Addr} {v0 v1 v2 v3 v4 v5 v6 v7 v8 v9 v10 v11 v12 v13 v14 v15 v16 v17 v18 v19 v20 v21 : Value} (h : w.cell? p0 = some v0 ∧ w.cell? p1 = some v1 ∧ w.cell? p2 = some v2 ∧ w.cell? p3 = some v3 ∧ w.cell? p4 = some v4 ∧ w.cell? p5 = some v5 ∧ w.cell? p6 = some v6 ∧ w.cell? p7 = some v7 ∧ w.cell? p8 = some v8 ∧ w.cell? p9 = some v9 ∧ w.cell? p10 = some v10 ∧ w.cell? p11 = some v11 ∧ w.cell? p12 = some v12 ∧ w.cell? p13 = some v13 ∧ w.cell? p14 = some v14 ∧ w.cell? p15 = some v15 ∧ w.cell? p16 = some v16 ∧ w.cell? p17 = some v17 ∧ w.cell? p18 = some v18 ∧ w.cell? p19 = some v19 ∧ w.cell? p20 = some v20 ∧ w.cell? p21 = some v21) : w'.cell? p0 = some v0 ∧ w'.cell? p1 = some v1 ∧ w'.cell? p2 = some v2 ∧ w'.cell? p3 = some v3 ∧ w'.cell? p4 = some v4 ∧ w'.cell? p5 = some v5 ∧ w'.cell? p6 = some v6 ∧ w'.cell? p7 = some v7 ∧ w'.cell? p8 = some v8 ∧ w'.cell? p9 = some v9 ∧ w'.cell? p10 = some v10 ∧ w'.cell? p11 = some v11 ∧ w'.cell? p12 = some v12 ∧ w'.cell? p13 = some v13 ∧ w'.cell? p14 = some v14 ∧ w'.cell? p15 = some v15 ∧ w'.cell? p16 = some v16 ∧ w'.cell? p17 = some v17 ∧ w'.cell? p18 = some v18 ∧ w'.cell? p19 = some v19 ∧ w'.cell? p20 = some v20 ∧ w'.cell? p21 = some v21 := ⟨k.cell h.1, k.cell h.2.1, k.cell h.2.2.1, k.cell h.2.2.2.1, k.cell h.2.2.2.2.1, k.cell h.2.2.2.2.2.1, k.cell h.2.2.2.2.2.2.1, k.cell h.2.2.2.2.2.2.2.1, k.cell h.2.2.2.2.2.2.2.2.1, k.cell h.2.2.2.2.2.2.2.2.2.1, k.cell h.2.2.2.2.2.2.2.2.2.2.1, k.cell h.2.2.2.2.2.2.2.2.2.2.2.1, k.cell h.2.2.2.2.2.2.2.2.2.2.2.2.1, k.cell h.2.2.2.2.2.2.2.2.2.2.2.2.2.1, k.cell h.2.2.2.2.2.2.2.2.2.2.2.2.2.2.1, k.cell h.2.2.2.2.2.2.2.2.2.2.2.2.2.2.2.1, k.cell h.2.2.2.2.2.2.2.2.2.2.2.2.2.2.2.2.1, k.cell h.2.2.2.2.2.2.2.2.2.2.2.2.2.2.2.2.2.1, k.cell h.2.2.2.2.2.2.2.2.2.2.2.2.2.2.2.2.2.2.1, k.cell h.2.2.2.2.2.2.2.2.2.2.2.2.2.2.2.2.2.2.2.1, k.cell h.2.2.2.2.2.2.2.2.2.2.2.2.2.2.2.2.2.2.2.2.1, k.cell h.2.2.2.2.2.2.2.2.2.2.2.2.2.2.2.2.2.2.2.2.2⟩
theorem eqO_self (a : Ex) : eqO a a = a.ok := by unfold eqO; rw [eqv_refl]; cases a.ok <;> rfl
theorem eqO_symm (a b : Ex) : eqO b a = eqO a b := by unfold eqO; rw [eqv_symm b a]; cases a.ok <;> cases b.ok <;> simp
theorem sameO_self (a : Pr) : sameO a a = probB a := by unfold sameO; rw [peqB_refl]; cases probB a <;> rfl
theorem sameO_symm (a b : Pr) : sameO b a = sameO a b := by unfold sameO; rw [peqB_symm b a]; cases probB a <;> cases probB b <;> simp
/-- the four boxes -/
def Box4 (w' w : World) (a b : Ex) (p q : Pr) : Prop := w'.cell? ⟨w.heap.size, 0, none⟩ = some (.int .i64 a.kind) ∧ w'.cell? ⟨w.heap.size, 1, none⟩ = some (.int .i64 a.rn) ∧ w'.cell? ⟨w.heap.size, 2, none⟩ = some (.int .i64 a.rd) ∧ w'.cell? ⟨w.heap.size, 3, none⟩ = some (.string a.name) ∧ w'.cell? ⟨w.heap.size, 4, none⟩ = some (.int .i64 a.pw) ∧ w'.cell? ⟨w.heap.size, 5, none⟩ = some (.slice a.a a.l.length a.c) ∧ w'.cell? ⟨w.heap.size + 1, 0, none⟩ = some (.int .i64 b.kind) ∧ w'.cell? ⟨w.heap.size + 1, 1, none⟩ = some (.int .i64 b.rn) ∧ w'.cell? ⟨w.heap.size + 1, 2, none⟩ = some (.int .i64 b.rd) ∧ w'.cell? ⟨w.heap.size + 1, 3, none⟩ = some (.string b.name) ∧ w'.cell? ⟨w.heap.size + 1, 4, none⟩ = some (.int .i64 b.pw) ∧ w'.cell? ⟨w.heap.size + 1, 5, none⟩ = some (.slice b.a b.l.length b.c) ∧ w'.cell? ⟨w.heap.size + 1 + 1, 0, none⟩ = some (.slice p.sa p.ss.length p.sc) ∧ w'.cell? ⟨w.heap.size + 1 + 1, 1, none⟩ = some (.slice p.pa p.ps.length p.pc) ∧ w'.cell? ⟨w.heap.size + 1 + 1, 2, none⟩ = some (.slice p.ma p.ms.length p.mc) ∧ w'.cell? ⟨w.heap.size + 1 + 1, 3, none⟩ = some (.int .i64 p.tn) ∧ w'.cell? ⟨w.heap.size + 1 + 1, 4, none⟩ = some (.int .i64 p.td) ∧ w'.cell? ⟨w.heap.size + 1 + 1 + 1, 0, none⟩ = some (.slice q.sa q.ss.length q.sc) ∧ w'.cell? ⟨w.heap.size + 1 + 1 + 1, 1, none⟩ = some (.slice q.pa q.ps.length q.pc) ∧ w'.cell? ⟨w.heap.size + 1 + 1 + 1, 2, none⟩ = some (.slice q.ma q.ms.length q.mc) ∧ w'.cell? ⟨w.heap.size + 1 + 1 + 1, 3, none⟩ = some (.int .i64 q.tn) ∧ w'.cell? ⟨w.heap.size + 1 + 1 + 1, 4, none⟩ = some (.int .i64 q.td)
theorem Box4.kp {w' v w : World} {a b : Ex} {p q : Pr} (h : Box4 w' w a b p q) (k : Kp w' v) : Box4 v w a b p q := keepc22 k h
set_option maxHeartbeats 8000000 in
set_option maxRecDepth 100000 in
theorem Equal_ok (a b : Ex) (p q : Pr) (w : World) (hat : a.at w w.heap.size) (hbt : b.at w w.heap.size) (hpt : p.at w w.heap.size) (hqt : q.at w w.heap.size) :
    Calls Tryz.prog 4 #[.agg #[.int .i64 a.kind, .int .i64 a.rn, .int .i64 a.rd, .string a.name, .int .i64 a.pw, .slice a.a a.l.length a.c], .agg #[.int .i64 b.kind, .int .i64 b.rn, .int .i64 b.rd, .string b.name, .int .i64 b.pw, .slice b.a b.l.length b.c], .agg #[.slice p.sa p.ss.length p.sc, .slice p.pa p.ps.length p.pc, .slice p.ma p.ms.length p.mc, .int .i64 p.tn, .int .i64 p.td], .agg #[.slice q.sa q.ss.length q.sc, .slice q.pa q.ps.length q.pc, .slice q.ma q.ms.length q.mc, .int .i64 q.tn, .int .i64 q.td]] w fun r w' => r = .returned (.bool true) ∧ Kp w w' := by
  have k1 : Kp w ((((w.alloc (.cells #[.int .i64 a.kind, .int .i64 a.rn, .int .i64 a.rd, .string a.name, .int .i64 a.pw, .slice a.a a.l.length a.c] 26)).alloc (.cells #[.int .i64 b.kind, .int .i64 b.rn, .int .i64 b.rd, .string b.name, .int .i64 b.pw, .slice b.a b.l.length b.c] 26)).alloc (.cells #[.slice p.sa p.ss.length p.sc, .slice p.pa p.ps.length p.pc, .slice p.ma p.ms.length p.mc, .int .i64 p.tn, .int .i64 p.td] 30)).alloc (.cells #[.slice q.sa q.ss.length q.sc, .slice q.pa q.ps.length q.pc, .slice q.ma q.ms.length q.mc, .int .i64 q.tn, .int .i64 q.td] 30)) := ((((Kp.refl w).alloc _).alloc _).alloc _).alloc _
  have hB : Box4 ((((w.alloc (.cells #[.int .i64 a.kind, .int .i64 a.rn, .int .i64 a.rd, .string a.name, .int .i64 a.pw, .slice a.a a.l.length a.c] 26)).alloc (.cells #[.int .i64 b.kind, .int .i64 b.rn, .int .i64 b.rd, .string b.name, .int .i64 b.pw, .slice b.a b.l.length b.c] 26)).alloc (.cells #[.slice p.sa p.ss.length p.sc, .slice p.pa p.ps.length p.pc, .slice p.ma p.ms.length p.mc, .int .i64 p.tn, .int .i64 p.td] 30)).alloc (.cells #[.slice q.sa q.ss.length q.sc, .slice q.pa q.ps.length q.pc, .slice q.ma q.ms.length q.mc, .int .i64 q.tn, .int .i64 q.td] 30)) w a b p q := by
    obtain ⟨⟨a0, a1, a2, a3, a4, a5⟩, _⟩ := (BoxX.new w a _ rfl).kp (((Kp.refl (w.alloc (.cells #[.int .i64 a.kind, .int .i64 a.rn, .int .i64 a.rd, .string a.name, .int .i64 a.pw, .slice a.a a.l.length a.c] 26))).alloc (.cells #[.int .i64 b.kind, .int .i64 b.rn, .int .i64 b.rd, .string b.name, .int .i64 b.pw, .slice b.a b.l.length b.c] 26)).alloc (.cells #[.slice p.sa p.ss.length p.sc, .slice p.pa p.ps.length p.pc, .slice p.ma p.ms.length p.mc, .int .i64 p.tn, .int .i64 p.td] 30) |>.alloc (.cells #[.slice q.sa q.ss.length q.sc, .slice q.pa q.ps.length q.pc, .slice q.ma q.ms.length q.mc, .int .i64 q.tn, .int .i64 q.td] 30))
    obtain ⟨⟨b0, b1, b2, b3, b4, b5⟩, _⟩ := (BoxX.new (w.alloc (.cells #[.int .i64 a.kind, .int .i64 a.rn, .int .i64 a.rd, .string a.name, .int .i64 a.pw, .slice a.a a.l.length a.c] 26)) b (w.heap.size + 1) (by simp)).kp (((Kp.refl _).alloc (.cells #[.slice p.sa p.ss.length p.sc, .slice p.pa p.ps.length p.pc, .slice p.ma p.ms.length p.mc, .int .i64 p.tn, .int .i64 p.td] 30)).alloc (.cells #[.slice q.sa q.ss.length q.sc, .slice q.pa q.ps.length q.pc, .slice q.ma q.ms.length q.mc, .int .i64 q.tn, .int .i64 q.td] 30))
    have hp := (CellsV.new ((w.alloc (.cells #[.int .i64 a.kind, .int .i64 a.rn, .int .i64 a.rd, .string a.name, .int .i64 a.pw, .slice a.a a.l.length a.c] 26)).alloc (.cells #[.int .i64 b.kind, .int .i64 b.rn, .int .i64 b.rd, .string b.name, .int .i64 b.pw, .slice b.a b.l.length b.c] 26)) p.cells 30 (w.heap.size + 1 + 1) (by simp)).kp ((Kp.refl _).alloc (.cells #[.slice q.sa q.ss.length q.sc, .slice q.pa q.ps.length q.pc, .slice q.ma q.ms.length q.mc, .int .i64 q.tn, .int .i64 q.td] 30))
    have hq := CellsV.new (((w.alloc (.cells #[.int .i64 a.kind, .int .i64 a.rn, .int .i64 a.rd, .string a.name, .int .i64 a.pw, .slice a.a a.l.length a.c] 26)).alloc (.cells #[.int .i64 b.kind, .int .i64 b.rn, .int .i64 b.rd, .string b.name, .int .i64 b.pw, .slice b.a b.l.length b.c] 26)).alloc (.cells #[.slice p.sa p.ss.length p.sc, .slice p.pa p.ps.length p.pc, .slice p.ma p.ms.length p.mc, .int .i64 p.tn, .int .i64 p.td] 30)) q.cells 30 (w.heap.size + 1 + 1 + 1) (by simp)
    exact ⟨a0, a1, a2, a3, a4, a5, b0, b1, b2, b3, b4, b5, hp 0 _ rfl, hp 1 _ rfl, hp 2 _ rfl, hp 3 _ rfl, hp 4 _ rfl, hq 0 _ rfl, hq 1 _ rfl, hq 2 _ rfl, hq 3 _ rfl, hq 4 _ rfl⟩
  go_enter Tryz.func4, Tryz.ntmps4
  go_upto_region 1 with fail
  generalize World.alloc _ _ = W at *
  obtain ⟨hl1, hl2, hl3⟩ := hpt.1
  obtain ⟨hm1, hm2, hm3⟩ := hqt.1
  have KC := Lib.hid k1
  have HA := Lib.hid (Ex.at_kp hat k1)
  have HB := Lib.hid (Ex.at_kp hbt k1)
  have HP := Lib.hid (Pr.at_kp hpt k1)
  have HQ := Lib.hid (Pr.at_kp hqt k1)
  have HBX := Lib.hid hB
  clear hat hbt hpt hqt hB k1
  go_upto_region 3 with (first | (go_at_call 5; go_fit (awake_one _); rintro r w1 ⟨rfl, k1⟩) | fail)
  have KC := Lib.hid (KC.out.trans k1)
  have HA := Lib.hid (Ex.at_kp HA.out k1)
  have HB := Lib.hid (Ex.at_kp HB.out k1)
  have HP := Lib.hid (Pr.at_kp HP.out k1)
  have HQ := Lib.hid (Pr.at_kp HQ.out k1)
  have HBX := Lib.hid (HBX.out.kp k1)
  have hs1 : w.heap.size ≤ w1.heap.size := KC.out.size
  clear k1
  have hbx := HBX.out
  obtain ⟨x0, x1, x2, x3, x4, x5, x6, x7, x8, x9, x10, x11, x12, x13, x14, x15, x16, x17, x18, x19, x20, x21⟩ := hbx
  by_cases hs : (100 : Int) < (p.ss.length : Int) + (p.ps.length : Int) + (p.ms.length : Int) + (q.ss.length : Int) + (q.ps.length : Int) + (q.ms.length : Int)
  · clear HA HB HP HQ
    go_wp2
    go_ret
    exact ⟨rfl, KC.out⟩
  go_upto_region 5 with fail
  clear x0 x1 x2 x3 x4 x5 x6 x7 x8 x9 x10 x11 x12 x13 x14 x15 x16 x17 x18 x19 x20 x21 hs
  have HV1 := Lib.hid fun W' (k : Kp w1 W') => rvalid13_any a w.heap.size W' (Ex.at_kp HA.out k)
  have HV2 := Lib.hid fun W' (k : Kp w1 W') => rvalid13_any b w.heap.size W' (Ex.at_kp HB.out k)
  have HV3 := Lib.hid fun W' (k : Kp w1 W') => rproblem_any p W' w.heap.size (Pr.at_kp HP.out k)
  have HV4 := Lib.hid fun W' (k : Kp w1 W') => rproblem_any q W' w.heap.size (Pr.at_kp HQ.out k)
  have HE1 := Lib.hid fun W' (k : Kp w1 W') => tequal_any a b w.heap.size W' (Ex.at_kp HA.out k) (Ex.at_kp HB.out k) (Nat.le_trans hs1 k.size)
  have HE2 := fun W' (k : Kp w1 W') => tequal_any b a w.heap.size W' (Ex.at_kp HB.out k) (Ex.at_kp HA.out k) (Nat.le_trans hs1 k.size)
  have HE3 := fun W' (k : Kp w1 W') => tequal_any a a w.heap.size W' (Ex.at_kp HA.out k) (Ex.at_kp HA.out k) (Nat.le_trans hs1 k.size)
  have HE4 := Lib.hid fun W' (k : Kp w1 W') => requal_any a b w.heap.size W' (Ex.at_kp HA.out k) (Ex.at_kp HB.out k)
  have HS1 := Lib.hid fun W' (k : Kp w1 W') => tsame_any p q W' w.heap.size (Pr.at_kp HP.out k) (Pr.at_kp HQ.out k) (Nat.le_trans hs1 k.size)
  have HS2 := fun W' (k : Kp w1 W') => tsame_any q p W' w.heap.size (Pr.at_kp HQ.out k) (Pr.at_kp HP.out k) (Nat.le_trans hs1 k.size)
  have HS3 := fun W' (k : Kp w1 W') => tsame_any p p W' w.heap.size (Pr.at_kp HP.out k) (Pr.at_kp HP.out k) (Nat.le_trans hs1 k.size)
  have HS4 := Lib.hid fun W' (k : Kp w1 W') => rsame_any p q W' w.heap.size (Pr.at_kp HP.out k) (Pr.at_kp HQ.out k)
  rw [eqO_symm] at HE2
  rw [eqO_self] at HE3
  rw [sameO_symm] at HS2
  rw [sameO_self] at HS3
  have HE2 := Lib.hid HE2
  have HE3 := Lib.hid HE3
  have HS2 := Lib.hid HS2
  have HS3 := Lib.hid HS3
  have HEQ := Lib.hid (show eqO a b = (a.ok && (b.ok && a.eqv b)) from rfl)
  have HSQ := Lib.hid (show sameO p q = (probB p && (probB q && peqB p q)) from rfl)
  generalize eqO a b = ee at *
  generalize sameO p q = se at *
  generalize a.ok = ao at *
  generalize b.ok = bo at *
  generalize probB p = po at *
  generalize probB q = qo at *
  generalize a.eqv b = ev at *
  generalize peqB p q = pv at *
  have hSd := (HBX.out.kp (Kp.refl w1).drew)
  have KJ := Lib.hid (Kp.refl w1).drew
  unfold Box4 at hSd
  go_region_held3 (fun w' => w'.cell? ⟨w.heap.size, 0, none⟩ = some (.int .i64 a.kind) ∧ w'.cell? ⟨w.heap.size, 1, none⟩ = some (.int .i64 a.rn) ∧ w'.cell? ⟨w.heap.size, 2, none⟩ = some (.int .i64 a.rd) ∧ w'.cell? ⟨w.heap.size, 3, none⟩ = some (.string a.name) ∧ w'.cell? ⟨w.heap.size, 4, none⟩ = some (.int .i64 a.pw) ∧ w'.cell? ⟨w.heap.size, 5, none⟩ = some (.slice a.a a.l.length a.c) ∧ w'.cell? ⟨w.heap.size + 1, 0, none⟩ = some (.int .i64 b.kind) ∧ w'.cell? ⟨w.heap.size + 1, 1, none⟩ = some (.int .i64 b.rn) ∧ w'.cell? ⟨w.heap.size + 1, 2, none⟩ = some (.int .i64 b.rd) ∧ w'.cell? ⟨w.heap.size + 1, 3, none⟩ = some (.string b.name) ∧ w'.cell? ⟨w.heap.size + 1, 4, none⟩ = some (.int .i64 b.pw) ∧ w'.cell? ⟨w.heap.size + 1, 5, none⟩ = some (.slice b.a b.l.length b.c) ∧ w'.cell? ⟨w.heap.size + 1 + 1, 0, none⟩ = some (.slice p.sa p.ss.length p.sc) ∧ w'.cell? ⟨w.heap.size + 1 + 1, 1, none⟩ = some (.slice p.pa p.ps.length p.pc) ∧ w'.cell? ⟨w.heap.size + 1 + 1, 2, none⟩ = some (.slice p.ma p.ms.length p.mc) ∧ w'.cell? ⟨w.heap.size + 1 + 1, 3, none⟩ = some (.int .i64 p.tn) ∧ w'.cell? ⟨w.heap.size + 1 + 1, 4, none⟩ = some (.int .i64 p.td) ∧ w'.cell? ⟨w.heap.size + 1 + 1 + 1, 0, none⟩ = some (.slice q.sa q.ss.length q.sc) ∧ w'.cell? ⟨w.heap.size + 1 + 1 + 1, 1, none⟩ = some (.slice q.pa q.ps.length q.pc) ∧ w'.cell? ⟨w.heap.size + 1 + 1 + 1, 2, none⟩ = some (.slice q.ma q.ms.length q.mc) ∧ w'.cell? ⟨w.heap.size + 1 + 1 + 1, 3, none⟩ = some (.int .i64 q.tn) ∧ w'.cell? ⟨w.heap.size + 1 + 1 + 1, 4, none⟩ = some (.int .i64 q.td)) (first | with_reducible assumption | with_reducible exact keepc22 (by assumption) (by assumption) | fail) (first
    | (go_at_call 7; go_fit (HV1.out _ KJ.out); rintro r w2 ⟨rfl, k2⟩; replace KJ := Lib.hid (KJ.out.trans k2))
    | (go_at_call 7; go_fit (HV2.out _ KJ.out); rintro r w3 ⟨rfl, k3⟩; replace KJ := Lib.hid (KJ.out.trans k3))
    | fail)
  go_upto_region 6 with fail
  have hSd := HBX.out.kp (KJ.out.trans (Kp.refl _).drew)
  replace KJ := Lib.hid (KJ.out.trans (Kp.refl _).drew)
  unfold Box4 at hSd
  go_region_held3 (fun w' => w'.cell? ⟨w.heap.size, 0, none⟩ = some (.int .i64 a.kind) ∧ w'.cell? ⟨w.heap.size, 1, none⟩ = some (.int .i64 a.rn) ∧ w'.cell? ⟨w.heap.size, 2, none⟩ = some (.int .i64 a.rd) ∧ w'.cell? ⟨w.heap.size, 3, none⟩ = some (.string a.name) ∧ w'.cell? ⟨w.heap.size, 4, none⟩ = some (.int .i64 a.pw) ∧ w'.cell? ⟨w.heap.size, 5, none⟩ = some (.slice a.a a.l.length a.c) ∧ w'.cell? ⟨w.heap.size + 1, 0, none⟩ = some (.int .i64 b.kind) ∧ w'.cell? ⟨w.heap.size + 1, 1, none⟩ = some (.int .i64 b.rn) ∧ w'.cell? ⟨w.heap.size + 1, 2, none⟩ = some (.int .i64 b.rd) ∧ w'.cell? ⟨w.heap.size + 1, 3, none⟩ = some (.string b.name) ∧ w'.cell? ⟨w.heap.size + 1, 4, none⟩ = some (.int .i64 b.pw) ∧ w'.cell? ⟨w.heap.size + 1, 5, none⟩ = some (.slice b.a b.l.length b.c) ∧ w'.cell? ⟨w.heap.size + 1 + 1, 0, none⟩ = some (.slice p.sa p.ss.length p.sc) ∧ w'.cell? ⟨w.heap.size + 1 + 1, 1, none⟩ = some (.slice p.pa p.ps.length p.pc) ∧ w'.cell? ⟨w.heap.size + 1 + 1, 2, none⟩ = some (.slice p.ma p.ms.length p.mc) ∧ w'.cell? ⟨w.heap.size + 1 + 1, 3, none⟩ = some (.int .i64 p.tn) ∧ w'.cell? ⟨w.heap.size + 1 + 1, 4, none⟩ = some (.int .i64 p.td) ∧ w'.cell? ⟨w.heap.size + 1 + 1 + 1, 0, none⟩ = some (.slice q.sa q.ss.length q.sc) ∧ w'.cell? ⟨w.heap.size + 1 + 1 + 1, 1, none⟩ = some (.slice q.pa q.ps.length q.pc) ∧ w'.cell? ⟨w.heap.size + 1 + 1 + 1, 2, none⟩ = some (.slice q.ma q.ms.length q.mc) ∧ w'.cell? ⟨w.heap.size + 1 + 1 + 1, 3, none⟩ = some (.int .i64 q.tn) ∧ w'.cell? ⟨w.heap.size + 1 + 1 + 1, 4, none⟩ = some (.int .i64 q.td)) (first | with_reducible assumption | with_reducible exact keepc22 (by assumption) (by assumption) | fail) (first
    | (go_at_call 9; go_fit (HV3.out _ KJ.out); rintro r w4 ⟨rfl, k4⟩; replace KJ := Lib.hid (KJ.out.trans k4))
    | (go_at_call 9; go_fit (HV4.out _ KJ.out); rintro r w5 ⟨rfl, k5⟩; replace KJ := Lib.hid (KJ.out.trans k5))
    | fail)
  clear HV1 HV2 HV3 HV4
  go_upto_region 7 with fail
  have hbx := HBX.out.kp KJ.out
  obtain ⟨y0, y1, y2, y3, y4, y5, y6, y7, y8, y9, y10, y11, y12, y13, y14, y15, y16, y17, y18, y19, y20, y21⟩ := hbx
  go_cut [74] from 47 to 75 (fun s wx => s = .bool false ∧ Kp w1 wx)
  case first =>
    have n1 : (ev != ev) = false := by simp
    have n2 : (pv != pv) = false := by simp
    cases ao <;> cases bo <;> cases po <;> cases qo
    all_goals
      have he := HEQ.out
      have hs := HSQ.out
      simp only [Bool.false_and, Bool.true_and, Bool.and_false] at he hs
      subst he
      subst hs
      go_wp2_with (first
        | (go_at_call 10; go_fit (HE1.out _ KJ.out); rintro r w6 ⟨rfl, k6⟩; replace KJ := Lib.hid (KJ.out.trans k6); have hbx := HBX.out.kp KJ.out; obtain ⟨z0, z1, z2, z3, z4, z5, z6, z7, z8, z9, z10, z11, z12, z13, z14, z15, z16, z17, z18, z19, z20, z21⟩ := hbx)
        | (go_at_call 11; go_fit (HE4.out _ KJ.out); rintro r w7 ⟨rfl, k7⟩; replace KJ := Lib.hid (KJ.out.trans k7); have hbx := HBX.out.kp KJ.out; obtain ⟨u0, u1, u2, u3, u4, u5, u6, u7, u8, u9, u10, u11, u12, u13, u14, u15, u16, u17, u18, u19, u20, u21⟩ := hbx)
        | (go_at_call 12; go_fit (HS1.out _ KJ.out); rintro r w8 ⟨rfl, k8⟩; replace KJ := Lib.hid (KJ.out.trans k8); have hbx := HBX.out.kp KJ.out; obtain ⟨v0, v1, v2, v3, v4, v5, v6, v7, v8, v9, v10, v11, v12, v13, v14, v15, v16, v17, v18, v19, v20, v21⟩ := hbx)
        | (go_at_call 13; go_fit (HS4.out _ KJ.out); rintro r w9 ⟨rfl, k9⟩; replace KJ := Lib.hid (KJ.out.trans k9))
        | fail)
      go_meet
      case rel => exact ⟨rfl, KJ.out⟩
  case rest =>
    obtain ⟨rfl, kc⟩ := hcut
    clear y0 y1 y2 y3 y4 y5 y6 y7 y8 y9 y10 y11 y12 y13 y14 y15 y16 y17 y18 y19 y20 y21 HE4 HS4 HEQ HSQ
    go_upto_region 9 with fail
    have hSd := HBX.out.kp (kc.trans (Kp.refl _).drew)
    have KJ := Lib.hid (kc.trans (Kp.refl _).drew)
    unfold Box4 at hSd
    have b1 : (ao == ao) = true := beq_self_eq_true _
    have b2 : (po == po) = true := beq_self_eq_true _
    have b3 : (ee == ee) = true := beq_self_eq_true _
    have b4 : (se == se) = true := beq_self_eq_true _
    clear kc
    go_region_held3 (fun w' => w'.cell? ⟨w.heap.size, 0, none⟩ = some (.int .i64 a.kind) ∧ w'.cell? ⟨w.heap.size, 1, none⟩ = some (.int .i64 a.rn) ∧ w'.cell? ⟨w.heap.size, 2, none⟩ = some (.int .i64 a.rd) ∧ w'.cell? ⟨w.heap.size, 3, none⟩ = some (.string a.name) ∧ w'.cell? ⟨w.heap.size, 4, none⟩ = some (.int .i64 a.pw) ∧ w'.cell? ⟨w.heap.size, 5, none⟩ = some (.slice a.a a.l.length a.c) ∧ w'.cell? ⟨w.heap.size + 1, 0, none⟩ = some (.int .i64 b.kind) ∧ w'.cell? ⟨w.heap.size + 1, 1, none⟩ = some (.int .i64 b.rn) ∧ w'.cell? ⟨w.heap.size + 1, 2, none⟩ = some (.int .i64 b.rd) ∧ w'.cell? ⟨w.heap.size + 1, 3, none⟩ = some (.string b.name) ∧ w'.cell? ⟨w.heap.size + 1, 4, none⟩ = some (.int .i64 b.pw) ∧ w'.cell? ⟨w.heap.size + 1, 5, none⟩ = some (.slice b.a b.l.length b.c) ∧ w'.cell? ⟨w.heap.size + 1 + 1, 0, none⟩ = some (.slice p.sa p.ss.length p.sc) ∧ w'.cell? ⟨w.heap.size + 1 + 1, 1, none⟩ = some (.slice p.pa p.ps.length p.pc) ∧ w'.cell? ⟨w.heap.size + 1 + 1, 2, none⟩ = some (.slice p.ma p.ms.length p.mc) ∧ w'.cell? ⟨w.heap.size + 1 + 1, 3, none⟩ = some (.int .i64 p.tn) ∧ w'.cell? ⟨w.heap.size + 1 + 1, 4, none⟩ = some (.int .i64 p.td) ∧ w'.cell? ⟨w.heap.size + 1 + 1 + 1, 0, none⟩ = some (.slice q.sa q.ss.length q.sc) ∧ w'.cell? ⟨w.heap.size + 1 + 1 + 1, 1, none⟩ = some (.slice q.pa q.ps.length q.pc) ∧ w'.cell? ⟨w.heap.size + 1 + 1 + 1, 2, none⟩ = some (.slice q.ma q.ms.length q.mc) ∧ w'.cell? ⟨w.heap.size + 1 + 1 + 1, 3, none⟩ = some (.int .i64 q.tn) ∧ w'.cell? ⟨w.heap.size + 1 + 1 + 1, 4, none⟩ = some (.int .i64 q.td)) (first | with_reducible assumption | with_reducible exact keepc22 (by assumption) (by assumption) | fail) (first
      | (go_at_call 10; go_fit (HE3.out _ KJ.out); rintro r w6 ⟨rfl, k6⟩; replace KJ := Lib.hid (KJ.out.trans k6))
      | (go_at_call 10; go_fit (HE1.out _ KJ.out); rintro r w7 ⟨rfl, k7⟩; replace KJ := Lib.hid (KJ.out.trans k7))
      | (go_at_call 10; go_fit (HE2.out _ KJ.out); rintro r w8 ⟨rfl, k8⟩; replace KJ := Lib.hid (KJ.out.trans k8))
      | (go_at_call 12; go_fit (HS3.out _ KJ.out); rintro r w9 ⟨rfl, k9⟩; replace KJ := Lib.hid (KJ.out.trans k9))
      | (go_at_call 12; go_fit (HS1.out _ KJ.out); rintro r w10 ⟨rfl, k10⟩; replace KJ := Lib.hid (KJ.out.trans k10))
      | (go_at_call 12; go_fit (HS2.out _ KJ.out); rintro r w11 ⟨rfl, k11⟩; replace KJ := Lib.hid (KJ.out.trans k11))
      | fail)
    go_wp2
    go_ret
    exact ⟨rfl, KC.out.trans KJ.out⟩
end Go.Proofs.YthaphbbeiglolaaGreat
