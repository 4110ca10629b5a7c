/-
  Walks: TreeCounts.
-/
import Derived.Test.YthaphbbeiglolaaAwkW
import Derived.Test.YthaphbbeiglolaaRInN
namespace Go.Proofs.Ythaphbbeiglolaa
open Go.RowKit Go.Sort

theorem namO_not {e : Ex} (h : e.ok = false) : namO e = [] := by unfold namO flatE; rw [if_neg (by rw [h]; decide)]; rfl
theorem sizO_not {e : Ex} (h : e.ok = false) : sizO e = 0 := by unfold sizO flatE; rw [if_neg (by rw [h]; decide)]; rfl
theorem depO_not {e : Ex} (h : e.ok = false) : depO e = 0 := by unfold depO; rw [if_neg (by rw [h]; decide)]
theorem ratO_not {e : Ex} (h : e.ok = false) : ratO e = false := by unfold ratO; rw [h]; rfl
theorem nmU_er (xs : List Ex) : nmU (xs.map Ex.er) = nmU xs := by
  unfold nmU
  congr 1
  induction xs with
  | nil => rfl
  | cons x t ih =>
    rw [List.map_cons, List.filter_cons, List.filter_cons, Ex.er_kind]
    split
    · rw [List.map_cons, List.map_cons, Ex.er_name, ih]
    · exact ih
theorem namO_ok {e : Ex} (h : e.ok = true) : namO e = nmU e.flat := by
  rw [← nmU_er]
  unfold namO flatE
  rw [if_pos h]
  rfl
theorem ratO_ok {e : Ex} (h : e.ok = true) : ratO e = e.flat.all fun x => decide (x.kind < 9) := by
  unfold ratO flatE
  rw [if_pos h, h, Bool.true_and, List.all_map]
  congr 1
  funext x
  show decide (x.er.kind < 9) = _
  rw [Ex.er_kind]
theorem ok_dep {e : Ex} (h : e.ok = true) : e.depth ≤ 20 := by
  unfold Ex.ok at h
  simp only [Bool.and_eq_true, decide_eq_true_eq] at h
  exact h.2.1
theorem depO_co {e : Ex} (h : e.ok = true) : depO e = (e.depth : Int) := if_pos h
theorem nmU_size (e : Ex) : (nmU e.flat).length ≤ e.size := by have := nmU_len e.flat; rw [e.flat_len] at this; exact this
set_option maxHeartbeats 4000000 in
set_option maxRecDepth 100000 in
theorem Counts_ok (e : Ex) (w : World) (hat : e.at w w.heap.size) : Calls Try.prog 5 #[.agg #[.int .i64 e.kind, .int .i64 e.rn, .int .i64 e.rd, .string e.name, .int .i64 e.pw, .slice e.a e.l.length e.c]] w fun r w' => r = .returned (.bool true) ∧ Kp w w' := by
  have k1 : Kp w (w.alloc (.cells #[.int .i64 e.kind, .int .i64 e.rn, .int .i64 e.rd, .string e.name, .int .i64 e.pw, .slice e.a e.l.length e.c] 26)) := (Kp.refl w).alloc _
  have hB1 : BoxX (w.alloc (.cells #[.int .i64 e.kind, .int .i64 e.rn, .int .i64 e.rd, .string e.name, .int .i64 e.pw, .slice e.a e.l.length e.c] 26)) w.heap.size e := BoxX.new w e _ rfl
  go_enter Try.func5, Try.ntmps5
  go_upto_region 1 with fail
  generalize World.alloc _ _ = W at *
  have KC := Lib.hid k1
  have HE := Lib.hid (Ex.at_kp hat k1)
  have HB1 := Lib.hid hB1
  clear hat hB1 k1
  go_upto_region 3 with (first | (go_at_call 10; go_fit (awake_one _); rintro r w1 ⟨rfl, k1⟩) | fail)
  have KC := Lib.hid (KC.out.trans k1)
  have HE := Lib.hid (Ex.at_kp HE.out k1)
  have HB1 := Lib.hid (HB1.out.kp k1)
  have hs1 : w.heap.size ≤ w1.heap.size := KC.out.size
  clear k1
  obtain ⟨⟨p0, p1, p2, p3, p4, p5⟩, _⟩ := id HB1.out
  have HV := Lib.hid (rvalid13_any e w.heap.size w1 HE.out)
  cases hok : e.ok with
  | false =>
    rw [hok] at HV
    have a1 := namO_not hok
    have a2 := sizO_not hok
    have a3 := depO_not hok
    have a4 := ratO_not hok
    have HN := Lib.hid fun W' (k : Kp w1 W') => tnames_any e w.heap.size W' (Ex.at_kp HE.out k) (Nat.le_trans hs1 k.size)
    have HZ := Lib.hid fun W' (k : Kp w1 W') => tsize_any e w.heap.size W' (Ex.at_kp HE.out k) (Nat.le_trans hs1 k.size)
    have HD := Lib.hid fun W' (k : Kp w1 W') => tdepth_any e w.heap.size W' (Ex.at_kp HE.out k) (Nat.le_trans hs1 k.size)
    have HR := Lib.hid fun W' (k : Kp w1 W') => trational_any e w.heap.size W' (Ex.at_kp HE.out k) (Nat.le_trans hs1 k.size)
    rw [a1] at HN
    rw [a2] at HZ
    rw [a3] at HD
    rw [a4] at HR
    clear a1 a2 a3 a4 hok
    go_wp2_with (first
      | (go_at_call 12; go_fit HV.out; rintro r w2 ⟨rfl, k2⟩; have KJ := Lib.hid k2; obtain ⟨⟨q0, q1, q2, q3, q4, q5⟩, _⟩ := HB1.out.kp KJ.out)
      | (go_at_call 20; go_fit (HN.out _ KJ.out); rintro r w3 ⟨v, rfl, hv, k3⟩; obtain ⟨va, vc, rfl, hrow⟩ := rowS_own (ss := []) hv; replace KJ := Lib.hid (KJ.out.trans k3); obtain ⟨⟨r0, r1, r2, r3, r4, r5⟩, _⟩ := HB1.out.kp KJ.out)
      | (go_at_call 18; go_fit (HZ.out _ KJ.out); rintro r w4 ⟨rfl, k4⟩; replace KJ := Lib.hid (KJ.out.trans k4); obtain ⟨⟨t0, t1, t2, t3, t4, t5⟩, _⟩ := HB1.out.kp KJ.out)
      | (go_at_call 19; go_fit (HD.out _ KJ.out); rintro r w5 ⟨rfl, k5⟩; replace KJ := Lib.hid (KJ.out.trans k5); obtain ⟨⟨u0, u1, u2, u3, u4, u5⟩, _⟩ := HB1.out.kp KJ.out)
      | (go_at_call 21; go_fit (HR.out _ KJ.out); rintro r w6 ⟨rfl, k6⟩; replace KJ := Lib.hid (KJ.out.trans k6))
      | fail)
    go_ret
    exact ⟨rfl, KC.out.trans KJ.out⟩
  | true =>
    rw [hok] at HV
    have a1 := namO_ok hok
    have a2 := sizO_ok hok
    have a3 := depO_co hok
    have a4 := ratO_ok hok
    have hsz := ok_size hok
    have hrc := (rct_iff e 20).2 (by have := rct_ok e; rw [hok, decide_eq_true_eq] at this; exact this)
    have hdp : e.depth ≤ 1000 := by have := ok_dep hok; omega
    have hlen := nmU_size e
    have HN := Lib.hid fun W' (k : Kp w1 W') => tnames_any e w.heap.size W' (Ex.at_kp HE.out k) (Nat.le_trans hs1 k.size)
    have HZ := Lib.hid fun W' (k : Kp w1 W') => tsize_any e w.heap.size W' (Ex.at_kp HE.out k) (Nat.le_trans hs1 k.size)
    have HD := Lib.hid fun W' (k : Kp w1 W') => tdepth_any e w.heap.size W' (Ex.at_kp HE.out k) (Nat.le_trans hs1 k.size)
    have HR := Lib.hid fun W' (k : Kp w1 W') => trational_any e w.heap.size W' (Ex.at_kp HE.out k) (Nat.le_trans hs1 k.size)
    have HN' := Lib.hid fun W' (k : Kp w1 W') => rnames_any e w.heap.size W' (Ex.at_kp HE.out k) (by omega)
    have HZ' := Lib.hid fun W' (k : Kp w1 W') => rsize13_any e w.heap.size W' (Ex.at_kp HE.out k)
    have HD' := Lib.hid fun W' (k : Kp w1 W') => rdepth_any e w.heap.size W' (Ex.at_kp HE.out k) hdp
    have HR' := Lib.hid fun W' (k : Kp w1 W') => rrational_any e w.heap.size W' (Ex.at_kp HE.out k) (by omega)
    rw [a1] at HN
    rw [a2] at HZ
    rw [a3] at HD
    rw [a4] at HR
    rw [hrc] at HZ'
    have HQ := Lib.hid fun (b1 b2 : Option Addr) (d1 d2 : Nat) (W' : World) (h1 : RowS W' b1 (nmU e.flat)) (h2 : RowS W' b2 (nmU e.flat)) => (eqS_any b1 b2 d1 d2 _ _ W' h1 h2 (by omega) (by omega)).mono (fun _ _ h => (⟨h.1.trans (ret_bool (by simp)), h.2⟩ : _ = Ending.returned (.bool true) ∧ _))
    generalize hnn : nmU e.flat = nn at *
    generalize (e.flat.all fun x => decide (x.kind < 9)) = rr at *
    generalize hzz : e.size = zz at *
    generalize hdd : e.depth = dd at *
    have hz1 : ((zz : Int) == (zz : Int)) = true := beq_self_eq_true _
    have hd1 : ((dd : Int) == (dd : Int)) = true := beq_self_eq_true _
    have hr1 : (rr == rr) = true := beq_self_eq_true _
    clear a1 a2 a3 a4 hok hnn hzz hdd hrc
    go_upto_region 5 with (first
      | (go_at_call 12; go_fit HV.out; rintro r w2 ⟨rfl, k2⟩)
      | fail)
    have kd := (Kp.refl w2).drew
    have hSd := keepE6 kd (HB1.out.kp k2).1
    have KJ := Lib.hid (k2.trans kd)
    clear p0 p1 p2 p3 p4 p5 kd
    go_region_held3 (fun w' => (w'.cell? ⟨w.heap.size, 0, none⟩ = some (.int .i64 e.kind) ∧ w'.cell? ⟨w.heap.size, 1, none⟩ = some (.int .i64 e.rn) ∧ w'.cell? ⟨w.heap.size, 2, none⟩ = some (.int .i64 e.rd) ∧ w'.cell? ⟨w.heap.size, 3, none⟩ = some (.string e.name) ∧ w'.cell? ⟨w.heap.size, 4, none⟩ = some (.int .i64 e.pw) ∧ w'.cell? ⟨w.heap.size, 5, none⟩ = some (.slice e.a e.l.length e.c))) (first | with_reducible assumption | with_reducible exact keepE6 (by assumption) (by assumption) | fail) (first
      | (go_at_call 20; go_fit (HN.out _ KJ.out); rintro r w3 ⟨v, rfl, hv, k3⟩; obtain ⟨va, vc, rfl, hrow⟩ := rowS_own hv; have HA := Lib.hid hrow; (first | (replace HB := Lib.hid (HB.out.kp k3)) | skip); replace KJ := Lib.hid (KJ.out.trans k3))
      | (go_at_call 23; go_fit (HN'.out _ KJ.out); rintro r w4 ⟨⟨a, n, c, rfl, ⟨hln, hrow2, _⟩⟩, k4⟩; subst hln; have HB := Lib.hid hrow2; (first | (replace HA := Lib.hid (HA.out.kp k4)) | skip); replace KJ := Lib.hid (KJ.out.trans k4))
      | (go_at_call 22; go_fit (HQ.out _ _ _ _ _ HA.out HB.out); rintro r w5 ⟨rfl, k5⟩; replace KJ := Lib.hid (KJ.out.trans k5))
      | (go_at_call 18; go_fit (HZ.out _ KJ.out); rintro r w6 ⟨rfl, k6⟩; replace KJ := Lib.hid (KJ.out.trans k6))
      | (go_at_call 24; go_fit (HZ'.out _ KJ.out); rintro r w7 ⟨rfl, k7⟩; replace KJ := Lib.hid (KJ.out.trans k7))
      | (go_at_call 19; go_fit (HD.out _ KJ.out); rintro r w8 ⟨rfl, k8⟩; replace KJ := Lib.hid (KJ.out.trans k8))
      | (go_at_call 25; go_fit (HD'.out _ KJ.out); rintro r w9 ⟨rfl, k9⟩; replace KJ := Lib.hid (KJ.out.trans k9))
      | (go_at_call 21; go_fit (HR.out _ KJ.out); rintro r w10 ⟨rfl, k10⟩; replace KJ := Lib.hid (KJ.out.trans k10))
      | (go_at_call 26; go_fit (HR'.out _ KJ.out); rintro r w11 ⟨rfl, k11⟩; replace KJ := Lib.hid (KJ.out.trans k11))
      | fail)
    go_wp2
    go_ret
    exact ⟨rfl, KC.out.trans KJ.out⟩
end Go.Proofs.Ythaphbbeiglolaa
