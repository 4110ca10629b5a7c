/-
  Walks: tree.depth, Depth.
-/
import Derived.Test.YthaphbbeiglolaaCouN
namespace Go.Proofs.Ythaphbbeiglolaa
open Go.RowKit Go.Sort

theorem depthL_mem {l : List Ex} {x : Ex} (h : x ∈ l) : x.depth ≤ Ex.depthL l := by
  induction l with
  | nil => cases h
  | cons y t ih =>
    rw [Ex.depthL_cons]
    rcases List.mem_cons.1 h with rfl | h
    · omega
    · have := ih h; omega
def DepthAt (e : Ex) : Prop := ∀ (B : Nat) (w : World), e.at w B → e.depth ≤ 1000 → Calls Try.prog 46 #[.agg #[.int .i64 e.kind, .int .i64 e.rn, .int .i64 e.rd, .string e.name, .int .i64 e.pw, .slice e.a e.l.length e.c]] w fun r w' => r = .returned (.int .i64 (e.depth : Int)) ∧ Kp w w'
set_option maxHeartbeats 2000000 in
set_option maxRecDepth 20000 in
theorem depth_any : ∀ e : Ex, DepthAt e := by
  refine Ex.ind fun e ih B w hat hd => ?_
  have k1 : Kp w (w.alloc (.cells #[.int .i64 e.kind, .int .i64 e.rn, .int .i64 e.rd, .string e.name, .int .i64 e.pw, .slice e.a e.l.length e.c] 26)) := (Kp.refl w).alloc _
  have hS : ((w.alloc (.cells #[.int .i64 e.kind, .int .i64 e.rn, .int .i64 e.rd, .string e.name, .int .i64 e.pw, .slice e.a e.l.length e.c] 26)).cell? ⟨w.heap.size, 0, none⟩ = some (.int .i64 e.kind) ∧ (w.alloc (.cells #[.int .i64 e.kind, .int .i64 e.rn, .int .i64 e.rd, .string e.name, .int .i64 e.pw, .slice e.a e.l.length e.c] 26)).cell? ⟨w.heap.size, 1, none⟩ = some (.int .i64 e.rn) ∧ (w.alloc (.cells #[.int .i64 e.kind, .int .i64 e.rn, .int .i64 e.rd, .string e.name, .int .i64 e.pw, .slice e.a e.l.length e.c] 26)).cell? ⟨w.heap.size, 2, none⟩ = some (.int .i64 e.rd) ∧ (w.alloc (.cells #[.int .i64 e.kind, .int .i64 e.rn, .int .i64 e.rd, .string e.name, .int .i64 e.pw, .slice e.a e.l.length e.c] 26)).cell? ⟨w.heap.size, 3, none⟩ = some (.string e.name) ∧ (w.alloc (.cells #[.int .i64 e.kind, .int .i64 e.rn, .int .i64 e.rd, .string e.name, .int .i64 e.pw, .slice e.a e.l.length e.c] 26)).cell? ⟨w.heap.size, 4, none⟩ = some (.int .i64 e.pw) ∧ (w.alloc (.cells #[.int .i64 e.kind, .int .i64 e.rn, .int .i64 e.rd, .string e.name, .int .i64 e.pw, .slice e.a e.l.length e.c] 26)).cell? ⟨w.heap.size, 5, none⟩ = some (.slice e.a e.l.length e.c)) := by simp
  obtain ⟨⟨hlc, hcm, hnm, hl⟩, hrow, hch⟩ := Ex.at_iff.1 hat
  have HD := Lib.hid e.depth_eq
  have hdl : Ex.depthL e.l ≤ 1000 := by have := e.depth_eq; omega
  go_enter Try.func46, Try.ntmps46
  go_upto_region 1 with fail
  generalize w.alloc _ = W at *
  have HR := Lib.hid (hrow.kp k1)
  have HC := Lib.hid fun x hx => Ex.at_kp (hch x hx) k1
  have HI := Lib.hid ih
  have K1 := Lib.hid k1
  clear hrow hch ih k1 hat
  obtain ⟨s0, s1, s2, s3, s4, s5⟩ := hS
  go_wp2
  go_loopw [3, 9] (fun x y wr => ∃ k m : Nat, k ≤ e.l.length ∧ x = .int .i64 (m : Int) ∧ y = .int .i64 (k : Int) ∧ max m (Ex.depthL (e.l.drop k)) = Ex.depthL e.l ∧ Kp W wr) (fun _ y _ => e.l.length - (intOf y).toNat)
  case atStart => exact ⟨0, 0, by omega, rfl, rfl, by simp, .refl _⟩
  case round =>
    obtain ⟨k, m, hk, rfl, rfl, hm, hkp⟩ := hrel
    have Hm := Lib.hid hm; clear hm
    by_cases hlt : k < e.l.length
    · obtain ⟨x, hx⟩ : ∃ x, e.l[k]? = some x := ⟨_, List.getElem?_eq_getElem hlt⟩
      have Hd := Lib.hid (show e.l.drop k = x :: e.l.drop (k + 1) from (List.drop_eq_getElem_cons hlt).trans (by rw [(List.getElem?_eq_some_iff.1 hx).2]))
      have hxm := List.mem_of_getElem? hx
      obtain ⟨b, o, ha, hb, h0, h1, h2, h3, h4, h5⟩ := (HR.out.kp hkp) k x hx
      have hxd : x.depth ≤ 1000 := by have := depthL_mem hxm; omega
      have HX := Lib.hid fun W' h => HI.out x hxm B W' (Ex.at_kp (HC.out x hxm) (hkp.trans h)) hxd
      have Hkp := Lib.hid hkp
      clear hx hxm hkp hdl
      rw [ha]
      have HX2 := Lib.hid (HX.out _ ((Kp.refl wr).alloc (.cells #[.int .i64 x.kind, .int .i64 x.rn, .int .i64 x.rd, .string x.name, .int .i64 x.pw, .slice x.a x.l.length x.c] 26)))
      go_wp2_with (go_at_call 46; go_fit HX2.out; rintro r w2 ⟨rfl, k2⟩)
      refine ⟨⟨k + 1, max m x.depth, by omega, by congr 1; omega, by congr 1, ?_, Hkp.out.trans (((Kp.refl wr).alloc _).trans k2)⟩, by simp [intOf]; omega⟩
      have := Hm.out
      rw [Hd.out, Ex.depthL_cons] at this
      omega
    · obtain rfl : k = e.l.length := by omega
      have hf := Hm.out
      rw [List.drop_length, Ex.depthL_nil, Nat.max_zero] at hf
      have Hf := Lib.hid hf
      have hm2 : (m : Int) ≤ 1000 := by omega
      clear hf hdl
      go_wp2
      go_ret
      exact ⟨ret_int (by rw [HD.out, ← Hf.out]; omega), K1.out.trans hkp⟩
/-- the depth of a valid expression; 0 for others -/
def depO (e : Ex) : Int := if e.ok = true then (e.depth : Int) else 0
set_option maxHeartbeats 2000000 in
set_option maxRecDepth 20000 in
/-- tree.Depth -/
theorem tdepth_any (e : Ex) (B : Nat) (w : World) (hat : e.at w B) (hB : B ≤ w.heap.size) : Calls Try.prog 19 #[.agg #[.int .i64 e.kind, .int .i64 e.rn, .int .i64 e.rd, .string e.name, .int .i64 e.pw, .slice e.a e.l.length e.c]] w fun r w' => r = .returned (.int .i64 (depO e)) ∧ Kp w w' := by
  have k1 : Kp w (w.alloc (.cells #[.int .i64 e.kind, .int .i64 e.rn, .int .i64 e.rd, .string e.name, .int .i64 e.pw, .slice e.a e.l.length e.c] 26)) := (Kp.refl w).alloc _
  have hS : ((w.alloc (.cells #[.int .i64 e.kind, .int .i64 e.rn, .int .i64 e.rd, .string e.name, .int .i64 e.pw, .slice e.a e.l.length e.c] 26)).cell? ⟨w.heap.size, 0, none⟩ = some (.int .i64 e.kind) ∧ (w.alloc (.cells #[.int .i64 e.kind, .int .i64 e.rn, .int .i64 e.rd, .string e.name, .int .i64 e.pw, .slice e.a e.l.length e.c] 26)).cell? ⟨w.heap.size, 1, none⟩ = some (.int .i64 e.rn) ∧ (w.alloc (.cells #[.int .i64 e.kind, .int .i64 e.rn, .int .i64 e.rd, .string e.name, .int .i64 e.pw, .slice e.a e.l.length e.c] 26)).cell? ⟨w.heap.size, 2, none⟩ = some (.int .i64 e.rd) ∧ (w.alloc (.cells #[.int .i64 e.kind, .int .i64 e.rn, .int .i64 e.rd, .string e.name, .int .i64 e.pw, .slice e.a e.l.length e.c] 26)).cell? ⟨w.heap.size, 3, none⟩ = some (.string e.name) ∧ (w.alloc (.cells #[.int .i64 e.kind, .int .i64 e.rn, .int .i64 e.rd, .string e.name, .int .i64 e.pw, .slice e.a e.l.length e.c] 26)).cell? ⟨w.heap.size, 4, none⟩ = some (.int .i64 e.pw) ∧ (w.alloc (.cells #[.int .i64 e.kind, .int .i64 e.rn, .int .i64 e.rd, .string e.name, .int .i64 e.pw, .slice e.a e.l.length e.c] 26)).cell? ⟨w.heap.size, 5, none⟩ = some (.slice e.a e.l.length e.c)) := by simp
  go_enter Try.func19, Try.ntmps19
  go_upto_region 1 with fail
  generalize w.alloc _ = W at *
  have HV := Lib.hid (tvalid_any e B W (Ex.at_kp hat k1) (Nat.le_trans hB k1.size))
  have K1 := Lib.hid k1
  have HA := Lib.hid (Ex.at_kp hat k1)
  clear hat k1
  obtain ⟨q0, q1, q2, q3, q4, q5⟩ := hS
  rcases Bool.eq_false_or_eq_true e.ok with hk | hk
  · have hd : e.depth ≤ 1000 := by
      have h := hk
      unfold Ex.ok at h
      simp only [Bool.and_eq_true, decide_eq_true_eq] at h
      omega
    rw [hk] at HV
    have Hk := Lib.hid hk
    clear hk
    have HD := Lib.hid fun W' h => depth_any e B W' (Ex.at_kp HA.out h) hd
    go_wp2_with (first
      | (go_at_call 31; go_fit HV.out; rintro r w2 ⟨rfl, k2⟩; obtain ⟨t0, t1, t2, t3, t4, t5⟩ := keepE6 k2 ⟨q0, q1, q2, q3, q4, q5⟩)
      | (go_at_call 46; go_fit (HD.out _ k2); rintro r w3 ⟨rfl, k3⟩)
      | fail)
    go_ret
    exact ⟨ret_int (by unfold depO; rw [if_pos Hk.out]), (K1.out.trans k2).trans k3⟩
  · rw [hk] at HV
    have Hk := Lib.hid hk
    clear hk
    go_wp2_with (go_at_call 31; go_fit HV.out; rintro r w2 ⟨rfl, k2⟩)
    go_ret
    exact ⟨ret_int (by unfold depO; rw [if_neg (by rw [Hk.out]; decide)]), K1.out.trans k2⟩
end Go.Proofs.Ythaphbbeiglolaa
