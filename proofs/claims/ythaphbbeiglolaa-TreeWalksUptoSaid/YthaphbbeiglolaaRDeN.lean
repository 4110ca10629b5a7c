/-
  Walks: ref13.Depth.
-/
import Derived.Test.YthaphbbeiglolaaDepN
namespace Go.Proofs.Ythaphbbeiglolaa
open Go.RowKit Go.Sort

def RDepthAt (e : Ex) : Prop := ∀ (B : Nat) (w : World), e.at w B → e.depth ≤ 1000 → Calls Try.prog 25 #[.agg #[.int .i64 e.kind, .int .i64 e.rn, .int .i64 e.rd, .string e.name, .int .i64 e.pw, .slice e.a e.l.length e.c]] w fun r w' => r = .returned (.int .i64 (e.depth : Int)) ∧ Kp w w'
set_option maxHeartbeats 2000000 in
set_option maxRecDepth 20000 in
theorem rdepth_any : ∀ e : Ex, RDepthAt e := by
  refine Ex.ind fun e ih B w hat hd => ?_
  have k1 : Kp w (w.alloc (.cells #[.int .i64 e.kind, .int .i64 e.rn, .int .i64 e.rd, .string e.name, .int .i64 e.pw, .slice e.a e.l.length e.c] 26)) := (Kp.refl w).alloc _
  have hS : ((w.alloc (.cells #[.int .i64 e.kind, .int .i64 e.rn, .int .i64 e.rd, .string e.name, .int .i64 e.pw, .slice e.a e.l.length e.c] 26)).cell? ⟨w.heap.size, 0, none⟩ = some (.int .i64 e.kind) ∧ (w.alloc (.cells #[.int .i64 e.kind, .int .i64 e.rn, .int .i64 e.rd, .string e.name, .int .i64 e.pw, .slice e.a e.l.length e.c] 26)).cell? ⟨w.heap.size, 1, none⟩ = some (.int .i64 e.rn) ∧ (w.alloc (.cells #[.int .i64 e.kind, .int .i64 e.rn, .int .i64 e.rd, .string e.name, .int .i64 e.pw, .slice e.a e.l.length e.c] 26)).cell? ⟨w.heap.size, 2, none⟩ = some (.int .i64 e.rd) ∧ (w.alloc (.cells #[.int .i64 e.kind, .int .i64 e.rn, .int .i64 e.rd, .string e.name, .int .i64 e.pw, .slice e.a e.l.length e.c] 26)).cell? ⟨w.heap.size, 3, none⟩ = some (.string e.name) ∧ (w.alloc (.cells #[.int .i64 e.kind, .int .i64 e.rn, .int .i64 e.rd, .string e.name, .int .i64 e.pw, .slice e.a e.l.length e.c] 26)).cell? ⟨w.heap.size, 4, none⟩ = some (.int .i64 e.pw) ∧ (w.alloc (.cells #[.int .i64 e.kind, .int .i64 e.rn, .int .i64 e.rd, .string e.name, .int .i64 e.pw, .slice e.a e.l.length e.c] 26)).cell? ⟨w.heap.size, 5, none⟩ = some (.slice e.a e.l.length e.c)) := by simp
  obtain ⟨⟨hlc, hcm, hnm, hl⟩, hrow, hch⟩ := Ex.at_iff.1 hat
  have HD := Lib.hid e.depth_eq
  have hdl : Ex.depthL e.l ≤ 1000 := by have := e.depth_eq; omega
  go_enter Try.func25, Try.ntmps25
  go_upto_region 1 with fail
  generalize w.alloc _ = W at *
  have HR := Lib.hid (hrow.kp k1)
  have HC := Lib.hid fun x hx => Ex.at_kp (hch x hx) k1
  have HI := Lib.hid ih
  have K1 := Lib.hid k1
  clear hrow hch ih k1 hat
  obtain ⟨s0, s1, s2, s3, s4, s5⟩ := hS
  go_wp2
  go_loopw [3, 4] (fun x y wr => ∃ k m : Nat, k ≤ e.l.length ∧ x = .int .i64 (m : Int) ∧ y = .int .i64 (k : Int) ∧ max m (Ex.depthL (e.l.drop k)) = Ex.depthL e.l ∧ Kp W wr) (fun _ y _ => e.l.length - (intOf y).toNat)
  case atStart => exact ⟨0, 0, by omega, rfl, rfl, by simp, .refl _⟩
  case round =>
    obtain ⟨k, m, hk, rfl, rfl, hm, hkp⟩ := hrel
    have Hm := Lib.hid hm; clear hm
    have z5 := hkp.cell s5
    by_cases hlt : k < e.l.length
    · obtain ⟨x, hx⟩ : ∃ x, e.l[k]? = some x := ⟨_, List.getElem?_eq_getElem hlt⟩
      have Hd := Lib.hid (show e.l.drop k = x :: e.l.drop (k + 1) from (List.drop_eq_getElem_cons hlt).trans (by rw [(List.getElem?_eq_some_iff.1 hx).2]))
      have hxm := List.mem_of_getElem? hx
      obtain ⟨b, o, ha, hb, h0, h1, h2, h3, h4, h5⟩ := (HR.out.kp hkp) k x hx
      have hxd : x.depth ≤ 1000 := by have := depthL_mem hxm; omega
      have HX := Lib.hid fun W' h => HI.out x hxm B W' (Ex.at_kp (HC.out x hxm) (hkp.trans h)) hxd
      have Hkp := Lib.hid hkp
      clear hx hxm hkp hdl
      rw [ha] at z5 ⊢
      have HX2 := Lib.hid (HX.out _ (Kp.refl wr))
      go_wp2_with (go_at_call 25; go_fit HX2.out; rintro r w2 ⟨rfl, k2⟩)
      go_wp2
      go_roundw
      case rel =>
        refine ⟨k + 1, max m x.depth, by omega, by congr 1; omega, by go_num, ?_, Hkp.out.trans k2⟩
        have := Hm.out
        rw [Hd.out, Ex.depthL_cons] at this
        omega
      case measure => simp [intOf]; omega
    · obtain rfl : k = e.l.length := by omega
      have hf := Hm.out
      rw [List.drop_length, Ex.depthL_nil, Nat.max_zero] at hf
      have Hf := Lib.hid hf
      have hm2 : (m : Int) ≤ 1000 := by omega
      clear hf hdl
      go_wp2
      go_ret
      exact ⟨ret_int (by rw [HD.out, ← Hf.out]; omega), K1.out.trans hkp⟩
end Go.Proofs.Ythaphbbeiglolaa
