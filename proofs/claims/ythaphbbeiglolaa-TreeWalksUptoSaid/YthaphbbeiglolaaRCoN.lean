/-
  Walks: ref13.count, Valid, Size.
-/
import Derived.Test.YthaphbbeiglolaaRNcN
namespace Go.Proofs.Ythaphbbeiglolaa
open Go.RowKit Go.Sort

theorem rctL_le {lv M : Nat} : ∀ (l : List Ex) (n : Nat), (∀ x ∈ l, x.rct lv ≤ M) → n ≤ 200 + M → Ex.rctL l lv n ≤ 200 + M
  | [], n, _, hn => by rw [Ex.rctL_nil]; exact hn
  | x :: t, n, h, hn => by
    rw [Ex.rctL_cons]
    split
    · exact rctL_le t _ (fun y hy => h y (.tail _ hy)) (by have := h x (.head _); omega)
    · exact hn
theorem rct_le : ∀ (e : Ex) (lv : Nat), e.rct lv ≤ 1048576 + 200 * lv := by
  refine Ex.ind fun e ih lv => ?_
  cases lv with
  | zero => rw [Ex.rct_zero]; omega
  | succ lv =>
    rw [Ex.rct_succ]
    split
    · omega
    · have := rctL_le (lv := lv) (M := 1048576 + 200 * lv) e.l 1 (fun x hx => ih x hx lv) (by omega)
      omega
def RCountAt (e : Ex) : Prop := ∀ (lv B : Nat) (w : World), e.at w B → lv ≤ 20 → Calls Try.prog 40 #[.agg #[.int .i64 e.kind, .int .i64 e.rn, .int .i64 e.rd, .string e.name, .int .i64 e.pw, .slice e.a e.l.length e.c], .int .i64 (lv : Int)] w fun r w' => r = .returned (.int .i64 (e.rct lv : Int)) ∧ Kp w w'
set_option maxHeartbeats 2000000 in
set_option maxRecDepth 20000 in
theorem rcount_any : ∀ e : Ex, RCountAt e := by
  refine Ex.ind fun e ih lv B w hat hlv => ?_
  have k1 : Kp w (w.alloc (.cells #[.int .i64 e.kind, .int .i64 e.rn, .int .i64 e.rd, .string e.name, .int .i64 e.pw, .slice e.a e.l.length e.c] 26)) := (Kp.refl w).alloc _
  have hS : ((w.alloc (.cells #[.int .i64 e.kind, .int .i64 e.rn, .int .i64 e.rd, .string e.name, .int .i64 e.pw, .slice e.a e.l.length e.c] 26)).cell? ⟨w.heap.size, 0, none⟩ = some (.int .i64 e.kind) ∧ (w.alloc (.cells #[.int .i64 e.kind, .int .i64 e.rn, .int .i64 e.rd, .string e.name, .int .i64 e.pw, .slice e.a e.l.length e.c] 26)).cell? ⟨w.heap.size, 1, none⟩ = some (.int .i64 e.rn) ∧ (w.alloc (.cells #[.int .i64 e.kind, .int .i64 e.rn, .int .i64 e.rd, .string e.name, .int .i64 e.pw, .slice e.a e.l.length e.c] 26)).cell? ⟨w.heap.size, 2, none⟩ = some (.int .i64 e.rd) ∧ (w.alloc (.cells #[.int .i64 e.kind, .int .i64 e.rn, .int .i64 e.rd, .string e.name, .int .i64 e.pw, .slice e.a e.l.length e.c] 26)).cell? ⟨w.heap.size, 3, none⟩ = some (.string e.name) ∧ (w.alloc (.cells #[.int .i64 e.kind, .int .i64 e.rn, .int .i64 e.rd, .string e.name, .int .i64 e.pw, .slice e.a e.l.length e.c] 26)).cell? ⟨w.heap.size, 4, none⟩ = some (.int .i64 e.pw) ∧ (w.alloc (.cells #[.int .i64 e.kind, .int .i64 e.rn, .int .i64 e.rd, .string e.name, .int .i64 e.pw, .slice e.a e.l.length e.c] 26)).cell? ⟨w.heap.size, 5, none⟩ = some (.slice e.a e.l.length e.c)) := by simp
  obtain ⟨⟨hlc, hcm, hnm, hl⟩, hrow, hch⟩ := Ex.at_iff.1 hat
  cases lv with
  | zero =>
    have HD := Lib.hid e.rct_zero
    show Calls Try.prog 40 #[.agg #[.int .i64 e.kind, .int .i64 e.rn, .int .i64 e.rd, .string e.name, .int .i64 e.pw, .slice e.a e.l.length e.c], .int .i64 0] w _
    go_enter Try.func40, Try.ntmps40
    go_upto_region 1 with fail
    generalize w.alloc _ = W at *
    clear hrow hch ih hat hS
    go_wp2
    go_ret
    exact ⟨ret_int (by rw [HD.out]; rfl), k1⟩
  | succ lv =>
    have HD := Lib.hid (e.rct_succ lv)
    have hb := Lib.hid (rct_le e (lv + 1))
    rw [Int.natCast_succ]
    have z0 : (((lv : Int) + 1) == 0) = false := beq_eq_false_iff_ne.2 (by omega)
    go_enter Try.func40, Try.ntmps40
    go_upto_region 1 with fail
    generalize w.alloc _ = W at *
    have HN := Lib.hid (rnode_any e W (by omega) hnm)
    obtain ⟨s0, s1, s2, s3, s4, s5⟩ := hS
    cases hv : nodeB e with
    | false =>
      rw [hv] at HN
      have Hv := Lib.hid hv
      clear hrow hch ih hat hv
      have K1 := Lib.hid k1
      clear k1
      go_wp2_with (go_at_call 59; go_fit HN.out; rintro r w2 ⟨rfl, k2⟩)
      go_ret
      exact ⟨ret_int (by rw [HD.out, if_pos Hv.out]; rfl), K1.out.trans k2⟩
    | true =>
      rw [hv] at HN
      have Hv := Lib.hid hv
      have HR := Lib.hid (hrow.kp k1)
      have HC := Lib.hid fun x hx => Ex.at_kp (hch x hx) k1
      have HI := Lib.hid ih
      have K1 := Lib.hid k1
      clear hrow hch ih k1 hat hv
      go_wp2_with (go_at_call 59; go_fit HN.out; rintro r w2 ⟨rfl, k2⟩)
      have K2 := Lib.hid k2
      go_loopw [5, 6] (fun x y wr => ∃ k n : Nat, k ≤ e.l.length ∧ x = .int .i64 (n : Int) ∧ y = .int .i64 (k : Int) ∧ n ≤ 1048576 + 200 * (lv + 1) ∧ Ex.rctL (e.l.drop k) lv n = Ex.rctL e.l lv 1 ∧ Kp W wr) (fun _ y _ => e.l.length - (intOf y).toNat)
      case atStart => exact ⟨0, 1, by omega, rfl, rfl, by omega, by simp, K2.out⟩
      case round =>
        obtain ⟨k, n, hk, rfl, rfl, hn, hm, hkp⟩ := hrel
        have Hm := Lib.hid hm; clear hm k2
        have z5 := hkp.cell s5
        by_cases hlt : k < e.l.length
        · obtain ⟨x, hx⟩ : ∃ x, e.l[k]? = some x := ⟨_, List.getElem?_eq_getElem hlt⟩
          have Hd := Lib.hid (show e.l.drop k = x :: e.l.drop (k + 1) from (List.drop_eq_getElem_cons hlt).trans (by rw [(List.getElem?_eq_some_iff.1 hx).2]))
          have hxm := List.mem_of_getElem? hx
          obtain ⟨b, o, ha, hb2, h0, h1, h2, h3, h4, h5⟩ := (HR.out.kp hkp) k x hx
          have HX := Lib.hid fun W' h => HI.out x hxm lv B W' (Ex.at_kp (HC.out x hxm) (hkp.trans h)) (by omega)
          have Hkp := Lib.hid hkp
          have Hbx := rct_le x lv
          clear hx hxm hkp
          rw [ha] at z5
          by_cases hn2 : n ≤ 200
          · have hn3 : (n : Int) ≤ 200 := by omega
            rw [ha]
            have HX2 := Lib.hid (HX.out _ (Kp.refl wr))
            go_wp2_with (go_at_call 40; go_fit HX2.out; rintro r w2 ⟨rfl, k2⟩)
            go_wp2
            go_roundw
            case rel =>
              refine ⟨k + 1, n + x.rct lv, by omega, by go_num, by go_num, by omega, ?_, Hkp.out.trans k2⟩
              have := Hm.out
              rw [Hd.out, Ex.rctL_cons, if_pos hn2] at this
              exact this
            case measure => simp [intOf]; omega
          · have hn3 : ¬ (n : Int) ≤ 200 := by omega
            have hf := Hm.out
            rw [Hd.out, Ex.rctL_cons, if_neg hn2] at hf
            have Hf := Lib.hid hf
            clear hf
            rw [ha]
            go_wp2
            go_ret
            exact ⟨ret_int (by rw [HD.out, if_neg (by rw [Hv.out]; decide), ← Hf.out]), K1.out.trans Hkp.out⟩
        · obtain rfl : k = e.l.length := by omega
          have hf := Hm.out
          rw [List.drop_length, Ex.rctL_nil] at hf
          have Hf := Lib.hid hf
          clear hf
          go_wp2
          go_ret
          exact ⟨ret_int (by rw [HD.out, if_neg (by rw [Hv.out]; decide), ← Hf.out]), K1.out.trans hkp⟩
set_option maxHeartbeats 2000000 in
set_option maxRecDepth 20000 in
/-- ref13.Valid -/
theorem rvalid13_any (e : Ex) (B : Nat) (w : World) (hat : e.at w B) : Calls Try.prog 12 #[.agg #[.int .i64 e.kind, .int .i64 e.rn, .int .i64 e.rd, .string e.name, .int .i64 e.pw, .slice e.a e.l.length e.c]] w fun r w' => r = .returned (.bool e.ok) ∧ Kp w w' := by
  have k1 : Kp w (w.alloc (.cells #[.int .i64 e.kind, .int .i64 e.rn, .int .i64 e.rd, .string e.name, .int .i64 e.pw, .slice e.a e.l.length e.c] 26)) := (Kp.refl w).alloc _
  have hS : ((w.alloc (.cells #[.int .i64 e.kind, .int .i64 e.rn, .int .i64 e.rd, .string e.name, .int .i64 e.pw, .slice e.a e.l.length e.c] 26)).cell? ⟨w.heap.size, 0, none⟩ = some (.int .i64 e.kind) ∧ (w.alloc (.cells #[.int .i64 e.kind, .int .i64 e.rn, .int .i64 e.rd, .string e.name, .int .i64 e.pw, .slice e.a e.l.length e.c] 26)).cell? ⟨w.heap.size, 1, none⟩ = some (.int .i64 e.rn) ∧ (w.alloc (.cells #[.int .i64 e.kind, .int .i64 e.rn, .int .i64 e.rd, .string e.name, .int .i64 e.pw, .slice e.a e.l.length e.c] 26)).cell? ⟨w.heap.size, 2, none⟩ = some (.int .i64 e.rd) ∧ (w.alloc (.cells #[.int .i64 e.kind, .int .i64 e.rn, .int .i64 e.rd, .string e.name, .int .i64 e.pw, .slice e.a e.l.length e.c] 26)).cell? ⟨w.heap.size, 3, none⟩ = some (.string e.name) ∧ (w.alloc (.cells #[.int .i64 e.kind, .int .i64 e.rn, .int .i64 e.rd, .string e.name, .int .i64 e.pw, .slice e.a e.l.length e.c] 26)).cell? ⟨w.heap.size, 4, none⟩ = some (.int .i64 e.pw) ∧ (w.alloc (.cells #[.int .i64 e.kind, .int .i64 e.rn, .int .i64 e.rd, .string e.name, .int .i64 e.pw, .slice e.a e.l.length e.c] 26)).cell? ⟨w.heap.size, 5, none⟩ = some (.slice e.a e.l.length e.c)) := by simp
  have hok := Lib.hid (rct_ok e)
  go_enter Try.func12, Try.ntmps12
  go_upto_region 1 with fail
  generalize w.alloc _ = W at *
  have HC := Lib.hid (rcount_any e 20 B W (Ex.at_kp hat k1) (by omega))
  have K1 := Lib.hid k1
  clear k1 hat
  obtain ⟨s0, s1, s2, s3, s4, s5⟩ := hS
  go_wp2_with (go_at_call 40; go_fit HC.out; rintro r w2 ⟨rfl, k2⟩)
  go_ret
  exact ⟨ret_bool (by rw [← hok.out]; apply decide_eq_decide.2; omega), K1.out.trans k2⟩
set_option maxHeartbeats 2000000 in
set_option maxRecDepth 20000 in
/-- ref13.Size -/
theorem rsize13_any (e : Ex) (B : Nat) (w : World) (hat : e.at w B) : Calls Try.prog 24 #[.agg #[.int .i64 e.kind, .int .i64 e.rn, .int .i64 e.rd, .string e.name, .int .i64 e.pw, .slice e.a e.l.length e.c]] w fun r w' => r = .returned (.int .i64 (e.rct 20 : Int)) ∧ Kp w w' := by
  have k1 : Kp w (w.alloc (.cells #[.int .i64 e.kind, .int .i64 e.rn, .int .i64 e.rd, .string e.name, .int .i64 e.pw, .slice e.a e.l.length e.c] 26)) := (Kp.refl w).alloc _
  have hS : ((w.alloc (.cells #[.int .i64 e.kind, .int .i64 e.rn, .int .i64 e.rd, .string e.name, .int .i64 e.pw, .slice e.a e.l.length e.c] 26)).cell? ⟨w.heap.size, 0, none⟩ = some (.int .i64 e.kind) ∧ (w.alloc (.cells #[.int .i64 e.kind, .int .i64 e.rn, .int .i64 e.rd, .string e.name, .int .i64 e.pw, .slice e.a e.l.length e.c] 26)).cell? ⟨w.heap.size, 1, none⟩ = some (.int .i64 e.rn) ∧ (w.alloc (.cells #[.int .i64 e.kind, .int .i64 e.rn, .int .i64 e.rd, .string e.name, .int .i64 e.pw, .slice e.a e.l.length e.c] 26)).cell? ⟨w.heap.size, 2, none⟩ = some (.int .i64 e.rd) ∧ (w.alloc (.cells #[.int .i64 e.kind, .int .i64 e.rn, .int .i64 e.rd, .string e.name, .int .i64 e.pw, .slice e.a e.l.length e.c] 26)).cell? ⟨w.heap.size, 3, none⟩ = some (.string e.name) ∧ (w.alloc (.cells #[.int .i64 e.kind, .int .i64 e.rn, .int .i64 e.rd, .string e.name, .int .i64 e.pw, .slice e.a e.l.length e.c] 26)).cell? ⟨w.heap.size, 4, none⟩ = some (.int .i64 e.pw) ∧ (w.alloc (.cells #[.int .i64 e.kind, .int .i64 e.rn, .int .i64 e.rd, .string e.name, .int .i64 e.pw, .slice e.a e.l.length e.c] 26)).cell? ⟨w.heap.size, 5, none⟩ = some (.slice e.a e.l.length e.c)) := by simp
  go_enter Try.func24, Try.ntmps24
  go_upto_region 1 with fail
  generalize w.alloc _ = W at *
  have HC := Lib.hid (rcount_any e 20 B W (Ex.at_kp hat k1) (by omega))
  have K1 := Lib.hid k1
  clear k1 hat
  obtain ⟨s0, s1, s2, s3, s4, s5⟩ := hS
  go_wp2_with (go_at_call 40; go_fit HC.out; rintro r w2 ⟨rfl, k2⟩)
  go_ret
  exact ⟨rfl, K1.out.trans k2⟩
end Go.Proofs.Ythaphbbeiglolaa
