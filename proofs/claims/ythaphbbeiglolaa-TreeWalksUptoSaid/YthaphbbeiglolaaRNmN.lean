/-
  Walks: ref12: the names.
-/
import Derived.Test.YthaphbbeiglolaaEvrS
namespace Go.Proofs.Ythaphbbeiglolaa
open Go.RowKit Go.Sort

set_option maxHeartbeats 1000000 in
theorem r12let_any (b : UInt8) (w : World) : Calls Try.prog 76 #[.int .u8 (b.toNat : Int)] w fun e w' => e = .returned (.bool (isLet b)) ∧ w' = w := by
  have hL : isLet b = ((decide (97 ≤ b.toNat) && decide (b.toNat ≤ 122)) || (decide (65 ≤ b.toNat) && decide (b.toNat ≤ 90))) := rfl
  generalize isLet b = l at *
  generalize b.toNat = n at *
  rcases (by omega : n < 65 ∨ (65 ≤ n ∧ n ≤ 90) ∨ (91 ≤ n ∧ n ≤ 96) ∨ (97 ≤ n ∧ n ≤ 122) ∨ 123 ≤ n) with h | h | h | h | h
  all_goals
    have H := Lib.hid h
    have HL := Lib.hid hL
    clear hL
    go_enter Try.func76, Try.ntmps76
  · have d0 : ¬ (97 : Int) ≤ (n : Int) := by omega
    have e0 : ¬ (65 : Int) ≤ (n : Int) := by omega
    clear h
    go_wp2
    go_ret
    exact ⟨ret_bool (by rw [HL.out]; have := H.out; rw [decide_eq_false (by omega : ¬ 97 ≤ n), decide_eq_false (by omega : ¬ 65 ≤ n)]; rfl), rfl⟩
  · have d0 : ¬ (97 : Int) ≤ (n : Int) := by omega
    have e0 : (65 : Int) ≤ (n : Int) := by omega
    have e1 : (n : Int) ≤ 90 := by omega
    clear h
    go_wp2
    go_ret
    exact ⟨ret_bool (by rw [HL.out]; have := H.out; rw [decide_eq_false (by omega : ¬ 97 ≤ n), decide_eq_true (by omega : 65 ≤ n), decide_eq_true (by omega : n ≤ 90)]; rfl), rfl⟩
  · have d0 : ¬ (97 : Int) ≤ (n : Int) := by omega
    have e0 : (65 : Int) ≤ (n : Int) := by omega
    have e1 : ¬ (n : Int) ≤ 90 := by omega
    clear h
    go_wp2
    go_ret
    exact ⟨ret_bool (by rw [HL.out]; have := H.out; rw [decide_eq_false (by omega : ¬ 97 ≤ n), decide_eq_true (by omega : 65 ≤ n), decide_eq_false (by omega : ¬ n ≤ 90)]; rfl), rfl⟩
  · have d0 : (97 : Int) ≤ (n : Int) := by omega
    have d1 : (n : Int) ≤ 122 := by omega
    clear h
    go_wp2
    go_ret
    exact ⟨ret_bool (by rw [HL.out]; have := H.out; rw [decide_eq_true (by omega : 97 ≤ n), decide_eq_true (by omega : n ≤ 122)]; rfl), rfl⟩
  · have d0 : (97 : Int) ≤ (n : Int) := by omega
    have d1 : ¬ (n : Int) ≤ 122 := by omega
    have e0 : (65 : Int) ≤ (n : Int) := by omega
    have e1 : ¬ (n : Int) ≤ 90 := by omega
    clear h
    go_wp2
    go_ret
    exact ⟨ret_bool (by rw [HL.out]; have := H.out; rw [decide_eq_true (by omega : 97 ≤ n), decide_eq_false (by omega : ¬ n ≤ 122), decide_eq_true (by omega : 65 ≤ n), decide_eq_false (by omega : ¬ n ≤ 90)]; rfl), rfl⟩
set_option maxHeartbeats 1000000 in
theorem r12dig_any (b : UInt8) (w : World) : Calls Try.prog 77 #[.int .u8 (b.toNat : Int)] w fun e w' => e = .returned (.bool (isDig b)) ∧ w' = w := by
  have hL : isDig b = (decide (48 ≤ b.toNat) && decide (b.toNat ≤ 57)) := rfl
  generalize isDig b = l at *
  generalize b.toNat = n at *
  have HL := Lib.hid hL
  clear hL
  go_enter Try.func77, Try.ntmps77
  by_cases h1 : 48 ≤ n
  · have H1 := Lib.hid h1
    have d0 : (48 : Int) ≤ (n : Int) := by omega
    by_cases h2 : n ≤ 57
    · have H2 := Lib.hid h2
      have d1 : (n : Int) ≤ 57 := by omega
      clear h1 h2
      go_wp2
      go_ret
      exact ⟨ret_bool (by rw [HL.out, decide_eq_true H1.out, decide_eq_true H2.out]; rfl), rfl⟩
    · have H2 := Lib.hid h2
      have d1 : ¬ (n : Int) ≤ 57 := by omega
      clear h1 h2
      go_wp2
      go_ret
      exact ⟨ret_bool (by rw [HL.out, decide_eq_true H1.out, decide_eq_false H2.out]; rfl), rfl⟩
  · have H1 := Lib.hid h1
    have d0 : ¬ (48 : Int) ≤ (n : Int) := by omega
    clear h1
    go_wp2
    go_ret
    exact ⟨ret_bool (by rw [HL.out, decide_eq_false H1.out]; rfl), rfl⟩
/-- may the byte stand in a run? -/
def inRunB (b : UInt8) : Bool := isRun b || decide (b.toNat = 46)
set_option maxHeartbeats 1000000 in
theorem r12run_any (b : UInt8) (w : World) : Calls Try.prog 75 #[.int .u8 (b.toNat : Int)] w fun e w' => e = .returned (.bool (inRunB b)) ∧ w' = w := by
  have hL : inRunB b = ((isLet b || (isDig b || decide (b.toNat = 95))) || decide (b.toNat = 46)) := rfl
  have HA := Lib.hid (r12let_any b w)
  have HD := Lib.hid (r12dig_any b w)
  generalize inRunB b = r at *
  generalize isLet b = l at *
  generalize isDig b = d at *
  generalize b.toNat = n at *
  go_enter Try.func75, Try.ntmps75
  cases l
  · cases d
    · by_cases h1 : n = 95
      · have HL := Lib.hid hL
        have H1 := Lib.hid h1
        have e1 : ((n : Int) == 95) = true := by rw [h1]; rfl
        clear hL h1
        go_wp2_with (first | (go_at_call 76; go_fit HA.out; rintro e w' ⟨rfl, rfl⟩) | (go_at_call 77; go_fit HD.out; rintro e w' ⟨rfl, rfl⟩) | fail)
        go_ret
        exact ⟨ret_bool (by rw [HL.out, decide_eq_true H1.out]; rfl), rfl⟩
      · by_cases h2 : n = 46
        · have HL := Lib.hid hL
          have H1 := Lib.hid h1
          have H2 := Lib.hid h2
          have e1 : ((n : Int) == 95) = false := beq_eq_false_iff_ne.2 (by omega)
          have e2 : ((n : Int) == 46) = true := by rw [h2]; rfl
          clear hL h1 h2
          go_wp2_with (first | (go_at_call 76; go_fit HA.out; rintro e w' ⟨rfl, rfl⟩) | (go_at_call 77; go_fit HD.out; rintro e w' ⟨rfl, rfl⟩) | fail)
          go_ret
          exact ⟨ret_bool (by rw [HL.out, decide_eq_true H2.out]; simp), rfl⟩
        · have HL := Lib.hid hL
          have H1 := Lib.hid h1
          have H2 := Lib.hid h2
          have e1 : ((n : Int) == 95) = false := beq_eq_false_iff_ne.2 (by omega)
          have e2 : ((n : Int) == 46) = false := beq_eq_false_iff_ne.2 (by omega)
          clear hL h1 h2
          go_wp2_with (first | (go_at_call 76; go_fit HA.out; rintro e w' ⟨rfl, rfl⟩) | (go_at_call 77; go_fit HD.out; rintro e w' ⟨rfl, rfl⟩) | fail)
          go_ret
          exact ⟨ret_bool (by rw [HL.out, decide_eq_false H1.out, decide_eq_false H2.out]; rfl), rfl⟩
    · have HL := Lib.hid hL
      clear hL
      go_wp2_with (first | (go_at_call 76; go_fit HA.out; rintro e w' ⟨rfl, rfl⟩) | (go_at_call 77; go_fit HD.out; rintro e w' ⟨rfl, rfl⟩) | fail)
      go_ret
      exact ⟨ret_bool (by rw [HL.out]; rfl), rfl⟩
  · have HL := Lib.hid hL
    clear hL
    go_wp2_with (first | (go_at_call 76; go_fit HA.out; rintro e w' ⟨rfl, rfl⟩) | (go_at_call 77; go_fit HD.out; rintro e w' ⟨rfl, rfl⟩) | fail)
    go_ret
    exact ⟨ret_bool (by rw [HL.out]; rfl), rfl⟩
set_option maxHeartbeats 1000000 in
set_option maxRecDepth 20000 in
theorem r12word_any (s : ByteArray) (w : World) (hs : s.size ≤ maxLen) : Calls Try.prog 60 #[.string s] w fun e w' => e = .returned (.bool (wordB s)) ∧ w' = w := by
  go_enter Try.func60, Try.ntmps60
  have hs2 : s.size ≤ 9223372036854775807 := hs
  go_wp2
  go_loopw [3] (fun x wr => ∃ k : Nat, k ≤ s.size ∧ x = .int .i64 k ∧ (∀ (i : Nat) (c : UInt8), s.data.toList[i]? = some c → i < k → isRun c = true) ∧ wr = w) (fun x _ => s.size - (intOf x).toNat)
  case atStart => exact ⟨0, by omega, rfl, fun i c _ h => by omega, rfl⟩
  case round =>
    obtain ⟨k, hk, rfl, hz, rfl⟩ := hrel
    have Hz := Lib.hid hz; clear hz
    by_cases hlt : k < s.size
    · have Hk := Lib.hid (byte_at hlt)
      have hr : (0 : Int) ≤ k ∧ (k : Int) < s.size := by omega
      by_cases h46 : (s[k]'hlt).toNat = 46
      · have hw := Lib.hid (word_no Hk.out (b := s[k]'hlt) (by unfold isRun isDig isLet; rw [h46]; rfl))
        have e1 : (((s[k]'hlt).toNat : Int) == 46) = true := by rw [h46]; rfl
        have e2 : (((s[k]'hlt).toNat : Int)) = 46 := by rw [h46]; rfl
        clear h46
        go_wp2
        go_ret
        exact ⟨ret_bool hw.out.symm, rfl⟩
      · have e1 : (((s[k]'hlt).toNat : Int) == 46) = false := beq_eq_false_iff_ne.2 (by omega)
        have HR := Lib.hid (show inRunB (s[k]'hlt) = isRun (s[k]'hlt) by unfold inRunB; rw [decide_eq_false h46, Bool.or_false])
        clear h46
        cases hq : isRun (s[k]'hlt) with
        | false =>
          have hw := Lib.hid (word_no Hk.out hq)
          have HC := Lib.hid (r12run_any (s[k]'hlt) wr)
          rw [HR.out, hq] at HC
          clear hq
          go_wp2_with (first | (go_at_call 75; go_fit HC.out; rintro e w' ⟨rfl, rfl⟩) | fail)
          go_ret
          exact ⟨ret_bool hw.out.symm, rfl⟩
        | true =>
          have HC := Lib.hid (r12run_any (s[k]'hlt) wr)
          rw [HR.out, hq] at HC
          have Hq := Lib.hid hq; clear hq
          go_wp2_with (first | (go_at_call 75; go_fit HC.out; rintro e w' ⟨rfl, rfl⟩) | fail)
          all_goals go_roundw
          all_goals first
            | (simp [intOf]; omega)
            | (refine ⟨k + 1, by omega, by go_num, fun i c hi hik => ?_, by trivial⟩
               rcases Nat.lt_or_ge i k with hik2 | hik2
               · exact Hz.out i c hi hik2
               · rw [show i = k from by omega, Hk.out] at hi
                 injection hi with hi
                 rw [← hi]; exact Hq.out)
    · obtain rfl : k = s.size := by omega
      have Hrun := Lib.hid (fun i c (hi : s.data.toList[i]? = some c) => Hz.out i c hi (by rw [← byte_size]; exact (List.getElem?_eq_some_iff.1 hi).1))
      by_cases h0 : s.size = 0
      · have hw := Lib.hid (word_empty h0)
        obtain rfl := size_zero.1 h0
        go_wp2
        go_ret
        exact ⟨ret_bool hw.out.symm, rfl⟩
      · have h1 : 0 < s.size := by omega
        have hb := Lib.hid (byte_at h1)
        have hne : s.toList.isEmpty = false := by
          rw [← Bool.not_eq_true, List.isEmpty_iff]; exact fun e => h0 (by rw [← byte_size, ← ByteArray.toList_eq, e]; rfl)
        have hs1 : (0 : Int) ≤ 0 ∧ (0 : Int) < s.size := by omega
        have HC := Lib.hid (r12let_any (s[0]'h1) wr)
        cases hl : isLet (s[0]'h1) with
        | false =>
          have hw := Lib.hid (word_let hb.out hl)
          rw [hl] at HC
          clear hl
          go_wp2_with (first | (go_at_call 76; go_fit HC.out; rintro e w' ⟨rfl, rfl⟩) | fail)
          go_ret
          exact ⟨ret_bool hw.out.symm, rfl⟩
        | true =>
          have hw := Lib.hid (word_yes hb.out hl Hrun.out)
          rw [hl] at HC
          clear hl
          go_wp2_with (first | (go_at_call 76; go_fit HC.out; rintro e w' ⟨rfl, rfl⟩) | fail)
          go_ret
          exact ⟨ret_bool hw.out.symm, rfl⟩

def NumOut (r : Ending) : Prop := ∃ (n : Int) (b : Bool), r = .returned (.tuple #[.int .i64 n, .bool b])
def KindOut (s : ByteArray) (r : Ending) : Prop := ∃ k f : Int, r = .returned (.tuple #[.int .i64 k, .int .i64 f]) ∧ (k == 1) = (wordB s && decide (s.size ≤ 20))
set_option maxHeartbeats 1000000 in
set_option maxRecDepth 20000 in
/-- some number and some Bool -/
theorem r12num_any (s : ByteArray) (w : World) (hs : s.size ≤ maxLen) : Calls Try.prog 61 #[.string s] w fun e w' => NumOut e ∧ w' = w := by
  go_enter Try.func61, Try.ntmps61
  have hs2 : s.size ≤ 9223372036854775807 := hs
  go_wp2
  go_loopw [4, 5, 6] (fun x y z wr => ∃ k p d : Nat, k ≤ s.size ∧ p ≤ k ∧ d ≤ k ∧ x = .int .i64 p ∧ y = .int .i64 d ∧ z = .int .i64 k ∧ wr = w) (fun _ _ z _ => s.size - (intOf z).toNat)
  case atStart => exact ⟨0, 0, 0, by omega, by omega, by omega, rfl, rfl, rfl, rfl⟩
  case round =>
    obtain ⟨k, p, d, hk, hp, hd, rfl, rfl, rfl, rfl⟩ := hrel
    by_cases hlt : k < s.size
    · have hr : (0 : Int) ≤ k ∧ (k : Int) < s.size := by omega
      by_cases h46 : (s[k]'hlt).toNat = 46
      · have e1 : (((s[k]'hlt).toNat : Int) == 46) = true := by rw [h46]; rfl
        have e2 : (((s[k]'hlt).toNat : Int)) = 46 := by rw [h46]; rfl
        clear h46
        go_wp2
        go_roundw
        case rel => exact ⟨k + 1, p + 1, d, by omega, by omega, by omega, by go_num, rfl, by go_num, trivial⟩
        case measure => simp [intOf]; omega
      · have e1 : (((s[k]'hlt).toNat : Int) == 46) = false := beq_eq_false_iff_ne.2 (by omega)
        clear h46
        have HC := Lib.hid (r12dig_any (s[k]'hlt) wr)
        cases hq : isDig (s[k]'hlt) with
        | false =>
          rw [hq] at HC
          clear hq
          go_wp2_with (first | (go_at_call 77; go_fit HC.out; rintro e w' ⟨rfl, rfl⟩) | fail)
          first
            | (refine bodyPost_ret (v := .tuple #[.int .i64 0, .bool false]) ?_ rfl ?_; (focus (simp [results, Try.results61, go_sem]; done)); exact ⟨⟨_, _, rfl⟩, rfl⟩)
            | (refine bodyPost_ret (v := .tuple #[.int .i64 d, .bool true]) ?_ rfl ?_; (focus (simp [results, Try.results61, go_sem]; done)); exact ⟨⟨_, _, rfl⟩, rfl⟩)
            | fail
        | true =>
          rw [hq] at HC
          clear hq
          go_wp2_with (first | (go_at_call 77; go_fit HC.out; rintro e w' ⟨rfl, rfl⟩) | fail)
          go_roundw
          case rel => exact ⟨k + 1, p, d + 1, by omega, by omega, by omega, rfl, by go_num, by go_num, trivial⟩
          case measure => simp [intOf]; omega
    · obtain rfl : k = s.size := by omega
      by_cases hp1 : (1 : Int) < p
      · go_wp2
        first
          | (refine bodyPost_ret (v := .tuple #[.int .i64 0, .bool false]) ?_ rfl ?_; (focus (simp [results, Try.results61, go_sem]; done)); exact ⟨⟨_, _, rfl⟩, rfl⟩)
          | (refine bodyPost_ret (v := .tuple #[.int .i64 d, .bool true]) ?_ rfl ?_; (focus (simp [results, Try.results61, go_sem]; done)); exact ⟨⟨_, _, rfl⟩, rfl⟩)
          | fail
      by_cases h0 : s.size = 0
      · obtain rfl := size_zero.1 h0
        go_wp2
        first
          | (refine bodyPost_ret (v := .tuple #[.int .i64 0, .bool false]) ?_ rfl ?_; (focus (simp [results, Try.results61, go_sem]; done)); exact ⟨⟨_, _, rfl⟩, rfl⟩)
          | (refine bodyPost_ret (v := .tuple #[.int .i64 d, .bool true]) ?_ rfl ?_; (focus (simp [results, Try.results61, go_sem]; done)); exact ⟨⟨_, _, rfl⟩, rfl⟩)
          | fail
      · have h1 : 0 < s.size := by omega
        have hne : s.toList.isEmpty = false := by
          rw [← Bool.not_eq_true, List.isEmpty_iff]; exact fun e => h0 (by rw [← byte_size, ← ByteArray.toList_eq, e]; rfl)
        have hs1 : (0 : Int) ≤ 0 ∧ (0 : Int) < s.size := by omega
        by_cases h46 : (s[0]'h1).toNat = 46
        · have e1 : (((s[0]'h1).toNat : Int) == 46) = true := by rw [h46]; rfl
          have e2 : (((s[0]'h1).toNat : Int)) = 46 := by rw [h46]; rfl
          clear h46
          go_wp2
          first
            | (refine bodyPost_ret (v := .tuple #[.int .i64 0, .bool false]) ?_ rfl ?_; (focus (simp [results, Try.results61, go_sem]; done)); exact ⟨⟨_, _, rfl⟩, rfl⟩)
            | (refine bodyPost_ret (v := .tuple #[.int .i64 d, .bool true]) ?_ rfl ?_; (focus (simp [results, Try.results61, go_sem]; done)); exact ⟨⟨_, _, rfl⟩, rfl⟩)
            | fail
        · have e1 : (((s[0]'h1).toNat : Int) == 46) = false := beq_eq_false_iff_ne.2 (by omega)
          clear h46
          have h2 : s.size - 1 < s.size := by omega
          have hs3 : (0 : Int) ≤ (s.size : Int) - 1 ∧ (s.size : Int) - 1 < s.size := by omega
          go_wp2
          all_goals
            first
              | (refine bodyPost_ret (v := .tuple #[.int .i64 0, .bool false]) ?_ rfl ?_; (focus (simp [results, Try.results61, go_sem]; done)); exact ⟨⟨_, _, rfl⟩, rfl⟩)
              | (refine bodyPost_ret (v := .tuple #[.int .i64 d, .bool true]) ?_ rfl ?_; (focus (simp [results, Try.results61, go_sem]; done)); exact ⟨⟨_, _, rfl⟩, rfl⟩)
              | fail
set_option maxHeartbeats 1000000 in
/-- a word of at most 20 bytes, or not -/
theorem r12kind_any (s : ByteArray) (w : World) (hs : s.size ≤ maxLen) : Calls Try.prog 41 #[.string s] w fun e w' => KindOut s e ∧ w' = w := by
  have HW := Lib.hid (r12word_any s w hs)
  have HN := Lib.hid (r12num_any s w hs)
  go_enter Try.func41, Try.ntmps41
  cases h1 : wordB s with
  | true =>
    rw [h1] at HW
    by_cases h2 : s.size ≤ 20
    · have h3 : (s.size : Int) ≤ 20 := by omega
      have Hv := Lib.hid (show ((1 : Int) == 1) = (wordB s && decide (s.size ≤ 20)) by rw [h1, decide_eq_true h2]; rfl)
      go_wp2_with (first | (go_at_call 60; go_fit HW.out; rintro e w' ⟨rfl, rfl⟩) | fail)
      first
        | (refine bodyPost_ret (v := .tuple #[.int .i64 0, .int .i64 3]) ?_ rfl ?_; (focus (simp [results, Try.results41, go_sem]; done)); exact ⟨⟨_, _, rfl, Hv.out⟩, rfl⟩)
        | (refine bodyPost_ret (v := .tuple #[.int .i64 0, .int .i64 5]) ?_ rfl ?_; (focus (simp [results, Try.results41, go_sem]; done)); exact ⟨⟨_, _, rfl, Hv.out⟩, rfl⟩)
        | (refine bodyPost_ret (v := .tuple #[.int .i64 1, .int .i64 0]) ?_ rfl ?_; (focus (simp [results, Try.results41, go_sem]; done)); exact ⟨⟨_, _, rfl, Hv.out⟩, rfl⟩)
        | (refine bodyPost_ret (v := .tuple #[.int .i64 2, .int .i64 0]) ?_ rfl ?_; (focus (simp [results, Try.results41, go_sem]; done)); exact ⟨⟨_, _, rfl, Hv2.out⟩, rfl⟩)
        | fail
    · have h3 : ¬ (s.size : Int) ≤ 20 := by omega
      have Hv := Lib.hid (show ((0 : Int) == 1) = (wordB s && decide (s.size ≤ 20)) by rw [h1, decide_eq_false h2]; rfl)
      go_wp2_with (first | (go_at_call 60; go_fit HW.out; rintro e w' ⟨rfl, rfl⟩) | fail)
      first
        | (refine bodyPost_ret (v := .tuple #[.int .i64 0, .int .i64 3]) ?_ rfl ?_; (focus (simp [results, Try.results41, go_sem]; done)); exact ⟨⟨_, _, rfl, Hv.out⟩, rfl⟩)
        | (refine bodyPost_ret (v := .tuple #[.int .i64 0, .int .i64 5]) ?_ rfl ?_; (focus (simp [results, Try.results41, go_sem]; done)); exact ⟨⟨_, _, rfl, Hv.out⟩, rfl⟩)
        | (refine bodyPost_ret (v := .tuple #[.int .i64 1, .int .i64 0]) ?_ rfl ?_; (focus (simp [results, Try.results41, go_sem]; done)); exact ⟨⟨_, _, rfl, Hv.out⟩, rfl⟩)
        | (refine bodyPost_ret (v := .tuple #[.int .i64 2, .int .i64 0]) ?_ rfl ?_; (focus (simp [results, Try.results41, go_sem]; done)); exact ⟨⟨_, _, rfl, Hv2.out⟩, rfl⟩)
        | fail
  | false =>
    rw [h1] at HW
    have Hv := Lib.hid (show ((0 : Int) == 1) = (wordB s && decide (s.size ≤ 20)) by rw [h1, Bool.false_and]; rfl)
    have Hv2 := Lib.hid (show ((2 : Int) == 1) = (wordB s && decide (s.size ≤ 20)) by rw [h1, Bool.false_and]; rfl)
    go_wp2_with (first | (go_at_call 60; go_fit HW.out; rintro e w' ⟨rfl, rfl⟩) | (go_at_call 61; go_fit HN.out; rintro e w' ⟨⟨n, b, rfl⟩, rfl⟩; cases b <;> by_cases hn : 18 < n) | fail)
    all_goals
      first
        | (refine bodyPost_ret (v := .tuple #[.int .i64 0, .int .i64 3]) ?_ rfl ?_; (focus (simp [results, Try.results41, go_sem]; done)); exact ⟨⟨_, _, rfl, Hv.out⟩, rfl⟩)
        | (refine bodyPost_ret (v := .tuple #[.int .i64 0, .int .i64 5]) ?_ rfl ?_; (focus (simp [results, Try.results41, go_sem]; done)); exact ⟨⟨_, _, rfl, Hv.out⟩, rfl⟩)
        | (refine bodyPost_ret (v := .tuple #[.int .i64 1, .int .i64 0]) ?_ rfl ?_; (focus (simp [results, Try.results41, go_sem]; done)); exact ⟨⟨_, _, rfl, Hv.out⟩, rfl⟩)
        | (refine bodyPost_ret (v := .tuple #[.int .i64 2, .int .i64 0]) ?_ rfl ?_; (focus (simp [results, Try.results41, go_sem]; done)); exact ⟨⟨_, _, rfl, Hv2.out⟩, rfl⟩)
        | fail

def keyA : List ByteArray := keyL.map fun l => ⟨l.toArray⟩
def ResOut (w w' : World) (r : Ending) : Prop := (∃ g, r = .returned (.slice (some ⟨g, 0, none⟩) 15 15) ∧ RowS w' (some ⟨g, 0, none⟩) keyA) ∧ Kp w w'
set_option maxHeartbeats 1000000 in
theorem r12res_any (w : World) : Calls Try.prog 62 #[] w fun e w' => ResOut w w' e := by
  go_enter Try.func62, Try.ntmps62
  go_wp2
  generalize hA : (#[Value.string _, _, _, _, _, _, _, _, _, _, _, _, _, _, _] : Array Value) = A
  go_ret
  refine ⟨⟨_, rfl, fun i s hs => ⟨_, 0, rfl, ?_⟩⟩, (Kp.refl _).alloc _⟩
  have hi : i < 15 := by have := (List.getElem?_eq_some_iff.1 hs).1; exact this
  subst hA
  rcases (by omega : i = 0 ∨ i = 1 ∨ i = 2 ∨ i = 3 ∨ i = 4 ∨ i = 5 ∨ i = 6 ∨ i = 7 ∨ i = 8 ∨ i = 9 ∨ i = 10 ∨ i = 11 ∨ i = 12 ∨ i = 13 ∨ i = 14) with rfl | rfl | rfl | rfl | rfl | rfl | rfl | rfl | rfl | rfl | rfl | rfl | rfl | rfl | rfl
  all_goals
    injection hs with hs
    subst hs
    simp
theorem key_any (s : ByteArray) : keyB s = keyA.any fun k => k.toList == s.toList := by
  rw [key_list, keyA, List.any_map]
  congr 1
  funext l
  have h : (ByteArray.mk l.toArray).toList = l := by rw [ByteArray.toList_eq]
  show _ = ((ByteArray.mk l.toArray).toList == s.toList)
  rw [h, Bool.beq_comm]
set_option maxHeartbeats 2000000 in
/-- a reserved word -/
theorem r12key_any (s : ByteArray) (w : World) : Calls Try.prog 42 #[.string s] w fun e w' => e = .returned (.bool (keyB s)) ∧ Kp w w' := by
  have hk := Lib.hid (key_any s)
  have hlen : keyA.length = 15 := rfl
  have HL := Lib.hid hlen
  clear hlen
  have HR := Lib.hid (r12res_any w)
  obtain ⟨L, hLL⟩ : ∃ L, L = keyA := ⟨_, rfl⟩
  rw [← hLL] at hk HL
  have HLL := Lib.hid hLL; clear hLL
  have hk0 := hk; clear hk
  go_enter Try.func42, Try.ntmps42
  go_wp2_with (first | (go_at_call 62; go_fit HR.out; rintro e w1 ⟨⟨g, rfl, hrow⟩, k1⟩) | fail)
  rw [← HLL.out] at hrow
  have HW := Lib.hid hrow
  clear hrow
  go_loopw [4] (fun x wr => ∃ k : Nat, k ≤ 15 ∧ x = .int .i64 (k : Int) ∧ (∀ (i : Nat) (c : ByteArray), L[i]? = some c → i < k → (c.toList == s.toList) = false) ∧ wr = w1) (fun x _ => 15 - (intOf x).toNat)
  case atStart => exact ⟨0, by omega, rfl, fun i c _ h => by omega, rfl⟩
  case round =>
    obtain ⟨k, hk, rfl, hz, rfl⟩ := hrel
    have Hz := Lib.hid hz; clear hz
    by_cases hlt : k < 15
    · obtain ⟨c, hc⟩ : ∃ c, L[k]? = some c := ⟨_, List.getElem?_eq_getElem (by rw [HL.out]; exact hlt)⟩
      obtain ⟨b, o, ha, h0⟩ := HW.out k c hc
      have Hc := Lib.hid hc; clear hc
      injection ha with ha; injection ha with hb ho _
      subst hb ho
      rw [Nat.zero_add] at h0
      cases hq : (c.toList == s.toList) with
      | true =>
        have Hq := Lib.hid hq
        have Ha := Lib.hid (show L.any (fun k => k.toList == s.toList) = true from List.any_eq_true.2 ⟨c, List.mem_of_getElem? Hc.out, hq⟩)
        go_wp2
        go_ret
        exact ⟨ret_bool (by rw [hk0.out, Ha.out]), k1⟩
      | false =>
        have Hq := Lib.hid hq
        go_wp2
        go_roundw
        case rel =>
          refine ⟨k + 1, by omega, by go_num, fun i c' hi hik => ?_, by trivial⟩
          rcases Nat.lt_or_ge i k with hik2 | hik2
          · exact Hz.out i c' hi hik2
          · rw [show i = k from by omega, Hc.out] at hi
            injection hi with hi
            rw [← hi]; exact Hq.out
        case measure => simp [intOf]; omega
    · obtain rfl : k = 15 := by omega
      have Ha := Lib.hid (show L.any (fun k => k.toList == s.toList) = false from List.any_eq_false.2 fun c hc => by
        obtain ⟨i, hi⟩ := List.getElem?_of_mem hc
        rw [Hz.out i c hi (by rw [← HL.out]; exact (List.getElem?_eq_some_iff.1 hi).1)]
        simp)
      go_wp2
      go_ret
      exact ⟨ret_bool (by rw [hk0.out, Ha.out]), k1⟩
set_option maxHeartbeats 2000000 in
/-- a name -/
theorem r12name_any (s : ByteArray) (w : World) (hs : s.size ≤ maxLen) : Calls Try.prog 13 #[.string s] w fun e w' => e = .returned (.bool (nameB s)) ∧ Kp w w' := by
  have hd : nameB s = ((wordB s && decide (s.size ≤ 20)) && !keyB s) := by unfold nameB; rw [Bool.and_assoc]
  have HI := Lib.hid (r12kind_any s w hs)
  have HK := Lib.hid (r12key_any s w)
  go_enter Try.func13, Try.ntmps13
  cases h1 : (wordB s && decide (s.size ≤ 20)) with
  | false =>
    rw [h1] at hd
    have H1 := Lib.hid h1
    have Hd := Lib.hid hd; clear hd h1
    go_wp2_with (first | (go_at_call 41; go_fit HI.out; rintro e w' ⟨⟨k, f, rfl, hk⟩, rfl⟩; rw [H1.out] at hk) | fail)
    go_ret
    exact ⟨ret_bool Hd.out.symm, .refl _⟩
  | true =>
    rw [h1] at hd
    have H1 := Lib.hid h1
    have Hd := Lib.hid hd; clear hd h1
    go_wp2_with (first | (go_at_call 41; go_fit HI.out; rintro e w' ⟨⟨k, f, rfl, hk⟩, rfl⟩; rw [H1.out] at hk; (obtain rfl : k = 1 := by simpa using hk); clear hk) | (go_at_call 42; go_fit HK.out; rintro e w' ⟨rfl, k1⟩) | fail)
    go_ret
    exact ⟨ret_bool (by rw [Hd.out, Bool.true_and]), k1⟩
end Go.Proofs.Ythaphbbeiglolaa
