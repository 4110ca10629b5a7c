/-
  Walks: lex.class, lex.word.
-/
import Derived.Test.YthaphbbeiglolaaLexP
import Derived.Test.YthaphbbeiglolaaIdxB
import Derived.Deep.CutRange
import Derived.Deep.DeepFit
import Derived.Deep.LoopGhost
namespace Go.Proofs.Ythaphbbeiglolaa
open Go.RowKit

set_option maxHeartbeats 4000000 in
set_option maxRecDepth 20000 in
/-- the class of a byte: 2: a letter; 2, 3, 4: what may stand in a word -/
theorem class_any (b : UInt8) (w : World) : Calls Try.prog 72 #[.int .u8 (b.toNat : Int)] w fun e w' =>
    ∃ k : Int, e = .returned (.int .i64 k) ∧ w' = w ∧ (k = 2 ↔ isLet b = true) ∧ ((k = 2 ∨ k = 3 ∨ k = 4) ↔ isRun b = true) := by
  have hb : b.toNat < 256 := b.toNat_lt
  have hL : isLet b = true ↔ (97 ≤ b.toNat ∧ b.toNat ≤ 122) ∨ (65 ≤ b.toNat ∧ b.toNat ≤ 90) := by unfold isLet; simp
  have hR : isRun b = true ↔ ((97 ≤ b.toNat ∧ b.toNat ≤ 122) ∨ (65 ≤ b.toNat ∧ b.toNat ≤ 90)) ∨ (48 ≤ b.toNat ∧ b.toNat ≤ 57) ∨ b.toNat = 95 := by unfold isRun isDig isLet; simp
  generalize hn : b.toNat = n at *
  have HL := Lib.hid hL
  have HR := Lib.hid hR
  clear hL hR hn
  generalize isLet b = l at *
  generalize isRun b = r at *
  clear b
  go_enter Try.func72, Try.ntmps72
  have n0 : (0 : Int) ≤ (n : Int) := by omega
  by_cases c0 : (n : Int) = 32
  · (go_wp2; go_ret; refine ⟨1, ?_, rfl, by rw [HL.out]; omega, by rw [HR.out]; omega⟩; rfl)
  replace c0 : ((n : Int) == 32) = false := beq_eq_false_iff_ne.2 c0
  by_cases c1 : (n : Int) = 9
  · (go_wp2; go_ret; refine ⟨1, ?_, rfl, by rw [HL.out]; omega, by rw [HR.out]; omega⟩; rfl)
  replace c1 : ((n : Int) == 9) = false := beq_eq_false_iff_ne.2 c1
  by_cases c2 : (n : Int) = 13
  · (go_wp2; go_ret; refine ⟨1, ?_, rfl, by rw [HL.out]; omega, by rw [HR.out]; omega⟩; rfl)
  replace c2 : ((n : Int) == 13) = false := beq_eq_false_iff_ne.2 c2
  by_cases c3 : (n : Int) = 10
  · (go_wp2; go_ret; refine ⟨1, ?_, rfl, by rw [HL.out]; omega, by rw [HR.out]; omega⟩; rfl)
  replace c3 : ((n : Int) == 10) = false := beq_eq_false_iff_ne.2 c3
  rcases (by omega : (0 ≤ n ∧ n ≤ 45) ∨ (46 ≤ n ∧ n ≤ 46) ∨ (47 ≤ n ∧ n ≤ 47) ∨ (48 ≤ n ∧ n ≤ 57) ∨ (58 ≤ n ∧ n ≤ 64) ∨ (65 ≤ n ∧ n ≤ 90) ∨ (91 ≤ n ∧ n ≤ 94) ∨ (95 ≤ n ∧ n ≤ 95) ∨ (96 ≤ n ∧ n ≤ 96) ∨ (97 ≤ n ∧ n ≤ 122) ∨ (123 ≤ n ∧ n ≤ 255)) with hi | hi | hi | hi | hi | hi | hi | hi | hi | hi | hi
  · have d0 : ¬ (97 : Int) ≤ (n : Int) := by omega
    have e0 : ¬ (65 : Int) ≤ (n : Int) := by omega
    have f0 : ¬ (48 : Int) ≤ (n : Int) := by omega
    have d1 : (n : Int) ≤ 122 := by omega
    have e1 : (n : Int) ≤ 90 := by omega
    have f1 : (n : Int) ≤ 57 := by omega
    have g : ((n : Int) == 95) = false := beq_eq_false_iff_ne.2 (by omega)
    have h : ((n : Int) == 46) = false := beq_eq_false_iff_ne.2 (by omega)
    have Hi := Lib.hid hi
    clear hi hb
    go_wp2_with (refine (ixb_any _ _ _).mono ?_; rintro e w' ⟨k2, rfl, rfl⟩; by_cases hk : (0 : Int) ≤ k2)
    · go_ret
      refine ⟨6, ?_, rfl, by rw [HL.out]; have := Hi.out; omega, by rw [HR.out]; have := Hi.out; omega⟩
      rfl
    · go_ret
      refine ⟨0, ?_, rfl, by rw [HL.out]; have := Hi.out; omega, by rw [HR.out]; have := Hi.out; omega⟩
      rfl
  · have d0 : ¬ (97 : Int) ≤ (n : Int) := by omega
    have e0 : ¬ (65 : Int) ≤ (n : Int) := by omega
    have f0 : ¬ (48 : Int) ≤ (n : Int) := by omega
    have d1 : (n : Int) ≤ 122 := by omega
    have e1 : (n : Int) ≤ 90 := by omega
    have f1 : (n : Int) ≤ 57 := by omega
    have g : ((n : Int) == 95) = false := beq_eq_false_iff_ne.2 (by omega)
    have h : (n : Int) = 46 := by omega
    have Hi := Lib.hid hi
    clear hi hb
    go_wp2
    go_ret
    refine ⟨5, ?_, rfl, by rw [HL.out]; have := Hi.out; omega, by rw [HR.out]; have := Hi.out; omega⟩
    rfl
  · have d0 : ¬ (97 : Int) ≤ (n : Int) := by omega
    have e0 : ¬ (65 : Int) ≤ (n : Int) := by omega
    have f0 : ¬ (48 : Int) ≤ (n : Int) := by omega
    have d1 : (n : Int) ≤ 122 := by omega
    have e1 : (n : Int) ≤ 90 := by omega
    have f1 : (n : Int) ≤ 57 := by omega
    have g : ((n : Int) == 95) = false := beq_eq_false_iff_ne.2 (by omega)
    have h : ((n : Int) == 46) = false := beq_eq_false_iff_ne.2 (by omega)
    have Hi := Lib.hid hi
    clear hi hb
    go_wp2_with (refine (ixb_any _ _ _).mono ?_; rintro e w' ⟨k2, rfl, rfl⟩; by_cases hk : (0 : Int) ≤ k2)
    · go_ret
      refine ⟨6, ?_, rfl, by rw [HL.out]; have := Hi.out; omega, by rw [HR.out]; have := Hi.out; omega⟩
      rfl
    · go_ret
      refine ⟨0, ?_, rfl, by rw [HL.out]; have := Hi.out; omega, by rw [HR.out]; have := Hi.out; omega⟩
      rfl
  · have d0 : ¬ (97 : Int) ≤ (n : Int) := by omega
    have e0 : ¬ (65 : Int) ≤ (n : Int) := by omega
    have f0 : (48 : Int) ≤ (n : Int) := by omega
    have d1 : (n : Int) ≤ 122 := by omega
    have e1 : (n : Int) ≤ 90 := by omega
    have f1 : (n : Int) ≤ 57 := by omega
    have g : ((n : Int) == 95) = false := beq_eq_false_iff_ne.2 (by omega)
    have h : ((n : Int) == 46) = false := beq_eq_false_iff_ne.2 (by omega)
    have Hi := Lib.hid hi
    clear hi hb
    go_wp2
    go_ret
    refine ⟨3, ?_, rfl, by rw [HL.out]; have := Hi.out; omega, by rw [HR.out]; have := Hi.out; omega⟩
    rfl
  · have d0 : ¬ (97 : Int) ≤ (n : Int) := by omega
    have e0 : ¬ (65 : Int) ≤ (n : Int) := by omega
    have f0 : (48 : Int) ≤ (n : Int) := by omega
    have d1 : (n : Int) ≤ 122 := by omega
    have e1 : (n : Int) ≤ 90 := by omega
    have f1 : ¬ (n : Int) ≤ 57 := by omega
    have g : ((n : Int) == 95) = false := beq_eq_false_iff_ne.2 (by omega)
    have h : ((n : Int) == 46) = false := beq_eq_false_iff_ne.2 (by omega)
    have Hi := Lib.hid hi
    clear hi hb
    go_wp2_with (refine (ixb_any _ _ _).mono ?_; rintro e w' ⟨k2, rfl, rfl⟩; by_cases hk : (0 : Int) ≤ k2)
    · go_ret
      refine ⟨6, ?_, rfl, by rw [HL.out]; have := Hi.out; omega, by rw [HR.out]; have := Hi.out; omega⟩
      rfl
    · go_ret
      refine ⟨0, ?_, rfl, by rw [HL.out]; have := Hi.out; omega, by rw [HR.out]; have := Hi.out; omega⟩
      rfl
  · have d0 : ¬ (97 : Int) ≤ (n : Int) := by omega
    have e0 : (65 : Int) ≤ (n : Int) := by omega
    have f0 : (48 : Int) ≤ (n : Int) := by omega
    have d1 : (n : Int) ≤ 122 := by omega
    have e1 : (n : Int) ≤ 90 := by omega
    have f1 : ¬ (n : Int) ≤ 57 := by omega
    have g : ((n : Int) == 95) = false := beq_eq_false_iff_ne.2 (by omega)
    have h : ((n : Int) == 46) = false := beq_eq_false_iff_ne.2 (by omega)
    have Hi := Lib.hid hi
    clear hi hb
    go_wp2
    go_ret
    refine ⟨2, ?_, rfl, by rw [HL.out]; have := Hi.out; omega, by rw [HR.out]; have := Hi.out; omega⟩
    rfl
  · have d0 : ¬ (97 : Int) ≤ (n : Int) := by omega
    have e0 : (65 : Int) ≤ (n : Int) := by omega
    have f0 : (48 : Int) ≤ (n : Int) := by omega
    have d1 : (n : Int) ≤ 122 := by omega
    have e1 : ¬ (n : Int) ≤ 90 := by omega
    have f1 : ¬ (n : Int) ≤ 57 := by omega
    have g : ((n : Int) == 95) = false := beq_eq_false_iff_ne.2 (by omega)
    have h : ((n : Int) == 46) = false := beq_eq_false_iff_ne.2 (by omega)
    have Hi := Lib.hid hi
    clear hi hb
    go_wp2_with (refine (ixb_any _ _ _).mono ?_; rintro e w' ⟨k2, rfl, rfl⟩; by_cases hk : (0 : Int) ≤ k2)
    · go_ret
      refine ⟨6, ?_, rfl, by rw [HL.out]; have := Hi.out; omega, by rw [HR.out]; have := Hi.out; omega⟩
      rfl
    · go_ret
      refine ⟨0, ?_, rfl, by rw [HL.out]; have := Hi.out; omega, by rw [HR.out]; have := Hi.out; omega⟩
      rfl
  · have d0 : ¬ (97 : Int) ≤ (n : Int) := by omega
    have e0 : (65 : Int) ≤ (n : Int) := by omega
    have f0 : (48 : Int) ≤ (n : Int) := by omega
    have d1 : (n : Int) ≤ 122 := by omega
    have e1 : ¬ (n : Int) ≤ 90 := by omega
    have f1 : ¬ (n : Int) ≤ 57 := by omega
    have g : (n : Int) = 95 := by omega
    have h : ((n : Int) == 46) = false := beq_eq_false_iff_ne.2 (by omega)
    have Hi := Lib.hid hi
    clear hi hb
    go_wp2
    go_ret
    refine ⟨4, ?_, rfl, by rw [HL.out]; have := Hi.out; omega, by rw [HR.out]; have := Hi.out; omega⟩
    rfl
  · have d0 : ¬ (97 : Int) ≤ (n : Int) := by omega
    have e0 : (65 : Int) ≤ (n : Int) := by omega
    have f0 : (48 : Int) ≤ (n : Int) := by omega
    have d1 : (n : Int) ≤ 122 := by omega
    have e1 : ¬ (n : Int) ≤ 90 := by omega
    have f1 : ¬ (n : Int) ≤ 57 := by omega
    have g : ((n : Int) == 95) = false := beq_eq_false_iff_ne.2 (by omega)
    have h : ((n : Int) == 46) = false := beq_eq_false_iff_ne.2 (by omega)
    have Hi := Lib.hid hi
    clear hi hb
    go_wp2_with (refine (ixb_any _ _ _).mono ?_; rintro e w' ⟨k2, rfl, rfl⟩; by_cases hk : (0 : Int) ≤ k2)
    · go_ret
      refine ⟨6, ?_, rfl, by rw [HL.out]; have := Hi.out; omega, by rw [HR.out]; have := Hi.out; omega⟩
      rfl
    · go_ret
      refine ⟨0, ?_, rfl, by rw [HL.out]; have := Hi.out; omega, by rw [HR.out]; have := Hi.out; omega⟩
      rfl
  · have d0 : (97 : Int) ≤ (n : Int) := by omega
    have e0 : (65 : Int) ≤ (n : Int) := by omega
    have f0 : (48 : Int) ≤ (n : Int) := by omega
    have d1 : (n : Int) ≤ 122 := by omega
    have e1 : ¬ (n : Int) ≤ 90 := by omega
    have f1 : ¬ (n : Int) ≤ 57 := by omega
    have g : ((n : Int) == 95) = false := beq_eq_false_iff_ne.2 (by omega)
    have h : ((n : Int) == 46) = false := beq_eq_false_iff_ne.2 (by omega)
    have Hi := Lib.hid hi
    clear hi hb
    go_wp2
    go_ret
    refine ⟨2, ?_, rfl, by rw [HL.out]; have := Hi.out; omega, by rw [HR.out]; have := Hi.out; omega⟩
    rfl
  · have d0 : (97 : Int) ≤ (n : Int) := by omega
    have e0 : (65 : Int) ≤ (n : Int) := by omega
    have f0 : (48 : Int) ≤ (n : Int) := by omega
    have d1 : ¬ (n : Int) ≤ 122 := by omega
    have e1 : ¬ (n : Int) ≤ 90 := by omega
    have f1 : ¬ (n : Int) ≤ 57 := by omega
    have g : ((n : Int) == 95) = false := beq_eq_false_iff_ne.2 (by omega)
    have h : ((n : Int) == 46) = false := beq_eq_false_iff_ne.2 (by omega)
    have Hi := Lib.hid hi
    clear hi hb
    go_wp2_with (refine (ixb_any _ _ _).mono ?_; rintro e w' ⟨k2, rfl, rfl⟩; by_cases hk : (0 : Int) ≤ k2)
    · go_ret
      refine ⟨6, ?_, rfl, by rw [HL.out]; have := Hi.out; omega, by rw [HR.out]; have := Hi.out; omega⟩
      rfl
    · go_ret
      refine ⟨0, ?_, rfl, by rw [HL.out]; have := Hi.out; omega, by rw [HR.out]; have := Hi.out; omega⟩
      rfl

set_option maxHeartbeats 1000000 in
set_option maxRecDepth 20000 in
/-- is the text a word, but for its length? -/
theorem lword_any (s : ByteArray) (w : World) (hs : s.size ≤ maxLen) : Calls Try.prog 56 #[.string s] w fun e w' => e = .returned (.bool (wordB s)) ∧ w' = w := by
  go_enter Try.func56, Try.ntmps56
  have hs2 : s.size ≤ 9223372036854775807 := hs
  by_cases h0 : s.size = 0
  · have hw := Lib.hid (word_empty h0)
    obtain rfl := size_zero.1 h0
    go_wp2
    go_ret
    exact ⟨ret_bool hw.out.symm, rfl⟩
  · have h1 : 0 < s.size := by omega
    have hb := Lib.hid (byte_at h1)
    have hne : s.toList.isEmpty = false := by
      rw [← Bool.not_eq_true, List.isEmpty_iff]; exact fun e => h0 (by rw [← byte_size, ← ByteArray.toList_eq, e]; rfl)
    have hs1 : (0 : Int) ≤ 0 ∧ (0 : Int) < s.size := by omega
    cases hl : isLet (s[0]'h1) with
    | false =>
      have hw := Lib.hid (word_let hb.out hl)
      go_wp2_with (refine (class_any _ _).mono ?_; rintro e w' ⟨k, rfl, rfl, hk1, hk2⟩; have hk : (k != 2) = true := (by rw [bne_iff_ne, Ne, hk1, hl]; decide); clear hk1 hk2)
      go_ret
      exact ⟨ret_bool hw.out.symm, rfl⟩
    | true =>
      have Hl := Lib.hid hl
      clear hl
      go_wp2_with (refine (class_any _ _).mono ?_; rintro e w' ⟨k, rfl, rfl, hk1, hk2⟩; have hk : k = 2 := (by rw [hk1]; exact Hl.out); subst hk; clear hk1 hk2 hs1 hne)
      go_loopw [15] (fun x wr => ∃ k : Nat, k ≤ s.size ∧ x = .int .i64 k ∧ (∀ (i : Nat) (c : UInt8), s.data.toList[i]? = some c → i < k → isRun c = true) ∧ wr = w') (fun x _ => s.size - (intOf x).toNat)
      case atStart => exact ⟨0, by omega, rfl, fun i c _ h => by omega, rfl⟩
      case round =>
        obtain ⟨k, hk, rfl, hz, rfl⟩ := hrel
        have Hz := Lib.hid hz; clear hz
        by_cases hlt : k < s.size
        · have Hk := Lib.hid (byte_at hlt)
          have hr : (0 : Int) ≤ k ∧ (k : Int) < s.size := by omega
          cases hq : isRun (s[k]'hlt) with
          | false =>
            have hw := Lib.hid (word_no Hk.out hq)
            have Hq := Lib.hid hq; clear hq
            go_wp2_with (refine (class_any _ _).mono ?_; rintro e w2 ⟨k2, rfl, rfl, hk1, hk2⟩; rw [Hq.out] at hk2; have a2 : (k2 != 2) = true := (bne_iff_ne.2 fun e => by simp [e] at hk2); have a3 : (k2 != 3) = true := (bne_iff_ne.2 fun e => by simp [e] at hk2); have a4 : (k2 != 4) = true := (bne_iff_ne.2 fun e => by simp [e] at hk2); clear hk1 hk2)
            go_ret
            exact ⟨ret_bool hw.out.symm, rfl⟩
          | true =>
            have Hq := Lib.hid hq; clear hq
            go_wp2_with (refine (class_any _ _).mono ?_; rintro e w2 ⟨k2, rfl, rfl, hk1, hk2⟩; rcases hk2.2 Hq.out with rfl | rfl | rfl <;> clear hk1 hk2)
            all_goals go_roundw
            all_goals first
              | (simp [intOf]; omega)
              | (refine ⟨k + 1, by omega, by go_num, fun i c hi hik => ?_, by trivial⟩
                 rcases Nat.lt_or_ge i k with hik2 | hik2
                 · exact Hz.out i c hi hik2
                 · rw [show i = k from by omega, Hk.out] at hi
                   injection hi with hi
                   rw [← hi]; exact Hq.out)
        · obtain rfl : k = s.size := by omega
          have hw := Lib.hid (word_yes hb.out Hl.out fun i c hi => Hz.out i c hi (by rw [← byte_size]; exact (List.getElem?_eq_some_iff.1 hi).1))
          go_wp2
          go_ret
          exact ⟨ret_bool hw.out.symm, rfl⟩

def keyL : List (List UInt8) := [[115, 116, 97, 116, 101], [112, 97, 114, 97, 109], [105, 110], [109, 111, 100, 101], [119, 104, 101, 110], [114, 105, 115, 101, 115], [102, 97, 108, 108, 115], [103, 111, 116, 111], [119, 105, 116, 104], [116, 105, 109, 101], [101, 120, 112], [108, 111, 103], [115, 105, 110], [99, 111, 115], [115, 113, 114, 116]]
theorem key_list (s : ByteArray) : keyB s = keyL.any fun k => s.toList == k := by
  have h : ∀ k : String, decide (s = k.toUTF8) = (s.toList == k.toUTF8.data.toList) := fun k => by rw [← ByteArray.toList_eq]; exact (str_eq s k.toUTF8).symm
  have e : keyL = keywords.map fun k => k.toUTF8.data.toList := by decide +kernel
  unfold keyB
  rw [e, List.any_map]
  congr 1
  funext k
  exact h k
set_option maxHeartbeats 2000000 in
/-- a reserved word -/
theorem lkey_any (s : ByteArray) (w : World) : Calls Try.prog 57 #[.string s] w fun e w' => e = .returned (.bool (keyB s)) ∧ w' = w := by
  have hk := Lib.hid (key_list s)
  go_enter Try.func57, Try.ntmps57
  go_wp2
  all_goals go_ret
  all_goals refine ⟨ret_bool ?_, rfl⟩
  all_goals rw [hk.out]
  all_goals simp_all [keyL]
set_option maxHeartbeats 2000000 in
/-- a name -/
theorem lname_any (s : ByteArray) (w : World) (hs : s.size ≤ maxLen) : Calls Try.prog 38 #[.string s] w fun e w' => e = .returned (.bool (nameB s)) ∧ w' = w := by
  have hd : nameB s = (wordB s && (decide (s.size ≤ 20) && !keyB s)) := rfl
  have HW := Lib.hid (lword_any s w hs)
  have HK := Lib.hid (lkey_any s w)
  go_enter Try.func38, Try.ntmps38
  cases h1 : wordB s with
  | false =>
    rw [h1] at hd HW
    have Hd := Lib.hid hd; clear hd h1
    go_wp2_with (refine HW.out.mono ?_; rintro e w' ⟨rfl, rfl⟩)
    go_ret
    exact ⟨ret_bool Hd.out.symm, rfl⟩
  | true =>
    rw [h1] at hd HW
    by_cases h2 : s.size ≤ 20
    · rw [decide_eq_true h2] at hd
      have Hd := Lib.hid hd; clear hd h1
      have h3 : (s.size : Int) ≤ 20 := by omega
      go_wp2_with (first | (refine HW.out.mono ?_; rintro e w' ⟨rfl, rfl⟩) | (refine HK.out.mono ?_; rintro e w' ⟨rfl, rfl⟩) | fail)
      go_ret
      exact ⟨ret_bool (by rw [Hd.out]; simp), rfl⟩
    · rw [decide_eq_false h2] at hd
      have Hd := Lib.hid hd; clear hd h1
      have h3 : ¬ (s.size : Int) ≤ 20 := by omega
      go_wp2_with (refine HW.out.mono ?_; rintro e w' ⟨rfl, rfl⟩)
      go_ret
      exact ⟨ret_bool (by rw [Hd.out]; rfl), rfl⟩
end Go.Proofs.Ythaphbbeiglolaa
