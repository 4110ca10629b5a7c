/-
  Plain: the bytes of a text; words.
-/
import Derived.Test.YthaphbbeiglolaaTreN
namespace Go.Proofs.Ythaphbbeiglolaa

theorem str_eq (a b : ByteArray) : (a.toList == b.toList) = decide (a = b) := by
  by_cases h : a = b
  · subst h; simp
  · have : a.toList ≠ b.toList := fun e => h (by
      rw [ByteArray.toList_eq, ByteArray.toList_eq] at e
      cases a; cases b
      simp only [] at e
      congr 1
      exact Array.toList_inj.1 e)
    rw [decide_eq_false h]
    exact beq_eq_false_iff_ne.2 this
theorem byte_at {s : ByteArray} {i : Nat} (h : i < s.size) : s.data.toList[i]? = some (s[i]'h) := by
  have h1 : i < s.data.toList.length := by rw [Array.length_toList]; exact h
  rw [List.getElem?_eq_getElem h1]
  rfl
theorem byte_size (s : ByteArray) : s.data.toList.length = s.size := Array.length_toList
theorem size_zero {s : ByteArray} : s.size = 0 ↔ s = ByteArray.empty := by
  constructor
  · intro h
    obtain ⟨⟨l⟩⟩ := s
    have : l = [] := List.length_eq_zero_iff.1 h
    rw [this]; rfl
  · rintro rfl; rfl
theorem let_run {b : UInt8} (h : isLet b = true) : isRun b = true := by unfold isRun; rw [h]; rfl
theorem all_at {p : UInt8 → Bool} {l : List UInt8} : l.all p = true ↔ ∀ (i : Nat) (b : UInt8), l[i]? = some b → p b = true := by
  rw [List.all_eq_true]
  constructor
  · intro h i b hi; exact h b (List.mem_of_getElem? hi)
  · intro h b hb
    obtain ⟨i, hi⟩ := List.getElem?_of_mem hb
    exact h i b hi
/-- a word: its first byte is a letter, all its bytes may stand in a word -/
theorem word_iff (s : ByteArray) : wordB s = true ↔ (∃ b, s.data.toList[0]? = some b ∧ isLet b = true) ∧ ∀ (i : Nat) (b : UInt8), s.data.toList[i]? = some b → isRun b = true := by
  unfold wordB
  cases hl : s.data.toList with
  | nil => simp
  | cons b t =>
    show (isLet b && t.all isRun) = true ↔ _
    rw [Bool.and_eq_true, all_at]
    constructor
    · rintro ⟨h1, h2⟩
      refine ⟨⟨b, rfl, h1⟩, fun i c hi => ?_⟩
      cases i with
      | zero => injection hi with hi; subst hi; exact let_run h1
      | succ j => exact h2 j c hi
    · rintro ⟨⟨c, hc, h1⟩, h2⟩
      injection hc with hc; subst hc
      exact ⟨h1, fun i c hi => h2 (i + 1) c hi⟩
theorem word_no {s : ByteArray} {i : Nat} {b : UInt8} (h : s.data.toList[i]? = some b) (hr : isRun b = false) : wordB s = false := by
  refine Bool.eq_false_iff.2 fun hw => ?_
  rw [((word_iff s).1 hw).2 i b h] at hr
  cases hr
theorem word_let {s : ByteArray} {b : UInt8} (h : s.data.toList[0]? = some b) (hl : isLet b = false) : wordB s = false := by
  refine Bool.eq_false_iff.2 fun hw => ?_
  obtain ⟨⟨c, hc, h1⟩, _⟩ := (word_iff s).1 hw
  rw [h] at hc; injection hc with hc; subst hc
  rw [h1] at hl; cases hl
theorem word_empty {s : ByteArray} (h : s.size = 0) : wordB s = false := by
  unfold wordB
  have : s.data.toList = [] := List.length_eq_zero_iff.1 (by rw [byte_size]; exact h)
  rw [this]
theorem word_yes {s : ByteArray} {b : UInt8} (h0 : s.data.toList[0]? = some b) (h1 : isLet b = true) (h : ∀ (i : Nat) (c : UInt8), s.data.toList[i]? = some c → isRun c = true) : wordB s = true := (word_iff s).2 ⟨⟨b, h0, h1⟩, h⟩
end Go.Proofs.Ythaphbbeiglolaa
