/-
  Plain: sorted lists of names; no program in sight.
-/
import Derived.Test.YthaphbbeiglolaaTreS
namespace Go.Proofs.Ythaphbbeiglolaa

theorem bl_irrefl : ∀ x : List UInt8, Op.bytesLess x x = false
  | [] => rfl
  | a :: x => by
    unfold Op.bytesLess
    rw [bl_irrefl x]
    simp
theorem bl_trans : ∀ x y z : List UInt8, Op.bytesLess x y = true → Op.bytesLess y z = true → Op.bytesLess x z = true
  | _, [], _, h, _ => by unfold Op.bytesLess at h; cases h
  | _, _ :: _, [], _, h => by unfold Op.bytesLess at h; cases h
  | [], _ :: _, _ :: _, _, _ => rfl
  | a :: x, b :: y, c :: z, h1, h2 => by
    unfold Op.bytesLess at h1 h2 ⊢
    simp only [Bool.or_eq_true, decide_eq_true_eq, Bool.and_eq_true, beq_iff_eq] at h1 h2 ⊢
    rcases h1 with h1 | ⟨rfl, h1⟩
    · rcases h2 with h2 | ⟨rfl, h2⟩
      · exact .inl (UInt8.lt_trans h1 h2)
      · exact .inl h1
    · rcases h2 with h2 | ⟨rfl, h2⟩
      · exact .inl h2
      · exact .inr ⟨rfl, bl_trans x y z h1 h2⟩
theorem bl_total : ∀ x y : List UInt8, Op.bytesLess x y = false → Op.bytesLess y x = false → x = y
  | [], [], _, _ => rfl
  | [], _ :: _, h, _ => by unfold Op.bytesLess at h; cases h
  | _ :: _, [], _, h => by unfold Op.bytesLess at h; cases h
  | a :: x, b :: y, h1, h2 => by
    unfold Op.bytesLess at h1 h2
    simp only [Bool.or_eq_false_iff, decide_eq_false_iff_not, Bool.and_eq_false_iff, beq_eq_false_iff_ne] at h1 h2
    have hab : a = b := by
      have e1 : ¬ a.toNat < b.toNat := fun h => h1.1 (UInt8.lt_iff_toNat_lt.2 h)
      have e2 : ¬ b.toNat < a.toNat := fun h => h2.1 (UInt8.lt_iff_toNat_lt.2 h)
      exact UInt8.toNat_inj.1 (by omega)
    subst hab
    rw [bl_total x y (by rcases h1.2 with h | h; exact absurd rfl h; exact h) (by rcases h2.2 with h | h; exact absurd rfl h; exact h)]
/-- ahead of -/
def blt (x y : ByteArray) : Bool := Op.bytesLess x.toList y.toList
theorem blt_irrefl (x : ByteArray) : blt x x = false := bl_irrefl _
theorem blt_trans {x y z : ByteArray} (h1 : blt x y = true) (h2 : blt y z = true) : blt x z = true := bl_trans _ _ _ h1 h2
theorem blt_total {x y : ByteArray} (h1 : blt x y = false) (h2 : blt y x = false) : x = y := by
  have h := bl_total _ _ h1 h2
  rw [ByteArray.toList_eq, ByteArray.toList_eq] at h
  exact Go.WideShapes.bytes_inj h
theorem blt_ne {x y : ByteArray} (h : blt x y = true) : x ≠ y := fun e => by rw [e, blt_irrefl] at h; cases h
/-- strictly ascending -/
def Asc : List ByteArray → Prop
  | [] => True
  | x :: t => (∀ y ∈ t, blt x y = true) ∧ Asc t
/-- the reference's Insert -/
def insS : List ByteArray → ByteArray → List ByteArray
  | [], s => [s]
  | x :: t, s => if blt x s = true then x :: insS t s else if x = s then x :: t else s :: x :: t
theorem insS_mem {y s : ByteArray} : ∀ {l : List ByteArray}, y ∈ insS l s ↔ y = s ∨ y ∈ l
  | [] => by unfold insS; simp
  | x :: t => by
    unfold insS
    split
    · rw [List.mem_cons, insS_mem (l := t), List.mem_cons]
      constructor
      · rintro (h | h | h)
        · exact .inr (.inl h)
        · exact .inl h
        · exact .inr (.inr h)
      · rintro (h | h | h)
        · exact .inr (.inl h)
        · exact .inl h
        · exact .inr (.inr h)
    · split
      · next hx =>
        subst hx
        constructor
        · exact fun h => .inr h
        · rintro (h | h)
          · rw [h]; exact .head _
          · exact h
      · simp
theorem insS_asc {s : ByteArray} : ∀ {l : List ByteArray}, Asc l → Asc (insS l s)
  | [], _ => by unfold insS; exact ⟨fun y h => by simp at h, trivial⟩
  | x :: t, h => by
    unfold insS
    split
    · next hx =>
      refine ⟨fun y hy => ?_, insS_asc h.2⟩
      rcases insS_mem.1 hy with rfl | hy
      · exact hx
      · exact h.1 y hy
    · split
      · exact h
      · next h1 h2 =>
        have hsx : blt s x = true := by
          cases hb : blt s x with
          | true => rfl
          | false => exact absurd (blt_total (by simpa using h1) hb) h2
        refine ⟨fun y hy => ?_, h⟩
        rcases List.mem_cons.1 hy with rfl | hy
        · exact hsx
        · exact blt_trans hsx (h.1 y hy)
/-- ascending lists of the same names are one -/
theorem asc_uniq : ∀ {l m : List ByteArray}, Asc l → Asc m → (∀ y, y ∈ l ↔ y ∈ m) → l = m
  | [], [], _, _, _ => rfl
  | [], y :: u, _, _, h => absurd ((h y).2 (.head _)) (by simp)
  | x :: t, [], _, _, h => absurd ((h x).1 (.head _)) (by simp)
  | x :: t, y :: u, hl, hm, h => by
    have hxy : x = y := by
      have h1 := (h x).1 (.head _)
      have h2 := (h y).2 (.head _)
      rcases List.mem_cons.1 h1 with e | h1
      · exact e
      · rcases List.mem_cons.1 h2 with e | h2
        · exact e.symm
        · have := blt_trans (hl.1 y h2) (hm.1 x h1)
          rw [blt_irrefl] at this; cases this
    subst hxy
    rw [asc_uniq hl.2 hm.2 fun z => ?_]
    constructor
    · intro hz
      rcases List.mem_cons.1 ((h z).1 (.tail _ hz)) with e | h1
      · exact absurd e (blt_ne (hl.1 z hz)).symm
      · exact h1
    · intro hz
      rcases List.mem_cons.1 ((h z).2 (.tail _ hz)) with e | h1
      · exact absurd e (blt_ne (hm.1 z hz)).symm
      · exact h1
/-- the names of a list, ascending -/
def namesL (vs : List ByteArray) : List ByteArray := vs.foldl insS []
theorem foldl_asc : ∀ (vs l : List ByteArray), Asc l → Asc (vs.foldl insS l) ∧ ∀ y, y ∈ vs.foldl insS l ↔ y ∈ l ∨ y ∈ vs
  | [], l, h => ⟨h, fun y => by simp⟩
  | v :: vs, l, h => by
    obtain ⟨h1, h2⟩ := foldl_asc vs (insS l v) (insS_asc h)
    refine ⟨h1, fun y => ?_⟩
    rw [List.foldl_cons, h2 y, insS_mem, List.mem_cons]
    constructor
    · rintro ((h | h) | h)
      · exact .inr (.inl h)
      · exact .inl h
      · exact .inr (.inr h)
    · rintro (h | h | h)
      · exact .inl (.inr h)
      · exact .inl (.inl h)
      · exact .inr h
theorem namesL_asc (vs : List ByteArray) : Asc (namesL vs) := (foldl_asc vs [] trivial).1
theorem namesL_mem {vs : List ByteArray} {y : ByteArray} : y ∈ namesL vs ↔ y ∈ vs := by rw [show y ∈ namesL vs ↔ _ from (foldl_asc vs [] trivial).2 y]; simp
/-- ascending, but for equal neighbours -/
def Wsc : List ByteArray → Prop
  | [] => True
  | x :: t => (∀ y ∈ t, blt y x = false) ∧ Wsc t
/-- equal neighbours struck -/
def cmpS : List ByteArray → List ByteArray
  | [] => []
  | x :: t => match cmpS t with
    | [] => [x]
    | y :: u => if x = y then y :: u else x :: y :: u
theorem cmpS_mem {y : ByteArray} : ∀ {l : List ByteArray}, y ∈ cmpS l ↔ y ∈ l
  | [] => by unfold cmpS; exact Iff.rfl
  | x :: t => by
    have ih := cmpS_mem (y := y) (l := t)
    unfold cmpS
    rw [List.mem_cons, ← ih]
    split
    · next h => rw [h]; simp
    · next z u h =>
      rw [h]
      split
      · next hx =>
        subst hx
        simp
      · rw [List.mem_cons]
theorem cmpS_asc : ∀ {l : List ByteArray}, Wsc l → Asc (cmpS l)
  | [], _ => by unfold cmpS; trivial
  | x :: t, h => by
    have ih := cmpS_asc h.2
    have hm : ∀ y, y ∈ cmpS t → blt y x = false := fun y hy => h.1 y (cmpS_mem.1 hy)
    unfold cmpS
    split
    · exact ⟨fun y hy => by simp at hy, trivial⟩
    · next z u hz =>
      rw [hz] at ih hm
      split
      · exact ih
      · next hx =>
        have hxz : blt x z = true := by
          cases hb : blt x z with
          | true => rfl
          | false => exact absurd (blt_total hb (hm z (.head _))) hx
        refine ⟨fun y hy => ?_, ih⟩
        rcases List.mem_cons.1 hy with rfl | hy
        · exact hxz
        · exact blt_trans hxz (ih.1 y hy)
/-- sorted, and equal neighbours struck: the same list -/
theorem cmpS_names {l vs : List ByteArray} (hw : Wsc l) (hm : ∀ y, y ∈ l ↔ y ∈ vs) : cmpS l = namesL vs :=
  asc_uniq (cmpS_asc hw) (namesL_asc vs) fun y => by rw [cmpS_mem, namesL_mem, hm y]
end Go.Proofs.Ythaphbbeiglolaa
