/-
  Plain arithmetic of lists of limbs (base 2^32), no program in sight.
-/
import Derived.KernelRfl
namespace Go.Proofs.Ythaphbbeiglolaa

/-- the number that limbs stand for, the least significant one first -/
def val : List Nat → Nat
  | [] => 0
  | x :: xs => x + 4294967296 * val xs

/-- all limbs are below 2^32 -/
def Lt32 (xs : List Nat) : Prop := ∀ x ∈ xs, x < 4294967296

/-- element i, 0 behind the end -/
def nth (xs : List Nat) (i : Nat) : Nat := xs.getD i 0

theorem Lt32.nil : Lt32 [] := fun _ h => by cases h
theorem Lt32.cons {x : Nat} {xs : List Nat} (h : x < 4294967296) (hs : Lt32 xs) : Lt32 (x :: xs) := by
  intro y hy
  rcases List.mem_cons.1 hy with rfl | hy
  · exact h
  · exact hs y hy
theorem Lt32.append {xs ys : List Nat} (h : Lt32 xs) (hs : Lt32 ys) : Lt32 (xs ++ ys) := by
  intro y hy
  rcases List.mem_append.1 hy with hy | hy
  · exact h y hy
  · exact hs y hy
theorem Lt32.snoc {xs : List Nat} {x : Nat} (h : Lt32 xs) (hs : x < 4294967296) : Lt32 (xs ++ [x]) := h.append (.cons hs .nil)
theorem Lt32.take {xs : List Nat} (h : Lt32 xs) (n : Nat) : Lt32 (xs.take n) := fun y hy => h y (List.mem_of_mem_take hy)
theorem Lt32.drop {xs : List Nat} (h : Lt32 xs) (n : Nat) : Lt32 (xs.drop n) := fun y hy => h y (List.mem_of_mem_drop hy)
theorem Lt32.nth {xs : List Nat} (h : Lt32 xs) (i : Nat) : nth xs i < 4294967296 := by
  unfold Go.Proofs.Ythaphbbeiglolaa.nth
  rw [List.getD_eq_getElem?_getD]
  by_cases hi : i < xs.length
  · rw [List.getElem?_eq_getElem hi]; exact h _ (List.getElem_mem hi)
  · rw [List.getElem?_eq_none (by omega)]; decide
theorem Lt32.set {xs : List Nat} (h : Lt32 xs) (i x : Nat) (hx : x < 4294967296) : Lt32 (xs.set i x) := by
  intro y hy
  rcases List.mem_or_eq_of_mem_set hy with hy | rfl
  · exact h y hy
  · exact hx
theorem Lt32.replicate (n : Nat) : Lt32 (List.replicate n 0) := by
  intro y hy
  rw [(List.mem_replicate.1 hy).2]; decide

theorem nth_eq {xs : List Nat} {i : Nat} (h : i < xs.length) : nth xs i = xs[i] := by
  unfold nth; rw [List.getD_eq_getElem?_getD, List.getElem?_eq_getElem h]; rfl
theorem nth_ge {xs : List Nat} {i : Nat} (h : xs.length ≤ i) : nth xs i = 0 := by
  unfold nth; rw [List.getD_eq_getElem?_getD, List.getElem?_eq_none h]; rfl
theorem nth_get? {xs : List Nat} {i : Nat} (h : i < xs.length) : xs[i]? = some (nth xs i) := by
  rw [nth_eq h, List.getElem?_eq_getElem h]
theorem nth_cons_zero (x : Nat) (xs : List Nat) : nth (x :: xs) 0 = x := rfl
theorem nth_cons_succ (x : Nat) (xs : List Nat) (i : Nat) : nth (x :: xs) (i + 1) = nth xs i := by
  unfold nth; simp
theorem nth_append_left {xs ys : List Nat} {i : Nat} (h : i < xs.length) : nth (xs ++ ys) i = nth xs i := by
  rw [nth_eq h, nth_eq (by simp; omega), List.getElem_append_left h]
theorem nth_append_right {xs ys : List Nat} {i : Nat} (h : xs.length ≤ i) : nth (xs ++ ys) i = nth ys (i - xs.length) := by
  by_cases h2 : i < (xs ++ ys).length
  · rw [nth_eq h2, nth_eq (by simp at h2; omega), List.getElem_append_right h]
  · rw [nth_ge (by omega), nth_ge (by simp at h2; omega)]
theorem nth_take {xs : List Nat} {n i : Nat} (h : i < n) : nth (xs.take n) i = nth xs i := by
  unfold nth
  simp [h]
theorem nth_drop {xs : List Nat} {n i : Nat} : nth (xs.drop n) i = nth xs (n + i) := by
  unfold nth
  simp [List.getElem?_drop]
theorem nth_set_eq {xs : List Nat} {i x : Nat} (h : i < xs.length) : nth (xs.set i x) i = x := by
  rw [nth_eq (by simpa using h)]; simp
theorem nth_set_ne {xs : List Nat} {i j x : Nat} (h : i ≠ j) : nth (xs.set i x) j = nth xs j := by
  unfold nth; simp [List.getElem?_set_ne h]
theorem nth_replicate (n i : Nat) : nth (List.replicate n 0) i = 0 := by
  by_cases h : i < n
  · rw [nth_eq (by simpa using h)]; simp
  · exact nth_ge (by simp; omega)

theorem take_succ_nth {xs : List Nat} {n : Nat} (h : n < xs.length) : xs.take (n + 1) = xs.take n ++ [nth xs n] := by
  rw [List.take_succ_eq_append_getElem h, nth_eq h]
theorem drop_eq_nth {xs : List Nat} {n : Nat} (h : n < xs.length) : xs.drop n = nth xs n :: xs.drop (n + 1) := by
  rw [List.drop_eq_getElem_cons h, nth_eq h]
theorem set_eq_take_drop {xs : List Nat} {i x : Nat} (h : i < xs.length) : xs.set i x = xs.take i ++ x :: xs.drop (i + 1) := by
  rw [List.set_eq_take_append_cons_drop, if_pos h]

theorem val_nil : val [] = 0 := rfl
theorem val_cons (x : Nat) (xs : List Nat) : val (x :: xs) = x + 4294967296 * val xs := rfl
theorem val_append (xs ys : List Nat) : val (xs ++ ys) = val xs + 4294967296 ^ xs.length * val ys := by
  induction xs with
  | nil => simp [val]
  | cons x xs ih =>
    simp only [List.cons_append, val, ih, List.length_cons, Nat.pow_succ]
    rw [Nat.mul_add, ← Nat.mul_assoc, Nat.mul_comm 4294967296 (4294967296 ^ xs.length)]
    omega
theorem val_snoc (xs : List Nat) (x : Nat) : val (xs ++ [x]) = val xs + 4294967296 ^ xs.length * x := by
  rw [val_append]; simp [val]
theorem val_take_succ {xs : List Nat} {n : Nat} (h : n < xs.length) : val (xs.take (n + 1)) = val (xs.take n) + 4294967296 ^ n * nth xs n := by
  rw [take_succ_nth h, val_snoc, List.length_take, Nat.min_eq_left (by omega)]
theorem val_take_drop (xs : List Nat) (n : Nat) (h : n ≤ xs.length) : val xs = val (xs.take n) + 4294967296 ^ n * val (xs.drop n) := by
  conv => lhs; rw [← List.take_append_drop n xs]
  rw [val_append, List.length_take, Nat.min_eq_left h]
theorem val_lt {xs : List Nat} (h : Lt32 xs) : val xs < 4294967296 ^ xs.length := by
  induction xs with
  | nil => simp [val]
  | cons x xs ih =>
    have h1 := h x (List.mem_cons_self ..)
    have h2 := ih (fun y hy => h y (List.mem_cons_of_mem _ hy))
    simp only [val, List.length_cons, Nat.pow_succ]
    omega
theorem val_replicate (n : Nat) : val (List.replicate n 0) = 0 := by
  induction n with
  | zero => rfl
  | succ n ih => simp [List.replicate_succ, val, ih]
theorem val_zeros {xs : List Nat} (h : ∀ i, i < xs.length → nth xs i = 0) : val xs = 0 := by
  induction xs with
  | nil => rfl
  | cons x xs ih =>
    have h0 := h 0 (by simp)
    rw [nth_cons_zero] at h0
    have := ih (fun i hi => by have := h (i + 1) (by simp; omega); rwa [nth_cons_succ] at this)
    simp [val, this, h0]
theorem val_set {xs : List Nat} {i x : Nat} (h : i < xs.length) : val (xs.set i x) + 4294967296 ^ i * nth xs i = val xs + 4294967296 ^ i * x := by
  have e := val_take_drop xs i (by omega)
  rw [drop_eq_nth h, val_cons] at e
  rw [set_eq_take_drop h, val_append, val_cons, List.length_take, Nat.min_eq_left (by omega), e, Nat.mul_add, Nat.mul_add]
  omega

theorem val_take_step (xs : List Nat) (n : Nat) : val (xs.take (n + 1)) = val (xs.take n) + 4294967296 ^ n * nth xs n := by
  by_cases h : n < xs.length
  · exact val_take_succ h
  · rw [nth_ge (by omega), List.take_of_length_le (by omega), List.take_of_length_le (by omega)]; simp
theorem take_set_succ {xs : List Nat} {i x : Nat} (h : i < xs.length) : (xs.set i x).take (i + 1) = xs.take i ++ [x] := by
  rw [take_succ_nth (by simpa using h), nth_set_eq h, List.take_set_of_le (Nat.le_refl i)]
theorem val_take_set {xs : List Nat} {i x : Nat} (h : i < xs.length) : val ((xs.set i x).take (i + 1)) = val (xs.take i) + 4294967296 ^ i * x := by
  rw [take_set_succ h, val_snoc, List.length_take, Nat.min_eq_left (by omega)]
theorem add_step {xs ys zs : List Nat} {k c : Nat} (hk : k < zs.length) (h : val (zs.take k) + 4294967296 ^ k * c = val (xs.take k) + val (ys.take k)) :
    val ((zs.set k ((nth xs k + nth ys k + c) % 4294967296)).take (k + 1)) + 4294967296 ^ (k + 1) * ((nth xs k + nth ys k + c) / 4294967296) = val (xs.take (k + 1)) + val (ys.take (k + 1)) := by
  rw [val_take_set hk, val_take_step xs, val_take_step ys, Nat.pow_succ, Nat.mul_assoc]
  generalize 4294967296 ^ k = P at *
  have e2 : P * (nth xs k + nth ys k + c) = P * nth xs k + P * nth ys k + P * c := by rw [Nat.mul_add, Nat.mul_add]
  generalize nth xs k + nth ys k + c = s at *
  have e : P * (s % 4294967296) + P * (4294967296 * (s / 4294967296)) = P * s := by
    rw [← Nat.mul_add]; congr 1; omega
  omega

theorem val_set_last {zs : List Nat} {k c : Nat} (h : zs.length = k + 1) : val (zs.set k c) = val (zs.take k) + 4294967296 ^ k * c := by
  have := val_take_set (x := c) (show k < zs.length by omega)
  rwa [List.take_of_length_le (by simp; omega)] at this

theorem sub_step {xs ys zs : List Nat} {k c z c' : Nat} (hk : k < zs.length) (h : val (zs.take k) + val (ys.take k) = val (xs.take k) + 4294967296 ^ k * c) (e : z + nth ys k + c = nth xs k + 4294967296 * c') :
    val ((zs.set k z).take (k + 1)) + val (ys.take (k + 1)) = val (xs.take (k + 1)) + 4294967296 ^ (k + 1) * c' := by
  rw [val_take_set hk, val_take_step xs, val_take_step ys, Nat.pow_succ, Nat.mul_assoc]
  generalize 4294967296 ^ k = P at *
  have e2 : P * (z + nth ys k + c) = P * z + P * nth ys k + P * c := by rw [Nat.mul_add, Nat.mul_add]
  have e3 : P * (nth xs k + 4294967296 * c') = P * nth xs k + P * (4294967296 * c') := by rw [Nat.mul_add]
  rw [e] at e2
  omega

/-- no zero limb at the top -/
def Top (xs : List Nat) : Prop := xs.getLast? ≠ some 0

/-- the limbs of a number, without zeros at the top -/
def limbs (n : Nat) : List Nat := if n = 0 then [] else n % 4294967296 :: limbs (n / 4294967296)
termination_by n
decreasing_by omega

theorem limbs_zero : limbs 0 = [] := by rw [limbs]; rfl
theorem limbs_pos {n : Nat} (h : n ≠ 0) : limbs n = n % 4294967296 :: limbs (n / 4294967296) := by rw [limbs, if_neg h]

theorem limbs_lt32 (n : Nat) : Lt32 (limbs n) := by
  induction n using Nat.strongRecOn with
  | _ n ih =>
    by_cases h : n = 0
    · subst h; rw [limbs_zero]; exact .nil
    · rw [limbs_pos h]; exact .cons (by omega) (ih _ (by omega))
theorem val_limbs (n : Nat) : val (limbs n) = n := by
  induction n using Nat.strongRecOn with
  | _ n ih =>
    by_cases h : n = 0
    · subst h; rw [limbs_zero]; rfl
    · rw [limbs_pos h, val_cons, ih _ (by omega)]; omega
theorem limbs_eq_nil {n : Nat} : limbs n = [] ↔ n = 0 := by
  constructor
  · intro h; have := val_limbs n; rw [h] at this; exact this.symm
  · rintro rfl; exact limbs_zero
theorem top_cons {x : Nat} {xs : List Nat} (h : xs ≠ []) : Top (x :: xs) ↔ Top xs := by
  unfold Top; rw [List.getLast?_cons]
  cases xs with
  | nil => exact absurd rfl h
  | cons y ys => simp [List.getLast?_cons]
theorem limbs_top (n : Nat) : Top (limbs n) := by
  induction n using Nat.strongRecOn with
  | _ n ih =>
    by_cases h : n = 0
    · subst h; rw [limbs_zero]; simp [Top]
    · rw [limbs_pos h]
      by_cases h2 : n / 4294967296 = 0
      · rw [h2, limbs_zero]; simp [Top]; omega
      · rw [top_cons (by rw [Ne, limbs_eq_nil]; exact h2)]; exact ih _ (by omega)
theorem val_eq_zero_top {xs : List Nat} (ht : Top xs) (h0 : val xs = 0) : xs = [] := by
  induction xs with
  | nil => rfl
  | cons x xs ih =>
    simp only [val] at h0
    by_cases hx : xs = []
    · subst hx; simp [Top, val] at ht h0; omega
    · exact absurd (ih ((top_cons hx).1 ht) (by omega)) hx
theorem limbs_val {xs : List Nat} (h : Lt32 xs) (ht : Top xs) : limbs (val xs) = xs := by
  induction xs with
  | nil => exact limbs_zero
  | cons x xs ih =>
    have hx := h x (List.mem_cons_self ..)
    have hne : val (x :: xs) ≠ 0 := fun h0 => by cases val_eq_zero_top ht h0
    rw [limbs_pos hne, val_cons]
    have e1 : (x + 4294967296 * val xs) % 4294967296 = x := by omega
    have e2 : (x + 4294967296 * val xs) / 4294967296 = val xs := by omega
    rw [e1, e2]
    by_cases hn : xs = []
    · subst hn; rw [val_nil, limbs_zero]
    · rw [ih (fun y hy => h y (List.mem_cons_of_mem _ hy)) ((top_cons hn).1 ht)]
theorem limbs_inj {m n : Nat} (h : limbs m = limbs n) : m = n := by rw [← val_limbs m, ← val_limbs n, h]
theorem limbs_length_le {n k : Nat} : (limbs n).length ≤ k ↔ n < 4294967296 ^ k := by
  induction k generalizing n with
  | zero => rw [Nat.le_zero, List.length_eq_zero_iff, limbs_eq_nil]; simp
  | succ k ih =>
    by_cases h : n = 0
    · subst h; rw [limbs_zero]; simp; exact Nat.pow_pos (by decide)
    · rw [limbs_pos h, List.length_cons, Nat.succ_le_succ_iff, ih, Nat.pow_succ]
      omega
theorem top_take {xs : List Nat} {n : Nat} (h : n ≤ xs.length) (h0 : 0 < n → nth xs (n - 1) ≠ 0) : Top (xs.take n) := by
  unfold Top
  by_cases hn : n = 0
  · subst hn; simp
  · rw [List.getLast?_eq_getElem?, List.length_take, Nat.min_eq_left h, List.getElem?_take, if_pos (by omega), nth_get? (by omega)]
    intro hh; exact h0 (by omega) (Option.some.inj hh)
theorem top_nth {xs : List Nat} (h : Top xs) (hn : 0 < xs.length) : nth xs (xs.length - 1) ≠ 0 := by
  intro h0
  apply h
  rw [List.getLast?_eq_getElem?, nth_get? (by omega), h0]
theorem top_of_nth {xs : List Nat} (h : 0 < xs.length → nth xs (xs.length - 1) ≠ 0) : Top xs := by
  have := top_take (xs := xs) (Nat.le_refl _) h
  rwa [List.take_length] at this
theorem val_take_zeros {xs : List Nat} {n : Nat} (h : n ≤ xs.length) (hz : ∀ i, n ≤ i → i < xs.length → nth xs i = 0) : val (xs.take n) = val xs := by
  have e := val_take_drop xs n h
  have : val (xs.drop n) = 0 := val_zeros fun i hi => by
    rw [nth_drop]; exact hz _ (by omega) (by simp at hi; omega)
  rw [this] at e; omega

/-- number of bits -/
def bits (n : Nat) : Nat := if n = 0 then 0 else n.log2 + 1
theorem bits_zero : bits 0 = 0 := rfl
theorem bits_le {n k : Nat} : bits n ≤ k ↔ n < 2 ^ k := by
  unfold bits
  split
  · next h => subst h; simp; exact Nat.pow_pos (by decide)
  · next h => exact Nat.log2_lt h
theorem lt_bits {n k : Nat} : k < bits n ↔ 2 ^ k ≤ n := by
  have := @bits_le n k
  omega
theorem lt_two_pow_bits (n : Nat) : n < 2 ^ bits n := bits_le.1 (Nat.le_refl _)
theorem bits_pos {n : Nat} (h : n ≠ 0) : 0 < bits n := by unfold bits; rw [if_neg h]; omega
theorem two_pow_le_of_bits {n : Nat} (h : n ≠ 0) : 2 ^ (bits n - 1) ≤ n := lt_bits.1 (by have := bits_pos h; omega)
theorem bits_eq_zero {n : Nat} : bits n = 0 ↔ n = 0 := by
  constructor
  · intro h; by_cases h0 : n = 0
    · exact h0
    · have := bits_pos h0; omega
  · rintro rfl; rfl
theorem bits_unique {n k : Nat} (h1 : n < 2 ^ k) (h2 : k = 0 ∨ 2 ^ (k - 1) ≤ n) : bits n = k := by
  have a := bits_le.2 h1
  rcases h2 with h2 | h2
  · omega
  · by_cases hk : k = 0
    · omega
    · have := lt_bits.2 h2; omega
theorem bits_mono {m n : Nat} (h : m ≤ n) : bits m ≤ bits n := bits_le.2 (Nat.lt_of_le_of_lt h (lt_two_pow_bits n))
theorem bits_mul_pow {n k : Nat} (h : n ≠ 0) : bits (n * 2 ^ k) = bits n + k := by
  apply bits_unique
  · rw [Nat.pow_add]; exact Nat.mul_lt_mul_of_pos_right (lt_two_pow_bits n) (Nat.pow_pos (by decide))
  · right
    have h1 := bits_pos h
    rw [show bits n + k - 1 = (bits n - 1) + k from by omega, Nat.pow_add]
    exact Nat.mul_le_mul_right _ (two_pow_le_of_bits h)
theorem pow32 (n : Nat) : 4294967296 ^ n = 2 ^ (32 * n) := by rw [Nat.pow_mul]
/-- the number of bits of limbs without zeros at the top -/
theorem bits_val_snoc {xs : List Nat} {x : Nat} (h : Lt32 xs) (hx : x ≠ 0) : bits (val (xs ++ [x])) = 32 * xs.length + bits x := by
  rw [val_snoc, pow32]
  have h1 := val_lt h
  rw [pow32] at h1
  apply bits_unique
  · rw [Nat.pow_add]
    have := lt_two_pow_bits x
    calc val xs + 2 ^ (32 * xs.length) * x < 2 ^ (32 * xs.length) + 2 ^ (32 * xs.length) * x := by omega
      _ = 2 ^ (32 * xs.length) * (x + 1) := by rw [Nat.mul_add]; omega
      _ ≤ 2 ^ (32 * xs.length) * 2 ^ bits x := Nat.mul_le_mul_left _ this
  · right
    have := bits_pos hx
    rw [show 32 * xs.length + bits x - 1 = 32 * xs.length + (bits x - 1) from by omega, Nat.pow_add]
    exact Nat.le_trans (Nat.mul_le_mul_left _ (two_pow_le_of_bits hx)) (by omega)

end Go.Proofs.Ythaphbbeiglolaa
