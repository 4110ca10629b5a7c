/-
  Walks: dyadic.canonical.
  Walks: dyadic.inRange, checked, exponent, Make, Valid.
  Walks: dyadic.Valid.
-/
import Derived.Test.YtkkiinbgjjjcoaaGreatDoorMShr
section
namespace Go.Proofs.YtkkiinbgjjjcoaaGreatDoor
open Go.RowKit

/-- the result is the dyadic number d -/
def DyOut (w : World) (d : Dy) (e : Ending) (w' : World) : Prop :=
  ∃ a c, e = .returned (.agg #[.bool d.neg, .slice a (limbs d.m).length c, .int .i64 d.e]) ∧ Rd w' a (limbs d.m) ∧ (limbs d.m).length ≤ c ∧ c ≤ maxLen ∧ Kp w w'

/-- a slice that reads numbers does not lie in a cell that holds no number -/
theorem Rd.other {w : World} {a : Option Addr} {xs : List Nat} (h : Rd w a xs) {p : Addr} {v u : Value} (hp : w.cell? p = .some v) (hv : ∀ n : Int, v ≠ .int .u32 n) : Rd (w.setCell p u) a xs := by
  obtain ⟨h1, h2⟩ := h
  refine ⟨h1, ?_⟩
  rcases h2 with h2 | ⟨b, o, rfl, h2⟩
  · exact .inl h2
  · refine .inr ⟨b, o, rfl, fun i hi => ?_⟩
    rw [World.cell?_setCell_other]
    · exact h2 i hi
    · intro e
      rw [e, h2 i hi] at hp
      exact hv _ (Option.some.inj hp).symm

theorem dyOut_intro {w w' : World} {d : Dy} {e : Ending} (a : Option Addr) (n c : Nat) (s : Bool) (k : Int) (he : e = .returned (.agg #[.bool s, .slice a n c, .int .i64 k])) (hs : s = d.neg) (hn : n = (limbs d.m).length) (hk : k = d.e)
    (hr : Rd w' a (limbs d.m)) (hc : n ≤ c) (hm : c ≤ maxLen) (hkp : Kp w w') : DyOut w d e w' := by
  subst hs hn hk; exact ⟨a, c, he, hr, hc, hm, hkp⟩

/-- the zero value of a dyadic number in a new block, later -/
theorem dybox {w w1 : World} (hk : Kp (w.alloc (.cells #[.bool false, .slice none 0 0, .int .i64 0] 24)) w1) :
    w1.cell? ⟨w.heap.size, 0, none⟩ = some (.bool false) ∧ w1.cell? ⟨w.heap.size, 1, none⟩ = some (.slice none 0 0) ∧ w1.cell? ⟨w.heap.size, 2, none⟩ = some (.int .i64 0) ∧
    w1.frozen? ⟨w.heap.size, 0, none⟩ = false ∧ w1.frozen? ⟨w.heap.size, 1, none⟩ = false ∧ w1.frozen? ⟨w.heap.size, 2, none⟩ = false := by
  have c0 : (w.alloc (.cells #[.bool false, .slice none 0 0, .int .i64 0] 24)).cell? ⟨w.heap.size, 0, none⟩ = some (.bool false) := by simp
  have c1 : (w.alloc (.cells #[.bool false, .slice none 0 0, .int .i64 0] 24)).cell? ⟨w.heap.size, 1, none⟩ = some (.slice none 0 0) := by simp
  have c2 : (w.alloc (.cells #[.bool false, .slice none 0 0, .int .i64 0] 24)).cell? ⟨w.heap.size, 2, none⟩ = some (.int .i64 0) := by simp
  exact ⟨hk.cell c0, hk.cell c1, hk.cell c2, hk.frozen c0 (by simp), hk.frozen c1 (by simp), hk.frozen c2 (by simp)⟩

/-- a block of the call's own with the three cells of a dyadic number -/
def Box3 (w : World) (g : Nat) (x0 x1 x2 : Value) : Prop :=
  w.cell? ⟨g, 0, none⟩ = some x0 ∧ w.cell? ⟨g, 1, none⟩ = some x1 ∧ w.cell? ⟨g, 2, none⟩ = some x2 ∧
  w.frozen? ⟨g, 0, none⟩ = false ∧ w.frozen? ⟨g, 1, none⟩ = false ∧ w.frozen? ⟨g, 2, none⟩ = false
theorem Box3.new (w : World) (x0 x1 x2 : Value) (t : TypeId) : Box3 (w.alloc (.cells #[x0, x1, x2] t)) w.heap.size x0 x1 x2 := by
  refine ⟨?_, ?_, ?_, ?_, ?_, ?_⟩ <;> simp
theorem Box3.kp {w w' : World} {g : Nat} {x0 x1 x2 : Value} (h : Box3 w g x0 x1 x2) (k : Kp w w') : Box3 w' g x0 x1 x2 :=
  ⟨k.cell h.1, k.cell h.2.1, k.cell h.2.2.1, k.frozen h.1 h.2.2.2.1, k.frozen h.2.1 h.2.2.2.2.1, k.frozen h.2.2.1 h.2.2.2.2.2⟩
theorem Box3.alloc {w : World} {g : Nat} {x0 x1 x2 : Value} (h : Box3 w g x0 x1 x2) (o : Obj) : Box3 (w.alloc o) g x0 x1 x2 := h.kp ((Kp.refl w).alloc o)
theorem Box3.new1 (w : World) (x0 x1 x2 : Value) (t : TypeId) (o : Obj) : Box3 ((w.alloc (.cells #[x0, x1, x2] t)).alloc o) w.heap.size x0 x1 x2 := (Box3.new w x0 x1 x2 t).alloc o
theorem Box3.new2 (w : World) (x0 x1 x2 : Value) (t : TypeId) (o : Obj) : Box3 ((w.alloc o).alloc (.cells #[x0, x1, x2] t)) (w.heap.size + 1) x0 x1 x2 := by
  have := Box3.new (w.alloc o) x0 x1 x2 t
  rwa [World.size_alloc] at this

/-- a dyadic number stored into its cell g -/
def Stored (g : Nat) (x0 x1 x2 : Value) (w W : World) : Prop :=
  W.cell? ⟨g, 0, none⟩ = some x0 ∧ W.cell? ⟨g, 1, none⟩ = some x1 ∧ W.cell? ⟨g, 2, none⟩ = some x2 ∧ (∀ j, W.frozen? ⟨g, j, none⟩ = w.frozen? ⟨g, j, none⟩) ∧
  (∀ a xs, Rd w a xs → Rd W a xs) ∧ (∀ a : World, Kp a w → a.heap.size ≤ g → Kp a W) ∧ (∀ p : Addr, p.block ≠ g → W.cell? p = w.cell? p) ∧ W.heap.size = w.heap.size
theorem cell_set_ne {w : World} {g i : Nat} {p : Addr} {v : Value} (h : (⟨g, i, none⟩ : Addr) ≠ p) : (w.setCell ⟨g, i, none⟩ v).cell? p = w.cell? p := by
  rw [World.cell?_setCell_other]; exact h
theorem cell_set_eq {w : World} {g i : Nat} {v u : Value} (h : w.cell? ⟨g, i, none⟩ = some u) : (w.setCell ⟨g, i, none⟩ v).cell? ⟨g, i, none⟩ = some v := by
  apply World.cell?_setCell_same; exact h
theorem stored {w : World} {g : Nat} {y0 y1 y2 : Value} (q0 : w.cell? ⟨g, 0, none⟩ = some y0) (q1 : w.cell? ⟨g, 1, none⟩ = some y1) (q2 : w.cell? ⟨g, 2, none⟩ = some y2)
    (n0 : ∀ n : Int, y0 ≠ .int .u32 n) (n1 : ∀ n : Int, y1 ≠ .int .u32 n) (n2 : ∀ n : Int, y2 ≠ .int .u32 n) (x0 x1 x2 : Value) :
    Stored g x0 x1 x2 w (((w.setCell ⟨g, 0, none⟩ x0).setCell ⟨g, 1, none⟩ x1).setCell ⟨g, 2, none⟩ x2) := by
  have ne (i j : Nat) (h : i ≠ j) : (⟨g, i, none⟩ : Addr) ≠ ⟨g, j, none⟩ := fun e => h (by injection e)
  have a1 : (w.setCell ⟨g, 0, none⟩ x0).cell? ⟨g, 1, none⟩ = some y1 := by rw [cell_set_ne (ne 0 1 (by decide))]; exact q1
  have a2 : ((w.setCell ⟨g, 0, none⟩ x0).setCell ⟨g, 1, none⟩ x1).cell? ⟨g, 2, none⟩ = some y2 := by
    rw [cell_set_ne (ne 1 2 (by decide)), cell_set_ne (ne 0 2 (by decide))]; exact q2
  refine ⟨?_, ?_, cell_set_eq a2, fun j => by simp, fun a xs h => ((h.other q0 n0).other a1 n1).other a2 n2, fun a h hg => ((h.set hg _).set hg _).set hg _, fun p hp => ?_, by simp⟩
  · rw [cell_set_ne (ne 2 0 (by decide)), cell_set_ne (ne 1 0 (by decide))]; exact cell_set_eq q0
  · rw [cell_set_ne (ne 2 1 (by decide))]; exact cell_set_eq a1
  · have hne (i : Nat) : (⟨g, i, none⟩ : Addr) ≠ p := fun e => hp (by rw [← e])
    rw [cell_set_ne (hne 2), cell_set_ne (hne 1), cell_set_ne (hne 0)]

set_option maxHeartbeats 1000000 in
theorem canonical_any (s : Bool) (a : Option Addr) (xs : List Nat) (c : Nat) (ex : Int) (w : World) (h : Rd w a xs) (hc : xs.length ≤ c) (hm : c ≤ maxLen) (hl : xs.length ≤ 256) (he0 : -1000000000 ≤ ex) (he1 : ex ≤ 1000000000) (hT : Tab w) :
    Calls Tryz.prog 93 #[.bool s, .slice a xs.length c, .int .i64 ex] w (DyOut w (canon s (val xs) ex)) := by
  have hll := limbs_len_le h.lt32
  go_enter Tryz.func93, Tryz.ntmps93
  go_wp2_with fail
  refine (trimmed_any a xs c _ (h.kp ((Kp.refl w).alloc _)) hc hm).mono ?_
  rintro e w2 ⟨rfl, rfl⟩
  by_cases h0 : val xs = 0
  · have hn : (limbs (val xs)).length = 0 := by rw [h0, limbs_zero]; rfl
    rw [hn]
    clear hn
    have H0 := Lib.hid h0
    clear h0
    go_wp2_with fail
    refine bodyPost_ret (v := .agg #[.bool false, .slice none 0 0, .int .i64 0]) (by simp [results, Tryz.results93, go_sem]) rfl ?_
    rw [H0.out, canon_zero]
    exact dyOut_intro none 0 0 false 0 rfl rfl (by show 0 = (limbs 0).length; rw [limbs_zero]; rfl) rfl (by show Rd _ none (limbs 0); rw [limbs_zero]; exact .nil _ _) (Nat.le_refl _) (by unfold maxLen; omega) ((Kp.refl w).alloc _)
  · have hpos : 0 < (limbs (val xs)).length := by
      rcases Nat.eq_zero_or_pos (limbs (val xs)).length with h1 | h1
      · exact absurd (limbs_eq_nil.1 (List.length_eq_zero_iff.1 h1)) h0
      · exact h1
    have hne : (((limbs (val xs)).length : Int) == 0) = false := beq_eq_false_iff_ne.2 (by omega)
    have hr := h.limbs.kp ((Kp.refl w).alloc (.cells #[.bool false, .slice none 0 0, .int .i64 0] 24))
    have Hc := Lib.hid (show canon s (val xs) ex = ⟨s, oddp (val xs), ex + tz (val xs)⟩ by unfold canon; rw [if_neg h0])
    have htz : tz (val xs) ≤ 10000 := by
      have e1 := bits_oddp h0
      have e2 := bits_le.2 (show val xs < 2 ^ (32 * xs.length) by rw [← pow32]; exact val_lt h.lt32)
      omega
    have hv1 := val_limbs (val xs)
    have Hodd := Lib.hid (show val xs / 2 ^ tz (val xs) = oddp (val xs) from rfl)
    have holen : (limbs (oddp (val xs))).length ≤ 256 := by
      have := limbs_length_mono (show oddp (val xs) ≤ val xs from Nat.div_le_self _ _)
      omega
    have hm2 : (limbs (val xs)).length ≤ c := by omega
    have hl2 : (limbs (val xs)).length ≤ 256 := by omega
    clear h hc hl hll
    generalize hX : limbs (val xs) = us at *
    rw [← hv1] at Hc Hodd htz h0 holen
    clear hX
    generalize val xs = V at *
    subst hv1
    go_wp2_with fail
    refine (low_any a us c _ hr (by omega) h0 (hT.kp ((Kp.refl w).alloc _))).mono ?_
    rintro e w2 ⟨rfl, rfl⟩
    go_wp2_with fail
    refine (Shr_any a us c _ _ hr hl2 hm2 hm (by omega) (by omega)).mono ?_
    rintro e w2 ⟨a2, c2, rfl, h3, h4, h5, h6⟩
    rw [Int.toNat_natCast, Hodd.out] at h3 h5 ⊢
    go_wp2_with fail
    refine (clone_any a2 _ c2 _ h5 (by omega)).mono ?_
    rintro e w3 ⟨a3, c3, rfl, h7, h8, h9, h10⟩
    go_wp2_with fail
    refine (clip_any a3 _ c3 _ h8 h9).mono ?_
    rintro e w4 ⟨rfl, rfl⟩
    have hk := h6.trans h10
    obtain ⟨q0, q1, q2, f0, f1, f2⟩ := dybox hk
    clear hm hT hne hpos h5 h6 h3 h4 hr
    go_wp2_with fail
    have hst := stored q0 q1 q2 (fun _ h => by cases h) (fun _ h => by cases h) (fun _ h => by cases h) (.bool s) (.slice a3 (limbs (oddp (val us))).length (limbs (oddp (val us))).length) (.int .i64 (ex + tz (val us)))
    generalize (((w3.setCell _ _).setCell _ _).setCell _ _) = W at hst ⊢
    obtain ⟨s0, s1, s2, _, s4, s5, _, _⟩ := hst
    refine bodyPost_ret (v := .agg #[.bool s, .slice a3 (limbs (oddp (val us))).length (limbs (oddp (val us))).length, .int .i64 (ex + tz (val us))]) (by simp [results, Tryz.results93, go_sem, s0, s1, s2]) rfl ?_
    rw [Hc.out]
    exact dyOut_intro a3 _ _ s _ rfl rfl rfl rfl (s4 _ _ h7) (Nat.le_refl _) (by omega) (s5 _ (((Kp.refl w).alloc _).trans hk) (Nat.le_refl _))
end Go.Proofs.YtkkiinbgjjjcoaaGreatDoor
end

section
namespace Go.Proofs.YtkkiinbgjjjcoaaGreatDoor
open Go.RowKit

/-- the bounds of Go's int -/
def I64 (e : Int) : Prop := -9223372036854775808 ≤ e ∧ e ≤ 9223372036854775807
/-- inRange -/
def inrB (m : Nat) (e : Int) : Bool := decide (bits m = 0 ∨ (bits m ≤ 4096 ∧ -16384 ≤ e ∧ e ≤ 16384 ∧ (bits m : Int) + e ≤ 16384))

theorem bits_val_le {xs : List Nat} (h : Lt32 xs) : bits (val xs) ≤ 32 * xs.length := bits_le.2 (by rw [← pow32]; exact val_lt h)

set_option maxHeartbeats 2000000 in
theorem inRange_any (s : Bool) (a : Option Addr) (xs : List Nat) (c : Nat) (ex : Int) (w : World) (h : Rd w a xs) (hc : xs.length ≤ c) (hm : c ≤ maxLen) (hl : xs.length ≤ 1100000) (he : I64 ex) :
    Calls Tryz.prog 92 #[.agg #[.bool s, .slice a xs.length c, .int .i64 ex]] w fun e w' => e = .returned (.bool (inrB (val xs) ex)) ∧ Kp w w' := by
  obtain ⟨he0, he1⟩ := he
  have hb : bits (val xs) ≤ 35200000 := by have := bits_val_le h.lt32; omega
  by_cases h0 : bits (val xs) = 0
  · have hz : ((bits (val xs) : Int) == 0) = true := by rw [h0]; rfl
    have H := Lib.hid (show inrB (val xs) ex = true from decide_eq_true (.inl h0))
    clear h0
    go_enter Tryz.func92, Tryz.ntmps92
    go_wp2_with fail
    refine (size_any a xs c _ (h.kp ((Kp.refl w).alloc _)) hc hm hl).mono ?_
    rintro e w2 ⟨rfl, rfl⟩
    go_wp2_with fail
    go_ret
    exact ⟨ret_bool (by first | exact H.out.symm | (rw [H.out]; simp; omega)), (Kp.refl w).alloc _⟩
  · have hz : ((bits (val xs) : Int) == 0) = false := beq_eq_false_iff_ne.2 (by omega)
    by_cases h1 : bits (val xs) ≤ 4096
    · by_cases h2 : -16384 ≤ ex
      · by_cases h3 : ex ≤ 16384
        · by_cases h4 : (bits (val xs) : Int) + ex ≤ 16384
          · have H := Lib.hid (show inrB (val xs) ex = true from decide_eq_true (.inr ⟨h1, h2, h3, h4⟩))
            clear h0
            go_enter Tryz.func92, Tryz.ntmps92
            go_wp2_with fail
            refine (size_any a xs c _ (h.kp ((Kp.refl w).alloc _)) hc hm hl).mono ?_
            rintro e w2 ⟨rfl, rfl⟩
            go_wp2_with fail
            go_ret
            exact ⟨ret_bool (by first | exact H.out.symm | (rw [H.out]; simp; omega)), (Kp.refl w).alloc _⟩
          · have H := Lib.hid (show inrB (val xs) ex = false from decide_eq_false (by omega))
            clear h0
            go_enter Tryz.func92, Tryz.ntmps92
            go_wp2_with fail
            refine (size_any a xs c _ (h.kp ((Kp.refl w).alloc _)) hc hm hl).mono ?_
            rintro e w2 ⟨rfl, rfl⟩
            go_wp2_with fail
            go_ret
            exact ⟨ret_bool (by first | exact H.out.symm | (rw [H.out]; simp; omega)), (Kp.refl w).alloc _⟩
        · have H := Lib.hid (show inrB (val xs) ex = false from decide_eq_false (by omega))
          clear h0
          go_enter Tryz.func92, Tryz.ntmps92
          go_wp2_with fail
          refine (size_any a xs c _ (h.kp ((Kp.refl w).alloc _)) hc hm hl).mono ?_
          rintro e w2 ⟨rfl, rfl⟩
          go_wp2_with fail
          go_ret
          exact ⟨ret_bool (by first | exact H.out.symm | (rw [H.out]; simp; omega)), (Kp.refl w).alloc _⟩
      · have H := Lib.hid (show inrB (val xs) ex = false from decide_eq_false (by omega))
        clear h0
        go_enter Tryz.func92, Tryz.ntmps92
        go_wp2_with fail
        refine (size_any a xs c _ (h.kp ((Kp.refl w).alloc _)) hc hm hl).mono ?_
        rintro e w2 ⟨rfl, rfl⟩
        go_wp2_with fail
        go_ret
        exact ⟨ret_bool (by first | exact H.out.symm | (rw [H.out]; simp; omega)), (Kp.refl w).alloc _⟩
    · have H := Lib.hid (show inrB (val xs) ex = false from decide_eq_false (by omega))
      clear h0
      go_enter Tryz.func92, Tryz.ntmps92
      go_wp2_with fail
      refine (size_any a xs c _ (h.kp ((Kp.refl w).alloc _)) hc hm hl).mono ?_
      rintro e w2 ⟨rfl, rfl⟩
      go_wp2_with fail
      go_ret
      exact ⟨ret_bool (by first | exact H.out.symm | (rw [H.out]; simp; omega)), (Kp.refl w).alloc _⟩

/-- is the exponent permitted? -/
def expB (e : Int) : Bool := decide (-32768 ≤ e ∧ e ≤ 32768)
theorem exponent_any (ex : Int) (w : World) (he : I64 ex) :
    Calls Tryz.prog 108 #[.int .i64 ex] w fun e w' => e = .returned (.bool (expB ex)) ∧ w = w' := by
  obtain ⟨he0, he1⟩ := he
  by_cases h1 : -32768 ≤ ex
  · by_cases h2 : ex ≤ 32768
    · have H := Lib.hid (show expB ex = true from decide_eq_true ⟨h1, h2⟩)
      go_enter Tryz.func108, Tryz.ntmps108
      go_wp2_with fail
      go_ret
      exact ⟨ret_bool (by first | exact H.out.symm | (rw [H.out]; simp; omega)), rfl⟩
    · have H := Lib.hid (show expB ex = false from decide_eq_false (by omega))
      go_enter Tryz.func108, Tryz.ntmps108
      go_wp2_with fail
      go_ret
      exact ⟨ret_bool (by first | exact H.out.symm | (rw [H.out]; simp; omega)), rfl⟩
  · have H := Lib.hid (show expB ex = false from decide_eq_false (by omega))
    go_enter Tryz.func108, Tryz.ntmps108
    go_wp2_with fail
    go_ret
    exact ⟨ret_bool (by first | exact H.out.symm | (rw [H.out]; simp; omega)), rfl⟩
end Go.Proofs.YtkkiinbgjjjcoaaGreatDoor
end

section
namespace Go.Proofs.YtkkiinbgjjjcoaaGreatDoor
open Go.RowKit

/-- is a number with these fields valid? -/
def vld (s : Bool) (xs : List Nat) (e : Int) : Bool :=
  if xs = [] then !s && decide (e = 0)
  else decide (xs.length ≤ 256) && (decide (nth xs 0 % 2 = 1) && (decide (nth xs (xs.length - 1) ≠ 0) && inrB (val xs) e))
/-- the number with these fields -/
def dyOf (s : Bool) (xs : List Nat) (e : Int) : Dy := ⟨s, val xs, e⟩
theorem val_mod_two {xs : List Nat} : val xs % 2 = nth xs 0 % 2 := by
  cases xs with
  | nil => rfl
  | cons x xs => rw [nth_cons_zero, val_cons]; omega
theorem vld_ok {s : Bool} {xs : List Nat} {e : Int} (h : Lt32 xs) (hv : vld s xs e = true) : (dyOf s xs e).ok ∧ limbs (val xs) = xs ∧ xs.length ≤ 256 := by
  unfold vld at hv
  split at hv
  · next h0 =>
    subst h0
    simp at hv
    exact ⟨.inl ⟨rfl, hv.1, hv.2⟩, limbs_zero, by simp⟩
  · next h0 =>
    simp only [Bool.and_eq_true, decide_eq_true_eq] at hv
    obtain ⟨h1, h2, h3, h4⟩ := hv
    have ht := top_of_nth (fun _ => h3)
    have hl := limbs_val h ht
    refine ⟨.inr ?_, hl, h1⟩
    unfold inrB at h4
    have h5 := of_decide_eq_true h4
    have hne : val xs ≠ 0 := fun h0' => h0 (val_eq_zero_top ht h0')
    have := bits_pos hne
    refine ⟨by show val xs % 2 = 1; rw [val_mod_two]; exact h2, ?_⟩
    show bits (val xs) ≤ 4096 ∧ -16384 ≤ e ∧ e ≤ 16384 ∧ (bits (val xs) : Int) + e ≤ 16384
    omega
theorem limbs_len_bits {n k : Nat} (h : bits n ≤ 32 * k) : (limbs n).length ≤ k := limbs_length_le.2 (by rw [pow32]; exact bits_le.1 h)
theorem ok_vld {d : Dy} (h : d.ok) : vld d.neg (limbs d.m) d.e = true := by
  unfold vld
  rcases h with ⟨h1, h2, h3⟩ | ⟨h1, h2, h3, h4, h5⟩
  · rw [h1, limbs_zero, if_pos rfl, h2, h3]; rfl
  · have h0 : d.m ≠ 0 := by omega
    have hne : limbs d.m ≠ [] := by rw [Ne, limbs_eq_nil]; exact h0
    rw [if_neg hne, val_limbs]
    have hl : (limbs d.m).length ≤ 256 := limbs_len_bits (by omega)
    have hp : 0 < (limbs d.m).length := List.length_pos_iff.2 hne
    have e1 : nth (limbs d.m) 0 % 2 = 1 := by rw [← val_mod_two, val_limbs]; exact h1
    have e2 := top_nth (limbs_top d.m) hp
    have e3 : inrB d.m d.e = true := decide_eq_true (.inr ⟨h2, h3, h4, h5⟩)
    rw [e3]
    simp [hl, e1, e2]
theorem ok_len {d : Dy} (h : d.ok) : (limbs d.m).length ≤ 128 := by
  rcases h with ⟨h1, h2, h3⟩ | ⟨h1, h2, h3, h4, h5⟩
  · rw [h1, limbs_zero]; simp
  · exact limbs_len_bits (by omega)

set_option maxHeartbeats 4000000 in
set_option maxRecDepth 100000 in
theorem Valid_any (s : Bool) (a : Option Addr) (xs : List Nat) (c : Nat) (ex : Int) (w : World) (h : Rd w a xs) (hc : xs.length ≤ c) (hm : c ≤ maxLen) (hl : xs.length ≤ 1100000) (he : I64 ex) :
    Calls Tryz.prog 58 #[.agg #[.bool s, .slice a xs.length c, .int .i64 ex]] w fun e w' => e = .returned (.bool (vld s xs ex)) ∧ Kp w w' := by
  have Hr := Lib.hid (inRange_any s a xs c ex (w.alloc (.cells #[.bool s, .slice a xs.length c, .int .i64 ex] 24)) (h.kp ((Kp.refl w).alloc _)) hc hm hl he)
  by_cases h0 : xs = []
  · have H := Lib.hid (show vld s xs ex = (!s && decide (ex = 0)) by unfold vld; rw [if_pos h0])
    have hz : xs.length = 0 := by rw [h0]; rfl
    clear h0
    rw [hz]
    cases s with
    | false =>
      by_cases hx : ex = 0
      · have hx2 : (ex == 0) = true := beq_iff_eq.2 hx
        have Hx := Lib.hid hx
        clear hx
        go_enter Tryz.func58, Tryz.ntmps58
        go_wp2_with fail
        go_ret
        exact ⟨ret_bool (by rw [H.out, Hx.out]; rfl), (Kp.refl w).alloc _⟩
      · have hx2 : (ex == 0) = false := beq_eq_false_iff_ne.2 hx
        go_enter Tryz.func58, Tryz.ntmps58
        go_wp2_with fail
        go_ret
        exact ⟨ret_bool (by rw [H.out]; simp [hx]), (Kp.refl w).alloc _⟩
    | true =>
      go_enter Tryz.func58, Tryz.ntmps58
      go_wp2_with fail
      go_ret
      exact ⟨ret_bool (by rw [H.out]; rfl), (Kp.refl w).alloc _⟩
  · have H := Lib.hid (show vld s xs ex = (decide (xs.length ≤ 256) && (decide (nth xs 0 % 2 = 1) && (decide (nth xs (xs.length - 1) ≠ 0) && inrB (val xs) ex))) by unfold vld; rw [if_neg h0])
    have hpos : 0 < xs.length := List.length_pos_iff.2 h0
    clear h0
    have hz : ((xs.length : Int) == 0) = false := beq_eq_false_iff_ne.2 (by omega)
    obtain ⟨b, o, rfl, hcell⟩ := (h.kp ((Kp.refl w).alloc (.cells #[.bool s, .slice a xs.length c, .int .i64 ex] 24))).some hpos
    have x0 := hcell 0 hpos
    have x1 := hcell (xs.length - 1) (by omega)
    rw [Nat.add_zero] at x0
    clear hcell
    by_cases h1 : xs.length ≤ 256
    · by_cases h2 : nth xs 0 % 2 = 1
      · have h2' : ((nth xs 0 : Int) % 2 == 1) = true := beq_iff_eq.2 (by omega)
        by_cases h3 : nth xs (xs.length - 1) = 0
        · have h3' : ((nth xs (xs.length - 1) : Int) != 0) = false := by rw [h3]; rfl
          have H3 := Lib.hid h3
          have H2 := Lib.hid h2
          clear h3 h2
          go_enter Tryz.func58, Tryz.ntmps58
          go_wp2_with fail
          go_ret
          exact ⟨ret_bool (by rw [H.out, H3.out]; simp), (Kp.refl w).alloc _⟩
        · have h3' : ((nth xs (xs.length - 1) : Int) != 0) = true := by rw [bne_iff_ne]; omega
          have H3 := Lib.hid h3
          have H2 := Lib.hid h2
          clear h3 h2
          go_enter Tryz.func58, Tryz.ntmps58
          go_wp2_with fail
          refine Hr.out.mono ?_
          rintro e w1 ⟨rfl, hk⟩
          go_wp2_with fail
          go_ret
          exact ⟨ret_bool (by rw [H.out]; simp [H3.out, H2.out, h1]), ((Kp.refl w).alloc _).trans hk⟩
      · have h2' : ((nth xs 0 : Int) % 2 == 1) = false := beq_eq_false_iff_ne.2 (by omega)
        have H2 := Lib.hid h2
        clear h2
        go_enter Tryz.func58, Tryz.ntmps58
        go_wp2_with fail
        go_ret
        exact ⟨ret_bool (by rw [H.out]; simp [H2.out]), (Kp.refl w).alloc _⟩
    · have h1' : decide ((xs.length : Int) ≤ 256) = false := decide_eq_false (by omega)
      go_enter Tryz.func58, Tryz.ntmps58
      go_wp2_with fail
      go_ret
      exact ⟨ret_bool (by rw [H.out]; simp; omega), (Kp.refl w).alloc _⟩
end Go.Proofs.YtkkiinbgjjjcoaaGreatDoor
end
