/-
  Plain: expressions as trees: size, depth, validity; no program in sight.
-/
import Derived.Test.YthaphbbeiglolaaBase
namespace Go.Proofs.Ythaphbbeiglolaa

/-- an expression as it comes: its fields; its elements' address and capacity -/
inductive Ex where
  | mk (kind rn rd : Int) (name : ByteArray) (pw : Int) (a : Option Addr) (c : Nat) (l : List Ex)
def Ex.kind : Ex → Int | .mk k _ _ _ _ _ _ _ => k
def Ex.rn : Ex → Int | .mk _ n _ _ _ _ _ _ => n
def Ex.rd : Ex → Int | .mk _ _ d _ _ _ _ _ => d
def Ex.name : Ex → ByteArray | .mk _ _ _ s _ _ _ _ => s
def Ex.pw : Ex → Int | .mk _ _ _ _ p _ _ _ => p
def Ex.a : Ex → Option Addr | .mk _ _ _ _ _ a _ _ => a
def Ex.c : Ex → Nat | .mk _ _ _ _ _ _ c _ => c
def Ex.l : Ex → List Ex | .mk _ _ _ _ _ _ _ l => l
/-- a property of all nodes is shown by the nodes -/
theorem Ex.ind {P : Ex → Prop} (h : ∀ e : Ex, (∀ x ∈ e.l, P x) → P e) : ∀ e, P e
  | .mk k n d s p a c l => h _ (fun x hx => by
      have : SizeOf.sizeOf x < SizeOf.sizeOf l := List.sizeOf_lt_of_mem hx
      exact Ex.ind h x)
termination_by e => SizeOf.sizeOf e
decreasing_by
  simp_wf
  omega
mutual
def Ex.size : Ex → Nat | .mk _ _ _ _ _ _ _ l => 1 + Ex.sizeL l
def Ex.sizeL : List Ex → Nat | [] => 0 | x :: t => x.size + Ex.sizeL t
end
mutual
def Ex.depth : Ex → Nat | .mk _ _ _ _ _ _ _ l => 1 + Ex.depthL l
def Ex.depthL : List Ex → Nat | [] => 0 | x :: t => max x.depth (Ex.depthL t)
end
theorem Ex.size_eq (e : Ex) : e.size = 1 + Ex.sizeL e.l := by cases e; rw [Ex.size]; rfl
theorem Ex.depth_eq (e : Ex) : e.depth = 1 + Ex.depthL e.l := by cases e; rw [Ex.depth]; rfl
theorem Ex.size_pos (e : Ex) : 1 ≤ e.size := by rw [e.size_eq]; omega
theorem Ex.depth_pos (e : Ex) : 1 ≤ e.depth := by rw [e.depth_eq]; omega
/-- letters, digits -/
def isLet (b : UInt8) : Bool := (decide (97 ≤ b.toNat) && decide (b.toNat ≤ 122)) || (decide (65 ≤ b.toNat) && decide (b.toNat ≤ 90))
def isDig (b : UInt8) : Bool := decide (48 ≤ b.toNat) && decide (b.toNat ≤ 57)
def isRun (b : UInt8) : Bool := isLet b || (isDig b || decide (b.toNat = 95))
def wordB (s : ByteArray) : Bool := match s.data.toList with | [] => false | b :: t => isLet b && t.all isRun
def keywords : List String := ["state", "param", "in", "mode", "when", "rises", "falls", "goto", "with", "time", "exp", "log", "sin", "cos", "sqrt"]
def keyB (s : ByteArray) : Bool := keywords.any fun k => decide (s = k.toUTF8)
def nameB (s : ByteArray) : Bool := wordB s && (decide (s.size ≤ 20) && !keyB s)
def ratB (n d : Int) : Bool := decide (1 ≤ d ∧ d ≤ 1073741824) && (decide (-1073741824 ≤ n ∧ n ≤ 1073741824) && decide (Nat.gcd n.natAbs d.natAbs = 1))
/-- how many elements a kind has -/
def opsK (k : Int) : Int := if 3 ≤ k ∧ k ≤ 6 then 2 else if 7 ≤ k ∧ k ≤ 13 then 1 else -1
/-- are the fields of a node right? -/
def nodeB (e : Ex) : Bool :=
  if e.kind = 1 then ratB e.rn e.rd && (decide (e.name.size = 0) && (decide (e.pw = 0) && decide (e.l.length = 0)))
  else if e.kind = 2 then decide (e.rn = 0 ∧ e.rd = 0) && (nameB e.name && (decide (e.pw = 0) && decide (e.l.length = 0)))
  else if e.kind = 8 then decide (e.rn = 0 ∧ e.rd = 0) && (decide (e.name.size = 0) && (decide (0 ≤ e.pw ∧ e.pw ≤ 16) && decide (e.l.length = 1)))
  else decide (e.rn = 0 ∧ e.rd = 0) && (decide (e.name.size = 0) && (decide (e.pw = 0) && decide ((e.l.length : Int) = opsK e.kind)))
mutual
def Ex.allB : Ex → Bool | .mk k n d s p a c l => nodeB (.mk k n d s p a c l) && Ex.allL l
def Ex.allL : List Ex → Bool | [] => true | x :: t => x.allB && Ex.allL t
end
theorem Ex.allB_eq (e : Ex) : e.allB = (nodeB e && Ex.allL e.l) := by cases e; rw [Ex.allB]; rfl
/-- a valid expression -/
def Ex.ok (e : Ex) : Bool := e.allB && (decide (e.depth ≤ 20) && decide (e.size ≤ 200))
mutual
/-- tree.count: its answer and the number behind -/
def Ex.cnt : Ex → Nat → Nat → Bool × Nat
  | .mk k r d s p a c l, dp, n => if 20 < dp ∨ 200 < n + 1 ∨ nodeB (.mk k r d s p a c l) = false then (false, n + 1) else Ex.cntL l (dp + 1) (n + 1)
def Ex.cntL : List Ex → Nat → Nat → Bool × Nat
  | [], _, n => (true, n)
  | x :: t, dp, n => if (x.cnt dp n).1 = true then Ex.cntL t dp (x.cnt dp n).2 else (false, (x.cnt dp n).2)
end
theorem Ex.cnt_eq (e : Ex) (dp n : Nat) : e.cnt dp n = if 20 < dp ∨ 200 < n + 1 ∨ nodeB e = false then (false, n + 1) else Ex.cntL e.l (dp + 1) (n + 1) := by cases e; rw [Ex.cnt]; rfl
theorem Ex.cntL_cons (x : Ex) (t : List Ex) (dp n : Nat) : Ex.cntL (x :: t) dp n = if (x.cnt dp n).1 = true then Ex.cntL t dp (x.cnt dp n).2 else (false, (x.cnt dp n).2) := by rw [Ex.cntL]
theorem Ex.cntL_nil (dp n : Nat) : Ex.cntL [] dp n = (true, n) := by rw [Ex.cntL]
theorem Ex.sizeL_cons (x : Ex) (t : List Ex) : Ex.sizeL (x :: t) = x.size + Ex.sizeL t := by rw [Ex.sizeL]
theorem Ex.sizeL_nil : Ex.sizeL [] = 0 := by rw [Ex.sizeL]
theorem Ex.depthL_cons (x : Ex) (t : List Ex) : Ex.depthL (x :: t) = max x.depth (Ex.depthL t) := by rw [Ex.depthL]
theorem Ex.depthL_nil : Ex.depthL [] = 0 := by rw [Ex.depthL]
theorem Ex.allL_cons (x : Ex) (t : List Ex) : Ex.allL (x :: t) = (x.allB && Ex.allL t) := by rw [Ex.allL]
theorem Ex.allL_nil : Ex.allL [] = true := by rw [Ex.allL]
theorem cnt_list {l : List Ex} (ih : ∀ x ∈ l, ∀ dp n, (((x.cnt dp n).1 = true ↔ x.allB = true ∧ x.depth + dp ≤ 21 ∧ n + x.size ≤ 200) ∧ ((x.cnt dp n).1 = true → (x.cnt dp n).2 = n + x.size))) :
    ∀ dp n, dp ≤ 21 → n ≤ 200 → (((Ex.cntL l dp n).1 = true ↔ Ex.allL l = true ∧ Ex.depthL l + dp ≤ 21 ∧ n + Ex.sizeL l ≤ 200) ∧ ((Ex.cntL l dp n).1 = true → (Ex.cntL l dp n).2 = n + Ex.sizeL l)) := by
  induction l with
  | nil =>
    intro dp n h1 h2
    rw [Ex.cntL_nil, Ex.allL_nil, Ex.depthL_nil, Ex.sizeL_nil]
    exact ⟨⟨fun _ => ⟨rfl, by omega, by omega⟩, fun _ => rfl⟩, fun _ => rfl⟩
  | cons x t iht =>
    intro dp n h1 h2
    obtain ⟨hx, hx2⟩ := ih x (.head _) dp n
    rw [Ex.cntL_cons, Ex.allL_cons, Ex.depthL_cons, Ex.sizeL_cons, Bool.and_eq_true]
    by_cases hc : (x.cnt dp n).1 = true
    · obtain ⟨h3, h4, h5⟩ := hx.1 hc
      rw [if_pos hc, hx2 hc]
      obtain ⟨i1, i2⟩ := iht (fun y hy => ih y (.tail _ hy)) dp (n + x.size) h1 h5
      refine ⟨⟨fun h => ?_, fun h => ?_⟩, fun h => ?_⟩
      · obtain ⟨q1, q2, q3⟩ := i1.1 h
        exact ⟨⟨h3, q1⟩, by omega, by omega⟩
      · exact i1.2 ⟨h.1.2, by omega, by omega⟩
      · rw [i2 h]; omega
    · rw [if_neg hc]
      refine ⟨⟨fun h => (by cases h), fun h => absurd (hx.2 ⟨h.1.1, by omega, by omega⟩) hc⟩, fun h => by cases h⟩
theorem cnt_iff : ∀ (e : Ex) (dp n : Nat), (((e.cnt dp n).1 = true ↔ e.allB = true ∧ e.depth + dp ≤ 21 ∧ n + e.size ≤ 200) ∧ ((e.cnt dp n).1 = true → (e.cnt dp n).2 = n + e.size)) := by
  refine Ex.ind fun e ih dp n => ?_
  rw [Ex.cnt_eq, Ex.allB_eq, e.depth_eq, e.size_eq, Bool.and_eq_true]
  by_cases h : 20 < dp ∨ 200 < n + 1 ∨ nodeB e = false
  · rw [if_pos h]
    refine ⟨⟨fun h2 => (by cases h2), fun h2 => ?_⟩, fun h2 => by cases h2⟩
    rcases h with h | h | h
    · omega
    · omega
    · rw [h2.1.1] at h; cases h
  · rw [if_neg h]
    have hn : nodeB e = true := by cases hb : nodeB e with | true => rfl | false => exact absurd (.inr (.inr hb)) h
    have hd : ¬ 20 < dp := fun h2 => h (.inl h2)
    have hs : ¬ 200 < n + 1 := fun h2 => h (.inr (.inl h2))
    obtain ⟨i1, i2⟩ := cnt_list ih (dp + 1) (n + 1) (by omega) (by omega)
    refine ⟨⟨fun h2 => ?_, fun h2 => ?_⟩, fun h2 => ?_⟩
    · obtain ⟨q1, q2, q3⟩ := i1.1 h2
      exact ⟨⟨hn, q1⟩, by omega, by omega⟩
    · exact i1.2 ⟨h2.1.2, by omega, by omega⟩
    · rw [i2 h2]; omega
/-- tree.Valid's answer -/
theorem cnt_ok (e : Ex) : (e.cnt 1 0).1 = e.ok := by
  rw [Bool.eq_iff_iff, (cnt_iff e 1 0).1]
  unfold Ex.ok
  rw [Bool.and_eq_true, Bool.and_eq_true, decide_eq_true_eq, decide_eq_true_eq]
  exact and_congr_right fun _ => and_congr (by omega) (by omega)
mutual
/-- the reference's count -/
def Ex.rct : Ex → Nat → Nat
  | .mk _ _ _ _ _ _ _ _, 0 => 1048576
  | .mk k r d s p a c l, lv + 1 => if nodeB (.mk k r d s p a c l) = false then 1048576 else Ex.rctL l lv 1
def Ex.rctL : List Ex → Nat → Nat → Nat
  | [], _, n => n
  | x :: t, lv, n => if n ≤ 200 then Ex.rctL t lv (n + x.rct lv) else n
end
theorem Ex.rct_zero (e : Ex) : e.rct 0 = 1048576 := by cases e; rw [Ex.rct]
theorem Ex.rct_succ (e : Ex) (lv : Nat) : e.rct (lv + 1) = if nodeB e = false then 1048576 else Ex.rctL e.l lv 1 := by cases e; rw [Ex.rct]; rfl
theorem Ex.rctL_nil (lv n : Nat) : Ex.rctL [] lv n = n := by rw [Ex.rctL]
theorem Ex.rctL_cons (x : Ex) (t : List Ex) (lv n : Nat) : Ex.rctL (x :: t) lv n = if n ≤ 200 then Ex.rctL t lv (n + x.rct lv) else n := by rw [Ex.rctL]
theorem rctL_ge : ∀ (l : List Ex) (lv n : Nat), n ≤ Ex.rctL l lv n
  | [], lv, n => by rw [Ex.rctL_nil]; exact Nat.le_refl n
  | x :: t, lv, n => by
    rw [Ex.rctL_cons]
    split
    · have := rctL_ge t lv (n + x.rct lv); omega
    · exact Nat.le_refl n
/-- the reference's count of a good tree is its size; of another one it is great -/
theorem rct_iff : ∀ (e : Ex) (lv : Nat), (e.rct lv ≤ 200 ↔ e.allB = true ∧ e.depth ≤ lv ∧ e.size ≤ 200) ∧ (e.rct lv ≤ 200 → e.rct lv = e.size) := by
  refine Ex.ind fun e ih lv => ?_
  have hd := e.depth_pos
  cases lv with
  | zero =>
    rw [e.rct_zero]
    exact ⟨⟨fun h => absurd h (by decide), fun h => by omega⟩, fun h => absurd h (by decide)⟩
  | succ lv =>
    rw [e.rct_succ, e.allB_eq, e.depth_eq, e.size_eq, Bool.and_eq_true]
    cases hn : nodeB e with
    | false =>
      rw [if_pos rfl]
      exact ⟨⟨fun h => absurd h (by decide), fun h => absurd h.1.1 (by decide)⟩, fun h => absurd h (by decide)⟩
    | true =>
      rw [if_neg (by decide)]
      have key : ∀ (l : List Ex), (∀ x ∈ l, (x.rct lv ≤ 200 ↔ x.allB = true ∧ x.depth ≤ lv ∧ x.size ≤ 200) ∧ (x.rct lv ≤ 200 → x.rct lv = x.size)) → ∀ n, n ≤ 200 →
          ((Ex.rctL l lv n ≤ 200 ↔ Ex.allL l = true ∧ Ex.depthL l ≤ lv ∧ n + Ex.sizeL l ≤ 200) ∧ (Ex.rctL l lv n ≤ 200 → Ex.rctL l lv n = n + Ex.sizeL l)) := by
        intro l
        induction l with
        | nil =>
          intro _ n hn
          rw [Ex.rctL_nil, Ex.allL_nil, Ex.depthL_nil, Ex.sizeL_nil]
          exact ⟨⟨fun h => ⟨rfl, by omega, by omega⟩, fun h => by omega⟩, fun h => by omega⟩
        | cons x t iht =>
          intro hx n hn
          obtain ⟨h1, h2⟩ := hx x (.head _)
          rw [Ex.rctL_cons, if_pos hn, Ex.allL_cons, Ex.depthL_cons, Ex.sizeL_cons, Bool.and_eq_true]
          have hge := rctL_ge t lv (n + x.rct lv)
          by_cases hs : n + x.rct lv ≤ 200
          · have hx2 := h2 (by omega)
            obtain ⟨h3, h4, h5⟩ := h1.1 (by omega)
            rw [hx2] at hs ⊢
            obtain ⟨i1, i2⟩ := iht (fun y hy => hx y (.tail _ hy)) (n + x.size) hs
            refine ⟨⟨fun h => ?_, fun h => ?_⟩, fun h => ?_⟩
            · obtain ⟨q1, q2, q3⟩ := i1.1 h
              exact ⟨⟨h3, q1⟩, by omega, by omega⟩
            · exact i1.2 ⟨h.1.2, by omega, by omega⟩
            · rw [i2 h]; omega
          · refine ⟨⟨fun h => by omega, fun h => ?_⟩, fun h => by omega⟩
            have h6 := h1.2 ⟨h.1.1, by omega, by omega⟩
            have h7 := h2 h6
            omega
      obtain ⟨k1, k2⟩ := key e.l (fun x hx => ih x hx lv) 1 (by decide)
      refine ⟨⟨fun h => ?_, fun h => ?_⟩, fun h => k2 h⟩
      · obtain ⟨q1, q2, q3⟩ := k1.1 h
        exact ⟨⟨rfl, q1⟩, by omega, by omega⟩
      · exact k1.2 ⟨h.1.2, by omega, by omega⟩
/-- the reference's Valid answers alike -/
theorem rct_ok (e : Ex) : decide (e.rct 20 ≤ 200) = e.ok := by
  rw [Bool.eq_iff_iff, decide_eq_true_eq, (rct_iff e 20).1]
  unfold Ex.ok
  rw [Bool.and_eq_true, Bool.and_eq_true, decide_eq_true_eq, decide_eq_true_eq]
end Go.Proofs.Ythaphbbeiglolaa
