/-
  A region that draws its order, whose last operation waits for all others: the others first, then the last one.
-/
import Derived.Deep.RegionHeld3
import Derived.WalkKit
namespace Go.Proofs.YtpocjagbhiahdaaGreatDoor
open Go.RowKit

section
variable {P : Program} {ops : Array Oper} {Q : Exit → Act → World → Prop} {md : Region.Mode} {S : World → Prop}

def LastQ (P : Program) (ops : Array Oper) (z : Nat) (Q : Exit → Act → World → Prop) : Exit → Act → World → Prop
  | .normal, a, w => wpOp P ops Q z (Q .normal) a w
  | e, a, w => Q e a w
def lastIs (md : Region.Mode) (ops : Array Oper) (z : Nat) : Bool :=
  (z + 1 == ops.size) &&
  ((List.range ops.size).all fun i => ((ops[i]?).map fun o => o.after.all fun e => !Region.binds md e || decide (e.on < i)).getD false) &&
  ((List.range z).all fun i => (List.range ops.size).any fun j => decide (i < j) && ((ops[j]?).map fun o => o.after.any fun e => Region.binds md e && (e.on == i)).getD false)

theorem wpOp_last {i : Nat} {K : Act → World → Prop} {a : Act} {w : World} {z : Nat} (h : wpOp P ops (LastQ P ops z Q) i K a w) : wpOp P ops Q i K a w := by
  unfold wpOp at *
  split
  · rename_i ho; simpa [ho] using h
  rename_i o ho
  simp only [ho] at h
  split
  · rename_i hw
    simp only [hw, if_true] at h
    refine h.imp (fun h => ?_) (fun h => h)
    unfold Oper.wp at *
    generalize (execOp a.eval o).run P w = r at *
    cases r with
    | halt x w' => cases x <;> simp only [Oper.upon] at h ⊢ <;> exact h
    | ok n w' =>
    cases n <;> simp only [Oper.upon] at h ⊢ <;> first | exact h | exact Calls.mono h (fun e w'' he => by cases e <;> exact he)
  rename_i hw; simp only [hw] at h; exact h
theorem lastIs_spec {z : Nat} (h : lastIs md ops z = true) :
    z + 1 = ops.size ∧ (∀ i o, ops[i]? = some o → ∀ e ∈ o.after, Region.binds md e = true → e.on < i) ∧
    (∀ i, i < z → ∃ j o, i < j ∧ ops[j]? = some o ∧ ∃ e ∈ o.after, Region.binds md e = true ∧ e.on = i) := by
  unfold lastIs at h
  simp only [Bool.and_eq_true, beq_iff_eq, List.all_eq_true, List.mem_range, List.any_eq_true, decide_eq_true_eq] at h
  obtain ⟨⟨h1, h2⟩, h3⟩ := h
  refine ⟨h1, fun i o ho e he hb => ?_, fun i hi => ?_⟩
  · have := h2 i (Array.getElem?_eq_some_iff.1 ho).1
    rw [ho] at this
    simp only [Option.map_some, Option.getD_some] at this
    have := Array.all_eq_true_iff_forall_mem.1 this e he
    simpa [hb] using this
  obtain ⟨j, hj, hij, hx⟩ := h3 i hi
  cases ho : ops[j]? with
  | none => rw [ho] at hx; simp at hx
  | some o =>
  rw [ho] at hx
  simp only [Option.map_some, Option.getD_some] at hx
  obtain ⟨e, he, hb⟩ := Array.any_eq_true'.1 hx
  simp only [Bool.and_eq_true, beq_iff_eq] at hb
  exact ⟨j, o, hij, ho, e, he, hb.1, hb.2⟩
def Down (md : Region.Mode) (ops : Array Oper) (listed : Array Bool) : Prop :=
  ∀ j o, ops[j]? = some o → listed.getD j true = true → ∀ e ∈ o.after, Region.binds md e = true → listed.getD e.on false = true

theorem getD_sz {listed : Array Bool} {i : Nat} (h : i < listed.size) (c d : Bool) : listed.getD i c = listed.getD i d := by
  simp [h]
theorem ready_last {z : Nat} (h : lastIs md ops z = true) {listed : Array Bool} (hs : listed.size = ops.size) (hd : Down md ops listed) (hz : z ∈ Region.ready md ops listed) :
    ∀ i, i < z → listed.getD i false = true := by
  obtain ⟨h1, h2, h3⟩ := lastIs_spec h
  have key : ∀ n i, i < z → z - i ≤ n → listed.getD i false = true := by
    intro n
    induction n with
    | zero => intro i hi hn; omega
    | succ n ih =>
      intro i hi hn
      obtain ⟨j, o, hij, ho, e, he, hb, hon⟩ := h3 i hi
      have hj := (Array.getElem?_eq_some_iff.1 ho).1
      subst hon
      by_cases hjz : j = z
      · subst hjz
        obtain ⟨_, o', ho', hall⟩ := mem_ready.1 hz
        rw [ho] at ho'
        cases ho'
        exact hall e he hb
      · have := ih j (by omega) (by omega)
        exact hd j o ho (by rw [getD_sz (by omega) true false]; exact this) e he hb
  exact fun i hi => key _ i hi (Nat.le_refl _)
theorem ready_some {z : Nat} (h : lastIs md ops z = true) {listed : Array Bool} (hs : listed.size = ops.size) (hz : listed.getD z true = false) : Region.ready md ops listed ≠ [] := by
  obtain ⟨h1, h2, h3⟩ := lastIs_spec h
  have key : ∀ n i, i ≤ n → i < ops.size → listed.getD i true = false → ∃ k, k ∈ Region.ready md ops listed := by
    intro n
    induction n with
    | zero =>
      intro i hi hl hu
      obtain rfl : i = 0 := by omega
      refine ⟨0, mem_ready.2 ⟨hu, ops[0], by simp [hl], fun e he hb => ?_⟩⟩
      have := h2 0 ops[0] (by simp [hl]) e he hb
      omega
    | succ n ih =>
      intro i hi hl hu
      by_cases hx : ∃ e ∈ (ops[i]).after, Region.binds md e = true ∧ listed.getD e.on false = false
      · obtain ⟨e, he, hb, hf⟩ := hx
        have hlt := h2 i ops[i] (by simp [hl]) e he hb
        exact ih e.on (by omega) (by omega) (by rw [getD_sz (by omega) true false]; exact hf)
      · refine ⟨i, mem_ready.2 ⟨hu, ops[i], by simp [hl], fun e he hb => ?_⟩⟩
        cases hf : listed.getD e.on false with
        | true => rfl
        | false => exact absurd ⟨e, he, hb, hf⟩ hx
  obtain ⟨k, hk⟩ := key z z (Nat.le_refl _) (by omega) hz
  intro h0
  rw [h0] at hk
  cases hk
theorem wpAny_last {z : Nat} (h : lastIs md ops z = true) : ∀ (fuel : Nat) (listed : Array Bool) (a : Act) (w : World),
    listed.size = ops.size → Down md ops listed → listed.getD z true = false →
    wpAny P md ops (LastQ P ops z Q) fuel (listed.setIfInBounds z true) a w → wpAny P md ops Q (fuel + 1) listed a w := by
  obtain ⟨h1, h2, h3⟩ := lastIs_spec h
  have hrz : ∀ (listed : Array Bool), listed.size = ops.size → Down md ops listed → z ∈ Region.ready md ops listed → Region.ready md ops (listed.setIfInBounds z true) = [] := by
    intro listed hs hd hz
    refine List.eq_nil_iff_forall_not_mem.2 fun j hj => ?_
    obtain ⟨hu, o, ho, _⟩ := mem_ready.1 hj
    have hjl := (Array.getElem?_eq_some_iff.1 ho).1
    by_cases hjz : j = z
    · subst hjz; simp [hs, hjl] at hu
    · rw [getD_set_ne true (Ne.symm hjz)] at hu
      have := ready_last h hs hd hz j (by omega)
      rw [getD_sz (by omega) false true] at this
      rw [this] at hu; cases hu
  intro fuel
  induction fuel with
  | zero =>
    intro listed a w hs hd hz H
    refine ⟨fun h0 => absurd h0 (ready_some h hs hz), fun j hj => ?_⟩
    by_cases hjz : j = z
    · subst hjz
      refine wpOp_mono (fun a' w' hq => ?_) H.2
      exact ⟨H.1, hq⟩
    · have := ready_mono hj hjz
      rw [H.1] at this; cases this
  | succ fuel ih =>
    intro listed a w hs hd hz H
    refine ⟨fun h0 => absurd h0 (ready_some h hs hz), fun j hj => ?_⟩
    by_cases hjz : j = z
    · subst hjz
      have hn := hrz listed hs hd hj
      refine wpOp_mono (fun a' w' hq => ?_) (H.1 hn)
      exact wpAny_done hn hq _
    · have h4 := H.2 j (ready_mono hj hjz)
      obtain ⟨hju, oj, hoj, hall⟩ := mem_ready.1 hj
      refine wpOp_mono (fun a' w' h5 => ih (listed.setIfInBounds j true) a' w' (by simpa using hs) ?_ ?_ (by rw [Array.setIfInBounds_comm _ _ hjz]; exact h5)) (wpOp_last h4)
      · intro k o hk hl e he hb
        by_cases hkj : k = j
        · subst hkj
          rw [hoj] at hk
          cases hk
          exact getD_set_true (hall e he hb)
        · rw [getD_set_ne true (Ne.symm hkj)] at hl
          exact getD_set_true (hd k o hk hl e he hb)
      · rw [getD_set_ne true hjz]; exact hz
theorem wp_region_last {id : Nat} {a : Act} {w : World} (z : Nat) (hm : P.follows .mixedOrders = true) (hz : lastIs .any ops z = true) (hS : S w.drew)
    (h : S w.drew → wpAnyH P .any ops (LastQ P ops z Q) S (ops.size - 1) ((Array.replicate ops.size false).setIfInBounds z true) a w.drew) : (Code.region id ops true).wp P Q a w := by
  have hsz := (lastIs_spec hz).1
  refine wp_region_any hm ?_
  have h0 := wpAny_last (P := P) (Q := Q) hz (ops.size - 1) (Array.replicate ops.size false) a w.drew (by simp) (fun j o ho hl => ?_) ?_ (wpAny_of_held _ _ _ _ (h hS))
  · rw [Nat.sub_add_cancel (by omega)] at h0
    exact h0
  · have := (Array.getElem?_eq_some_iff.1 ho).1
    simp [this] at hl
  have : z < ops.size := by omega
  simp [this]
theorem LastQ_run {z : Nat} {o : Oper} {a : Act} {w : World} (ho : ops[z]? = some o)
    (h : ∀ K' : Act → World → Prop, Shut (∀ a w, Q .normal a w → K' a w) → if Region.wanted o (yielded ops a.tmps) = true then Oper.wp P o a w K' Q else K' (a.put o.dst undef) w) : LastQ P ops z Q .normal a w := by
  show wpOp P ops Q z (Q .normal) a w
  have := h (Q .normal) (fun _ _ h => h)
  unfold wpOp
  simp only [ho]
  by_cases hw : Region.wanted o (yielded ops a.tmps) = true
  · rw [if_pos hw] at this ⊢
    exact .inl this
  rw [if_neg hw] at this ⊢
  exact this
end
end Go.Proofs.YtpocjagbhiahdaaGreatDoor
