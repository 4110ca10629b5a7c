/-
  Walks: slices.IndexFunc, ContainsFunc at []string; tree.every at strings; the law's names.
-/
import Derived.Test.YthaphbbeiglolaaEquV
namespace Go.Proofs.Ythaphbbeiglolaa
open Go.RowKit Go.Sort

/-- a slice of texts lies there -/
def RowS (w : World) (a : Option Addr) (ss : List ByteArray) : Prop := ∀ (i : Nat) (s : ByteArray), ss[i]? = some s → ∃ b o, a = some ⟨b, o, none⟩ ∧ w.cell? ⟨b, o + i, none⟩ = some (.string s)
theorem RowS.kp {w w' : World} {a : Option Addr} {ss : List ByteArray} (h : RowS w a ss) (k : Kp w w') : RowS w' a ss := fun i s hs => by
  obtain ⟨b, o, e, hc⟩ := h i s hs
  exact ⟨b, o, e, k.cell hc⟩
/-- the function answers p at each text, in whatever later world, and keeps all that was there -/
def AnsS (P : Program) (g : FuncId) (cap : Array Value) (w : World) (ss : List ByteArray) (p : ByteArray → Bool) : Prop :=
  Enters P g ∧ ∀ s, s ∈ ss → ∀ w1, Kp w w1 → Calls P g (#[.string s] ++ cap) w1 fun e w2 => e = .returned (.bool (p s)) ∧ Kp w1 w2
set_option maxHeartbeats 4000000 in
theorem idxS (a : Option Addr) (ss : List ByteArray) (c : Nat) (g : FuncId) (cap : Array Value) (w : World) (p : ByteArray → Bool) (hm : ss.length ≤ 1100000) (hrow : RowS w a ss) (hp : AnsS Try.prog g cap w ss p) :
    Calls Try.prog 71 #[.slice a ss.length c, .func (.func g) #[] cap] w fun e w' => ((∃ k : Nat, e = .returned (.int .i64 (k : Int)) ∧ k < ss.length ∧ ss.any p = true) ∨ (e = .returned (.int .i64 (-1)) ∧ ss.any p = false)) ∧ Kp w w' := by
  have HR := Lib.hid hrow
  have HP := Lib.hid hp.2
  have hgo : ∀ args w, (callFunc g args).run Try.prog w = .ok (.enter g args) w := hp.1
  clear hrow hp
  go_enter Try.func71, Try.ntmps71
  go_wp2
  go_loopw [8] (fun x wr => ∃ k : Nat, k ≤ ss.length ∧ x = .int .i64 k ∧ (∀ (i : Nat) (s : ByteArray), ss[i]? = some s → i < k → p s = false) ∧ Kp w wr) (fun x _ => ss.length - (intOf x).toNat)
  case atStart => exact ⟨0, by omega, rfl, fun i s _ h => absurd h (Nat.not_lt_zero _), .refl _⟩
  case round =>
    obtain ⟨k, hk, rfl, hz, hkp⟩ := hrel
    have Hz := Lib.hid hz
    have Hk := Lib.hid hkp
    clear hz
    by_cases hlt : k < ss.length
    · obtain ⟨s, hs⟩ : ∃ s, ss[k]? = some s := ⟨_, List.getElem?_eq_getElem hlt⟩
      obtain ⟨b, o, rfl, h0⟩ := HR.out.kp hkp k s hs
      have Hc := HP.out s (List.mem_of_getElem? hs) wr hkp
      have Hs := Lib.hid hs
      clear hs hkp
      cases hq : p s with
      | true =>
        rw [hq] at Hc
        have Hc := Lib.hid Hc
        have Ha := Lib.hid (show ss.any p = true from List.any_eq_true.2 ⟨s, List.mem_of_getElem? Hs.out, hq⟩)
        clear hq
        go_wp2_with (refine Hc.out.mono ?_; rintro e w2 ⟨rfl, k2⟩)
        go_ret
        exact ⟨.inl ⟨k, rfl, hlt, Ha.out⟩, Hk.out.trans k2⟩
      | false =>
        rw [hq] at Hc
        have Hc := Lib.hid Hc
        have Hq := Lib.hid hq
        clear hq
        go_wp2_with (refine Hc.out.mono ?_; rintro e w2 ⟨rfl, k2⟩)
        go_roundw
        case rel =>
          refine ⟨k + 1, by omega, by go_num, fun i s' hs' hi => ?_, Hk.out.trans k2⟩
          by_cases h : i = k
          · subst h; rw [Hs.out] at hs'; cases hs'; exact Hq.out
          · exact Hz.out i s' hs' (by omega)
        case measure => simp [intOf]; omega
    · have Ha := Lib.hid (show ss.any p = false from List.any_eq_false.2 fun s hs => by
        obtain ⟨i, hi⟩ := List.getElem?_of_mem hs
        rw [Hz.out i s hi (by have := (List.getElem?_eq_some_iff.1 hi).1; omega)]; decide)
      clear hkp
      go_wp2
      go_ret
      exact ⟨.inr ⟨rfl, Ha.out⟩, Hk.out⟩
set_option maxHeartbeats 400000 in
theorem containsS (a : Option Addr) (ss : List ByteArray) (c : Nat) (g : FuncId) (cap : Array Value) (w : World) (p : ByteArray → Bool) (hm : ss.length ≤ 1100000) (hrow : RowS w a ss) (hp : AnsS Try.prog g cap w ss p) :
    Calls Try.prog 53 #[.slice a ss.length c, .func (.func g) #[] cap] w fun e w' => e = .returned (.bool (ss.any p)) ∧ Kp w w' := by
  have Hc := Lib.hid (idxS a ss c g cap w p hm hrow hp)
  clear hp hrow
  obtain ⟨b0, hb0⟩ : ∃ b0, ss.any p = b0 := ⟨_, rfl⟩
  rw [hb0] at Hc ⊢
  clear hb0
  go_enter Try.func53, Try.ntmps53
  go_wp2_with (refine Hc.out.mono ?_; rintro e w2 ⟨(⟨k, rfl, hk, hb⟩ | ⟨rfl, hb⟩), k2⟩)
  · have hk0 : (0 : Int) ≤ (k : Int) := by omega
    subst hb
    go_wp2
    go_ret
    exact ⟨rfl, k2⟩
  · subst hb
    go_wp2
    go_ret
    exact ⟨rfl, k2⟩
set_option maxHeartbeats 2000000 in
theorem everyS1_any (s : ByteArray) (g : FuncId) (cap : Array Value) (sb : Nat) (w : World) (q : Bool) (hb : w.cell? ⟨sb, 0, none⟩ = some (.func (.func g) #[] cap)) (hE : Enters Try.prog g)
    (h : Calls Try.prog g (#[.string s] ++ cap) w fun e w2 => e = .returned (.bool q) ∧ Kp w w2) :
    Calls Try.prog 67 #[.string s, .pointer (some ⟨sb, 0, none⟩)] w fun e w2 => e = .returned (.bool (!q)) ∧ Kp w w2 := by
  have hgo : ∀ args w, (callFunc g args).run Try.prog w = .ok (.enter g args) w := hE
  have HX := Lib.hid h
  clear h
  go_enter Try.func67, Try.ntmps67
  go_wp2_with (refine HX.out.mono ?_; rintro e w2 ⟨rfl, k2⟩)
  go_ret
  exact ⟨rfl, k2⟩
set_option maxHeartbeats 2000000 in
theorem everyS_any (a : Option Addr) (ss : List ByteArray) (c : Nat) (g : FuncId) (cap : Array Value) (w : World) (p : ByteArray → Bool) (hm : ss.length ≤ 1100000) (hrow : RowS w a ss) (hp : AnsS Try.prog g cap w ss p) :
    Calls Try.prog 50 #[.slice a ss.length c, .func (.func g) #[] cap] w fun e w' => e = .returned (.bool (ss.all p)) ∧ Kp w w' := by
  have k1 : Kp w (w.alloc (.cells #[.func (.func g) #[] cap] 32)) := (Kp.refl w).alloc _
  have hb : (w.alloc (.cells #[.func (.func g) #[] cap] 32)).cell? ⟨w.heap.size, 0, none⟩ = some (.func (.func g) #[] cap) := new_cell _ _ _ _ rfl
  have he : (!ss.any fun s => !p s) = ss.all p := by simp [List.all_eq_not_any_not]
  obtain ⟨b0, hb0⟩ : ∃ b0, ss.all p = b0 := ⟨_, rfl⟩
  rw [hb0] at he ⊢
  go_enter Try.func50, Try.ntmps50
  go_upto_region 1 with fail
  generalize w.alloc _ = W at *
  have HC := Lib.hid (containsS a ss c 67 #[.pointer (some ⟨w.heap.size, 0, none⟩)] W (fun s => !p s) hm (hrow.kp k1)
    ⟨fun _ _ => by kernel_rfl, fun s hs w1 hk => everyS1_any s g cap w.heap.size w1 (p s) (hk.cell hb) hp.1 (hp.2 s hs w1 (k1.trans hk))⟩)
  have hz : (ss.any fun s => !p s) = !b0 := by rw [← he]; simp
  rw [hz] at HC
  have K1 := Lib.hid k1
  clear hz he hb0 hrow hp hb k1
  go_wp2_with (go_at_call 53; go_fit HC.out; rintro r w2 ⟨rfl, k2⟩)
  go_ret
  exact ⟨by simp, K1.out.trans k2⟩
end Go.Proofs.Ythaphbbeiglolaa
