/-
  Walks: slices.IndexFunc, ContainsFunc at [][]flowpipe/api.Dyadic.
-/
import Derived.Test.YtpocjagbhiahdaaGreatDoorMIvA
namespace Go.Proofs.YtpocjagbhiahdaaGreatDoor
open Go.RowKit

def RowN (w : World) (a : Option Addr) (m : List (List RD)) : Prop :=
  ∀ i r, m[i]? = some r → ∃ b o ra rc, a = some ⟨b, o, none⟩ ∧ w.cell? ⟨b, o + i, none⟩ = some (.slice ra r.length rc) ∧ RowD w ra r ∧ r.length ≤ 1100000
theorem RowN.kp {w w' : World} {a : Option Addr} {m : List (List RD)} (h : RowN w a m) (k : Kp w w') : RowN w' a m := by
  intro i r hi
  obtain ⟨b, o, ra, rc, h1, h2, h3, h4⟩ := h i r hi
  exact ⟨b, o, ra, rc, h1, k.cell h2, h3.kp k, h4⟩
def firstN (p : List RD → Bool) (zs : List (List RD)) : Int := match zs.findIdx? p with | some i => (i : Int) | none => -1
theorem firstN_some {p : List RD → Bool} {zs : List (List RD)} {k : Nat} {x : List RD} (hk : zs[k]? = some x) (hp : p x = true) (h : ∀ i y, zs[i]? = some y → i < k → p y = false) : firstN p zs = k := by
  unfold firstN
  have : zs.findIdx? p = some k := by
    rw [List.findIdx?_eq_some_iff_getElem]
    obtain ⟨h1, h2⟩ := List.getElem?_eq_some_iff.1 hk
    refine ⟨h1, by rw [h2]; exact hp, fun j hj => ?_⟩
    rw [h j _ (List.getElem?_eq_getElem (by omega)) hj]; decide
  rw [this]
theorem firstN_none {p : List RD → Bool} {zs : List (List RD)} (h : ∀ (i : Nat) (y : List RD), zs[i]? = some y → p y = false) : firstN p zs = -1 := by
  unfold firstN
  have : zs.findIdx? p = none := by
    rw [List.findIdx?_eq_none_iff]
    intro y hy
    obtain ⟨i, hi⟩ := List.getElem?_of_mem hy
    exact h i y hi
  rw [this]
theorem firstN_any (p : List RD → Bool) (zs : List (List RD)) : decide (0 ≤ firstN p zs) = zs.any p := by
  unfold firstN
  cases h : zs.findIdx? p with
  | none =>
    have hm := List.findIdx?_eq_none_iff.1 h
    have : zs.any p = false := by rw [List.any_eq_false]; intro y hy; rw [hm y hy]; decide
    rw [this]; decide
  | some i =>
  have hm := List.findIdx?_eq_some_iff_getElem.1 h
  obtain ⟨h1, h2, _⟩ := hm
  have : zs.any p = true := List.any_eq_true.2 ⟨_, List.getElem_mem h1, h2⟩
  rw [this]; simp
def AnsN (P : Program) (g : FuncId) (cap : Array Value) (w : World) (zs : List (List RD)) (p : List RD → Bool) : Prop :=
  Enters P g ∧ ∀ x, x ∈ zs → ∀ a c w1, Kp w w1 → RowD w1 a x ∧ x.length ≤ 1100000 → Calls P g (#[.slice a x.length c] ++ cap) w1 fun e w2 => e = .returned (.bool (p x)) ∧ Kp w1 w2

set_option maxHeartbeats 4000000 in
theorem idxN (a : Option Addr) (zs : List (List RD)) (c : Nat) (g : FuncId) (cap : Array Value) (w : World) (p : List RD → Bool) (hm : zs.length ≤ 1100000) (h : RowN w a zs) (hp : AnsN Tryz.prog g cap w zs p) :
    Calls Tryz.prog 61 #[.slice a zs.length c, .func (.func g) #[] cap] w fun e w' => e = .returned (.int .i64 (firstN p zs)) ∧ Kp w w' := by
  go_enter Tryz.func61, Tryz.ntmps61
  go_wp2
  go_loopw [8] (fun x wr => ∃ k : Nat, k ≤ zs.length ∧ x = .int .i64 k ∧ (∀ i y, zs[i]? = some y → i < k → p y = false) ∧ Kp w wr) (fun x _ => zs.length - (intOf x).toNat)
  case atStart => exact ⟨0, by omega, rfl, fun i y _ h1 => by omega, .refl _⟩
  case round =>
  obtain ⟨k, hk, rfl, hz, hkp⟩ := hrel
  have Hz := Lib.hid hz; clear hz
  by_cases hlt : k < zs.length
  rotate_left
  · have Hthis := Lib.hid (firstN_none (p := p) (zs := zs) (fun i y hy => Hz.out i y hy (by have := (List.getElem?_eq_some_iff.1 hy).1; omega)))
    go_wp2
    go_ret
    exact ⟨ret_int Hthis.out.symm, hkp⟩
  obtain ⟨b, o, ra, rc, rfl, hcell, hrow⟩ := (h.kp hkp) k (zs[k]) (List.getElem?_eq_getElem hlt)
  have Hg := Lib.hid (List.getElem?_eq_getElem hlt)
  have hgo : ∀ args w, (callFunc g args).run Tryz.prog w = .ok (.enter g args) w := hp.1
  have hcall := hp.2 _ (List.getElem_mem hlt) ra rc wr hkp hrow
  clear hp h hrow
  generalize zs[k] = x at *
  cases hq : p x with
  | true =>
    rw [hq] at hcall
    have Hc := Lib.hid hcall
    have Hq := Lib.hid (firstN_some Hg.out hq Hz.out)
    clear hcall hq
    go_wp2_with (refine Hc.out.mono ?_; rintro e w2 ⟨rfl, hk2⟩)
    go_ret
    exact ⟨ret_int Hq.out.symm, hkp.trans hk2⟩
  | false =>
  rw [hq] at hcall
  have Hc := Lib.hid hcall
  have Hq := Lib.hid hq
  clear hcall hq
  go_wp2_with (refine Hc.out.mono ?_; rintro e w2 ⟨rfl, hk2⟩)
  go_roundw
  case measure => simp [intOf]; omega
  case rel =>
  refine ⟨k + 1, by omega, by go_num, fun i y hy hi => ?_, hkp.trans hk2⟩
  by_cases h : i = k
  · subst h; rw [Hg.out] at hy; cases hy; exact Hq.out
  exact Hz.out i y hy (by omega)
set_option maxHeartbeats 400000 in
theorem containsN (a : Option Addr) (zs : List (List RD)) (c : Nat) (g : FuncId) (cap : Array Value) (w : World) (p : List RD → Bool) (hm : zs.length ≤ 1100000) (h : RowN w a zs) (hp : AnsN Tryz.prog g cap w zs p) :
    Calls Tryz.prog 24 #[.slice a zs.length c, .func (.func g) #[] cap] w fun e w' => e = .returned (.bool (zs.any p)) ∧ Kp w w' := by
  have Hc := Lib.hid (idxN a zs c g cap w p hm h hp)
  have Ha := Lib.hid (firstN_any p zs)
  clear hp h
  go_enter Tryz.func24, Tryz.ntmps24
  go_wp2_with (refine Hc.out.mono ?_; rintro e w2 ⟨rfl, hk2⟩)
  go_ret
  exact ⟨by rw [← Ha.out]; rfl, hk2⟩
end Go.Proofs.YtpocjagbhiahdaaGreatDoor
