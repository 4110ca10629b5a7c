/-
  Walks: slices.IndexFunc, ContainsFunc at []api.Dyadic.
-/
import Derived.Test.YtkkiinbgjjjcoaaGreatDoorMRaw
import Derived.Test.YtkkiinbgjjjcoaaGreatDoorMBase
namespace Go.Proofs.YtkkiinbgjjjcoaaGreatDoor
open Go.RowKit
/-- the cells of numbers, one behind the other -/
def RowD (w : World) (a : Option Addr) (zs : List RD) : Prop :=
  ∀ i x, zs[i]? = some x → ∃ b o, a = some ⟨b, o, none⟩ ∧ x.rd w ∧ w.cell? ⟨b, o + i * 3, none⟩ = some (.bool x.neg) ∧ w.cell? ⟨b, o + i * 3 + 1, none⟩ = some (.slice x.a x.xs.length x.c) ∧ w.cell? ⟨b, o + i * 3 + 2, none⟩ = some (.int .i64 x.e)
theorem RowD.kp {w w' : World} {a : Option Addr} {zs : List RD} (h : RowD w a zs) (k : Kp w w') : RowD w' a zs := by
  intro i x hi
  obtain ⟨b, o, rfl, hr, h0, h1, h2⟩ := h i x hi
  exact ⟨b, o, rfl, hr.kp k, k.cell h0, k.cell h1, k.cell h2⟩

/-- the first index at which p answers true; -1 if there is none -/
def firstD (p : RD → Bool) (zs : List RD) : Int := match zs.findIdx? p with | some i => (i : Int) | none => -1
theorem firstD_some {p : RD → Bool} {zs : List RD} {k : Nat} {x : RD} (hk : zs[k]? = some x) (hp : p x = true) (h : ∀ i y, zs[i]? = some y → i < k → p y = false) : firstD p zs = k := by
  unfold firstD
  have : zs.findIdx? p = some k := by
    rw [List.findIdx?_eq_some_iff_getElem]
    obtain ⟨h1, h2⟩ := List.getElem?_eq_some_iff.1 hk
    refine ⟨h1, by rw [h2]; exact hp, fun j hj => ?_⟩
    rw [h j _ (List.getElem?_eq_getElem (by omega)) hj]; decide
  rw [this]
theorem firstD_none {p : RD → Bool} {zs : List RD} (h : ∀ (i : Nat) (y : RD), zs[i]? = some y → p y = false) : firstD p zs = -1 := by
  unfold firstD
  have : zs.findIdx? p = none := by
    rw [List.findIdx?_eq_none_iff]
    intro y hy
    obtain ⟨i, hi⟩ := List.getElem?_of_mem hy
    exact h i y hi
  rw [this]
theorem firstD_any (p : RD → Bool) (zs : List RD) : decide (0 ≤ firstD p zs) = zs.any p := by
  unfold firstD
  cases h : zs.findIdx? p with
  | some i =>
    have hm := List.findIdx?_eq_some_iff_getElem.1 h
    obtain ⟨h1, h2, _⟩ := hm
    have : zs.any p = true := List.any_eq_true.2 ⟨_, List.getElem_mem h1, h2⟩
    rw [this]; simp
  | none =>
    have hm := List.findIdx?_eq_none_iff.1 h
    have : zs.any p = false := by rw [List.any_eq_false]; intro y hy; rw [hm y hy]; decide
    rw [this]; decide
/-- the function g with the captured values cap answers p at each element, in whatever later world, and keeps all that was there -/
def AnsD (P : Program) (g : FuncId) (cap : Array Value) (w : World) (zs : List RD) (p : RD → Bool) : Prop :=
  Enters P g ∧ ∀ x, x ∈ zs → ∀ w1, Kp w w1 → Calls P g (#[.agg #[.bool x.neg, .slice x.a x.xs.length x.c, .int .i64 x.e]] ++ cap) w1 fun e w2 => e = .returned (.bool (p x)) ∧ Kp w1 w2

set_option maxHeartbeats 4000000 in
theorem idxD (a : Option Addr) (zs : List RD) (c : Nat) (g : FuncId) (cap : Array Value) (w : World) (p : RD → Bool) (hm : zs.length ≤ 1100000) (h : RowD w a zs) (hp : AnsD Tryz.prog g cap w zs p) :
    Calls Tryz.prog 35 #[.slice a zs.length c, .func (.func g) #[] cap] w fun e w' => e = .returned (.int .i64 (firstD p zs)) ∧ Kp w w' := by
  go_enter Tryz.func35, Tryz.ntmps35
  go_wp2
  go_loopw [8] (fun x wr => ∃ k : Nat, k ≤ zs.length ∧ x = .int .i64 k ∧ (∀ i y, zs[i]? = some y → i < k → p y = false) ∧ Kp w wr) (fun x _ => zs.length - (intOf x).toNat)
  case atStart => exact ⟨0, by omega, rfl, fun i y _ h1 => by omega, .refl _⟩
  case round =>
    obtain ⟨k, hk, rfl, hz, hkp⟩ := hrel
    have Hz := Lib.hid hz; clear hz
    by_cases hlt : k < zs.length
    · obtain ⟨b, o, rfl, hr, h0, h1, h2⟩ := (h.kp hkp) k (zs[k]) (List.getElem?_eq_getElem hlt)
      have Hg := Lib.hid (List.getElem?_eq_getElem hlt)
      have hgo : ∀ args w, (callFunc g args).run Tryz.prog w = .ok (.enter g args) w := hp.1
      have hcall := hp.2 _ (List.getElem_mem hlt) wr hkp
      clear hp h
      generalize zs[k] = x at *
      cases hq : p x with
      | true =>
        rw [hq] at hcall
        have Hc := Lib.hid hcall
        have Hq := Lib.hid (firstD_some Hg.out hq Hz.out)
        clear hcall hq
        go_wp2_with (refine Hc.out.mono ?_; rintro e w2 ⟨rfl, hk2⟩)
        go_ret
        exact ⟨ret_int Hq.out.symm, hkp.trans hk2⟩
      | false =>
        rw [hq] at hcall
        have Hc := Lib.hid hcall
        have Hq := Lib.hid hq
        clear hcall hq
        go_wp2_with (refine Hc.out.mono ?_; rintro e w2 ⟨rfl, hk2⟩)
        go_roundw
        case rel =>
          refine ⟨k + 1, by omega, by go_num, fun i y hy hi => ?_, hkp.trans hk2⟩
          by_cases h : i = k
          · subst h; rw [Hg.out] at hy; cases hy; exact Hq.out
          · exact Hz.out i y hy (by omega)
        case measure => simp [intOf]; omega
    · have Hthis := Lib.hid (firstD_none (p := p) (zs := zs) (fun i y hy => Hz.out i y hy (by have := (List.getElem?_eq_some_iff.1 hy).1; omega)))
      go_wp2
      go_ret
      exact ⟨ret_int Hthis.out.symm, hkp⟩

set_option maxHeartbeats 400000 in
theorem containsD (a : Option Addr) (zs : List RD) (c : Nat) (g : FuncId) (cap : Array Value) (w : World) (p : RD → Bool) (hm : zs.length ≤ 1100000) (h : RowD w a zs) (hp : AnsD Tryz.prog g cap w zs p) :
    Calls Tryz.prog 20 #[.slice a zs.length c, .func (.func g) #[] cap] w fun e w' => e = .returned (.bool (zs.any p)) ∧ Kp w w' := by
  have Hc := Lib.hid (idxD a zs c g cap w p hm h hp)
  have Ha := Lib.hid (firstD_any p zs)
  clear hp h
  go_enter Tryz.func20, Tryz.ntmps20
  go_wp2_with (refine Hc.out.mono ?_; rintro e w2 ⟨rfl, hk2⟩)
  go_ret
  exact ⟨by rw [← Ha.out]; rfl, hk2⟩
end Go.Proofs.YtkkiinbgjjjcoaaGreatDoor
