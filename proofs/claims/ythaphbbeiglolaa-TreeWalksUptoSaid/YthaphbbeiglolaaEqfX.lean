/-
  Walks: slices.EqualFunc at []api.Expr, []api.Expr.
-/
import Derived.Test.YthaphbbeiglolaaRatX
namespace Go.Proofs.Ythaphbbeiglolaa
open Go.RowKit

/-- equally long, and alike by p -/
def allXX (p : Ex → Ex → Bool) (zs : List Ex) (ys : List Ex) : Bool := decide (zs.length = ys.length) && (zs.zip ys).all fun q => p q.1 q.2
theorem allXX_true {p : Ex → Ex → Bool} {zs : List Ex} {ys : List Ex} : allXX p zs ys = true ↔ zs.length = ys.length ∧ ∀ (i : Nat) (x : Ex) (y : Ex), zs[i]? = some x → ys[i]? = some y → p x y = true := by
  unfold allXX
  rw [Bool.and_eq_true, decide_eq_true_eq, List.all_eq_true]
  refine and_congr_right fun hl => ⟨fun h i x y hx hy => ?_, fun h q hq => ?_⟩
  · refine h (x, y) (List.mem_of_getElem? (i := i) ?_)
    rw [List.getElem?_zip_eq_some]; exact ⟨hx, hy⟩
  · obtain ⟨i, hi⟩ := List.getElem?_of_mem hq
    have hi2 := List.getElem?_zip_eq_some.1 hi
    exact h i _ _ hi2.1 hi2.2
theorem allXX_false {p : Ex → Ex → Bool} {zs : List Ex} {ys : List Ex} {i : Nat} {x : Ex} {y : Ex} (hx : zs[i]? = some x) (hy : ys[i]? = some y) (h : p x y = false) : allXX p zs ys = false := by
  cases ha : allXX p zs ys with
  | false => rfl
  | true => rw [(allXX_true.1 ha).2 i x y hx hy] at h; cases h
/-- the function g answers p at each two elements, in whatever later world, and keeps all that was there -/
def AnsXX (P : Program) (g : FuncId) (cap : Array Value) (w : World) (zs : List Ex) (ys : List Ex) (p : Ex → Ex → Bool) : Prop :=
  Enters P g ∧ ∀ x, x ∈ zs → ∀ y, y ∈ ys → ∀ w1, Kp w w1 → Calls P g (#[.agg #[.int .i64 x.kind, .int .i64 x.rn, .int .i64 x.rd, .string x.name, .int .i64 x.pw, .slice x.a x.l.length x.c], .agg #[.int .i64 y.kind, .int .i64 y.rn, .int .i64 y.rd, .string y.name, .int .i64 y.pw, .slice y.a y.l.length y.c]] ++ cap) w1 fun e w2 => e = .returned (.bool (p x y)) ∧ Kp w1 w2

set_option maxHeartbeats 4000000 in
theorem eqfXX (a b' : Option Addr) (zs : List Ex) (ys : List Ex) (c d B : Nat) (g : FuncId) (cap : Array Value) (w : World) (p : Ex → Ex → Bool) (hm : zs.length ≤ 1100000) (h : RowX w B a zs) (h' : RowX w B b' ys) (hp : AnsXX Try.prog g cap w zs ys p) :
    Calls Try.prog 27 #[.slice a zs.length c, .slice b' ys.length d, .func (.func g) #[] cap] w fun e w' => e = .returned (.bool (allXX p zs ys)) ∧ Kp w w' := by
  go_enter Try.func27, Try.ntmps27
  by_cases hlen : zs.length = ys.length
  · have Hlen := Lib.hid hlen
    rw [← hlen]
    clear hlen
    go_wp2
    go_loopw [17] (fun x wr => ∃ k : Nat, k ≤ zs.length ∧ x = .int .i64 k ∧ (∀ (i : Nat) (x : Ex) (y : Ex), zs[i]? = some x → ys[i]? = some y → i < k → p x y = true) ∧ Kp w wr) (fun x _ => zs.length - (intOf x).toNat)
    case atStart => exact ⟨0, by omega, rfl, fun i x y _ _ h1 => by omega, .refl _⟩
    case round =>
      obtain ⟨k, hk, rfl, hz, hkp⟩ := hrel
      have Hz := Lib.hid hz; clear hz
      by_cases hlt : k < zs.length
      · have hlt2 : k < ys.length := by have := Hlen.out; omega
        obtain ⟨b, o, rfl, hr, h0, h1, h2, h3, h4, h5⟩ := (h.kp hkp) k (zs[k]) (List.getElem?_eq_getElem hlt)
        obtain ⟨b2, o2, rfl, hr2, j0, j1, j2, j3, j4, j5⟩ := (h'.kp (hkp.alloc (.cells #[.int .i64 zs[k].kind, .int .i64 zs[k].rn, .int .i64 zs[k].rd, .string zs[k].name, .int .i64 zs[k].pw, .slice zs[k].a zs[k].l.length zs[k].c] 26))) k (ys[k]) (List.getElem?_eq_getElem hlt2)
        have Hg := Lib.hid (List.getElem?_eq_getElem hlt)
        have Hg2 := Lib.hid (List.getElem?_eq_getElem hlt2)
        have hgo : ∀ args w, (callFunc g args).run Try.prog w = .ok (.enter g args) w := hp.1
        have hcall := fun w1 (hk1 : Kp w w1) => hp.2 _ (List.getElem_mem hlt) _ (List.getElem_mem hlt2) w1 hk1
        clear hp h h'
        generalize zs[k] = x at *
        generalize ys[k] = y at *
        clear hlt2
        cases hq : p x y with
        | true =>
          rw [hq] at hcall
          have Hc := Lib.hid hcall
          have Hq := Lib.hid hq
          clear hcall hq
          go_wp2_with (refine (Hc.out _ ((hkp.alloc _).alloc _)).mono ?_; rintro e w2 ⟨rfl, hk2⟩)
          go_roundw
          case rel =>
            refine ⟨k + 1, by omega, by go_num, fun i x' y' hx hy hi => ?_, ((hkp.alloc _).alloc _).trans hk2⟩
            by_cases h : i = k
            · subst h; rw [Hg.out] at hx; rw [Hg2.out] at hy; cases hx; cases hy; exact Hq.out
            · exact Hz.out i x' y' hx hy (by omega)
          case measure => simp [intOf]; omega
        | false =>
          rw [hq] at hcall
          have Hc := Lib.hid hcall
          have Hq := Lib.hid (allXX_false Hg.out Hg2.out hq)
          clear hcall hq
          go_wp2_with (refine (Hc.out _ ((hkp.alloc _).alloc _)).mono ?_; rintro e w2 ⟨rfl, hk2⟩)
          go_ret
          exact ⟨ret_bool Hq.out.symm, ((hkp.alloc _).alloc _).trans hk2⟩
      · have Hthis := Lib.hid (allXX_true.2 ⟨Hlen.out, fun i x y hx hy => Hz.out i x y hx hy (by have := (List.getElem?_eq_some_iff.1 hx).1; omega)⟩)
        go_wp2
        go_ret
        exact ⟨ret_bool Hthis.out.symm, hkp⟩
  · have hl2 : ((zs.length : Int) == (ys.length : Int)) = false := beq_eq_false_iff_ne.2 (by omega)
    have H := Lib.hid (show allXX p zs ys = false by unfold allXX; rw [decide_eq_false hlen]; rfl)
    clear hlen
    go_wp2
    go_ret
    exact ⟨ret_bool H.out.symm, .refl _⟩
end Go.Proofs.Ythaphbbeiglolaa
