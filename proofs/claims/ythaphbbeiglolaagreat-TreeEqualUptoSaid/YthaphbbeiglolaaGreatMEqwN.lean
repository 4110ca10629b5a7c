/-
  Walks: slices.EqualFunc at the structs of a problem; slices.Equal at declarations.
-/
import Derived.Test.YthaphbbeiglolaaGreatMRatX
import Derived.Test.YthaphbbeiglolaaGreatMRCoN
namespace Go.Proofs.YthaphbbeiglolaaGreat
open Go.RowKit Go.Sort

/-- equally long, and alike by p -/
def allW {α : Type} (p : α → α → Bool) (zs ys : List α) : Bool := decide (zs.length = ys.length) && (zs.zip ys).all fun q => p q.1 q.2
theorem allW_true {α : Type} {p : α → α → Bool} {zs ys : List α} : allW p zs ys = true ↔ zs.length = ys.length ∧ ∀ (i : Nat) (x y : α), zs[i]? = some x → ys[i]? = some y → p x y = true := by
  unfold allW
  rw [Bool.and_eq_true, decide_eq_true_eq, List.all_eq_true]
  refine and_congr_right fun hl => ⟨fun h i x y hx hy => ?_, fun h q hq => ?_⟩
  · refine h (x, y) (List.mem_of_getElem? (i := i) ?_)
    rw [List.getElem?_zip_eq_some]; exact ⟨hx, hy⟩
  · obtain ⟨i, hi⟩ := List.getElem?_of_mem hq
    have hi2 := List.getElem?_zip_eq_some.1 hi
    exact h i _ _ hi2.1 hi2.2
theorem allW_false {α : Type} {p : α → α → Bool} {zs ys : List α} {i : Nat} {x y : α} (hx : zs[i]? = some x) (hy : ys[i]? = some y) (h : p x y = false) : allW p zs ys = false := by
  cases ha : allW p zs ys with
  | false => rfl
  | true => rw [(allW_true.1 ha).2 i x y hx hy] at h; cases h
theorem allW_len {α : Type} {p : α → α → Bool} {zs ys : List α} (h : ¬ zs.length = ys.length) : allW p zs ys = false := by unfold allW; rw [decide_eq_false h]; rfl
theorem allW_refl {α : Type} {p : α → α → Bool} {zs : List α} (h : ∀ x ∈ zs, p x x = true) : allW p zs zs = true := allW_true.2 ⟨rfl, fun i x y hx hy => by
  rw [hx] at hy; cases hy; exact h x (List.mem_of_getElem? hx)⟩
theorem allW_symm {α : Type} {p : α → α → Bool} (zs ys : List α) (h : ∀ x ∈ zs, ∀ y ∈ ys, p x y = p y x) : allW p zs ys = allW p ys zs := by
  rw [Bool.eq_iff_iff, allW_true, allW_true]
  constructor
  · rintro ⟨h1, h2⟩
    exact ⟨h1.symm, fun i x y hx hy => by rw [← h y (List.mem_of_getElem? hy) x (List.mem_of_getElem? hx)]; exact h2 i y x hy hx⟩
  · rintro ⟨h1, h2⟩
    exact ⟨h1.symm, fun i x y hx hy => by rw [h x (List.mem_of_getElem? hx) y (List.mem_of_getElem? hy)]; exact h2 i y x hy hx⟩
def deqB (a b : De) : Bool := decide (a.name = b.name) && (decide (a.ln = b.ln) && (decide (a.ld = b.ld) && (decide (a.hn = b.hn) && decide (a.hd = b.hd))))
def qeqB (a b : Qe) : Bool := decide (a.name = b.name) && a.e.eqv b.e
def xeqB (a b : Ed) : Bool := a.g.eqv b.g && (decide (a.dir = b.dir) && (decide (a.tx = b.tx) && allW qeqB a.rs b.rs))
def meqB (a b : Mo) : Bool := decide (a.name = b.name) && (allW qeqB a.fs b.fs && allW xeqB a.es b.es)
def peqB (a b : Pr) : Bool := decide (a.tn = b.tn ∧ a.td = b.td) && (allW deqB a.ss b.ss && (allW deqB a.ps b.ps && allW meqB a.ms b.ms))
theorem dec_symm {α : Type} [DecidableEq α] (a b : α) : decide (a = b) = decide (b = a) := decide_eq_decide.2 ⟨Eq.symm, Eq.symm⟩
theorem deqB_symm (a b : De) : deqB a b = deqB b a := by unfold deqB; rw [dec_symm a.name, dec_symm a.ln, dec_symm a.ld, dec_symm a.hn, dec_symm a.hd]
theorem qeqB_symm (a b : Qe) : qeqB a b = qeqB b a := by unfold qeqB; rw [dec_symm a.name, eqv_symm]
theorem xeqB_symm (a b : Ed) : xeqB a b = xeqB b a := by unfold xeqB; rw [dec_symm a.dir, dec_symm a.tx, eqv_symm, allW_symm a.rs b.rs fun x _ y _ => qeqB_symm x y]
theorem meqB_symm (a b : Mo) : meqB a b = meqB b a := by unfold meqB; rw [dec_symm a.name, allW_symm a.fs b.fs fun x _ y _ => qeqB_symm x y, allW_symm a.es b.es fun x _ y _ => xeqB_symm x y]
theorem peqB_symm (a b : Pr) : peqB a b = peqB b a := by
  unfold peqB
  rw [allW_symm a.ss b.ss fun x _ y _ => deqB_symm x y, allW_symm a.ps b.ps fun x _ y _ => deqB_symm x y, allW_symm a.ms b.ms fun x _ y _ => meqB_symm x y]
  congr 1
  exact decide_eq_decide.2 ⟨fun h => ⟨h.1.symm, h.2.symm⟩, fun h => ⟨h.1.symm, h.2.symm⟩⟩
theorem deqB_refl (a : De) : deqB a a = true := by unfold deqB; simp
theorem qeqB_refl (a : Qe) : qeqB a a = true := by unfold qeqB; rw [eqv_refl]; simp
theorem xeqB_refl (a : Ed) : xeqB a a = true := by unfold xeqB; rw [eqv_refl, allW_refl fun x _ => qeqB_refl x]; simp
theorem meqB_refl (a : Mo) : meqB a a = true := by unfold meqB; rw [allW_refl fun x _ => qeqB_refl x, allW_refl fun x _ => xeqB_refl x]; simp
theorem peqB_refl (a : Pr) : peqB a a = true := by unfold peqB; rw [allW_refl fun x _ => deqB_refl x, allW_refl fun x _ => deqB_refl x, allW_refl fun x _ => meqB_refl x]; simp
/-- the function g answers p at each two elements, in whatever later world, and keeps all that was there -/
def AnsW {α : Type} (cells : α → List Value) (P : Program) (g : FuncId) (cap : Array Value) (w : World) (zs ys : List α) (p : α → α → Bool) : Prop :=
  Enters P g ∧ ∀ x, x ∈ zs → ∀ y, y ∈ ys → ∀ w1, Kp w w1 → Calls P g (#[.agg (cells x).toArray, .agg (cells y).toArray] ++ cap) w1 fun e w2 => e = .returned (.bool (p x y)) ∧ Kp w1 w2
set_option maxHeartbeats 4000000 in
theorem eqwQ (a b' : Option Addr) (zs ys : List Qe) (c d B : Nat) (g : FuncId) (cap : Array Value) (w : World) (p : Qe → Qe → Bool) (hm : zs.length ≤ 1100000) (h : RowV Qe.cells 7 w B a zs) (h' : RowV Qe.cells 7 w B b' ys) (hp : AnsW Qe.cells Tryz.prog g cap w zs ys p) :
    Calls Tryz.prog 40 #[.slice a zs.length c, .slice b' ys.length d, .func (.func g) #[] cap] w fun e w' => e = .returned (.bool (allW p zs ys)) ∧ Kp w w' := by
  go_enter Tryz.func40, Tryz.ntmps40
  by_cases hlen : zs.length = ys.length
  · have Hlen := Lib.hid hlen
    rw [← hlen]
    clear hlen
    go_wp2
    go_loopw [17] (fun x wr => ∃ k : Nat, k ≤ zs.length ∧ x = .int .i64 k ∧ (∀ (i : Nat) (x y : Qe), zs[i]? = some x → ys[i]? = some y → i < k → p x y = true) ∧ Kp w wr) (fun x _ => zs.length - (intOf x).toNat)
    case atStart => exact ⟨0, by omega, rfl, fun i x y _ _ h1 => by omega, .refl _⟩
    case round =>
      obtain ⟨k, hk, rfl, hz, hkp⟩ := hrel
      have Hz := Lib.hid hz; clear hz
      by_cases hlt : k < zs.length
      · have hlt2 : k < ys.length := by have := Hlen.out; omega
        obtain ⟨b, o, rfl, hr, h0⟩ := (h.kp hkp) k (zs[k]) (List.getElem?_eq_getElem hlt)
        obtain ⟨b2, o2, rfl, hr2, j0⟩ := (h'.kp (hkp.alloc (.cells #[.string zs[k].name, .int .i64 zs[k].e.kind, .int .i64 zs[k].e.rn, .int .i64 zs[k].e.rd, .string zs[k].e.name, .int .i64 zs[k].e.pw, .slice zs[k].e.a zs[k].e.l.length zs[k].e.c] 73))) k (ys[k]) (List.getElem?_eq_getElem hlt2)
        have Hg := Lib.hid (List.getElem?_eq_getElem hlt)
        have Hg2 := Lib.hid (List.getElem?_eq_getElem hlt2)
        have hgo : ∀ args w, (callFunc g args).run Tryz.prog w = .ok (.enter g args) w := hp.1
        have hcall := fun w1 (hk1 : Kp w w1) => hp.2 _ (List.getElem_mem hlt) _ (List.getElem_mem hlt2) w1 hk1
        clear hp h h'
        generalize zs[k] = x at *
        generalize ys[k] = y at *
        have hcall : ∀ w1, Kp w w1 → Calls Tryz.prog g (#[.agg #[.string x.name, .int .i64 x.e.kind, .int .i64 x.e.rn, .int .i64 x.e.rd, .string x.e.name, .int .i64 x.e.pw, .slice x.e.a x.e.l.length x.e.c], .agg #[.string y.name, .int .i64 y.e.kind, .int .i64 y.e.rn, .int .i64 y.e.rd, .string y.e.name, .int .i64 y.e.pw, .slice y.e.a y.e.l.length y.e.c]] ++ cap) w1 fun e w2 => e = .returned (.bool (p x y)) ∧ Kp w1 w2 := hcall
        have q0 : wr.cell? ⟨b, o + k * 7, none⟩ = some (.string x.name) := h0 0 _ rfl; have q1 : wr.cell? ⟨b, o + k * 7 + 1, none⟩ = some (.int .i64 x.e.kind) := h0 1 _ rfl; have q2 : wr.cell? ⟨b, o + k * 7 + 2, none⟩ = some (.int .i64 x.e.rn) := h0 2 _ rfl; have q3 : wr.cell? ⟨b, o + k * 7 + 3, none⟩ = some (.int .i64 x.e.rd) := h0 3 _ rfl; have q4 : wr.cell? ⟨b, o + k * 7 + 4, none⟩ = some (.string x.e.name) := h0 4 _ rfl; have q5 : wr.cell? ⟨b, o + k * 7 + 5, none⟩ = some (.int .i64 x.e.pw) := h0 5 _ rfl; have q6 : wr.cell? ⟨b, o + k * 7 + 6, none⟩ = some (.slice x.e.a x.e.l.length x.e.c) := h0 6 _ rfl
        have s0 : (wr.alloc (.cells #[.string x.name, .int .i64 x.e.kind, .int .i64 x.e.rn, .int .i64 x.e.rd, .string x.e.name, .int .i64 x.e.pw, .slice x.e.a x.e.l.length x.e.c] 73)).cell? ⟨b2, o2 + k * 7, none⟩ = some (.string y.name) := j0 0 _ rfl; have s1 : (wr.alloc (.cells #[.string x.name, .int .i64 x.e.kind, .int .i64 x.e.rn, .int .i64 x.e.rd, .string x.e.name, .int .i64 x.e.pw, .slice x.e.a x.e.l.length x.e.c] 73)).cell? ⟨b2, o2 + k * 7 + 1, none⟩ = some (.int .i64 y.e.kind) := j0 1 _ rfl; have s2 : (wr.alloc (.cells #[.string x.name, .int .i64 x.e.kind, .int .i64 x.e.rn, .int .i64 x.e.rd, .string x.e.name, .int .i64 x.e.pw, .slice x.e.a x.e.l.length x.e.c] 73)).cell? ⟨b2, o2 + k * 7 + 2, none⟩ = some (.int .i64 y.e.rn) := j0 2 _ rfl; have s3 : (wr.alloc (.cells #[.string x.name, .int .i64 x.e.kind, .int .i64 x.e.rn, .int .i64 x.e.rd, .string x.e.name, .int .i64 x.e.pw, .slice x.e.a x.e.l.length x.e.c] 73)).cell? ⟨b2, o2 + k * 7 + 3, none⟩ = some (.int .i64 y.e.rd) := j0 3 _ rfl; have s4 : (wr.alloc (.cells #[.string x.name, .int .i64 x.e.kind, .int .i64 x.e.rn, .int .i64 x.e.rd, .string x.e.name, .int .i64 x.e.pw, .slice x.e.a x.e.l.length x.e.c] 73)).cell? ⟨b2, o2 + k * 7 + 4, none⟩ = some (.string y.e.name) := j0 4 _ rfl; have s5 : (wr.alloc (.cells #[.string x.name, .int .i64 x.e.kind, .int .i64 x.e.rn, .int .i64 x.e.rd, .string x.e.name, .int .i64 x.e.pw, .slice x.e.a x.e.l.length x.e.c] 73)).cell? ⟨b2, o2 + k * 7 + 5, none⟩ = some (.int .i64 y.e.pw) := j0 5 _ rfl; have s6 : (wr.alloc (.cells #[.string x.name, .int .i64 x.e.kind, .int .i64 x.e.rn, .int .i64 x.e.rd, .string x.e.name, .int .i64 x.e.pw, .slice x.e.a x.e.l.length x.e.c] 73)).cell? ⟨b2, o2 + k * 7 + 6, none⟩ = some (.slice y.e.a y.e.l.length y.e.c) := j0 6 _ rfl
        clear hlt2 h0 j0
        cases hq : p x y with
        | true =>
          rw [hq] at hcall
          have Hc := Lib.hid hcall
          have Hq := Lib.hid hq
          clear hcall hq
          go_wp2_with (refine (Hc.out _ ((hkp.alloc _).alloc _)).mono ?_; rintro e w2 ⟨rfl, hk2⟩)
          go_roundw
          case rel =>
            refine ⟨k + 1, by omega, by go_num, fun i x' y' hx hy hi => ?_, ((hkp.alloc _).alloc _).trans hk2⟩
            by_cases h : i = k
            · subst h; rw [Hg.out] at hx; rw [Hg2.out] at hy; cases hx; cases hy; exact Hq.out
            · exact Hz.out i x' y' hx hy (by omega)
          case measure => simp [intOf]; omega
        | false =>
          rw [hq] at hcall
          have Hc := Lib.hid hcall
          have Hq := Lib.hid (allW_false Hg.out Hg2.out hq)
          clear hcall hq
          go_wp2_with (refine (Hc.out _ ((hkp.alloc _).alloc _)).mono ?_; rintro e w2 ⟨rfl, hk2⟩)
          go_ret
          exact ⟨ret_bool Hq.out.symm, ((hkp.alloc _).alloc _).trans hk2⟩
      · have Hthis := Lib.hid (allW_true.2 ⟨Hlen.out, fun i x y hx hy => Hz.out i x y hx hy (by have := (List.getElem?_eq_some_iff.1 hx).1; omega)⟩)
        go_wp2
        go_ret
        exact ⟨ret_bool Hthis.out.symm, hkp⟩
  · have hl2 : ((zs.length : Int) == (ys.length : Int)) = false := beq_eq_false_iff_ne.2 (by omega)
    have H := Lib.hid (show allW p zs ys = false from allW_len hlen)
    clear hlen
    go_wp2
    go_ret
    exact ⟨ret_bool H.out.symm, .refl _⟩
set_option maxHeartbeats 4000000 in
theorem eqwR (a b' : Option Addr) (zs ys : List Qe) (c d B : Nat) (g : FuncId) (cap : Array Value) (w : World) (p : Qe → Qe → Bool) (hm : zs.length ≤ 1100000) (h : RowV Qe.cells 7 w B a zs) (h' : RowV Qe.cells 7 w B b' ys) (hp : AnsW Qe.cells Tryz.prog g cap w zs ys p) :
    Calls Tryz.prog 35 #[.slice a zs.length c, .slice b' ys.length d, .func (.func g) #[] cap] w fun e w' => e = .returned (.bool (allW p zs ys)) ∧ Kp w w' := by
  go_enter Tryz.func35, Tryz.ntmps35
  by_cases hlen : zs.length = ys.length
  · have Hlen := Lib.hid hlen
    rw [← hlen]
    clear hlen
    go_wp2
    go_loopw [17] (fun x wr => ∃ k : Nat, k ≤ zs.length ∧ x = .int .i64 k ∧ (∀ (i : Nat) (x y : Qe), zs[i]? = some x → ys[i]? = some y → i < k → p x y = true) ∧ Kp w wr) (fun x _ => zs.length - (intOf x).toNat)
    case atStart => exact ⟨0, by omega, rfl, fun i x y _ _ h1 => by omega, .refl _⟩
    case round =>
      obtain ⟨k, hk, rfl, hz, hkp⟩ := hrel
      have Hz := Lib.hid hz; clear hz
      by_cases hlt : k < zs.length
      · have hlt2 : k < ys.length := by have := Hlen.out; omega
        obtain ⟨b, o, rfl, hr, h0⟩ := (h.kp hkp) k (zs[k]) (List.getElem?_eq_getElem hlt)
        obtain ⟨b2, o2, rfl, hr2, j0⟩ := (h'.kp (hkp.alloc (.cells #[.string zs[k].name, .int .i64 zs[k].e.kind, .int .i64 zs[k].e.rn, .int .i64 zs[k].e.rd, .string zs[k].e.name, .int .i64 zs[k].e.pw, .slice zs[k].e.a zs[k].e.l.length zs[k].e.c] 66))) k (ys[k]) (List.getElem?_eq_getElem hlt2)
        have Hg := Lib.hid (List.getElem?_eq_getElem hlt)
        have Hg2 := Lib.hid (List.getElem?_eq_getElem hlt2)
        have hgo : ∀ args w, (callFunc g args).run Tryz.prog w = .ok (.enter g args) w := hp.1
        have hcall := fun w1 (hk1 : Kp w w1) => hp.2 _ (List.getElem_mem hlt) _ (List.getElem_mem hlt2) w1 hk1
        clear hp h h'
        generalize zs[k] = x at *
        generalize ys[k] = y at *
        have hcall : ∀ w1, Kp w w1 → Calls Tryz.prog g (#[.agg #[.string x.name, .int .i64 x.e.kind, .int .i64 x.e.rn, .int .i64 x.e.rd, .string x.e.name, .int .i64 x.e.pw, .slice x.e.a x.e.l.length x.e.c], .agg #[.string y.name, .int .i64 y.e.kind, .int .i64 y.e.rn, .int .i64 y.e.rd, .string y.e.name, .int .i64 y.e.pw, .slice y.e.a y.e.l.length y.e.c]] ++ cap) w1 fun e w2 => e = .returned (.bool (p x y)) ∧ Kp w1 w2 := hcall
        have q0 : wr.cell? ⟨b, o + k * 7, none⟩ = some (.string x.name) := h0 0 _ rfl; have q1 : wr.cell? ⟨b, o + k * 7 + 1, none⟩ = some (.int .i64 x.e.kind) := h0 1 _ rfl; have q2 : wr.cell? ⟨b, o + k * 7 + 2, none⟩ = some (.int .i64 x.e.rn) := h0 2 _ rfl; have q3 : wr.cell? ⟨b, o + k * 7 + 3, none⟩ = some (.int .i64 x.e.rd) := h0 3 _ rfl; have q4 : wr.cell? ⟨b, o + k * 7 + 4, none⟩ = some (.string x.e.name) := h0 4 _ rfl; have q5 : wr.cell? ⟨b, o + k * 7 + 5, none⟩ = some (.int .i64 x.e.pw) := h0 5 _ rfl; have q6 : wr.cell? ⟨b, o + k * 7 + 6, none⟩ = some (.slice x.e.a x.e.l.length x.e.c) := h0 6 _ rfl
        have s0 : (wr.alloc (.cells #[.string x.name, .int .i64 x.e.kind, .int .i64 x.e.rn, .int .i64 x.e.rd, .string x.e.name, .int .i64 x.e.pw, .slice x.e.a x.e.l.length x.e.c] 66)).cell? ⟨b2, o2 + k * 7, none⟩ = some (.string y.name) := j0 0 _ rfl; have s1 : (wr.alloc (.cells #[.string x.name, .int .i64 x.e.kind, .int .i64 x.e.rn, .int .i64 x.e.rd, .string x.e.name, .int .i64 x.e.pw, .slice x.e.a x.e.l.length x.e.c] 66)).cell? ⟨b2, o2 + k * 7 + 1, none⟩ = some (.int .i64 y.e.kind) := j0 1 _ rfl; have s2 : (wr.alloc (.cells #[.string x.name, .int .i64 x.e.kind, .int .i64 x.e.rn, .int .i64 x.e.rd, .string x.e.name, .int .i64 x.e.pw, .slice x.e.a x.e.l.length x.e.c] 66)).cell? ⟨b2, o2 + k * 7 + 2, none⟩ = some (.int .i64 y.e.rn) := j0 2 _ rfl; have s3 : (wr.alloc (.cells #[.string x.name, .int .i64 x.e.kind, .int .i64 x.e.rn, .int .i64 x.e.rd, .string x.e.name, .int .i64 x.e.pw, .slice x.e.a x.e.l.length x.e.c] 66)).cell? ⟨b2, o2 + k * 7 + 3, none⟩ = some (.int .i64 y.e.rd) := j0 3 _ rfl; have s4 : (wr.alloc (.cells #[.string x.name, .int .i64 x.e.kind, .int .i64 x.e.rn, .int .i64 x.e.rd, .string x.e.name, .int .i64 x.e.pw, .slice x.e.a x.e.l.length x.e.c] 66)).cell? ⟨b2, o2 + k * 7 + 4, none⟩ = some (.string y.e.name) := j0 4 _ rfl; have s5 : (wr.alloc (.cells #[.string x.name, .int .i64 x.e.kind, .int .i64 x.e.rn, .int .i64 x.e.rd, .string x.e.name, .int .i64 x.e.pw, .slice x.e.a x.e.l.length x.e.c] 66)).cell? ⟨b2, o2 + k * 7 + 5, none⟩ = some (.int .i64 y.e.pw) := j0 5 _ rfl; have s6 : (wr.alloc (.cells #[.string x.name, .int .i64 x.e.kind, .int .i64 x.e.rn, .int .i64 x.e.rd, .string x.e.name, .int .i64 x.e.pw, .slice x.e.a x.e.l.length x.e.c] 66)).cell? ⟨b2, o2 + k * 7 + 6, none⟩ = some (.slice y.e.a y.e.l.length y.e.c) := j0 6 _ rfl
        clear hlt2 h0 j0
        cases hq : p x y with
        | true =>
          rw [hq] at hcall
          have Hc := Lib.hid hcall
          have Hq := Lib.hid hq
          clear hcall hq
          go_wp2_with (refine (Hc.out _ ((hkp.alloc _).alloc _)).mono ?_; rintro e w2 ⟨rfl, hk2⟩)
          go_roundw
          case rel =>
            refine ⟨k + 1, by omega, by go_num, fun i x' y' hx hy hi => ?_, ((hkp.alloc _).alloc _).trans hk2⟩
            by_cases h : i = k
            · subst h; rw [Hg.out] at hx; rw [Hg2.out] at hy; cases hx; cases hy; exact Hq.out
            · exact Hz.out i x' y' hx hy (by omega)
          case measure => simp [intOf]; omega
        | false =>
          rw [hq] at hcall
          have Hc := Lib.hid hcall
          have Hq := Lib.hid (allW_false Hg.out Hg2.out hq)
          clear hcall hq
          go_wp2_with (refine (Hc.out _ ((hkp.alloc _).alloc _)).mono ?_; rintro e w2 ⟨rfl, hk2⟩)
          go_ret
          exact ⟨ret_bool Hq.out.symm, ((hkp.alloc _).alloc _).trans hk2⟩
      · have Hthis := Lib.hid (allW_true.2 ⟨Hlen.out, fun i x y hx hy => Hz.out i x y hx hy (by have := (List.getElem?_eq_some_iff.1 hx).1; omega)⟩)
        go_wp2
        go_ret
        exact ⟨ret_bool Hthis.out.symm, hkp⟩
  · have hl2 : ((zs.length : Int) == (ys.length : Int)) = false := beq_eq_false_iff_ne.2 (by omega)
    have H := Lib.hid (show allW p zs ys = false from allW_len hlen)
    clear hlen
    go_wp2
    go_ret
    exact ⟨ret_bool H.out.symm, .refl _⟩
set_option maxHeartbeats 4000000 in
theorem eqwX (a b' : Option Addr) (zs ys : List Ed) (c d B : Nat) (g : FuncId) (cap : Array Value) (w : World) (p : Ed → Ed → Bool) (hm : zs.length ≤ 1100000) (h : RowV Ed.cells 9 w B a zs) (h' : RowV Ed.cells 9 w B b' ys) (hp : AnsW Ed.cells Tryz.prog g cap w zs ys p) :
    Calls Tryz.prog 41 #[.slice a zs.length c, .slice b' ys.length d, .func (.func g) #[] cap] w fun e w' => e = .returned (.bool (allW p zs ys)) ∧ Kp w w' := by
  go_enter Tryz.func41, Tryz.ntmps41
  by_cases hlen : zs.length = ys.length
  · have Hlen := Lib.hid hlen
    rw [← hlen]
    clear hlen
    go_wp2
    go_loopw [17] (fun x wr => ∃ k : Nat, k ≤ zs.length ∧ x = .int .i64 k ∧ (∀ (i : Nat) (x y : Ed), zs[i]? = some x → ys[i]? = some y → i < k → p x y = true) ∧ Kp w wr) (fun x _ => zs.length - (intOf x).toNat)
    case atStart => exact ⟨0, by omega, rfl, fun i x y _ _ h1 => by omega, .refl _⟩
    case round =>
      obtain ⟨k, hk, rfl, hz, hkp⟩ := hrel
      have Hz := Lib.hid hz; clear hz
      by_cases hlt : k < zs.length
      · have hlt2 : k < ys.length := by have := Hlen.out; omega
        obtain ⟨b, o, rfl, hr, h0⟩ := (h.kp hkp) k (zs[k]) (List.getElem?_eq_getElem hlt)
        obtain ⟨b2, o2, rfl, hr2, j0⟩ := (h'.kp (hkp.alloc (.cells #[.int .i64 zs[k].g.kind, .int .i64 zs[k].g.rn, .int .i64 zs[k].g.rd, .string zs[k].g.name, .int .i64 zs[k].g.pw, .slice zs[k].g.a zs[k].g.l.length zs[k].g.c, .int .i64 zs[k].dir, .string zs[k].tx, .slice zs[k].a zs[k].rs.length zs[k].c] 70))) k (ys[k]) (List.getElem?_eq_getElem hlt2)
        have Hg := Lib.hid (List.getElem?_eq_getElem hlt)
        have Hg2 := Lib.hid (List.getElem?_eq_getElem hlt2)
        have hgo : ∀ args w, (callFunc g args).run Tryz.prog w = .ok (.enter g args) w := hp.1
        have hcall := fun w1 (hk1 : Kp w w1) => hp.2 _ (List.getElem_mem hlt) _ (List.getElem_mem hlt2) w1 hk1
        clear hp h h'
        generalize zs[k] = x at *
        generalize ys[k] = y at *
        have hcall : ∀ w1, Kp w w1 → Calls Tryz.prog g (#[.agg #[.int .i64 x.g.kind, .int .i64 x.g.rn, .int .i64 x.g.rd, .string x.g.name, .int .i64 x.g.pw, .slice x.g.a x.g.l.length x.g.c, .int .i64 x.dir, .string x.tx, .slice x.a x.rs.length x.c], .agg #[.int .i64 y.g.kind, .int .i64 y.g.rn, .int .i64 y.g.rd, .string y.g.name, .int .i64 y.g.pw, .slice y.g.a y.g.l.length y.g.c, .int .i64 y.dir, .string y.tx, .slice y.a y.rs.length y.c]] ++ cap) w1 fun e w2 => e = .returned (.bool (p x y)) ∧ Kp w1 w2 := hcall
        have q0 : wr.cell? ⟨b, o + k * 9, none⟩ = some (.int .i64 x.g.kind) := h0 0 _ rfl; have q1 : wr.cell? ⟨b, o + k * 9 + 1, none⟩ = some (.int .i64 x.g.rn) := h0 1 _ rfl; have q2 : wr.cell? ⟨b, o + k * 9 + 2, none⟩ = some (.int .i64 x.g.rd) := h0 2 _ rfl; have q3 : wr.cell? ⟨b, o + k * 9 + 3, none⟩ = some (.string x.g.name) := h0 3 _ rfl; have q4 : wr.cell? ⟨b, o + k * 9 + 4, none⟩ = some (.int .i64 x.g.pw) := h0 4 _ rfl; have q5 : wr.cell? ⟨b, o + k * 9 + 5, none⟩ = some (.slice x.g.a x.g.l.length x.g.c) := h0 5 _ rfl; have q6 : wr.cell? ⟨b, o + k * 9 + 6, none⟩ = some (.int .i64 x.dir) := h0 6 _ rfl; have q7 : wr.cell? ⟨b, o + k * 9 + 7, none⟩ = some (.string x.tx) := h0 7 _ rfl; have q8 : wr.cell? ⟨b, o + k * 9 + 8, none⟩ = some (.slice x.a x.rs.length x.c) := h0 8 _ rfl
        have s0 : (wr.alloc (.cells #[.int .i64 x.g.kind, .int .i64 x.g.rn, .int .i64 x.g.rd, .string x.g.name, .int .i64 x.g.pw, .slice x.g.a x.g.l.length x.g.c, .int .i64 x.dir, .string x.tx, .slice x.a x.rs.length x.c] 70)).cell? ⟨b2, o2 + k * 9, none⟩ = some (.int .i64 y.g.kind) := j0 0 _ rfl; have s1 : (wr.alloc (.cells #[.int .i64 x.g.kind, .int .i64 x.g.rn, .int .i64 x.g.rd, .string x.g.name, .int .i64 x.g.pw, .slice x.g.a x.g.l.length x.g.c, .int .i64 x.dir, .string x.tx, .slice x.a x.rs.length x.c] 70)).cell? ⟨b2, o2 + k * 9 + 1, none⟩ = some (.int .i64 y.g.rn) := j0 1 _ rfl; have s2 : (wr.alloc (.cells #[.int .i64 x.g.kind, .int .i64 x.g.rn, .int .i64 x.g.rd, .string x.g.name, .int .i64 x.g.pw, .slice x.g.a x.g.l.length x.g.c, .int .i64 x.dir, .string x.tx, .slice x.a x.rs.length x.c] 70)).cell? ⟨b2, o2 + k * 9 + 2, none⟩ = some (.int .i64 y.g.rd) := j0 2 _ rfl; have s3 : (wr.alloc (.cells #[.int .i64 x.g.kind, .int .i64 x.g.rn, .int .i64 x.g.rd, .string x.g.name, .int .i64 x.g.pw, .slice x.g.a x.g.l.length x.g.c, .int .i64 x.dir, .string x.tx, .slice x.a x.rs.length x.c] 70)).cell? ⟨b2, o2 + k * 9 + 3, none⟩ = some (.string y.g.name) := j0 3 _ rfl; have s4 : (wr.alloc (.cells #[.int .i64 x.g.kind, .int .i64 x.g.rn, .int .i64 x.g.rd, .string x.g.name, .int .i64 x.g.pw, .slice x.g.a x.g.l.length x.g.c, .int .i64 x.dir, .string x.tx, .slice x.a x.rs.length x.c] 70)).cell? ⟨b2, o2 + k * 9 + 4, none⟩ = some (.int .i64 y.g.pw) := j0 4 _ rfl; have s5 : (wr.alloc (.cells #[.int .i64 x.g.kind, .int .i64 x.g.rn, .int .i64 x.g.rd, .string x.g.name, .int .i64 x.g.pw, .slice x.g.a x.g.l.length x.g.c, .int .i64 x.dir, .string x.tx, .slice x.a x.rs.length x.c] 70)).cell? ⟨b2, o2 + k * 9 + 5, none⟩ = some (.slice y.g.a y.g.l.length y.g.c) := j0 5 _ rfl; have s6 : (wr.alloc (.cells #[.int .i64 x.g.kind, .int .i64 x.g.rn, .int .i64 x.g.rd, .string x.g.name, .int .i64 x.g.pw, .slice x.g.a x.g.l.length x.g.c, .int .i64 x.dir, .string x.tx, .slice x.a x.rs.length x.c] 70)).cell? ⟨b2, o2 + k * 9 + 6, none⟩ = some (.int .i64 y.dir) := j0 6 _ rfl; have s7 : (wr.alloc (.cells #[.int .i64 x.g.kind, .int .i64 x.g.rn, .int .i64 x.g.rd, .string x.g.name, .int .i64 x.g.pw, .slice x.g.a x.g.l.length x.g.c, .int .i64 x.dir, .string x.tx, .slice x.a x.rs.length x.c] 70)).cell? ⟨b2, o2 + k * 9 + 7, none⟩ = some (.string y.tx) := j0 7 _ rfl; have s8 : (wr.alloc (.cells #[.int .i64 x.g.kind, .int .i64 x.g.rn, .int .i64 x.g.rd, .string x.g.name, .int .i64 x.g.pw, .slice x.g.a x.g.l.length x.g.c, .int .i64 x.dir, .string x.tx, .slice x.a x.rs.length x.c] 70)).cell? ⟨b2, o2 + k * 9 + 8, none⟩ = some (.slice y.a y.rs.length y.c) := j0 8 _ rfl
        clear hlt2 h0 j0
        cases hq : p x y with
        | true =>
          rw [hq] at hcall
          have Hc := Lib.hid hcall
          have Hq := Lib.hid hq
          clear hcall hq
          go_wp2_with (refine (Hc.out _ ((hkp.alloc _).alloc _)).mono ?_; rintro e w2 ⟨rfl, hk2⟩)
          go_roundw
          case rel =>
            refine ⟨k + 1, by omega, by go_num, fun i x' y' hx hy hi => ?_, ((hkp.alloc _).alloc _).trans hk2⟩
            by_cases h : i = k
            · subst h; rw [Hg.out] at hx; rw [Hg2.out] at hy; cases hx; cases hy; exact Hq.out
            · exact Hz.out i x' y' hx hy (by omega)
          case measure => simp [intOf]; omega
        | false =>
          rw [hq] at hcall
          have Hc := Lib.hid hcall
          have Hq := Lib.hid (allW_false Hg.out Hg2.out hq)
          clear hcall hq
          go_wp2_with (refine (Hc.out _ ((hkp.alloc _).alloc _)).mono ?_; rintro e w2 ⟨rfl, hk2⟩)
          go_ret
          exact ⟨ret_bool Hq.out.symm, ((hkp.alloc _).alloc _).trans hk2⟩
      · have Hthis := Lib.hid (allW_true.2 ⟨Hlen.out, fun i x y hx hy => Hz.out i x y hx hy (by have := (List.getElem?_eq_some_iff.1 hx).1; omega)⟩)
        go_wp2
        go_ret
        exact ⟨ret_bool Hthis.out.symm, hkp⟩
  · have hl2 : ((zs.length : Int) == (ys.length : Int)) = false := beq_eq_false_iff_ne.2 (by omega)
    have H := Lib.hid (show allW p zs ys = false from allW_len hlen)
    clear hlen
    go_wp2
    go_ret
    exact ⟨ret_bool H.out.symm, .refl _⟩
set_option maxHeartbeats 4000000 in
theorem eqwM (a b' : Option Addr) (zs ys : List Mo) (c d B : Nat) (g : FuncId) (cap : Array Value) (w : World) (p : Mo → Mo → Bool) (hm : zs.length ≤ 1100000) (h : RowV Mo.cells 3 w B a zs) (h' : RowV Mo.cells 3 w B b' ys) (hp : AnsW Mo.cells Tryz.prog g cap w zs ys p) :
    Calls Tryz.prog 38 #[.slice a zs.length c, .slice b' ys.length d, .func (.func g) #[] cap] w fun e w' => e = .returned (.bool (allW p zs ys)) ∧ Kp w w' := by
  go_enter Tryz.func38, Tryz.ntmps38
  by_cases hlen : zs.length = ys.length
  · have Hlen := Lib.hid hlen
    rw [← hlen]
    clear hlen
    go_wp2
    go_loopw [17] (fun x wr => ∃ k : Nat, k ≤ zs.length ∧ x = .int .i64 k ∧ (∀ (i : Nat) (x y : Mo), zs[i]? = some x → ys[i]? = some y → i < k → p x y = true) ∧ Kp w wr) (fun x _ => zs.length - (intOf x).toNat)
    case atStart => exact ⟨0, by omega, rfl, fun i x y _ _ h1 => by omega, .refl _⟩
    case round =>
      obtain ⟨k, hk, rfl, hz, hkp⟩ := hrel
      have Hz := Lib.hid hz; clear hz
      by_cases hlt : k < zs.length
      · have hlt2 : k < ys.length := by have := Hlen.out; omega
        obtain ⟨b, o, rfl, hr, h0⟩ := (h.kp hkp) k (zs[k]) (List.getElem?_eq_getElem hlt)
        obtain ⟨b2, o2, rfl, hr2, j0⟩ := (h'.kp (hkp.alloc (.cells #[.string zs[k].name, .slice zs[k].fa zs[k].fs.length zs[k].fc, .slice zs[k].ea zs[k].es.length zs[k].ec] 61))) k (ys[k]) (List.getElem?_eq_getElem hlt2)
        have Hg := Lib.hid (List.getElem?_eq_getElem hlt)
        have Hg2 := Lib.hid (List.getElem?_eq_getElem hlt2)
        have hgo : ∀ args w, (callFunc g args).run Tryz.prog w = .ok (.enter g args) w := hp.1
        have hcall := fun w1 (hk1 : Kp w w1) => hp.2 _ (List.getElem_mem hlt) _ (List.getElem_mem hlt2) w1 hk1
        clear hp h h'
        generalize zs[k] = x at *
        generalize ys[k] = y at *
        have hcall : ∀ w1, Kp w w1 → Calls Tryz.prog g (#[.agg #[.string x.name, .slice x.fa x.fs.length x.fc, .slice x.ea x.es.length x.ec], .agg #[.string y.name, .slice y.fa y.fs.length y.fc, .slice y.ea y.es.length y.ec]] ++ cap) w1 fun e w2 => e = .returned (.bool (p x y)) ∧ Kp w1 w2 := hcall
        have q0 : wr.cell? ⟨b, o + k * 3, none⟩ = some (.string x.name) := h0 0 _ rfl; have q1 : wr.cell? ⟨b, o + k * 3 + 1, none⟩ = some (.slice x.fa x.fs.length x.fc) := h0 1 _ rfl; have q2 : wr.cell? ⟨b, o + k * 3 + 2, none⟩ = some (.slice x.ea x.es.length x.ec) := h0 2 _ rfl
        have s0 : (wr.alloc (.cells #[.string x.name, .slice x.fa x.fs.length x.fc, .slice x.ea x.es.length x.ec] 61)).cell? ⟨b2, o2 + k * 3, none⟩ = some (.string y.name) := j0 0 _ rfl; have s1 : (wr.alloc (.cells #[.string x.name, .slice x.fa x.fs.length x.fc, .slice x.ea x.es.length x.ec] 61)).cell? ⟨b2, o2 + k * 3 + 1, none⟩ = some (.slice y.fa y.fs.length y.fc) := j0 1 _ rfl; have s2 : (wr.alloc (.cells #[.string x.name, .slice x.fa x.fs.length x.fc, .slice x.ea x.es.length x.ec] 61)).cell? ⟨b2, o2 + k * 3 + 2, none⟩ = some (.slice y.ea y.es.length y.ec) := j0 2 _ rfl
        clear hlt2 h0 j0
        cases hq : p x y with
        | true =>
          rw [hq] at hcall
          have Hc := Lib.hid hcall
          have Hq := Lib.hid hq
          clear hcall hq
          go_wp2_with (refine (Hc.out _ ((hkp.alloc _).alloc _)).mono ?_; rintro e w2 ⟨rfl, hk2⟩)
          go_roundw
          case rel =>
            refine ⟨k + 1, by omega, by go_num, fun i x' y' hx hy hi => ?_, ((hkp.alloc _).alloc _).trans hk2⟩
            by_cases h : i = k
            · subst h; rw [Hg.out] at hx; rw [Hg2.out] at hy; cases hx; cases hy; exact Hq.out
            · exact Hz.out i x' y' hx hy (by omega)
          case measure => simp [intOf]; omega
        | false =>
          rw [hq] at hcall
          have Hc := Lib.hid hcall
          have Hq := Lib.hid (allW_false Hg.out Hg2.out hq)
          clear hcall hq
          go_wp2_with (refine (Hc.out _ ((hkp.alloc _).alloc _)).mono ?_; rintro e w2 ⟨rfl, hk2⟩)
          go_ret
          exact ⟨ret_bool Hq.out.symm, ((hkp.alloc _).alloc _).trans hk2⟩
      · have Hthis := Lib.hid (allW_true.2 ⟨Hlen.out, fun i x y hx hy => Hz.out i x y hx hy (by have := (List.getElem?_eq_some_iff.1 hx).1; omega)⟩)
        go_wp2
        go_ret
        exact ⟨ret_bool Hthis.out.symm, hkp⟩
  · have hl2 : ((zs.length : Int) == (ys.length : Int)) = false := beq_eq_false_iff_ne.2 (by omega)
    have H := Lib.hid (show allW p zs ys = false from allW_len hlen)
    clear hlen
    go_wp2
    go_ret
    exact ⟨ret_bool H.out.symm, .refl _⟩
end Go.Proofs.YthaphbbeiglolaaGreat
