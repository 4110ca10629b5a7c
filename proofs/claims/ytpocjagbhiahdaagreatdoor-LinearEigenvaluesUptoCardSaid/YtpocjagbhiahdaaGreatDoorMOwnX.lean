/-
  The call's own slices of numbers, and of rows of numbers, while boxes below them are written to.
-/
import Derived.Test.YtpocjagbhiahdaaGreatDoorMRoC
import Derived.Test.YtpocjagbhiahdaaGreatDoorMDotM
import Derived.Test.YtpocjagbhiahdaaGreatDoorMIdxI
import Derived.Test.YtpocjagbhiahdaaGreatDoorMDy
import Derived.Shelf.Spec.TrailingZeros
import Derived.Deep.DeepFit
import Derived.Test.YtpocjagbhiahdaaGreatDoorMRoAdd
import Derived.Deep.LoopGhost
import Derived.Deep.RegionHeld3
import Derived.Test.YtpocjagbhiahdaaGreatDoorMIvA
import Derived.Test.YtpocjagbhiahdaaGreatDoorMDyB
namespace Go.Proofs.YtpocjagbhiahdaaGreatDoor
open Go.RowKit
theorem Below.both {B : Nat} {a w : World} (h : Below B a w) (p : Addr) (v : Value) : Below B (a.setCell p v) (w.setCell p v) := by
  have h1 := Below.setCell (Below.refl 0 a) (p := p) (Nat.zero_le _) v
  have h2 := Below.setCell (Below.refl 0 w) (p := p) (Nat.zero_le _) v
  refine ⟨h2.os.trans (h.os.trans h1.os.symm), h2.tape.trans (h.tape.trans h1.tape.symm), h2.output.trans (h.output.trans h1.output.symm), by simpa using h.size, fun k hk => ?_⟩
  by_cases e : k = p.block
  · subst e
    have hb := h.block p.block hk
    unfold World.setCell
    simp only [Array.getElem?_modify, hb]
  rw [Below.heap_setCell w p v k e, Below.heap_setCell a p v k e]; exact h.block k hk
theorem Kp.both {a w : World} (h : Kp a w) (p : Addr) (v : Value) : Kp (a.setCell p v) (w.setCell p v) := by
  have := Below.both h p v
  unfold Kp
  simpa using this
theorem RD.rd.set {w : World} {x : RD} (h : x.rd w) {p : Addr} {u : Value} (hc : w.cell? p = some u) (hu : NoU u) (v : Value) : x.rd (w.setCell p v) := ⟨h.1.other hc hu, h.2⟩
theorem RI.rd.set {w : World} {x : RI} (h : x.rd w) {p : Addr} {u : Value} (hc : w.cell? p = some u) (hu : NoU u) (v : Value) : x.rd (w.setCell p v) := ⟨RD.rd.set h.1 hc hu v, RD.rd.set h.2 hc hu v⟩
theorem OwnE.set {wb w : World} {v : Value} {zs : List RD} (h : OwnE wb w v zs) {b i : Nat} {u : Value} (hb : b < wb.heap.size) (hc : w.cell? ⟨b, i, none⟩ = some u) (hu : NoU u) (y : Value) : OwnE (wb.setCell ⟨b, i, none⟩ y) (w.setCell ⟨b, i, none⟩ y) v zs := by
  obtain ⟨h1, h2, h3, h4⟩ := h
  have hv : v.ownBlock ≠ some b := fun e => by have := (h2.lt b e).1; omega
  refine ⟨h1.both _ _, ?_, fun g hg j z hz => ?_, fun x hx => RD.rd.set (h4 x hx) hc hu y⟩
  · have := ownsRow_setCell_other h2 (a := ⟨b, i, none⟩) hv y
    simpa using this
  rw [cell_set_ne (fun e => by injection e with e1; subst e1; exact hv hg)] at hz
  exact h3 g hg j z hz
def RowDs (S : Nat) (w : World) (a : Option Addr) (zs : List RD) : Prop := RowD w a zs ∧ ∀ p, a = some p → S ≤ p.block
theorem RowDs.kp {S : Nat} {w w' : World} {a : Option Addr} {zs : List RD} (h : RowDs S w a zs) (k : Kp w w') : RowDs S w' a zs := ⟨h.1.kp k, h.2⟩
theorem RowDs.set {S : Nat} {w : World} {a : Option Addr} {zs : List RD} (h : RowDs S w a zs) {b i : Nat} {u : Value} (hb : b < S) (hc : w.cell? ⟨b, i, none⟩ = some u) (hu : NoU u) (y : Value) : RowDs S (w.setCell ⟨b, i, none⟩ y) a zs := by
  refine ⟨fun j x hj => ?_, h.2⟩
  obtain ⟨g, o, e, hr, h0, h1, h2⟩ := h.1 j x hj
  have hg : S ≤ g := h.2 _ e
  have d (k : Nat) : (⟨b, i, none⟩ : Addr) ≠ ⟨g, k, none⟩ := fun e => by injection e with e1; omega
  refine ⟨g, o, e, RD.rd.set hr hc hu y, ?_, ?_, ?_⟩ <;> (rw [cell_set_ne (d _)]; assumption)
theorem RowDs.far {S : Nat} {w w' : World} {v : Value} {a : Option Addr} {r : List RD} (h : RowDs S w a r) (hg : w.grownBy w' v.ownBlock) (hn : AllC NoU w v) (ho : Off v a w) : RowDs S w' a r := by
  refine ⟨fun i x hi => ?_, h.2⟩
  obtain ⟨b, o, e, hr, h0, h1, h2⟩ := h.1 i x hi
  obtain ⟨hne, _⟩ := ho _ e
  have hne' : ∀ j, some (⟨b, j, none⟩ : Addr).block ≠ v.ownBlock := fun j e => hne e.symm
  exact ⟨b, o, e, hr.far hg hn, hg.cell h0 (hne' _), hg.cell h1 (hne' _), hg.cell h2 (hne' _)⟩
def RowNs (S : Nat) (w : World) (a : Option Addr) (m : List (List RD)) : Prop :=
  ∀ (i : Nat) (r : List RD), m[i]? = some r → ∃ b o ra rc, a = some ⟨b, o, none⟩ ∧ S ≤ b ∧ w.cell? ⟨b, o + i, none⟩ = some (.slice ra r.length rc) ∧ RowDs S w ra r ∧ r.length ≤ 1100000
theorem RowNs.row {S : Nat} {w : World} {a : Option Addr} {m : List (List RD)} (h : RowNs S w a m) : RowN w a m := fun i r hi => by
  obtain ⟨b, o, ra, rc, e, _, hc, hr, hl⟩ := h i r hi
  exact ⟨b, o, ra, rc, e, hc, hr.1, hl⟩
theorem RowNs.kp {S : Nat} {w w' : World} {a : Option Addr} {m : List (List RD)} (h : RowNs S w a m) (k : Kp w w') : RowNs S w' a m := fun i r hi => by
  obtain ⟨b, o, ra, rc, e, hs, hc, hr, hl⟩ := h i r hi
  exact ⟨b, o, ra, rc, e, hs, k.cell hc, hr.kp k, hl⟩
theorem RowNs.set {S : Nat} {w : World} {a : Option Addr} {m : List (List RD)} (h : RowNs S w a m) {b i : Nat} {u : Value} (hb : b < S) (hc : w.cell? ⟨b, i, none⟩ = some u) (hu : NoU u) (y : Value) : RowNs S (w.setCell ⟨b, i, none⟩ y) a m := fun j r hj => by
  obtain ⟨g, o, ra, rc, e, hs, hq, hr, hl⟩ := h j r hj
  refine ⟨g, o, ra, rc, e, hs, ?_, RowDs.set hr hb hc hu y, hl⟩
  rw [cell_set_ne (fun e => by injection e with e1; omega)]; exact hq
def OwnX (S : Nat) (wb w : World) (v : Value) (us : List Value) (R : List (List RD)) : Prop :=
  (Kp wb w ∧ S ≤ wb.heap.size) ∧ w.ownsRow wb.heap.size 61 1 v us.length us ∧ AllC NoU w v ∧ us.length = R.length ∧
  ∀ (i : Nat) (r : List RD), R[i]? = some r → r.length ≤ 1100000 ∧ ∃ ra rc, us[i]? = some (Value.slice ra r.length rc) ∧ RowDs S w ra r ∧ Off v ra w
theorem OwnX.nil {S : Nat} {wb w : World} (k : Kp wb w) (hS : S ≤ wb.heap.size) : OwnX S wb w (.slice none 0 0) [] [] := ⟨⟨k, hS⟩, World.ownsRow_nil _ _ _ _, AllC.nil _ _, rfl, fun i r h => by simp at h⟩
theorem OwnX.kp {S : Nat} {wb w w' : World} {v : Value} {us : List Value} {R : List (List RD)} (h : OwnX S wb w v us R) (k : Kp w w') : OwnX S wb w' v us R := by
  obtain ⟨h1, h2, h3, h4, h5⟩ := h
  refine ⟨⟨h1.1.trans k, h1.2⟩, Kp.owns h2 k, h3.kp h2 k, h4, fun i r hi => ?_⟩
  obtain ⟨q1, ra, rc, q2, q3, q4⟩ := h5 i r hi
  exact ⟨q1, ra, rc, q2, q3.kp k, q4.kp k.size⟩
theorem OwnX.set {S : Nat} {wb w : World} {v : Value} {us : List Value} {R : List (List RD)} (h : OwnX S wb w v us R) {b i : Nat} {u : Value} (hb : b < S) (hc : w.cell? ⟨b, i, none⟩ = some u) (hu : NoU u) (y : Value) : OwnX S (wb.setCell ⟨b, i, none⟩ y) (w.setCell ⟨b, i, none⟩ y) v us R := by
  obtain ⟨h1, h2, h3, h4, h5⟩ := h
  have hv : v.ownBlock ≠ some b := fun e => by have := (h2.lt b e).1; have := h1.2; omega
  refine ⟨⟨h1.1.both _ _, by simpa using h1.2⟩, ?_, fun g hg j z hz => ?_, h4, fun j r hj => ?_⟩
  · have := ownsRow_setCell_other h2 (a := ⟨b, i, none⟩) hv y
    simpa using this
  · rw [cell_set_ne (fun e => by injection e with e1; subst e1; exact hv hg)] at hz
    exact h3 g hg j z hz
  obtain ⟨q1, ra, rc, q2, q3, q4⟩ := h5 j r hj
  exact ⟨q1, ra, rc, q2, q3.set hb hc hu y, q4.kp (by simp)⟩
theorem OwnX.value {S : Nat} {wb w : World} {v : Value} {us : List Value} {R : List (List RD)} (h : OwnX S wb w v us R) : ∃ a c, v = .slice a R.length c ∧ R.length ≤ c ∧ c ≤ maxLen ∧ RowNs S w a R := by
  obtain ⟨h1, ⟨h2, h3⟩, h6, h4, h5⟩ := h
  rcases h3 with ⟨rfl, h3⟩ | ⟨g, cap, cur, rfl, hb, hg, hn, hc, hs, ht⟩
  · have h0 : R = [] := List.length_eq_zero_iff.1 (by omega)
    subst h0
    exact ⟨none, 0, rfl, Nat.le_refl _, by decide, fun i x hi => by simp at hi⟩
  rw [h4]
  refine ⟨_, _, rfl, by omega, hc, fun i r hi => ?_⟩
  obtain ⟨q1, ra, rc, q2, q3, q4⟩ := h5 i r hi
  have hil : i < us.length := (List.getElem?_eq_some_iff.1 q2).1
  refine ⟨g, 0, ra, rc, rfl, by have := h1.2; omega, ?_, q3, q1⟩
  rw [Nat.zero_add, cell_of_row w g _ cur _ _ hg]
  have h7 : (cur.toList.take (us.length * 1))[i]? = some (.slice ra r.length rc) := by rw [ht]; exact q2
  rw [List.getElem?_take, if_pos (by omega)] at h7
  simpa using h7
theorem OwnX.new {S : Nat} {wb w : World} {v : Value} {us : List Value} {R : List (List RD)} (h : OwnX S wb w v us R) : ∀ g, v.ownBlock = some g → g < w.heap.size := fun g hg => (h.2.1.lt g hg).2
theorem wpList_append_rowx {w : World} {ops : Array Oper} {rest : List Oper} {o : Oper} {a : Act} {Q : Exit → Act → World → Prop} (hgd : o.guard = none) (s x : Operand)
    (ho : o.op = .call { callee := .builtin .append, args := #[s, x], argTypes := #[22, 22] })
    (S : Nat) (wb : World) (v : Value) (us : List Value) (R : List (List RD)) (hs : a.eval s = v) (hown : OwnX S wb w v us R)
    (g c : Nat) (hx : a.eval x = .slice (some ⟨g, 0, none⟩) 1 c) (ra : Option Addr) (rc : Nat) (r : List RD) (hr : RowDs S w ra r) (hoff : Off v ra w) (hrl : r.length ≤ 1100000)
    (hcell : w.cell? ⟨g, 0, none⟩ = some (.slice ra r.length rc)) (hlen : R.length + 1 ≤ 9000000)
    (h : ∀ v' us' w', OwnX S wb w' v' us' (R ++ [r]) → wpList Tryz.prog ops Q rest (a.put o.dst v') w') :
    wpList Tryz.prog ops Q (o :: rest) a w := by
  obtain ⟨i0, hi, hz0, hz1, hz2⟩ := info_parts infoSlD
  obtain ⟨hk, hown1, hall, hle, hrows⟩ := hown
  refine wpList_append_all w NoU hgd s x 22 ho wb.heap.size 61 i0 (.slice none 0 0) 1 24 Tryz.underlying22 hi hz0 hz1 hz2 rfl (by decide) v us.length us hs hown1
    ⟨g, 0, none⟩ 1 c [.slice ra r.length rc] hx rfl ?_ ?_ (by decide) (by unfold maxLen; omega) (by omega) hk.1.size hall ?_ ?_ ?_
  · intro j u hj
    match j, hj with
    | 0, hj => cases hj; simpa [Addr.add] using hcell
    | j + 1, hj => simp at hj
  · intro u hu
    simp only [List.mem_cons, List.not_mem_nil, or_false] at hu
    subst hu; rfl
  · intro u hu y e
    simp only [List.mem_cons, List.not_mem_nil, or_false] at hu
    subst hu; cases e
  · intro u hu y e
    simp [Value.cells] at hu
    subst hu; cases e
  intro g' cap w' h1 h2 h3 h6
  have hb : Below wb.heap.size w w' := (Below.refl wb.heap.size w).grown h2 hk.1.size (fun k hk => (hown1.lt k hk).1)
  have hv : v.ownBlock = (Value.slice (some ⟨g', 0, none⟩) (us.length + 1) cap).ownBlock ∨ (Value.slice (some ⟨g', 0, none⟩) (us.length + 1) cap).ownBlock = some w.heap.size := by
    rcases h3 with h3 | h3
    · exact .inl h3
    · subst h3; exact .inr rfl
  refine h _ (us ++ [.slice ra r.length rc]) w' ⟨⟨Below.trans hk.1 hb, hk.2⟩, ?_, h6, by simp [hle], fun i q hq => ?_⟩
  · rw [List.length_append]; simpa using h1
  by_cases hi2 : i < R.length
  · rw [List.getElem?_append_left hi2] at hq
    obtain ⟨q1, pa, pc, q2, q3, q4⟩ := hrows i q hq
    refine ⟨q1, pa, pc, ?_, q3.far h2 hall q4, q4.far h2.size hv⟩
    rw [List.getElem?_append_left (by omega)]; exact q2
  rw [List.getElem?_append_right (by omega)] at hq
  have hi3 : i = R.length := by
    have := (List.getElem?_eq_some_iff.1 hq).1
    simp at this; omega
  subst hi3
  simp at hq
  subst hq
  refine ⟨hrl, ra, rc, ?_, hr.far h2 hall hoff, hoff.far h2.size hv⟩
  rw [List.getElem?_append_right (by omega), hle]; simp
theorem OwnE.new {wb w : World} {v : Value} {zs : List RD} (h : OwnE wb w v zs) : ∀ g, v.ownBlock = some g → g < w.heap.size := fun g hg => (h.2.1.lt g hg).2
theorem OwnE.row {S : Nat} {wo w : World} {v u : Value} {zs : List RD} {a : Option Addr} {n c : Nat} (h : OwnE wo w v zs) (hS : S ≤ wo.heap.size) (hv : v = .slice a n c) (hr : RowD w a zs) (hu : ∀ g, u.ownBlock = some g → g < wo.heap.size) : RowDs S w a zs ∧ Off u a w := by
  subst hv
  have hl := h.new
  obtain ⟨_, ⟨_, hq⟩, _⟩ := h
  rcases hq with ⟨e, _⟩ | ⟨b, cap, cu, e, hb, _⟩
  · cases e
    exact ⟨⟨hr, fun p hp => by cases hp⟩, fun p hp => by cases hp⟩
  cases e
  have := hl b rfl
  refine ⟨⟨hr, fun p hp => ?_⟩, fun p hp => ?_⟩
  · cases hp; exact Nat.le_trans hS hb
  cases hp
  exact ⟨fun e => by have h9 : b < wo.heap.size := hu _ e; omega, by show b < _; omega⟩
set_option maxHeartbeats 1000000 in
theorem r2trim_any (a : Option Addr) (xs : List Nat) (c : Nat) (w : World) (h : Rd w a xs) (hc : xs.length ≤ c) (hm : c ≤ maxLen) (hl : xs.length ≤ 1100000) :
    Calls Tryz.prog 136 #[.slice a xs.length c] w (NatOut w (val xs)) := by
  have hend : ∀ (n : Nat) (W : World), n = (limbs (val xs)).length → Rd W a (limbs (val xs)) → Rd (W.alloc (.cells #[] 103)) a (limbs (val xs)) := fun n W _ hr => hr.kp ((Kp.refl W).alloc _)
  have hm' := hm
  unfold maxLen at hm
  have hll := limbs_len_le h.lt32
  go_enter Tryz.func136, Tryz.ntmps136
  go_wp2
  go_loop [3] (fun x => ∃ n : Nat, n ≤ xs.length ∧ x = .int .i64 n ∧ ∀ i, n ≤ i → i < xs.length → nth xs i = 0) (fun x => (intOf x).toNat)
  case atStart => exact ⟨xs.length, Nat.le_refl _, rfl, fun i h1 h2 => by omega⟩
  case round =>
  obtain ⟨n, hn, rfl, hz⟩ := hrel
  have Hz := Lib.hid hz; clear hz
  by_cases h0 : n = 0
  · have htop := trim_top h.lt32 hn Hz.out (by omega)
    have hlen : (limbs (val xs)).length = n := by rw [← htop, List.length_take, Nat.min_eq_left hn]
    have hr := h.limbs.kp ((Kp.refl w).alloc (.cells #[] 103))
    have Hlen := Lib.hid hlen
    clear htop hlen
    subst h0
    go_wp2_with (at_builtin; refine wpList_append_u32s rfl _ _ rfl w.heap.size _ [] rfl (Own.empty w _ (Nat.le_refl _)) a (limbs (val xs)) c (by rw [Hlen.out]; rfl) hr (by simp; omega) (by simp) ?_; intro a2 c2 w2 hown2 hb2)
    go_ret
    obtain ⟨h5, h6, h7, h8⟩ := hown2.rd
    rw [List.nil_append] at h6 h8
    exact ⟨a2, c2, by simp, h6, h7, h8, ((Kp.refl w).alloc _).below.trans hb2⟩
  obtain ⟨b, o, rfl, hcell⟩ := h.some (i := n - 1) (by omega)
  have hk := hcell (n - 1) (by omega)
  clear hcell
  by_cases hx : nth xs (n - 1) = 0
  · have hx2 : ((nth xs (n - 1) : Int) == 0) = true := by simp [hx]
    have Hx := Lib.hid hx; clear hx
    go_wp2
    go_round
    case measure => simp [intOf]; omega
    case rel =>
    refine ⟨n - 1, by omega, by congr 1; omega, fun i h1 h2 => ?_⟩
    by_cases hi : i = n - 1
    · rw [hi]; exact Hx.out
    exact Hz.out i (by omega) h2
  have hx2 : ((nth xs (n - 1) : Int) == 0) = false := by simp; omega
  have htop := trim_top h.lt32 hn Hz.out (fun _ => hx)
  have hlen : (limbs (val xs)).length = n := by rw [← htop, List.length_take, Nat.min_eq_left hn]
  have hr := h.limbs.kp ((Kp.refl w).alloc (.cells #[] 103))
  have Hlen := Lib.hid hlen
  clear htop hlen
  go_wp2_with (at_builtin; refine wpList_append_u32s rfl _ _ rfl w.heap.size _ [] rfl (Own.empty w _ (Nat.le_refl _)) (some ⟨b, o, none⟩) (limbs (val xs)) c (by rw [Hlen.out]; rfl) hr (by simp; omega) (by simp) ?_; intro a2 c2 w2 hown2 hb2)
  go_ret
  obtain ⟨h5, h6, h7, h8⟩ := hown2.rd
  rw [List.nil_append] at h6 h8
  exact ⟨a2, c2, by simp, h6, h7, h8, ((Kp.refl w).alloc _).below.trans hb2⟩
def cmpL (xs ys : List Nat) : Int := if xs.length < ys.length then -1 else if ys.length < xs.length then 1 else cmpN (val xs) (val ys)
theorem cmpL_lt {xs ys : List Nat} (h : xs.length < ys.length) : cmpL xs ys = -1 := by unfold cmpL; rw [if_pos h]
theorem cmpL_gt {xs ys : List Nat} (h : ys.length < xs.length) : cmpL xs ys = 1 := by unfold cmpL; rw [if_neg (by omega), if_pos h]
theorem cmpL_eq {xs ys : List Nat} (h : xs.length = ys.length) : cmpL xs ys = cmpN (val xs) (val ys) := by unfold cmpL; rw [if_neg (by omega), if_neg (by omega)]
set_option maxHeartbeats 1000000 in
theorem r2compare_any (a b : Option Addr) (xs ys : List Nat) (c d : Nat) (w : World) (h1 : Rd w a xs) (h2 : Rd w b ys) (hxl : xs.length ≤ 1100000) (_hyl : ys.length ≤ 1100000) :
    Calls Tryz.prog 108 #[.slice a xs.length c, .slice b ys.length d] w fun e w' => e = .returned (.int .i64 (cmpL xs ys)) ∧ Kp w w' := by
  go_enter Tryz.func108, Tryz.ntmps108
  rcases Nat.lt_trichotomy xs.length ys.length with hlen | hlen | hlen
  · have hne : ((xs.length : Int) != ys.length) = true := by simp; omega
    go_wp2_with fail
    go_ret
    exact ⟨ret_int (cmpL_lt hlen).symm, .refl _⟩
  · have hne : ((xs.length : Int) != ys.length) = false := by simp; omega
    have Hlen := Lib.hid hlen
    have hle1 : xs.length ≤ ys.length := by omega
    have hle2 : ys.length ≤ xs.length := by omega
    clear hlen
    go_wp2_with fail
    go_loopw [5] (fun ix wr => ∃ k : Nat, k ≤ xs.length ∧ ix = .int .i64 ((k : Int) - 1) ∧ xs.drop k = ys.drop k ∧ Kp w wr) (fun ix _ => (intOf ix + 1).toNat)
    case atStart => exact ⟨xs.length, Nat.le_refl _, rfl, by rw [List.drop_of_length_le (Nat.le_refl _), List.drop_of_length_le (by omega)], .refl _⟩
    case round =>
    obtain ⟨k, hk, rfl, hdrop, hkp⟩ := hrel
    have Hdrop := Lib.hid hdrop
    clear hdrop
    rcases k with _ | j
    · rw [show (((0 : Nat) : Int) - 1) = -1 from rfl]
      go_wp2_with fail
      go_ret
      have : xs = ys := by have := Hdrop.out; rwa [List.drop_zero, List.drop_zero] at this
      exact ⟨ret_int ((cmpL_eq Hlen.out).trans (cmpN_eq (by rw [this]))).symm, hkp⟩
    rw [show (((j + 1 : Nat) : Int) - 1) = (j : Int) from by omega]
    obtain ⟨b1, o1, rfl, hcx⟩ := (h1.kp hkp).some (i := j) (by omega)
    have hx1 := hcx j (by omega)
    obtain ⟨b2, o2, rfl, hcy⟩ := (h2.kp hkp).some (i := j) (by omega)
    have hy1 := hcy j (by omega)
    clear hcx hcy
    have bx := h1.lt32.nth j
    have by' := h2.lt32.nth j
    rcases Nat.lt_trichotomy (nth xs j) (nth ys j) with hd1 | hd1 | hd1
    · have Hr := Lib.hid (val_lt_of_top Hlen.out (by omega) h1.lt32 Hdrop.out hd1)
      go_wp2_with fail
      go_quiet (fail)
      go_wp2_with fail
      go_ret
      exact ⟨ret_int ((cmpL_eq Hlen.out).trans (cmpN_lt Hr.out)).symm, by first | exact hkp.drewN _ | exact (hkp.drewN _).drewN _⟩
    · have hd2 : ¬ nth xs j < nth ys j := by omega
      have hd3 : ¬ nth ys j < nth xs j := by omega
      have Hd1 := Lib.hid hd1
      clear hd1
      go_wp2_with fail
      go_quiet (fail)
      go_wp2_with fail
      go_quiet (fail)
      go_wp2_with fail
      go_roundw
      case measure => simp [intOf]
      case rel =>
      refine ⟨j, by omega, rfl, ?_, hkp.drewN _⟩
      rw [drop_eq_nth (show j < xs.length by omega), drop_eq_nth (show j < ys.length by omega), Hdrop.out, Hd1.out]
    have hd2 : ¬ nth xs j < nth ys j := by omega
    have Hr := Lib.hid (val_lt_of_top (us := ys) (vs := xs) (k := j) Hlen.out.symm (by omega) h2.lt32 Hdrop.out.symm hd1)
    go_wp2_with fail
    go_quiet (fail)
    go_wp2_with fail
    go_quiet (fail)
    go_wp2_with fail
    go_ret
    exact ⟨ret_int ((cmpL_eq Hlen.out).trans (cmpN_gt Hr.out)).symm, by first | exact hkp.drewN _ | exact (hkp.drewN _).drewN _⟩
  have hne : ((xs.length : Int) != ys.length) = true := by simp; omega
  go_wp2_with fail
  go_ret
  exact ⟨ret_int (cmpL_gt hlen).symm, .refl _⟩
theorem val_inj {xs ys : List Nat} (hx : Lt32 xs) (hy : Lt32 ys) (hl : xs.length = ys.length) (h : val xs = val ys) : xs = ys := by
  induction xs generalizing ys with
  | nil => cases ys with
    | nil => rfl
    | cons y ys => simp at hl
  | cons x xs ih => cases ys with
    | nil => simp at hl
    | cons y ys =>
      rw [val_cons, val_cons] at h
      have h1 := hx x (by simp)
      have h2 := hy y (by simp)
      have e1 : x = y := by omega
      subst e1
      rw [ih (fun z hz => hx z (List.mem_cons_of_mem _ hz)) (fun z hz => hy z (List.mem_cons_of_mem _ hz)) (by simpa using hl) (by omega)]
def eqR (x y : RD) : Bool := decide (x.neg = y.neg) && (decide (x.e = y.e) && decide (x.xs = y.xs))
set_option maxRecDepth 100000 in
set_option maxHeartbeats 4000000 in
theorem r2Equal_any (x y : RD) (w : World) (hx : x.rd w) (hy : y.rd w) :
    Calls Tryz.prog 56 #[.agg #[.bool x.neg, .slice x.a x.xs.length x.c, .int .i64 x.e], .agg #[.bool y.neg, .slice y.a y.xs.length y.c, .int .i64 y.e]] w fun e w' => e = .returned (.bool (eqR x y)) ∧ Kp w w' := by
  have H := Lib.hid (show eqR x y = (decide (x.neg = y.neg) && (decide (x.e = y.e) && decide (x.xs = y.xs))) from rfl)
  have hk : Kp w ((w.alloc (.cells #[.bool x.neg, .slice x.a x.xs.length x.c, .int .i64 x.e] 42)).alloc (.cells #[.bool y.neg, .slice y.a y.xs.length y.c, .int .i64 y.e] 42)) := ((Kp.refl w).alloc _).alloc _
  have hC := r2compare_any x.a y.a x.xs y.xs x.c y.c _ (hx.1.kp hk) (hy.1.kp hk) hx.2.2.2.1 hy.2.2.2.1
  have Hx := Lib.hid hx
  have Hy := Lib.hid hy
  have Hk := Lib.hid hk
  have HC := Lib.hid hC
  clear hx hy hk hC
  by_cases h1 : x.neg = y.neg
  rotate_left
  · have e1 : (x.neg == y.neg) = false := beq_eq_false_iff_ne.2 h1
    rw [decide_eq_false h1] at H
    clear h1
    go_enter Tryz.func56, Tryz.ntmps56
    go_wp2_with fail
    go_ret
    exact ⟨ret_bool (by rw [H.out]; rfl), Hk.out⟩
  have e1 : (x.neg == y.neg) = true := beq_iff_eq.2 h1
  rw [decide_eq_true h1] at H
  have H1 := Lib.hid h1
  clear h1
  by_cases h2 : x.e = y.e
  rotate_left
  · have e2 : (x.e == y.e) = false := beq_eq_false_iff_ne.2 h2
    rw [decide_eq_false h2] at H
    clear h2
    go_enter Tryz.func56, Tryz.ntmps56
    go_wp2_with fail
    go_ret
    exact ⟨ret_bool (by rw [H.out]; rfl), Hk.out⟩
  have e2 : (x.e == y.e) = true := beq_iff_eq.2 h2
  rw [decide_eq_true h2] at H
  have H2 := Lib.hid h2
  clear h2
  by_cases h3 : x.xs.length = y.xs.length
  rotate_left
  · have e3 : ((x.xs.length : Int) == (y.xs.length : Int)) = false := beq_eq_false_iff_ne.2 (by omega)
    rw [decide_eq_false (fun e => h3 (by rw [e]))] at H
    clear h3
    go_enter Tryz.func56, Tryz.ntmps56
    go_wp2_with fail
    go_ret
    exact ⟨ret_bool (by rw [H.out]; rfl), Hk.out⟩
  have e3 : ((x.xs.length : Int) == (y.xs.length : Int)) = true := beq_iff_eq.2 (by omega)
  have H3 := Lib.hid h3
  clear h3
  by_cases h4 : x.xs = y.xs
  · have e4 : (cmpL x.xs y.xs == 0) = true := beq_iff_eq.2 (by rw [cmpL_eq H3.out, cmpN_eq (by rw [h4])])
    rw [decide_eq_true h4] at H
    clear h4
    go_enter Tryz.func56, Tryz.ntmps56
    go_wp2_with fail
    refine HC.out.mono ?_
    rintro e w2 ⟨rfl, hk2⟩
    go_wp2_with fail
    go_ret
    exact ⟨ret_bool (by rw [H.out]; rfl), Hk.out.trans hk2⟩
  have e4 : (cmpL x.xs y.xs == 0) = false := beq_eq_false_iff_ne.2 (fun e => by
    rw [cmpL_eq H3.out] at e
    refine h4 (val_inj Hx.out.1.lt32 Hy.out.1.lt32 H3.out ?_)
    unfold cmpN at e
    split at e
    · omega
    · split at e
      · assumption
      · omega)
  rw [decide_eq_false h4] at H
  clear h4
  go_enter Tryz.func56, Tryz.ntmps56
  go_wp2_with fail
  refine HC.out.mono ?_
  rintro e w2 ⟨rfl, hk2⟩
  go_wp2_with fail
  go_ret
  exact ⟨ret_bool (by rw [H.out]; rfl), Hk.out.trans hk2⟩
theorem bit_nth {xs : List Nat} (h : Lt32 xs) (n : Nat) : nth xs (n / 32) / 2 ^ (n % 32) % 2 = val xs / 2 ^ n % 2 := by
  have e : 2 ^ n = 4294967296 ^ (n / 32) * 2 ^ (n % 32) := by rw [pow32, ← Nat.pow_add]; congr 1; omega
  by_cases hl : n / 32 < xs.length
  rotate_left
  · rw [nth_ge (by omega), Nat.zero_div]
    have h1 : val xs < 2 ^ n := by
      refine Nat.lt_of_lt_of_le (val_lt h) ?_
      rw [pow32]
      exact Nat.pow_le_pow_right (by decide) (by omega)
    rw [Nat.div_eq_of_lt h1]
  have e1 := val_take_drop xs (n / 32) (by omega)
  have e2 : xs.drop (n / 32) = nth xs (n / 32) :: xs.drop (n / 32 + 1) := drop_eq_nth hl
  have e3 : val xs / 4294967296 ^ (n / 32) = val (xs.drop (n / 32)) := by
    have h1 : val (xs.take (n / 32)) < 4294967296 ^ (n / 32) := by
      have := val_lt (h.take (n / 32))
      rwa [List.length_take, Nat.min_eq_left (by omega)] at this
    have hp : 0 < 4294967296 ^ (n / 32) := Nat.pow_pos (by decide)
    rw [e1, Nat.add_mul_div_left _ _ hp, Nat.div_eq_of_lt h1, Nat.zero_add]
  rw [e, ← Nat.div_div_eq_div_mul, e3, e2, val_cons]
  have hr : n % 32 < 32 := Nat.mod_lt _ (by decide)
  obtain ⟨d, hd⟩ : ∃ d, 4294967296 = 2 ^ (n % 32) * (2 * d) := ⟨2 ^ (31 - n % 32), by
    rw [show 2 * 2 ^ (31 - n % 32) = 2 ^ (31 - n % 32 + 1) from by rw [Nat.pow_succ]; omega, ← Nat.pow_add, show n % 32 + (31 - n % 32 + 1) = 32 from by omega]⟩
  have e4 : 4294967296 * val (xs.drop (n / 32 + 1)) = 2 ^ (n % 32) * (2 * (d * val (xs.drop (n / 32 + 1)))) := by
    conv => lhs; rw [hd]
    rw [Nat.mul_assoc, Nat.mul_assoc]
  rw [e4, Nat.add_mul_div_left _ _ (two_pow_pos _)]
  omega
theorem tz_least {V n : Nat} (h0 : V ≠ 0) (hz : V % 2 ^ n = 0) : n ≤ tz V ∧ (V / 2 ^ n % 2 = 1 → n = tz V) := by
  obtain ⟨h1, h2⟩ := oddp_spec h0
  have hle : n ≤ tz V := by
    apply Classical.byContradiction; intro hn
    have hd : V = 2 ^ n * (V / 2 ^ n) := by have := Nat.div_add_mod V (2 ^ n); omega
    have e : 2 ^ n = 2 ^ tz V * (2 * 2 ^ (n - tz V - 1)) := by
      rw [show 2 * 2 ^ (n - tz V - 1) = 2 ^ (n - tz V - 1 + 1) from by rw [Nat.pow_succ]; omega, ← Nat.pow_add]; congr 1; omega
    have e2 : oddp V * 2 ^ tz V = 2 * (2 ^ (n - tz V - 1) * (V / 2 ^ n)) * 2 ^ tz V := by
      refine h2.symm.trans (hd.trans ?_)
      generalize V / 2 ^ n = q
      rw [e, Nat.mul_assoc, Nat.mul_comm (2 ^ tz V), Nat.mul_assoc 2]
    have := Nat.eq_of_mul_eq_mul_right (two_pow_pos _) e2
    omega
  refine ⟨hle, fun h => ?_⟩
  apply Classical.byContradiction; intro hn
  have e : V / 2 ^ n = 2 * (oddp V * 2 ^ (tz V - n - 1)) := by
    conv => lhs; rw [h2]
    rw [show 2 ^ tz V = 2 * 2 ^ (tz V - n - 1) * 2 ^ n from by rw [show 2 * 2 ^ (tz V - n - 1) = 2 ^ (tz V - n - 1 + 1) from by rw [Nat.pow_succ]; omega, ← Nat.pow_add]; congr 1; omega]
    rw [← Nat.mul_assoc, Nat.mul_div_cancel _ (two_pow_pos n), Nat.mul_left_comm]
  omega
theorem bit32 {x r : Nat} (hx : x < 4294967296) : Go.bits BinOp.and IntKind.u32 ((x : Int) / 2 ^ r) 1 = ((x / 2 ^ r % 2 : Nat) : Int) := by
  have e : ((x : Int) / 2 ^ r) = ((x / 2 ^ r : Nat) : Int) := by rw [Int.natCast_ediv, Int.natCast_pow]; rfl
  rw [e]
  have h1 := Nat.div_le_self x (2 ^ r)
  have h := Go.Proofs.bits_and_u32_nat (x / 2 ^ r) 1 (by omega) (by omega)
  rw [Nat.and_one_is_mod] at h
  exact h
theorem bits_of_nz {V : Nat} (h0 : V ≠ 0) : tz V < bits V := by
  have := bits_oddp h0
  have := bits_pos (oddp_ne_zero h0)
  omega
set_option maxRecDepth 100000 in
set_option maxHeartbeats 4000000 in
theorem r2zeros_any (a : Option Addr) (xs : List Nat) (c : Nat) (w : World) (h : Rd w a xs) (hl : xs.length ≤ 1100000) (h0 : val xs ≠ 0) :
    Calls Tryz.prog 137 #[.slice a xs.length c] w fun e w' => e = .returned (.int .i64 (tz (val xs))) ∧ w = w' := by
  have hbv := bits_val_le h.lt32
  have htz := bits_of_nz h0
  have H0 := Lib.hid h0
  clear h0
  go_enter Tryz.func137, Tryz.ntmps137
  go_wp2
  go_loop [3] (fun x => ∃ n : Nat, n ≤ tz (val xs) ∧ x = .int .i64 n ∧ val xs % 2 ^ n = 0) (fun x => tz (val xs) + 1 - (intOf x).toNat)
  case atStart => exact ⟨0, Nat.zero_le _, rfl, by simp [Nat.mod_one]⟩
  case round =>
  obtain ⟨n, hn, rfl, hz⟩ := hrel
  have Hz := Lib.hid hz; clear hz
  have hq : n / 32 < xs.length := by omega
  obtain ⟨b, o, rfl, hcell⟩ := h.some hq
  have hk := hcell (n / 32) hq
  have Hb := Lib.hid (bit_nth h.lt32 n)
  have hnb := h.lt32.nth (n / 32)
  have hi1 : (0 : Int) ≤ ((n / 32 : Nat) : Int) := by omega
  have hi2 : ((n / 32 : Nat) : Int) < (xs.length : Int) := by omega
  clear hcell
  have h32 := bit32 (r := n % 32) hnb
  have hle := (tz_least H0.out Hz.out)
  by_cases hbit : val xs / 2 ^ n % 2 = 1
  · have ht : (Go.bits BinOp.and IntKind.u32 ((nth xs (n / 32) : Int) / 2 ^ (n % 32)) 1 == 0) = false := beq_eq_false_iff_ne.2 (by rw [h32, Hb.out, hbit]; decide)
    have Hn := Lib.hid (hle.2 hbit)
    clear h32 hle hbit
    go_wp2_with fail
    go_ret
    exact ⟨by rw [← Hn.out]; rfl, rfl⟩
  have ht : (Go.bits BinOp.and IntKind.u32 ((nth xs (n / 32) : Int) / 2 ^ (n % 32)) 1 == 0) = true := beq_iff_eq.2 (by rw [h32, Hb.out]; omega)
  have hz2 : val xs % 2 ^ (n + 1) = 0 := by
    rw [Nat.add_comm, mod_pow_add]
    exact ⟨Hz.out, by rw [Nat.pow_one]; omega⟩
  have Hz2 := Lib.hid hz2
  have Hle2 := Lib.hid (tz_least H0.out hz2).1
  clear h32 hle hbit hz2
  go_wp2_with fail
  go_round
  case measure => simp [intOf]; omega
  case rel => exact ⟨n + 1, Hle2.out, by go_num, Hz2.out⟩
theorem right_step {zs vs : List Nat} {k r z t : Nat} (hk : zs.length = k) (h : val zs * 2 ^ r + t = val (vs.take k) + 4294967296 ^ k * (nth vs k % 2 ^ r))
    (hz : z * 2 ^ r + nth vs k % 2 ^ r = nth vs k + 4294967296 * (nth vs (k + 1) % 2 ^ r)) :
    val (zs ++ [z]) * 2 ^ r + t = val (vs.take (k + 1)) + 4294967296 ^ (k + 1) * (nth vs (k + 1) % 2 ^ r) := by
  rw [val_snoc, hk, val_take_step vs, Nat.pow_succ, Nat.mul_assoc, Nat.add_mul, Nat.mul_assoc]
  generalize 4294967296 ^ k = P at *
  have e : P * (z * 2 ^ r + nth vs k % 2 ^ r) = P * (z * 2 ^ r) + P * (nth vs k % 2 ^ r) := Nat.mul_add _ _ _
  rw [hz, Nat.mul_add] at e
  omega
theorem and_low {s : Nat} (hs : s < 18446744073709551616) : Go.bits BinOp.and IntKind.u64 (s : Int) 4294967295 = ((s % 4294967296 : Nat) : Int) := by
  have h := bits_and_u64_nat s 4294967295 hs (by omega)
  rw [show s &&& 4294967295 = s % 4294967296 from Nat.and_two_pow_sub_one_eq_mod s 32] at h
  exact h
theorem cell_low {x y r : Nat} (hx : x < 4294967296) (hy : y < 4294967296) : (Go.bits BinOp.and IntKind.u64 (((x : Int) + 4294967296 * y) / 2 ^ r) 4294967295) % 4294967296 = (((x + 4294967296 * y) / 2 ^ r % 4294967296 : Nat) : Int) := by
  have e : (((x : Int) + 4294967296 * y) / 2 ^ r) = (((x + 4294967296 * y) / 2 ^ r : Nat) : Int) := by
    rw [Int.natCast_ediv, Int.natCast_add, Int.natCast_mul, Int.natCast_pow]; rfl
  have h1 := Nat.div_le_self (x + 4294967296 * y) (2 ^ r)
  rw [e, and_low (by omega)]
  omega
theorem cell_low0 {x r : Nat} (hx : x < 4294967296) : (Go.bits BinOp.and IntKind.u64 ((x : Int) / 2 ^ r) 4294967295) % 4294967296 = ((x / 2 ^ r % 4294967296 : Nat) : Int) := by
  have := @cell_low x 0 r hx (by decide)
  simpa using this
set_option maxHeartbeats 2000000 in
set_option maxRecDepth 100000 in
theorem r2right_any (a : Option Addr) (xs : List Nat) (c n : Nat) (w : World) (h1 : Rd w a xs) (hxc : xs.length ≤ c) (hc : c ≤ maxLen) (hxl : xs.length ≤ 1100000) (hn : n ≤ 40000000) :
    Calls Tryz.prog 138 #[.slice a xs.length c, .int .i64 n] w (NatOut w (val xs / 2 ^ n)) := by
  have hc' := hc
  by_cases hq : xs.length ≤ n / 32
  · have hq2 : (xs.length : Int) ≤ (n : Int) / 32 := by omega
    have h2 := val_lt h1.lt32
    rw [pow32] at h2
    have hz : val xs / 2 ^ n = 0 := Nat.div_eq_of_lt (Nat.lt_of_lt_of_le h2 (Nat.pow_le_pow_right (by decide) (by omega)))
    rw [hz]
    clear hz h2
    go_enter Tryz.func138, Tryz.ntmps138
    go_wp2_with fail
    go_ret
    exact ⟨none, 0, by rw [limbs_zero]; rfl, by rw [limbs_zero]; exact Nat.le_refl _, by unfold maxLen; omega, by rw [limbs_zero]; exact .nil _ _, .refl _⟩
  have hq2 : ¬ (xs.length : Int) ≤ (n : Int) / 32 := by omega
  obtain ⟨b1, o1, rfl, _⟩ := h1.some (i := 0) (by omega)
  have h2 := h1.drop (n / 32)
  have hq3 : (n : Int) / 32 < xs.length := by omega
  have hvl : (xs.drop (n / 32)).length = xs.length - n / 32 := List.length_drop
  have hval : val (xs.drop (n / 32)) = val xs / 4294967296 ^ (n / 32) := by
    have e := val_take_drop xs (n / 32) (by omega)
    have b := val_lt (h1.lt32.take (n / 32))
    rw [List.length_take, Nat.min_eq_left (by omega)] at b
    rw [e, Nat.add_mul_div_left _ _ (Nat.pow_pos (by decide)), Nat.div_eq_of_lt b, Nat.zero_add]
  have hfin : val xs / 2 ^ n = val (xs.drop (n / 32)) / 2 ^ (n % 32) := by rw [hval, Nat.div_div_eq_div_mul, pow_split]
  rw [hfin]
  clear hval hfin
  generalize xs.drop (n / 32) = vs at *
  have hr : n % 32 < 32 := Nat.mod_lt _ (by decide)
  have Hvl := Lib.hid hvl
  have hvl2 : xs.length - n / 32 ≤ vs.length := by omega
  clear hvl
  go_enter Tryz.func138, Tryz.ntmps138
  go_wp2_with fail
  go_loopw [5, 6] (fun v ix wr => ∃ (k : Nat) (zs : List Nat), k ≤ xs.length - n / 32 ∧ ix = .int .i64 k ∧ zs.length = k ∧ Own wr w.heap.size v zs ∧
    val zs * 2 ^ (n % 32) + nth vs 0 % 2 ^ (n % 32) = val (vs.take k) + 4294967296 ^ k * (nth vs k % 2 ^ (n % 32)) ∧ Kp w wr) (fun _ ix _ => (xs.length - n / 32) - (intOf ix).toNat)
  case atStart => exact ⟨0, [], Nat.zero_le _, rfl, rfl, Own.nil _ _, by simp [val], .refl _⟩
  case round =>
  obtain ⟨k, zs, hk, rfl, hzl, hown, hvz, hkp⟩ := hrel
  have Hvz := Lib.hid hvz
  have Hzl := Lib.hid hzl
  have hzl2 : zs.length + 1 ≤ 9000000 := by omega
  clear hvz hzl
  by_cases hlt : k < xs.length - n / 32
  rotate_left
  · have hke : k = xs.length - n / 32 := by omega
    have e2 := Hvz.out
    have h0 : nth vs k = 0 := nth_ge (by rw [Hvl.out, hke]; omega)
    rw [h0, Nat.zero_mod, Nat.mul_zero, Nat.add_zero, hke, List.take_of_length_le (by rw [Hvl.out]; omega)] at e2
    have hlt3 := Nat.mod_lt (nth vs 0) (two_pow_pos (n % 32))
    have e3 : val zs = val vs / 2 ^ (n % 32) := by
      rw [← e2, Nat.mul_comm, Nat.mul_add_div (two_pow_pos _), Nat.div_eq_of_lt hlt3, Nat.add_zero]
    obtain ⟨a5, c5, e5, l5, m5, r5⟩ := hown.value
    subst e5
    have E3 := Lib.hid e3
    have hT := Lib.hid (r2trim_any a5 zs c5 wr r5 l5 m5 (by have := Hzl.out; omega))
    have hkk := Lib.hid hkp
    clear e2 e3 h0 hlt3 hkp hown
    go_wp2_with fail
    refine hT.out.mono ?_
    rintro e w7 ⟨a6, c6, rfl, l6, m6, r6, k6⟩
    go_wp2_with fail
    go_ret
    rw [← E3.out]
    exact ⟨a6, c6, rfl, l6, m6, r6, hkk.out.trans k6⟩
  obtain ⟨b2, o2, e2, hcx⟩ := (h2.kp hkp).some (i := k) (by omega)
  cases e2
  have hx1 := hcx k (by omega)
  have bx := h2.lt32.nth k
  have bx2 := h2.lt32.nth (k + 1)
  have Hst := Lib.hid (fun z => right_step (z := z) Hzl.out Hvz.out)
  have Hl := Lib.hid (shr_limb (y := nth vs (k + 1)) bx hr)
  by_cases hlt2 : k + 1 < xs.length - n / 32
  · have hx2 := hcx (k + 1) (by omega)
    have hor := shr_or bx bx2
    clear hcx
    have hcl := Lib.hid (cell_low (r := n % 32) bx bx2)
    go_wp2_with (at_builtin; refine wpList_append_u32 rfl _ _ rfl w.heap.size _ _ rfl (hown.alloc _) _ _ rfl (World.cell?_alloc_new _ _ _ _) ((nth vs k + 4294967296 * nth vs (k + 1)) / 2 ^ (n % 32) % 4294967296) hcl.out (Nat.mod_lt _ (by decide)) hzl2 (by have := hkp.size; simp; omega) ?_; intro a2 c2 w2 hown2 hb2)
    go_roundw
    case measure => simp [intOf]; omega
    case rel => exact ⟨k + 1, _, by omega, by go_num, by simp [Hzl.out], hown2, Hst.out _ Hl.out, (hkp.alloc _).below.trans hb2⟩
  have h0 : nth vs (k + 1) = 0 := nth_ge (by rw [Hvl.out]; omega)
  have H0 := Lib.hid h0
  have hcl := Lib.hid (cell_low0 (r := n % 32) bx)
  have hltt : ¬ ((k : Int) + 1 < ((xs.length - n / 32 : Nat) : Int)) := by omega
  clear hcx h0
  go_wp2_with (at_builtin; refine wpList_append_u32 rfl _ _ rfl w.heap.size _ _ rfl (hown.alloc _) _ _ rfl (World.cell?_alloc_new _ _ _ _) (nth vs k / 2 ^ (n % 32) % 4294967296) hcl.out (Nat.mod_lt _ (by decide)) hzl2 (by have := hkp.size; simp; omega) ?_; intro a2 c2 w2 hown2 hb2)
  go_roundw
  case measure => simp [intOf]; omega
  case rel =>
  have h3 := Hl.out
  rw [H0.out, Nat.mul_zero, Nat.add_zero] at h3
  exact ⟨k + 1, _, by omega, by go_num, by simp [Hzl.out], hown2, Hst.out _ (by rw [H0.out]; exact h3), (hkp.alloc _).below.trans hb2⟩
set_option maxRecDepth 100000 in
set_option maxHeartbeats 2000000 in
theorem r2Of_any (s : Bool) (a : Option Addr) (xs : List Nat) (c : Nat) (ex : Int) (w : World) (h : Rd w a xs) (hc : xs.length ≤ c) (hm : c ≤ maxLen) (hl : xs.length ≤ 1100000) (he0 : -1000000000 ≤ ex) (he1 : ex ≤ 1000000000) :
    Calls Tryz.prog 94 #[.bool s, .slice a xs.length c, .int .i64 ex] w (DyOut w (canon s (val xs) ex)) := by
  have hll := limbs_len_le h.lt32
  have hT := Lib.hid (r2trim_any a xs c (w.alloc (.cells #[.bool false, .slice none 0 0, .int .i64 0] 42)) (h.kp ((Kp.refl w).alloc _)) hc hm hl)
  have hB := Box3.new w (.bool false) (.slice none 0 0) (.int .i64 0) 42
  by_cases h0 : val xs = 0
  · have hn : (limbs (val xs)).length = 0 := by rw [h0, limbs_zero]; rfl
    have H0 := Lib.hid h0
    clear h0
    go_enter Tryz.func94, Tryz.ntmps94
    go_wp2_with fail
    refine hT.out.mono ?_
    rintro e w1 ⟨a1, c1, rfl, l1, m1, r1, k1⟩
    rw [hn]
    obtain ⟨q0, q1, q2, f0, f1, f2⟩ := hB.kp k1
    have hk2 := ((Kp.refl w).alloc _).trans k1
    have hst := stored q0 q1 q2 (fun _ h => by cases h) (fun _ h => by cases h) (fun _ h => by cases h) (.bool false) (.slice none 0 0) (.int .i64 0)
    clear hn
    go_wp2_with fail
    generalize (((w1.setCell _ _).setCell _ _).setCell _ _) = W at hst ⊢
    obtain ⟨s0, s1, s2, _, s4, s5, _, _⟩ := hst
    refine bodyPost_ret (v := .agg #[.bool false, .slice none 0 0, .int .i64 0]) (by simp [results, Tryz.results94, go_sem, s0, s1, s2]) rfl ?_
    rw [H0.out, canon_zero]
    exact dyOut_intro none 0 0 false 0 rfl rfl (by show 0 = (limbs 0).length; rw [limbs_zero]; rfl) rfl (by show Rd _ none (limbs 0); rw [limbs_zero]; exact .nil _ _) (Nat.le_refl _) (by unfold maxLen; omega) (s5 _ hk2 (by omega))
  have hne : (((limbs (val xs)).length : Int) == 0) = false := beq_eq_false_iff_ne.2 (by
    have : (limbs (val xs)).length ≠ 0 := fun e => h0 (limbs_eq_nil.1 (List.length_eq_zero_iff.1 e))
    omega)
  have Hc := Lib.hid (show canon s (val xs) ex = ⟨s, oddp (val xs), ex + tz (val xs)⟩ by unfold canon; rw [if_neg h0])
  have Hodd := Lib.hid (show val xs / 2 ^ tz (val xs) = oddp (val xs) from rfl)
  have htz := bits_of_nz h0
  have hbv := bits_val_le h.lt32
  have hv0 : val (limbs (val xs)) ≠ 0 := by rw [val_limbs]; exact h0
  have Hv0 := Lib.hid hv0
  clear h0 hv0
  go_enter Tryz.func94, Tryz.ntmps94
  go_wp2_with fail
  refine hT.out.mono ?_
  rintro e w1 ⟨a1, c1, rfl, l1, m1, r1, k1⟩
  go_wp2_with fail
  have hz := r2zeros_any a1 _ c1 _ r1 (by omega) Hv0.out
  rw [val_limbs] at hz
  refine hz.mono ?_
  rintro e w2 ⟨rfl, rfl⟩
  clear hz
  have hr := r2right_any a1 _ c1 (tz (val xs)) _ r1 l1 m1 (by omega) (by omega)
  rw [val_limbs, Hodd.out] at hr
  go_wp2_with fail
  refine hr.mono ?_
  rintro e w3 ⟨a3, c3, rfl, l3, m3, r3, k3⟩
  clear hr
  have hkb := k1.trans k3
  obtain ⟨q0, q1, q2, f0, f1, f2⟩ := hB.kp hkb
  have hk2 := ((Kp.refl w).alloc _).trans hkb
  have hst := stored q0 q1 q2 (fun _ h => by cases h) (fun _ h => by cases h) (fun _ h => by cases h) (.bool s) (.slice a3 (limbs (oddp (val xs))).length c3) (.int .i64 (ex + tz (val xs)))
  go_wp2_with fail
  generalize (((w3.setCell _ _).setCell _ _).setCell _ _) = W at hst ⊢
  obtain ⟨s0, s1, s2, _, s4, s5, _, _⟩ := hst
  refine bodyPost_ret (v := .agg #[.bool s, .slice a3 (limbs (oddp (val xs))).length c3, .int .i64 (ex + tz (val xs))]) (by simp [results, Tryz.results94, go_sem, s0, s1, s2]) rfl ?_
  rw [Hc.out]
  exact dyOut_intro a3 _ c3 s _ rfl rfl rfl rfl (s4 _ _ r3) l3 m3 (s5 _ hk2 (by omega))
theorem rd_pair (w : World) (x y : Nat) (hx : x < 4294967296) (hy : y < 4294967296) (u v : Int) (hu : u = x) (hv : v = y) : Rd (w.alloc (.cells #[.int .u32 u, .int .u32 v] 103)) (some ⟨w.heap.size, 0, none⟩) [x, y] := by
  subst hu hv
  refine ⟨.cons hx (.cons hy .nil), .inr ⟨_, _, rfl, fun i hi => ?_⟩⟩
  match i, hi with
  | 0, _ => simp [nth]
  | 1, _ => simp [nth]
  | i + 2, hi => exact absurd hi (by simp)
set_option maxRecDepth 100000 in
set_option maxHeartbeats 2000000 in
theorem r2Int_any (n : Nat) (w : World) (hn : n ≤ 9000000) :
    Calls Tryz.prog 43 #[.int .i64 n] w (DyOut w (canon false n 0)) := by
  have hB := Box3.new w (.bool false) (.slice none 0 0) (.int .i64 0) 42
  go_enter Tryz.func43, Tryz.ntmps43
  have hneg : decide ((n : Int) < 0) = false := decide_eq_false (by omega)
  have hR := rd_pair (w.alloc (.cells #[.bool false, .slice none 0 0, .int .i64 0] 42)) n 0 (by omega) (by decide) (Go.bits BinOp.and IntKind.u64 (n : Int) 4294967295 % 4294967296) ((n : Int) / 4294967296) (by rw [and_low (by omega)]; omega) (by omega)
  rw [World.size_alloc] at hR
  have hO := Lib.hid (r2Of_any false _ [n, 0] 2 0 _ hR (by simp) (by unfold maxLen; omega) (by simp) (by decide) (by decide))
  clear hR
  go_wp2_with fail
  refine hO.out.mono ?_
  rintro e w3 ⟨a3, c3, rfl, r3, l3, m3, k3⟩
  have hkb := ((Kp.refl _).alloc _).trans k3
  obtain ⟨q0, q1, q2, f0, f1, f2⟩ := hB.kp hkb
  have hk2 := ((Kp.refl w).alloc _).trans hkb
  rw [show val [n, 0] = n from by simp [val]] at r3 l3 ⊢
  generalize canon false n 0 = D at *
  have hst := stored q0 q1 q2 (fun _ h => by cases h) (fun _ h => by cases h) (fun _ h => by cases h) (.bool D.neg) (.slice a3 (limbs D.m).length c3) (.int .i64 D.e)
  go_wp2_with fail
  generalize (((w3.setCell _ _).setCell _ _).setCell _ _) = W at hst ⊢
  obtain ⟨s0, s1, s2, _, s4, s5, _, _⟩ := hst
  refine bodyPost_ret (v := .agg #[.bool D.neg, .slice a3 (limbs D.m).length c3, .int .i64 D.e]) (by simp [results, Tryz.results43, go_sem, s0, s1, s2]) rfl ?_
  exact ⟨a3, c3, rfl, s4 _ _ r3, l3, m3, s5 _ hk2 (by omega)⟩
def RowT (w : World) (a : Option Addr) (m : List (List (List RI))) : Prop :=
  ∀ i r, m[i]? = some r → ∃ b o ra rc, a = some ⟨b, o, none⟩ ∧ w.cell? ⟨b, o + i, none⟩ = some (.slice ra r.length rc) ∧ RowM w ra r ∧ r.length ≤ 1100000
theorem RowT.kp {w w' : World} {a : Option Addr} {m : List (List (List RI))} (h : RowT w a m) (k : Kp w w') : RowT w' a m := by
  intro i r hi
  obtain ⟨b, o, ra, rc, h1, h2, h3, h4⟩ := h i r hi
  exact ⟨b, o, ra, rc, h1, k.cell h2, h3.kp k, h4⟩

theorem intD_oks {n : Int} (h : n.natAbs ≤ 1000) : (intD n).ok := (intD_isP (p := 10) (by decide) (by decide) (by omega)).1
theorem intD_eqs {d : Dy} {n : Int} (hd : d.ok) (hn : n.natAbs ≤ 1000) (h : d.iv = n * 2 ^ 16384) : d = intD n := Dy.iv_inj hd (intD_oks hn) (h.trans (intD_iv n).symm)
theorem rowI_oneR (w : World) (x : RI) (hx : x.rd w) (t : TypeId) : RowI (w.alloc (.cells #[.bool x.lo.neg, .slice x.lo.a x.lo.xs.length x.lo.c, .int .i64 x.lo.e, .bool x.hi.neg, .slice x.hi.a x.hi.xs.length x.hi.c, .int .i64 x.hi.e, .bool x.all] t)) (some ⟨w.heap.size, 0, none⟩) [x] := by
  intro i z hi
  have hk := (Kp.refl w).alloc (.cells #[.bool x.lo.neg, .slice x.lo.a x.lo.xs.length x.lo.c, .int .i64 x.lo.e, .bool x.hi.neg, .slice x.hi.a x.hi.xs.length x.hi.c, .int .i64 x.hi.e, .bool x.all] t)
  match i with
  | 0 =>
    simp only [List.getElem?_cons_zero, Option.some.injEq] at hi
    subst hi
    refine ⟨_, 0, rfl, hx.kp hk, ?_, ?_, ?_, ?_, ?_, ?_, ?_⟩ <;> simp
  | i + 1 => simp at hi
theorem Dy.opp_ok2 {d : Dy} (h : d.ok) : d.opp.ok := by
  unfold Dy.opp
  split
  · exact Dy.ok_zero
  next h0 =>
  rcases h with h | h
  · exact absurd h.1 h0
  exact .inr h
theorem set7one {w : World} {g b : Nat} (n : b ≠ g) {v0 v1 v2 v3 v4 v5 v6 x0 x1 x2 x3 x4 x5 x6 : Value} (h : w.cell? ⟨b, 0, none⟩ = some v0 ∧ w.cell? ⟨b, 1, none⟩ = some v1 ∧ w.cell? ⟨b, 2, none⟩ = some v2 ∧ w.cell? ⟨b, 3, none⟩ = some v3 ∧ w.cell? ⟨b, 4, none⟩ = some v4 ∧ w.cell? ⟨b, 5, none⟩ = some v5 ∧ w.cell? ⟨b, 6, none⟩ = some v6) :
    (((((((w.setCell ⟨g, 0, none⟩ x0).setCell ⟨g, 1, none⟩ x1).setCell ⟨g, 2, none⟩ x2).setCell ⟨g, 3, none⟩ x3).setCell ⟨g, 4, none⟩ x4).setCell ⟨g, 5, none⟩ x5).setCell ⟨g, 6, none⟩ x6).cell? ⟨b, 0, none⟩ = some v0 ∧ (((((((w.setCell ⟨g, 0, none⟩ x0).setCell ⟨g, 1, none⟩ x1).setCell ⟨g, 2, none⟩ x2).setCell ⟨g, 3, none⟩ x3).setCell ⟨g, 4, none⟩ x4).setCell ⟨g, 5, none⟩ x5).setCell ⟨g, 6, none⟩ x6).cell? ⟨b, 1, none⟩ = some v1 ∧ (((((((w.setCell ⟨g, 0, none⟩ x0).setCell ⟨g, 1, none⟩ x1).setCell ⟨g, 2, none⟩ x2).setCell ⟨g, 3, none⟩ x3).setCell ⟨g, 4, none⟩ x4).setCell ⟨g, 5, none⟩ x5).setCell ⟨g, 6, none⟩ x6).cell? ⟨b, 2, none⟩ = some v2 ∧ (((((((w.setCell ⟨g, 0, none⟩ x0).setCell ⟨g, 1, none⟩ x1).setCell ⟨g, 2, none⟩ x2).setCell ⟨g, 3, none⟩ x3).setCell ⟨g, 4, none⟩ x4).setCell ⟨g, 5, none⟩ x5).setCell ⟨g, 6, none⟩ x6).cell? ⟨b, 3, none⟩ = some v3 ∧ (((((((w.setCell ⟨g, 0, none⟩ x0).setCell ⟨g, 1, none⟩ x1).setCell ⟨g, 2, none⟩ x2).setCell ⟨g, 3, none⟩ x3).setCell ⟨g, 4, none⟩ x4).setCell ⟨g, 5, none⟩ x5).setCell ⟨g, 6, none⟩ x6).cell? ⟨b, 4, none⟩ = some v4 ∧ (((((((w.setCell ⟨g, 0, none⟩ x0).setCell ⟨g, 1, none⟩ x1).setCell ⟨g, 2, none⟩ x2).setCell ⟨g, 3, none⟩ x3).setCell ⟨g, 4, none⟩ x4).setCell ⟨g, 5, none⟩ x5).setCell ⟨g, 6, none⟩ x6).cell? ⟨b, 5, none⟩ = some v5 ∧ (((((((w.setCell ⟨g, 0, none⟩ x0).setCell ⟨g, 1, none⟩ x1).setCell ⟨g, 2, none⟩ x2).setCell ⟨g, 3, none⟩ x3).setCell ⟨g, 4, none⟩ x4).setCell ⟨g, 5, none⟩ x5).setCell ⟨g, 6, none⟩ x6).cell? ⟨b, 6, none⟩ = some v6 := (set77 n n ⟨h, h⟩).1
set_option maxRecDepth 100000 in
set_option maxHeartbeats 8000000 in
theorem INeg_any (x : RI) (w : World) (hx : x.rd w) (vx : x.vl = true) :
    Calls Tryz.prog 155 #[.agg #[.bool x.lo.neg, .slice x.lo.a x.lo.xs.length x.lo.c, .int .i64 x.lo.e, .bool x.hi.neg, .slice x.hi.a x.hi.xs.length x.hi.c, .int .i64 x.hi.e, .bool x.all]] w (IvOut w x.pl.neg) := by
  go_enter Tryz.func155, Tryz.ntmps155
  go_wp2_with fail
  generalize hW3 : ((w.alloc _).alloc _) = W3 at *
  have hk3 : Kp w W3 := hW3 ▸ ((Kp.refl w).alloc _).alloc _
  have hS3 : W3.cell? ⟨w.heap.size, 0, none⟩ = some (.bool x.lo.neg) ∧ W3.cell? ⟨w.heap.size, 1, none⟩ = some (.slice x.lo.a x.lo.xs.length x.lo.c) ∧ W3.cell? ⟨w.heap.size, 2, none⟩ = some (.int .i64 x.lo.e) ∧ W3.cell? ⟨w.heap.size, 3, none⟩ = some (.bool x.hi.neg) ∧ W3.cell? ⟨w.heap.size, 4, none⟩ = some (.slice x.hi.a x.hi.xs.length x.hi.c) ∧ W3.cell? ⟨w.heap.size, 5, none⟩ = some (.int .i64 x.hi.e) ∧ W3.cell? ⟨w.heap.size, 6, none⟩ = some (.bool x.all) := by rw [← hW3]; simp
  have hV3 : Var7 W3 (w.heap.size + 1) := by rw [← hW3]; exact Var7.new1 _ _ _
  have hsz : W3.heap.size = w.heap.size + 1 + 1 := by rw [← hW3]; simp
  have hR := rowI_oneR W3 x (hx.kp hk3) 44
  rw [hsz] at hR
  have hk4 := (Kp.refl W3).alloc (.cells #[.bool x.lo.neg, .slice x.lo.a x.lo.xs.length x.lo.c, .int .i64 x.lo.e, .bool x.hi.neg, .slice x.hi.a x.hi.xs.length x.hi.c, .int .i64 x.hi.e, .bool x.all] 44)
  generalize hW : W3.alloc _ = W at *
  have hS := keep7 hk4 hS3
  have hV := hV3.kp hk4
  have hk := hk3.trans hk4
  clear hW hW3 hS3 hV3 hk3 hk4 hsz
  go_fit (known_any _ [x] 1 _ hR (by simp))
  rintro e w1 ⟨rfl, hk1⟩
  have hS1 := keep7 hk1 hS
  have hV1 := hV.kp hk1
  have hk2 := (hk.trans hk1)
  have hx1 := hx.kp hk2
  clear hR hS hV hk hk1
  cases ha : x.all with
  | true =>
    have hg : [x].all goodI = false := by simp [goodI_vl vx, ha]
    have HP := Lib.hid (show x.pl.neg = .whole by unfold PI.neg; rw [if_pos (by exact ha)])
    rw [hg]
    clear hg ha hS1
    go_wp2_with fail
    go_fit (Whole_any _)
    rintro e w2 ⟨rfl, hk3⟩
    have hk4 := hk2.trans hk3
    obtain ⟨⟨q0, q1, q2, q3, q4, q5, q6⟩, f0, f1, f2, f3, f4, f5, f6⟩ := hV1.kp hk3
    go_wp2_with fail
    generalize hW9 : ((((((w2.setCell _ _).setCell _ _).setCell _ _).setCell _ _).setCell _ _).setCell _ _).setCell _ _ = W9
    obtain ⟨⟨s0, s1, s2, s3, s4, s5, s6⟩, hU⟩ := stored7 (show Box7 w2 _ _ _ _ _ _ _ _ from ⟨q0, q1, q2, q3, q4, q5, q6⟩) (fun _ h => by cases h) (fun _ h => by cases h) (fun _ h => by cases h) (fun _ h => by cases h) (fun _ h => by cases h) (fun _ h => by cases h) (fun _ h => by cases h) _ _ _ _ _ _ _ hW9
    clear hW9 q0 q1 q2 q3 q4 q5 q6 f0 f1 f2 f3 f4 f5 f6
    refine bodyPost_ret (v := .agg #[.bool false, .slice none 0 0, .int .i64 0, .bool false, .slice none 0 0, .int .i64 0, .bool true]) (by simp [results, Tryz.results155, go_sem, s0, s1, s2, s3, s4, s5, s6]) rfl ?_
    rw [HP.out]
    exact ⟨wholeR, rfl, wholeR_rd _, rfl, rfl, hU.2.2.1 _ hk4 (by omega)⟩
  | false =>
  have ox := ok_of hx1 vx ha
  have hg : [x].all goodI = true := by simp [(goodI_ok ox.1).2 ox]
  have HP := Lib.hid (show x.pl.neg = ⟨x.hi.dy.opp, x.lo.dy.opp, false⟩ by unfold PI.neg; rw [if_neg (by show ¬ x.all = true; rw [ha]; decide)]; rfl)
  rw [hg]
  clear hg
  obtain ⟨hB, hF⟩ := hV1
  have kd := (Kp.refl w1).drew
  have hB2 := hB.kp kd
  have hF2 := hF.kp hB kd
  have Ox := Lib.hid (ox.kp kd)
  have hk3 := hk2.trans kd
  have hS4 := keep7 kd hS1
  clear hB hF hS1 kd hk2 ox hx1 ha
  go_wp2_with fail
  go_region_held3 (fun w' => w'.cell? ⟨w.heap.size, 0, none⟩ = some (.bool x.lo.neg) ∧ w'.cell? ⟨w.heap.size, 1, none⟩ = some (.slice x.lo.a x.lo.xs.length x.lo.c) ∧ w'.cell? ⟨w.heap.size, 2, none⟩ = some (.int .i64 x.lo.e) ∧ w'.cell? ⟨w.heap.size, 3, none⟩ = some (.bool x.hi.neg) ∧ w'.cell? ⟨w.heap.size, 4, none⟩ = some (.slice x.hi.a x.hi.xs.length x.hi.c) ∧ w'.cell? ⟨w.heap.size, 5, none⟩ = some (.int .i64 x.hi.e) ∧ w'.cell? ⟨w.heap.size, 6, none⟩ = some (.bool x.all)) (first | with_reducible assumption | with_reducible exact keep7 (by assumption) (by assumption) | with_reducible exact set7one (by omega) (by assumption))
    (first
      | (go_at_call 69; go_fit (Neg_ok x.hi _ Ox.out.hi); rintro e w4 ⟨z1, rfl, r1, d1, v1, hk4⟩)
      | (go_at_call 69; go_fit (Neg_ok x.lo _ (Ox.out.lo.kp hk4)); rintro e w5 ⟨z2, rfl, r2, d2, v2, hk5⟩; have hk6 := hk4.trans hk5; obtain ⟨q0, q1, q2, q3, q4, q5, q6⟩ := hB2.kp hk6; obtain ⟨f0, f1, f2, f3, f4, f5, f6⟩ := hF2.kp hB2 hk6)
      | fail)
  have hk7 := hk3.trans hk6
  have R1 := Lib.hid (r1.kp hk5)
  have R2 := Lib.hid r2
  have E1 := Lib.hid (And.intro d1 (v1 (Dy.opp_ok2 (rdok_dy Ox.out.hi))))
  have E2 := Lib.hid (And.intro d2 (v2 (Dy.opp_ok2 (rdok_dy Ox.out.lo))))
  have HL := Lib.hid (show z1.iv ≤ z2.iv by
    show z1.dy.iv ≤ z2.dy.iv
    rw [E1.out.1, E2.out.1, Dy.opp_iv, Dy.opp_iv]
    have := Ox.out.parts.2.2
    have h1 : x.lo.dy.iv ≤ x.hi.dy.iv := this
    omega)
  clear hS4 hB2 hF2 r1 r2 d1 d2 v1 v2
  go_wp2_with fail
  generalize hW9 : ((((((w5.setCell _ _).setCell _ _).setCell _ _).setCell _ _).setCell _ _).setCell _ _).setCell _ _ = W9
  obtain ⟨⟨s0, s1, s2, s3, s4, s5, s6⟩, hU⟩ := stored7 (show Box7 w5 _ _ _ _ _ _ _ _ from ⟨q0, q1, q2, q3, q4, q5, q6⟩) (fun _ h => by cases h) (fun _ h => by cases h) (fun _ h => by cases h) (fun _ h => by cases h) (fun _ h => by cases h) (fun _ h => by cases h) (fun _ h => by cases h) _ _ _ _ _ _ _ hW9
  clear hW9 q0 q1 q2 q3 q4 q5 q6 f0 f1 f2 f3 f4 f5 f6
  refine bodyPost_ret (v := .agg #[.bool (RI.mk z1 z2 false).lo.neg, .slice (RI.mk z1 z2 false).lo.a (RI.mk z1 z2 false).lo.xs.length (RI.mk z1 z2 false).lo.c, .int .i64 (RI.mk z1 z2 false).lo.e, .bool (RI.mk z1 z2 false).hi.neg, .slice (RI.mk z1 z2 false).hi.a (RI.mk z1 z2 false).hi.xs.length (RI.mk z1 z2 false).hi.c, .int .i64 (RI.mk z1 z2 false).hi.e, .bool (RI.mk z1 z2 false).all]) (by simp [results, Tryz.results155, go_sem, s0, s1, s2, s3, s4, s5, s6]) rfl ?_
  rw [HP.out]
  exact ⟨⟨z1, z2, false⟩, rfl, hU.rdI ⟨R1.out, R2.out⟩, by unfold RI.pl; rw [E1.out.1, E2.out.1], vl_mk2 E1.out.2 E2.out.2 HL.out, hU.2.2.1 _ hk7 (by omega)⟩
def pSub (X Y : PI) (p : Nat) : PI := pAdd X Y.neg p
set_option maxRecDepth 100000 in
set_option maxHeartbeats 8000000 in
theorem ISub_any (x y : RI) (p : Nat) (w : World) (hx : x.rd w) (hy : y.rd w) (vx : x.vl = true) (vy : y.vl = true) (h0 : 8 ≤ p) (h1 : p ≤ 512) (hT : Tab w) :
    Calls Tryz.prog 112 #[.agg #[.bool x.lo.neg, .slice x.lo.a x.lo.xs.length x.lo.c, .int .i64 x.lo.e, .bool x.hi.neg, .slice x.hi.a x.hi.xs.length x.hi.c, .int .i64 x.hi.e, .bool x.all], .agg #[.bool y.lo.neg, .slice y.lo.a y.lo.xs.length y.lo.c, .int .i64 y.lo.e, .bool y.hi.neg, .slice y.hi.a y.hi.xs.length y.hi.c, .int .i64 y.hi.e, .bool y.all], .int .i64 p] w (IvOut w (pSub x.pl y.pl p)) := by
  go_enter Tryz.func112, Tryz.ntmps112
  go_wp2_with fail
  generalize hW : (((w.alloc _).alloc _).alloc _) = W at *
  have hk : Kp w W := hW ▸ (((Kp.refl w).alloc _).alloc _).alloc _
  have hS : (W.cell? ⟨w.heap.size, 0, none⟩ = some (.bool x.lo.neg) ∧ W.cell? ⟨w.heap.size, 1, none⟩ = some (.slice x.lo.a x.lo.xs.length x.lo.c) ∧ W.cell? ⟨w.heap.size, 2, none⟩ = some (.int .i64 x.lo.e) ∧ W.cell? ⟨w.heap.size, 3, none⟩ = some (.bool x.hi.neg) ∧ W.cell? ⟨w.heap.size, 4, none⟩ = some (.slice x.hi.a x.hi.xs.length x.hi.c) ∧ W.cell? ⟨w.heap.size, 5, none⟩ = some (.int .i64 x.hi.e) ∧ W.cell? ⟨w.heap.size, 6, none⟩ = some (.bool x.all)) ∧ W.cell? ⟨w.heap.size + 1, 0, none⟩ = some (.bool y.lo.neg) ∧ W.cell? ⟨w.heap.size + 1, 1, none⟩ = some (.slice y.lo.a y.lo.xs.length y.lo.c) ∧ W.cell? ⟨w.heap.size + 1, 2, none⟩ = some (.int .i64 y.lo.e) ∧ W.cell? ⟨w.heap.size + 1, 3, none⟩ = some (.bool y.hi.neg) ∧ W.cell? ⟨w.heap.size + 1, 4, none⟩ = some (.slice y.hi.a y.hi.xs.length y.hi.c) ∧ W.cell? ⟨w.heap.size + 1, 5, none⟩ = some (.int .i64 y.hi.e) ∧ W.cell? ⟨w.heap.size + 1, 6, none⟩ = some (.bool y.all) := by rw [← hW]; exact keep77 ((Kp.refl _).alloc _) (by simp)
  have hV : Var7 W (w.heap.size + 1 + 1) := by rw [← hW]; exact Var7.new2 _ _ _ _
  clear hW
  obtain ⟨hB, hF⟩ := hV
  have kd := (Kp.refl W).drew
  have hB2 := hB.kp kd
  have hF2 := hF.kp hB kd
  have hk3 := hk.trans kd
  have hS4 := keep77 kd hS
  have Rx := Lib.hid (hx.kp hk3)
  have Ry := Lib.hid (hy.kp hk3)
  have HT := Lib.hid (hT.kp hk3)
  clear hB hF hS kd hk
  go_region_held3 (fun w' => (w'.cell? ⟨w.heap.size, 0, none⟩ = some (.bool x.lo.neg) ∧ w'.cell? ⟨w.heap.size, 1, none⟩ = some (.slice x.lo.a x.lo.xs.length x.lo.c) ∧ w'.cell? ⟨w.heap.size, 2, none⟩ = some (.int .i64 x.lo.e) ∧ w'.cell? ⟨w.heap.size, 3, none⟩ = some (.bool x.hi.neg) ∧ w'.cell? ⟨w.heap.size, 4, none⟩ = some (.slice x.hi.a x.hi.xs.length x.hi.c) ∧ w'.cell? ⟨w.heap.size, 5, none⟩ = some (.int .i64 x.hi.e) ∧ w'.cell? ⟨w.heap.size, 6, none⟩ = some (.bool x.all)) ∧ w'.cell? ⟨w.heap.size + 1, 0, none⟩ = some (.bool y.lo.neg) ∧ w'.cell? ⟨w.heap.size + 1, 1, none⟩ = some (.slice y.lo.a y.lo.xs.length y.lo.c) ∧ w'.cell? ⟨w.heap.size + 1, 2, none⟩ = some (.int .i64 y.lo.e) ∧ w'.cell? ⟨w.heap.size + 1, 3, none⟩ = some (.bool y.hi.neg) ∧ w'.cell? ⟨w.heap.size + 1, 4, none⟩ = some (.slice y.hi.a y.hi.xs.length y.hi.c) ∧ w'.cell? ⟨w.heap.size + 1, 5, none⟩ = some (.int .i64 y.hi.e) ∧ w'.cell? ⟨w.heap.size + 1, 6, none⟩ = some (.bool y.all)) (first | with_reducible assumption | with_reducible exact keep77 (by assumption) (by assumption) | with_reducible exact set77 (by omega) (by omega) (by assumption))
    (first
      | (go_at_call 155; go_fit (INeg_any y _ Ry.out vy); rintro e w4 ⟨z, rfl, rz, dz, vz, hk4⟩
         have RZ := Lib.hid rz
         have DZ := Lib.hid dz
         have VZ := Lib.hid vz
         clear rz dz vz)
      | (go_at_call 77; go_fit (IAdd_any x z p _ (Rx.out.kp hk4) RZ.out vx VZ.out h0 h1 (HT.out.kp hk4)); rintro e w5 ⟨u, rfl, ru, du, vu, hk5⟩; have hk6 := hk4.trans hk5; obtain ⟨q0, q1, q2, q3, q4, q5, q6⟩ := hB2.kp hk6; obtain ⟨f0, f1, f2, f3, f4, f5, f6⟩ := hF2.kp hB2 hk6)
      | fail)
  have hk7 := hk3.trans hk6
  have RU := Lib.hid ru
  have DU := Lib.hid du
  have VU := Lib.hid vu
  clear hS4 hB2 hF2 ru du vu
  go_wp2_with fail
  generalize hW9 : ((((((w5.setCell _ _).setCell _ _).setCell _ _).setCell _ _).setCell _ _).setCell _ _).setCell _ _ = W9
  obtain ⟨⟨s0, s1, s2, s3, s4, s5, s6⟩, hU⟩ := stored7 (show Box7 w5 _ _ _ _ _ _ _ _ from ⟨q0, q1, q2, q3, q4, q5, q6⟩) (fun _ h => by cases h) (fun _ h => by cases h) (fun _ h => by cases h) (fun _ h => by cases h) (fun _ h => by cases h) (fun _ h => by cases h) (fun _ h => by cases h) _ _ _ _ _ _ _ hW9
  clear hW9 q0 q1 q2 q3 q4 q5 q6 f0 f1 f2 f3 f4 f5 f6
  refine bodyPost_ret (v := .agg #[.bool u.lo.neg, .slice u.lo.a u.lo.xs.length u.lo.c, .int .i64 u.lo.e, .bool u.hi.neg, .slice u.hi.a u.hi.xs.length u.hi.c, .int .i64 u.hi.e, .bool u.all]) (by simp [results, Tryz.results112, go_sem, s0, s1, s2, s3, s4, s5, s6]) rfl ?_
  exact ⟨u, rfl, hU.rdI RU.out, by rw [DU.out, DZ.out]; rfl, VU.out, hU.2.2.1 _ hk7 (by omega)⟩
def Dy.absv (d : Dy) : Dy := if d.m = 0 then .zero else ⟨false, d.m, d.e⟩
theorem Dy.absv_ok {d : Dy} (h : d.ok) : d.absv.ok := by
  unfold Dy.absv
  split
  · exact Dy.ok_zero
  next h0 =>
  rcases h with h | ⟨h1, h2⟩
  · exact absurd h.1 h0
  exact .inr ⟨h1, h2⟩
theorem Dy.absv_iv {d : Dy} : d.absv.iv = (d.iv.natAbs : Int) := by
  unfold Dy.absv
  split
  · next h0 => rw [Dy.iv_eq_zero.2 h0, Dy.iv_zero]; rfl
  show sg false _ = ((sg d.neg _).natAbs : Int)
  generalize d.m * 2 ^ (d.e + 16384).toNat = u
  unfold sg
  cases d.neg <;> simp
set_option maxHeartbeats 2000000 in
theorem Abs_ok (x : RD) (w : World) (h : x.ok w) :
    Calls Tryz.prog 150 #[.agg #[.bool x.neg, .slice x.a x.xs.length x.c, .int .i64 x.e]] w (NumOut w x.dy.absv) := by
  have hlen := rdok_len h
  have he := rdok_e h
  by_cases h0 : x.xs.length = 0
  · have hz : ((x.xs.length : Int) == 0) = true := beq_iff_eq.2 (by omega)
    have H := Lib.hid (show x.dy.absv = .zero by unfold Dy.absv; rw [if_pos ((rdok_zero h).1 h0)])
    clear h0
    go_enter Tryz.func150, Tryz.ntmps150
    go_wp2_with fail
    generalize hW : ((w.alloc _).alloc _) = W at *
    have hk : Kp w W := hW ▸ ((Kp.refl w).alloc _).alloc _
    have hS : W.cell? ⟨w.heap.size, 0, none⟩ = some (.bool x.neg) ∧ W.cell? ⟨w.heap.size, 1, none⟩ = some (.slice x.a x.xs.length x.c) ∧ W.cell? ⟨w.heap.size, 2, none⟩ = some (.int .i64 x.e) := by rw [← hW]; simp
    have hB : Box3 W (w.heap.size + 1) (.bool false) (.slice none 0 0) (.int .i64 0) := hW ▸ Box3.new2 _ _ _ _ _ _
    clear hW
    refine (Valid_rok x _ (h.kp hk)).mono ?_
    rintro e w1 ⟨rfl, hk1⟩
    have hS1 := keep3 hk1 hS
    obtain ⟨q0, q1, q2, f0, f1, f2⟩ := hB.kp hk1
    have hk2 := hk.trans hk1
    clear hS hk hk1 hB
    go_wp2_with fail
    have hst := stored q0 q1 q2 (fun _ h => by cases h) (fun _ h => by cases h) (fun _ h => by cases h) (.bool false) (.slice none 0 0) (.int .i64 0)
    generalize (((w1.setCell _ _).setCell _ _).setCell _ _) = W2 at hst ⊢
    obtain ⟨s0, s1, s2, _, s4, s5, _, _⟩ := hst
    refine bodyPost_ret (v := .agg #[.bool false, .slice none 0 0, .int .i64 0]) (by simp [results, Tryz.results150, go_sem, s0, s1, s2]) rfl ?_
    rw [H.out]
    exact numOut_zero rfl (s5 _ hk2 (by omega))
  have hz : ((x.xs.length : Int) == 0) = false := beq_eq_false_iff_ne.2 (by omega)
  have H := Lib.hid (show x.dy.absv = ⟨false, val x.xs, x.e⟩ by unfold Dy.absv; rw [if_neg (fun e => h0 ((rdok_zero h).2 e))]; rfl)
  have Hv := Lib.hid (show (x.dy.absv.ok → vld false x.xs x.e = true) from fun hok => by
    have := ok_vld hok
    rwa [H.out, show limbs (Dy.m ⟨false, val x.xs, x.e⟩) = x.xs from rdok_limbs h] at this)
  clear h0
  go_enter Tryz.func150, Tryz.ntmps150
  go_wp2_with fail
  generalize hW : ((w.alloc _).alloc _) = W at *
  have hk : Kp w W := hW ▸ ((Kp.refl w).alloc _).alloc _
  have hS : W.cell? ⟨w.heap.size, 0, none⟩ = some (.bool x.neg) ∧ W.cell? ⟨w.heap.size, 1, none⟩ = some (.slice x.a x.xs.length x.c) ∧ W.cell? ⟨w.heap.size, 2, none⟩ = some (.int .i64 x.e) := by rw [← hW]; simp
  have hB : Box3 W (w.heap.size + 1) (.bool false) (.slice none 0 0) (.int .i64 0) := hW ▸ Box3.new2 _ _ _ _ _ _
  clear hW
  refine (Valid_rok x _ (h.kp hk)).mono ?_
  rintro e w1 ⟨rfl, hk1⟩
  have hS1 := keep3 hk1 hS
  have hB1 := (hB.kp hk1).kp (Kp.refl w1).drew
  have hk2 := hk.trans hk1
  have hx := (h.kp hk2).drew
  clear hS hk hk1 hB
  go_wp2_with fail
  have hS2 := keep3 (Kp.refl w1).drew hS1
  clear hS1
  go_region_held3 (fun w' => w'.cell? ⟨w.heap.size, 0, none⟩ = some (.bool x.neg) ∧ w'.cell? ⟨w.heap.size, 1, none⟩ = some (.slice x.a x.xs.length x.c) ∧ w'.cell? ⟨w.heap.size, 2, none⟩ = some (.int .i64 x.e)) (first | with_reducible assumption | with_reducible exact keep3 (by assumption) (by assumption) | with_reducible exact set3x (by omega) (by assumption))
    (first
      | (go_at_call 115; refine (clone_any x.a x.xs x.c _ hx.1.1 (by omega)).mono ?_; rintro e w4 ⟨a4, c4, rfl, r4, l4, m4, hk4⟩; obtain ⟨q0, q1, q2, f0, f1, f2⟩ := hB1.kp hk4))
  have hk5 := hk2.drew.trans hk4
  have hxs := hx.1.1.lt32
  clear hS2 hB1 hx
  have hst := stored q0 q1 q2 (fun _ h => by cases h) (fun _ h => by cases h) (fun _ h => by cases h) (.bool false) (.slice a4 x.xs.length c4) (.int .i64 x.e)
  go_wp2_with fail
  generalize (((w4.setCell _ _).setCell _ _).setCell _ _) = W2 at hst ⊢
  obtain ⟨s0, s1, s2, _, s4, s5, _, _⟩ := hst
  refine bodyPost_ret (v := .agg #[.bool (RD.mk false a4 x.xs c4 x.e).neg, .slice (RD.mk false a4 x.xs c4 x.e).a (RD.mk false a4 x.xs c4 x.e).xs.length (RD.mk false a4 x.xs c4 x.e).c, .int .i64 (RD.mk false a4 x.xs c4 x.e).e]) (by simp [results, Tryz.results150, go_sem, s0, s1, s2]) rfl ?_
  exact ⟨RD.mk false a4 x.xs c4 x.e, rfl, ⟨s4 _ _ r4, l4, m4, by show x.xs.length ≤ 1100000; omega, ⟨by show _ ≤ x.e; omega, by show x.e ≤ _; omega⟩⟩, H.out.symm, Hv.out, s5 _ hk5 (by omega)⟩
end Go.Proofs.YtpocjagbhiahdaaGreatDoor
