/-
  Walks: slices.IndexFunc, ContainsFunc at []api.Interval.
-/
import Derived.Test.YtpocjagbhiahdaaGreatDoorMIvA
import Derived.Test.YtpocjagbhiahdaaGreatDoorMNum
import Derived.Test.YtpocjagbhiahdaaGreatDoorMDyB
namespace Go.Proofs.YtpocjagbhiahdaaGreatDoor
open Go.RowKit
def firstI (p : RI → Bool) (zs : List RI) : Int := match zs.findIdx? p with | some i => (i : Int) | none => -1
theorem firstI_some {p : RI → Bool} {zs : List RI} {k : Nat} {x : RI} (hk : zs[k]? = some x) (hp : p x = true) (h : ∀ i y, zs[i]? = some y → i < k → p y = false) : firstI p zs = k := by
  unfold firstI
  have : zs.findIdx? p = some k := by
    rw [List.findIdx?_eq_some_iff_getElem]
    obtain ⟨h1, h2⟩ := List.getElem?_eq_some_iff.1 hk
    refine ⟨h1, by rw [h2]; exact hp, fun j hj => ?_⟩
    rw [h j _ (List.getElem?_eq_getElem (by omega)) hj]; decide
  rw [this]
theorem firstI_none {p : RI → Bool} {zs : List RI} (h : ∀ (i : Nat) (y : RI), zs[i]? = some y → p y = false) : firstI p zs = -1 := by
  unfold firstI
  have : zs.findIdx? p = none := by
    rw [List.findIdx?_eq_none_iff]
    intro y hy
    obtain ⟨i, hi⟩ := List.getElem?_of_mem hy
    exact h i y hi
  rw [this]
theorem firstI_any (p : RI → Bool) (zs : List RI) : decide (0 ≤ firstI p zs) = zs.any p := by
  unfold firstI
  cases h : zs.findIdx? p with
  | none =>
    have hm := List.findIdx?_eq_none_iff.1 h
    have : zs.any p = false := by rw [List.any_eq_false]; intro y hy; rw [hm y hy]; decide
    rw [this]; decide
  | some i =>
  have hm := List.findIdx?_eq_some_iff_getElem.1 h
  obtain ⟨h1, h2, _⟩ := hm
  have : zs.any p = true := List.any_eq_true.2 ⟨_, List.getElem_mem h1, h2⟩
  rw [this]; simp
def AnsI (P : Program) (g : FuncId) (cap : Array Value) (w : World) (zs : List RI) (p : RI → Bool) : Prop :=
  Enters P g ∧ ∀ x, x ∈ zs → ∀ w1, Kp w w1 → Calls P g (#[.agg #[.bool x.lo.neg, .slice x.lo.a x.lo.xs.length x.lo.c, .int .i64 x.lo.e, .bool x.hi.neg, .slice x.hi.a x.hi.xs.length x.hi.c, .int .i64 x.hi.e, .bool x.all]] ++ cap) w1 fun e w2 => e = .returned (.bool (p x)) ∧ Kp w1 w2

set_option maxHeartbeats 4000000 in
theorem idxI (a : Option Addr) (zs : List RI) (c : Nat) (g : FuncId) (cap : Array Value) (w : World) (p : RI → Bool) (hm : zs.length ≤ 1100000) (h : RowI w a zs) (hp : AnsI Tryz.prog g cap w zs p) :
    Calls Tryz.prog 57 #[.slice a zs.length c, .func (.func g) #[] cap] w fun e w' => e = .returned (.int .i64 (firstI p zs)) ∧ Kp w w' := by
  go_enter Tryz.func57, Tryz.ntmps57
  go_wp2
  go_loopw [8] (fun x wr => ∃ k : Nat, k ≤ zs.length ∧ x = .int .i64 k ∧ (∀ i y, zs[i]? = some y → i < k → p y = false) ∧ Kp w wr) (fun x _ => zs.length - (intOf x).toNat)
  case atStart => exact ⟨0, by omega, rfl, fun i y _ h1 => by omega, .refl _⟩
  case round =>
  obtain ⟨k, hk, rfl, hz, hkp⟩ := hrel
  have Hz := Lib.hid hz; clear hz
  by_cases hlt : k < zs.length
  rotate_left
  · have Hthis := Lib.hid (firstI_none (p := p) (zs := zs) (fun i y hy => Hz.out i y hy (by have := (List.getElem?_eq_some_iff.1 hy).1; omega)))
    go_wp2
    go_ret
    exact ⟨ret_int Hthis.out.symm, hkp⟩
  obtain ⟨b, o, rfl, hr, h0, h1, h2, h3, h4, h5, h6⟩ := (h.kp hkp) k (zs[k]) (List.getElem?_eq_getElem hlt)
  have Hg := Lib.hid (List.getElem?_eq_getElem hlt)
  have hgo : ∀ args w, (callFunc g args).run Tryz.prog w = .ok (.enter g args) w := hp.1
  have hcall := hp.2 _ (List.getElem_mem hlt) wr hkp
  clear hp h
  generalize zs[k] = x at *
  cases hq : p x with
  | true =>
    rw [hq] at hcall
    have Hc := Lib.hid hcall
    have Hq := Lib.hid (firstI_some Hg.out hq Hz.out)
    clear hcall hq
    go_wp2_with (refine Hc.out.mono ?_; rintro e w2 ⟨rfl, hk2⟩)
    go_ret
    exact ⟨ret_int Hq.out.symm, hkp.trans hk2⟩
  | false =>
  rw [hq] at hcall
  have Hc := Lib.hid hcall
  have Hq := Lib.hid hq
  clear hcall hq
  go_wp2_with (refine Hc.out.mono ?_; rintro e w2 ⟨rfl, hk2⟩)
  go_roundw
  case measure => simp [intOf]; omega
  case rel =>
  refine ⟨k + 1, by omega, by go_num, fun i y hy hi => ?_, hkp.trans hk2⟩
  by_cases h : i = k
  · subst h; rw [Hg.out] at hy; cases hy; exact Hq.out
  exact Hz.out i y hy (by omega)
set_option maxHeartbeats 400000 in
theorem containsI (a : Option Addr) (zs : List RI) (c : Nat) (g : FuncId) (cap : Array Value) (w : World) (p : RI → Bool) (hm : zs.length ≤ 1100000) (h : RowI w a zs) (hp : AnsI Tryz.prog g cap w zs p) :
    Calls Tryz.prog 19 #[.slice a zs.length c, .func (.func g) #[] cap] w fun e w' => e = .returned (.bool (zs.any p)) ∧ Kp w w' := by
  have Hc := Lib.hid (idxI a zs c g cap w p hm h hp)
  have Ha := Lib.hid (firstI_any p zs)
  clear hp h
  go_enter Tryz.func19, Tryz.ntmps19
  go_wp2_with (refine Hc.out.mono ?_; rintro e w2 ⟨rfl, hk2⟩)
  go_ret
  exact ⟨by rw [← Ha.out]; rfl, hk2⟩
def RowM (w : World) (a : Option Addr) (m : List (List RI)) : Prop :=
  ∀ i r, m[i]? = some r → ∃ b o ra rc, a = some ⟨b, o, none⟩ ∧ w.cell? ⟨b, o + i, none⟩ = some (.slice ra r.length rc) ∧ RowI w ra r ∧ r.length ≤ 1100000
theorem RowM.kp {w w' : World} {a : Option Addr} {m : List (List RI)} (h : RowM w a m) (k : Kp w w') : RowM w' a m := by
  intro i r hi
  obtain ⟨b, o, ra, rc, h1, h2, h3, h4⟩ := h i r hi
  exact ⟨b, o, ra, rc, h1, k.cell h2, h3.kp k, h4⟩
def firstR (p : List RI → Bool) (zs : List (List RI)) : Int := match zs.findIdx? p with | some i => (i : Int) | none => -1
theorem firstR_some {p : List RI → Bool} {zs : List (List RI)} {k : Nat} {x : List RI} (hk : zs[k]? = some x) (hp : p x = true) (h : ∀ i y, zs[i]? = some y → i < k → p y = false) : firstR p zs = k := by
  unfold firstR
  have : zs.findIdx? p = some k := by
    rw [List.findIdx?_eq_some_iff_getElem]
    obtain ⟨h1, h2⟩ := List.getElem?_eq_some_iff.1 hk
    refine ⟨h1, by rw [h2]; exact hp, fun j hj => ?_⟩
    rw [h j _ (List.getElem?_eq_getElem (by omega)) hj]; decide
  rw [this]
theorem firstR_none {p : List RI → Bool} {zs : List (List RI)} (h : ∀ (i : Nat) (y : List RI), zs[i]? = some y → p y = false) : firstR p zs = -1 := by
  unfold firstR
  have : zs.findIdx? p = none := by
    rw [List.findIdx?_eq_none_iff]
    intro y hy
    obtain ⟨i, hi⟩ := List.getElem?_of_mem hy
    exact h i y hi
  rw [this]
theorem firstR_any (p : List RI → Bool) (zs : List (List RI)) : decide (0 ≤ firstR p zs) = zs.any p := by
  unfold firstR
  cases h : zs.findIdx? p with
  | none =>
    have hm := List.findIdx?_eq_none_iff.1 h
    have : zs.any p = false := by rw [List.any_eq_false]; intro y hy; rw [hm y hy]; decide
    rw [this]; decide
  | some i =>
  have hm := List.findIdx?_eq_some_iff_getElem.1 h
  obtain ⟨h1, h2, _⟩ := hm
  have : zs.any p = true := List.any_eq_true.2 ⟨_, List.getElem_mem h1, h2⟩
  rw [this]; simp
def AnsR (P : Program) (g : FuncId) (cap : Array Value) (w : World) (zs : List (List RI)) (p : List RI → Bool) : Prop :=
  Enters P g ∧ ∀ x, x ∈ zs → ∀ a c w1, Kp w w1 → RowI w1 a x ∧ x.length ≤ 1100000 → Calls P g (#[.slice a x.length c] ++ cap) w1 fun e w2 => e = .returned (.bool (p x)) ∧ Kp w1 w2

set_option maxHeartbeats 4000000 in
theorem idxR (a : Option Addr) (zs : List (List RI)) (c : Nat) (g : FuncId) (cap : Array Value) (w : World) (p : List RI → Bool) (hm : zs.length ≤ 1100000) (h : RowM w a zs) (hp : AnsR Tryz.prog g cap w zs p) :
    Calls Tryz.prog 104 #[.slice a zs.length c, .func (.func g) #[] cap] w fun e w' => e = .returned (.int .i64 (firstR p zs)) ∧ Kp w w' := by
  go_enter Tryz.func104, Tryz.ntmps104
  go_wp2
  go_loopw [8] (fun x wr => ∃ k : Nat, k ≤ zs.length ∧ x = .int .i64 k ∧ (∀ i y, zs[i]? = some y → i < k → p y = false) ∧ Kp w wr) (fun x _ => zs.length - (intOf x).toNat)
  case atStart => exact ⟨0, by omega, rfl, fun i y _ h1 => by omega, .refl _⟩
  case round =>
  obtain ⟨k, hk, rfl, hz, hkp⟩ := hrel
  have Hz := Lib.hid hz; clear hz
  by_cases hlt : k < zs.length
  rotate_left
  · have Hthis := Lib.hid (firstR_none (p := p) (zs := zs) (fun i y hy => Hz.out i y hy (by have := (List.getElem?_eq_some_iff.1 hy).1; omega)))
    go_wp2
    go_ret
    exact ⟨ret_int Hthis.out.symm, hkp⟩
  obtain ⟨b, o, ra, rc, rfl, hcell, hrow⟩ := (h.kp hkp) k (zs[k]) (List.getElem?_eq_getElem hlt)
  have Hg := Lib.hid (List.getElem?_eq_getElem hlt)
  have hgo : ∀ args w, (callFunc g args).run Tryz.prog w = .ok (.enter g args) w := hp.1
  have hcall := hp.2 _ (List.getElem_mem hlt) ra rc wr hkp hrow
  clear hp h hrow
  generalize zs[k] = x at *
  cases hq : p x with
  | true =>
    rw [hq] at hcall
    have Hc := Lib.hid hcall
    have Hq := Lib.hid (firstR_some Hg.out hq Hz.out)
    clear hcall hq
    go_wp2_with (refine Hc.out.mono ?_; rintro e w2 ⟨rfl, hk2⟩)
    go_ret
    exact ⟨ret_int Hq.out.symm, hkp.trans hk2⟩
  | false =>
  rw [hq] at hcall
  have Hc := Lib.hid hcall
  have Hq := Lib.hid hq
  clear hcall hq
  go_wp2_with (refine Hc.out.mono ?_; rintro e w2 ⟨rfl, hk2⟩)
  go_roundw
  case measure => simp [intOf]; omega
  case rel =>
  refine ⟨k + 1, by omega, by go_num, fun i y hy hi => ?_, hkp.trans hk2⟩
  by_cases h : i = k
  · subst h; rw [Hg.out] at hy; cases hy; exact Hq.out
  exact Hz.out i y hy (by omega)
set_option maxHeartbeats 400000 in
theorem containsR (a : Option Addr) (zs : List (List RI)) (c : Nat) (g : FuncId) (cap : Array Value) (w : World) (p : List RI → Bool) (hm : zs.length ≤ 1100000) (h : RowM w a zs) (hp : AnsR Tryz.prog g cap w zs p) :
    Calls Tryz.prog 50 #[.slice a zs.length c, .func (.func g) #[] cap] w fun e w' => e = .returned (.bool (zs.any p)) ∧ Kp w w' := by
  have Hc := Lib.hid (idxR a zs c g cap w p hm h hp)
  have Ha := Lib.hid (firstR_any p zs)
  clear hp h
  go_enter Tryz.func50, Tryz.ntmps50
  go_wp2_with (refine Hc.out.mono ?_; rintro e w2 ⟨rfl, hk2⟩)
  go_ret
  exact ⟨by rw [← Ha.out]; rfl, hk2⟩
end Go.Proofs.YtpocjagbhiahdaaGreatDoor
section
namespace Go.Proofs.YtpocjagbhiahdaaGreatDoor
open Go.ChangeShapes Go.WideShapes Go.RowKit Go.Deep

section
variable {H : Type} {enc : TypeId × Value → H} {w : World} {base : Nat} {spare : Nat → Bool} {held : Bool}
theorem cellsRowI : Tryz.prog.cellsOf 34 = 1 := by kernel_rfl
theorem open_rowM {fuel : Nat} {cs : List Value} {x : DataW H × List MemPlace} (h : DataW.trod enc Tryz.prog w base spare held fuel 25 cs = some x) (hb : Rows.uptoBulk x.1 ≤ 1048576) :
    ∃ (a : Option Addr) (zs : List (List RI)) (c : Nat), cs = [.slice a zs.length c] ∧ RowM w a zs ∧ zs.length ≤ 1048576 := by
  rcases open_slice Tryz.underlying25 h with ⟨hcs, hx⟩ | ⟨a, len, cap, m, n, D, Pl, hcs, _, hl, hm, hmm, hx, hi⟩
  · exact ⟨none, [], 0, hcs, fun i x hx => by simp at hx, Nat.zero_le _⟩
  have hle : len ≤ m := by rw [hmm]; split <;> omega
  have hbl : ∀ i, i < len → Rows.uptoBulk (D i) ≤ 1048576 := fun i hil => by
    refine Nat.le_trans ?_ hb
    rw [hx]
    exact bulk_elem (List.mem_map.2 ⟨i, List.mem_range.2 hil, rfl⟩)
  have hll : len ≤ 1048576 := by
    refine Nat.le_trans ?_ hb
    rw [hx]
    refine Nat.le_trans ?_ (bulk_slice _ _)
    simp
  obtain ⟨f, hf⟩ := choose_lt (α := Option Addr × List RI × Nat) (n := len) (p := fun i y => w.cells? base (a.add (i * 1)) 1 = some [.slice y.1 y.2.1.length y.2.2] ∧ RowI w y.1 y.2.1 ∧ y.2.1.length ≤ 1048576) (fun i hil => by
    obtain ⟨cs', h1, h2⟩ := hi i (by omega)
    rw [cellsRowI] at h1
    obtain ⟨ra, r, rc, e, hr, hrl⟩ := open_rowI h2 (hbl i hil)
    exact ⟨(ra, r, rc), by rw [h1, e], hr, hrl⟩)
  have hfl : ((List.range len).map fun i => (f i).2.1).length = len := by simp
  refine ⟨some a, (List.range len).map fun i => (f i).2.1, cap, by rw [hfl]; exact hcs, fun i x hx => ?_, by omega⟩
  have hil : i < len := by have := (List.getElem?_eq_some_iff.1 hx).1; rwa [hfl] at this
  rw [List.getElem?_map, List.getElem?_range hil] at hx
  cases hx
  obtain ⟨h1, h2, h3⟩ := hf i hil
  obtain ⟨_, _, hat⟩ := World.cells?_some h1
  have h0 := hf 0 (by omega)
  have hspot : ∃ b o, a = ⟨b, o, none⟩ := by
    obtain ⟨_, _, hat0⟩ := World.cells?_some h0.1
    have := hat0 0 (by decide)
    rw [Nat.zero_mul, add_add] at this
    exact cell_spot this
  obtain ⟨b, o, rfl⟩ := hspot
  have key : w.cell? ⟨b, o + i, none⟩ = some (.slice (f i).1 (f i).2.1.length (f i).2.2) := by
    have := hat 0 (by decide)
    rw [add_add, Addr.add_lit, Nat.mul_one, Nat.add_zero] at this
    exact this
  exact ⟨b, o, (f i).1, (f i).2.2, rfl, key, h2, Nat.le_trans h3 (by decide)⟩
end
end Go.Proofs.YtpocjagbhiahdaaGreatDoor
end
namespace Go.Proofs.YtpocjagbhiahdaaGreatDoor
open Go.RowKit
theorem RowI.rd {w : World} {a : Option Addr} {zs : List RI} (h : RowI w a zs) {x : RI} (hx : x ∈ zs) : x.rd w := by
  obtain ⟨i, hi⟩ := List.getElem?_of_mem hx
  obtain ⟨_, _, _, hr, _⟩ := h i x hi
  exact hr
def allII (p : RI → RI → Bool) (zs : List RI) (ys : List RI) : Bool := decide (zs.length = ys.length) && (zs.zip ys).all fun q => p q.1 q.2
theorem allII_true {p : RI → RI → Bool} {zs : List RI} {ys : List RI} : allII p zs ys = true ↔ zs.length = ys.length ∧ ∀ (i : Nat) (x : RI) (y : RI), zs[i]? = some x → ys[i]? = some y → p x y = true := by
  unfold allII
  rw [Bool.and_eq_true, decide_eq_true_eq, List.all_eq_true]
  refine and_congr_right fun hl => ⟨fun h i x y hx hy => ?_, fun h q hq => ?_⟩
  · refine h (x, y) (List.mem_of_getElem? (i := i) ?_)
    rw [List.getElem?_zip_eq_some]; exact ⟨hx, hy⟩
  obtain ⟨i, hi⟩ := List.getElem?_of_mem hq
  have hi2 := List.getElem?_zip_eq_some.1 hi
  exact h i _ _ hi2.1 hi2.2
theorem allII_false {p : RI → RI → Bool} {zs : List RI} {ys : List RI} {i : Nat} {x : RI} {y : RI} (hx : zs[i]? = some x) (hy : ys[i]? = some y) (h : p x y = false) : allII p zs ys = false := by
  cases ha : allII p zs ys with
  | true => rw [(allII_true.1 ha).2 i x y hx hy] at h; cases h
  | false => rfl
def AnsII (P : Program) (g : FuncId) (cap : Array Value) (w : World) (zs : List RI) (ys : List RI) (p : RI → RI → Bool) : Prop :=
  Enters P g ∧ ∀ x, x ∈ zs → ∀ y, y ∈ ys → ∀ w1, Kp w w1 → Calls P g (#[.agg #[.bool x.lo.neg, .slice x.lo.a x.lo.xs.length x.lo.c, .int .i64 x.lo.e, .bool x.hi.neg, .slice x.hi.a x.hi.xs.length x.hi.c, .int .i64 x.hi.e, .bool x.all], .agg #[.bool y.lo.neg, .slice y.lo.a y.lo.xs.length y.lo.c, .int .i64 y.lo.e, .bool y.hi.neg, .slice y.hi.a y.hi.xs.length y.hi.c, .int .i64 y.hi.e, .bool y.all]] ++ cap) w1 fun e w2 => e = .returned (.bool (p x y)) ∧ Kp w1 w2

set_option maxHeartbeats 4000000 in
theorem eqfII (a b' : Option Addr) (zs : List RI) (ys : List RI) (c d : Nat) (g : FuncId) (cap : Array Value) (w : World) (p : RI → RI → Bool) (hm : zs.length ≤ 1100000) (h : RowI w a zs) (h' : RowI w b' ys) (hp : AnsII Tryz.prog g cap w zs ys p) :
    Calls Tryz.prog 14 #[.slice a zs.length c, .slice b' ys.length d, .func (.func g) #[] cap] w fun e w' => e = .returned (.bool (allII p zs ys)) ∧ Kp w w' := by
  go_enter Tryz.func14, Tryz.ntmps14
  by_cases hlen : zs.length = ys.length
  rotate_left
  · have hl2 : ((zs.length : Int) == (ys.length : Int)) = false := beq_eq_false_iff_ne.2 (by omega)
    have H := Lib.hid (show allII p zs ys = false by unfold allII; rw [decide_eq_false hlen]; rfl)
    clear hlen
    go_wp2
    go_ret
    exact ⟨ret_bool H.out.symm, .refl _⟩
  have Hlen := Lib.hid hlen
  rw [← hlen]
  clear hlen
  go_wp2
  go_loopw [17] (fun x wr => ∃ k : Nat, k ≤ zs.length ∧ x = .int .i64 k ∧ (∀ (i : Nat) (x : RI) (y : RI), zs[i]? = some x → ys[i]? = some y → i < k → p x y = true) ∧ Kp w wr) (fun x _ => zs.length - (intOf x).toNat)
  case atStart => exact ⟨0, by omega, rfl, fun i x y _ _ h1 => by omega, .refl _⟩
  case round =>
  obtain ⟨k, hk, rfl, hz, hkp⟩ := hrel
  have Hz := Lib.hid hz; clear hz
  by_cases hlt : k < zs.length
  rotate_left
  · have Hthis := Lib.hid (allII_true.2 ⟨Hlen.out, fun i x y hx hy => Hz.out i x y hx hy (by have := (List.getElem?_eq_some_iff.1 hx).1; omega)⟩)
    go_wp2
    go_ret
    exact ⟨ret_bool Hthis.out.symm, hkp⟩
  have hlt2 : k < ys.length := by have := Hlen.out; omega
  obtain ⟨b, o, rfl, hr, h0, h1, h2, h3, h4, h5, h6⟩ := (h.kp hkp) k (zs[k]) (List.getElem?_eq_getElem hlt)
  obtain ⟨b2, o2, rfl, hr2, j0, j1, j2, j3, j4, j5, j6⟩ := (h'.kp (hkp.alloc (.cells #[.bool zs[k].lo.neg, .slice zs[k].lo.a zs[k].lo.xs.length zs[k].lo.c, .int .i64 zs[k].lo.e, .bool zs[k].hi.neg, .slice zs[k].hi.a zs[k].hi.xs.length zs[k].hi.c, .int .i64 zs[k].hi.e, .bool zs[k].all] 44))) k (ys[k]) (List.getElem?_eq_getElem hlt2)
  have Hg := Lib.hid (List.getElem?_eq_getElem hlt)
  have Hg2 := Lib.hid (List.getElem?_eq_getElem hlt2)
  have hgo : ∀ args w, (callFunc g args).run Tryz.prog w = .ok (.enter g args) w := hp.1
  have hcall := fun w1 (hk1 : Kp w w1) => hp.2 _ (List.getElem_mem hlt) _ (List.getElem_mem hlt2) w1 hk1
  clear hp h h'
  generalize zs[k] = x at *
  generalize ys[k] = y at *
  clear hlt2
  cases hq : p x y with
  | false =>
    rw [hq] at hcall
    have Hc := Lib.hid hcall
    have Hq := Lib.hid (allII_false Hg.out Hg2.out hq)
    clear hcall hq
    go_wp2_with (refine (Hc.out _ ((hkp.alloc _).alloc _)).mono ?_; rintro e w2 ⟨rfl, hk2⟩)
    go_ret
    exact ⟨ret_bool Hq.out.symm, ((hkp.alloc _).alloc _).trans hk2⟩
  | true =>
  rw [hq] at hcall
  have Hc := Lib.hid hcall
  have Hq := Lib.hid hq
  clear hcall hq
  go_wp2_with (refine (Hc.out _ ((hkp.alloc _).alloc _)).mono ?_; rintro e w2 ⟨rfl, hk2⟩)
  go_roundw
  case measure => simp [intOf]; omega
  case rel =>
  refine ⟨k + 1, by omega, by go_num, fun i x' y' hx hy hi => ?_, ((hkp.alloc _).alloc _).trans hk2⟩
  by_cases h : i = k
  · subst h; rw [Hg.out] at hx; rw [Hg2.out] at hy; cases hx; cases hy; exact Hq.out
  exact Hz.out i x' y' hx hy (by omega)



def DyE (w : World) (d : Dy) (f : Int) (e : Ending) (w' : World) : Prop :=
  ∃ a c, e = .returned (.tuple #[.agg #[.bool d.neg, .slice a (limbs d.m).length c, .int .i64 d.e], .int .i64 f]) ∧ Rd w' a (limbs d.m) ∧ (limbs d.m).length ≤ c ∧ c ≤ maxLen ∧ Kp w w'
theorem dyE_zero {w w' : World} {f : Int} {e : Ending} (he : e = .returned (.tuple #[.agg #[.bool false, .slice none 0 0, .int .i64 0], .int .i64 f])) (hk : Kp w w') : DyE w .zero f e w' := by
  subst he
  refine ⟨none, 0, ?_, ?_, ?_, by unfold maxLen; omega, hk⟩
  · show _ = Ending.returned (.tuple #[.agg #[.bool false, .slice none (limbs 0).length 0, .int .i64 0], .int .i64 f])
    rw [limbs_zero]; rfl
  · show Rd w' none (limbs 0)
    rw [limbs_zero]; exact .nil _ _
  show (limbs 0).length ≤ 0
  rw [limbs_zero]; exact Nat.le_refl _
def chk (d : Dy) : Dy × Int := if inrB d.m d.e then (d, 0) else (.zero, 9)

set_option maxHeartbeats 2000000 in
theorem checked_any (d : Dy) (a : Option Addr) (c : Nat) (w : World) (h : Rd w a (limbs d.m)) (hc : (limbs d.m).length ≤ c) (hm : c ≤ maxLen) (hl : (limbs d.m).length ≤ 1100000) (he : I64 d.e) :
    Calls Tryz.prog 212 #[.agg #[.bool d.neg, .slice a (limbs d.m).length c, .int .i64 d.e]] w (DyE w (chk d).1 (chk d).2) := by
  have hr := inRange_any d.neg a (limbs d.m) c d.e ((w.alloc (.cells #[.bool d.neg, .slice a (limbs d.m).length c, .int .i64 d.e] 42)).alloc (.cells #[.bool false, .slice none 0 0, .int .i64 0] 42)) (h.kp (((Kp.refl w).alloc _).alloc _)) hc hm hl he
  rw [val_limbs] at hr
  have Hr := Lib.hid hr
  clear hr
  cases hi : inrB d.m d.e with
  | false =>
    rw [hi] at Hr
    have Hd := Lib.hid (show chk d = (.zero, 9) by unfold chk; rw [hi]; rfl)
    clear hi
    go_enter Tryz.func212, Tryz.ntmps212
    go_wp2_with fail
    refine Hr.out.mono ?_
    rintro e w1 ⟨rfl, hk⟩
    obtain ⟨q0, q1, q2, f0, f1, f2⟩ := (Box3.new2 w (.bool false) (.slice none 0 0) (.int .i64 0) 42 (.cells #[.bool d.neg, .slice a (limbs d.m).length c, .int .i64 d.e] 42)).kp hk
    have hk2 := (((Kp.refl w).alloc _).alloc _).trans hk
    go_wp2_with fail
    have hst := stored q0 q1 q2 (fun _ h => by cases h) (fun _ h => by cases h) (fun _ h => by cases h) (.bool false) (.slice none 0 0) (.int .i64 0)
    generalize (((w1.setCell _ _).setCell _ _).setCell _ _) = W at hst ⊢
    obtain ⟨s0, s1, s2, _, s4, s5, _, _⟩ := hst
    refine bodyPost_ret (v := .tuple #[.agg #[.bool false, .slice none 0 0, .int .i64 0], .int .i64 9]) (by simp [results, Tryz.results212, go_sem, s0, s1, s2]) rfl ?_
    rw [Hd.out]
    exact dyE_zero rfl (s5 _ hk2 (by omega))
  | true =>
  rw [hi] at Hr
  have Hd := Lib.hid (show chk d = (d, 0) by unfold chk; rw [hi]; rfl)
  clear hi
  go_enter Tryz.func212, Tryz.ntmps212
  go_wp2_with fail
  refine Hr.out.mono ?_
  rintro e w1 ⟨rfl, hk⟩
  obtain ⟨c0, c1, c2, _⟩ := (Box3.new1 w (.bool d.neg) (.slice a (limbs d.m).length c) (.int .i64 d.e) 42 (.cells #[.bool false, .slice none 0 0, .int .i64 0] 42)).kp hk
  obtain ⟨q0, q1, q2, f0, f1, f2⟩ := (Box3.new2 w (.bool false) (.slice none 0 0) (.int .i64 0) 42 (.cells #[.bool d.neg, .slice a (limbs d.m).length c, .int .i64 d.e] 42)).kp hk
  have hk2 := (((Kp.refl w).alloc _).alloc _).trans hk
  go_wp2_with fail
  have hst := stored q0 q1 q2 (fun _ h => by cases h) (fun _ h => by cases h) (fun _ h => by cases h) (.bool d.neg) (.slice a (limbs d.m).length c) (.int .i64 d.e)
  generalize (((w1.setCell _ _).setCell _ _).setCell _ _) = W at hst ⊢
  obtain ⟨s0, s1, s2, _, s4, s5, _, _⟩ := hst
  refine bodyPost_ret (v := .tuple #[.agg #[.bool d.neg, .slice a (limbs d.m).length c, .int .i64 d.e], .int .i64 0]) (by simp [results, Tryz.results212, go_sem, s0, s1, s2]) rfl ?_
  rw [Hd.out]
  exact ⟨a, c, rfl, s4 _ _ (h.kp hk2), hc, hm, s5 _ hk2 (by omega)⟩
theorem canon_len (s : Bool) (n : Nat) (e : Int) : (limbs (canon s n e).m).length ≤ (limbs n).length := by
  unfold canon
  split
  · show (limbs 0).length ≤ _; rw [limbs_zero]; exact Nat.zero_le _
  exact limbs_length_mono (Nat.div_le_self _ _)
theorem canon_e (s : Bool) {n : Nat} {e : Int} (h0 : -1000000000 ≤ e) (h1 : e ≤ 1000000000) (hb : (limbs n).length ≤ 256) : -1000000000 ≤ (canon s n e).e ∧ (canon s n e).e ≤ 1000010000 := by
  unfold canon
  split
  · exact ⟨by decide, by decide⟩
  next h =>
  have e1 := bits_oddp h
  obtain ⟨k, hk⟩ : ∃ k : Nat, k = 256 := ⟨_, rfl⟩
  rw [← hk] at hb
  have e2 : bits n ≤ 32 * k := bits_le.2 (by rw [← pow32]; exact limbs_length_le.1 hb)
  simp only []
  omega
set_option maxHeartbeats 2000000 in
theorem Make_any (s : Bool) (a : Option Addr) (xs : List Nat) (c : Nat) (ex : Int) (w : World) (h : Rd w a xs) (hc : xs.length ≤ c) (hm : c ≤ maxLen) (hl : xs.length ≤ 256) (he0 : -32768 ≤ ex) (he1 : ex ≤ 32768) (hT : Tab w) :
    Calls Tryz.prog 201 #[.bool s, .slice a xs.length c, .int .i64 ex] w (DyE w (chk (canon s (val xs) ex)).1 (chk (canon s (val xs) ex)).2) := by
  have hE := exponent_any ex (w.alloc (.cells #[.bool false, .slice none 0 0, .int .i64 0] 42)) ⟨by omega, by omega⟩
  rw [show expB ex = true from decide_eq_true ⟨he0, he1⟩] at hE
  have HE := Lib.hid hE
  have hll := limbs_len_le h.lt32
  have hlen := canon_len s (val xs) ex
  have hee := canon_e s (show -1000000000 ≤ ex by omega) (show ex ≤ 1000000000 by omega) (show (limbs (val xs)).length ≤ 256 by omega)
  clear hE
  go_enter Tryz.func201, Tryz.ntmps201
  go_wp2_with fail
  refine HE.out.mono ?_
  rintro e w1 ⟨rfl, rfl⟩
  go_wp2_with fail
  refine (canonical_any s a xs c ex _ (h.kp ((Kp.refl w).alloc _)) hc hm hl (by omega) (by omega) (hT.kp ((Kp.refl w).alloc _))).mono ?_
  rintro e w2 ⟨a2, c2, rfl, h2, h3, h4, h5⟩
  generalize canon s (val xs) ex = D at *
  go_wp2_with fail
  refine (checked_any D a2 c2 _ h2 h3 h4 (by omega) ⟨by omega, by omega⟩).mono ?_
  rintro e w3 ⟨a3, c3, rfl, h6, h7, h8, h9⟩
  generalize (chk D).1 = F at *
  generalize (chk D).2 = f at *
  have hk := h5.trans h9
  obtain ⟨q0, q1, q2, f0, f1, f2⟩ := (Box3.new w (.bool false) (.slice none 0 0) (.int .i64 0) 42).kp hk
  have hk2 := ((Kp.refl w).alloc _).trans hk
  go_wp2_with fail
  have hst := stored q0 q1 q2 (fun _ h => by cases h) (fun _ h => by cases h) (fun _ h => by cases h) (.bool F.neg) (.slice a3 (limbs F.m).length c3) (.int .i64 F.e)
  generalize (((w3.setCell _ _).setCell _ _).setCell _ _) = W at hst ⊢
  obtain ⟨s0, s1, s2, _, s4, s5, _, _⟩ := hst
  refine bodyPost_ret (v := .tuple #[.agg #[.bool F.neg, .slice a3 (limbs F.m).length c3, .int .i64 F.e], .int .i64 f]) (by simp [results, Tryz.results201, go_sem, s0, s1, s2]) rfl ?_
  exact ⟨a3, c3, rfl, s4 _ _ h6, h7, h8, s5 _ hk2 (by omega)⟩
end Go.Proofs.YtpocjagbhiahdaaGreatDoor
