/-
  Walks: slices.IndexFunc, ContainsFunc at []api.Interval.
-/
import Derived.Test.YtpocjagbhiahdaaGreatDoorMIvA
import Derived.Test.YtpocjagbhiahdaaGreatDoorMNum
import Derived.Test.YtpocjagbhiahdaaGreatDoorMDyB
import Derived.Test.YtpocjagbhiahdaaGreatDoorMDy
namespace Go.Proofs.YtpocjagbhiahdaaGreatDoor
open Go.RowKit
def firstI (p : RI → Bool) (zs : List RI) : Int := match zs.findIdx? p with | some i => (i : Int) | none => -1
theorem firstI_some {p : RI → Bool} {zs : List RI} {k : Nat} {x : RI} (hk : zs[k]? = some x) (hp : p x = true) (h : ∀ i y, zs[i]? = some y → i < k → p y = false) : firstI p zs = k := by
  unfold firstI
  have : zs.findIdx? p = some k := by
    rw [List.findIdx?_eq_some_iff_getElem]
    obtain ⟨h1, h2⟩ := List.getElem?_eq_some_iff.1 hk
    refine ⟨h1, by rw [h2]; exact hp, fun j hj => ?_⟩
    rw [h j _ (List.getElem?_eq_getElem (by omega)) hj]; decide
  rw [this]
theorem firstI_none {p : RI → Bool} {zs : List RI} (h : ∀ (i : Nat) (y : RI), zs[i]? = some y → p y = false) : firstI p zs = -1 := by
  unfold firstI
  have : zs.findIdx? p = none := by
    rw [List.findIdx?_eq_none_iff]
    intro y hy
    obtain ⟨i, hi⟩ := List.getElem?_of_mem hy
    exact h i y hi
  rw [this]
theorem firstI_any (p : RI → Bool) (zs : List RI) : decide (0 ≤ firstI p zs) = zs.any p := by
  unfold firstI
  cases h : zs.findIdx? p with
  | none =>
    have hm := List.findIdx?_eq_none_iff.1 h
    have : zs.any p = false := by rw [List.any_eq_false]; intro y hy; rw [hm y hy]; decide
    rw [this]; decide
  | some i =>
  have hm := List.findIdx?_eq_some_iff_getElem.1 h
  obtain ⟨h1, h2, _⟩ := hm
  have : zs.any p = true := List.any_eq_true.2 ⟨_, List.getElem_mem h1, h2⟩
  rw [this]; simp
def AnsI (P : Program) (g : FuncId) (cap : Array Value) (w : World) (zs : List RI) (p : RI → Bool) : Prop :=
  Enters P g ∧ ∀ x, x ∈ zs → ∀ w1, Kp w w1 → Calls P g (#[.agg #[.bool x.lo.neg, .slice x.lo.a x.lo.xs.length x.lo.c, .int .i64 x.lo.e, .bool x.hi.neg, .slice x.hi.a x.hi.xs.length x.hi.c, .int .i64 x.hi.e, .bool x.all]] ++ cap) w1 fun e w2 => e = .returned (.bool (p x)) ∧ Kp w1 w2

set_option maxHeartbeats 4000000 in
theorem idxI (a : Option Addr) (zs : List RI) (c : Nat) (g : FuncId) (cap : Array Value) (w : World) (p : RI → Bool) (hm : zs.length ≤ 1100000) (h : RowI w a zs) (hp : AnsI Tryz.prog g cap w zs p) :
    Calls Tryz.prog 57 #[.slice a zs.length c, .func (.func g) #[] cap] w fun e w' => e = .returned (.int .i64 (firstI p zs)) ∧ Kp w w' := by
  go_enter Tryz.func57, Tryz.ntmps57
  go_wp2
  go_loopw [8] (fun x wr => ∃ k : Nat, k ≤ zs.length ∧ x = .int .i64 k ∧ (∀ i y, zs[i]? = some y → i < k → p y = false) ∧ Kp w wr) (fun x _ => zs.length - (intOf x).toNat)
  case atStart => exact ⟨0, by omega, rfl, fun i y _ h1 => by omega, .refl _⟩
  case round =>
  obtain ⟨k, hk, rfl, hz, hkp⟩ := hrel
  have Hz := Lib.hid hz; clear hz
  by_cases hlt : k < zs.length
  rotate_left
  · have Hthis := Lib.hid (firstI_none (p := p) (zs := zs) (fun i y hy => Hz.out i y hy (by have := (List.getElem?_eq_some_iff.1 hy).1; omega)))
    go_wp2
    go_ret
    exact ⟨ret_int Hthis.out.symm, hkp⟩
  obtain ⟨b, o, rfl, hr, h0, h1, h2, h3, h4, h5, h6⟩ := (h.kp hkp) k (zs[k]) (List.getElem?_eq_getElem hlt)
  have Hg := Lib.hid (List.getElem?_eq_getElem hlt)
  have hgo : ∀ args w, (callFunc g args).run Tryz.prog w = .ok (.enter g args) w := hp.1
  have hcall := hp.2 _ (List.getElem_mem hlt) wr hkp
  clear hp h
  generalize zs[k] = x at *
  cases hq : p x with
  | true =>
    rw [hq] at hcall
    have Hc := Lib.hid hcall
    have Hq := Lib.hid (firstI_some Hg.out hq Hz.out)
    clear hcall hq
    go_wp2_with (refine Hc.out.mono ?_; rintro e w2 ⟨rfl, hk2⟩)
    go_ret
    exact ⟨ret_int Hq.out.symm, hkp.trans hk2⟩
  | false =>
  rw [hq] at hcall
  have Hc := Lib.hid hcall
  have Hq := Lib.hid hq
  clear hcall hq
  go_wp2_with (refine Hc.out.mono ?_; rintro e w2 ⟨rfl, hk2⟩)
  go_roundw
  case measure => simp [intOf]; omega
  case rel =>
  refine ⟨k + 1, by omega, by go_num, fun i y hy hi => ?_, hkp.trans hk2⟩
  by_cases h : i = k
  · subst h; rw [Hg.out] at hy; cases hy; exact Hq.out
  exact Hz.out i y hy (by omega)
set_option maxHeartbeats 400000 in
theorem containsI (a : Option Addr) (zs : List RI) (c : Nat) (g : FuncId) (cap : Array Value) (w : World) (p : RI → Bool) (hm : zs.length ≤ 1100000) (h : RowI w a zs) (hp : AnsI Tryz.prog g cap w zs p) :
    Calls Tryz.prog 19 #[.slice a zs.length c, .func (.func g) #[] cap] w fun e w' => e = .returned (.bool (zs.any p)) ∧ Kp w w' := by
  have Hc := Lib.hid (idxI a zs c g cap w p hm h hp)
  have Ha := Lib.hid (firstI_any p zs)
  clear hp h
  go_enter Tryz.func19, Tryz.ntmps19
  go_wp2_with (refine Hc.out.mono ?_; rintro e w2 ⟨rfl, hk2⟩)
  go_ret
  exact ⟨by rw [← Ha.out]; rfl, hk2⟩
theorem RowI.rd {w : World} {a : Option Addr} {zs : List RI} (h : RowI w a zs) {x : RI} (hx : x ∈ zs) : x.rd w := by
  obtain ⟨i, hi⟩ := List.getElem?_of_mem hx
  obtain ⟨_, _, _, hr, _⟩ := h i x hi
  exact hr
def allII (p : RI → RI → Bool) (zs : List RI) (ys : List RI) : Bool := decide (zs.length = ys.length) && (zs.zip ys).all fun q => p q.1 q.2
theorem allII_true {p : RI → RI → Bool} {zs : List RI} {ys : List RI} : allII p zs ys = true ↔ zs.length = ys.length ∧ ∀ (i : Nat) (x : RI) (y : RI), zs[i]? = some x → ys[i]? = some y → p x y = true := by
  unfold allII
  rw [Bool.and_eq_true, decide_eq_true_eq, List.all_eq_true]
  refine and_congr_right fun hl => ⟨fun h i x y hx hy => ?_, fun h q hq => ?_⟩
  · refine h (x, y) (List.mem_of_getElem? (i := i) ?_)
    rw [List.getElem?_zip_eq_some]; exact ⟨hx, hy⟩
  obtain ⟨i, hi⟩ := List.getElem?_of_mem hq
  have hi2 := List.getElem?_zip_eq_some.1 hi
  exact h i _ _ hi2.1 hi2.2
theorem allII_false {p : RI → RI → Bool} {zs : List RI} {ys : List RI} {i : Nat} {x : RI} {y : RI} (hx : zs[i]? = some x) (hy : ys[i]? = some y) (h : p x y = false) : allII p zs ys = false := by
  cases ha : allII p zs ys with
  | true => rw [(allII_true.1 ha).2 i x y hx hy] at h; cases h
  | false => rfl
def AnsII (P : Program) (g : FuncId) (cap : Array Value) (w : World) (zs : List RI) (ys : List RI) (p : RI → RI → Bool) : Prop :=
  Enters P g ∧ ∀ x, x ∈ zs → ∀ y, y ∈ ys → ∀ w1, Kp w w1 → Calls P g (#[.agg #[.bool x.lo.neg, .slice x.lo.a x.lo.xs.length x.lo.c, .int .i64 x.lo.e, .bool x.hi.neg, .slice x.hi.a x.hi.xs.length x.hi.c, .int .i64 x.hi.e, .bool x.all], .agg #[.bool y.lo.neg, .slice y.lo.a y.lo.xs.length y.lo.c, .int .i64 y.lo.e, .bool y.hi.neg, .slice y.hi.a y.hi.xs.length y.hi.c, .int .i64 y.hi.e, .bool y.all]] ++ cap) w1 fun e w2 => e = .returned (.bool (p x y)) ∧ Kp w1 w2

set_option maxHeartbeats 4000000 in
theorem eqfII (a b' : Option Addr) (zs : List RI) (ys : List RI) (c d : Nat) (g : FuncId) (cap : Array Value) (w : World) (p : RI → RI → Bool) (hm : zs.length ≤ 1100000) (h : RowI w a zs) (h' : RowI w b' ys) (hp : AnsII Tryz.prog g cap w zs ys p) :
    Calls Tryz.prog 14 #[.slice a zs.length c, .slice b' ys.length d, .func (.func g) #[] cap] w fun e w' => e = .returned (.bool (allII p zs ys)) ∧ Kp w w' := by
  go_enter Tryz.func14, Tryz.ntmps14
  by_cases hlen : zs.length = ys.length
  rotate_left
  · have hl2 : ((zs.length : Int) == (ys.length : Int)) = false := beq_eq_false_iff_ne.2 (by omega)
    have H := Lib.hid (show allII p zs ys = false by unfold allII; rw [decide_eq_false hlen]; rfl)
    clear hlen
    go_wp2
    go_ret
    exact ⟨ret_bool H.out.symm, .refl _⟩
  have Hlen := Lib.hid hlen
  rw [← hlen]
  clear hlen
  go_wp2
  go_loopw [17] (fun x wr => ∃ k : Nat, k ≤ zs.length ∧ x = .int .i64 k ∧ (∀ (i : Nat) (x : RI) (y : RI), zs[i]? = some x → ys[i]? = some y → i < k → p x y = true) ∧ Kp w wr) (fun x _ => zs.length - (intOf x).toNat)
  case atStart => exact ⟨0, by omega, rfl, fun i x y _ _ h1 => by omega, .refl _⟩
  case round =>
  obtain ⟨k, hk, rfl, hz, hkp⟩ := hrel
  have Hz := Lib.hid hz; clear hz
  by_cases hlt : k < zs.length
  rotate_left
  · have Hthis := Lib.hid (allII_true.2 ⟨Hlen.out, fun i x y hx hy => Hz.out i x y hx hy (by have := (List.getElem?_eq_some_iff.1 hx).1; omega)⟩)
    go_wp2
    go_ret
    exact ⟨ret_bool Hthis.out.symm, hkp⟩
  have hlt2 : k < ys.length := by have := Hlen.out; omega
  obtain ⟨b, o, rfl, hr, h0, h1, h2, h3, h4, h5, h6⟩ := (h.kp hkp) k (zs[k]) (List.getElem?_eq_getElem hlt)
  obtain ⟨b2, o2, rfl, hr2, j0, j1, j2, j3, j4, j5, j6⟩ := (h'.kp (hkp.alloc (.cells #[.bool zs[k].lo.neg, .slice zs[k].lo.a zs[k].lo.xs.length zs[k].lo.c, .int .i64 zs[k].lo.e, .bool zs[k].hi.neg, .slice zs[k].hi.a zs[k].hi.xs.length zs[k].hi.c, .int .i64 zs[k].hi.e, .bool zs[k].all] 44))) k (ys[k]) (List.getElem?_eq_getElem hlt2)
  have Hg := Lib.hid (List.getElem?_eq_getElem hlt)
  have Hg2 := Lib.hid (List.getElem?_eq_getElem hlt2)
  have hgo : ∀ args w, (callFunc g args).run Tryz.prog w = .ok (.enter g args) w := hp.1
  have hcall := fun w1 (hk1 : Kp w w1) => hp.2 _ (List.getElem_mem hlt) _ (List.getElem_mem hlt2) w1 hk1
  clear hp h h'
  generalize zs[k] = x at *
  generalize ys[k] = y at *
  clear hlt2
  cases hq : p x y with
  | false =>
    rw [hq] at hcall
    have Hc := Lib.hid hcall
    have Hq := Lib.hid (allII_false Hg.out Hg2.out hq)
    clear hcall hq
    go_wp2_with (refine (Hc.out _ ((hkp.alloc _).alloc _)).mono ?_; rintro e w2 ⟨rfl, hk2⟩)
    go_ret
    exact ⟨ret_bool Hq.out.symm, ((hkp.alloc _).alloc _).trans hk2⟩
  | true =>
  rw [hq] at hcall
  have Hc := Lib.hid hcall
  have Hq := Lib.hid hq
  clear hcall hq
  go_wp2_with (refine (Hc.out _ ((hkp.alloc _).alloc _)).mono ?_; rintro e w2 ⟨rfl, hk2⟩)
  go_roundw
  case measure => simp [intOf]; omega
  case rel =>
  refine ⟨k + 1, by omega, by go_num, fun i x' y' hx hy hi => ?_, ((hkp.alloc _).alloc _).trans hk2⟩
  by_cases h : i = k
  · subst h; rw [Hg.out] at hx; rw [Hg2.out] at hy; cases hx; cases hy; exact Hq.out
  exact Hz.out i x' y' hx hy (by omega)



def DyE (w : World) (d : Dy) (f : Int) (e : Ending) (w' : World) : Prop :=
  ∃ a c, e = .returned (.tuple #[.agg #[.bool d.neg, .slice a (limbs d.m).length c, .int .i64 d.e], .int .i64 f]) ∧ Rd w' a (limbs d.m) ∧ (limbs d.m).length ≤ c ∧ c ≤ maxLen ∧ Kp w w'
theorem dyE_zero {w w' : World} {f : Int} {e : Ending} (he : e = .returned (.tuple #[.agg #[.bool false, .slice none 0 0, .int .i64 0], .int .i64 f])) (hk : Kp w w') : DyE w .zero f e w' := by
  subst he
  refine ⟨none, 0, ?_, ?_, ?_, by unfold maxLen; omega, hk⟩
  · show _ = Ending.returned (.tuple #[.agg #[.bool false, .slice none (limbs 0).length 0, .int .i64 0], .int .i64 f])
    rw [limbs_zero]; rfl
  · show Rd w' none (limbs 0)
    rw [limbs_zero]; exact .nil _ _
  show (limbs 0).length ≤ 0
  rw [limbs_zero]; exact Nat.le_refl _
def chk (d : Dy) : Dy × Int := if inrB d.m d.e then (d, 0) else (.zero, 9)

set_option maxHeartbeats 2000000 in
theorem checked_any (d : Dy) (a : Option Addr) (c : Nat) (w : World) (h : Rd w a (limbs d.m)) (hc : (limbs d.m).length ≤ c) (hm : c ≤ maxLen) (hl : (limbs d.m).length ≤ 1100000) (he : I64 d.e) :
    Calls Tryz.prog 212 #[.agg #[.bool d.neg, .slice a (limbs d.m).length c, .int .i64 d.e]] w (DyE w (chk d).1 (chk d).2) := by
  have hr := inRange_any d.neg a (limbs d.m) c d.e ((w.alloc (.cells #[.bool d.neg, .slice a (limbs d.m).length c, .int .i64 d.e] 42)).alloc (.cells #[.bool false, .slice none 0 0, .int .i64 0] 42)) (h.kp (((Kp.refl w).alloc _).alloc _)) hc hm hl he
  rw [val_limbs] at hr
  have Hr := Lib.hid hr
  clear hr
  cases hi : inrB d.m d.e with
  | false =>
    rw [hi] at Hr
    have Hd := Lib.hid (show chk d = (.zero, 9) by unfold chk; rw [hi]; rfl)
    clear hi
    go_enter Tryz.func212, Tryz.ntmps212
    go_wp2_with fail
    refine Hr.out.mono ?_
    rintro e w1 ⟨rfl, hk⟩
    obtain ⟨q0, q1, q2, f0, f1, f2⟩ := (Box3.new2 w (.bool false) (.slice none 0 0) (.int .i64 0) 42 (.cells #[.bool d.neg, .slice a (limbs d.m).length c, .int .i64 d.e] 42)).kp hk
    have hk2 := (((Kp.refl w).alloc _).alloc _).trans hk
    go_wp2_with fail
    have hst := stored q0 q1 q2 (fun _ h => by cases h) (fun _ h => by cases h) (fun _ h => by cases h) (.bool false) (.slice none 0 0) (.int .i64 0)
    generalize (((w1.setCell _ _).setCell _ _).setCell _ _) = W at hst ⊢
    obtain ⟨s0, s1, s2, _, s4, s5, _, _⟩ := hst
    refine bodyPost_ret (v := .tuple #[.agg #[.bool false, .slice none 0 0, .int .i64 0], .int .i64 9]) (by simp [results, Tryz.results212, go_sem, s0, s1, s2]) rfl ?_
    rw [Hd.out]
    exact dyE_zero rfl (s5 _ hk2 (by omega))
  | true =>
  rw [hi] at Hr
  have Hd := Lib.hid (show chk d = (d, 0) by unfold chk; rw [hi]; rfl)
  clear hi
  go_enter Tryz.func212, Tryz.ntmps212
  go_wp2_with fail
  refine Hr.out.mono ?_
  rintro e w1 ⟨rfl, hk⟩
  obtain ⟨c0, c1, c2, _⟩ := (Box3.new1 w (.bool d.neg) (.slice a (limbs d.m).length c) (.int .i64 d.e) 42 (.cells #[.bool false, .slice none 0 0, .int .i64 0] 42)).kp hk
  obtain ⟨q0, q1, q2, f0, f1, f2⟩ := (Box3.new2 w (.bool false) (.slice none 0 0) (.int .i64 0) 42 (.cells #[.bool d.neg, .slice a (limbs d.m).length c, .int .i64 d.e] 42)).kp hk
  have hk2 := (((Kp.refl w).alloc _).alloc _).trans hk
  go_wp2_with fail
  have hst := stored q0 q1 q2 (fun _ h => by cases h) (fun _ h => by cases h) (fun _ h => by cases h) (.bool d.neg) (.slice a (limbs d.m).length c) (.int .i64 d.e)
  generalize (((w1.setCell _ _).setCell _ _).setCell _ _) = W at hst ⊢
  obtain ⟨s0, s1, s2, _, s4, s5, _, _⟩ := hst
  refine bodyPost_ret (v := .tuple #[.agg #[.bool d.neg, .slice a (limbs d.m).length c, .int .i64 d.e], .int .i64 0]) (by simp [results, Tryz.results212, go_sem, s0, s1, s2]) rfl ?_
  rw [Hd.out]
  exact ⟨a, c, rfl, s4 _ _ (h.kp hk2), hc, hm, s5 _ hk2 (by omega)⟩
theorem canon_len (s : Bool) (n : Nat) (e : Int) : (limbs (canon s n e).m).length ≤ (limbs n).length := by
  unfold canon
  split
  · show (limbs 0).length ≤ _; rw [limbs_zero]; exact Nat.zero_le _
  exact limbs_length_mono (Nat.div_le_self _ _)
theorem canon_e (s : Bool) {n : Nat} {e : Int} (h0 : -1000000000 ≤ e) (h1 : e ≤ 1000000000) (hb : (limbs n).length ≤ 256) : -1000000000 ≤ (canon s n e).e ∧ (canon s n e).e ≤ 1000010000 := by
  unfold canon
  split
  · exact ⟨by decide, by decide⟩
  next h =>
  have e1 := bits_oddp h
  obtain ⟨k, hk⟩ : ∃ k : Nat, k = 256 := ⟨_, rfl⟩
  rw [← hk] at hb
  have e2 : bits n ≤ 32 * k := bits_le.2 (by rw [← pow32]; exact limbs_length_le.1 hb)
  simp only []
  omega
set_option maxHeartbeats 2000000 in
theorem Make_any (s : Bool) (a : Option Addr) (xs : List Nat) (c : Nat) (ex : Int) (w : World) (h : Rd w a xs) (hc : xs.length ≤ c) (hm : c ≤ maxLen) (hl : xs.length ≤ 256) (he0 : -32768 ≤ ex) (he1 : ex ≤ 32768) (hT : Tab w) :
    Calls Tryz.prog 201 #[.bool s, .slice a xs.length c, .int .i64 ex] w (DyE w (chk (canon s (val xs) ex)).1 (chk (canon s (val xs) ex)).2) := by
  have hE := exponent_any ex (w.alloc (.cells #[.bool false, .slice none 0 0, .int .i64 0] 42)) ⟨by omega, by omega⟩
  rw [show expB ex = true from decide_eq_true ⟨he0, he1⟩] at hE
  have HE := Lib.hid hE
  have hll := limbs_len_le h.lt32
  have hlen := canon_len s (val xs) ex
  have hee := canon_e s (show -1000000000 ≤ ex by omega) (show ex ≤ 1000000000 by omega) (show (limbs (val xs)).length ≤ 256 by omega)
  clear hE
  go_enter Tryz.func201, Tryz.ntmps201
  go_wp2_with fail
  refine HE.out.mono ?_
  rintro e w1 ⟨rfl, rfl⟩
  go_wp2_with fail
  refine (canonical_any s a xs c ex _ (h.kp ((Kp.refl w).alloc _)) hc hm hl (by omega) (by omega) (hT.kp ((Kp.refl w).alloc _))).mono ?_
  rintro e w2 ⟨a2, c2, rfl, h2, h3, h4, h5⟩
  generalize canon s (val xs) ex = D at *
  go_wp2_with fail
  refine (checked_any D a2 c2 _ h2 h3 h4 (by omega) ⟨by omega, by omega⟩).mono ?_
  rintro e w3 ⟨a3, c3, rfl, h6, h7, h8, h9⟩
  generalize (chk D).1 = F at *
  generalize (chk D).2 = f at *
  have hk := h5.trans h9
  obtain ⟨q0, q1, q2, f0, f1, f2⟩ := (Box3.new w (.bool false) (.slice none 0 0) (.int .i64 0) 42).kp hk
  have hk2 := ((Kp.refl w).alloc _).trans hk
  go_wp2_with fail
  have hst := stored q0 q1 q2 (fun _ h => by cases h) (fun _ h => by cases h) (fun _ h => by cases h) (.bool F.neg) (.slice a3 (limbs F.m).length c3) (.int .i64 F.e)
  generalize (((w3.setCell _ _).setCell _ _).setCell _ _) = W at hst ⊢
  obtain ⟨s0, s1, s2, _, s4, s5, _, _⟩ := hst
  refine bodyPost_ret (v := .tuple #[.agg #[.bool F.neg, .slice a3 (limbs F.m).length c3, .int .i64 F.e], .int .i64 f]) (by simp [results, Tryz.results201, go_sem, s0, s1, s2]) rfl ?_
  exact ⟨a3, c3, rfl, s4 _ _ h6, h7, h8, s5 _ hk2 (by omega)⟩
def preB (p : Int) : Bool := decide (8 ≤ p ∧ p ≤ 512)
theorem preB_iff {p : Int} : preB p = true ↔ 8 ≤ p ∧ p ≤ 512 := by unfold preB; simp
theorem precise_any (p : Int) (w : World) :
    Calls Tryz.prog 186 #[.int .i64 p] w fun e w' => e = .returned (.bool (preB p)) ∧ w = w' := by
  by_cases h1 : 8 ≤ p
  rotate_left
  · have H := Lib.hid (show preB p = false from decide_eq_false (by omega))
    go_enter Tryz.func186, Tryz.ntmps186
    go_wp2_with fail
    go_ret
    exact ⟨ret_bool (by first | exact H.out.symm | (rw [H.out]; simp; omega)), rfl⟩
  by_cases h2 : p ≤ 512
  · have H := Lib.hid (show preB p = true from decide_eq_true ⟨h1, h2⟩)
    go_enter Tryz.func186, Tryz.ntmps186
    go_wp2_with fail
    go_ret
    exact ⟨ret_bool (by first | exact H.out.symm | (rw [H.out]; simp; omega)), rfl⟩
  have H := Lib.hid (show preB p = false from decide_eq_false (by omega))
  go_enter Tryz.func186, Tryz.ntmps186
  go_wp2_with fail
  go_ret
  exact ⟨ret_bool (by first | exact H.out.symm | (rw [H.out]; simp; omega)), rfl⟩
def NatOut (w : World) (v : Nat) (e : Ending) (w' : World) : Prop :=
  ∃ a c, e = .returned (.slice a (limbs v).length c) ∧ (limbs v).length ≤ c ∧ c ≤ maxLen ∧ Rd w' a (limbs v) ∧ Kp w w'
theorem roshl_any (a : Option Addr) (xs : List Nat) (c : Nat) (n : Int) (w : World) (hx : Rd w a xs) (hxl : xs.length ≤ 256) (hxc : xs.length ≤ c) (hc : c ≤ maxLen) (h0 : 0 ≤ n) (hn : n ≤ 65536) (hv : (limbs (val xs * 2 ^ n.toNat)).length ≤ 256) :
    Calls Tryz.prog 166 #[.slice a xs.length c, .int .i64 n] w (NatOut w (val xs * 2 ^ n.toNat)) := by
  have H := Lib.hid (Shl_any a xs c n w hx hxl hxc hc h0 hn hv)
  clear hv
  generalize val xs * 2 ^ n.toNat = V at *
  go_enter Tryz.func166, Tryz.ntmps166
  go_wp2_with fail
  refine H.out.mono ?_
  rintro e w2 ⟨a2, c2, rfl, h3, h4, h5, h6⟩
  go_wp2_with fail
  go_ret
  exact ⟨a2, c2, rfl, h3, h4, h5, h6⟩
def ShrOut (w : World) (v : Nat) (lost : Bool) (e : Ending) (w' : World) : Prop :=
  ∃ a c, e = .returned (.tuple #[.slice a (limbs v).length c, .bool lost]) ∧ (limbs v).length ≤ c ∧ c ≤ maxLen ∧ Rd w' a (limbs v) ∧ Kp w w'
theorem shr_low {V n b : Nat} (hb : bits V = b) (h : b < n) : V / 2 ^ n = V / 2 ^ b ∧ (decide (V % 2 ^ n = 0)) = decide (V % 2 ^ b = 0) := by
  have h1 : V < 2 ^ b := hb ▸ lt_two_pow_bits V
  have h2 : V < 2 ^ n := Nat.lt_of_lt_of_le h1 (Nat.pow_le_pow_right (by decide) (by omega))
  rw [Nat.div_eq_of_lt h1, Nat.div_eq_of_lt h2, Nat.mod_eq_of_lt h1, Nat.mod_eq_of_lt h2]
  exact ⟨rfl, rfl⟩
theorem cmp_lost {V m : Nat} : (cmpN (V / 2 ^ m * 2 ^ m) V != 0) = !decide (V % 2 ^ m = 0) := by
  have h := Nat.div_add_mod V (2 ^ m)
  rw [Nat.mul_comm] at h
  by_cases h0 : V % 2 ^ m = 0
  · rw [cmpN_eq (by omega)]; simp [h0]
  rw [cmpN_lt (by omega)]; simp [h0]
set_option maxHeartbeats 2000000 in
theorem roshr_any (a : Option Addr) (xs : List Nat) (c n : Nat) (w : World) (hx : Rd w a xs) (hxl : xs.length ≤ 256) (hxc : xs.length ≤ c) (hc : c ≤ maxLen) (hn : n ≤ 9000000) :
    Calls Tryz.prog 188 #[.slice a xs.length c, .int .i64 n] w (ShrOut w (val xs / 2 ^ n) (!decide (val xs % 2 ^ n = 0))) := by
  have hb := bits_val_le hx.lt32
  have hll := limbs_len_le hx.lt32
  obtain ⟨m, hm, hm2⟩ : ∃ m : Nat, m = (if bits (val xs) < n then bits (val xs) else n) ∧ m ≤ bits (val xs) := ⟨_, rfl, by split <;> omega⟩
  have e1 : val xs / 2 ^ n = val xs / 2 ^ m ∧ (decide (val xs % 2 ^ n = 0)) = decide (val xs % 2 ^ m = 0) := by
    rw [hm]; split
    · next h => exact shr_low rfl h
    · exact ⟨rfl, rfl⟩
  rw [e1.1, e1.2, ← cmp_lost]
  clear e1
  have hB := Lib.hid (bits_any a xs c w hx hxc hc (by omega))
  have hS := Lib.hid (Shr_any a xs c m w hx hxl hxc hc (by omega) (by omega))
  rw [Int.toNat_natCast] at hS
  have hle := Nat.div_le_self (val xs) (2 ^ m)
  have hle2 := Nat.div_mul_le_self (val xs) (2 ^ m)
  have hq : (limbs (val xs / 2 ^ m)).length ≤ 256 := Nat.le_trans (limbs_length_mono hle) (by omega)
  have hq2 : (limbs (val (limbs (val xs / 2 ^ m)) * 2 ^ ((m : Int)).toNat)).length ≤ 256 := by
    rw [val_limbs, Int.toNat_natCast]; exact Nat.le_trans (limbs_length_mono hle2) (by omega)
  have Hq2 := Lib.hid hq2
  have hmb : (m : Int) ≤ 65536 := by omega
  clear hq2 hle hle2 hll
  by_cases hlt : bits (val xs) < n
  rotate_left
  · have hme : m = n := by rw [hm, if_neg hlt]
    clear hm
    subst hme
    go_enter Tryz.func188, Tryz.ntmps188
    go_wp2_with fail
    refine hB.out.mono ?_
    rintro e w1 ⟨rfl, rfl⟩
    go_wp2_with fail
    refine hS.out.mono ?_
    rintro e w2 ⟨a2, c2, rfl, h3, h4, h5, h6⟩
    go_wp2_with fail
    refine (roshl_any a2 _ c2 _ _ h5 hq h3 h4 (by omega) hmb Hq2.out).mono ?_
    rintro e w3 ⟨a3, c3, rfl, k3, k4, k5, k6⟩
    rw [val_limbs, Int.toNat_natCast] at k3 k5 ⊢
    go_wp2_with fail
    refine (cmp_any a3 a _ xs c3 c _ k5 (hx.kp (h6.trans k6)) k3 hxc k4 hc).mono ?_
    rintro e w4 ⟨rfl, k7⟩
    rw [val_limbs]
    go_wp2_with fail
    go_ret2
    exact ⟨a2, c2, rfl, h3, h4, (h5.kp k6).kp k7, (h6.trans k6).trans k7⟩
  have hme : m = bits (val xs) := by rw [hm, if_pos hlt]
  clear hm
  subst hme
  go_enter Tryz.func188, Tryz.ntmps188
  go_wp2_with fail
  refine hB.out.mono ?_
  rintro e w1 ⟨rfl, rfl⟩
  go_wp2_with fail
  refine hB.out.mono ?_
  rintro e w1 ⟨rfl, rfl⟩
  go_wp2_with fail
  refine hS.out.mono ?_
  rintro e w2 ⟨a2, c2, rfl, h3, h4, h5, h6⟩
  go_wp2_with fail
  refine (roshl_any a2 _ c2 _ _ h5 hq h3 h4 (by omega) hmb Hq2.out).mono ?_
  rintro e w3 ⟨a3, c3, rfl, k3, k4, k5, k6⟩
  rw [val_limbs, Int.toNat_natCast] at k3 k5 ⊢
  go_wp2_with fail
  refine (cmp_any a3 a _ xs c3 c _ k5 (hx.kp (h6.trans k6)) k3 hxc k4 hc).mono ?_
  rintro e w4 ⟨rfl, k7⟩
  rw [val_limbs]
  go_wp2_with fail
  go_ret2
  exact ⟨a2, c2, rfl, h3, h4, (h5.kp k6).kp k7, (h6.trans k6).trans k7⟩
def rdOf (d : Dy) (a : Option Addr) (c : Nat) : RD := ⟨d.neg, a, limbs d.m, c, d.e⟩
theorem rdOf_dy (d : Dy) (a : Option Addr) (c : Nat) : (rdOf d a c).dy = d := by unfold rdOf RD.dy; rw [val_limbs]
theorem rdOf_vl {d : Dy} (h : d.ok) (a : Option Addr) (c : Nat) : (rdOf d a c).vl = true := ok_vld h
theorem rdOf_rd {w : World} {d : Dy} {a : Option Addr} {c : Nat} (hd : d.ok) (h : Rd w a (limbs d.m)) (hc : (limbs d.m).length ≤ c) (hm : c ≤ maxLen) : (rdOf d a c).rd w := ⟨h, hc, hm, by have := ok_len hd; show (limbs d.m).length ≤ 1100000; omega, ok_I64 hd⟩
theorem rdOf_ok {w : World} {d : Dy} {a : Option Addr} {c : Nat} (hd : d.ok) (h : Rd w a (limbs d.m)) (hc : (limbs d.m).length ≤ c) (hm : c ≤ maxLen) : (rdOf d a c).ok w := ⟨rdOf_rd hd h hc hm, rdOf_vl hd a c⟩
theorem rdok_dy {w : World} {x : RD} (h : x.ok w) : x.dy.ok := (vld_ok h.1.1.lt32 h.2).1
theorem rdok_limbs {w : World} {x : RD} (h : x.ok w) : limbs x.dy.m = x.xs := RD.limbs h.1 h.2
theorem rdok_len {w : World} {x : RD} (h : x.ok w) : x.xs.length ≤ 128 := by have := ok_len (rdok_dy h); rwa [rdok_limbs h] at this
theorem rdok_e {w : World} {x : RD} (h : x.ok w) : -16384 ≤ x.e ∧ x.e ≤ 16384 := ok_e (rdok_dy h)
theorem RD.ok.drew {w : World} {x : RD} (h : x.ok w) : x.ok w.drew := h.kp (Kp.refl w).drew
theorem rdok_zero {w : World} {x : RD} (h : x.ok w) : x.xs.length = 0 ↔ x.dy.m = 0 := by
  rw [← rdok_limbs h, List.length_eq_zero_iff, limbs_eq_nil]
def NumOut (w : World) (d : Dy) (e : Ending) (w' : World) : Prop := ∃ y : RD, e = .returned (.agg #[.bool y.neg, .slice y.a y.xs.length y.c, .int .i64 y.e]) ∧ y.rd w' ∧ y.dy = d ∧ (d.ok → y.vl = true) ∧ Kp w w'
def NumE (w : World) (d : Dy) (f : Int) (e : Ending) (w' : World) : Prop := ∃ y : RD, e = .returned (.tuple #[.agg #[.bool y.neg, .slice y.a y.xs.length y.c, .int .i64 y.e], .int .i64 f]) ∧ y.rd w' ∧ y.dy = d ∧ (d.ok → y.vl = true) ∧ Kp w w'
def rdZero : RD := ⟨false, none, [], 0, 0⟩
theorem rdZero_rd (w : World) : rdZero.rd w := ⟨Rd.nil _ _, Nat.le_refl _, by show 0 ≤ maxLen; exact Nat.zero_le _, by unfold rdZero; simp, ⟨by unfold rdZero; simp, by unfold rdZero; simp⟩⟩
theorem rdZero_vl : rdZero.vl = true := by
  have := rdOf_vl Dy.ok_zero none 0
  unfold rdOf at this
  rw [show Dy.zero.m = 0 from rfl, limbs_zero] at this
  exact this
theorem numE_zero {w w' : World} {f : Int} {e : Ending} (he : e = .returned (.tuple #[.agg #[.bool false, .slice none 0 0, .int .i64 0], .int .i64 f])) (hk : Kp w w') : NumE w .zero f e w' :=
  ⟨rdZero, he, rdZero_rd _, rfl, fun _ => rdZero_vl, hk⟩
theorem numOut_zero {w w' : World} {e : Ending} (he : e = .returned (.agg #[.bool false, .slice none 0 0, .int .i64 0])) (hk : Kp w w') : NumOut w .zero e w' :=
  ⟨rdZero, he, rdZero_rd _, rfl, fun _ => rdZero_vl, hk⟩

theorem set3x {w : World} {g b : Nat} (n : b ≠ g) {v0 v1 v2 x0 x1 x2 : Value} (h : w.cell? ⟨b, 0, none⟩ = some v0 ∧ w.cell? ⟨b, 1, none⟩ = some v1 ∧ w.cell? ⟨b, 2, none⟩ = some v2) :
    (((w.setCell ⟨g, 0, none⟩ x0).setCell ⟨g, 1, none⟩ x1).setCell ⟨g, 2, none⟩ x2).cell? ⟨b, 0, none⟩ = some v0 ∧ (((w.setCell ⟨g, 0, none⟩ x0).setCell ⟨g, 1, none⟩ x1).setCell ⟨g, 2, none⟩ x2).cell? ⟨b, 1, none⟩ = some v1 ∧ (((w.setCell ⟨g, 0, none⟩ x0).setCell ⟨g, 1, none⟩ x1).setCell ⟨g, 2, none⟩ x2).cell? ⟨b, 2, none⟩ = some v2 := by
  have ne (i j : Nat) : (⟨g, i, none⟩ : Addr) ≠ ⟨b, j, none⟩ := fun e => n (by injection e with e1; exact e1.symm)
  have key (j : Nat) : (((w.setCell ⟨g, 0, none⟩ x0).setCell ⟨g, 1, none⟩ x1).setCell ⟨g, 2, none⟩ x2).cell? ⟨b, j, none⟩ = w.cell? ⟨b, j, none⟩ := by
    rw [cell_set_ne (ne 2 j), cell_set_ne (ne 1 j), cell_set_ne (ne 0 j)]
  simp only [key]
  exact h
set_option maxHeartbeats 2000000 in
theorem Neg_ok (x : RD) (w : World) (h : x.ok w) :
    Calls Tryz.prog 69 #[.agg #[.bool x.neg, .slice x.a x.xs.length x.c, .int .i64 x.e]] w (NumOut w x.dy.opp) := by
  have hlen := rdok_len h
  have he := rdok_e h
  by_cases h0 : x.xs.length = 0
  · have hz : ((x.xs.length : Int) == 0) = true := beq_iff_eq.2 (by omega)
    have H := Lib.hid (show x.dy.opp = .zero by unfold Dy.opp; rw [if_pos ((rdok_zero h).1 h0)])
    clear h0
    go_enter Tryz.func69, Tryz.ntmps69
    go_wp2_with fail
    generalize hW : ((w.alloc _).alloc _) = W at *
    have hk : Kp w W := hW ▸ ((Kp.refl w).alloc _).alloc _
    have hS : W.cell? ⟨w.heap.size, 0, none⟩ = some (.bool x.neg) ∧ W.cell? ⟨w.heap.size, 1, none⟩ = some (.slice x.a x.xs.length x.c) ∧ W.cell? ⟨w.heap.size, 2, none⟩ = some (.int .i64 x.e) := by rw [← hW]; simp
    have hB : Box3 W (w.heap.size + 1) (.bool false) (.slice none 0 0) (.int .i64 0) := hW ▸ Box3.new2 _ _ _ _ _ _
    clear hW
    refine (Valid_rok x _ (h.kp hk)).mono ?_
    rintro e w1 ⟨rfl, hk1⟩
    have hS1 := keep3 hk1 hS
    obtain ⟨q0, q1, q2, f0, f1, f2⟩ := hB.kp hk1
    have hk2 := hk.trans hk1
    clear hS hk hk1 hB
    go_wp2_with fail
    have hst := stored q0 q1 q2 (fun _ h => by cases h) (fun _ h => by cases h) (fun _ h => by cases h) (.bool false) (.slice none 0 0) (.int .i64 0)
    generalize (((w1.setCell _ _).setCell _ _).setCell _ _) = W2 at hst ⊢
    obtain ⟨s0, s1, s2, _, s4, s5, _, _⟩ := hst
    refine bodyPost_ret (v := .agg #[.bool false, .slice none 0 0, .int .i64 0]) (by simp [results, Tryz.results69, go_sem, s0, s1, s2]) rfl ?_
    rw [H.out]
    exact numOut_zero rfl (s5 _ hk2 (by omega))
  have hz : ((x.xs.length : Int) == 0) = false := beq_eq_false_iff_ne.2 (by omega)
  have H := Lib.hid (show x.dy.opp = ⟨!x.neg, val x.xs, x.e⟩ by unfold Dy.opp; rw [if_neg (fun e => h0 ((rdok_zero h).2 e))]; rfl)
  have Hv := Lib.hid (show (x.dy.opp.ok → vld (!x.neg) x.xs x.e = true) from fun hok => by
    have := ok_vld hok
    rwa [H.out, show limbs (Dy.m ⟨!x.neg, val x.xs, x.e⟩) = x.xs from rdok_limbs h] at this)
  clear h0
  go_enter Tryz.func69, Tryz.ntmps69
  go_wp2_with fail
  generalize hW : ((w.alloc _).alloc _) = W at *
  have hk : Kp w W := hW ▸ ((Kp.refl w).alloc _).alloc _
  have hS : W.cell? ⟨w.heap.size, 0, none⟩ = some (.bool x.neg) ∧ W.cell? ⟨w.heap.size, 1, none⟩ = some (.slice x.a x.xs.length x.c) ∧ W.cell? ⟨w.heap.size, 2, none⟩ = some (.int .i64 x.e) := by rw [← hW]; simp
  have hB : Box3 W (w.heap.size + 1) (.bool false) (.slice none 0 0) (.int .i64 0) := hW ▸ Box3.new2 _ _ _ _ _ _
  clear hW
  refine (Valid_rok x _ (h.kp hk)).mono ?_
  rintro e w1 ⟨rfl, hk1⟩
  have hS1 := keep3 hk1 hS
  have hB1 := (hB.kp hk1).kp (Kp.refl w1).drew
  have hk2 := hk.trans hk1
  have hx := (h.kp hk2).drew
  clear hS hk hk1 hB
  go_wp2_with fail
  have hS2 := keep3 (Kp.refl w1).drew hS1
  clear hS1
  go_region_held3 (fun w' => w'.cell? ⟨w.heap.size, 0, none⟩ = some (.bool x.neg) ∧ w'.cell? ⟨w.heap.size, 1, none⟩ = some (.slice x.a x.xs.length x.c) ∧ w'.cell? ⟨w.heap.size, 2, none⟩ = some (.int .i64 x.e)) (first | with_reducible assumption | with_reducible exact keep3 (by assumption) (by assumption) | with_reducible exact set3x (by omega) (by assumption))
    (first
      | (go_at_call 115; refine (clone_any x.a x.xs x.c _ hx.1.1 (by omega)).mono ?_; rintro e w4 ⟨a4, c4, rfl, r4, l4, m4, hk4⟩; obtain ⟨q0, q1, q2, f0, f1, f2⟩ := hB1.kp hk4))
  have hk5 := hk2.drew.trans hk4
  have hxs := hx.1.1.lt32
  clear hS2 hB1 hx
  have hst := stored q0 q1 q2 (fun _ h => by cases h) (fun _ h => by cases h) (fun _ h => by cases h) (.bool !x.neg) (.slice a4 x.xs.length c4) (.int .i64 x.e)
  go_wp2_with fail
  generalize (((w4.setCell _ _).setCell _ _).setCell _ _) = W2 at hst ⊢
  obtain ⟨s0, s1, s2, _, s4, s5, _, _⟩ := hst
  refine bodyPost_ret (v := .agg #[.bool (RD.mk (!x.neg) a4 x.xs c4 x.e).neg, .slice (RD.mk (!x.neg) a4 x.xs c4 x.e).a (RD.mk (!x.neg) a4 x.xs c4 x.e).xs.length (RD.mk (!x.neg) a4 x.xs c4 x.e).c, .int .i64 (RD.mk (!x.neg) a4 x.xs c4 x.e).e]) (by simp [results, Tryz.results69, go_sem, s0, s1, s2]) rfl ?_
  exact ⟨RD.mk (!x.neg) a4 x.xs c4 x.e, rfl, ⟨s4 _ _ r4, l4, m4, by show x.xs.length ≤ 1100000; omega, ⟨by show _ ≤ x.e; omega, by show x.e ≤ _; omega⟩⟩, H.out.symm, Hv.out, s5 _ hk5 (by omega)⟩
end Go.Proofs.YtpocjagbhiahdaaGreatDoor
