/-
  Walks: slices.IndexFunc, slices.ContainsFunc.
  Walks: natural.long, done.
  Walks: bits.Add32, bits.Sub32, natural.add, natural.sub.
-/
import Derived.Test.YtkohlmlmoapedaaDoorMBase
import Derived.Deep.DeepCutAuto
section
namespace Go.Proofs.YtkohlmlmoapedaaDoor
open Go.RowKit

/-- the first index at which p answers true; -1 if there is none -/
def idxP (p : Nat → Bool) (n : Nat) : Int := match (List.range n).find? p with | some i => (i : Int) | none => -1
theorem idxP_none {p : Nat → Bool} {n : Nat} (h : ∀ i, i < n → p i = false) : idxP p n = -1 := by
  unfold idxP
  have : (List.range n).find? p = none := by
    rw [List.find?_eq_none]; intro i hi; rw [h i (List.mem_range.1 hi)]; decide
  rw [this]
theorem idxP_some {p : Nat → Bool} {n k : Nat} (hk : k < n) (hp : p k = true) (h : ∀ i, i < k → p i = false) : idxP p n = k := by
  unfold idxP
  have : (List.range n).find? p = some k := by
    rw [List.find?_range_eq_some]
    refine ⟨hp, List.mem_range.2 hk, fun j hj => ?_⟩
    rw [h j hj]; decide
  rw [this]
/-- is there an index at which p answers true? -/
def anyP (p : Nat → Bool) (n : Nat) : Bool := (List.range n).any p
theorem anyP_false {p : Nat → Bool} {n : Nat} : anyP p n = false ↔ ∀ i, i < n → p i = false := by
  unfold anyP; rw [List.any_eq_false]
  constructor
  · intro h i hi; simpa using h i (List.mem_range.2 hi)
  · intro h i hi; rw [h i (List.mem_range.1 hi)]; decide
theorem anyP_true {p : Nat → Bool} {n : Nat} : anyP p n = true ↔ ∃ i, i < n ∧ p i = true := by
  unfold anyP; rw [List.any_eq_true]
  exact ⟨fun ⟨i, h1, h2⟩ => ⟨i, List.mem_range.1 h1, h2⟩, fun ⟨i, h1, h2⟩ => ⟨i, List.mem_range.2 h1, h2⟩⟩
theorem anyP_idx (p : Nat → Bool) (n : Nat) : decide (0 ≤ idxP p n) = anyP p n := by
  by_cases h : ∀ i, i < n → p i = false
  · rw [idxP_none h, anyP_false.2 h]; decide
  · have h' : ∃ i, i < n ∧ p i = true := by
      apply Classical.byContradiction; intro hn; apply h; intro i hi
      cases hp : p i with
      | false => rfl
      | true => exact absurd ⟨i, hi, hp⟩ hn
    rw [anyP_true.2 h']
    unfold idxP
    split
    · simp
    · next hnone =>
      rw [List.find?_eq_none] at hnone
      obtain ⟨i, hi, hp⟩ := h'
      exact absurd hp (hnone i (List.mem_range.2 hi))

/-- the function g with the captured values cap answers p i at each of the elements ev i, in whatever later world, and keeps all that was there -/
def Ans (P : Program) (g : FuncId) (cap : Array Value) (w : World) (n : Nat) (ev : Nat → Value) (p : Nat → Bool) : Prop :=
  Enters P g ∧ ∀ i, i < n → ∀ w1, Kp w w1 → Calls P g (#[ev i] ++ cap) w1 fun e w2 => e = .returned (.bool (p i)) ∧ Kp w1 w2

set_option maxHeartbeats 400000 in
theorem idx_lists (a : Option Addr) (n c : Nat) (g : FuncId) (cap : Array Value) (w : World) (ev : Nat → Value) (p : Nat → Bool) (hm : n ≤ maxLen)
    (hev : ∀ i, i < n → ∃ b o, a = some ⟨b, o, none⟩ ∧ w.cell? ⟨b, o + i, none⟩ = some (ev i))
    (hp : Ans Tryd.prog g cap w n ev p) :
    Calls Tryd.prog 104 #[.slice a n c, .func (.func g) #[] cap] w fun e w' => e = .returned (.int .i64 (idxP p n)) ∧ Kp w w' := by
  unfold maxLen at hm
  go_enter Tryd.func104, Tryd.ntmps104
  go_wp2
  go_loopw [8] (fun x wr => ∃ k : Nat, k ≤ n ∧ x = .int .i64 k ∧ (∀ i, i < k → p i = false) ∧ Kp w wr) (fun x _ => n - (intOf x).toNat)
  case atStart => exact ⟨0, by omega, rfl, fun i h1 => by omega, .refl _⟩
  case round =>
    obtain ⟨k, hk, rfl, hz, hkp⟩ := hrel
    have Hz := Lib.hid hz; clear hz
    by_cases hlt : k < n
    · obtain ⟨b, o, rfl, hcell⟩ := hev k hlt
      have hc1 := hkp.cell hcell
      clear hcell hev
      have hgo : ∀ args w, (callFunc g args).run Tryd.prog w = .ok (.enter g args) w := hp.1
      have hcall := hp.2 k hlt wr hkp
      clear hp
      cases hq : p k with
      | true =>
        rw [hq] at hcall
        have Hc := Lib.hid hcall
        have Hq := Lib.hid hq
        clear hcall hq
        go_wp2_with (refine Hc.out.mono ?_; rintro e w2 ⟨rfl, hk2⟩)
        go_ret
        exact ⟨by rw [idxP_some hlt Hq.out Hz.out]; rfl, hkp.trans hk2⟩
      | false =>
        rw [hq] at hcall
        have Hc := Lib.hid hcall
        have Hq := Lib.hid hq
        clear hcall hq
        go_wp2_with (refine Hc.out.mono ?_; rintro e w2 ⟨rfl, hk2⟩)
        go_roundw
        case rel =>
          refine ⟨k + 1, by omega, by go_num, fun i hi => ?_, hkp.trans hk2⟩
          by_cases h : i = k
          · rw [h]; exact Hq.out
          · exact Hz.out i (by omega)
        case measure => simp [intOf]; omega
    · have := idxP_none (p := p) (n := n) (fun i hi => Hz.out i (by omega))
      have Hthis := Lib.hid this; clear this
      go_wp2
      go_ret
      exact ⟨by rw [Hthis.out]; rfl, hkp⟩

set_option maxHeartbeats 400000 in
theorem has_lists (a : Option Addr) (n c : Nat) (g : FuncId) (cap : Array Value) (w : World) (ev : Nat → Value) (p : Nat → Bool) (hm : n ≤ maxLen)
    (hev : ∀ i, i < n → ∃ b o, a = some ⟨b, o, none⟩ ∧ w.cell? ⟨b, o + i, none⟩ = some (ev i))
    (hp : Ans Tryd.prog g cap w n ev p) :
    Calls Tryd.prog 100 #[.slice a n c, .func (.func g) #[] cap] w fun e w' => e = .returned (.bool (anyP p n)) ∧ Kp w w' := by
  have Hc := Lib.hid (idx_lists a n c g cap w ev p hm hev hp)
  have Ha := Lib.hid (anyP_idx p n)
  clear hev hp hm
  go_enter Tryd.func100, Tryd.ntmps100
  go_wp2_with (refine Hc.out.mono ?_; rintro e w2 ⟨rfl, hk2⟩)
  go_ret
  exact ⟨by rw [← Ha.out]; rfl, hk2⟩
end Go.Proofs.YtkohlmlmoapedaaDoor
end

section
namespace Go.Proofs.YtkohlmlmoapedaaDoor
open Go.RowKit

theorem enters149 : Enters Tryd.prog 101 := fun _ _ => by kernel_rfl

set_option maxHeartbeats 400000 in
theorem long1_any (a : Option Addr) (n c : Nat) (w : World) (hm : n ≤ maxLen) :
    Calls Tryd.prog 101 #[.slice a n c] w fun e w' => e = .returned (.bool (decide (256 < n))) ∧ w = w' := by
  unfold maxLen at hm
  go_enter Tryd.func101, Tryd.ntmps101
  go_wp2
  go_ret
  exact ⟨ret_bool (by simp; omega), rfl⟩

def lenBig (nv : Nat → Nat) (i : Nat) : Bool := decide (256 < nv i)

set_option maxHeartbeats 400000 in
theorem long_any (a : Option Addr) (n c : Nat) (av : Nat → Option Addr) (nv cv : Nat → Nat) (w : World) (hm : n ≤ maxLen) (hn : ∀ i, i < n → nv i ≤ maxLen)
    (hev : ∀ i, i < n → ∃ b o, a = some ⟨b, o, none⟩ ∧ w.cell? ⟨b, o + i, none⟩ = some (.slice (av i) (nv i) (cv i))) :
    Calls Tryd.prog 92 #[.slice a n c] w fun e w' => e = .returned (.bool (anyP (lenBig nv) n)) ∧ Kp w w' := by
  have Hc := Lib.hid (has_lists a n c 101 #[] w (fun i => .slice (av i) (nv i) (cv i)) (lenBig nv) hm hev
    ⟨enters149, fun i hi w1 _ => (long1_any (av i) (nv i) (cv i) w1 (hn i hi)).mono fun e w2 ⟨h1, h2⟩ => ⟨h1, h2 ▸ .refl _⟩⟩)
  clear hev hn hm
  go_enter Tryd.func92, Tryd.ntmps92
  go_wp2_with (refine Hc.out.mono ?_; rintro e w2 ⟨rfl, hk2⟩)
  go_ret
  exact ⟨rfl, hk2⟩


theorem anyP_one (p : Nat → Bool) : anyP p 1 = p 0 := by unfold anyP; simp [List.range_succ]
theorem anyP_two (p : Nat → Bool) : anyP p 2 = (p 0 || p 1) := by unfold anyP; simp [List.range_succ]

set_option maxHeartbeats 400000 in
theorem clip_any (a : Option Addr) (n c : Nat) (w : World) (hn : n ≤ c) (_hm : c ≤ maxLen) :
    Calls Tryd.prog 78 #[.slice a n c] w fun e w' => e = .returned (.slice a n n) ∧ w = w' := by
  go_enter Tryd.func78, Tryd.ntmps78
  go_wp2
  go_ret
  exact ⟨rfl, rfl⟩

/-- what natural hands back: the limbs of a number, or nothing and an error -/
def Nat2 (w : World) (v : Nat) (f : Int) (e : Ending) (w' : World) : Prop :=
  ∃ a c, e = .returned (.tuple #[.slice a (limbs v).length c, .int .i64 f]) ∧ (limbs v).length ≤ c ∧ c ≤ maxLen ∧ Rd w' a (limbs v) ∧ Kp w w'

theorem nat2_intro {w w' : World} {v : Nat} {f : Int} {e : Ending} (a : Option Addr) (n c : Nat) (he : e = .returned (.tuple #[.slice a n c, .int .i64 f])) (hn : n = (limbs v).length) (hc : n ≤ c) (hm : c ≤ maxLen) (hr : Rd w' a (limbs v)) (hk : Kp w w') : Nat2 w v f e w' := by
  subst hn; exact ⟨a, c, he, hc, hm, hr, hk⟩

set_option maxHeartbeats 400000 in
theorem long_one (a : Option Addr) (n c g : Nat) (w : World) (hn : n ≤ 256) (hcell : w.cell? ⟨g, 0, none⟩ = some (.slice a n c)) :
    Calls Tryd.prog 92 #[.slice (some ⟨g, 0, none⟩) 1 1] w fun e w' => e = .returned (.bool false) ∧ Kp w w' := by
  have h := long_any (some ⟨g, 0, none⟩) 1 1 (fun _ => a) (fun _ => n) (fun _ => c) w (by decide) (fun _ _ => by unfold maxLen; omega) (fun i hi => ⟨g, 0, rfl, by rw [show i = 0 by omega]; exact hcell⟩)
  refine h.mono fun e w' ⟨h1, h2⟩ => ⟨?_, h2⟩
  rw [h1, anyP_one]
  exact ret_bool (decide_eq_false (show ¬ 256 < n by omega))
set_option maxHeartbeats 400000 in
theorem long_two (a a2 : Option Addr) (n c n2 c2 g : Nat) (w : World) (hn : n ≤ 256) (hn2 : n2 ≤ 256) (hcell : w.cell? ⟨g, 0, none⟩ = some (.slice a n c)) (hcell2 : w.cell? ⟨g, 1, none⟩ = some (.slice a2 n2 c2)) :
    Calls Tryd.prog 92 #[.slice (some ⟨g, 0, none⟩) 2 2] w fun e w' => e = .returned (.bool false) ∧ Kp w w' := by
  have h := long_any (some ⟨g, 0, none⟩) 2 2 (fun i => if i = 0 then a else a2) (fun i => if i = 0 then n else n2) (fun i => if i = 0 then c else c2) w (by decide) (fun i _ => by unfold maxLen; split <;> omega) (fun i hi => ⟨g, 0, rfl, by
    rcases (show i = 0 ∨ i = 1 by omega) with rfl | rfl
    · exact hcell
    · exact hcell2⟩)
  refine h.mono fun e w' ⟨h1, h2⟩ => ⟨?_, h2⟩
  rw [h1, anyP_two]
  refine ret_bool ?_
  unfold lenBig
  simp; omega

set_option maxHeartbeats 400000 in
theorem done_ok (a : Option Addr) (xs : List Nat) (c : Nat) (w : World) (h : Rd w a xs) (hc : xs.length ≤ c) (hm : c ≤ maxLen) (hv : (limbs (val xs)).length ≤ 256) :
    Calls Tryd.prog 93 #[.slice a xs.length c] w (Nat2 w (val xs) 0) := by
  have H1 := Lib.hid (trim_any a xs c w h hc hm)
  have hl := limbs_len_le h.lt32
  have hr := h.limbs
  generalize hn : (limbs (val xs)).length = n at *
  have Hn := Lib.hid hn; clear hn
  go_enter Tryd.func93, Tryd.ntmps93
  go_wp2_with fail
  refine H1.out.mono ?_
  rintro e w2 ⟨rfl, rfl⟩
  go_wp2_with fail
  refine (long_one a n c _ _ hv (by simp)).mono ?_
  rintro e w3 ⟨rfl, hk⟩
  go_wp2_with fail
  refine (clip_any a n c _ (by omega) hm).mono ?_
  rintro e w4 ⟨rfl, rfl⟩
  go_wp2_with fail
  go_ret2
  have hk2 : Kp w w3 := ((Kp.refl w).alloc _).trans hk
  exact nat2_intro a n n rfl Hn.out.symm (Nat.le_refl _) (by omega) (hr.kp hk2) hk2
end Go.Proofs.YtkohlmlmoapedaaDoor
end

section
namespace Go.Proofs.YtkohlmlmoapedaaDoor
open Go.RowKit

theorem ret_two32 {a b c d : Int} (h : a = c) (h2 : b = d) : Ending.returned (.tuple #[.int .u32 a, .int .u32 b]) = .returned (.tuple #[.int .u32 c, .int .u32 d]) := by rw [h, h2]

set_option maxHeartbeats 400000 in
theorem add32_any (x y c : Int) (w : World) (hx0 : 0 ≤ x) (hx : x < 4294967296) (hy0 : 0 ≤ y) (hy : y < 4294967296) (hc0 : 0 ≤ c) (hc : c ≤ 1) :
    Calls Tryd.prog 102 #[.int .u32 x, .int .u32 y, .int .u32 c] w fun e w' =>
      e = .returned (.tuple #[.int .u32 ((x + y + c) % 4294967296), .int .u32 ((x + y + c) / 4294967296)]) ∧ w = w' := by
  go_enter Tryd.func102, Tryd.ntmps102
  go_wp2
  go_ret2
  exact ⟨rfl, rfl⟩

/-- a new slice that shows limbs of the number v, n of them -/
def MadeV (w : World) (v n : Nat) (e : Ending) (w' : World) : Prop :=
  ∃ g zs, e = .returned (.slice (some ⟨g, 0, none⟩) n n) ∧ zs.length = n ∧ val zs = v ∧ Rd w' (some ⟨g, 0, none⟩) zs ∧ Kp w w'

set_option maxHeartbeats 1000000 in
theorem add_any (a b : Option Addr) (xs ys : List Nat) (c d : Nat) (w : World) (hx : Rd w a xs) (hy : Rd w b ys) (hxl : xs.length ≤ 1000) (hyl : ys.length ≤ 1000) :
    Calls Tryd.prog 97 #[.slice a xs.length c, .slice b ys.length d] w (MadeV w (val xs + val ys) (max xs.length ys.length + 1)) := by
  go_enter Tryd.func97, Tryd.ntmps97
  go_upto_if 14 with fail
  go_cut [0, 1] (fun x y wx => wx = w ∧ ∃ a1 a2 xs1 xs2 c1 c2, x = .slice a1 xs1.length c1 ∧ y = .slice a2 xs2.length c2 ∧ Rd w a1 xs1 ∧ Rd w a2 xs2 ∧ xs2.length ≤ xs1.length ∧ xs1.length ≤ 1000 ∧ val xs1 + val xs2 = val xs + val ys ∧ max xs.length ys.length = xs1.length)
  case first =>
    go_wp2
    · go_meet
      case rel => exact ⟨rfl, b, a, ys, xs, d, c, rfl, rfl, hy, hx, by omega, hyl, by omega, by omega⟩
    · go_meet
      case rel => exact ⟨rfl, a, b, xs, ys, c, d, rfl, rfl, hx, hy, by omega, hxl, rfl, by omega⟩
  case rest =>
    obtain ⟨rfl, a1, a2, xs1, ys1, c1, c2, rfl, rfl, h1, h2, hle, hl, hv, hmax⟩ := hcut
    have Hv := Lib.hid hv
    have Hmax := Lib.hid hmax
    clear hv hmax hx hy hxl hyl
    have hmk := make_u32 ((xs1.length : Int) + 1) (xs1.length + 1) (by omega) (by omega)
    go_wp2
    clear hmk
    go_loopw [6, 23] (fun cy ix wr => ∃ (k c : Nat) (zs : List Nat), k ≤ xs1.length ∧ ix = .int .i64 k ∧ cy = .int .u32 c ∧ c ≤ 1 ∧ zs.length = xs1.length + 1 ∧ Blk wr wc.heap.size zs ∧ Lt32 zs ∧
      val (zs.take k) + 4294967296 ^ k * c = val (xs1.take k) + val (ys1.take k) ∧ Kp wc wr) (fun _ ix _ => xs1.length - (intOf ix).toNat)
    case atStart => exact ⟨0, 0, _, Nat.zero_le _, rfl, rfl, by omega, by simp, Blk.made _ _, .replicate _, by simp [val], (Kp.refl _).alloc _⟩
    case round =>
      obtain ⟨k, cy, zs, hk, rfl, rfl, hcy, hzl, hb, hz32, hvz, hkp⟩ := hrel
      have Hvz := Lib.hid hvz
      have Hzl := Lib.hid hzl
      clear hvz
      by_cases hlt : k < xs1.length
      · obtain ⟨b1, o1, rfl, hcx⟩ := (h1.kp hkp).some hlt
        have hx1 := hcx k hlt
        have bx := h1.lt32.nth k
        have by' := h2.lt32.nth k
        have hs1 := hb.cell (i := k) (by omega)
        have hs2 := hb.frozen k
        clear hcx
        by_cases hlt2 : k < ys1.length
        · obtain ⟨b2, o2, rfl, hcy2⟩ := (h2.kp hkp).some hlt2
          have hy1 := hcy2 k hlt2
          clear hcy2
          go_wp2_with fail
          refine (add32_any _ _ _ _ (by omega) (by omega) (by omega) (by omega) (by omega) (by omega)).mono ?_
          rintro e w2 ⟨rfl, rfl⟩
          go_wp2_with fail
          go_roundw
          case rel =>
            refine ⟨k + 1, (nth xs1 k + nth ys1 k + cy) / 4294967296, zs.set k ((nth xs1 k + nth ys1 k + cy) % 4294967296), by omega, by go_num, by congr 1, by omega, by simp [Hzl.out], hb.put (by omega), hz32.set _ _ (by omega), add_step (by omega) Hvz.out, hkp.set (Nat.le_refl _) _⟩
          case measure => simp [intOf]; omega
        · go_wp2_with fail
          refine (add32_any _ _ _ _ (by omega) (by omega) (by omega) (by omega) (by omega) (by omega)).mono ?_
          rintro e w2 ⟨rfl, rfl⟩
          go_wp2_with fail
          have hny : nth ys1 k = 0 := nth_ge (by omega)
          go_roundw
          case rel =>
            refine ⟨k + 1, (nth xs1 k + nth ys1 k + cy) / 4294967296, zs.set k ((nth xs1 k + nth ys1 k + cy) % 4294967296), by omega, by go_num, by congr 1; omega, by omega, by simp [Hzl.out], hb.put (by omega), hz32.set _ _ (by omega), add_step (by omega) Hvz.out, hkp.set (Nat.le_refl _) _⟩
          case measure => simp [intOf]; omega
      · have hs1 := hb.cell (i := xs1.length) (by omega)
        have hs2 := hb.frozen xs1.length
        go_wp2
        go_ret
        have hke : k = xs1.length := by omega
        have e1 := val_set_last (c := cy) Hzl.out
        have e2 := Hvz.out
        rw [hke, List.take_of_length_le (Nat.le_refl _), List.take_of_length_le hle, ← e1, Hv.out] at e2
        exact ⟨wc.heap.size, zs.set xs1.length cy, by rw [Hmax.out]; rfl, by simp [Hzl.out, Hmax.out], e2, (hb.put rfl).rd (hz32.set _ _ (by omega)), hkp.set (Nat.le_refl _) _⟩
end Go.Proofs.YtkohlmlmoapedaaDoor
end
