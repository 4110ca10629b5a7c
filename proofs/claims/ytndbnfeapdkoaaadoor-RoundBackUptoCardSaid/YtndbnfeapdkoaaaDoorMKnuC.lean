/-
  Walks: natural.take.
-/
import Derived.Test.YtndbnfeapdkoaaaDoorMDivR
import Derived.Test.YtndbnfeapdkoaaaDoorMR3C
namespace Go.Proofs.YtndbnfeapdkoaaaDoor
open Go.RowKit

/-- one limb of a product taken away -/
theorem take_step {zs ws vs : List Nat} {k q c o s z o' : Nat} (hk : k < zs.length) (h : val (zs.take k) + q * val (vs.take k) = val (ws.take k) + 4294967296 ^ k * (c + o))
    (hs : s = q * nth vs k + c) (hz : z + s % 4294967296 + o = nth ws k + 4294967296 * o') :
    val ((zs.set k z).take (k + 1)) + q * val (vs.take (k + 1)) = val (ws.take (k + 1)) + 4294967296 ^ (k + 1) * (s / 4294967296 + o') := by
  rw [val_take_set hk, val_take_step, val_take_step, Nat.pow_succ, Nat.mul_add q]
  have h1 := Nat.div_add_mod s 4294967296
  have e1 : q * (4294967296 ^ k * nth vs k) = 4294967296 ^ k * (q * nth vs k) := by rw [← Nat.mul_assoc, Nat.mul_comm q, Nat.mul_assoc]
  have e2 : 4294967296 ^ k * (c + o) + 4294967296 ^ k * z + 4294967296 ^ k * (q * nth vs k) = 4294967296 ^ k * nth ws k + 4294967296 ^ k * 4294967296 * (s / 4294967296 + o') := by
    rw [Nat.mul_assoc (4294967296 ^ k) 4294967296, ← Nat.mul_add, ← Nat.mul_add, ← Nat.mul_add]
    congr 1
    omega
  omega
theorem take_last {zs ws vs : List Nat} {q c o z b : Nat} (hl : ws.length = vs.length + 1) (hzl : zs.length = ws.length) (h : val (zs.take vs.length) + q * val (vs.take vs.length) = val (ws.take vs.length) + 4294967296 ^ vs.length * (c + o))
    (hz : z + c + o = nth ws vs.length + 4294967296 * b) : val (zs.set vs.length z) + q * val vs = val ws + 4294967296 ^ ws.length * b := by
  rw [List.take_of_length_le (Nat.le_refl _)] at h
  have h1 := val_take_step ws vs.length
  rw [List.take_of_length_le (by omega : ws.length ≤ vs.length + 1)] at h1
  rw [val_set_last (by omega), h1, hl, Nat.pow_succ]
  generalize 4294967296 ^ vs.length = P at *
  have e : P * z + P * (c + o) = P * nth ws vs.length + P * 4294967296 * b := by
    rw [Nat.mul_assoc, ← Nat.mul_add, ← Nat.mul_add]
    congr 1
    omega
  omega
/-- the limb that is left -/
theorem take_limb {u d o : Nat} (hu : u < 4294967296) (hd : d ≤ 4294967295) (ho : o ≤ 1) :
    ∃ z b : Nat, IntKind.u64.wrap (IntKind.u64.wrap ((u : Int) - d) - o) % 4294967296 = (z : Int) ∧ IntKind.u64.wrap (IntKind.u64.wrap ((u : Int) - d) - o) / 9223372036854775808 = (b : Int) ∧ z < 4294967296 ∧ b ≤ 1 ∧ z + d + o = u + 4294967296 * b := by
  rw [IntKind.wrap_u64, IntKind.wrap_u64]
  by_cases h : u < d + o
  · exact ⟨u + 4294967296 - d - o, 1, by omega, by omega, by omega, by omega, by omega⟩
  · exact ⟨u - d - o, 0, by omega, by omega, by omega, by omega, by omega⟩
theorem low32 {x : Int} {s : Nat} (e : x = s) (hs : s < 18446744073709551616) : Go.bits BinOp.and IntKind.u64 x 4294967295 = ((s % 4294967296 : Nat) : Int) := by
  subst e
  have h := bits_and_u64_nat s 4294967295 hs (by omega)
  rw [show s &&& 4294967295 = s % 4294967296 from Nat.and_two_pow_sub_one_eq_mod s 32] at h
  exact h
/-- what is left of ws when q times vs was taken -/
def TakeOut (w : World) (g : Nat) (pre ws post : List Nat) (q V : Nat) (e : Ending) (w' : World) : Prop :=
  ∃ (b : Nat) (zs : List Nat), e = .returned (.bool (decide (b = 1))) ∧ b ≤ 1 ∧ zs.length = ws.length ∧ Lt32 zs ∧ val zs + q * V = val ws + 4294967296 ^ ws.length * b ∧ Pre w' g (pre ++ zs ++ post) ∧ Mod g w w'
set_option maxRecDepth 100000 in
set_option maxHeartbeats 4000000 in
theorem take_any (g c b o d : Nat) (pre ws post vs : List Nat) (q : Nat) (w : World) (hu : Pre w g (pre ++ ws ++ post)) (hw : Lt32 ws) (hl : ws.length = vs.length + 1) (hv : Rd w (some ⟨b, o, none⟩) vs) (hb : b ≠ g) (hq : q ≤ 4294967295)
    (hll : pre.length + ws.length ≤ 1000) :
    Calls Tryd.prog 94 #[.slice (some ⟨g, pre.length, none⟩) (vs.length + 1) c, .slice (some ⟨b, o, none⟩) vs.length d, .int .u64 (q : Nat)] w (TakeOut w g pre ws post q (val vs)) := by
  have Hl := Lib.hid hl
  have Hb := Lib.hid hb
  have hwl : ws.length ≤ 1000 := by omega
  have hvl : vs.length ≤ 1000 := by omega
  have hpl : pre.length ≤ 1000 := by omega
  clear hl hb hll
  go_enter Tryd.func94, Tryd.ntmps94
  go_wp2_with fail
  go_loopw [7, 8, 16] (fun cy bo ix wr => ∃ (k cv ov : Nat) (zs : List Nat), k ≤ vs.length ∧ ix = .int .i64 k ∧ cy = .int .u64 (cv : Nat) ∧ bo = .int .u64 (ov : Nat) ∧ cv ≤ 4294967295 ∧ ov ≤ 1 ∧ zs.length = ws.length ∧ Lt32 zs ∧
      (∀ i, k ≤ i → nth zs i = nth ws i) ∧ val (zs.take k) + q * val (vs.take k) = val (ws.take k) + 4294967296 ^ k * (cv + ov) ∧ Pre wr g (pre ++ zs ++ post) ∧ Mod g w wr) (fun _ _ ix _ => vs.length - (intOf ix).toNat)
  case atStart => exact ⟨0, 0, 0, ws, Nat.zero_le _, rfl, rfl, rfl, by decide, by decide, rfl, hw, fun _ _ => rfl, by simp [val], hu, .refl _ _⟩
  case round =>
    obtain ⟨k, cv, ov, zs, hk, rfl, rfl, rfl, hcv, hov, hzl, hz32, hsame, hvz, hpre, hmod⟩ := hrel
    have Hvz := Lib.hid hvz
    have Hzl := Lib.hid hzl
    have Hsm := Lib.hid hsame
    have hzl1 : zs.length ≤ 1000 := by omega
    clear hvz hsame
    by_cases hlt : k < vs.length
    · obtain ⟨b1, o1, e, hcx⟩ := (hmod.rd Hb.out hv).some hlt
      cases e
      have hx1 := hcx k hlt
      have bx := hv.lt32.nth k
      have hs1 := hpre.at (i := k) (by have := Hl.out; omega)
      have hs2 := hpre.frozen (pre.length + k)
      have bz := hz32.nth k
      have hp1 : (q : Int) * nth vs k ≤ 18446744065119617025 := by
        have : q * nth vs k ≤ 4294967295 * 4294967295 := Nat.mul_le_mul hq (by omega)
        have : ((q * nth vs k : Nat) : Int) ≤ ((4294967295 * 4294967295 : Nat) : Int) := by exact_mod_cast this
        simpa using this
      have hp0 : 0 ≤ (q : Int) * nth vs k := Int.mul_nonneg (by omega) (by omega)
      obtain ⟨sm, hsm⟩ : ∃ sm, sm = q * nth vs k + cv := ⟨_, rfl⟩
      have hse : (q : Int) * nth vs k + cv = (sm : Int) := by rw [hsm, Int.natCast_add, Int.natCast_mul]
      have hsl : sm < 18446744073709551616 := by omega
      have hand := low32 hse hsl
      obtain ⟨z, b', e1, e2, hz, hb', hzs⟩ := take_limb bz (show sm % 4294967296 ≤ 4294967295 by omega) hov
      have Hst := Lib.hid (take_step (zs := zs) (ws := ws) (vs := vs) (k := k) (by have := Hl.out; have := Hzl.out; omega) Hvz.out hsm (by rw [← Hsm.out k (Nat.le_refl _)]; exact hzs))
      have HE := Lib.hid (And.intro e1 (And.intro e2 (And.intro hand hse)))
      have Hbs := Lib.hid hb'
      clear hcx hzl e1 e2 hand hse hsm hzs hb'
      go_wp2_with fail
      obtain ⟨e1, e2, hand, hse⟩ := HE.out
      rw [hand, e1, e2, hse]
      go_roundw
      case rel =>
        refine ⟨k + 1, sm / 4294967296, b', zs.set k z, by omega, by go_num, by congr 1, rfl, by omega, Hbs.out, by simp [Hzl.out], hz32.set _ _ hz, fun i hi => ?_, Hst.out, hpre.put (by have := Hl.out; have := Hzl.out; omega) rfl, hmod.set _ _⟩
        rw [nth_set_ne (by omega)]
        exact Hsm.out i (by omega)
      case measure => simp [intOf]; omega
    · have hke : k = vs.length := by omega
      have hs1 := hpre.at (i := vs.length) (by have := Hl.out; have := Hzl.out; omega)
      have hs2 := hpre.frozen (pre.length + vs.length)
      have bz := hz32.nth vs.length
      obtain ⟨z, b', e1, e2, hz, hb', hzs⟩ := take_limb bz hcv hov
      have Hke := Lib.hid hke
      have HE := Lib.hid (And.intro e1 e2)
      have Hzs := Lib.hid hzs
      clear e1 e2 hzs hke hzl1
      go_wp2_with fail
      obtain ⟨e1, e2⟩ := HE.out
      rw [e1, e2]
      go_ret
      have hv2 := Hvz.out
      have h4 := Hsm.out vs.length (by have := Hke.out; omega)
      rw [Hke.out] at hv2
      exact ⟨b', zs.set vs.length z, ret_bool (by rcases (show b' = 0 ∨ b' = 1 by omega) with h | h <;> subst h <;> rfl), hb', by simp [Hzl.out], hz32.set _ _ hz, take_last Hl.out Hzl.out hv2 (by rw [← h4]; exact Hzs.out), hpre.put (by have := Hl.out; have := Hzl.out; omega) rfl, hmod.set _ _⟩
end Go.Proofs.YtndbnfeapdkoaaaDoor
