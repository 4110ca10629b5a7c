/-
  Walks: natural.DivMod and Sqrt, from a contract of divide.
-/
import Derived.Test.YtndbnfeapdkoaaaDoorMSumH
namespace Go.Proofs.YtndbnfeapdkoaaaDoor
open Go.RowKit

/-- DivMod's result -/
def DmOut (w : World) (n m : Nat) (e : Ending) (w' : World) : Prop :=
  ∃ a1 c1 a2 c2, e = .returned (.tuple #[.slice a1 (limbs (n / m)).length c1, .slice a2 (limbs (n % m)).length c2, .int .i64 0]) ∧ (limbs (n / m)).length ≤ c1 ∧ c1 ≤ maxLen ∧ (limbs (n % m)).length ≤ c2 ∧ c2 ≤ maxLen ∧
    Rd w' a1 (limbs (n / m)) ∧ Rd w' a2 (limbs (n % m)) ∧ Kp w w'
set_option maxHeartbeats 1000000 in
theorem DivMod_of (a b : Option Addr) (xs ys : List Nat) (c d : Nat) (w : World) (hy : Rd w b ys) (hxl : xs.length ≤ 256) (hyl : ys.length ≤ 256) (hyc : ys.length ≤ d) (hd : d ≤ maxLen) (h0 : val ys ≠ 0)
    (hdiv : ∀ W, Kp w W → Calls Tryd.prog 72 #[.slice a xs.length c, .slice b ys.length d] W (DivOut W (val xs) (val ys) 256)) :
    Calls Tryd.prog 41 #[.slice a xs.length c, .slice b ys.length d] w (DmOut w (val xs) (val ys)) := by
  have Hd := Lib.hid hdiv
  have hl0 : ((limbs (val ys)).length : Int) ≠ 0 := by
    have : limbs (val ys) ≠ [] := fun h => h0 (limbs_eq_nil.1 h)
    have := List.length_pos_iff.2 this
    omega
  have hl1 : (((limbs (val ys)).length : Int) == 0) = false := beq_eq_false_iff_ne.2 hl0
  clear hdiv h0 hl0
  go_enter Tryd.func41, Tryd.ntmps41
  go_wp2_with fail
  refine (long_two a b xs.length c ys.length d _ _ hxl hyl (by simp) (by simp)).mono ?_
  rintro e w1 ⟨rfl, hk1⟩
  have hk : Kp w w1 := ((Kp.refl w).alloc _).trans hk1
  clear hk1
  go_wp2_with fail
  refine (trim_any b ys d w1 (hy.kp hk) hyc hd).mono ?_
  rintro e w2 ⟨rfl, rfl⟩
  go_wp2_with fail
  refine (Hd.out _ hk).mono ?_
  rintro e w3 ⟨a1, c1, qs, a2, c2, rs, rfl, hq1, hq2, hr1, hr2, rq, rr, vq, vr, lq, lr, hk3⟩
  have hq3 := limbs_len_le rq.lt32
  have hr3 := limbs_len_le rr.lt32
  have gq := rq.limbs
  have gr := rr.limbs
  have tq := trim_any a1 qs c1 w3 rq hq1 hq2
  have tr := trim_any a2 rs c2 w3 rr hr1 hr2
  rw [vq] at tq gq hq3
  rw [vr] at tr gr hr3
  have Tq := Lib.hid tq
  have Tr := Lib.hid tr
  have hk4 := hk.trans hk3
  clear tq tr vq vr rq rr hk hk3 hl1
  go_wp2_with fail
  refine Tq.out.mono ?_
  rintro e w4 ⟨rfl, rfl⟩
  go_wp2_with fail
  refine (clip_any _ _ _ _ (by omega) hq2).mono ?_
  rintro e w4 ⟨rfl, rfl⟩
  go_wp2_with fail
  refine Tr.out.mono ?_
  rintro e w4 ⟨rfl, rfl⟩
  go_wp2_with fail
  refine (clip_any _ _ _ _ (by omega) hr2).mono ?_
  rintro e w4 ⟨rfl, rfl⟩
  go_wp2_with fail
  refine bodyPost_ret (v := .tuple #[.slice a1 (limbs (val xs / val ys)).length (limbs (val xs / val ys)).length, .slice a2 (limbs (val xs % val ys)).length (limbs (val xs % val ys)).length, .int .i64 0]) (by simp [results, Tryd.results41, go_sem]) rfl ?_
  exact ⟨a1, _, a2, _, rfl, Nat.le_refl _, by omega, Nat.le_refl _, by omega, gq, gr, hk4⟩

theorem limbs_pow_len (k : Nat) : (limbs (2 ^ k)).length = k / 32 + 1 := by
  refine Nat.le_antisymm (limbs_length_le.2 ?_) ?_
  · rw [pow32]; exact Nat.pow_lt_pow_right (by decide) (by omega)
  · have h : ¬ (limbs (2 ^ k)).length ≤ k / 32 := fun h => by
      have := limbs_length_le.1 h
      rw [pow32] at this
      have := (Nat.pow_lt_pow_iff_right (by decide : 1 < 2)).1 this
      omega
    omega
/-- the number that a slice shows -/
def rdV (w : World) : Value → Nat
  | .slice (some ⟨b, o, none⟩) n _ => val ((List.range n).map fun i => match w.cell? ⟨b, o + i, none⟩ with | some (.int .u32 x) => x.toNat | _ => 0)
  | _ => 0
theorem rdV_eq {w : World} {a : Option Addr} {xs : List Nat} {c : Nat} (h : Rd w a xs) : rdV w (.slice a xs.length c) = val xs := by
  rcases h.2 with rfl | ⟨b, o, rfl, h2⟩
  · unfold rdV
    split
    · next e => cases e; simp [val]
    · rfl
  · show val _ = _
    congr 1
    refine List.ext_getElem (by simp) fun i h3 h4 => ?_
    simp only [List.getElem_map, List.getElem_range]
    rw [h2 i h4]
    simp [nth_eq h4]
set_option maxRecDepth 100000 in
set_option maxHeartbeats 4000000 in
/-- the root of a number that is not 0; the divisions that its steps make are given -/
theorem Sqrt_of (a : Option Addr) (xs : List Nat) (c : Nat) (w : World) (hx : Rd w a xs) (hxl : xs.length ≤ 200) (hxc : xs.length ≤ c) (hc : c ≤ maxLen) (h0 : val xs ≠ 0)
    (hdiv : ∀ W b ys d, Kp w W → Rd W b ys → ys.length ≤ d → d ≤ maxLen → ys = limbs (val ys) → 0 < val ys → val ys ≤ 2 ^ ((bits (val xs) + 1) / 2) → Calls Tryd.prog 72 #[.slice a xs.length c, .slice b ys.length d] W (DivOut W (val xs) (val ys) 256)) :
    Calls Tryd.prog 67 #[.slice a xs.length c] w fun e w' => ∃ s, isRt (val xs) s ∧ Nat2 w s 0 e w' := by
  have Hd := Lib.hid hdiv
  have hb0 : bits (val xs) ≠ 0 := fun h => h0 (bits_eq_zero.1 h)
  have hb1 : ((bits (val xs) : Int) == 0) = false := beq_eq_false_iff_ne.2 (by omega)
  have hbl : bits (val xs) ≤ 6400 := by
    have h1 := val_lt hx.lt32
    rw [pow32] at h1
    have := bits_le.2 h1
    omega
  have Hpos := Lib.hid (show 0 < val xs by omega)
  have Hf := Lib.hid (first_up (val xs))
  have HT := Lib.hid (bits_any a xs c)
  clear hdiv h0
  go_enter Tryd.func67, Tryd.ntmps67
  go_wp2_with fail
  refine (long_one a xs.length c _ _ (by omega) (by simp)).mono ?_
  rintro e w1 ⟨rfl, hk1⟩
  have hk : Kp w w1 := ((Kp.refl w).alloc _).trans hk1
  clear hk1
  go_wp2_with fail
  refine (HT.out _ (hx.kp hk) hxc hc (by omega)).mono ?_
  rintro e w2 ⟨rfl, rfl⟩
  obtain ⟨n, hn⟩ : ∃ n, n = bits (val xs) := ⟨_, rfl⟩
  have Hn := Lib.hid hn
  rw [← hn] at hb1 hbl ⊢
  clear hn hb0
  have h1 : Rd (w1.alloc (.cells #[.int .u32 1] 42)) (some ⟨w1.heap.size, 0, none⟩) [1] := ⟨.cons (by decide) .nil, .inr ⟨_, 0, rfl, fun i hi => by
    have : i = 0 := by simpa using hi
    subst this
    simp [nth_cons_zero]⟩⟩
  have hka := hk.alloc (.cells #[.int .u32 1] 42)
  go_wp2_with fail
  obtain ⟨h, hh⟩ : ∃ h, h = (n + 1) / 2 := ⟨_, rfl⟩
  have Hh := Lib.hid hh
  rw [show ((n : Int) + 1) / 2 = (h : Int) from by omega]
  have hh2 : h ≤ 3300 := by omega
  clear hh
  refine (shl_any _ [1] 1 h _ h1 (by simp) (by decide) (by simp) (by omega)).mono ?_
  rintro e w3 ⟨a3, c3, zs, rfl, hzl, hzc, hcm, hzv, hrd, hk3⟩
  rw [← hzl] at hzc ⊢
  have hk4 := hka.trans hk3
  have Ht := Lib.hid (trim_any a3 zs c3 w3 hrd hzc hcm)
  have g3 := hrd.limbs
  have l3 := limbs_len_le hrd.lt32
  have hzv2 : val zs = 2 ^ h := by rw [hzv]; simp [val]
  rw [hzv2] at Ht g3 l3
  clear hzv hzl hrd hzv2 h1 hka hk3 hk
  go_wp2_with fail
  refine Ht.out.mono ?_
  rintro e w4 ⟨rfl, rfl⟩
  clear Ht
  have l4 : (limbs (2 ^ h)).length ≤ c3 := by omega
  clear l3 hzc
  go_wp2_with fail
  go_loopw [5] (fun v wr => ∃ a' c' X, v = .slice a' (limbs X).length c' ∧ (limbs X).length ≤ c' ∧ c' ≤ maxLen ∧ Rd wr a' (limbs X) ∧ 0 < X ∧ X ≤ 2 ^ h ∧ val xs < (X + 1) * (X + 1) ∧ Kp w wr) (fun v wr => rdV wr v)
  case atStart => exact ⟨a3, c3, 2 ^ h, rfl, l4, hcm, g3, Nat.pow_pos (by decide), Nat.le_refl _, by have := Hf.out; rw [← Hn.out, ← Hh.out] at this; exact this, hk4⟩
  case round =>
    obtain ⟨a5, c5, X, rfl, hX1, hX2, hX3, hX0, hXh, hXn, hk5⟩ := hrel
    have HXh := Lib.hid hXh
    have HXn := Lib.hid hXn
    have hXl : (limbs X).length ≤ 200 := by
      have h9 := limbs_length_mono hXh
      rw [limbs_pow_len] at h9
      omega
    have Hdx := Lib.hid (Hd.out wr a5 (limbs X) c5 hk5 hX3 hX1 hX2 (by rw [val_limbs]) (by rw [val_limbs]; exact hX0) (by rw [val_limbs]; have := Hh.out; rw [Hn.out] at this; rw [← this]; exact hXh))
    have HrV := Lib.hid (rdV_eq (c := c5) hX3)
    clear hXh hXn
    go_wp2_with fail
    refine Hdx.out.mono ?_
    rw [val_limbs]
    rintro e w5 ⟨a6, c6, qs, a7, c7, rs, rfl, hq1, hq2, _, _, rq, _, vq, _, lq, _, hk6⟩
    have tq := trim_any a6 qs c6 w5 rq hq1 hq2
    have gq := rq.limbs
    have lq2 := limbs_len_le rq.lt32
    rw [vq] at tq gq lq2
    have Tq := Lib.hid tq
    clear tq vq rq hq1 Hdx
    go_wp2_with fail
    refine Tq.out.mono ?_
    rintro e w6 ⟨rfl, rfl⟩
    go_wp2_with fail
    refine (add_any a5 a6 (limbs X) (limbs (val xs / X)) c5 c6 _ (hX3.kp hk6) gq (by omega) (by omega)).mono ?_
    rw [val_limbs, val_limbs]
    rintro e w7 ⟨g, ts, rfl, htl, htv, htr, hk7⟩
    rw [← htl]
    have htl2 : ts.length ≤ 300 := by omega
    have Hs := Lib.hid (shr_any (some ⟨g, 0, none⟩) ts ts.length 1 w7 htr (Nat.le_refl _) (by unfold maxLen; omega) (by omega) (by decide))
    have htv2 : val ts / 2 ^ 1 = newt (val xs) X := by rw [htv]; rfl
    rw [htv2] at Hs
    have hk67 := hk6.trans hk7
    clear htv htl htv2 Tq gq lq2
    go_wp2_with fail
    refine Hs.out.mono ?_
    rintro e w8 ⟨a8, c8, us, rfl, hul, huc, hum, huv, hur, hk8⟩
    rw [← hul] at huc ⊢
    have tu := trim_any a8 us c8 w8 hur huc hum
    have gu := hur.limbs
    have lu := limbs_len_le hur.lt32
    rw [huv] at tu gu lu
    have Tu := Lib.hid tu
    have hk9 := hk67.trans hk8
    have hYc : (limbs (newt (val xs) X)).length ≤ c8 := by omega
    have HY0 := Lib.hid (newt_pos Hpos.out hX0)
    have HYn := Lib.hid (newt_up (n := val xs) hX0)
    have HYd := Lib.hid (fun h => newt_done (n := val xs) (x := X) h)
    clear tu hul huc huv hur Hs hk6 hk7 hk67 hk8 htr lu
    go_wp2_with fail
    refine Tu.out.mono ?_
    rintro e w9 ⟨rfl, rfl⟩
    clear Tu
    generalize newt (val xs) X = Y at *
    go_wp2_with fail
    refine (cmp_any a8 a5 (limbs Y) (limbs X) c8 c5 _ gu (hX3.kp hk9) hYc hX1 hum hX2).mono ?_
    rw [val_limbs, val_limbs]
    rintro e w10 ⟨rfl, hk10⟩
    by_cases hXY : X ≤ Y
    · have hcm : 0 ≤ cmpN Y X := by unfold cmpN; split <;> (try split) <;> omega
      have Hrt := Lib.hid (show isRt (val xs) X from ⟨HYd.out hXY, HXn.out⟩)
      clear hXY
      go_wp2_with fail
      refine (done_ok a5 (limbs X) c5 _ ((hX3.kp hk9).kp hk10) hX1 hX2 (by rw [val_limbs]; omega)).mono ?_
      rw [val_limbs]
      rintro e w11 ⟨a9, c9, rfl, z1, z2, z3, z4⟩
      go_wp2_with fail
      go_ret2
      exact ⟨X, Hrt.out, a9, c9, rfl, z1, z2, z3, ((hk5.trans hk9).trans hk10).trans z4⟩
    · have hcm : ¬ 0 ≤ cmpN Y X := by rw [cmpN_lt (by omega)]; decide
      have hlt : Y < X := by omega
      have HYh := Lib.hid (show Y ≤ 2 ^ h by have := HXh.out; omega)
      clear hXY
      have HgY := Lib.hid (rdV_eq (c := c8) (gu.kp hk10))
      have Hlt := Lib.hid hlt
      clear hlt
      go_wp2_with fail
      go_roundw
      case rel => exact ⟨a8, c8, Y, rfl, hYc, hum, gu.kp hk10, HY0.out, HYh.out, HYn.out, (hk5.trans hk9).trans hk10⟩
      case measure =>
        have h1 := HgY.out
        have h2 := HrV.out
        have h3 := Hlt.out
        rw [val_limbs] at h1 h2
        simp only [h1, h2]
        exact h3
end Go.Proofs.YtndbnfeapdkoaaaDoor
