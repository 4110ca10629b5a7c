/-
  Walks: the second reference's times, Product; the third one's Mul.
  Walks: the second reference's Product; the third one's Mul.
  Walks: the law RoundProducts.
-/
import Derived.Test.YtkkiinbgjjjcoaaGreatDoorMR3A
section
namespace Go.Proofs.YtkkiinbgjjjcoaaGreatDoor
open Go.RowKit

set_option maxRecDepth 100000 in
set_option maxHeartbeats 4000000 in
theorem r2times_any (a b : Option Addr) (xs ys : List Nat) (c d : Nat) (w : World) (hx : Rd w a xs) (hy : Rd w b ys) (hxl : xs.length ≤ 1000) (hyl : ys.length ≤ 1000) :
    Calls Tryz.prog 43 #[.slice a xs.length c, .slice b ys.length d] w (NatOut w (val xs * val ys)) := by
  have hmk := make_u32 ((xs.length : Int) + ys.length + 1) (xs.length + ys.length + 1) (by omega) (by omega)
  go_enter Tryz.func43, Tryz.ntmps43
  go_wp2_with fail
  clear hmk
  go_loopw [6] (fun ix wr => ∃ (i : Nat) (zs : List Nat), i ≤ xs.length ∧ ix = .int .i64 i ∧ zs.length = xs.length + ys.length + 1 ∧ Blk wr w.heap.size zs ∧ Lt32 zs ∧
      val zs = val (xs.take i) * val ys ∧ (∀ j, i + ys.length ≤ j → nth zs j = 0) ∧ Kp w wr) (fun ix _ => xs.length - (intOf ix).toNat)
  case atStart => exact ⟨0, _, Nat.zero_le _, rfl, by simp, Blk.made _ _, .replicate _, by simp [val, val_replicate], fun j _ => nth_replicate _ _, (Kp.refl _).alloc _⟩
  case round =>
    obtain ⟨i, zs, hi, rfl, hzl, hb, hz32, hvz, hzero, hkp⟩ := hrel
    have Hvz := Lib.hid hvz
    have Hzl := Lib.hid hzl
    have Hzero := Lib.hid hzero
    clear hvz hzero
    by_cases hlt : i < xs.length
    · go_wp2_with fail
      obtain ⟨wo, hwo⟩ : ∃ wo : World, wo = wr := ⟨_, rfl⟩
      subst hwo
      go_loopw [7, 8] (fun cy ix wr => ∃ (k c : Nat) (us : List Nat), k ≤ ys.length ∧ ix = .int .i64 k ∧ cy = .int .u64 c ∧ c < 4294967296 ∧ us.length = xs.length + ys.length + 1 ∧ Blk wr w.heap.size us ∧ Lt32 us ∧
        val us + 4294967296 ^ (i + k) * c = val zs + 4294967296 ^ i * (nth xs i * val (ys.take k)) ∧ (∀ j, i + ys.length ≤ j → nth us j = 0) ∧ Kp w wr) (fun _ ix _ => ys.length - (intOf ix).toNat)
      case atStart => exact ⟨0, 0, zs, Nat.zero_le _, rfl, rfl, by omega, Hzl.out, hb, hz32, by simp [val], Hzero.out, hkp⟩
      case round =>
        obtain ⟨k, cy, us, hk, rfl, rfl, hcy, hul, hb, hu32, hvu, huz, hkp⟩ := hrel
        have Hvu := Lib.hid hvu
        have Hul := Lib.hid hul
        have Huz := Lib.hid huz
        clear hvu huz
        by_cases hlt2 : k < ys.length
        · obtain ⟨b1, o1, rfl, hcx⟩ := (hx.kp hkp).some hlt
          have hx1 := hcx i hlt
          have bx := hx.lt32.nth i
          obtain ⟨b2, o2, rfl, hcy2⟩ := (hy.kp hkp).some hlt2
          have hy1 := hcy2 k hlt2
          have by' := hy.lt32.nth k
          have bu := hu32.nth (i + k)
          have hs1 := hb.cell (i := i + k) (by omega)
          have hs2 := hb.frozen (i + k)
          have hp1 := prod32 bx by'
          have hp0 : 0 ≤ (nth xs i : Int) * nth ys k := Int.mul_nonneg (by omega) (by omega)
          clear hcy2 hcx
          have hq1 := prodN bx by'
          have hi1 : (0 : Int) ≤ (i : Int) + k := by omega
          have hi2 : (i : Int) + k < ((xs.length + ys.length + 1 : Nat) : Int) := by omega
          have hi3 : (0 : Int) ≤ (i : Int) := by omega
          have hi4 : (0 : Int) ≤ (k : Int) := by omega
          have hi5 : (i : Int) < (xs.length : Int) := by omega
          have hi6 : (k : Int) < (ys.length : Int) := by omega
          have Hst := Lib.hid (mul_step (zs := us) (j := i + k) (x := nth xs i) (y := nth ys k) (by omega) Hvu.out rfl)
          have Hcl := Lib.hid (and_lowI (x := (nth xs i : Int) * nth ys k + nth us (i + k) + cy) (s := nth xs i * nth ys k + nth us (i + k) + cy) (by push_cast; rfl) (by omega))
          go_wp2_with fail
          go_quiet (fail)
          go_wp2_with fail
          go_roundw
          case rel =>
            refine ⟨k + 1, (nth xs i * nth ys k + nth us (i + k) + cy) / 4294967296, us.set (i + k) ((nth xs i * nth ys k + nth us (i + k) + cy) % 4294967296), by omega, by go_num, by rw [cast_div3], by omega, by simp [Hul.out], (hb.kp ((Kp.refl _).drewN _)).put Hcl.out, hu32.set _ _ (by omega), ?_, fun j hj => ?_, (hkp.drewN _).set (Nat.le_refl _) _⟩
            · rw [show i + (k + 1) = i + k + 1 from by omega, Hst.out, val_take_step ys, Nat.mul_add, Nat.mul_add, Nat.pow_add]
              congr 2
              rw [Nat.mul_assoc, Nat.mul_left_comm (nth xs i)]
            · rw [nth_set_ne (by omega)]; exact Huz.out j hj
          case measure => simp [intOf]; omega
        · have hke : k = ys.length := by omega
          have HV := Lib.hid (show val us + 4294967296 ^ (i + ys.length) * cy = val zs + 4294967296 ^ i * (nth xs i * val ys) by
            have := Hvu.out
            rw [hke, List.take_of_length_le (Nat.le_refl _)] at this
            exact this)
          clear hke Hvu
          go_wp2_with fail
          clear hlt2 hk
          obtain ⟨wp, hwp⟩ : ∃ wp : World, wp = wr := ⟨_, rfl⟩
          subst hwp
          go_loopw [7, 10] (fun cy ix wr => ∃ (k c : Nat) (vs : List Nat), i + ys.length ≤ k ∧ k ≤ i + ys.length + 1 ∧ (k = i + ys.length + 1 → c = 0) ∧ ix = .int .i64 k ∧ cy = .int .u64 c ∧ c < 4294967296 ∧ vs.length = xs.length + ys.length + 1 ∧ Blk wr w.heap.size vs ∧ Lt32 vs ∧
            val vs + 4294967296 ^ k * c = val zs + 4294967296 ^ i * (nth xs i * val ys) ∧ (∀ j, k ≤ j → nth vs j = 0) ∧ Kp w wr) (fun _ ix _ => i + ys.length + 1 - (intOf ix).toNat)
          case atStart => exact ⟨i + ys.length, cy, us, Nat.le_refl _, by omega, fun h => absurd h (by omega), by go_num, rfl, hcy, Hul.out, hb, hu32, HV.out, Huz.out, hkp⟩
          case round =>
            obtain ⟨k3, c3, vs, hk1, hk2, hk3, rfl, rfl, hc3, hvl, hb, hv32, hvv, hvz, hkp⟩ := hrel
            have HVV := Lib.hid hvv
            have Hvl := Lib.hid hvl
            have Hvz3 := Lib.hid hvz
            clear hvv hvz
            by_cases h0 : c3 = 0
            · have HE := Lib.hid (show val vs = val zs + 4294967296 ^ i * (nth xs i * val ys) by
                have := HVV.out
                rw [h0, Nat.mul_zero, Nat.add_zero] at this
                exact this)
              have hc0 : ¬ (0 : Int) < (c3 : Int) := by omega
              clear h0 hk3 HVV HV
              go_wp2_with fail
              go_roundw
              case rel =>
                refine ⟨i + 1, vs, by omega, by go_num, Hvl.out, hb, hv32, ?_, fun j hj => Hvz3.out j (by omega), hkp⟩
                rw [HE.out, Hvz.out, val_take_step xs, Nat.add_mul, Nat.mul_assoc]
              case measure => simp [intOf]; omega
            · have hke : k3 = i + ys.length := by
                rcases Nat.lt_or_ge (i + ys.length) k3 with h | h
                · exact absurd (hk3 (by omega)) h0
                · omega
              subst hke
              have hc0 : (0 : Int) < (c3 : Int) := by omega
              have hs1 := hb.cell (i := i + ys.length) (by omega)
              have hs2 := hb.frozen (i + ys.length)
              rw [Hvz3.out _ (Nat.le_refl _)] at hs1
              have HL := Lib.hid (mul_last (zs := vs) (j := i + ys.length) (c := c3) (V := val zs) (W := 4294967296 ^ i * (nth xs i * val ys)) (by omega) (Hvz3.out _ (Nat.le_refl _)) HVV.out)
              have Hcl := Lib.hid (and_lowI (x := (c3 : Int)) (s := c3) rfl (by omega))
              clear h0 hk3 HVV HV
              go_wp2_with fail
              go_roundw
              case rel =>
                refine ⟨i + ys.length + 1, 0, vs.set (i + ys.length) c3, by omega, by omega, fun _ => rfl, by go_num, by congr 1; omega, by omega, by simp [Hvl.out], hb.put (by rw [Hcl.out]; omega), hv32.set _ _ hc3, by rw [Nat.mul_zero, Nat.add_zero]; exact HL.out, fun j hj => ?_, hkp.set (Nat.le_refl _) _⟩
                rw [nth_set_ne (by omega)]; exact Hvz3.out j (by omega)
              case measure => simp [intOf]; omega
    · have e2 := Hvz.out
      rw [List.take_of_length_le (by omega)] at e2
      have E2 := Lib.hid e2
      have HT := Lib.hid (r2trim_any (some ⟨w.heap.size, 0, none⟩) zs (xs.length + ys.length + 1) wr (hb.rd hz32) (by omega) (by unfold maxLen; omega) (by omega))
      rw [hzl] at HT
      have hkk := Lib.hid hkp
      clear e2 hb hkp hzl
      go_wp2_with fail
      with_reducible refine HT.out.mono ?_
      rintro e w7 ⟨a6, c6, rfl, l6, m6, r6, k6⟩
      go_wp2_with fail
      go_ret
      rw [← E2.out]
      exact ⟨a6, c6, rfl, l6, m6, r6, hkk.out.trans k6⟩
end Go.Proofs.YtkkiinbgjjjcoaaGreatDoor
end

section
namespace Go.Proofs.YtkkiinbgjjjcoaaGreatDoor
open Go.RowKit

theorem rndS_canon {s : Bool} {N p : Nat} {e : Int} {up : Bool} (hN : N ≠ 0) : rndS s (oddp N) (e + tz N) false p up = rndS s N e false p up := by
  have h : ∀ u : Bool, rcut (oddp N) (e + tz N) false p u = rcut N e false p u := by
    intro u
    have h1 := rcut_shift (oddp_ne_zero hN) (tz N) (e + tz N) false p u
    rw [← (oddp_spec hN).2, show e + (tz N : Int) - (tz N : Nat) = e from by omega] at h1
    exact h1.symm
  unfold rndS
  rw [h]
theorem prodD_zero0 {d f : Dy} (h : (prodD d f).m = 0) : prodD d f = .zero := by
  unfold prodD canon at h ⊢
  split
  · rfl
  · next h0 =>
    rw [if_neg h0] at h
    have := (oddp_spec h0).1
    have h2 : oddp (d.m * f.m) = 0 := h
    rw [h2] at this
    exact absurd this (by decide)
theorem prodD_small {d f : Dy} (hd : d.ok) (hf : f.ok) : (limbs (prodD d f).m).length ≤ 2000 ∧ -100000 ≤ (prodD d f).e ∧ (prodD d f).e ≤ 100000 := by
  have h1 := bits_mul_le d.m f.m
  have h2 := dok_bits hd
  have h3 := dok_bits hf
  have e1 := ok_e hd
  have e2 := ok_e hf
  unfold prodD canon
  split
  · exact ⟨by show (limbs 0).length ≤ 2000; rw [limbs_zero]; exact Nat.zero_le _, by decide, by decide⟩
  · next h0 =>
    have h4 := bits_oddp h0
    exact ⟨limbs_of_bits (by show bits (oddp _) ≤ _; omega), by show _ ≤ d.e + f.e + (tz _ : Int); omega, by show d.e + f.e + (tz _ : Int) ≤ _; omega⟩
/-- the product, rounded, is that of its canonical form -/
theorem prod_rnd {w w' : World} {x y : RD} (hx : x.ok w) (hy : y.ok w') {q : Nat} {up : Bool} (h0 : fltB (q : Int) [x, y] = 0) (hp : q ≤ 512) :
    mulB x y (q : Int) up = rndE (rndS (prodD x.dy y.dy).neg (prodD x.dy y.dy).m (prodD x.dy y.dy).e false q up) := by
  unfold mulB
  rw [if_pos h0]
  by_cases hz : x.xs.length = 0 ∨ y.xs.length = 0
  · rw [if_pos hz]
    have hm : x.dy.m * y.dy.m = 0 := by
      rcases hz with hz | hz
      · rw [(rdok_zero hx).1 hz, Nat.zero_mul]
      · rw [(rdok_zero hy).1 hz, Nat.mul_zero]
    have hP : prodD x.dy y.dy = .zero := by unfold prodD; rw [hm, canon_zero]
    have h2 := rndS_rnd (d := .zero) Dy.ok_zero hp up
    rw [Dy.iv_zero, rnd_zero] at h2
    rw [hP, h2]; rfl
  · rw [if_neg hz]
    have hm : x.dy.m * y.dy.m ≠ 0 := Nat.mul_ne_zero (fun k => hz (.inl ((rdok_zero hx).2 k))) (fun k => hz (.inr ((rdok_zero hy).2 k)))
    have hP : prodD x.dy y.dy = ⟨x.neg != y.neg, oddp (x.dy.m * y.dy.m), x.e + y.e + tz (x.dy.m * y.dy.m)⟩ := by
      unfold prodD canon; rw [if_neg hm]; rfl
    rw [hP, rndS_canon hm]
    rfl
set_option maxRecDepth 100000 in
set_option maxHeartbeats 4000000 in
theorem r2prod_dy (x y : RD) (w : World) (hx : x.ok w) (hy : y.ok w) :
    Calls Tryz.prog 25 #[.agg #[.bool x.neg, .slice x.a x.xs.length x.c, .int .i64 x.e], .agg #[.bool y.neg, .slice y.a y.xs.length y.c, .int .i64 y.e]] w (DyOut w (prodD x.dy y.dy)) := by
  have hlx := rdok_len hx
  have hly := rdok_len hy
  have hex := rdok_e hx
  have hey := rdok_e hy
  have HPl := Lib.hid (show (limbs (val x.xs * val y.xs)).length ≤ 256 from limbs_of_bits (Nat.le_trans (bits_mul_le _ _) (by
    have h2 : bits (val x.xs) ≤ 4096 := dok_bits (rdok_dy hx)
    have h3 : bits (val y.xs) ≤ 4096 := dok_bits (rdok_dy hy)
    omega)))
  have HP := Lib.hid (show prodD x.dy y.dy = canon (x.neg != y.neg) (val x.xs * val y.xs) (x.e + y.e) from rfl)
  have HTm := Lib.hid (fun W (k : Kp w W) => r2times_any x.a y.a x.xs y.xs x.c y.c W (hx.kp k).1.1 (hy.kp k).1.1 (by omega) (by omega))
  have HOf := Lib.hid (fun (W : World) (a : Option Addr) (c : Nat) (h : Rd W a (limbs (val x.xs * val y.xs))) (hc : (limbs (val x.xs * val y.xs)).length ≤ c) (hm : c ≤ maxLen) => show Calls Tryz.prog 42 #[.bool (!(x.neg == y.neg)), .slice a (limbs (val x.xs * val y.xs)).length c, .int .i64 (IntKind.i64.wrap (x.e + y.e))] W (DyOut W (prodD x.dy y.dy)) by
    rw [show IntKind.i64.wrap (x.e + y.e) = x.e + y.e from IntWalk.i64_in _ (by omega)]
    have := r2Of_any (x.neg != y.neg) a (limbs (val x.xs * val y.xs)) c (x.e + y.e) W h hc hm (by have := HPl.out; omega) (by omega) (by omega)
    rw [val_limbs] at this
    rw [HP.out]
    exact this)
  clear hx hy HPl HP
  generalize prodD x.dy y.dy = G at *
  go_enter Tryz.func25, Tryz.ntmps25
  go_upto_region 1 with fail
  generalize hW : (((w.alloc _).alloc _).alloc _) = W at *
  have hk : Kp w W := hW ▸ (((Kp.refl w).alloc _).alloc _).alloc _
  have hS0 : W.cell? ⟨w.heap.size, 0, none⟩ = some (.bool x.neg) ∧ W.cell? ⟨w.heap.size, 1, none⟩ = some (.slice x.a x.xs.length x.c) ∧ W.cell? ⟨w.heap.size, 2, none⟩ = some (.int .i64 x.e) ∧ W.cell? ⟨w.heap.size + 1, 0, none⟩ = some (.bool y.neg) ∧ W.cell? ⟨w.heap.size + 1, 1, none⟩ = some (.slice y.a y.xs.length y.c) ∧ W.cell? ⟨w.heap.size + 1, 2, none⟩ = some (.int .i64 y.e) := by rw [← hW]; exact keep6 ((Kp.refl _).alloc _) (by simp)
  have hB0 : Box3 W (w.heap.size + 2) (.bool false) (.slice none 0 0) (.int .i64 0) := hW ▸ Box3.new3 _ _ _ _ _ _ _
  clear hW
  have hS := keepRR (Kp.refl W).drew hS0
  have HB := Lib.hid (hB0.kp (Kp.refl W).drew)
  have hkd := hk.drew
  have n1 : w.heap.size ≠ w.heap.size + 2 := by omega
  have n2 : w.heap.size + 1 ≠ w.heap.size + 2 := by omega
  clear hS0 hB0 hk
  go_region_held3 (fun w' => w'.cell? ⟨w.heap.size, 0, none⟩ = some (.bool x.neg) ∧ w'.cell? ⟨w.heap.size, 1, none⟩ = some (.slice x.a x.xs.length x.c) ∧ w'.cell? ⟨w.heap.size, 2, none⟩ = some (.int .i64 x.e) ∧ w'.cell? ⟨w.heap.size + 1, 0, none⟩ = some (.bool y.neg) ∧ w'.cell? ⟨w.heap.size + 1, 1, none⟩ = some (.slice y.a y.xs.length y.c) ∧ w'.cell? ⟨w.heap.size + 1, 2, none⟩ = some (.int .i64 y.e)) (first | with_reducible assumption | with_reducible exact keepRR (by assumption) (by assumption) | with_reducible exact setRR (by assumption) (by assumption) (by assumption))
    (first
      | (go_at_call 43; (with_reducible refine (HTm.out _ hkd).mono ?_); rintro e v1 ⟨a1, c1, rfl, l1, m1, r1, j1⟩)
      | (go_at_call 42; (with_reducible refine (HOf.out _ a1 c1 r1 l1 m1).mono ?_); rintro e v2 ⟨a2, c2, rfl, r2, l2, m2, j2⟩; obtain ⟨q0, q1, q2, f0, f1, f2⟩ := (HB.out.kp j1).kp j2)
      | fail)
  have hkk := (hkd.trans j1).trans j2
  have hst := stored q0 q1 q2 (fun _ h => by cases h) (fun _ h => by cases h) (fun _ h => by cases h) (.bool G.neg) (.slice a2 (limbs G.m).length c2) (.int .i64 G.e)
  go_wp2_with fail
  generalize (((v2.setCell _ _).setCell _ _).setCell _ _) = W2 at hst ⊢
  obtain ⟨s0, s1, s2, _, s4, s5, _, _⟩ := hst
  refine bodyPost_ret (v := .agg #[.bool G.neg, .slice a2 (limbs G.m).length c2, .int .i64 G.e]) (by simp [results, Tryz.results25, go_sem, s0, s1, s2]) rfl ?_
  exact ⟨a2, c2, rfl, s4 _ _ r2, l2, m2, s5 _ hkk (by omega)⟩
set_option maxHeartbeats 4000000 in
set_option maxRecDepth 100000 in
theorem r3mul_any (x y : RD) (p : Int) (up : Bool) (w : World) (hx : x.rd w) (hy : y.rd w) :
    Calls Tryz.prog 8 #[.agg #[.bool x.neg, .slice x.a x.xs.length x.c, .int .i64 x.e], .agg #[.bool y.neg, .slice y.a y.xs.length y.c, .int .i64 y.e], .int .i64 p, .bool up] w (NumE w (mulB x y p up).1 (mulB x y p up).2) := by
  obtain ⟨D, hD⟩ : ∃ D, D = mulB x y p up := ⟨_, rfl⟩
  have HD := Lib.hid hD
  rw [← hD]
  clear hD
  go_enter Tryz.func8, Tryz.ntmps8
  go_wp2_with fail
  generalize hW : (((w.alloc _).alloc _).alloc _) = W at *
  have hk : Kp w W := hW ▸ (((Kp.refl w).alloc _).alloc _).alloc _
  have hS : W.cell? ⟨w.heap.size, 0, none⟩ = some (.bool x.neg) ∧ W.cell? ⟨w.heap.size, 1, none⟩ = some (.slice x.a x.xs.length x.c) ∧ W.cell? ⟨w.heap.size, 2, none⟩ = some (.int .i64 x.e) ∧ W.cell? ⟨w.heap.size + 1, 0, none⟩ = some (.bool y.neg) ∧ W.cell? ⟨w.heap.size + 1, 1, none⟩ = some (.slice y.a y.xs.length y.c) ∧ W.cell? ⟨w.heap.size + 1, 2, none⟩ = some (.int .i64 y.e) := by rw [← hW]; exact keep6 ((Kp.refl _).alloc _) (by simp)
  have hB : Box3 W (w.heap.size + 2) (.bool false) (.slice none 0 0) (.int .i64 0) := hW ▸ Box3.new3 _ _ _ _ _ _ _
  clear hW
  refine (r3fault_any x y p _ (hx.kp hk) (hy.kp hk)).mono ?_
  rintro e w1 ⟨rfl, hk1⟩
  have hS1 := keepRR hk1 hS
  have hB1 := hB.kp hk1
  have hk2 := hk.trans hk1
  clear hS hB hk hk1
  by_cases h0 : fltB p [x, y] = 0
  · obtain ⟨hv, hp0, hp1⟩ := fltB_zero.1 h0
    obtain ⟨q, rfl⟩ := Int.eq_ofNat_of_zero_le (show 0 ≤ p by omega)
    have hxo : x.ok w1 := ⟨hx.kp hk2, by simpa using (List.all_eq_true.1 hv) x (by simp)⟩
    have hyo : y.ok w1 := ⟨hy.kp hk2, by simpa using (List.all_eq_true.1 hv) y (by simp)⟩
    have HD2 := Lib.hid (show D = rndE (rndS (prodD x.dy y.dy).neg (prodD x.dy y.dy).m (prodD x.dy y.dy).e false q up) by
      rw [HD.out, prod_rnd hxo hyo h0 (by omega)])
    rw [h0]
    clear h0 hv HD
    obtain ⟨hsl, hse0, hse1⟩ := prodD_small (rdok_dy hxo) (rdok_dy hyo)
    have HZ := Lib.hid (@prodD_zero0 x.dy y.dy)
    obtain ⟨s0, s1, s2, t0, t1, t2⟩ := hS1
    have HS := Lib.hid (r2prod_dy x y w1 hxo hyo)
    clear hxo hyo
    go_wp2_with fail
    refine HS.out.mono ?_
    rintro e w3 ⟨a3, c3, rfl, r3, l3, m3, k3⟩
    have hEx := r3exact_dy (prodD x.dy y.dy) a3 c3 q up w3 r3 l3 m3 (by omega) hse0 hse1 (by omega) (by omega) (fun h => by rw [HZ.out h]; decide)
    rw [← HD2.out] at hEx
    have HE := Lib.hid hEx
    clear hEx HS HZ s0 s1 s2 t0 t1 t2 hse0 hse1 hsl
    generalize prodD x.dy y.dy = G at *
    go_wp2_with fail
    refine HE.out.mono ?_
    rintro e w5 ⟨z, rfl, hzr, hzd, hzv, hk5⟩
    obtain ⟨q0, q1, q2, f0, f1, f2⟩ := (hB1.kp k3).kp hk5
    have hk6 := (hk2.trans k3).trans hk5
    clear hB1 hk5 HE r3
    have hst := stored q0 q1 q2 (fun _ h => by cases h) (fun _ h => by cases h) (fun _ h => by cases h) (.bool z.neg) (.slice z.a z.xs.length z.c) (.int .i64 z.e)
    go_wp2_with fail
    generalize (((w5.setCell _ _).setCell _ _).setCell _ _) = W2 at hst ⊢
    obtain ⟨s0, s1, s2, _, s4, s5, _, _⟩ := hst
    refine bodyPost_ret (v := .tuple #[.agg #[.bool z.neg, .slice z.a z.xs.length z.c, .int .i64 z.e], .int .i64 D.2]) (by simp [results, Tryz.results8, go_sem, s0, s1, s2]) rfl ?_
    exact ⟨z, rfl, ⟨s4 _ _ hzr.1, hzr.2⟩, hzd, hzv, s5 _ hk6 (by omega)⟩
  · have hz2 : (fltB p [x, y] != 0) = true := by simpa using h0
    have HD2 := Lib.hid (show D = (.zero, fltB p [x, y]) by rw [HD.out]; unfold mulB; rw [if_neg h0])
    clear h0 hS1
    obtain ⟨q0, q1, q2, f0, f1, f2⟩ := hB1
    go_wp2_with fail
    have hst := stored q0 q1 q2 (fun _ h => by cases h) (fun _ h => by cases h) (fun _ h => by cases h) (.bool false) (.slice none 0 0) (.int .i64 0)
    generalize (((w1.setCell _ _).setCell _ _).setCell _ _) = W9 at hst ⊢
    obtain ⟨s0, s1, s2, _, s4, s5, _, _⟩ := hst
    refine bodyPost_ret (v := .tuple #[.agg #[.bool false, .slice none 0 0, .int .i64 0], .int .i64 (fltB p [x, y])]) (by simp [results, Tryz.results8, go_sem, s0, s1, s2]) rfl ?_
    rw [HD2.out]
    exact numE_zero rfl (s5 _ hk2 (by omega))
end Go.Proofs.YtkkiinbgjjjcoaaGreatDoor
end

section
namespace Go.Proofs.YtkkiinbgjjjcoaaGreatDoor
open Go.RowKit

theorem mulB_ok (x y : RD) (p : Int) (up : Bool) : (mulB x y p up).1.ok := by
  unfold mulB
  split
  · next h0 =>
    obtain ⟨_, h1, h2⟩ := fltB_zero.1 h0
    split
    · exact Dy.ok_zero
    · exact rndS_ok (by omega) (by omega)
  · exact Dy.ok_zero
theorem mulB_zero (x y : RD) (p : Int) (up : Bool) (h : (mulB x y p up).2 ≠ 0) : (mulB x y p up).1 = .zero := by
  unfold mulB at h ⊢
  split
  · next h0 =>
    rw [if_pos h0] at h
    split
    · rfl
    · next h1 =>
      rw [if_neg h1] at h
      cases hr : rndS (x.neg != y.neg) (val x.xs * val y.xs) (x.e + y.e) false p.toNat up with
      | none => rfl
      | some d => rw [hr] at h; exact absurd rfl h
  · rfl
set_option maxRecDepth 100000 in
set_option maxHeartbeats 16000000 in
theorem Products_ok (x y : RD) (p : Int) (w : World) (hx : x.rd w) (hy : y.rd w) (hT : Tab w) :
    Calls Tryz.prog 3 #[.agg #[.bool x.neg, .slice x.a x.xs.length x.c, .int .i64 x.e], .agg #[.bool y.neg, .slice y.a y.xs.length y.c, .int .i64 y.e], .int .i64 p] w fun e w' => e = .returned (.bool true) ∧ Kp w w' := by
  go_enter Tryz.func3, Tryz.ntmps3
  go_upto_region 1 with fail
  generalize hW : ((w.alloc _).alloc _) = W at *
  have hk : Kp w W := hW ▸ ((Kp.refl w).alloc _).alloc _
  have hS : W.cell? ⟨w.heap.size, 0, none⟩ = some (.bool x.neg) ∧ W.cell? ⟨w.heap.size, 1, none⟩ = some (.slice x.a x.xs.length x.c) ∧ W.cell? ⟨w.heap.size, 2, none⟩ = some (.int .i64 x.e) ∧ W.cell? ⟨w.heap.size + 1, 0, none⟩ = some (.bool y.neg) ∧ W.cell? ⟨w.heap.size + 1, 1, none⟩ = some (.slice y.a y.xs.length y.c) ∧ W.cell? ⟨w.heap.size + 1, 2, none⟩ = some (.int .i64 y.e) := by rw [← hW]; exact keep6 (Kp.refl _) (by simp)
  clear hW
  go_cut [16] from 7 (fun s wx => s = .bool false ∧ Kp W wx)
  case first =>
    go_wp2_with fail
    refine (awake3_ok _ (hT.kp hk)).mono ?_
    rintro e w1 ⟨rfl, k1⟩
    go_wp2_with fail
    go_meet
    case rel => exact ⟨rfl, k1⟩
  case rest =>
    obtain ⟨rfl, k1⟩ := hcut
    have hS1 := keepRR k1 hS
    have h1 := hk.trans k1
    clear hk k1 hS
    obtain ⟨W1, hW1⟩ : ∃ W1 : World, W1 = wc := ⟨_, rfl⟩
    subst hW1
    obtain ⟨s0, s1, s2, t0, t1, t2⟩ := id hS1
    have hrow := rowD_two W1 x y (hx.kp h1) (hy.kp h1) 24
    have ka := (Kp.refl W1).alloc (.cells #[.bool x.neg, .slice x.a x.xs.length x.c, .int .i64 x.e, .bool y.neg, .slice y.a y.xs.length y.c, .int .i64 y.e] 24)
    go_wp2_with fail
    refine (great_any _ [x, y] 2 _ hrow (by simp)).mono ?_
    rintro e w2 ⟨rfl, k2⟩
    have hS2 := keepRR (ka.trans k2) hS1
    have h2 := h1.trans (ka.trans k2)
    clear k2 hrow ka s0 s1 s2 t0 t1 t2 hS1 h1
    cases hg : [x, y].any lng2 with
    | true =>
      clear hg hS2
      go_wp2_with fail
      go_ret
      exact ⟨rfl, h2⟩
    | false =>
      clear hg
      obtain ⟨s0, s1, s2, t0, t1, t2⟩ := id hS2
      go_wp2_with fail
      clear s0 s1 s2 t0 t1 t2
      refine (rMulDown_of x y p _ _ _ (fun W k => mul_rd x y p false W (hx.kp (h2.trans k)) (hy.kp (h2.trans k)) (hT.kp (h2.trans k)))).mono ?_
      rintro e w3 ⟨z1, rfl, rz, dz, vz, k3⟩
      have ka := (Kp.refl w3).alloc (.cells #[.bool z1.neg, .slice z1.a z1.xs.length z1.c, .int .i64 z1.e] 24)
      have k3a := k3.trans ka
      have o1 := Lib.hid ((show z1.ok w3 from ⟨rz, vz (mulB_ok x y p false)⟩).kp ka)
      have D1 := Lib.hid dz
      have hS3 := keepRR k3a hS2
      have h3 := h2.trans k3a
      clear hS2 h2 k3 k3a rz dz vz
      obtain ⟨s0, s1, s2, t0, t1, t2⟩ := id hS3
      go_wp2_with fail
      generalize hA3 : w3.alloc _ = A3 at *
      have hZ1 : A3.cell? ⟨w3.heap.size, 0, none⟩ = some (.bool z1.neg) ∧ A3.cell? ⟨w3.heap.size, 1, none⟩ = some (.slice z1.a z1.xs.length z1.c) ∧ A3.cell? ⟨w3.heap.size, 2, none⟩ = some (.int .i64 z1.e) := by rw [← hA3]; simp
      clear hA3 ka s0 s1 s2 t0 t1 t2
      refine (r3mul_any x y p false _ (hx.kp h3) (hy.kp h3)).mono ?_
      rintro e w4 ⟨z2, rfl, rz, dz, vz, k4⟩
      have ka := (Kp.refl w4).alloc (.cells #[.bool z2.neg, .slice z2.a z2.xs.length z2.c, .int .i64 z2.e] 24)
      have k4a := k4.trans ka
      have o2 := Lib.hid ((show z2.ok w4 from ⟨rz, vz (mulB_ok x y p false)⟩).kp ka)
      have D2 := Lib.hid dz
      have o1b := Lib.hid (o1.out.kp k4a)
      have hS4 := keepRR k4a hS3
      have hZ1b := keep3 k4a hZ1
      have h4 := h3.trans k4a
      clear hS3 hZ1 h3 k4 k4a rz dz vz o1
      obtain ⟨s0, s1, s2, t0, t1, t2⟩ := id hS4
      go_wp2_with fail
      generalize hA4 : w4.alloc _ = A4 at *
      have hZ2 : A4.cell? ⟨w4.heap.size, 0, none⟩ = some (.bool z2.neg) ∧ A4.cell? ⟨w4.heap.size, 1, none⟩ = some (.slice z2.a z2.xs.length z2.c) ∧ A4.cell? ⟨w4.heap.size, 2, none⟩ = some (.int .i64 z2.e) := by rw [← hA4]; simp
      clear hA4 ka s0 s1 s2 t0 t1 t2
      refine (rMulUp_of x y p _ _ _ (fun W k => mul_rd x y p true W (hx.kp (h4.trans k)) (hy.kp (h4.trans k)) (hT.kp (h4.trans k)))).mono ?_
      rintro e w5 ⟨z3, rfl, rz, dz, vz, k5⟩
      have ka := (Kp.refl w5).alloc (.cells #[.bool z3.neg, .slice z3.a z3.xs.length z3.c, .int .i64 z3.e] 24)
      have k5a := k5.trans ka
      have o3 := Lib.hid ((show z3.ok w5 from ⟨rz, vz (mulB_ok x y p true)⟩).kp ka)
      have D3 := Lib.hid dz
      have o1c := Lib.hid (o1b.out.kp k5a)
      have o2c := Lib.hid (o2.out.kp k5a)
      have hS5 := keepRR k5a hS4
      have hZ1c := keep3 k5a hZ1b
      have hZ2c := keep3 k5a hZ2
      have h5 := h4.trans k5a
      clear hS4 hZ1b hZ2 h4 k5 k5a rz dz vz o1b o2
      obtain ⟨s0, s1, s2, t0, t1, t2⟩ := id hS5
      go_wp2_with fail
      generalize hA5 : w5.alloc _ = A5 at *
      have hZ3 : A5.cell? ⟨w5.heap.size, 0, none⟩ = some (.bool z3.neg) ∧ A5.cell? ⟨w5.heap.size, 1, none⟩ = some (.slice z3.a z3.xs.length z3.c) ∧ A5.cell? ⟨w5.heap.size, 2, none⟩ = some (.int .i64 z3.e) := by rw [← hA5]; simp
      clear hA5 ka s0 s1 s2 t0 t1 t2
      refine (r3mul_any x y p true _ (hx.kp h5) (hy.kp h5)).mono ?_
      rintro e w6 ⟨z4, rfl, rz, dz, vz, k6⟩
      have ka := (Kp.refl w6).alloc (.cells #[.bool z4.neg, .slice z4.a z4.xs.length z4.c, .int .i64 z4.e] 24)
      have k6a := k6.trans ka
      have o4 := Lib.hid ((show z4.ok w6 from ⟨rz, vz (mulB_ok x y p true)⟩).kp ka)
      have D4 := Lib.hid dz
      have o1d := Lib.hid (o1c.out.kp k6a)
      have o2d := Lib.hid (o2c.out.kp k6a)
      have o3d := Lib.hid (o3.out.kp k6a)
      obtain ⟨a0, a1, a2⟩ := keep3 k6a hZ1c
      obtain ⟨b0, b1, b2⟩ := keep3 k6a hZ2c
      have hZ3d := keep3 k6a hZ3
      have h6 := h5.trans k6a
      clear hS5 hZ1c hZ2c hZ3 h5 k6 k6a rz dz vz o1c o2c o3
      go_upto_region 9 with fail
      generalize hA6 : w6.alloc _ = A6 at *
      have hZ4 : A6.cell? ⟨w6.heap.size, 0, none⟩ = some (.bool z4.neg) ∧ A6.cell? ⟨w6.heap.size, 1, none⟩ = some (.slice z4.a z4.xs.length z4.c) ∧ A6.cell? ⟨w6.heap.size, 2, none⟩ = some (.int .i64 z4.e) := by rw [← hA6]; simp
      clear hA6 ka
      have E1 := Lib.hid (is_ok z1 z2 (mulB x y p false).2 A6 o1d.out o2d.out (D1.out.trans D2.out.symm) (fun h => D1.out.trans (mulB_zero x y p false h)))
      go_wp2_with fail
      refine E1.out.mono ?_
      rintro e w7 ⟨rfl, k7⟩
      have E2 := Lib.hid (is_ok z3 z4 (mulB x y p true).2 w7 (o3d.out.kp k7) (o4.out.kp k7) (D3.out.trans D4.out.symm) (fun h => D3.out.trans (mulB_zero x y p true h)))
      obtain ⟨c0, c1, c2⟩ := keep3 k7 hZ3d
      obtain ⟨d0, d1, d2⟩ := keep3 k7 hZ4
      clear a0 a1 a2 b0 b1 b2 hZ3d hZ4
      go_wp2_with fail
      refine E2.out.mono ?_
      rintro e w8 ⟨rfl, k8⟩
      go_wp2_with fail
      go_ret
      exact ⟨rfl, (h6.trans k7).trans k8⟩
end Go.Proofs.YtkkiinbgjjjcoaaGreatDoor
end
