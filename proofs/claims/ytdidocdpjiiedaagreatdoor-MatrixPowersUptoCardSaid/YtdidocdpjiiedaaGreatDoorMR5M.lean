/-
  Walks: the fifth reference's list of the pairs of ends.
  Walks: the law's own is; the law RoundSums.
  Walks: the second reference's times, Product; the third one's Mul.
  Walks: the second reference's Product; the third one's Mul.
  A region that draws its order, whose last operation waits for all others: the others first, then the last one.
  Walks: the fifth reference's Mul.
-/
import Derived.Deep.DeepFit
import Derived.Test.YtdidocdpjiiedaaGreatDoorMIvS
import Derived.Test.YtdidocdpjiiedaaGreatDoorMR5B
import Derived.Test.YtdidocdpjiiedaaGreatDoorMR3C
import Derived.Deep.RegionHeld3
import Derived.WalkKit
import Derived.Deep.CutRange
import Derived.Deep.LoopGhost
import Derived.Test.YtdidocdpjiiedaaGreatDoorMR5D
section
namespace Go.Proofs.YtdidocdpjiiedaaGreatDoor
open Go.RowKit

/-- block g holds the pairs of the ends -/
def PairC (w : World) (g : Nat) (x y : RI) : Prop := ∀ (k : Nat) (q : RD × RD), (pairR x y)[k]? = some q →
  (w.cell? ⟨g, k * 6, none⟩ = some (.bool q.1.neg) ∧ w.cell? ⟨g, k * 6 + 1, none⟩ = some (.slice q.1.a q.1.xs.length q.1.c) ∧ w.cell? ⟨g, k * 6 + 2, none⟩ = some (.int .i64 q.1.e)) ∧
  (w.cell? ⟨g, k * 6 + 3, none⟩ = some (.bool q.2.neg) ∧ w.cell? ⟨g, k * 6 + 4, none⟩ = some (.slice q.2.a q.2.xs.length q.2.c) ∧ w.cell? ⟨g, k * 6 + 5, none⟩ = some (.int .i64 q.2.e))
theorem PairC.kp {w w' : World} {g : Nat} {x y : RI} (h : PairC w g x y) (k : Kp w w') : PairC w' g x y := fun i q hq => keep33 k (h i q hq)
theorem pairC_of {w : World} {g : Nat} {x y : RI} {t : TypeId} (h : w.heap[g]? = some (.cells (pairCs x y) t (0, 0))) : PairC w g x y := by
  have key (i : Nat) : w.cell? ⟨g, i, none⟩ = (pairCs x y)[i]? := cell_of_row w g i _ t (0, 0) h
  intro k q hq
  match k, hq with
  | 0, h => cases h; simp only [key]; exact ⟨⟨rfl, rfl, rfl⟩, rfl, rfl, rfl⟩
  | 1, h => cases h; simp only [key]; exact ⟨⟨rfl, rfl, rfl⟩, rfl, rfl, rfl⟩
  | 2, h => cases h; simp only [key]; exact ⟨⟨rfl, rfl, rfl⟩, rfl, rfl, rfl⟩
  | 3, h => cases h; simp only [key]; exact ⟨⟨rfl, rfl, rfl⟩, rfl, rfl, rfl⟩
  | k + 4, h => simp [pairR] at h
theorem buildS4 (a0 a1 a2 a3 a4 a5 b0 b1 b2 b3 b4 b5 c0 c1 c2 c3 c4 c5 d0 d1 d2 d3 d4 d5 : Value) (w : World) :
    (Instr.buildSlice 131 4 #[(0, .agg #[a0, a1, a2, a3, a4, a5]), (1, .agg #[b0, b1, b2, b3, b4, b5]), (2, .agg #[c0, c1, c2, c3, c4, c5]), (3, .agg #[d0, d1, d2, d3, d4, d5])]).run Tryz.prog w = .ok (.slice (some ⟨w.heap.size, 0, none⟩) 4 4) (w.alloc (.cells #[a0, a1, a2, a3, a4, a5, b0, b1, b2, b3, b4, b5, c0, c1, c2, c3, c4, c5, d0, d1, d2, d3, d4, d5] 133)) := by kernel_rfl
theorem wpList_buildS4 {w : World} {ops : Array Oper} {rest : List Oper} {o : Oper} {a : Act} {Q : Exit → Act → World → Prop} (hgd : o.guard = none) (x0 x1 x2 x3 : Operand)
    (ho : o.op = .buildSlice 131 4 #[(0, x0), (1, x1), (2, x2), (3, x3)]) (x y : RI)
    (h0 : a.eval x0 = .agg #[.bool x.lo.neg, .slice x.lo.a x.lo.xs.length x.lo.c, .int .i64 x.lo.e, .bool y.lo.neg, .slice y.lo.a y.lo.xs.length y.lo.c, .int .i64 y.lo.e]) (h1 : a.eval x1 = .agg #[.bool x.lo.neg, .slice x.lo.a x.lo.xs.length x.lo.c, .int .i64 x.lo.e, .bool y.hi.neg, .slice y.hi.a y.hi.xs.length y.hi.c, .int .i64 y.hi.e])
    (h2 : a.eval x2 = .agg #[.bool x.hi.neg, .slice x.hi.a x.hi.xs.length x.hi.c, .int .i64 x.hi.e, .bool y.lo.neg, .slice y.lo.a y.lo.xs.length y.lo.c, .int .i64 y.lo.e]) (h3 : a.eval x3 = .agg #[.bool x.hi.neg, .slice x.hi.a x.hi.xs.length x.hi.c, .int .i64 x.hi.e, .bool y.hi.neg, .slice y.hi.a y.hi.xs.length y.hi.c, .int .i64 y.hi.e])
    (h : wpList Tryz.prog ops Q rest (a.put o.dst (.slice (some ⟨w.heap.size, 0, none⟩) 4 4)) (w.alloc (.cells (pairCs x y) 133))) : wpList Tryz.prog ops Q (o :: rest) a w :=
  wpList_plain hgd fun _ hK => by
    unfold Oper.wp execOp
    have e : (#[(0, x0), (1, x1), (2, x2), (3, x3)].map fun (i, x) => ((i : Nat), a.eval x)) = #[(0, a.eval x0), (1, a.eval x1), (2, a.eval x2), (3, a.eval x3)] := by simp
    simp only [ho, e, h0, h1, h2, h3, buildS4, Sem.run_bind, Result.andThen_ok]
    exact hK _ _ h
set_option maxRecDepth 100000 in
set_option maxHeartbeats 8000000 in
theorem r5ends_any (x y : RI) (w : World) :
    Calls Tryz.prog 153 #[.agg #[.bool x.lo.neg, .slice x.lo.a x.lo.xs.length x.lo.c, .int .i64 x.lo.e, .bool x.hi.neg, .slice x.hi.a x.hi.xs.length x.hi.c, .int .i64 x.hi.e, .bool x.all], .agg #[.bool y.lo.neg, .slice y.lo.a y.lo.xs.length y.lo.c, .int .i64 y.lo.e, .bool y.hi.neg, .slice y.hi.a y.hi.xs.length y.hi.c, .int .i64 y.hi.e, .bool y.all]] w fun e w' => ∃ g, e = .returned (.slice (some ⟨g, 0, none⟩) 4 4) ∧ PairC w' g x y ∧ Kp w w' ∧ w.heap.size ≤ g := by
  go_enter Tryz.func153, Tryz.ntmps153
  go_upto_region 1 with fail
  generalize hW : ((w.alloc _).alloc _) = W at *
  have hk : Kp w W := hW ▸ ((Kp.refl w).alloc _).alloc _
  have hS : (W.cell? ⟨w.heap.size, 0, none⟩ = some (.bool x.lo.neg) ∧ W.cell? ⟨w.heap.size, 1, none⟩ = some (.slice x.lo.a x.lo.xs.length x.lo.c) ∧ W.cell? ⟨w.heap.size, 2, none⟩ = some (.int .i64 x.lo.e) ∧ W.cell? ⟨w.heap.size, 3, none⟩ = some (.bool x.hi.neg) ∧ W.cell? ⟨w.heap.size, 4, none⟩ = some (.slice x.hi.a x.hi.xs.length x.hi.c) ∧ W.cell? ⟨w.heap.size, 5, none⟩ = some (.int .i64 x.hi.e) ∧ W.cell? ⟨w.heap.size, 6, none⟩ = some (.bool x.all)) ∧ W.cell? ⟨w.heap.size + 1, 0, none⟩ = some (.bool y.lo.neg) ∧ W.cell? ⟨w.heap.size + 1, 1, none⟩ = some (.slice y.lo.a y.lo.xs.length y.lo.c) ∧ W.cell? ⟨w.heap.size + 1, 2, none⟩ = some (.int .i64 y.lo.e) ∧ W.cell? ⟨w.heap.size + 1, 3, none⟩ = some (.bool y.hi.neg) ∧ W.cell? ⟨w.heap.size + 1, 4, none⟩ = some (.slice y.hi.a y.hi.xs.length y.hi.c) ∧ W.cell? ⟨w.heap.size + 1, 5, none⟩ = some (.int .i64 y.hi.e) ∧ W.cell? ⟨w.heap.size + 1, 6, none⟩ = some (.bool y.all) := by rw [← hW]; simp
  clear hW
  obtain ⟨⟨s0, s1, s2, s3, s4, s5, s6⟩, t0, t1, t2, t3, t4, t5, t6⟩ := hS
  go_wp2_with (first | refine wpList_buildS4 rfl _ _ _ _ rfl x y rfl rfl rfl rfl ?_ | fail)
  go_ret
  exact ⟨_, rfl, pairC_of (heap_alloc_new W _), hk.alloc _, hk.size⟩
end Go.Proofs.YtdidocdpjiiedaaGreatDoor
end

section
namespace Go.Proofs.YtdidocdpjiiedaaGreatDoor
open Go.RowKit

end Go.Proofs.YtdidocdpjiiedaaGreatDoor
end

section
namespace Go.Proofs.YtdidocdpjiiedaaGreatDoor
open Go.RowKit

set_option maxRecDepth 100000 in
set_option maxHeartbeats 4000000 in
theorem r2times_any (a b : Option Addr) (xs ys : List Nat) (c d : Nat) (w : World) (hx : Rd w a xs) (hy : Rd w b ys) (hxl : xs.length ≤ 1000) (hyl : ys.length ≤ 1000) :
    Calls Tryz.prog 197 #[.slice a xs.length c, .slice b ys.length d] w (NatOut w (val xs * val ys)) := by
  have hmk := make_u32 ((xs.length : Int) + ys.length + 1) (xs.length + ys.length + 1) (by omega) (by omega)
  go_enter Tryz.func197, Tryz.ntmps197
  go_wp2_with fail
  clear hmk
  go_loopw [6] (fun ix wr => ∃ (i : Nat) (zs : List Nat), i ≤ xs.length ∧ ix = .int .i64 i ∧ zs.length = xs.length + ys.length + 1 ∧ Blk wr w.heap.size zs ∧ Lt32 zs ∧
      val zs = val (xs.take i) * val ys ∧ (∀ j, i + ys.length ≤ j → nth zs j = 0) ∧ Kp w wr) (fun ix _ => xs.length - (intOf ix).toNat)
  case atStart => exact ⟨0, _, Nat.zero_le _, rfl, by simp, Blk.made _ _, .replicate _, by simp [val, val_replicate], fun j _ => nth_replicate _ _, (Kp.refl _).alloc _⟩
  case round =>
    obtain ⟨i, zs, hi, rfl, hzl, hb, hz32, hvz, hzero, hkp⟩ := hrel
    have Hvz := Lib.hid hvz
    have Hzl := Lib.hid hzl
    have Hzero := Lib.hid hzero
    clear hvz hzero
    by_cases hlt : i < xs.length
    · go_wp2_with fail
      obtain ⟨wo, hwo⟩ : ∃ wo : World, wo = wr := ⟨_, rfl⟩
      subst hwo
      go_loopw [7, 8] (fun cy ix wr => ∃ (k c : Nat) (us : List Nat), k ≤ ys.length ∧ ix = .int .i64 k ∧ cy = .int .u64 c ∧ c < 4294967296 ∧ us.length = xs.length + ys.length + 1 ∧ Blk wr w.heap.size us ∧ Lt32 us ∧
        val us + 4294967296 ^ (i + k) * c = val zs + 4294967296 ^ i * (nth xs i * val (ys.take k)) ∧ (∀ j, i + ys.length ≤ j → nth us j = 0) ∧ Kp w wr) (fun _ ix _ => ys.length - (intOf ix).toNat)
      case atStart => exact ⟨0, 0, zs, Nat.zero_le _, rfl, rfl, by omega, Hzl.out, hb, hz32, by simp [val], Hzero.out, hkp⟩
      case round =>
        obtain ⟨k, cy, us, hk, rfl, rfl, hcy, hul, hb, hu32, hvu, huz, hkp⟩ := hrel
        have Hvu := Lib.hid hvu
        have Hul := Lib.hid hul
        have Huz := Lib.hid huz
        clear hvu huz
        by_cases hlt2 : k < ys.length
        · obtain ⟨b1, o1, rfl, hcx⟩ := (hx.kp hkp).some hlt
          have hx1 := hcx i hlt
          have bx := hx.lt32.nth i
          obtain ⟨b2, o2, rfl, hcy2⟩ := (hy.kp hkp).some hlt2
          have hy1 := hcy2 k hlt2
          have by' := hy.lt32.nth k
          have bu := hu32.nth (i + k)
          have hs1 := hb.cell (i := i + k) (by omega)
          have hs2 := hb.frozen (i + k)
          have hp1 := prod32 bx by'
          have hp0 : 0 ≤ (nth xs i : Int) * nth ys k := Int.mul_nonneg (by omega) (by omega)
          clear hcy2 hcx
          have hq1 := prodN bx by'
          have hi1 : (0 : Int) ≤ (i : Int) + k := by omega
          have hi2 : (i : Int) + k < ((xs.length + ys.length + 1 : Nat) : Int) := by omega
          have hi3 : (0 : Int) ≤ (i : Int) := by omega
          have hi4 : (0 : Int) ≤ (k : Int) := by omega
          have hi5 : (i : Int) < (xs.length : Int) := by omega
          have hi6 : (k : Int) < (ys.length : Int) := by omega
          have Hst := Lib.hid (mul_step (zs := us) (j := i + k) (x := nth xs i) (y := nth ys k) (by omega) Hvu.out rfl)
          have Hcl := Lib.hid (and_lowI (x := (nth xs i : Int) * nth ys k + nth us (i + k) + cy) (s := nth xs i * nth ys k + nth us (i + k) + cy) (by push_cast; rfl) (by omega))
          go_wp2_with fail
          go_quiet (fail)
          go_wp2_with fail
          go_roundw
          case rel =>
            refine ⟨k + 1, (nth xs i * nth ys k + nth us (i + k) + cy) / 4294967296, us.set (i + k) ((nth xs i * nth ys k + nth us (i + k) + cy) % 4294967296), by omega, by go_num, by rw [cast_div3], by omega, by simp [Hul.out], (hb.kp ((Kp.refl _).drewN _)).put Hcl.out, hu32.set _ _ (by omega), ?_, fun j hj => ?_, (hkp.drewN _).set (Nat.le_refl _) _⟩
            · rw [show i + (k + 1) = i + k + 1 from by omega, Hst.out, val_take_step ys, Nat.mul_add, Nat.mul_add, Nat.pow_add]
              congr 2
              rw [Nat.mul_assoc, Nat.mul_left_comm (nth xs i)]
            · rw [nth_set_ne (by omega)]; exact Huz.out j hj
          case measure => simp [intOf]; omega
        · have hke : k = ys.length := by omega
          have HV := Lib.hid (show val us + 4294967296 ^ (i + ys.length) * cy = val zs + 4294967296 ^ i * (nth xs i * val ys) by
            have := Hvu.out
            rw [hke, List.take_of_length_le (Nat.le_refl _)] at this
            exact this)
          clear hke Hvu
          go_wp2_with fail
          clear hlt2 hk
          obtain ⟨wp, hwp⟩ : ∃ wp : World, wp = wr := ⟨_, rfl⟩
          subst hwp
          go_loopw [7, 10] (fun cy ix wr => ∃ (k c : Nat) (vs : List Nat), i + ys.length ≤ k ∧ k ≤ i + ys.length + 1 ∧ (k = i + ys.length + 1 → c = 0) ∧ ix = .int .i64 k ∧ cy = .int .u64 c ∧ c < 4294967296 ∧ vs.length = xs.length + ys.length + 1 ∧ Blk wr w.heap.size vs ∧ Lt32 vs ∧
            val vs + 4294967296 ^ k * c = val zs + 4294967296 ^ i * (nth xs i * val ys) ∧ (∀ j, k ≤ j → nth vs j = 0) ∧ Kp w wr) (fun _ ix _ => i + ys.length + 1 - (intOf ix).toNat)
          case atStart => exact ⟨i + ys.length, cy, us, Nat.le_refl _, by omega, fun h => absurd h (by omega), by go_num, rfl, hcy, Hul.out, hb, hu32, HV.out, Huz.out, hkp⟩
          case round =>
            obtain ⟨k3, c3, vs, hk1, hk2, hk3, rfl, rfl, hc3, hvl, hb, hv32, hvv, hvz, hkp⟩ := hrel
            have HVV := Lib.hid hvv
            have Hvl := Lib.hid hvl
            have Hvz3 := Lib.hid hvz
            clear hvv hvz
            by_cases h0 : c3 = 0
            · have HE := Lib.hid (show val vs = val zs + 4294967296 ^ i * (nth xs i * val ys) by
                have := HVV.out
                rw [h0, Nat.mul_zero, Nat.add_zero] at this
                exact this)
              have hc0 : ¬ (0 : Int) < (c3 : Int) := by omega
              clear h0 hk3 HVV HV
              go_wp2_with fail
              go_roundw
              case rel =>
                refine ⟨i + 1, vs, by omega, by go_num, Hvl.out, hb, hv32, ?_, fun j hj => Hvz3.out j (by omega), hkp⟩
                rw [HE.out, Hvz.out, val_take_step xs, Nat.add_mul, Nat.mul_assoc]
              case measure => simp [intOf]; omega
            · have hke : k3 = i + ys.length := by
                rcases Nat.lt_or_ge (i + ys.length) k3 with h | h
                · exact absurd (hk3 (by omega)) h0
                · omega
              subst hke
              have hc0 : (0 : Int) < (c3 : Int) := by omega
              have hs1 := hb.cell (i := i + ys.length) (by omega)
              have hs2 := hb.frozen (i + ys.length)
              rw [Hvz3.out _ (Nat.le_refl _)] at hs1
              have HL := Lib.hid (mul_last (zs := vs) (j := i + ys.length) (c := c3) (V := val zs) (W := 4294967296 ^ i * (nth xs i * val ys)) (by omega) (Hvz3.out _ (Nat.le_refl _)) HVV.out)
              have Hcl := Lib.hid (and_lowI (x := (c3 : Int)) (s := c3) rfl (by omega))
              clear h0 hk3 HVV HV
              go_wp2_with fail
              go_roundw
              case rel =>
                refine ⟨i + ys.length + 1, 0, vs.set (i + ys.length) c3, by omega, by omega, fun _ => rfl, by go_num, by congr 1; omega, by omega, by simp [Hvl.out], hb.put (by rw [Hcl.out]; omega), hv32.set _ _ hc3, by rw [Nat.mul_zero, Nat.add_zero]; exact HL.out, fun j hj => ?_, hkp.set (Nat.le_refl _) _⟩
                rw [nth_set_ne (by omega)]; exact Hvz3.out j (by omega)
              case measure => simp [intOf]; omega
    · have e2 := Hvz.out
      rw [List.take_of_length_le (by omega)] at e2
      have E2 := Lib.hid e2
      have HT := Lib.hid (r2trim_any (some ⟨w.heap.size, 0, none⟩) zs (xs.length + ys.length + 1) wr (hb.rd hz32) (by omega) (by unfold maxLen; omega) (by omega))
      rw [hzl] at HT
      have hkk := Lib.hid hkp
      clear e2 hb hkp hzl
      go_wp2_with fail
      with_reducible refine HT.out.mono ?_
      rintro e w7 ⟨a6, c6, rfl, l6, m6, r6, k6⟩
      go_wp2_with fail
      go_ret
      rw [← E2.out]
      exact ⟨a6, c6, rfl, l6, m6, r6, hkk.out.trans k6⟩
end Go.Proofs.YtdidocdpjiiedaaGreatDoor
end

section
namespace Go.Proofs.YtdidocdpjiiedaaGreatDoor
open Go.RowKit

theorem rndS_canon {s : Bool} {N p : Nat} {e : Int} {up : Bool} (hN : N ≠ 0) : rndS s (oddp N) (e + tz N) false p up = rndS s N e false p up := by
  have h : ∀ u : Bool, rcut (oddp N) (e + tz N) false p u = rcut N e false p u := by
    intro u
    have h1 := rcut_shift (oddp_ne_zero hN) (tz N) (e + tz N) false p u
    rw [← (oddp_spec hN).2, show e + (tz N : Int) - (tz N : Nat) = e from by omega] at h1
    exact h1.symm
  unfold rndS
  rw [h]
theorem prodD_zero0 {d f : Dy} (h : (prodD d f).m = 0) : prodD d f = .zero := by
  unfold prodD canon at h ⊢
  split
  · rfl
  · next h0 =>
    rw [if_neg h0] at h
    have := (oddp_spec h0).1
    have h2 : oddp (d.m * f.m) = 0 := h
    rw [h2] at this
    exact absurd this (by decide)
theorem prodD_small {d f : Dy} (hd : d.ok) (hf : f.ok) : (limbs (prodD d f).m).length ≤ 2000 ∧ -100000 ≤ (prodD d f).e ∧ (prodD d f).e ≤ 100000 := by
  have h1 := bits_mul_le d.m f.m
  have h2 := dok_bits hd
  have h3 := dok_bits hf
  have e1 := ok_e hd
  have e2 := ok_e hf
  unfold prodD canon
  split
  · exact ⟨by show (limbs 0).length ≤ 2000; rw [limbs_zero]; exact Nat.zero_le _, by decide, by decide⟩
  · next h0 =>
    have h4 := bits_oddp h0
    exact ⟨limbs_of_bits (by show bits (oddp _) ≤ _; omega), by show _ ≤ d.e + f.e + (tz _ : Int); omega, by show d.e + f.e + (tz _ : Int) ≤ _; omega⟩
/-- the product, rounded, is that of its canonical form -/
theorem prod_rnd {w w' : World} {x y : RD} (hx : x.ok w) (hy : y.ok w') {q : Nat} {up : Bool} (h0 : fltB (q : Int) [x, y] = 0) (hp : q ≤ 512) :
    mulB x y (q : Int) up = rndE (rndS (prodD x.dy y.dy).neg (prodD x.dy y.dy).m (prodD x.dy y.dy).e false q up) := by
  unfold mulB
  rw [if_pos h0]
  by_cases hz : x.xs.length = 0 ∨ y.xs.length = 0
  · rw [if_pos hz]
    have hm : x.dy.m * y.dy.m = 0 := by
      rcases hz with hz | hz
      · rw [(rdok_zero hx).1 hz, Nat.zero_mul]
      · rw [(rdok_zero hy).1 hz, Nat.mul_zero]
    have hP : prodD x.dy y.dy = .zero := by unfold prodD; rw [hm, canon_zero]
    have h2 := rndS_rnd (d := .zero) Dy.ok_zero hp up
    rw [Dy.iv_zero, rnd_zero] at h2
    rw [hP, h2]; rfl
  · rw [if_neg hz]
    have hm : x.dy.m * y.dy.m ≠ 0 := Nat.mul_ne_zero (fun k => hz (.inl ((rdok_zero hx).2 k))) (fun k => hz (.inr ((rdok_zero hy).2 k)))
    have hP : prodD x.dy y.dy = ⟨x.neg != y.neg, oddp (x.dy.m * y.dy.m), x.e + y.e + tz (x.dy.m * y.dy.m)⟩ := by
      unfold prodD canon; rw [if_neg hm]; rfl
    rw [hP, rndS_canon hm]
    rfl
set_option maxRecDepth 100000 in
set_option maxHeartbeats 4000000 in
theorem r2prod_dy (x y : RD) (w : World) (hx : x.ok w) (hy : y.ok w) :
    Calls Tryz.prog 177 #[.agg #[.bool x.neg, .slice x.a x.xs.length x.c, .int .i64 x.e], .agg #[.bool y.neg, .slice y.a y.xs.length y.c, .int .i64 y.e]] w (DyOut w (prodD x.dy y.dy)) := by
  have hlx := rdok_len hx
  have hly := rdok_len hy
  have hex := rdok_e hx
  have hey := rdok_e hy
  have HPl := Lib.hid (show (limbs (val x.xs * val y.xs)).length ≤ 256 from limbs_of_bits (Nat.le_trans (bits_mul_le _ _) (by
    have h2 : bits (val x.xs) ≤ 4096 := dok_bits (rdok_dy hx)
    have h3 : bits (val y.xs) ≤ 4096 := dok_bits (rdok_dy hy)
    omega)))
  have HP := Lib.hid (show prodD x.dy y.dy = canon (x.neg != y.neg) (val x.xs * val y.xs) (x.e + y.e) from rfl)
  have HTm := Lib.hid (fun W (k : Kp w W) => r2times_any x.a y.a x.xs y.xs x.c y.c W (hx.kp k).1.1 (hy.kp k).1.1 (by omega) (by omega))
  have HOf := Lib.hid (fun (W : World) (a : Option Addr) (c : Nat) (h : Rd W a (limbs (val x.xs * val y.xs))) (hc : (limbs (val x.xs * val y.xs)).length ≤ c) (hm : c ≤ maxLen) => show Calls Tryz.prog 162 #[.bool (!(x.neg == y.neg)), .slice a (limbs (val x.xs * val y.xs)).length c, .int .i64 (IntKind.i64.wrap (x.e + y.e))] W (DyOut W (prodD x.dy y.dy)) by
    rw [show IntKind.i64.wrap (x.e + y.e) = x.e + y.e from IntWalk.i64_in _ (by omega)]
    have := r2Of_any (x.neg != y.neg) a (limbs (val x.xs * val y.xs)) c (x.e + y.e) W h hc hm (by have := HPl.out; omega) (by omega) (by omega)
    rw [val_limbs] at this
    rw [HP.out]
    exact this)
  clear hx hy HPl HP
  generalize prodD x.dy y.dy = G at *
  go_enter Tryz.func177, Tryz.ntmps177
  go_upto_region 1 with fail
  generalize hW : (((w.alloc _).alloc _).alloc _) = W at *
  have hk : Kp w W := hW ▸ (((Kp.refl w).alloc _).alloc _).alloc _
  have hS0 : W.cell? ⟨w.heap.size, 0, none⟩ = some (.bool x.neg) ∧ W.cell? ⟨w.heap.size, 1, none⟩ = some (.slice x.a x.xs.length x.c) ∧ W.cell? ⟨w.heap.size, 2, none⟩ = some (.int .i64 x.e) ∧ W.cell? ⟨w.heap.size + 1, 0, none⟩ = some (.bool y.neg) ∧ W.cell? ⟨w.heap.size + 1, 1, none⟩ = some (.slice y.a y.xs.length y.c) ∧ W.cell? ⟨w.heap.size + 1, 2, none⟩ = some (.int .i64 y.e) := by rw [← hW]; exact keep6 ((Kp.refl _).alloc _) (by simp)
  have hB0 : Box3 W (w.heap.size + 2) (.bool false) (.slice none 0 0) (.int .i64 0) := hW ▸ Box3.new3 _ _ _ _ _ _ _
  clear hW
  have hS := keepRR (Kp.refl W).drew hS0
  have HB := Lib.hid (hB0.kp (Kp.refl W).drew)
  have hkd := hk.drew
  have n1 : w.heap.size ≠ w.heap.size + 2 := by omega
  have n2 : w.heap.size + 1 ≠ w.heap.size + 2 := by omega
  clear hS0 hB0 hk
  go_region_held3 (fun w' => w'.cell? ⟨w.heap.size, 0, none⟩ = some (.bool x.neg) ∧ w'.cell? ⟨w.heap.size, 1, none⟩ = some (.slice x.a x.xs.length x.c) ∧ w'.cell? ⟨w.heap.size, 2, none⟩ = some (.int .i64 x.e) ∧ w'.cell? ⟨w.heap.size + 1, 0, none⟩ = some (.bool y.neg) ∧ w'.cell? ⟨w.heap.size + 1, 1, none⟩ = some (.slice y.a y.xs.length y.c) ∧ w'.cell? ⟨w.heap.size + 1, 2, none⟩ = some (.int .i64 y.e)) (first | with_reducible assumption | with_reducible exact keepRR (by assumption) (by assumption) | with_reducible exact setRR (by assumption) (by assumption) (by assumption))
    (first
      | (go_at_call 197; (with_reducible refine (HTm.out _ hkd).mono ?_); rintro e v1 ⟨a1, c1, rfl, l1, m1, r1, j1⟩)
      | (go_at_call 162; (with_reducible refine (HOf.out _ a1 c1 r1 l1 m1).mono ?_); rintro e v2 ⟨a2, c2, rfl, r2, l2, m2, j2⟩; obtain ⟨q0, q1, q2, f0, f1, f2⟩ := (HB.out.kp j1).kp j2)
      | fail)
  have hkk := (hkd.trans j1).trans j2
  have hst := stored q0 q1 q2 (fun _ h => by cases h) (fun _ h => by cases h) (fun _ h => by cases h) (.bool G.neg) (.slice a2 (limbs G.m).length c2) (.int .i64 G.e)
  go_wp2_with fail
  generalize (((v2.setCell _ _).setCell _ _).setCell _ _) = W2 at hst ⊢
  obtain ⟨s0, s1, s2, _, s4, s5, _, _⟩ := hst
  refine bodyPost_ret (v := .agg #[.bool G.neg, .slice a2 (limbs G.m).length c2, .int .i64 G.e]) (by simp [results, Tryz.results177, go_sem, s0, s1, s2]) rfl ?_
  exact ⟨a2, c2, rfl, s4 _ _ r2, l2, m2, s5 _ hkk (by omega)⟩
set_option maxHeartbeats 4000000 in
set_option maxRecDepth 100000 in
theorem r3mul_any (x y : RD) (p : Int) (up : Bool) (w : World) (hx : x.rd w) (hy : y.rd w) :
    Calls Tryz.prog 154 #[.agg #[.bool x.neg, .slice x.a x.xs.length x.c, .int .i64 x.e], .agg #[.bool y.neg, .slice y.a y.xs.length y.c, .int .i64 y.e], .int .i64 p, .bool up] w (NumE w (mulB x y p up).1 (mulB x y p up).2) := by
  obtain ⟨D, hD⟩ : ∃ D, D = mulB x y p up := ⟨_, rfl⟩
  have HD := Lib.hid hD
  rw [← hD]
  clear hD
  go_enter Tryz.func154, Tryz.ntmps154
  go_wp2_with fail
  generalize hW : (((w.alloc _).alloc _).alloc _) = W at *
  have hk : Kp w W := hW ▸ (((Kp.refl w).alloc _).alloc _).alloc _
  have hS : W.cell? ⟨w.heap.size, 0, none⟩ = some (.bool x.neg) ∧ W.cell? ⟨w.heap.size, 1, none⟩ = some (.slice x.a x.xs.length x.c) ∧ W.cell? ⟨w.heap.size, 2, none⟩ = some (.int .i64 x.e) ∧ W.cell? ⟨w.heap.size + 1, 0, none⟩ = some (.bool y.neg) ∧ W.cell? ⟨w.heap.size + 1, 1, none⟩ = some (.slice y.a y.xs.length y.c) ∧ W.cell? ⟨w.heap.size + 1, 2, none⟩ = some (.int .i64 y.e) := by rw [← hW]; exact keep6 ((Kp.refl _).alloc _) (by simp)
  have hB : Box3 W (w.heap.size + 2) (.bool false) (.slice none 0 0) (.int .i64 0) := hW ▸ Box3.new3 _ _ _ _ _ _ _
  clear hW
  refine (r3fault_any x y p _ (hx.kp hk) (hy.kp hk)).mono ?_
  rintro e w1 ⟨rfl, hk1⟩
  have hS1 := keepRR hk1 hS
  have hB1 := hB.kp hk1
  have hk2 := hk.trans hk1
  clear hS hB hk hk1
  by_cases h0 : fltB p [x, y] = 0
  · obtain ⟨hv, hp0, hp1⟩ := fltB_zero.1 h0
    obtain ⟨q, rfl⟩ := Int.eq_ofNat_of_zero_le (show 0 ≤ p by omega)
    have hxo : x.ok w1 := ⟨hx.kp hk2, by simpa using (List.all_eq_true.1 hv) x (by simp)⟩
    have hyo : y.ok w1 := ⟨hy.kp hk2, by simpa using (List.all_eq_true.1 hv) y (by simp)⟩
    have HD2 := Lib.hid (show D = rndE (rndS (prodD x.dy y.dy).neg (prodD x.dy y.dy).m (prodD x.dy y.dy).e false q up) by
      rw [HD.out, prod_rnd hxo hyo h0 (by omega)])
    rw [h0]
    clear h0 hv HD
    obtain ⟨hsl, hse0, hse1⟩ := prodD_small (rdok_dy hxo) (rdok_dy hyo)
    have HZ := Lib.hid (@prodD_zero0 x.dy y.dy)
    obtain ⟨s0, s1, s2, t0, t1, t2⟩ := hS1
    have HS := Lib.hid (r2prod_dy x y w1 hxo hyo)
    clear hxo hyo
    go_wp2_with fail
    refine HS.out.mono ?_
    rintro e w3 ⟨a3, c3, rfl, r3, l3, m3, k3⟩
    have hEx := r3exact_dy (prodD x.dy y.dy) a3 c3 q up w3 r3 l3 m3 (by omega) hse0 hse1 (by omega) (by omega) (fun h => by rw [HZ.out h]; decide)
    rw [← HD2.out] at hEx
    have HE := Lib.hid hEx
    clear hEx HS HZ s0 s1 s2 t0 t1 t2 hse0 hse1 hsl
    generalize prodD x.dy y.dy = G at *
    go_wp2_with fail
    refine HE.out.mono ?_
    rintro e w5 ⟨z, rfl, hzr, hzd, hzv, hk5⟩
    obtain ⟨q0, q1, q2, f0, f1, f2⟩ := (hB1.kp k3).kp hk5
    have hk6 := (hk2.trans k3).trans hk5
    clear hB1 hk5 HE r3
    have hst := stored q0 q1 q2 (fun _ h => by cases h) (fun _ h => by cases h) (fun _ h => by cases h) (.bool z.neg) (.slice z.a z.xs.length z.c) (.int .i64 z.e)
    go_wp2_with fail
    generalize (((w5.setCell _ _).setCell _ _).setCell _ _) = W2 at hst ⊢
    obtain ⟨s0, s1, s2, _, s4, s5, _, _⟩ := hst
    refine bodyPost_ret (v := .tuple #[.agg #[.bool z.neg, .slice z.a z.xs.length z.c, .int .i64 z.e], .int .i64 D.2]) (by simp [results, Tryz.results154, go_sem, s0, s1, s2]) rfl ?_
    exact ⟨z, rfl, ⟨s4 _ _ hzr.1, hzr.2⟩, hzd, hzv, s5 _ hk6 (by omega)⟩
  · have hz2 : (fltB p [x, y] != 0) = true := by simpa using h0
    have HD2 := Lib.hid (show D = (.zero, fltB p [x, y]) by rw [HD.out]; unfold mulB; rw [if_neg h0])
    clear h0 hS1
    obtain ⟨q0, q1, q2, f0, f1, f2⟩ := hB1
    go_wp2_with fail
    have hst := stored q0 q1 q2 (fun _ h => by cases h) (fun _ h => by cases h) (fun _ h => by cases h) (.bool false) (.slice none 0 0) (.int .i64 0)
    generalize (((w1.setCell _ _).setCell _ _).setCell _ _) = W9 at hst ⊢
    obtain ⟨s0, s1, s2, _, s4, s5, _, _⟩ := hst
    refine bodyPost_ret (v := .tuple #[.agg #[.bool false, .slice none 0 0, .int .i64 0], .int .i64 (fltB p [x, y])]) (by simp [results, Tryz.results154, go_sem, s0, s1, s2]) rfl ?_
    rw [HD2.out]
    exact numE_zero rfl (s5 _ hk2 (by omega))
end Go.Proofs.YtdidocdpjiiedaaGreatDoor
end

section
namespace Go.Proofs.YtdidocdpjiiedaaGreatDoor
open Go.RowKit

section
variable {P : Program} {ops : Array Oper} {Q : Exit → Act → World → Prop} {md : Region.Mode} {S : World → Prop}

/-- what is wanted behind all operations but number z: that it runs and leaves Q -/
def LastQ (P : Program) (ops : Array Oper) (z : Nat) (Q : Exit → Act → World → Prop) : Exit → Act → World → Prop
  | .normal, a, w => wpOp P ops Q z (Q .normal) a w
  | e, a, w => Q e a w
/-- z is the last operation, all edges lead downward, and each other operation is waited for -/
def lastIs (md : Region.Mode) (ops : Array Oper) (z : Nat) : Bool :=
  (z + 1 == ops.size) &&
  ((List.range ops.size).all fun i => ((ops[i]?).map fun o => o.after.all fun e => !Region.binds md e || decide (e.on < i)).getD false) &&
  ((List.range z).all fun i => (List.range ops.size).any fun j => decide (i < j) && ((ops[j]?).map fun o => o.after.any fun e => Region.binds md e && (e.on == i)).getD false)

theorem wpOp_last {i : Nat} {K : Act → World → Prop} {a : Act} {w : World} {z : Nat} (h : wpOp P ops (LastQ P ops z Q) i K a w) : wpOp P ops Q i K a w := by
  unfold wpOp at *
  split
  · rename_i ho; simpa [ho] using h
  · rename_i o ho
    simp only [ho] at h
    split
    · rename_i hw
      simp only [hw, if_true] at h
      refine h.imp (fun h => ?_) (fun h => h)
      unfold Oper.wp at *
      generalize (execOp a.eval o).run P w = r at *
      cases r with
      | ok n w' =>
        cases n <;> simp only [Oper.upon] at h ⊢ <;> first | exact h | exact Calls.mono h (fun e w'' he => by cases e <;> exact he)
      | halt x w' => cases x <;> simp only [Oper.upon] at h ⊢ <;> exact h
    · rename_i hw; simp only [hw] at h; exact h

theorem lastIs_spec {z : Nat} (h : lastIs md ops z = true) :
    z + 1 = ops.size ∧ (∀ i o, ops[i]? = some o → ∀ e ∈ o.after, Region.binds md e = true → e.on < i) ∧
    (∀ i, i < z → ∃ j o, i < j ∧ ops[j]? = some o ∧ ∃ e ∈ o.after, Region.binds md e = true ∧ e.on = i) := by
  unfold lastIs at h
  simp only [Bool.and_eq_true, beq_iff_eq, List.all_eq_true, List.mem_range, List.any_eq_true, decide_eq_true_eq] at h
  obtain ⟨⟨h1, h2⟩, h3⟩ := h
  refine ⟨h1, fun i o ho e he hb => ?_, fun i hi => ?_⟩
  · have := h2 i (Array.getElem?_eq_some_iff.1 ho).1
    rw [ho] at this
    simp only [Option.map_some, Option.getD_some] at this
    have := Array.all_eq_true_iff_forall_mem.1 this e he
    simpa [hb] using this
  · obtain ⟨j, hj, hij, hx⟩ := h3 i hi
    cases ho : ops[j]? with
    | none => rw [ho] at hx; simp at hx
    | some o =>
      rw [ho] at hx
      simp only [Option.map_some, Option.getD_some] at hx
      obtain ⟨e, he, hb⟩ := Array.any_eq_true'.1 hx
      simp only [Bool.and_eq_true, beq_iff_eq] at hb
      exact ⟨j, o, hij, ho, e, he, hb.1, hb.2⟩

/-- what is listed waits for nothing that is not -/
def Down (md : Region.Mode) (ops : Array Oper) (listed : Array Bool) : Prop :=
  ∀ j o, ops[j]? = some o → listed.getD j true = true → ∀ e ∈ o.after, Region.binds md e = true → listed.getD e.on false = true

theorem getD_sz {listed : Array Bool} {i : Nat} (h : i < listed.size) (c d : Bool) : listed.getD i c = listed.getD i d := by
  simp [h]

theorem ready_last {z : Nat} (h : lastIs md ops z = true) {listed : Array Bool} (hs : listed.size = ops.size) (hd : Down md ops listed) (hz : z ∈ Region.ready md ops listed) :
    ∀ i, i < z → listed.getD i false = true := by
  obtain ⟨h1, h2, h3⟩ := lastIs_spec h
  have key : ∀ n i, i < z → z - i ≤ n → listed.getD i false = true := by
    intro n
    induction n with
    | zero => intro i hi hn; omega
    | succ n ih =>
      intro i hi hn
      obtain ⟨j, o, hij, ho, e, he, hb, hon⟩ := h3 i hi
      have hj := (Array.getElem?_eq_some_iff.1 ho).1
      subst hon
      by_cases hjz : j = z
      · subst hjz
        obtain ⟨_, o', ho', hall⟩ := mem_ready.1 hz
        rw [ho] at ho'
        cases ho'
        exact hall e he hb
      · have := ih j (by omega) (by omega)
        exact hd j o ho (by rw [getD_sz (by omega) true false]; exact this) e he hb
  exact fun i hi => key _ i hi (Nat.le_refl _)

theorem ready_some {z : Nat} (h : lastIs md ops z = true) {listed : Array Bool} (hs : listed.size = ops.size) (hz : listed.getD z true = false) : Region.ready md ops listed ≠ [] := by
  obtain ⟨h1, h2, h3⟩ := lastIs_spec h
  have key : ∀ n i, i ≤ n → i < ops.size → listed.getD i true = false → ∃ k, k ∈ Region.ready md ops listed := by
    intro n
    induction n with
    | zero =>
      intro i hi hl hu
      obtain rfl : i = 0 := by omega
      refine ⟨0, mem_ready.2 ⟨hu, ops[0], by simp [hl], fun e he hb => ?_⟩⟩
      have := h2 0 ops[0] (by simp [hl]) e he hb
      omega
    | succ n ih =>
      intro i hi hl hu
      by_cases hx : ∃ e ∈ (ops[i]).after, Region.binds md e = true ∧ listed.getD e.on false = false
      · obtain ⟨e, he, hb, hf⟩ := hx
        have hlt := h2 i ops[i] (by simp [hl]) e he hb
        exact ih e.on (by omega) (by omega) (by rw [getD_sz (by omega) true false]; exact hf)
      · refine ⟨i, mem_ready.2 ⟨hu, ops[i], by simp [hl], fun e he hb => ?_⟩⟩
        cases hf : listed.getD e.on false with
        | true => rfl
        | false => exact absurd ⟨e, he, hb, hf⟩ hx
  obtain ⟨k, hk⟩ := key z z (Nat.le_refl _) (by omega) hz
  intro h0
  rw [h0] at hk
  cases hk

theorem wpAny_last {z : Nat} (h : lastIs md ops z = true) : ∀ (fuel : Nat) (listed : Array Bool) (a : Act) (w : World),
    listed.size = ops.size → Down md ops listed → listed.getD z true = false →
    wpAny P md ops (LastQ P ops z Q) fuel (listed.setIfInBounds z true) a w → wpAny P md ops Q (fuel + 1) listed a w := by
  obtain ⟨h1, h2, h3⟩ := lastIs_spec h
  have hrz : ∀ (listed : Array Bool), listed.size = ops.size → Down md ops listed → z ∈ Region.ready md ops listed → Region.ready md ops (listed.setIfInBounds z true) = [] := by
    intro listed hs hd hz
    refine List.eq_nil_iff_forall_not_mem.2 fun j hj => ?_
    obtain ⟨hu, o, ho, _⟩ := mem_ready.1 hj
    have hjl := (Array.getElem?_eq_some_iff.1 ho).1
    by_cases hjz : j = z
    · subst hjz; simp [hs, hjl] at hu
    · rw [getD_set_ne true (Ne.symm hjz)] at hu
      have := ready_last h hs hd hz j (by omega)
      rw [getD_sz (by omega) false true] at this
      rw [this] at hu; cases hu
  intro fuel
  induction fuel with
  | zero =>
    intro listed a w hs hd hz H
    refine ⟨fun h0 => absurd h0 (ready_some h hs hz), fun j hj => ?_⟩
    by_cases hjz : j = z
    · subst hjz
      refine wpOp_mono (fun a' w' hq => ?_) H.2
      exact ⟨H.1, hq⟩
    · have := ready_mono hj hjz
      rw [H.1] at this; cases this
  | succ fuel ih =>
    intro listed a w hs hd hz H
    refine ⟨fun h0 => absurd h0 (ready_some h hs hz), fun j hj => ?_⟩
    by_cases hjz : j = z
    · subst hjz
      have hn := hrz listed hs hd hj
      refine wpOp_mono (fun a' w' hq => ?_) (H.1 hn)
      exact wpAny_done hn hq _
    · have h4 := H.2 j (ready_mono hj hjz)
      obtain ⟨hju, oj, hoj, hall⟩ := mem_ready.1 hj
      refine wpOp_mono (fun a' w' h5 => ih (listed.setIfInBounds j true) a' w' (by simpa using hs) ?_ ?_ (by rw [Array.setIfInBounds_comm _ _ hjz]; exact h5)) (wpOp_last h4)
      · intro k o hk hl e he hb
        by_cases hkj : k = j
        · subst hkj
          rw [hoj] at hk
          cases hk
          exact getD_set_true (hall e he hb)
        · rw [getD_set_ne true (Ne.symm hkj)] at hl
          exact getD_set_true (hd k o hk hl e he hb)
      · rw [getD_set_ne true hjz]; exact hz

/-- the beginning: S is shown once, the last operation is kept for the end -/
theorem wp_region_last {id : Nat} {a : Act} {w : World} (z : Nat) (hm : P.follows .mixedOrders = true) (hz : lastIs .any ops z = true) (hS : S w.drew)
    (h : S w.drew → wpAnyH P .any ops (LastQ P ops z Q) S (ops.size - 1) ((Array.replicate ops.size false).setIfInBounds z true) a w.drew) : (Code.region id ops true).wp P Q a w := by
  have hsz := (lastIs_spec hz).1
  refine wp_region_any hm ?_
  have h0 := wpAny_last (P := P) (Q := Q) hz (ops.size - 1) (Array.replicate ops.size false) a w.drew (by simp) (fun j o ho hl => ?_) ?_ (wpAny_of_held _ _ _ _ (h hS))
  · rw [Nat.sub_add_cancel (by omega)] at h0
    exact h0
  · have := (Array.getElem?_eq_some_iff.1 ho).1
    simp [this] at hl
  · have : z < ops.size := by omega
    simp [this]
/-- the end: the last operation -/
theorem LastQ_run {z : Nat} {o : Oper} {a : Act} {w : World} (ho : ops[z]? = some o)
    (h : ∀ K' : Act → World → Prop, Shut (∀ a w, Q .normal a w → K' a w) → if Region.wanted o (yielded ops a.tmps) = true then Oper.wp P o a w K' Q else K' (a.put o.dst undef) w) : LastQ P ops z Q .normal a w := by
  show wpOp P ops Q z (Q .normal) a w
  have := h (Q .normal) (fun _ _ h => h)
  unfold wpOp
  simp only [ho]
  by_cases hw : Region.wanted o (yielded ops a.tmps) = true
  · rw [if_pos hw] at this ⊢
    exact .inl this
  · rw [if_neg hw] at this ⊢
    exact this
end
end Go.Proofs.YtdidocdpjiiedaaGreatDoor
end

section
namespace Go.Proofs.YtdidocdpjiiedaaGreatDoor
open Go.RowKit

theorem r3mul_ok (a b : RD) {p : Nat} (up : Bool) (h0 : 8 ≤ p) (h1 : p ≤ 512) (W : World) (ha : a.ok W) (hb : b.ok W) :
    Calls Tryz.prog 154 #[.agg #[.bool a.neg, .slice a.a a.xs.length a.c, .int .i64 a.e], .agg #[.bool b.neg, .slice b.a b.xs.length b.c, .int .i64 b.e], .int .i64 p, .bool up] W (NumE W (muP a.dy b.dy p up).1 (muP a.dy b.dy p up).2) := by
  have := r3mul_any a b (p : Int) up W ha.1 hb.1
  rwa [mulB_dy ha hb h0 h1 up] at this
/-- block g, of the call's own, holds a number d -/
def HasD (w0 w : World) (g : Nat) (z : RD) (d : Dy) : Prop := (w.cell? ⟨g, 0, none⟩ = some (.bool z.neg) ∧ w.cell? ⟨g, 1, none⟩ = some (.slice z.a z.xs.length z.c) ∧ w.cell? ⟨g, 2, none⟩ = some (.int .i64 z.e)) ∧ z.ok w ∧ z.dy = d ∧ Kp w0 w ∧ w0.heap.size ≤ g
theorem HasD.kp {w0 w w' : World} {g : Nat} {z : RD} {d : Dy} (h : HasD w0 w g z d) (k : Kp w w') : HasD w0 w' g z d :=
  ⟨keep3 k h.1, h.2.1.kp k, h.2.2.1, h.2.2.2.1.trans k, h.2.2.2.2⟩
theorem hasD_alloc {w0 w : World} {z : RD} {d : Dy} (hz : z.ok w) (hd : z.dy = d) (k : Kp w0 w) (t : TypeId) : HasD w0 (w.alloc (.cells #[.bool z.neg, .slice z.a z.xs.length z.c, .int .i64 z.e] t)) w.heap.size z d :=
  ⟨by simp, hz.kp ((Kp.refl w).alloc _), hd, k.alloc _, k.size⟩
theorem hasD_store {w0 w : World} {g : Nat} {y0 y1 y2 : Value} (hB : Box3 w g y0 y1 y2) (n0 : ∀ n : Int, y0 ≠ .int .u32 n) (n1 : ∀ n : Int, y1 ≠ .int .u32 n) (n2 : ∀ n : Int, y2 ≠ .int .u32 n)
    {z : RD} {d : Dy} (hz : z.ok w) (hd : z.dy = d) (k : Kp w0 w) (hg : w0.heap.size ≤ g) :
    HasD w0 (((w.setCell ⟨g, 0, none⟩ (.bool z.neg)).setCell ⟨g, 1, none⟩ (.slice z.a z.xs.length z.c)).setCell ⟨g, 2, none⟩ (.int .i64 z.e)) g z d := by
  obtain ⟨s0, s1, s2, _, s4, s5, _, _⟩ := stored hB.1 hB.2.1 hB.2.2.1 n0 n1 n2 (.bool z.neg) (.slice z.a z.xs.length z.c) (.int .i64 z.e)
  exact ⟨⟨s0, s1, s2⟩, ⟨⟨s4 _ _ hz.1.1, hz.1.2⟩, hz.2⟩, hd, s5 _ k hg, hg⟩
theorem upd3b {g b : Nat} {w W : World} (h : Upd g w W) (hb : b ≠ g) {v0 v1 v2 : Value} (f : w.cell? ⟨b, 0, none⟩ = some v0 ∧ w.cell? ⟨b, 1, none⟩ = some v1 ∧ w.cell? ⟨b, 2, none⟩ = some v2) :
    W.cell? ⟨b, 0, none⟩ = some v0 ∧ W.cell? ⟨b, 1, none⟩ = some v1 ∧ W.cell? ⟨b, 2, none⟩ = some v2 := by
  obtain ⟨_, _, _, h4, _⟩ := h
  have key (i : Nat) : W.cell? ⟨b, i, none⟩ = w.cell? ⟨b, i, none⟩ := h4 _ hb
  simp only [key]
  exact f
theorem HasD.upd {w0 w W : World} {g b : Nat} {z : RD} {d : Dy} (h : HasD w0 w b z d) (hb : b ≠ g) (U : Upd g w W) : (W.cell? ⟨b, 0, none⟩ = some (.bool z.neg) ∧ W.cell? ⟨b, 1, none⟩ = some (.slice z.a z.xs.length z.c) ∧ W.cell? ⟨b, 2, none⟩ = some (.int .i64 z.e)) ∧ z.ok W ∧ z.dy = d := ⟨upd3b U hb h.1, U.okD h.2.1, h.2.2.1⟩
theorem ends0 {k : Nat} (hk : k = 0) {L z1 lo : RD} (h : L = lessR z1 z1) : (k = 0 ∨ z1.iv < lo.iv → L.dy = z1.dy) ∧ (¬ (k = 0 ∨ z1.iv < lo.iv) → L.dy = lo.dy) :=
  ⟨fun _ => by rw [h]; unfold lessR; rw [if_pos (Int.le_refl _)], fun n => absurd (.inl hk) n⟩
theorem ends1 {k : Nat} (hk : k = 0) {U z2 hi : RD} (h : U = moreR z2 z2) : (k = 0 ∨ hi.iv < z2.iv → U.dy = z2.dy) ∧ (¬ (k = 0 ∨ hi.iv < z2.iv) → U.dy = hi.dy) :=
  ⟨fun _ => by rw [h]; unfold moreR; rw [if_pos (Int.le_refl _)], fun n => absurd (.inl hk) n⟩
theorem ends2 {k : Nat} (hk : ¬ k = 0) {L z1 lo : RD} (h : L = lessR lo z1) : (k = 0 ∨ z1.iv < lo.iv → L.dy = z1.dy) ∧ (¬ (k = 0 ∨ z1.iv < lo.iv) → L.dy = lo.dy) :=
  ⟨fun o => by rw [h]; unfold lessR; rw [if_neg (by have := o.resolve_left hk; omega)], fun n => by rw [h]; unfold lessR; rw [if_pos (by have : ¬ z1.iv < lo.iv := fun e => n (.inr e); omega)]⟩
theorem ends3 {k : Nat} (hk : ¬ k = 0) {U z2 hi : RD} (h : U = moreR hi z2) : (k = 0 ∨ hi.iv < z2.iv → U.dy = z2.dy) ∧ (¬ (k = 0 ∨ hi.iv < z2.iv) → U.dy = hi.dy) :=
  ⟨fun o => by rw [h]; unfold moreR; rw [if_neg (by have := o.resolve_left hk; omega)], fun n => by rw [h]; unfold moreR; rw [if_pos (by have : ¬ hi.iv < z2.iv := fun e => n (.inr e); omega)]⟩
theorem keep733 {w w' : World} (k : Kp w w') {p0 p1 p2 p3 p4 p5 p6 q0 q1 q2 r0 r1 r2 : Addr} {v0 v1 v2 v3 v4 v5 v6 u0 u1 u2 t0 t1 t2 : Value}
    (h : (w.cell? p0 = some v0 ∧ w.cell? p1 = some v1 ∧ w.cell? p2 = some v2 ∧ w.cell? p3 = some v3 ∧ w.cell? p4 = some v4 ∧ w.cell? p5 = some v5 ∧ w.cell? p6 = some v6) ∧ (w.cell? q0 = some u0 ∧ w.cell? q1 = some u1 ∧ w.cell? q2 = some u2) ∧ w.cell? r0 = some t0 ∧ w.cell? r1 = some t1 ∧ w.cell? r2 = some t2) :
    (w'.cell? p0 = some v0 ∧ w'.cell? p1 = some v1 ∧ w'.cell? p2 = some v2 ∧ w'.cell? p3 = some v3 ∧ w'.cell? p4 = some v4 ∧ w'.cell? p5 = some v5 ∧ w'.cell? p6 = some v6) ∧ (w'.cell? q0 = some u0 ∧ w'.cell? q1 = some u1 ∧ w'.cell? q2 = some u2) ∧ w'.cell? r0 = some t0 ∧ w'.cell? r1 = some t1 ∧ w'.cell? r2 = some t2 := ⟨keep7 k h.1, keep33 k h.2⟩
theorem set33o {w : World} {g b o : Nat} (n : b ≠ g) {v0 v1 v2 v3 v4 v5 x0 x1 x2 : Value}
    (h : (w.cell? ⟨b, o, none⟩ = some v0 ∧ w.cell? ⟨b, o + 1, none⟩ = some v1 ∧ w.cell? ⟨b, o + 2, none⟩ = some v2) ∧ w.cell? ⟨b, o + 3, none⟩ = some v3 ∧ w.cell? ⟨b, o + 4, none⟩ = some v4 ∧ w.cell? ⟨b, o + 5, none⟩ = some v5) :
    (fun W : World => (W.cell? ⟨b, o, none⟩ = some v0 ∧ W.cell? ⟨b, o + 1, none⟩ = some v1 ∧ W.cell? ⟨b, o + 2, none⟩ = some v2) ∧ W.cell? ⟨b, o + 3, none⟩ = some v3 ∧ W.cell? ⟨b, o + 4, none⟩ = some v4 ∧ W.cell? ⟨b, o + 5, none⟩ = some v5)
      (((w.setCell ⟨g, 0, none⟩ x0).setCell ⟨g, 1, none⟩ x1).setCell ⟨g, 2, none⟩ x2) := by
  have ne (i j : Nat) : (⟨g, i, none⟩ : Addr) ≠ ⟨b, j, none⟩ := fun e => n (by injection e with e1; exact e1.symm)
  have key (j : Nat) : (((w.setCell ⟨g, 0, none⟩ x0).setCell ⟨g, 1, none⟩ x1).setCell ⟨g, 2, none⟩ x2).cell? ⟨b, j, none⟩ = w.cell? ⟨b, j, none⟩ := by
    rw [cell_set_ne (ne 2 j), cell_set_ne (ne 1 j), cell_set_ne (ne 0 j)]
  simp only [key]
  exact h
set_option maxRecDepth 100000 in
set_option maxHeartbeats 8000000 in
theorem r5mul_any (x y : RI) (p : Nat) (w : World) (hx : x.rd w) (hy : y.rd w) (vx : x.vl = true) (vy : y.vl = true) (h0 : 8 ≤ p) (h1 : p ≤ 512) :
    Calls Tryz.prog 106 #[.agg #[.bool x.lo.neg, .slice x.lo.a x.lo.xs.length x.lo.c, .int .i64 x.lo.e, .bool x.hi.neg, .slice x.hi.a x.hi.xs.length x.hi.c, .int .i64 x.hi.e, .bool x.all], .agg #[.bool y.lo.neg, .slice y.lo.a y.lo.xs.length y.lo.c, .int .i64 y.lo.e, .bool y.hi.neg, .slice y.hi.a y.hi.xs.length y.hi.c, .int .i64 y.hi.e, .bool y.all], .int .i64 p] w (IvOut w (pMul x.pl y.pl p)) := by
  have Hp := Lib.hid (show preB (p : Int) = true from preB_iff.2 ⟨by omega, by omega⟩)
  go_enter Tryz.func106, Tryz.ntmps106
  go_wp2_with fail
  generalize hW : (((w.alloc _).alloc _).alloc _) = W at *
  have hk : Kp w W := hW ▸ (((Kp.refl w).alloc _).alloc _).alloc _
  have hS : (W.cell? ⟨w.heap.size, 0, none⟩ = some (.bool x.lo.neg) ∧ W.cell? ⟨w.heap.size, 1, none⟩ = some (.slice x.lo.a x.lo.xs.length x.lo.c) ∧ W.cell? ⟨w.heap.size, 2, none⟩ = some (.int .i64 x.lo.e) ∧ W.cell? ⟨w.heap.size, 3, none⟩ = some (.bool x.hi.neg) ∧ W.cell? ⟨w.heap.size, 4, none⟩ = some (.slice x.hi.a x.hi.xs.length x.hi.c) ∧ W.cell? ⟨w.heap.size, 5, none⟩ = some (.int .i64 x.hi.e) ∧ W.cell? ⟨w.heap.size, 6, none⟩ = some (.bool x.all)) ∧ W.cell? ⟨w.heap.size + 1, 0, none⟩ = some (.bool y.lo.neg) ∧ W.cell? ⟨w.heap.size + 1, 1, none⟩ = some (.slice y.lo.a y.lo.xs.length y.lo.c) ∧ W.cell? ⟨w.heap.size + 1, 2, none⟩ = some (.int .i64 y.lo.e) ∧ W.cell? ⟨w.heap.size + 1, 3, none⟩ = some (.bool y.hi.neg) ∧ W.cell? ⟨w.heap.size + 1, 4, none⟩ = some (.slice y.hi.a y.hi.xs.length y.hi.c) ∧ W.cell? ⟨w.heap.size + 1, 5, none⟩ = some (.int .i64 y.hi.e) ∧ W.cell? ⟨w.heap.size + 1, 6, none⟩ = some (.bool y.all) := by rw [← hW]; exact keep77 ((Kp.refl _).alloc _) (by simp)
  have hV : Var7 W (w.heap.size + 1 + 1) := by rw [← hW]; exact Var7.new2 _ _ _ _
  clear hW
  go_fit (r5prec_any (p : Int) _)
  rintro e w0 ⟨rfl, rfl⟩
  rw [Hp.out]
  obtain ⟨⟨s0, s1, s2, s3, s4, s5, s6⟩, t0, t1, t2, t3, t4, t5, t6⟩ := id hS
  go_wp2_with fail
  go_fit (r5known_any x _ (hx.kp hk))
  rintro e w1 ⟨rfl, hk1⟩
  have hS1 := keep77 hk1 hS
  have hV1 := hV.kp hk1
  have hk2 := (hk.trans hk1)
  have hx1 := hx.kp hk2
  have hy1 := hy.kp hk2
  have gx := goodI_vl vx
  have gy := goodI_vl vy
  clear hS hV hk hk1 s0 s1 s2 s3 s4 s5 s6 t0 t1 t2 t3 t4 t5 t6
  cases hax : x.all with
  | true =>
    have HP := Lib.hid (show pMul x.pl y.pl p = .whole by unfold pMul; rw [if_pos (by show (x.all || y.all) = true; rw [hax]; rfl)])
    have hg : goodI x = false := by rw [gx, hax]; rfl
    rw [hg]
    clear hg gx gy hS1
    go_wp2_with fail
    go_fit (r5Whole_any _)
    rintro e wz ⟨rfl, hkz⟩
    have hk4 := hk2.trans hkz
    obtain ⟨⟨q0, q1, q2, q3, q4, q5, q6⟩, f0, f1, f2, f3, f4, f5, f6⟩ := hV1.kp hkz
    go_wp2_with fail
    generalize hW9 : ((((((wz.setCell _ _).setCell _ _).setCell _ _).setCell _ _).setCell _ _).setCell _ _).setCell _ _ = W9
    obtain ⟨⟨s0, s1, s2, s3, s4, s5, s6⟩, hU⟩ := stored7 (show Box7 wz _ _ _ _ _ _ _ _ from ⟨q0, q1, q2, q3, q4, q5, q6⟩) (fun _ h => by cases h) (fun _ h => by cases h) (fun _ h => by cases h) (fun _ h => by cases h) (fun _ h => by cases h) (fun _ h => by cases h) (fun _ h => by cases h) _ _ _ _ _ _ _ hW9
    clear hW9 q0 q1 q2 q3 q4 q5 q6 f0 f1 f2 f3 f4 f5 f6
    refine bodyPost_ret (v := .agg #[.bool false, .slice none 0 0, .int .i64 0, .bool false, .slice none 0 0, .int .i64 0, .bool true]) (by simp [results, Tryz.results106, go_sem, s0, s1, s2, s3, s4, s5, s6]) rfl ?_
    rw [HP.out]
    exact ⟨wholeR, rfl, wholeR_rd _, rfl, rfl, hU.2.2.1 _ hk4 (by omega)⟩
  | false =>
    have hg : goodI x = true := by rw [gx, hax]; rfl
    rw [hg]
    clear hg gx
    obtain ⟨⟨s0, s1, s2, s3, s4, s5, s6⟩, t0, t1, t2, t3, t4, t5, t6⟩ := id hS1
    have Hax := Lib.hid hax
    clear hax
    go_wp2_with fail
    go_fit (r5known_any y _ hy1)
    rintro e w1b ⟨rfl, hk1⟩
    replace hS1 := keep77 hk1 hS1
    replace hV1 := hV1.kp hk1
    replace hk2 := (hk2.trans hk1)
    replace hx1 := hx1.kp hk1
    replace hy1 := hy1.kp hk1
    clear hk1 s0 s1 s2 s3 s4 s5 s6 t0 t1 t2 t3 t4 t5 t6
    have hax := Hax.out
    cases hay : y.all with
    | true =>
      have HP := Lib.hid (show pMul x.pl y.pl p = .whole by unfold pMul; rw [if_pos (by show (x.all || y.all) = true; rw [hay]; simp)])
      have hg : goodI y = false := by rw [gy, hay]; rfl
      rw [hg]
      clear hg gy hS1 hax
      go_wp2_with fail
      go_fit (r5Whole_any _)
      rintro e wz ⟨rfl, hkz⟩
      have hk4 := hk2.trans hkz
      obtain ⟨⟨q0, q1, q2, q3, q4, q5, q6⟩, f0, f1, f2, f3, f4, f5, f6⟩ := hV1.kp hkz
      go_wp2_with fail
      generalize hW9 : ((((((wz.setCell _ _).setCell _ _).setCell _ _).setCell _ _).setCell _ _).setCell _ _).setCell _ _ = W9
      obtain ⟨⟨s0, s1, s2, s3, s4, s5, s6⟩, hU⟩ := stored7 (show Box7 wz _ _ _ _ _ _ _ _ from ⟨q0, q1, q2, q3, q4, q5, q6⟩) (fun _ h => by cases h) (fun _ h => by cases h) (fun _ h => by cases h) (fun _ h => by cases h) (fun _ h => by cases h) (fun _ h => by cases h) (fun _ h => by cases h) _ _ _ _ _ _ _ hW9
      clear hW9 q0 q1 q2 q3 q4 q5 q6 f0 f1 f2 f3 f4 f5 f6
      refine bodyPost_ret (v := .agg #[.bool false, .slice none 0 0, .int .i64 0, .bool false, .slice none 0 0, .int .i64 0, .bool true]) (by simp [results, Tryz.results106, go_sem, s0, s1, s2, s3, s4, s5, s6]) rfl ?_
      rw [HP.out]
      exact ⟨wholeR, rfl, wholeR_rd _, rfl, rfl, hU.2.2.1 _ hk4 (by omega)⟩
    | false =>
      have hg : goodI y = true := by rw [gy, hay]; rfl
      rw [hg]
      clear hg gy
      have ox := Lib.hid (ok_of hx1 vx hax)
      have oy := Lib.hid (ok_of hy1 vy hay)
      obtain ⟨D, hD⟩ : ∃ D, D = fourP (opP p) (restP x y 0) none := ⟨_, rfl⟩
      have HD := Lib.hid hD
      have HP := Lib.hid (show pMul x.pl y.pl p = D by unfold pMul; rw [if_neg (by show ¬ (x.all || y.all) = true; rw [hax, hay]; decide), hD]; rfl)
      clear hax hay hD
      obtain ⟨⟨s0, s1, s2, s3, s4, s5, s6⟩, t0, t1, t2, t3, t4, t5, t6⟩ := id hS1
      have HV1 := Lib.hid hV1
      clear hV1
      go_wp2_with fail
      go_fit (r5ends_any x y _)
      rintro e w3 ⟨g, rfl, hP3, k3, hg⟩
      clear s0 s1 s2 s3 s4 s5 s6 t0 t1 t2 t3 t4 t5 t6 hS1
      go_upto_region 5 with fail
      have ka := (Kp.refl w3).alloc (.cells #[.bool false, .slice none 0 0, .int .i64 0, .bool false, .slice none 0 0, .int .i64 0, .bool false] 43)
      have hO : Var7 (w3.alloc (.cells #[.bool false, .slice none 0 0, .int .i64 0, .bool false, .slice none 0 0, .int .i64 0, .bool false] 43)) w3.heap.size := Var7.new _ _
      have hPA := Lib.hid hP3
      have HW3 := Lib.hid (And.intro k3 hg)
      have HW := Lib.hid (hk2.trans k3)
      have HVr := Lib.hid (HV1.out.kp k3)
      have OX := Lib.hid (ox.out.kp k3)
      have OY := Lib.hid (oy.out.kp k3)
      generalize hWA : w3.alloc _ = WA at *
      clear hWA k3 hg hP3 ox oy hx1 hy1 HV1
      go_wp2_with fail
      go_loopg [9] 4 (fun r v wr => ∃ (k : Nat) (lo hi : RD), k + r = 4 ∧ v = .int .i64 k ∧ Kp w3 wr ∧ (Box7 wr w3.heap.size (.bool lo.neg) (.slice lo.a lo.xs.length lo.c) (.int .i64 lo.e) (.bool hi.neg) (.slice hi.a hi.xs.length hi.c) (.int .i64 hi.e) (.bool false) ∧ Frz wr w3.heap.size) ∧ (lo.ok wr ∧ hi.ok wr ∧ lo.iv ≤ hi.iv) ∧ fourP (opP p) (restP x y k) (accP k lo hi) = D)
      case atStart => exact ⟨0, rdZero, rdZero, rfl, rfl, ka, hO, ⟨⟨rdZero_rd _, rdZero_vl⟩, ⟨rdZero_rd _, rdZero_vl⟩, Int.le_refl _⟩, HD.out.symm⟩
      case round =>
        obtain ⟨k, lo, hi, hkr, rfl, hkw, hB, hok, hF⟩ := hrel
        clear hO ka
        have HF := Lib.hid hF
        have HO := Lib.hid hok
        clear hF hok
        by_cases hlt : k < 4
        · obtain ⟨q, hq⟩ : ∃ q, (pairR x y)[k]? = some q := ⟨_, List.getElem?_eq_getElem (show k < (pairR x y).length from hlt)⟩
          have Hq := Lib.hid hq
          have OQ := Lib.hid (pairR_ok (OX.out.kp hkw) (OY.out.kp hkw) hq)
          have hPC := (hPA.out.kp hkw) k q hq
          obtain ⟨a, b⟩ := q
          have hi1 : (0 : Int) ≤ (k : Int) := by omega
          have hi2 : (k : Int) < 4 := by omega
          have HBr := Lib.hid hB
          clear hq
          go_upto_region 8 with fail
          go_cut [10, 11] from 35 to 49 (fun s t wx => ∃ (b1 : Nat) (z : RD), s = .pointer (some ⟨b1, 0, none⟩) ∧ t = .int .i64 (muP a.dy b.dy p false).2 ∧ HasD wr wx b1 z (muP a.dy b.dy p false).1)
          case first =>
            have hb0 := World.block_lt_of_cell? wr _ hPC.1.1
            have kd := Lib.hid (Kp.refl wr).drew
            have hSd := keep33 kd.out hPC
            have HS0 := Lib.hid hPC
            have KZ := Lib.hid (show Kp wr (wr.alloc (.cells #[.bool false, .slice none 0 0, .int .i64 0] 28)).drew from kd.out.trans ((Kp.refl wr.drew).alloc _))
            have HSZ := Lib.hid (keep33 KZ.out hPC)
            have BZ := Lib.hid (show Box3 (wr.alloc (.cells #[.bool false, .slice none 0 0, .int .i64 0] 28)).drew wr.heap.size _ _ _ from Box3.new wr.drew _ _ _ _)
            have n1 : g ≠ wr.heap.size := Nat.ne_of_lt hb0
            clear hPC hB hb0
            go_region_held3 (fun w' => (w'.cell? ⟨g, k * 6, none⟩ = some (.bool a.neg) ∧ w'.cell? ⟨g, k * 6 + 1, none⟩ = some (.slice a.a a.xs.length a.c) ∧ w'.cell? ⟨g, k * 6 + 2, none⟩ = some (.int .i64 a.e)) ∧ w'.cell? ⟨g, k * 6 + 3, none⟩ = some (.bool b.neg) ∧ w'.cell? ⟨g, k * 6 + 4, none⟩ = some (.slice b.a b.xs.length b.c) ∧ w'.cell? ⟨g, k * 6 + 5, none⟩ = some (.int .i64 b.e)) (first | with_reducible assumption | with_reducible exact keep33 (by assumption) (by assumption) | with_reducible exact keep33 ((Kp.refl _).alloc _) (by assumption) | with_reducible exact set33o (by assumption) (by assumption) | with_reducible exact HSZ.out | fail)
              (first
                | ((with_reducible refine (r3mul_ok a b false h0 h1 _ (OQ.out.1.kp kd.out) (OQ.out.2.kp kd.out)).mono ?_); rintro e v1 ⟨z1, rfl, r1, d1, q1, j1⟩
                   have KJ := Lib.hid (kd.out.trans j1)
                   have hS1 := keep33 KJ.out HS0.out
                   have O1 := Lib.hid (And.intro (show z1.ok v1 from ⟨r1, q1 (muP_ok a.dy b.dy h0 h1 false)⟩) d1)
                   clear r1 d1 q1)
                | ((with_reducible refine (r3mul_ok a b false h0 h1 _ (OQ.out.1.kp KZ.out) (OQ.out.2.kp KZ.out)).mono ?_); rintro e v1 ⟨z1, rfl, r1, d1, q1, j1⟩
                   have KJ := Lib.hid (KZ.out.trans j1)
                   have BV := BZ.out.kp j1
                   have O1 := Lib.hid (And.intro (show z1.ok v1 from ⟨r1, q1 (muP_ok a.dy b.dy h0 h1 false)⟩) d1)
                   clear r1 d1 q1
                   obtain ⟨q0, q1, q2, f0, f1, f2⟩ := id BV)
                | fail)
            all_goals
              go_wp2_with fail
              go_meet
              case rel => first
                | exact ⟨_, z1, rfl, rfl, hasD_store BV (fun _ h => by cases h) (fun _ h => by cases h) (fun _ h => by cases h) O1.out.1 O1.out.2 KJ.out (Nat.le_refl _)⟩
                | exact ⟨_, z1, rfl, rfl, hasD_alloc O1.out.1 O1.out.2 KJ.out _⟩
          case rest =>
          obtain ⟨b1, z1, rfl, rfl, hD1⟩ := hcut
          obtain ⟨W8, hW8⟩ : ∃ x : World, x = wc := ⟨_, rfl⟩
          subst hW8
          have HK8 := Lib.hid hD1.2.2.2.1
          have HB8 := Lib.hid (And.intro (hB.1.kp HK8.out) (hB.2.kp hB.1 HK8.out))
          have hPC2 := keep33 HK8.out hPC
          have OQ2 := Lib.hid (And.intro (OQ.out.1.kp HK8.out) (OQ.out.2.kp HK8.out))
          have HD1 := Lib.hid hD1
          have HB1 := Lib.hid (show b1 < W8.heap.size from World.block_lt_of_cell? W8 _ hD1.1.1)
          clear hB hPC OQ hD1
          go_upto_region 9 with fail
          go_cut [12, 13] from 50 to 64 (fun s t wx => ∃ (b1 : Nat) (z : RD), s = .pointer (some ⟨b1, 0, none⟩) ∧ t = .int .i64 (muP a.dy b.dy p true).2 ∧ HasD W8 wx b1 z (muP a.dy b.dy p true).1)
          case first =>
            have hb0 := World.block_lt_of_cell? W8 _ hPC2.1.1
            have kd := Lib.hid (Kp.refl W8).drew
            have hSd := keep33 kd.out hPC2
            have HS0 := Lib.hid hPC2
            have KZ := Lib.hid (show Kp W8 (W8.alloc (.cells #[.bool false, .slice none 0 0, .int .i64 0] 28)).drew from kd.out.trans ((Kp.refl W8.drew).alloc _))
            have HSZ := Lib.hid (keep33 KZ.out hPC2)
            have BZ := Lib.hid (show Box3 (W8.alloc (.cells #[.bool false, .slice none 0 0, .int .i64 0] 28)).drew W8.heap.size _ _ _ from Box3.new W8.drew _ _ _ _)
            have n1 : g ≠ W8.heap.size := Nat.ne_of_lt hb0
            clear hPC2 hb0
            go_region_held3 (fun w' => (w'.cell? ⟨g, k * 6, none⟩ = some (.bool a.neg) ∧ w'.cell? ⟨g, k * 6 + 1, none⟩ = some (.slice a.a a.xs.length a.c) ∧ w'.cell? ⟨g, k * 6 + 2, none⟩ = some (.int .i64 a.e)) ∧ w'.cell? ⟨g, k * 6 + 3, none⟩ = some (.bool b.neg) ∧ w'.cell? ⟨g, k * 6 + 4, none⟩ = some (.slice b.a b.xs.length b.c) ∧ w'.cell? ⟨g, k * 6 + 5, none⟩ = some (.int .i64 b.e)) (first | with_reducible assumption | with_reducible exact keep33 (by assumption) (by assumption) | with_reducible exact keep33 ((Kp.refl _).alloc _) (by assumption) | with_reducible exact set33o (by assumption) (by assumption) | with_reducible exact HSZ.out | fail)
              (first
                | ((with_reducible refine (r3mul_ok a b true h0 h1 _ (OQ2.out.1.kp kd.out) (OQ2.out.2.kp kd.out)).mono ?_); rintro e v1 ⟨z1, rfl, r1, d1, q1, j1⟩
                   have KJ := Lib.hid (kd.out.trans j1)
                   have hS1 := keep33 KJ.out HS0.out
                   have O1 := Lib.hid (And.intro (show z1.ok v1 from ⟨r1, q1 (muP_ok a.dy b.dy h0 h1 true)⟩) d1)
                   clear r1 d1 q1)
                | ((with_reducible refine (r3mul_ok a b true h0 h1 _ (OQ2.out.1.kp KZ.out) (OQ2.out.2.kp KZ.out)).mono ?_); rintro e v1 ⟨z1, rfl, r1, d1, q1, j1⟩
                   have KJ := Lib.hid (KZ.out.trans j1)
                   have BV := BZ.out.kp j1
                   have O1 := Lib.hid (And.intro (show z1.ok v1 from ⟨r1, q1 (muP_ok a.dy b.dy h0 h1 true)⟩) d1)
                   clear r1 d1 q1
                   obtain ⟨q0, q1, q2, f0, f1, f2⟩ := id BV)
                | fail)
            all_goals
              go_wp2_with fail
              go_meet
              case rel => first
                | exact ⟨_, z1, rfl, rfl, hasD_store BV (fun _ h => by cases h) (fun _ h => by cases h) (fun _ h => by cases h) O1.out.1 O1.out.2 KJ.out (Nat.le_refl _)⟩
                | exact ⟨_, z1, rfl, rfl, hasD_alloc O1.out.1 O1.out.2 KJ.out _⟩
          case rest =>
          obtain ⟨b2, z2, rfl, rfl, hD2⟩ := hcut
          obtain ⟨W9, hW9⟩ : ∃ x : World, x = wc := ⟨_, rfl⟩
          subst hW9
          have HK9 := Lib.hid (HK8.out.trans hD2.2.2.2.1)
          have HB9 := Lib.hid (And.intro (HB8.out.1.kp hD2.2.2.2.1) (HB8.out.2.kp HB8.out.1 hD2.2.2.2.1))
          have HD3 := Lib.hid (HD1.out.kp hD2.2.2.2.1)
          have HD2 := Lib.hid hD2
          have HG2 := Lib.hid (show b1 ≠ b2 ∧ b1 ≠ w3.heap.size ∧ b2 ≠ w3.heap.size from by
            have e1 := HB1.out
            have e2 := hD2.2.2.2.2
            have e3 : w3.heap.size < wr.heap.size := World.block_lt_of_cell? wr _ HBr.out.1.1
            have e4 := HD1.out.2.2.2.2
            have e5 := HK8.out.size
            omega)
          clear hPC2 OQ2 hD2 HD1 HB8 HK8 HB1
          by_cases hL : (muP a.dy b.dy p false).2 = 0
          · have HL := Lib.hid hL
            rw [hL]
            by_cases hH : (muP a.dy b.dy p true).2 = 0
            · have HH := Lib.hid hH
              rw [hH]
              clear hL hH
              by_cases hk0 : k = 0
              · have hz : ((k : Int) == 0) = true := beq_iff_eq.2 (by omega)
                go_upto_region 13 with fail
                obtain ⟨q0, q1, q2, q3, q4, q5, q6⟩ := HB9.out.1
                obtain ⟨f0, f1, f2, f3, f4, f5, f6⟩ := HB9.out.2
                obtain ⟨c0, c1, c2⟩ := HD3.out.1
                obtain ⟨d0, d1, d2⟩ := HD2.out.1
                go_upto_region 14 with fail
                generalize hWX : ((((((W9.setCell _ _).setCell _ _).setCell _ _).setCell _ _).setCell _ _).setCell _ _).setCell _ _ = WX
                obtain ⟨hBX, hUX⟩ := stored7 HB9.out.1 (fun _ h => by cases h) (fun _ h => by cases h) (fun _ h => by cases h) (fun _ h => by cases h) (fun _ h => by cases h) (fun _ h => by cases h) (fun _ h => by cases h) _ _ _ _ _ _ _ hWX
                clear hWX q0 q1 q2 q3 q4 q5 q6 f0 f1 f2 f3 f4 f5 f6 c0 c1 c2 d0 d1 d2
                have HBX := Lib.hid (And.intro hBX (hUX.frz HB9.out.2))
                have HDX := Lib.hid (And.intro (HD3.out.upd HG2.out.2.1 hUX) (HD2.out.upd HG2.out.2.2 hUX))
                have HOX := Lib.hid (And.intro (hUX.okD HD3.out.2.1) (hUX.okD HD2.out.2.1))
                have HKW := Lib.hid (hUX.2.2.1 _ (hkw.trans HK9.out) (Nat.le_refl _))
                have HO2 := Lib.hid HO.out.2.2
                clear hBX hUX HB9 HO  hkw
                have hS14 : (WX.cell? ⟨w3.heap.size, 0, none⟩ = some (.bool (RI.mk z1 z2 false).lo.neg) ∧ WX.cell? ⟨w3.heap.size, 1, none⟩ = some (.slice (RI.mk z1 z2 false).lo.a (RI.mk z1 z2 false).lo.xs.length (RI.mk z1 z2 false).lo.c) ∧ WX.cell? ⟨w3.heap.size, 2, none⟩ = some (.int .i64 (RI.mk z1 z2 false).lo.e) ∧ WX.cell? ⟨w3.heap.size, 3, none⟩ = some (.bool (RI.mk z1 z2 false).hi.neg) ∧ WX.cell? ⟨w3.heap.size, 4, none⟩ = some (.slice (RI.mk z1 z2 false).hi.a (RI.mk z1 z2 false).hi.xs.length (RI.mk z1 z2 false).hi.c) ∧ WX.cell? ⟨w3.heap.size, 5, none⟩ = some (.int .i64 (RI.mk z1 z2 false).hi.e) ∧ WX.cell? ⟨w3.heap.size, 6, none⟩ = some (.bool (RI.mk z1 z2 false).all)) ∧ (WX.cell? ⟨b1, 0, none⟩ = some (.bool z1.neg) ∧ WX.cell? ⟨b1, 1, none⟩ = some (.slice z1.a z1.xs.length z1.c) ∧ WX.cell? ⟨b1, 2, none⟩ = some (.int .i64 z1.e)) ∧ WX.cell? ⟨b2, 0, none⟩ = some (.bool z2.neg) ∧ WX.cell? ⟨b2, 1, none⟩ = some (.slice z2.a z2.xs.length z2.c) ∧ WX.cell? ⟨b2, 2, none⟩ = some (.int .i64 z2.e) := ⟨HBX.out.1, HDX.out.1.1, HDX.out.2.1⟩
                have kd := (Kp.refl WX).drew
                have hSd := keep733 kd hS14
                have HSd := Lib.hid hSd
                have HKd := Lib.hid kd
                clear hS14
                refine wp_region_last (S := fun w' => (w'.cell? ⟨w3.heap.size, 0, none⟩ = some (.bool (RI.mk z1 z2 false).lo.neg) ∧ w'.cell? ⟨w3.heap.size, 1, none⟩ = some (.slice (RI.mk z1 z2 false).lo.a (RI.mk z1 z2 false).lo.xs.length (RI.mk z1 z2 false).lo.c) ∧ w'.cell? ⟨w3.heap.size, 2, none⟩ = some (.int .i64 (RI.mk z1 z2 false).lo.e) ∧ w'.cell? ⟨w3.heap.size, 3, none⟩ = some (.bool (RI.mk z1 z2 false).hi.neg) ∧ w'.cell? ⟨w3.heap.size, 4, none⟩ = some (.slice (RI.mk z1 z2 false).hi.a (RI.mk z1 z2 false).hi.xs.length (RI.mk z1 z2 false).hi.c) ∧ w'.cell? ⟨w3.heap.size, 5, none⟩ = some (.int .i64 (RI.mk z1 z2 false).hi.e) ∧ w'.cell? ⟨w3.heap.size, 6, none⟩ = some (.bool (RI.mk z1 z2 false).all)) ∧ (w'.cell? ⟨b1, 0, none⟩ = some (.bool z1.neg) ∧ w'.cell? ⟨b1, 1, none⟩ = some (.slice z1.a z1.xs.length z1.c) ∧ w'.cell? ⟨b1, 2, none⟩ = some (.int .i64 z1.e)) ∧ w'.cell? ⟨b2, 0, none⟩ = some (.bool z2.neg) ∧ w'.cell? ⟨b2, 1, none⟩ = some (.slice z2.a z2.xs.length z2.c) ∧ w'.cell? ⟨b2, 2, none⟩ = some (.int .i64 z2.e)) 9 (by kernel_rfl) (by kernel_rfl) hSd (fun hHeld => ?_)
                clear hSd kd
                (refine wpAnyH_take (i := 0) (v := ?_) rfl (by kernel_rfl) (by kernel_rfl) (by kernel_rfl) (fun _ _ _ h => h) (Or.inl ⟨by rfl, ?_⟩) (by assumption) ?_; rotate_left; focus ((intro w hSw; (try dsimp only at hSw); go_simp); (try with_reducible rfl)); (try simp only [Act.put, List.setIfInBounds_toArray, List.set_cons_zero, List.set_cons_succ]))
                (refine wpAnyH_take (i := 1) (v := ?_) rfl (by kernel_rfl) (by kernel_rfl) (by kernel_rfl) (fun _ _ _ h => h) (Or.inl ⟨by rfl, ?_⟩) (by assumption) ?_; rotate_left; focus ((intro w hSw; (try dsimp only at hSw); go_simp); (try with_reducible rfl)); (try simp only [Act.put, List.setIfInBounds_toArray, List.set_cons_zero, List.set_cons_succ]))
                (refine wpAnyH_take (i := 2) (v := ?_) rfl (by kernel_rfl) (by kernel_rfl) (by kernel_rfl) (fun _ _ _ h => h) (Or.inl ⟨by rfl, ?_⟩) (by assumption) ?_; rotate_left; focus ((intro w hSw; (try dsimp only at hSw); go_simp); (try with_reducible rfl)); (try simp only [Act.put, List.setIfInBounds_toArray, List.set_cons_zero, List.set_cons_succ]))
                (refine wpAnyH_take (i := 4) (v := ?_) rfl (by kernel_rfl) (by kernel_rfl) (by kernel_rfl) (fun _ _ _ h => h) (Or.inl ⟨by rfl, ?_⟩) (by assumption) ?_; rotate_left; focus ((intro w hSw; (try dsimp only at hSw); go_simp); (try with_reducible rfl)); (try simp only [Act.put, List.setIfInBounds_toArray, List.set_cons_zero, List.set_cons_succ]))
                (refine wpAnyH_take (i := 5) (v := ?_) rfl (by kernel_rfl) (by kernel_rfl) (by kernel_rfl) (fun _ _ _ h => h) (Or.inl ⟨by rfl, ?_⟩) (by assumption) ?_; rotate_left; focus ((intro w hSw; (try dsimp only at hSw); go_simp); (try with_reducible rfl)); (try simp only [Act.put, List.setIfInBounds_toArray, List.set_cons_zero, List.set_cons_succ]))
                (refine wpAnyH_take (i := 6) (v := ?_) rfl (by kernel_rfl) (by kernel_rfl) (by kernel_rfl) (fun _ _ _ h => h) (Or.inl ⟨by rfl, ?_⟩) (by assumption) ?_; rotate_left; focus ((intro w hSw; (try dsimp only at hSw); go_simp); (try with_reducible rfl)); (try simp only [Act.put, List.setIfInBounds_toArray, List.set_cons_zero, List.set_cons_succ]))
                (refine wpAnyH_ready (rs := [3]) (by kernel_rfl) (by simp) ?_; refine AllReadyH.cons rfl (fun K hK => ?_) ?_; rotate_left; focus (exact AllReadyH.nil))
                (go_simp; go_fit (r5least_ok z1 z1 _ (HOX.out.1.kp HKd.out) (HDX.out.1.2.1.kp HKd.out)); rintro e v1 ⟨rfl, j1⟩)
                (refine hK.out _ _ (keep733 j1 HSd.out) (fun hHeld => ?_); clear hK K)
                have HJ1 := Lib.hid (HKd.out.trans j1)
                (refine wpAnyH_ready (rs := [7]) (by kernel_rfl) (by simp) ?_; refine AllReadyH.cons rfl (fun K hK => ?_) ?_; rotate_left; focus (exact AllReadyH.nil))
                (go_simp; go_fit (r5most_ok z2 z2 _ (HOX.out.2.kp HJ1.out) (HDX.out.2.2.1.kp HJ1.out)); rintro e v2 ⟨rfl, j2⟩)
                (refine hK.out _ _ (keep733 (j1.trans j2) HSd.out) (fun hHeld => ?_); clear hK K)
                have HJ2 := Lib.hid (HJ1.out.trans j2)
                (refine wpAnyH_take (i := 8) (v := ?_) rfl (by kernel_rfl) (by kernel_rfl) (by kernel_rfl) (fun _ _ _ h => h) (Or.inl ⟨by rfl, ?_⟩) (by assumption) ?_; rotate_left; focus ((intro w hSw; (try dsimp only at hSw); go_simp); (try with_reducible rfl)); (try simp only [Act.put, List.setIfInBounds_toArray, List.set_cons_zero, List.set_cons_succ]))
                refine wpAnyH_done (by kernel_rfl) ?_ _
                have hB2 := HBX.out.1.kp HJ2.out
                have hF2 := HBX.out.2.kp HBX.out.1 HJ2.out
                obtain ⟨q0, q1, q2, q3, q4, q5, q6⟩ := id hB2
                obtain ⟨f0, f1, f2, f3, f4, f5, f6⟩ := id hF2
                have HLO := Lib.hid (lessR_ok (HOX.out.1.kp HJ2.out) (HDX.out.1.2.1.kp HJ2.out))
                have HHI := Lib.hid (moreR_ok (HOX.out.2.kp HJ2.out) (HDX.out.2.2.1.kp HJ2.out))
                have HD1 := Lib.hid HDX.out.1.2.2
                have HD2 := Lib.hid HDX.out.2.2.2
                have HKX := Lib.hid (HKW.out.trans HJ2.out)
                obtain ⟨L, hL⟩ : ∃ L, L = lessR z1 z1 := ⟨_, rfl⟩
                obtain ⟨U, hU⟩ : ∃ U, U = moreR z2 z2 := ⟨_, rfl⟩
                have HLU := Lib.hid (And.intro hL hU)
                rw [← hL] at HLO ⊢
                rw [← hU] at HHI ⊢
                clear hL hU hHeld j1 j2 HJ1 HSd HKd HBX HDX HOX
                refine LastQ_run rfl (fun K hK => ?_)
                go_simp
                refine hK.out _ _ ?_
                clear hK K
                generalize hWy : ((((((v2.setCell _ _).setCell _ _).setCell _ _).setCell _ _).setCell _ _).setCell _ _).setCell _ _ = WY
                obtain ⟨hBY, hUY⟩ := stored7 hB2 (fun _ h => by cases h) (fun _ h => by cases h) (fun _ h => by cases h) (fun _ h => by cases h) (fun _ h => by cases h) (fun _ h => by cases h) (fun _ h => by cases h) _ _ _ _ _ _ _ hWy
                clear hWy q0 q1 q2 q3 q4 q5 q6 f0 f1 f2 f3 f4 f5 f6
                have hYB := Lib.hid (And.intro hBY (hUY.frz hF2))
                have hYO := Lib.hid (And.intro (hUY.okD HLO.out) (hUY.okD HHI.out))
                have hYK := Lib.hid (hUY.2.2.1 _ HKX.out (Nat.le_refl _))
                have HST := Lib.hid (four_round (l := L) (u := U) (lo := lo) (hi := hi) Hq.out HL.out HH.out HD1.out HD2.out (ends0 hk0 HLU.out.1) (ends1 hk0 HLU.out.2) HO2.out h0 h1)
                clear hB2 hF2 hBY hUY
                go_wp2_with fail
                go_roundg (gk - 1)
                case measure => omega
                case rel => exact ⟨k + 1, L, U, by omega, by go_num, hYK.out, hYB.out, ⟨hYO.out.1, hYO.out.2, HST.out.2⟩, HST.out.1.symm.trans HF.out⟩
              · have hz : ((k : Int) == 0) = false := beq_eq_false_iff_ne.2 (by omega)
                go_upto_region 14 with fail
                have HBX := HB9
                have HDX := Lib.hid (And.intro (show (W9.cell? ⟨b1, 0, none⟩ = some (.bool z1.neg) ∧ W9.cell? ⟨b1, 1, none⟩ = some (.slice z1.a z1.xs.length z1.c) ∧ W9.cell? ⟨b1, 2, none⟩ = some (.int .i64 z1.e)) ∧ z1.ok W9 ∧ z1.dy = (muP a.dy b.dy p false).1 from ⟨HD3.out.1, HD3.out.2.1, HD3.out.2.2.1⟩) (show (W9.cell? ⟨b2, 0, none⟩ = some (.bool z2.neg) ∧ W9.cell? ⟨b2, 1, none⟩ = some (.slice z2.a z2.xs.length z2.c) ∧ W9.cell? ⟨b2, 2, none⟩ = some (.int .i64 z2.e)) ∧ z2.ok W9 ∧ z2.dy = (muP a.dy b.dy p true).1 from ⟨HD2.out.1, HD2.out.2.1, HD2.out.2.2.1⟩))
                have HOX := Lib.hid (And.intro (HO.out.1.kp HK9.out) (And.intro (HO.out.2.1.kp HK9.out) HO.out.2.2))
                have HKW := Lib.hid (hkw.trans HK9.out)
                have HO2 := Lib.hid HO.out.2.2
                clear HB9  hkw HO
                have hS14 : (W9.cell? ⟨w3.heap.size, 0, none⟩ = some (.bool (RI.mk lo hi false).lo.neg) ∧ W9.cell? ⟨w3.heap.size, 1, none⟩ = some (.slice (RI.mk lo hi false).lo.a (RI.mk lo hi false).lo.xs.length (RI.mk lo hi false).lo.c) ∧ W9.cell? ⟨w3.heap.size, 2, none⟩ = some (.int .i64 (RI.mk lo hi false).lo.e) ∧ W9.cell? ⟨w3.heap.size, 3, none⟩ = some (.bool (RI.mk lo hi false).hi.neg) ∧ W9.cell? ⟨w3.heap.size, 4, none⟩ = some (.slice (RI.mk lo hi false).hi.a (RI.mk lo hi false).hi.xs.length (RI.mk lo hi false).hi.c) ∧ W9.cell? ⟨w3.heap.size, 5, none⟩ = some (.int .i64 (RI.mk lo hi false).hi.e) ∧ W9.cell? ⟨w3.heap.size, 6, none⟩ = some (.bool (RI.mk lo hi false).all)) ∧ (W9.cell? ⟨b1, 0, none⟩ = some (.bool z1.neg) ∧ W9.cell? ⟨b1, 1, none⟩ = some (.slice z1.a z1.xs.length z1.c) ∧ W9.cell? ⟨b1, 2, none⟩ = some (.int .i64 z1.e)) ∧ W9.cell? ⟨b2, 0, none⟩ = some (.bool z2.neg) ∧ W9.cell? ⟨b2, 1, none⟩ = some (.slice z2.a z2.xs.length z2.c) ∧ W9.cell? ⟨b2, 2, none⟩ = some (.int .i64 z2.e) := ⟨HBX.out.1, HDX.out.1.1, HDX.out.2.1⟩
                have kd := (Kp.refl W9).drew
                have hSd := keep733 kd hS14
                have HSd := Lib.hid hSd
                have HKd := Lib.hid kd
                clear hS14
                refine wp_region_last (S := fun w' => (w'.cell? ⟨w3.heap.size, 0, none⟩ = some (.bool (RI.mk lo hi false).lo.neg) ∧ w'.cell? ⟨w3.heap.size, 1, none⟩ = some (.slice (RI.mk lo hi false).lo.a (RI.mk lo hi false).lo.xs.length (RI.mk lo hi false).lo.c) ∧ w'.cell? ⟨w3.heap.size, 2, none⟩ = some (.int .i64 (RI.mk lo hi false).lo.e) ∧ w'.cell? ⟨w3.heap.size, 3, none⟩ = some (.bool (RI.mk lo hi false).hi.neg) ∧ w'.cell? ⟨w3.heap.size, 4, none⟩ = some (.slice (RI.mk lo hi false).hi.a (RI.mk lo hi false).hi.xs.length (RI.mk lo hi false).hi.c) ∧ w'.cell? ⟨w3.heap.size, 5, none⟩ = some (.int .i64 (RI.mk lo hi false).hi.e) ∧ w'.cell? ⟨w3.heap.size, 6, none⟩ = some (.bool (RI.mk lo hi false).all)) ∧ (w'.cell? ⟨b1, 0, none⟩ = some (.bool z1.neg) ∧ w'.cell? ⟨b1, 1, none⟩ = some (.slice z1.a z1.xs.length z1.c) ∧ w'.cell? ⟨b1, 2, none⟩ = some (.int .i64 z1.e)) ∧ w'.cell? ⟨b2, 0, none⟩ = some (.bool z2.neg) ∧ w'.cell? ⟨b2, 1, none⟩ = some (.slice z2.a z2.xs.length z2.c) ∧ w'.cell? ⟨b2, 2, none⟩ = some (.int .i64 z2.e)) 9 (by kernel_rfl) (by kernel_rfl) hSd (fun hHeld => ?_)
                clear hSd kd
                (refine wpAnyH_take (i := 0) (v := ?_) rfl (by kernel_rfl) (by kernel_rfl) (by kernel_rfl) (fun _ _ _ h => h) (Or.inl ⟨by rfl, ?_⟩) (by assumption) ?_; rotate_left; focus ((intro w hSw; (try dsimp only at hSw); go_simp); (try with_reducible rfl)); (try simp only [Act.put, List.setIfInBounds_toArray, List.set_cons_zero, List.set_cons_succ]))
                (refine wpAnyH_take (i := 1) (v := ?_) rfl (by kernel_rfl) (by kernel_rfl) (by kernel_rfl) (fun _ _ _ h => h) (Or.inl ⟨by rfl, ?_⟩) (by assumption) ?_; rotate_left; focus ((intro w hSw; (try dsimp only at hSw); go_simp); (try with_reducible rfl)); (try simp only [Act.put, List.setIfInBounds_toArray, List.set_cons_zero, List.set_cons_succ]))
                (refine wpAnyH_take (i := 2) (v := ?_) rfl (by kernel_rfl) (by kernel_rfl) (by kernel_rfl) (fun _ _ _ h => h) (Or.inl ⟨by rfl, ?_⟩) (by assumption) ?_; rotate_left; focus ((intro w hSw; (try dsimp only at hSw); go_simp); (try with_reducible rfl)); (try simp only [Act.put, List.setIfInBounds_toArray, List.set_cons_zero, List.set_cons_succ]))
                (refine wpAnyH_take (i := 4) (v := ?_) rfl (by kernel_rfl) (by kernel_rfl) (by kernel_rfl) (fun _ _ _ h => h) (Or.inl ⟨by rfl, ?_⟩) (by assumption) ?_; rotate_left; focus ((intro w hSw; (try dsimp only at hSw); go_simp); (try with_reducible rfl)); (try simp only [Act.put, List.setIfInBounds_toArray, List.set_cons_zero, List.set_cons_succ]))
                (refine wpAnyH_take (i := 5) (v := ?_) rfl (by kernel_rfl) (by kernel_rfl) (by kernel_rfl) (fun _ _ _ h => h) (Or.inl ⟨by rfl, ?_⟩) (by assumption) ?_; rotate_left; focus ((intro w hSw; (try dsimp only at hSw); go_simp); (try with_reducible rfl)); (try simp only [Act.put, List.setIfInBounds_toArray, List.set_cons_zero, List.set_cons_succ]))
                (refine wpAnyH_take (i := 6) (v := ?_) rfl (by kernel_rfl) (by kernel_rfl) (by kernel_rfl) (fun _ _ _ h => h) (Or.inl ⟨by rfl, ?_⟩) (by assumption) ?_; rotate_left; focus ((intro w hSw; (try dsimp only at hSw); go_simp); (try with_reducible rfl)); (try simp only [Act.put, List.setIfInBounds_toArray, List.set_cons_zero, List.set_cons_succ]))
                (refine wpAnyH_ready (rs := [3]) (by kernel_rfl) (by simp) ?_; refine AllReadyH.cons rfl (fun K hK => ?_) ?_; rotate_left; focus (exact AllReadyH.nil))
                (go_simp; go_fit (r5least_ok lo z1 _ (HOX.out.1.kp HKd.out) (HDX.out.1.2.1.kp HKd.out)); rintro e v1 ⟨rfl, j1⟩)
                (refine hK.out _ _ (keep733 j1 HSd.out) (fun hHeld => ?_); clear hK K)
                have HJ1 := Lib.hid (HKd.out.trans j1)
                (refine wpAnyH_ready (rs := [7]) (by kernel_rfl) (by simp) ?_; refine AllReadyH.cons rfl (fun K hK => ?_) ?_; rotate_left; focus (exact AllReadyH.nil))
                (go_simp; go_fit (r5most_ok hi z2 _ (HOX.out.2.1.kp HJ1.out) (HDX.out.2.2.1.kp HJ1.out)); rintro e v2 ⟨rfl, j2⟩)
                (refine hK.out _ _ (keep733 (j1.trans j2) HSd.out) (fun hHeld => ?_); clear hK K)
                have HJ2 := Lib.hid (HJ1.out.trans j2)
                (refine wpAnyH_take (i := 8) (v := ?_) rfl (by kernel_rfl) (by kernel_rfl) (by kernel_rfl) (fun _ _ _ h => h) (Or.inl ⟨by rfl, ?_⟩) (by assumption) ?_; rotate_left; focus ((intro w hSw; (try dsimp only at hSw); go_simp); (try with_reducible rfl)); (try simp only [Act.put, List.setIfInBounds_toArray, List.set_cons_zero, List.set_cons_succ]))
                refine wpAnyH_done (by kernel_rfl) ?_ _
                have hB2 := HBX.out.1.kp HJ2.out
                have hF2 := HBX.out.2.kp HBX.out.1 HJ2.out
                obtain ⟨q0, q1, q2, q3, q4, q5, q6⟩ := id hB2
                obtain ⟨f0, f1, f2, f3, f4, f5, f6⟩ := id hF2
                have HLO := Lib.hid (lessR_ok (HOX.out.1.kp HJ2.out) (HDX.out.1.2.1.kp HJ2.out))
                have HHI := Lib.hid (moreR_ok (HOX.out.2.1.kp HJ2.out) (HDX.out.2.2.1.kp HJ2.out))
                have HD1 := Lib.hid HDX.out.1.2.2
                have HD2 := Lib.hid HDX.out.2.2.2
                have HKX := Lib.hid (HKW.out.trans HJ2.out)
                obtain ⟨L, hL⟩ : ∃ L, L = lessR lo z1 := ⟨_, rfl⟩
                obtain ⟨U, hU⟩ : ∃ U, U = moreR hi z2 := ⟨_, rfl⟩
                have HLU := Lib.hid (And.intro hL hU)
                rw [← hL] at HLO ⊢
                rw [← hU] at HHI ⊢
                clear hL hU hHeld j1 j2 HJ1 HSd HKd HBX HDX HOX
                refine LastQ_run rfl (fun K hK => ?_)
                go_simp
                refine hK.out _ _ ?_
                clear hK K
                generalize hWy : ((((((v2.setCell _ _).setCell _ _).setCell _ _).setCell _ _).setCell _ _).setCell _ _).setCell _ _ = WY
                obtain ⟨hBY, hUY⟩ := stored7 hB2 (fun _ h => by cases h) (fun _ h => by cases h) (fun _ h => by cases h) (fun _ h => by cases h) (fun _ h => by cases h) (fun _ h => by cases h) (fun _ h => by cases h) _ _ _ _ _ _ _ hWy
                clear hWy q0 q1 q2 q3 q4 q5 q6 f0 f1 f2 f3 f4 f5 f6
                have hYB := Lib.hid (And.intro hBY (hUY.frz hF2))
                have hYO := Lib.hid (And.intro (hUY.okD HLO.out) (hUY.okD HHI.out))
                have hYK := Lib.hid (hUY.2.2.1 _ HKX.out (Nat.le_refl _))
                have HST := Lib.hid (four_round (l := L) (u := U) (lo := lo) (hi := hi) Hq.out HL.out HH.out HD1.out HD2.out (ends2 hk0 HLU.out.1) (ends3 hk0 HLU.out.2) HO2.out h0 h1)
                clear hB2 hF2 hBY hUY
                go_wp2_with fail
                go_roundg (gk - 1)
                case measure => omega
                case rel => exact ⟨k + 1, L, U, by omega, by go_num, hYK.out, hYB.out, ⟨hYO.out.1, hYO.out.2, HST.out.2⟩, HST.out.1.symm.trans HF.out⟩
            · have HE := Lib.hid (show D = .whole from HF.out.symm.trans (four_err Hq.out (.inr hH)))
              have g1 : ((muP a.dy b.dy p true).2 != 0) = true := by rw [bne, beq_eq_false_iff_ne.2 hH]; rfl
              have g3 : ((muP a.dy b.dy p true).2 == 0) = false := beq_eq_false_iff_ne.2 hH
              have HK9b := Lib.hid (And.intro (HW.out.trans (hkw.trans HK9.out)) (hkw.trans HK9.out))
              clear hL hH HB9 HO  hkw
              go_wp2_with fail
              go_fit (r5Whole_any _)
              rintro e w9 ⟨rfl, k9⟩
              have k10 := HK9b.out.1.trans k9
              obtain ⟨⟨q0, q1, q2, q3, q4, q5, q6⟩, f0, f1, f2, f3, f4, f5, f6⟩ := HVr.out.kp (HK9b.out.2.trans k9)
              go_wp2_with fail
              generalize hW9 : ((((((w9.setCell _ _).setCell _ _).setCell _ _).setCell _ _).setCell _ _).setCell _ _).setCell _ _ = W9
              obtain ⟨⟨s0, s1, s2, s3, s4, s5, s6⟩, hU⟩ := stored7 (show Box7 w9 _ _ _ _ _ _ _ _ from ⟨q0, q1, q2, q3, q4, q5, q6⟩) (fun _ h => by cases h) (fun _ h => by cases h) (fun _ h => by cases h) (fun _ h => by cases h) (fun _ h => by cases h) (fun _ h => by cases h) (fun _ h => by cases h) _ _ _ _ _ _ _ hW9
              clear hW9 q0 q1 q2 q3 q4 q5 q6 f0 f1 f2 f3 f4 f5 f6
              refine bodyPost_ret (v := .agg #[.bool false, .slice none 0 0, .int .i64 0, .bool false, .slice none 0 0, .int .i64 0, .bool true]) (by simp [results, Tryz.results106, go_sem, s0, s1, s2, s3, s4, s5, s6]) rfl ?_
              rw [HP.out, HE.out]
              exact ⟨wholeR, rfl, wholeR_rd _, rfl, rfl, hU.2.2.1 _ k10 (by omega)⟩
          · have HE := Lib.hid (show D = .whole from HF.out.symm.trans (four_err Hq.out (.inl hL)))
            have g1 : ((muP a.dy b.dy p false).2 != 0) = true := by rw [bne, beq_eq_false_iff_ne.2 hL]; rfl
            have g3 : ((muP a.dy b.dy p false).2 == 0) = false := beq_eq_false_iff_ne.2 hL
            have HK9b := Lib.hid (And.intro (HW.out.trans (hkw.trans HK9.out)) (hkw.trans HK9.out))
            clear hL HB9 HO  hkw
            go_wp2_with fail
            go_fit (r5Whole_any _)
            rintro e w9 ⟨rfl, k9⟩
            have k10 := HK9b.out.1.trans k9
            obtain ⟨⟨q0, q1, q2, q3, q4, q5, q6⟩, f0, f1, f2, f3, f4, f5, f6⟩ := HVr.out.kp (HK9b.out.2.trans k9)
            go_wp2_with fail
            generalize hW9 : ((((((w9.setCell _ _).setCell _ _).setCell _ _).setCell _ _).setCell _ _).setCell _ _).setCell _ _ = W9
            obtain ⟨⟨s0, s1, s2, s3, s4, s5, s6⟩, hU⟩ := stored7 (show Box7 w9 _ _ _ _ _ _ _ _ from ⟨q0, q1, q2, q3, q4, q5, q6⟩) (fun _ h => by cases h) (fun _ h => by cases h) (fun _ h => by cases h) (fun _ h => by cases h) (fun _ h => by cases h) (fun _ h => by cases h) (fun _ h => by cases h) _ _ _ _ _ _ _ hW9
            clear hW9 q0 q1 q2 q3 q4 q5 q6 f0 f1 f2 f3 f4 f5 f6
            refine bodyPost_ret (v := .agg #[.bool false, .slice none 0 0, .int .i64 0, .bool false, .slice none 0 0, .int .i64 0, .bool true]) (by simp [results, Tryz.results106, go_sem, s0, s1, s2, s3, s4, s5, s6]) rfl ?_
            rw [HP.out, HE.out]
            exact ⟨wholeR, rfl, wholeR_rd _, rfl, rfl, hU.2.2.1 _ k10 (by omega)⟩
        · obtain rfl : k = 4 := by omega
          have HE := Lib.hid (show D = ⟨lo.dy, hi.dy, false⟩ from HF.out.symm.trans four_end)
          obtain ⟨q0, q1, q2, q3, q4, q5, q6⟩ := id hB.1
          obtain ⟨⟨r0, r1, r2, r3, r4, r5, r6⟩, f0, f1, f2, f3, f4, f5, f6⟩ := HVr.out.kp hkw
          have hkk := HW.out.trans hkw
          clear hkw hB
          go_wp2_with fail
          generalize hW9 : ((((((wr.setCell _ _).setCell _ _).setCell _ _).setCell _ _).setCell _ _).setCell _ _).setCell _ _ = W9
          obtain ⟨⟨s0, s1, s2, s3, s4, s5, s6⟩, hU⟩ := stored7 (show Box7 wr _ _ _ _ _ _ _ _ from ⟨r0, r1, r2, r3, r4, r5, r6⟩) (fun _ h => by cases h) (fun _ h => by cases h) (fun _ h => by cases h) (fun _ h => by cases h) (fun _ h => by cases h) (fun _ h => by cases h) (fun _ h => by cases h) _ _ _ _ _ _ _ hW9
          clear hW9 q0 q1 q2 q3 q4 q5 q6 r0 r1 r2 r3 r4 r5 r6 f0 f1 f2 f3 f4 f5 f6
          refine bodyPost_ret (v := .agg #[.bool (RI.mk lo hi false).lo.neg, .slice (RI.mk lo hi false).lo.a (RI.mk lo hi false).lo.xs.length (RI.mk lo hi false).lo.c, .int .i64 (RI.mk lo hi false).lo.e, .bool (RI.mk lo hi false).hi.neg, .slice (RI.mk lo hi false).hi.a (RI.mk lo hi false).hi.xs.length (RI.mk lo hi false).hi.c, .int .i64 (RI.mk lo hi false).hi.e, .bool (RI.mk lo hi false).all]) (by simp [results, Tryz.results106, go_sem, s0, s1, s2, s3, s4, s5, s6]) rfl ?_
          rw [HP.out, HE.out]
          exact ⟨⟨lo, hi, false⟩, rfl, hU.rdI ⟨HO.out.1.1, HO.out.2.1.1⟩, rfl, vl_mk2 HO.out.1.2 HO.out.2.1.2 HO.out.2.2, hU.2.2.1 _ hkk (by omega)⟩
end Go.Proofs.YtdidocdpjiiedaaGreatDoor
end
