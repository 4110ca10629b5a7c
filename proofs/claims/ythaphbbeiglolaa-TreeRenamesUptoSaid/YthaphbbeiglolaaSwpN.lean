/-
  Walks: ref13.Swap.
-/
import Derived.Deep.RegionLaw
import Derived.Deep.DeepFit
import Derived.Deep.QuietTactic
import Derived.BigQuiet
import Derived.Test.YthaphbbeiglolaaSwpP
import Derived.Test.YthaphbbeiglolaaChaN
namespace Go.Proofs.Ythaphbbeiglolaa
open Go.RowKit Go.Sort

/-- what Swap answers -/
def SwpOut (w w' : World) (B : Nat) (e : Ex) (f : ByteArray → Option Ex) (r : Ending) : Prop := ∃ x : Ex, r = .returned (.agg #[.int .i64 x.kind, .int .i64 x.rn, .int .i64 x.rd, .string x.name, .int .i64 x.pw, .slice x.a x.l.length x.c]) ∧ Kp w w' ∧ x.at w' w'.heap.size ∧ (x.off fun b => b < B ∨ w.heap.size ≤ b) ∧ x.er = (e.sub f).er
def SwapAt (e : Ex) : Prop := ∀ (B : Nat) (w : World) (ns : List ByteArray) (ys : List Ex) (na ya : Option Addr) (n nc yc : Nat), e.at w B → B ≤ w.heap.size → RowS w na ns → RowX w B ya ys → (∀ y ∈ ys, y.at w B) → ns.length = n → ys.length = n → n ≤ 1000000 →
  Calls Try.prog 15 #[.agg #[.int .i64 e.kind, .int .i64 e.rn, .int .i64 e.rd, .string e.name, .int .i64 e.pw, .slice e.a e.l.length e.c], .slice na n nc, .slice ya n yc] w fun r w' => SwpOut w w' B e (lukF ns ys) r
set_option maxHeartbeats 4000000 in
set_option maxRecDepth 20000 in
theorem swap_any : ∀ e : Ex, SwapAt e := by
  refine Ex.ind fun e ih B w ns ys na ya n nc yc hat hBw hns hys hyat hn1 hn2 hnm => ?_
  have k1 : Kp w ((w.alloc (.cells #[.int .i64 e.kind, .int .i64 e.rn, .int .i64 e.rd, .string e.name, .int .i64 e.pw, .slice e.a e.l.length e.c] 26)).alloc (.cells #[.int .i64 0, .int .i64 0, .int .i64 0, .string ⟨#[]⟩, .int .i64 0, .slice none 0 0] 26)) := ((Kp.refl w).alloc _).alloc _
  have hB1 : BoxX ((w.alloc (.cells #[.int .i64 e.kind, .int .i64 e.rn, .int .i64 e.rd, .string e.name, .int .i64 e.pw, .slice e.a e.l.length e.c] 26)).alloc (.cells #[.int .i64 0, .int .i64 0, .int .i64 0, .string ⟨#[]⟩, .int .i64 0, .slice none 0 0] 26)) w.heap.size e := (BoxX.new w e _ rfl).kp ((Kp.refl _).alloc _)
  have hB2 : BoxX ((w.alloc (.cells #[.int .i64 e.kind, .int .i64 e.rn, .int .i64 e.rd, .string e.name, .int .i64 e.pw, .slice e.a e.l.length e.c] 26)).alloc (.cells #[.int .i64 0, .int .i64 0, .int .i64 0, .string ⟨#[]⟩, .int .i64 0, .slice none 0 0] 26)) (w.heap.size + 1) Ex.zero := BoxX.new _ Ex.zero _ (by simp)
  have hz0 : ((w.alloc (.cells #[.int .i64 e.kind, .int .i64 e.rn, .int .i64 e.rd, .string e.name, .int .i64 e.pw, .slice e.a e.l.length e.c] 26)).alloc (.cells #[.int .i64 0, .int .i64 0, .int .i64 0, .string ⟨#[]⟩, .int .i64 0, .slice none 0 0] 26)).heap.size = w.heap.size + 2 := by simp
  go_enter Try.func15, Try.ntmps15
  go_upto_region 1 with fail
  generalize World.alloc _ _ = W at *
  have HA := Lib.hid (Ex.at_kp hat k1)
  have HNS := Lib.hid (hns.kp k1)
  have HYS := Lib.hid (hys.kp k1)
  have HYA := Lib.hid fun y hy => Ex.at_kp (hyat y hy) k1
  have K1 := Lib.hid k1
  have HZ := Lib.hid hz0
  have HB1 := Lib.hid hB1
  have HB2 := Lib.hid hB2
  have HN1 := Lib.hid hn1
  have HN2 := Lib.hid hn2
  have HI := Lib.hid ih
  have HBW := Lib.hid hBw
  obtain ⟨⟨q0, q1, q2, q3, q4, q5⟩, _⟩ := hB1
  clear k1 hat hB2 hz0 hns hys hyat hn1 hn2 ih hBw
  go_wp2
  go_loopw [7] (fun x wr => ∃ i : Nat, i ≤ n ∧ x = .int .i64 (i : Int) ∧ (e.kind = 2 → ∀ (j : Nat) (m : ByteArray), j < i → ns[j]? = some m → m ≠ e.name) ∧ Kp W wr) (fun x _ => n - (intOf x).toNat)
  case atStart => exact ⟨0, by omega, rfl, fun _ j m hj => by omega, .refl _⟩
  case round =>
    obtain ⟨i, hi, rfl, hz, hkp⟩ := hrel
    have Hz := Lib.hid hz; clear hz
    have Hkp := Lib.hid hkp
    have p0 := hkp.cell q0
    have p3 := hkp.cell q3
    clear hkp
    by_cases hlt : i < n
    · obtain ⟨s, hs⟩ : ∃ s, ns[i]? = some s := ⟨_, List.getElem?_eq_getElem (by rw [HN1.out]; exact hlt)⟩
      obtain ⟨y, hy⟩ : ∃ y, ys[i]? = some y := ⟨_, List.getElem?_eq_getElem (by rw [HN2.out]; exact hlt)⟩
      obtain ⟨b, o, ha, h0⟩ := (HNS.out.kp Hkp.out) i s hs
      obtain ⟨b', o', ha', hb', x0, x1, x2, x3, x4, x5⟩ := (HYS.out.kp Hkp.out) i y hy
      have Hs := Lib.hid hs
      have Hy := Lib.hid hy
      clear hs hy
      rw [ha, ha']
      by_cases hk : e.kind = 2
      · have Hk := Lib.hid hk
        rw [hk] at p0
        clear hk
        by_cases hnm2 : s = e.name
        · have hq : (e.name.toList == s.toList) = true := by rw [hnm2]; exact beq_self_eq_true _
          have Hnm := Lib.hid hnm2
          have Hx := Lib.hid (show wr.cell? ⟨b', o' + i * 6, none⟩ = some (.int .i64 y.kind) ∧ wr.cell? ⟨b', o' + i * 6 + 1, none⟩ = some (.int .i64 y.rn) ∧ wr.cell? ⟨b', o' + i * 6 + 2, none⟩ = some (.int .i64 y.rd) ∧ wr.cell? ⟨b', o' + i * 6 + 3, none⟩ = some (.string y.name) ∧ wr.cell? ⟨b', o' + i * 6 + 4, none⟩ = some (.int .i64 y.pw) ∧ wr.cell? ⟨b', o' + i * 6 + 5, none⟩ = some (.slice y.a y.l.length y.c) from ⟨x0, x1, x2, x3, x4, x5⟩)
          clear hnm2 x0 x1 x2 x3 x4 x5
          go_upto_region 4 with fail
          go_quiet (fail)
          have kq := (Kp.refl wr).drewN nq
          generalize wr.drewN nq = w5 at *
          have KQ := Lib.hid (Hkp.out.trans kq)
          obtain ⟨x0, x1, x2, x3, x4, x5⟩ := keepE6 kq Hx.out
          have hb := HB2.out.kp KQ.out
          obtain ⟨⟨z0, z1, z2, z3, z4, z5⟩, zf, _⟩ := id hb
          have g0 := zf 0; have g1 := zf 1; have g2 := zf 2; have g3 := zf 3; have g4 := zf 4; have g5 := zf 5
          have HBB := Lib.hid hb
          clear hb zf kq p0 p3 h0 hq
          go_wp2
          generalize hW9 : ((((((w5.setCell _ _).setCell _ _).setCell _ _).setCell _ _).setCell _ _).setCell _ _) = W9
          have hst : Stored6 (w.heap.size + 1) 0 y w5 W9 := stored60 y HBB.out hW9
          obtain ⟨⟨s0, s1, s2, s3, s4, s5⟩, _⟩ := HBB.out.stored hst
          have hz := HZ.out
          have hz9 := hst.2.2.2.1
          have hkw := (K1.out.trans KQ.out).size
          have hym := List.mem_of_getElem? Hy.out
          have hya : y.at w5 B := Ex.at_kp (HYA.out y hym) KQ.out
          refine bodyPost_ret (v := .agg #[.int .i64 y.kind, .int .i64 y.rn, .int .i64 y.rd, .string y.name, .int .i64 y.pw, .slice y.a y.l.length y.c]) (by simp [results, Try.results15, go_sem, s0, s1, s2, s3, s4, s5]) rfl ?_
          refine ⟨y, rfl, hst.2.2.2.2 w (K1.out.trans KQ.out) (by omega), ?_, ?_, ?_⟩
          · refine at_grow (by have := HBW.out; omega) (Ex.same (Nat.le_refl B) (fun b i v hb hc => ?_) y hya)
            rw [hst.2.1 ⟨b, i, none⟩ (.inl (by show b ≠ w.heap.size + 1; have := HBW.out; omega))]
            exact hc
          · exact Ex.off_mono (at_lt (HYA.out y hym)) fun b hb => .inl hb
          · rw [sub_hit Hk.out (lukF_hit ns ys i e.name y (fun j m hj hm => Hz.out Hk.out j m hj hm) (by rw [← Hnm.out]; exact Hs.out) Hy.out)]
        · have hq : (e.name.toList == s.toList) = false := strNe fun e1 => hnm2 e1.symm
          have Hnm := Lib.hid hnm2
          clear hnm2 x0 x1 x2 x3 x4 x5
          go_upto_region 4 with fail
          go_quiet (fail)
          have kq := (Kp.refl wr).drewN nq
          generalize wr.drewN nq = w5 at *
          have KQ := Lib.hid (Hkp.out.trans kq)
          clear kq p0 p3 h0 hq
          go_wp2
          go_roundw
          case rel =>
            refine ⟨i + 1, by omega, by go_num, fun hk j m hj hm => ?_, KQ.out⟩
            rcases Nat.lt_or_ge j i with hji | hji
            · exact Hz.out hk j m hji hm
            · rw [show j = i from by omega, Hs.out] at hm
              cases hm
              exact Hnm.out
          case measure => simp [intOf]; omega
      · have hk2 : (e.kind == 2) = false := beq_eq_false_iff_ne.2 hk
        have Hk := Lib.hid hk
        clear hk x0 x1 x2 x3 x4 x5 h0
        go_upto_region 4 with fail
        go_quiet (fail)
        have kq := (Kp.refl wr).drewN nq
        generalize wr.drewN nq = w5 at *
        have KQ := Lib.hid (Hkp.out.trans kq)
        clear kq p0 p3
        go_wp2
        go_roundw
        case rel => exact ⟨i + 1, by omega, by go_num, fun hk => absurd hk Hk.out, KQ.out⟩
        case measure => simp [intOf]; omega
    · obtain rfl : i = n := by omega
      have hmiss : ¬ (e.kind = 2 ∧ (lukF ns ys e.name).isSome = true) := fun h => by
        have := lukF_miss ns ys e.name fun j m hm => Hz.out h.1 j m (by rw [← HN1.out]; exact (List.getElem?_eq_some_iff.1 hm).1) hm
        rw [this] at h
        exact absurd h.2 (by decide)
      have Hsub := Lib.hid (sub_miss hmiss)
      clear hmiss
      obtain ⟨⟨r0, r1, r2, r3, r4, r5⟩, _⟩ := HB1.out.kp Hkp.out
      clear p0 p3 q0 q1 q2 q3 q4 q5
      obtain ⟨w8, hw8⟩ : ∃ x : World, x = wr := ⟨_, rfl⟩
      subst hw8
      go_upto_region 8 with fail
      clear r0 r1 r2 r3 r4 r5
      have HS0 := Lib.hid (SwpS.nil (B := B) (lo := w8.heap.size + 1) ((Kp.refl w8).alloc (.cells #[.int .i64 e.kind, .int .i64 e.rn, .int .i64 e.rd, .string e.name, .int .i64 e.pw, .slice none 0 0] 26)))
      have HX0 := Lib.hid (BoxX.new w8 (.mk e.kind e.rn e.rd e.name e.pw none 0 []) _ rfl)
      have HI1 := Lib.hid HI.out
      have HWR := Lib.hid (show B ≤ w8.heap.size ∧ w.heap.size + 2 ≤ w8.heap.size by have := HBW.out; have := HZ.out; have := Hkp.out.size; omega)
      have HA2 := Lib.hid (Ex.at_kp HA.out Hkp.out)
      have HL := Lib.hid (show e.l.length ≤ 1048576 from (Ex.at_iff.1 HA.out).1.2.2.2)
      have hlb := HL.out
      generalize hfun : lukF ns ys = f at *
      go_wp2
      go_loopw [9] (fun x wr => ∃ (k c : Nat) (a : Option Addr) (xs : List Ex), k ≤ e.l.length ∧ x = .int .i64 (k : Int) ∧ xs.length = k ∧ BoxX wr w8.heap.size (.mk e.kind e.rn e.rd e.name e.pw a c xs) ∧ SwpS w8 B (w8.heap.size + 1) wr (.slice a k c) xs ∧ xs.map Ex.er = (e.l.take k).map fun x => (x.sub f).er) (fun x _ => e.l.length - (intOf x).toNat)
      case atStart => exact ⟨0, 0, none, [], by omega, rfl, rfl, HX0.out, HS0.out, rfl⟩
      case round =>
        obtain ⟨k, c, a, xs, hk, rfl, hxl, hbx, hsw, her⟩ := hrel
        have HXL := Lib.hid hxl
        have HBX := Lib.hid hbx
        have HSW := Lib.hid hsw
        have HER := Lib.hid her
        obtain ⟨⟨t0, t1, t2, t3, t4, t5⟩, _⟩ := HB1.out.kp (Hkp.out.trans hsw.1)
        clear hxl hbx hsw her
        by_cases hlt2 : k < e.l.length
        · obtain ⟨x, hx⟩ : ∃ x, e.l[k]? = some x := ⟨_, List.getElem?_eq_getElem hlt2⟩
          have Htk := Lib.hid (show e.l.take (k + 1) = e.l.take k ++ [x] by rw [List.take_add_one, hx]; rfl)
          have hxm := List.mem_of_getElem? hx
          have hat3 := Ex.at_iff.1 (Ex.at_kp HA2.out HSW.out.1)
          obtain ⟨b, o, ha, hb, h0, h1, h2, h3, h4, h5⟩ := hat3.2.1 k x hx
          have kd := (Kp.refl wr).drew
          have HX := Lib.hid (HI1.out x hxm B wr.drew ns ys na ya i nc yc (Ex.at_kp (hat3.2.2 x hxm) kd) (by have := HWR.out; have := HSW.out.1.size; have := kd.size; omega) (HNS.out.kp (Hkp.out.trans (HSW.out.1.trans kd))) (HYS.out.kp (Hkp.out.trans (HSW.out.1.trans kd))) (fun y hy => Ex.at_kp (HYA.out y hy) (Hkp.out.trans (HSW.out.1.trans kd))) HN1.out HN2.out hnm)
          rw [hfun] at HX
          rw [ha] at t5 ⊢
          have HK := Lib.hid kd
          have HBXd := Lib.hid (HBX.out.kp kd)
          have z5 : wr.drew.cell? ⟨w8.heap.size, 5, none⟩ = some (.slice a xs.length c) := (HBX.out.kp kd).1.2.2.2.2.2
          rw [HXL.out] at z5
          have d5 := kd.cell t5
          have hx6 := keepE6 kd ⟨h0, h1, h2, h3, h4, h5⟩
          obtain ⟨d0, d1, d2, d3, d4, d6⟩ := hx6
          have HLO := Lib.hid (show w8.heap.size + 1 ≤ wr.heap.size from HBX.out.2.2)
          have hcl : xs.length + 1 ≤ 9000000 := by rw [HXL.out]; omega
          clear hat3 hx hxm kd h0 h1 h2 h3 h4 h5
          go_upto_region 11 with fail
          clear t0 t1 t2 t3 t4 t5
          go_region_law (first
            | (go_simp; go_at_call 15; go_fit HX.out; rintro r v1 ⟨y, rfl, j1, hy1, hy2, hy3⟩
               have kA := j1.alloc (.cells #[.int .i64 y.kind, .int .i64 y.rn, .int .i64 y.rd, .string y.name, .int .i64 y.pw, .slice y.a y.l.length y.c] 26)
               have hBX1 := HBXd.out.kp j1
               have z6 : v1.cell? ⟨w8.heap.size, 5, none⟩ = some (.slice a xs.length c) := hBX1.1.2.2.2.2.2
               rw [HXL.out] at z6
               have hBX2 := HBXd.out.kp kA
               have z7 : (v1.alloc (.cells #[.int .i64 y.kind, .int .i64 y.rn, .int .i64 y.rd, .string y.name, .int .i64 y.pw, .slice y.a y.l.length y.c] 26)).cell? ⟨w8.heap.size, 5, none⟩ = some (.slice a xs.length c) := hBX2.1.2.2.2.2.2
               rw [HXL.out] at z7
               have HB2x := Lib.hid hBX2
               have hsw := HSW.out.kp (HK.out.trans kA)
               have hyA := at_grow ((Kp.refl v1).alloc (.cells #[.int .i64 y.kind, .int .i64 y.rn, .int .i64 y.rd, .string y.name, .int .i64 y.pw, .slice y.a y.l.length y.c] 26)).size (Ex.at_kp hy1 ((Kp.refl v1).alloc (.cells #[.int .i64 y.kind, .int .i64 y.rn, .int .i64 y.rd, .string y.name, .int .i64 y.pw, .slice y.a y.l.length y.c] 26)))
               have HE2 := Lib.hid hy3
               have HO2 := Lib.hid hy2
               have hlo : w8.heap.size + 1 ≤ (v1.alloc (.cells #[.int .i64 y.kind, .int .i64 y.rn, .int .i64 y.rd, .string y.name, .int .i64 y.pw, .slice y.a y.l.length y.c] 26)).heap.size := by have := HLO.out; have := HK.out.size; have := kA.size; omega
               have hyo : y.off fun b => b < B ∨ (w8.heap.size + 1 ≤ b ∧ (Value.slice a k c).ownBlock ≠ some b) := Ex.off_mono hy2 fun b hb => hb.imp id fun hb => ⟨by have := HLO.out; have := HK.out.size; omega, fun e => by have := (HSW.out.2.1.lt b e).2; have := HK.out.size; omega⟩
               clear hBX1 hBX2 hy1 hy2 hy3)
            | (refine step_append_swp (by rfl) _ _ (by rfl) w8 B (w8.heap.size + 1) _ xs (by rfl) hsw (by have := HWR.out; omega) (by omega) hlo _ _ (by rfl) y hyA hyo (by simp) hcl ?_; intro g' c' w9 hs9 hb9
               have hB9 := HB2x.out.below hb9 (Nat.lt_succ_self _)
               have z9 := hB9.1.2.2.2.2.2
               have f9 := hB9.2.1 5)
            | fail)
          all_goals
            go_wp2_with fail
            go_roundw
            case measure => simp [intOf]; omega
            case rel =>
              have hl2 : (xs ++ [y]).length = k + 1 := by rw [List.length_append, HXL.out]; rfl
              have hbx := hB9.setL (a' := some ⟨g', 0, none⟩) (c' := c') (l' := xs ++ [y])
              have hsw2 := hs9.put (i := 5) (Nat.le_refl _) HWR.out.1 (Nat.lt_succ_self _) (.slice (some ⟨g', 0, none⟩) (xs ++ [y]).length c')
              rw [hl2] at hbx hsw2
              rw [HXL.out] at hsw2 ⊢
              refine ⟨k + 1, c', some ⟨g', 0, none⟩, xs ++ [y], by omega, by go_num, hl2, hbx, hsw2, ?_⟩
              rw [List.map_append, HER.out, Htk.out, List.map_append]
              simp [HE2.out]
        · obtain rfl : k = e.l.length := by omega
          have hb := HB2.out.kp (Hkp.out.trans HSW.out.1)
          obtain ⟨⟨z0, z1, z2, z3, z4, z5⟩, zf, _⟩ := id hb
          have g0 := zf 0; have g1 := zf 1; have g2 := zf 2; have g3 := zf 3; have g4 := zf 4; have g5 := zf 5
          have HBB := Lib.hid hb
          obtain ⟨x, hx⟩ : ∃ x : Ex, x = .mk e.kind e.rn e.rd e.name e.pw a c xs := ⟨_, rfl⟩
          have Hx := Lib.hid hx
          have hbx := HBX.out
          rw [← hx] at hbx
          have hk5 := congrArg Ex.l hx
          obtain ⟨⟨y0, y1, y2, y3, y4, y5⟩, _⟩ := hbx
          clear hb zf hx hk5
          go_wp2
          generalize hW9 : ((((((wr.setCell _ _).setCell _ _).setCell _ _).setCell _ _).setCell _ _).setCell _ _) = W9
          have hst : Stored6 (w.heap.size + 1) 0 x wr W9 := stored60 x HBB.out hW9
          obtain ⟨⟨s0, s1, s2, s3, s4, s5⟩, _⟩ := HBB.out.stored hst
          have hz := HZ.out
          have hz9 := hst.2.2.2.1
          have hK := (K1.out.trans Hkp.out).trans HSW.out.1
          have hkw := hK.size
          have hw8 := HWR.out
          refine bodyPost_ret (v := .agg #[.int .i64 x.kind, .int .i64 x.rn, .int .i64 x.rd, .string x.name, .int .i64 x.pw, .slice x.a x.l.length x.c]) (by simp [results, Try.results15, go_sem, s0, s1, s2, s3, s4, s5]) rfl ?_
          have hoff : ∀ z ∈ xs, z.off fun b => b < B ∨ w8.heap.size + 1 ≤ b := fun z hz => Ex.off_mono (HSW.out.2.2 z hz).2 fun b hb => hb.imp id And.left
          have hown := HSW.out.2.1
          rw [← HXL.out] at hown
          obtain ⟨a', c', hv, hc1, hc2, hr⟩ := rowC_of hown rfl
          cases hv
          have hat0 := (Ex.at_iff.1 HA.out).1
          have hne : ∀ b, b < B ∨ w8.heap.size + 1 ≤ b → ∀ i v, wr.cell? ⟨b, i, none⟩ = some v → W9.cell? ⟨b, i, none⟩ = some v := fun b hb i v hc => by
            rw [hst.2.1 ⟨b, i, none⟩ (.inl (by show b ≠ w.heap.size + 1; have := HBW.out; omega))]
            exact hc
          have hrow : RowX W9 W9.heap.size a xs := by
            rcases hr with hr | ⟨g, rfl, hg, hr⟩
            · rw [hr]; intro j z hj; simp at hj
            · intro j z hj
              obtain ⟨c0, c1, c2, c3, c4, c5⟩ := hr.1 j z hj
              refine ⟨g, 0, rfl, by rw [hz9]; exact hr.2.2, ?_⟩
              simp only [Nat.zero_add]
              exact ⟨hne g (.inr hg) _ _ c0, hne g (.inr hg) _ _ c1, hne g (.inr hg) _ _ c2, hne g (.inr hg) _ _ c3, hne g (.inr hg) _ _ c4, hne g (.inr hg) _ _ c5⟩
          refine ⟨x, rfl, hst.2.2.2.2 w hK (by omega), ?_, ?_, ?_⟩
          · rw [Hx.out]
            refine Ex.at_iff.2 ⟨⟨hc1, hc2, hat0.2.2.1, by show xs.length ≤ 1048576; rw [HXL.out]; exact HL.out⟩, hrow, fun z hz => ?_⟩
            exact at_grow (by rw [hz9]; exact Nat.le_refl _) (at_off (fun b i v _ hP hc => hne b hP i v hc) z (HSW.out.2.2 z hz).1 (hoff z hz))
          · rw [Hx.out]
            refine Ex.off_node (fun hl ad ha => ?_) fun z hz => Ex.off_mono (hoff z hz) fun b hb => hb.imp id fun hb => by omega
            rcases hr with hr | ⟨g, rfl, hg, hr⟩
            · exact absurd hr hl
            · cases ha
              exact .inr (by show w.heap.size ≤ g; omega)
          · rw [hfun, Hsub.out, Hx.out, Ex.er_iff]
            refine ⟨⟨rfl, rfl, rfl, rfl, rfl⟩, ?_⟩
            show xs.map Ex.er = (e.l.map (Ex.sub f)).map Ex.er
            rw [HER.out, List.take_length, List.map_map]
            rfl
end Go.Proofs.Ythaphbbeiglolaa
