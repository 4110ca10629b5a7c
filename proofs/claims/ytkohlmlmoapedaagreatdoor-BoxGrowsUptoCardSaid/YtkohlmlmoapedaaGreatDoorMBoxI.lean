/-
  Walks: box.Grow.
-/
import Derived.Test.YtkohlmlmoapedaaGreatDoorMSpare
import Derived.Test.YtkohlmlmoapedaaGreatDoorMSumH
namespace Go.Proofs.YtkohlmlmoapedaaGreatDoor
open Go.RowKit

/-- ys are zs, each end moved outward by eps -/
def GrwN (eps : RD) (zs ys : List RI) : Prop := zs.length = ys.length ∧ ∀ (i : Nat) (x z : RI), zs[i]? = some x → ys[i]? = some z → z.lo.iv = x.lo.iv - eps.iv ∧ z.hi.iv = x.hi.iv + eps.iv
/-- what box.Grow answers -/
def GrowOut (w : World) (zs : List RI) (eps : RD) (e : Ending) (w' : World) : Prop :=
  (∃ f : Int, f ≠ 0 ∧ e = .returned (.tuple #[.slice none 0 0, .int .i64 f]) ∧ Kp w w') ∨
  (∃ a c ys, e = .returned (.tuple #[.slice a ys.length c, .int .i64 0]) ∧ RowI w' a ys ∧ ys.length ≤ c ∧ c ≤ maxLen ∧ Kp w w' ∧ vlB zs = true ∧ eps.vl = true ∧ 0 ≤ eps.iv ∧ (∀ x, x ∈ ys → x.ok w') ∧ GrwN eps zs ys)
theorem GrowOut.none {w w' : World} {zs : List RI} {eps : RD} (f : Int) (hf : f ≠ 0) (hk : Kp w w') : GrowOut w zs eps (.returned (.tuple #[.slice none 0 0, .int .i64 f])) w' := .inl ⟨f, hf, rfl, hk⟩
/-- the first elements of ys are those of zs, moved outward -/
def GrwT (eps : RD) (zs L : List RI) (k : Nat) : Prop := L.length = k ∧ (∀ x, x ∈ L → x.all = false ∧ x.vl = true) ∧ ∀ (i : Nat) (x z : RI), i < k → zs[i]? = some x → L[i]? = some z → z.lo.iv = x.lo.iv - eps.iv ∧ z.hi.iv = x.hi.iv + eps.iv
theorem GrwT.nil (eps : RD) (zs : List RI) : GrwT eps zs [] 0 := ⟨rfl, fun _ h => by simp at h, fun i _ _ h => by omega⟩
theorem GrwT.snoc {eps : RD} {zs L : List RI} {k : Nat} (h : GrwT eps zs L k) {x z : RI} (hx : zs[k]? = some x) (ha : z.all = false) (hv : z.vl = true) (h1 : z.lo.iv = x.lo.iv - eps.iv) (h2 : z.hi.iv = x.hi.iv + eps.iv) : GrwT eps zs (L ++ [z]) (k + 1) := by
  obtain ⟨g1, g2, g3⟩ := h
  refine ⟨by simp [g1], fun y hy => ?_, fun i y q hi hy hq => ?_⟩
  · rcases List.mem_append.1 hy with hy | hy
    · exact g2 y hy
    · simp only [List.mem_singleton] at hy; subst hy; exact ⟨ha, hv⟩
  · by_cases hik : i < k
    · rw [List.getElem?_append_left (by omega)] at hq
      exact g3 i y q hik hy hq
    · obtain rfl : i = k := by omega
      rw [hx] at hy; cases hy
      rw [List.getElem?_append_right (by omega), g1] at hq
      simp at hq; subst hq; exact ⟨h1, h2⟩
theorem vl_mk {x : RI} (ha : x.all = false) (h1 : x.lo.vl = true) (h2 : x.hi.vl = true) (h3 : x.lo.iv ≤ x.hi.iv) : x.vl = true := by
  unfold RI.vl
  rw [ha, h1, h2]
  have : cmpZ x.lo.iv x.hi.iv ≤ 0 := by unfold cmpZ; split <;> (try split) <;> omega
  simpa using this
theorem chk_zero {d : Dy} (h : (chk d).2 = 0) : (chk d).1 = d := by
  unfold chk at h ⊢
  split at h
  · next h' => rw [if_pos h']
  · cases h
theorem chk_code (d : Dy) : (chk d).2 = 0 ∨ (chk d).2 = 9 := by unfold chk; split <;> simp
theorem Sign_rd (x : RD) (w : World) (h : x.rd w) (v : x.vl = true) :
    Calls Tryz.prog 26 #[.agg #[.bool x.neg, .slice x.a x.xs.length x.c, .int .i64 x.e]] w fun e w' => e = .returned (.int .i64 (sgn x.dy)) ∧ Kp w w' := by
  have H := Sign_ok x.dy x.a x.c w (RD.at h v)
  rw [RD.limbs h v] at H
  exact H
set_option maxRecDepth 100000 in
set_option maxHeartbeats 4000000 in
theorem BGrow_any (a : Option Addr) (zs : List RI) (c : Nat) (eps : RD) (w : World) (h : RowI w a zs) (hl : zs.length ≤ 1100000) (he : eps.rd w) (hT : Tab w) :
    Calls Tryz.prog 6 #[.slice a zs.length c, .agg #[.bool eps.neg, .slice eps.a eps.xs.length eps.c, .int .i64 eps.e]] w (GrowOut w zs eps) := by
  go_enter Tryz.func6, Tryz.ntmps6
  go_wp2_with fail
  generalize hW : w.alloc _ = W at *
  have hk : Kp w W := hW ▸ (Kp.refl w).alloc _
  have hS : W.cell? ⟨w.heap.size, 0, none⟩ = some (.bool eps.neg) ∧ W.cell? ⟨w.heap.size, 1, none⟩ = some (.slice eps.a eps.xs.length eps.c) ∧ W.cell? ⟨w.heap.size, 2, none⟩ = some (.int .i64 eps.e) := by rw [← hW]; simp
  clear hW
  refine (BValid_any a zs c _ (h.kp hk) hl).mono ?_
  rintro e w1 ⟨rfl, hk1⟩
  cases hz : vlB zs with
  | false =>
    have H := hk.trans hk1
    clear hz hS hk hk1
    go_wp2_with fail
    refine bodyPost_ret (v := .tuple #[.slice none 0 0, .int .i64 1]) (by simp [results, Tryz.results6, go_sem]) rfl ?_
    exact .none 1 (by decide) H
  | true =>
    have v1 := Lib.hid hz
    obtain ⟨s0, s1, s2⟩ := hS
    have t0 := hk1.cell s0
    have t1 := hk1.cell s1
    have t2 := hk1.cell s2
    clear hz
    go_wp2_with fail
    have hk01 := hk.trans hk1
    refine (Valid_raw eps _ (he.kp hk01)).mono ?_
    rintro e w2 ⟨rfl, hk2⟩
    have hk02 := hk01.trans hk2
    cases hev : eps.vl with
    | false =>
      clear hev s0 s1 s2 t0 t1 t2 hk hk1 hk01 hk2
      go_wp2_with fail
      refine bodyPost_ret (v := .tuple #[.slice none 0 0, .int .i64 1]) (by simp [results, Tryz.results6, go_sem]) rfl ?_
      exact .none 1 (by decide) hk02
    | true =>
      have hev' := Lib.hid hev
      clear hev
      replace t0 := hk2.cell t0
      replace t1 := hk2.cell t1
      replace t2 := hk2.cell t2
      go_wp2_with fail
      refine (Sign_rd eps _ (he.kp hk02) hev'.out).mono ?_
      rintro e w3 ⟨rfl, hk3⟩
      have hk03 := hk02.trans hk3
      have hW3 := (hk1.trans hk2).trans hk3
      by_cases hs : sgn eps.dy < 0
      · clear s0 s1 s2 t0 t1 t2 hk hk1 hk01 hk2 hk02 hk3 hW3
        go_wp2_with fail
        refine bodyPost_ret (v := .tuple #[.slice none 0 0, .int .i64 1]) (by simp [results, Tryz.results6, go_sem]) rfl ?_
        exact .none 1 (by decide) hk03
      · have hpos := Lib.hid (show 0 ≤ eps.iv by
          have := (sgn_iv eps.dy).2.1
          have h2 : ¬ eps.dy.iv < 0 := fun h => hs (by rw [this.2 h]; decide)
          show 0 ≤ eps.dy.iv; omega)
        have hl8 := vlB_len v1.out
        clear t0 t1 t2 hk1 hk01 hk2 hk02 hk3
        go_wp2_with fail
        go_loopw [6, 28] (fun v x wr => ∃ k L, k ≤ zs.length ∧ x = .int .i64 k ∧ OwnN W wr v L ∧ GrwT eps zs L k) (fun _ x _ => zs.length - (intOf x).toNat)
        case atStart => exact ⟨0, [], by omega, rfl, OwnN.nil hW3, GrwT.nil _ _⟩
        case round =>
          obtain ⟨k, L, hk9, rfl, hown, hG⟩ := hrel
          have hk2 := hown.1
          have hlen8 : L.length + 1 ≤ 9000000 := by have := hG.1; omega
          have HG := Lib.hid hG
          clear hG
          by_cases hlt : k < zs.length
          · have hx := (vlB_ok ((h.kp hk).kp hk2) v1.out (List.getElem_mem hlt))
            obtain ⟨b1, o1, rfl, _⟩ := h k (zs[k]) (List.getElem?_eq_getElem hlt)
            obtain ⟨_, _, e1, _, h0, h1, h2, h3, h4, h5, h6⟩ := ((h.kp hk).kp hk2) k (zs[k]) (List.getElem?_eq_getElem hlt)
            cases e1
            have Hg := Lib.hid (List.getElem?_eq_getElem hlt)
            generalize zs[k] = x at *
            rw [hx.2.1] at h6
            have hi1 : (0 : Int) ≤ (k : Int) := by omega
            have hi2 : (k : Int) < (zs.length : Int) := by omega
            have r0 := hk2.cell s0
            have r1 := hk2.cell s1
            have r2 := hk2.cell s2
            have hTr := (hT.kp hk).kp hk2
            have her := (he.kp hk).kp hk2
            have hlt9 := World.block_lt_of_cell? wr _ r0
            have hA := (Kp.refl wr).alloc (.cells #[.bool x.lo.neg, .slice x.lo.a x.lo.xs.length x.lo.c, .int .i64 x.lo.e, .bool x.hi.neg, .slice x.hi.a x.hi.xs.length x.hi.c, .int .i64 x.hi.e, .bool false] 34)
            have q0 := hA.cell r0
            have q1 := hA.cell r1
            have q2 := hA.cell r2
            clear h
            go_wp2_with fail
            generalize hW1 : wr.alloc _ = W1 at *
            have hX : W1.cell? ⟨wr.heap.size, 0, none⟩ = some (.bool x.lo.neg) ∧ W1.cell? ⟨wr.heap.size, 1, none⟩ = some (.slice x.lo.a x.lo.xs.length x.lo.c) ∧ W1.cell? ⟨wr.heap.size, 2, none⟩ = some (.int .i64 x.lo.e) ∧ W1.cell? ⟨wr.heap.size, 3, none⟩ = some (.bool x.hi.neg) ∧ W1.cell? ⟨wr.heap.size, 4, none⟩ = some (.slice x.hi.a x.hi.xs.length x.hi.c) ∧ W1.cell? ⟨wr.heap.size, 5, none⟩ = some (.int .i64 x.hi.e) ∧ W1.cell? ⟨wr.heap.size, 6, none⟩ = some (.bool false) := by rw [← hW1]; simp
            clear hW1 h0 h1 h2 h3 h4 h5 h6 r0 r1 r2
            have hx1 := hx.kp hA
            have he1 : eps.ok W1 := ⟨her.kp hA, hev'.out⟩
            have hT1 := hTr.kp hA
            have Hok1 := Lib.hid (sumD_chk_ok x.lo.dy eps.dy.opp)
            have Hok2 := Lib.hid (sumD_chk_ok x.hi.dy eps.dy)
            refine (Sub_rd x.lo eps _ hx1.lo he1 hT1).mono ?_
            rintro e w4 ⟨z1, rfl, rz1, hz1, vz1, hk4⟩
            have hA2 := hk4.alloc (.cells #[.bool z1.neg, .slice z1.a z1.xs.length z1.c, .int .i64 z1.e] 25)
            have hX2 := keep7 hA2 hX
            obtain ⟨p0, p1, p2⟩ : (w4.alloc (.cells #[.bool z1.neg, .slice z1.a z1.xs.length z1.c, .int .i64 z1.e] 25)).cell? ⟨w.heap.size, 0, none⟩ = some (.bool eps.neg) ∧ (w4.alloc (.cells #[.bool z1.neg, .slice z1.a z1.xs.length z1.c, .int .i64 z1.e] 25)).cell? ⟨w.heap.size, 1, none⟩ = some (.slice eps.a eps.xs.length eps.c) ∧ (w4.alloc (.cells #[.bool z1.neg, .slice z1.a z1.xs.length z1.c, .int .i64 z1.e] 25)).cell? ⟨w.heap.size, 2, none⟩ = some (.int .i64 eps.e) := ⟨hA2.cell q0, hA2.cell q1, hA2.cell q2⟩
            obtain ⟨x0, x1, x2, x3, x4, x5, x6⟩ := hX2
            go_wp2_with fail
            have hk44 := (Kp.refl w4).alloc (.cells #[.bool z1.neg, .slice z1.a z1.xs.length z1.c, .int .i64 z1.e] 25)
            generalize hW4 : w4.alloc _ = W4 at *
            obtain ⟨y0, y1, y2⟩ : W4.cell? ⟨w4.heap.size, 0, none⟩ = some (.bool z1.neg) ∧ W4.cell? ⟨w4.heap.size, 1, none⟩ = some (.slice z1.a z1.xs.length z1.c) ∧ W4.cell? ⟨w4.heap.size, 2, none⟩ = some (.int .i64 z1.e) := by rw [← hW4]; simp
            clear hW4 q0 q1 q2
            refine (Add_rd x.hi eps _ (hx1.hi.kp hA2) (he1.kp hA2) (hT1.kp hA2)).mono ?_
            rintro e w5 ⟨z2, rfl, rz2, hz2, vz2, hk5⟩
            have hA3 := hk5.alloc (.cells #[.bool z2.neg, .slice z2.a z2.xs.length z2.c, .int .i64 z2.e] 25)
            have y0' := hA3.cell y0
            have y1' := hA3.cell y1
            have y2' := hA3.cell y2
            rcases chk_code (sumD x.lo.dy eps.dy.opp) with hc1 | hc1
            · rcases chk_code (sumD x.hi.dy eps.dy) with hc2 | hc2
              · have C1 := Lib.hid hc1
                have C2 := Lib.hid hc2
                rw [hc1, hc2]
                have hd1 := hz1.trans (chk_zero hc1)
                have hd2 := hz2.trans (chk_zero hc2)
                clear hc1 hc2
                have hrd : RI.rd ((w5.alloc (.cells #[.bool z2.neg, .slice z2.a z2.xs.length z2.c, .int .i64 z2.e] 25)).alloc (.cells #[.bool (RI.mk z1 z2 false).lo.neg, .slice (RI.mk z1 z2 false).lo.a (RI.mk z1 z2 false).lo.xs.length (RI.mk z1 z2 false).lo.c, .int .i64 (RI.mk z1 z2 false).lo.e, .bool (RI.mk z1 z2 false).hi.neg, .slice (RI.mk z1 z2 false).hi.a (RI.mk z1 z2 false).hi.xs.length (RI.mk z1 z2 false).hi.c, .int .i64 (RI.mk z1 z2 false).hi.e, .bool (RI.mk z1 z2 false).all] 34)) ⟨z1, z2, false⟩ := ⟨(rz1.kp (hk44.trans hA3)).kp ((Kp.refl _).alloc _), rz2.kp (((Kp.refl _).alloc _).alloc _)⟩
                have hown9 := hown.kp ((((hA.trans hA2).trans hA3)).alloc (.cells #[.bool (RI.mk z1 z2 false).lo.neg, .slice (RI.mk z1 z2 false).lo.a (RI.mk z1 z2 false).lo.xs.length (RI.mk z1 z2 false).lo.c, .int .i64 (RI.mk z1 z2 false).lo.e, .bool (RI.mk z1 z2 false).hi.neg, .slice (RI.mk z1 z2 false).hi.a (RI.mk z1 z2 false).hi.xs.length (RI.mk z1 z2 false).hi.c, .int .i64 (RI.mk z1 z2 false).hi.e, .bool (RI.mk z1 z2 false).all] 34))
                clear y0 y1 y2 p0 p1 p2 x0 x1 x2 x3 x4 x5 x6
                go_wp2_with (at_builtin; refine wpList_append_ivn rfl _ _ rfl W _ _ rfl hown9 _ _ rfl ⟨z1, z2, false⟩ hrd (by simp) hlen8 ?_; intro a' c' w9 hown9 hb9)
                have hs1 : z1.iv = x.lo.iv - eps.iv := by
                  show z1.dy.iv = _
                  rw [hd1, sumD_iv, Dy.opp_iv]; rfl
                have hs2 : z2.iv = x.hi.iv + eps.iv := by
                  show z2.dy.iv = _
                  rw [hd2, sumD_iv]; rfl
                have hsn := HG.out.snoc (z := ⟨z1, z2, false⟩) Hg.out rfl (vl_mk rfl (vz1 Hok1.out) (vz2 Hok2.out) (by have := hx.parts.2.2; have := hpos.out; show z1.iv ≤ z2.iv; omega)) hs1 hs2
                go_roundw
                case rel => exact ⟨k + 1, L ++ [⟨z1, z2, false⟩], by omega, by go_num, by simpa using hown9, hsn⟩
                case measure => simp [intOf]; omega
              · rw [hc1, hc2]
                have H := ((((hk.trans hk2).trans hA).trans hA2).trans hA3)
                clear hc1 hc2 hown y0 y1 y2 y0' y1' y2' p0 p1 p2 x0 x1 x2 x3 x4 x5 x6 hk hk2 hA hA2 hA3 hx hx1 he1 hT1 hTr her
                go_wp2_with fail
                refine bodyPost_ret (v := .tuple #[.slice none 0 0, .int .i64 9]) (by simp [results, Tryz.results6, go_sem]) rfl ?_
                exact .none 9 (by decide) H
            · rw [hc1]
              have H := ((((hk.trans hk2).trans hA).trans hA2).trans hA3)
              clear hc1 hown y0 y1 y2 y0' y1' y2' p0 p1 p2 x0 x1 x2 x3 x4 x5 x6 hk hk2 hA hA2 hA3 hx hx1 he1 hT1 hTr her
              go_wp2_with fail
              refine bodyPost_ret (v := .tuple #[.slice none 0 0, .int .i64 9]) (by simp [results, Tryz.results6, go_sem]) rfl ?_
              exact .none 9 (by decide) H
          · obtain ⟨a3, c3, rfl, h1, h2, h3⟩ := hown.value
            have hkl : k = zs.length := by omega
            have hgl := HG.out
            have hrows := hown.2.2.2
            have H := hk.trans hk2
            clear s0 s1 s2 hW3 hk03 hs
            go_wp2
            refine bodyPost_ret (v := .tuple #[.slice a3 L.length c3, .int .i64 0]) (by simp [results, Tryz.results6, go_sem]) rfl ?_
            exact .inr ⟨a3, c3, L, rfl, h3, h1, h2, H, v1.out, hev'.out, hpos.out, fun y hy => ⟨hrows y hy, hgl.2.1 y hy⟩, by rw [hgl.1, hkl], fun i y z hy hz => hgl.2.2 i y z (by have := (List.getElem?_eq_some_iff.1 hy).1; omega) hy hz⟩
end Go.Proofs.YtkohlmlmoapedaaGreatDoor
