/-
  Walks: matrix.entrywise, Add, Sub.
-/
import Derived.Test.YtdidocdpjiiedaaGreatDoorMEntM
namespace Go.Proofs.YtdidocdpjiiedaaGreatDoor
open Go.RowKit

/-- elements combined, or the error -/
def entC (op : Nat → PI → PI → PI) (m n : List (List RI)) (p : Int) : List (List PI) × Int :=
  if (!vlM m || !vlM n) = true then ([], 1) else if preB p = false then ([], 2) else if m.length ≠ n.length ∨ colsM m ≠ colsM n then ([], 3) else (tabM m.length (colsM m) (fun i j => op p.toNat (atP m i j) (atP n i j)), 0)
set_option maxRecDepth 100000 in
set_option maxHeartbeats 8000000 in
theorem ent_any (a b : Option Addr) (m n : List (List RI)) (c d : Nat) (p : Int) (fid : FuncId) (op : Nat → PI → PI → PI) (w : World) (hm : RowM w a m) (hn : RowM w b n) (hl : m.length ≤ 1100000) (hl2 : n.length ≤ 1100000) (hT : Tab w)
    (hop : ∀ q, 8 ≤ q → q ≤ 512 → OpE Tryz.prog fid q (op q)) :
    Calls Tryz.prog 76 #[.slice a m.length c, .slice b n.length d, .int .i64 p, .func (.func fid) #[] #[]] w (MatE w (entC op m n p).1 (entC op m n p).2) := by
  have hsf := storeF
  have HM := Lib.hid hm
  have HN := Lib.hid hn
  have HT := Lib.hid hT
  have HOP := Lib.hid hop
  obtain ⟨D, hD⟩ : ∃ D, D = entC op m n p := ⟨_, rfl⟩
  have HD := Lib.hid hD
  rw [← hD]
  clear hm hn hT hD hop
  go_enter Tryz.func76, Tryz.ntmps76
  go_wp2_with fail
  generalize hW : (((w.alloc _).alloc _).alloc _) = W at *
  have hk : Kp w W := hW ▸ (((Kp.refl w).alloc _).alloc _).alloc _
  have hbb : W.cell? ⟨w.heap.size, 0, none⟩ = some (.slice b n.length d) := by rw [← hW]; exact ((Kp.refl _).alloc _).cell (by simp)
  have hpb : W.cell? ⟨w.heap.size + 1, 0, none⟩ = some (.int .i64 p) := by rw [← hW]; exact ((Kp.refl _).alloc _).cell (by simp)
  have hfb : W.cell? ⟨w.heap.size + 1 + 1, 0, none⟩ = some (.func (.func fid) #[] #[]) := by
    have := heap_alloc_new ((w.alloc (.cells #[.slice b n.length d] 22)).alloc (.cells #[.int .i64 p] 3)) (.cells #[.func (.func fid) #[] #[]] 97)
    rw [hW] at this
    have e := cell_of_row W _ 0 _ _ _ this
    simpa using e
  clear hW
  go_fit (mvalid_any a m c _ (HM.out.kp hk) hl)
  rintro e w1 ⟨rfl, k1⟩
  have hk1 := hk.trans k1
  have hbb1 := k1.cell hbb
  have HPF := Lib.hid (And.intro (k1.cell hpb) (k1.cell hfb))
  clear hk hbb hpb hfb k1
  cases hvm : vlM m with
  | false =>
    have HE := Lib.hid (show D = ([], 1) by rw [HD.out]; unfold entC; rw [hvm]; rfl)
    clear hvm
    go_wp2_with fail
    rw [HE.out]
    refine bodyPost_ret (v := .tuple #[.slice none 0 0, .int .i64 1]) (by simp [results, Tryz.results76, go_sem]) rfl ?_
    exact matE_nil rfl hk1
  | true =>
    have HVM := Lib.hid hvm
    clear hvm
    go_wp2_with fail
    go_fit (mvalid_any b n d _ (HN.out.kp hk1) hl2)
    rintro e w2 ⟨rfl, k2⟩
    have hk2 := hk1.trans k2
    have hbb2 := k2.cell hbb1
    have hpb2 := k2.cell HPF.out.1
    have HF2 := Lib.hid (k2.cell HPF.out.2)
    clear hk1 hbb1 HPF k2
    cases hvn : vlM n with
    | false =>
      have HE := Lib.hid (show D = ([], 1) by rw [HD.out]; unfold entC; rw [HVM.out, hvn]; rfl)
      clear hvn
      go_wp2_with fail
      rw [HE.out]
      refine bodyPost_ret (v := .tuple #[.slice none 0 0, .int .i64 1]) (by simp [results, Tryz.results76, go_sem]) rfl ?_
      exact matE_nil rfl hk2
    | true =>
      have HVN := Lib.hid hvn
      clear hvn
      go_wp2_with fail
      go_fit (mprecise_any p _)
      rintro e w3 ⟨rfl, rfl⟩
      cases hp : preB p with
      | false =>
        have HE := Lib.hid (show D = ([], 2) by rw [HD.out]; unfold entC; rw [HVM.out, HVN.out, hp]; rfl)
        clear hp
        go_wp2_with fail
        rw [HE.out]
        refine bodyPost_ret (v := .tuple #[.slice none 0 0, .int .i64 2]) (by simp [results, Tryz.results76, go_sem]) rfl ?_
        exact matE_nil rfl hk2
      | true =>
        have HP := Lib.hid hp
        clear hp
        obtain ⟨r0, hr0, hc0⟩ := vlM_row0 HVM.out
        obtain ⟨s0, hs0, hd0⟩ := vlM_row0 HVN.out
        have hml := (vlM_iff.1 HVM.out).1
        have hmc := (vlM_iff.1 HVM.out).2.1
        have hnl := (vlM_iff.1 HVN.out).1
        have hnc := (vlM_iff.1 HVN.out).2.1
        obtain ⟨ba, oa, ra, rc, rfl, hrow, _⟩ := HM.out 0 r0 hr0
        obtain ⟨bb, ob, rb, rd, rfl, hrowb, _⟩ := HN.out 0 s0 hs0
        rw [Nat.add_zero] at hrow hrowb
        have hi1 : (0 : Int) < (m.length : Int) := by omega
        have hi2 : (0 : Int) < (n.length : Int) := by omega
        have HC0 := Lib.hid (And.intro hc0 hd0)
        have kd := (Kp.refl w2).drew
        have hk3 := hk2.trans kd
        have g1 := hk3.cell hrow
        have g2 := hk3.cell hrowb
        have g3 := kd.cell hbb2
        have HB := Lib.hid (And.intro g3 (And.intro (kd.cell hpb2) (kd.cell HF2.out)))
        have hlr : r0.length ≤ 8 := by omega
        have hls : s0.length ≤ 8 := by omega
        have hlm : m.length ≤ 8 := by omega
        have hln : n.length ≤ 8 := by omega
        clear hr0 hs0 hrow hrowb hc0 hd0 kd hbb2 hpb2 HF2 hk2 hml hmc hnl hnc
        go_upto_region 5 with fail
        by_cases hne : m.length = n.length
        · have hne1 : ((m.length : Int) != (n.length : Int)) = false := by rw [hne]; simp
          by_cases hnc : r0.length = s0.length
          · have hnc1 : ((r0.length : Int) != (s0.length : Int)) = false := by rw [hnc]; simp
            go_region
            generalize w2.drew = W0 at *
            clear g1 g2 g3
            obtain ⟨q, hq⟩ : ∃ q : Nat, q = p.toNat := ⟨_, rfl⟩
            have hpq : p = (q : Int) := by have := preB_iff.1 HP.out; omega
            have hq0 : 8 ≤ q := by have := preB_iff.1 HP.out; omega
            have hq1 : q ≤ 512 := by have := preB_iff.1 HP.out; omega
            have HDm := Lib.hid (show D = (tabM m.length (colsM m) (fun i j => op q (atP m i j) (atP n i j)), 0) by
              rw [HD.out]; unfold entC
              rw [HVM.out, HVN.out, HP.out, if_neg (by decide), if_neg (by decide), if_neg (by have := HC0.out; omega), hq])
            have HG := Lib.hid (show FunE Tryz.prog 121 #[.pointer (some ⟨w.heap.size + 1 + 1, 0, none⟩), .pointer (some ⟨w.heap.size, 0, none⟩), .pointer (some ⟨w.heap.size + 1, 0, none⟩)] W0 m (fun i j => op q (atP m i j) (atP n i j)) from by
              refine ⟨fun _ _ => by kernel_rfl, fun i j r x hr hx w1 k hxr => ?_⟩
              have hir := (List.getElem?_eq_some_iff.1 hr).1
              have hjr := (List.getElem?_eq_some_iff.1 hx).1
              have hjc : j < colsM n := by have := (vlM_row HVM.out hr).1; have := HC0.out; omega
              obtain ⟨s, y, hs, hy, hyv, hat⟩ := vlM_get HVN.out (show i < n.length by omega) hjc
              have kk := hk3.trans k
              obtain ⟨b2, o2, ra2, rc2, e2, hrc, hrow2, _⟩ := (HN.out.kp kk) i s hs
              cases e2
              obtain ⟨b3, o3, e3, hyr, hY⟩ := hrow2 j y hy
              subst e3
              have := entel_any n x y s d rc2 i j (w.heap.size + 1 + 1) w.heap.size (w.heap.size + 1) bb ob b3 o3 fid q (op q) w1 (HOP.out q hq0 hq1) hxr ((vlM_row HVM.out hr).2 x (List.mem_of_getElem? hx)) hyr hyv (HT.out.kp kk)
                (k.cell HB.out.2.2) (k.cell HB.out.1) (by rw [← hpq]; exact k.cell HB.out.2.1) hrc hY (by omega) (List.getElem?_eq_some_iff.1 hy).1
              have e9 : op q (atP m i j) (atP n i j) = op q x.pl y.pl := by rw [atP_eq hr hx, show atP n i j = y.pl by unfold atP; rw [hat]]
              rw [← e9] at this
              exact this)
            have HE := Lib.hid (each_any (some ⟨ba, oa, none⟩) m c 121 _ _ W0 (HM.out.kp hk3) HVM.out HG.out)
            clear hpq hq hne hnc
            go_wp2_with fail
            go_fit HE.out
            rintro e w4 ⟨aZ, Z, cZ, rfl, hZ, hp, ho, hz, k4⟩
            have hk4 := hk3.trans k4
            go_wp2_with fail
            rw [HDm.out]
            refine bodyPost_ret (v := .tuple #[.slice aZ Z.length cZ, .int .i64 0]) (by simp [results, Tryz.results76, go_sem]) rfl ?_
            exact ⟨aZ, Z, cZ, rfl, hZ, hp, ho, hz, hk4⟩
          · have hnc1 : ((r0.length : Int) != (s0.length : Int)) = true := by simpa using (by omega : ¬ (r0.length : Int) = (s0.length : Int))
            have HE := Lib.hid (show D = ([], 3) by
              rw [HD.out]; unfold entC
              rw [HVM.out, HVN.out, HP.out, if_neg (by decide), if_neg (by decide), if_pos (by have := HC0.out; omega)])
            clear hne hnc
            go_region
            generalize w2.drew = W0 at *
            go_wp2_with fail
            rw [HE.out]
            refine bodyPost_ret (v := .tuple #[.slice none 0 0, .int .i64 3]) (by simp [results, Tryz.results76, go_sem]) rfl ?_
            exact matE_nil rfl hk3
        · have hne1 : ((m.length : Int) != (n.length : Int)) = true := by simpa using (by omega : ¬ (m.length : Int) = (n.length : Int))
          have HE := Lib.hid (show D = ([], 3) by
            rw [HD.out]; unfold entC
            rw [HVM.out, HVN.out, HP.out, if_neg (by decide), if_neg (by decide), if_pos (.inl hne)])
          clear hne
          go_region
          generalize w2.drew = W0 at *
          go_wp2_with fail
          rw [HE.out]
          refine bodyPost_ret (v := .tuple #[.slice none 0 0, .int .i64 3]) (by simp [results, Tryz.results76, go_sem]) rfl ?_
          exact matE_nil rfl hk3
theorem opAdd (q : Nat) (h0 : 8 ≤ q) (h1 : q ≤ 512) : OpE Tryz.prog 77 q (fun X Y => pAdd X Y q) := ⟨fun _ _ => by kernel_rfl, fun x y W hx hy hT => IAdd_rd x y q W hx hy h0 h1 hT⟩
theorem opSub (q : Nat) (h0 : 8 ≤ q) (h1 : q ≤ 512) : OpE Tryz.prog 80 q (fun X Y => pSub X Y q) := ⟨fun _ _ => by kernel_rfl, fun x y W hx hy hT => ISub_any x y q W hx.1 hy.1 hx.2 hy.2 h0 h1 hT⟩
theorem madd_any (a b : Option Addr) (m n : List (List RI)) (c d : Nat) (p : Int) (w : World) (hm : RowM w a m) (hn : RowM w b n) (hl : m.length ≤ 1100000) (hl2 : n.length ≤ 1100000) (hT : Tab w) :
    Calls Tryz.prog 26 #[.slice a m.length c, .slice b n.length d, .int .i64 p] w (MatE w (entC (fun q X Y => pAdd X Y q) m n p).1 (entC (fun q X Y => pAdd X Y q) m n p).2) := by
  have H := Lib.hid (ent_any a b m n c d p _ _ w hm hn hl hl2 hT opAdd)
  generalize entC (fun q X Y => pAdd X Y q) m n p = D at *
  clear hm hn hT
  go_enter Tryz.func26, Tryz.ntmps26
  go_wp2_with fail
  go_fit H.out
  rintro e w4 ⟨aZ, Z, cZ, rfl, hZ, hp, ho, hz, k4⟩
  go_wp2_with fail
  refine bodyPost_ret (v := .tuple #[.slice aZ Z.length cZ, .int .i64 D.2]) (by simp [results, Tryz.results26, go_sem]) rfl ?_
  exact ⟨aZ, Z, cZ, rfl, hZ, hp, ho, hz, k4⟩
theorem msub_any (a b : Option Addr) (m n : List (List RI)) (c d : Nat) (p : Int) (w : World) (hm : RowM w a m) (hn : RowM w b n) (hl : m.length ≤ 1100000) (hl2 : n.length ≤ 1100000) (hT : Tab w) :
    Calls Tryz.prog 28 #[.slice a m.length c, .slice b n.length d, .int .i64 p] w (MatE w (entC (fun q X Y => pSub X Y q) m n p).1 (entC (fun q X Y => pSub X Y q) m n p).2) := by
  have H := Lib.hid (ent_any a b m n c d p _ _ w hm hn hl hl2 hT opSub)
  generalize entC (fun q X Y => pSub X Y q) m n p = D at *
  clear hm hn hT
  go_enter Tryz.func28, Tryz.ntmps28
  go_wp2_with fail
  go_fit H.out
  rintro e w4 ⟨aZ, Z, cZ, rfl, hZ, hp, ho, hz, k4⟩
  go_wp2_with fail
  refine bodyPost_ret (v := .tuple #[.slice aZ Z.length cZ, .int .i64 D.2]) (by simp [results, Tryz.results28, go_sem]) rfl ?_
  exact ⟨aZ, Z, cZ, rfl, hZ, hp, ho, hz, k4⟩
end Go.Proofs.YtdidocdpjiiedaaGreatDoor
