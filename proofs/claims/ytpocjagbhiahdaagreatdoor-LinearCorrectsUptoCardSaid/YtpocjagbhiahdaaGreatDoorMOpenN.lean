/-
  Arguments opened: a slice of slices of numbers.
-/
import Derived.Test.YtpocjagbhiahdaaGreatDoorMIvA
import Derived.Test.YtpocjagbhiahdaaGreatDoorMIdxN
import Derived.Deep.RegionHeld3
import Derived.Test.YtpocjagbhiahdaaGreatDoorMTabP
import Derived.Test.YtpocjagbhiahdaaGreatDoorMR3C
import Derived.Test.YtpocjagbhiahdaaGreatDoorMR3A
import Derived.Deep.DeepFit
import Derived.Test.YtpocjagbhiahdaaGreatDoorMRoAdd
section
namespace Go.Proofs.YtpocjagbhiahdaaGreatDoor
open Go.ChangeShapes Go.WideShapes Go.RowKit Go.Deep

section
variable {H : Type} {enc : TypeId × Value → H} {w : World} {base : Nat} {spare : Nat → Bool} {held : Bool}
theorem cellsRowD : Tryz.prog.cellsOf 61 = 1 := by kernel_rfl
theorem open_rowN {fuel : Nat} {cs : List Value} {x : DataW H × List MemPlace} (h : DataW.trod enc Tryz.prog w base spare held fuel 22 cs = some x) (hb : Rows.uptoBulk x.1 ≤ 1048576) :
    ∃ (a : Option Addr) (zs : List (List RD)) (c : Nat), cs = [.slice a zs.length c] ∧ RowN w a zs ∧ zs.length ≤ 1048576 := by
  rcases open_slice Tryz.underlying22 h with ⟨hcs, hx⟩ | ⟨a, len, cap, m, n, D, Pl, hcs, _, hl, hm, hmm, hx, hi⟩
  · exact ⟨none, [], 0, hcs, fun i x hx => by simp at hx, Nat.zero_le _⟩
  have hle : len ≤ m := by rw [hmm]; split <;> omega
  have hbl : ∀ i, i < len → Rows.uptoBulk (D i) ≤ 1048576 := fun i hil => by
    refine Nat.le_trans ?_ hb
    rw [hx]
    exact bulk_elem (List.mem_map.2 ⟨i, List.mem_range.2 hil, rfl⟩)
  have hll : len ≤ 1048576 := by
    refine Nat.le_trans ?_ hb
    rw [hx]
    refine Nat.le_trans ?_ (bulk_slice _ _)
    simp
  obtain ⟨f, hf⟩ := choose_lt (α := Option Addr × List RD × Nat) (n := len) (p := fun i y => w.cells? base (a.add (i * 1)) 1 = some [.slice y.1 y.2.1.length y.2.2] ∧ RowD w y.1 y.2.1 ∧ y.2.1.length ≤ 1048576) (fun i hil => by
    obtain ⟨cs', h1, h2⟩ := hi i (by omega)
    rw [cellsRowD] at h1
    obtain ⟨ra, r, rc, e, hr, hrl⟩ := open_rowD h2 (hbl i hil)
    exact ⟨(ra, r, rc), by rw [h1, e], hr, hrl⟩)
  have hfl : ((List.range len).map fun i => (f i).2.1).length = len := by simp
  refine ⟨some a, (List.range len).map fun i => (f i).2.1, cap, by rw [hfl]; exact hcs, fun i x hx => ?_, by omega⟩
  have hil : i < len := by have := (List.getElem?_eq_some_iff.1 hx).1; rwa [hfl] at this
  rw [List.getElem?_map, List.getElem?_range hil] at hx
  cases hx
  obtain ⟨h1, h2, h3⟩ := hf i hil
  obtain ⟨_, _, hat⟩ := World.cells?_some h1
  have h0 := hf 0 (by omega)
  have hspot : ∃ b o, a = ⟨b, o, none⟩ := by
    obtain ⟨_, _, hat0⟩ := World.cells?_some h0.1
    have := hat0 0 (by decide)
    rw [Nat.zero_mul, add_add] at this
    exact cell_spot this
  obtain ⟨b, o, rfl⟩ := hspot
  have key : w.cell? ⟨b, o + i, none⟩ = some (.slice (f i).1 (f i).2.1.length (f i).2.2) := by
    have := hat 0 (by decide)
    rw [add_add, Addr.add_lit, Nat.mul_one, Nat.add_zero] at this
    exact this
  exact ⟨b, o, (f i).1, (f i).2.2, rfl, key, h2, Nat.le_trans h3 (by decide)⟩
end
end Go.Proofs.YtpocjagbhiahdaaGreatDoor
end
namespace Go.Proofs.YtpocjagbhiahdaaGreatDoor
open Go.RowKit
def faultN (m n : List (List RI)) (p : Int) : Int := if (!vlM m || !vlM n) = true then 1 else if preB p = false then 2 else 0
set_option maxHeartbeats 4000000 in
theorem r7fault_any (a b : Option Addr) (m n : List (List RI)) (c d : Nat) (p : Int) (w : World) (hm : RowM w a m) (hn : RowM w b n) (hl : m.length ≤ 1100000) (hl2 : n.length ≤ 1100000) :
    Calls Tryz.prog 87 #[.slice a m.length c, .slice b n.length d, .int .i64 p] w fun e w' => e = .returned (.int .i64 (faultN m n p)) ∧ Kp w w' := by
  have HM := Lib.hid hm
  have HN := Lib.hid hn
  clear hm hn
  go_enter Tryz.func87, Tryz.ntmps87
  go_wp2_with fail
  go_fit (r7valid_any a m c _ HM.out hl)
  rintro e w1 ⟨rfl, k1⟩
  cases hvm : vlM m with
  | false =>
    have H := Lib.hid (show faultN m n p = 1 by unfold faultN; rw [hvm]; rfl)
    clear hvm
    go_wp2_with fail
    go_ret
    exact ⟨ret_int H.out.symm, k1⟩
  | true =>
  have HVM := Lib.hid hvm
  clear hvm
  go_wp2_with fail
  go_fit (r7valid_any b n d _ (HN.out.kp k1) hl2)
  rintro e w2 ⟨rfl, k2⟩
  have hk2 := k1.trans k2
  cases hvn : vlM n with
  | false =>
    have H := Lib.hid (show faultN m n p = 1 by unfold faultN; rw [HVM.out, hvn]; rfl)
    clear hvn
    go_wp2_with fail
    go_ret
    exact ⟨ret_int H.out.symm, hk2⟩
  | true =>
  have HVN := Lib.hid hvn
  clear hvn
  go_wp2_with fail
  go_fit (r3prec_any p _)
  rintro e w3 ⟨rfl, rfl⟩
  cases hp : preB p with
  | true =>
    have H := Lib.hid (show faultN m n p = 0 by unfold faultN; rw [HVM.out, HVN.out, hp]; rfl)
    clear hp
    go_wp2_with fail
    go_ret
    exact ⟨ret_int H.out.symm, hk2⟩
  | false =>
  have H := Lib.hid (show faultN m n p = 2 by unfold faultN; rw [HVM.out, HVN.out, hp]; rfl)
  clear hp
  go_wp2_with fail
  go_ret
  exact ⟨ret_int H.out.symm, hk2⟩
theorem OwnN.base {wb w : World} {v : Value} {zs : List RI} (h : OwnN wb w v zs) : Kp wb w := h.1
theorem keep16 {w w' : World} (k : Kp w w') {p q : Addr} {bx by9 ox oy : Nat} {vp vq x0 x1 x2 x3 x4 x5 x6 y0 y1 y2 y3 y4 y5 y6 : Value} (h : w.cell? p = some vp ∧ w.cell? q = some vq ∧ w.cell? ⟨bx, ox, none⟩ = some x0 ∧ w.cell? ⟨bx, ox + 1, none⟩ = some x1 ∧ w.cell? ⟨bx, ox + 2, none⟩ = some x2 ∧ w.cell? ⟨bx, ox + 3, none⟩ = some x3 ∧ w.cell? ⟨bx, ox + 4, none⟩ = some x4 ∧ w.cell? ⟨bx, ox + 5, none⟩ = some x5 ∧ w.cell? ⟨bx, ox + 6, none⟩ = some x6 ∧ w.cell? ⟨by9, oy, none⟩ = some y0 ∧ w.cell? ⟨by9, oy + 1, none⟩ = some y1 ∧ w.cell? ⟨by9, oy + 2, none⟩ = some y2 ∧ w.cell? ⟨by9, oy + 3, none⟩ = some y3 ∧ w.cell? ⟨by9, oy + 4, none⟩ = some y4 ∧ w.cell? ⟨by9, oy + 5, none⟩ = some y5 ∧ w.cell? ⟨by9, oy + 6, none⟩ = some y6) : w'.cell? p = some vp ∧ w'.cell? q = some vq ∧ w'.cell? ⟨bx, ox, none⟩ = some x0 ∧ w'.cell? ⟨bx, ox + 1, none⟩ = some x1 ∧ w'.cell? ⟨bx, ox + 2, none⟩ = some x2 ∧ w'.cell? ⟨bx, ox + 3, none⟩ = some x3 ∧ w'.cell? ⟨bx, ox + 4, none⟩ = some x4 ∧ w'.cell? ⟨bx, ox + 5, none⟩ = some x5 ∧ w'.cell? ⟨bx, ox + 6, none⟩ = some x6 ∧ w'.cell? ⟨by9, oy, none⟩ = some y0 ∧ w'.cell? ⟨by9, oy + 1, none⟩ = some y1 ∧ w'.cell? ⟨by9, oy + 2, none⟩ = some y2 ∧ w'.cell? ⟨by9, oy + 3, none⟩ = some y3 ∧ w'.cell? ⟨by9, oy + 4, none⟩ = some y4 ∧ w'.cell? ⟨by9, oy + 5, none⟩ = some y5 ∧ w'.cell? ⟨by9, oy + 6, none⟩ = some y6 := by
  obtain ⟨h0, h1, h2, h3, h4, h5, h6, h7, h8, h9, h10, h11, h12, h13, h14, h15⟩ := h
  exact ⟨k.cell h0, k.cell h1, k.cell h2, k.cell h3, k.cell h4, k.cell h5, k.cell h6, k.cell h7, k.cell h8, k.cell h9, k.cell h10, k.cell h11, k.cell h12, k.cell h13, k.cell h14, k.cell h15⟩
set_option maxRecDepth 100000 in
set_option maxHeartbeats 8000000 in
theorem r7add_any (a b : Option Addr) (m n : List (List RI)) (c d : Nat) (p : Int) (w : World) (hm : RowM w a m) (hn : RowM w b n) (hl : m.length ≤ 1100000) (hl2 : n.length ≤ 1100000) (hT : Tab w) :
    Calls Tryz.prog 40 #[.slice a m.length c, .slice b n.length d, .int .i64 p, .bool false] w (MatE w (entC (fun q X Y => pAdd X Y q) m n p).1 (entC (fun q X Y => pAdd X Y q) m n p).2) := by
  have HM := Lib.hid hm
  have HN := Lib.hid hn
  have HT := Lib.hid hT
  obtain ⟨D, hD⟩ : ∃ D, D = entC (fun q X Y => pAdd X Y q) m n p := ⟨_, rfl⟩
  have HD := Lib.hid hD
  rw [← hD]
  clear hm hn hT hD
  go_enter Tryz.func40, Tryz.ntmps40
  go_wp2_with fail
  go_fit (r7fault_any a b m n c d p _ HM.out HN.out hl hl2)
  rintro e w1 ⟨rfl, hk2⟩
  by_cases hv : (!vlM m || !vlM n) = true
  · have HE := Lib.hid (show D = ([], 1) by rw [HD.out]; unfold entC; rw [if_pos hv])
    rw [show faultN m n p = 1 by unfold faultN; rw [if_pos hv]]
    clear hv
    go_wp2_with fail
    rw [HE.out]
    refine bodyPost_ret (v := .tuple #[.slice none 0 0, .int .i64 1]) (by simp [results, Tryz.results40, go_sem]) rfl ?_
    exact matE_nil rfl hk2
  by_cases hp : preB p = false
  · have HE := Lib.hid (show D = ([], 2) by rw [HD.out]; unfold entC; rw [if_neg hv, if_pos hp])
    rw [show faultN m n p = 2 by unfold faultN; rw [if_neg hv, if_pos hp]]
    clear hv hp
    go_wp2_with fail
    rw [HE.out]
    refine bodyPost_ret (v := .tuple #[.slice none 0 0, .int .i64 2]) (by simp [results, Tryz.results40, go_sem]) rfl ?_
    exact matE_nil rfl hk2
  have hvm : vlM m = true := by cases h : vlM m <;> simp_all
  have hvn : vlM n = true := by cases h : vlM n <;> simp_all
  have hp2 : preB p = true := by cases h : preB p <;> simp_all
  rw [show faultN m n p = 0 by unfold faultN; rw [if_neg hv, if_neg hp]]
  have HVM := Lib.hid hvm
  have HVN := Lib.hid hvn
  have HP := Lib.hid hp2
  clear hv hp hvm hvn hp2
  obtain ⟨r0, hr0, hc0⟩ := vlM_row0 HVM.out
  obtain ⟨s0, hs0, hd0⟩ := vlM_row0 HVN.out
  have hml := (vlM_iff.1 HVM.out).1
  have hmc := (vlM_iff.1 HVM.out).2.1
  have hnl := (vlM_iff.1 HVN.out).1
  have hnc := (vlM_iff.1 HVN.out).2.1
  obtain ⟨ba, oa, ra, rc, rfl, hrow, _⟩ := HM.out 0 r0 hr0
  obtain ⟨bb, ob, rb, rd, rfl, hrowb, _⟩ := HN.out 0 s0 hs0
  rw [Nat.add_zero] at hrow hrowb
  have hi1 : (0 : Int) < (m.length : Int) := by omega
  have hi2 : (0 : Int) < (n.length : Int) := by omega
  have HC0 := Lib.hid (And.intro hc0 hd0)
  have kd := (Kp.refl w1).drew
  have hk3 := hk2.trans kd
  have g1 := hk3.cell hrow
  have g2 := hk3.cell hrowb
  have hlr : r0.length ≤ 8 := by omega
  have hls : s0.length ≤ 8 := by omega
  have hlm : m.length ≤ 8 := by omega
  have hln : n.length ≤ 8 := by omega
  have HML := Lib.hid (And.intro hml (And.intro hmc (And.intro hnl hnc)))
  clear hr0 hs0 hrow hrowb hc0 hd0 kd hk2 hml hmc hnl hnc
  go_upto_region 4 with fail
  by_cases hne : m.length = n.length
  rotate_left
  · have hne1 : ((m.length : Int) != (n.length : Int)) = true := by simpa using (by omega : ¬ (m.length : Int) = (n.length : Int))
    have HE := Lib.hid (show D = ([], 3) by
      rw [HD.out]; unfold entC
      rw [HVM.out, HVN.out, HP.out, if_neg (by decide), if_neg (by decide), if_pos (.inl hne)])
    clear hne
    go_region
    generalize w1.drew = W0 at *
    go_wp2_with fail
    rw [HE.out]
    refine bodyPost_ret (v := .tuple #[.slice none 0 0, .int .i64 3]) (by simp [results, Tryz.results40, go_sem]) rfl ?_
    exact matE_nil rfl hk3
  have hne1 : ((m.length : Int) != (n.length : Int)) = false := by rw [hne]; simp
  by_cases hnc : r0.length = s0.length
  rotate_left
  · have hnc1 : ((r0.length : Int) != (s0.length : Int)) = true := by simpa using (by omega : ¬ (r0.length : Int) = (s0.length : Int))
    have HE := Lib.hid (show D = ([], 3) by
      rw [HD.out]; unfold entC
      rw [HVM.out, HVN.out, HP.out, if_neg (by decide), if_neg (by decide), if_pos (by have := HC0.out; omega)])
    clear hne hnc
    go_region
    generalize w1.drew = W0 at *
    go_wp2_with fail
    rw [HE.out]
    refine bodyPost_ret (v := .tuple #[.slice none 0 0, .int .i64 3]) (by simp [results, Tryz.results40, go_sem]) rfl ?_
    exact matE_nil rfl hk3
  have hnc1 : ((r0.length : Int) != (s0.length : Int)) = false := by rw [hnc]; simp
  go_region
  generalize w1.drew = W0 at *
  obtain ⟨q, hq⟩ : ∃ q : Nat, q = p.toNat := ⟨_, rfl⟩
  have hpq : p = (q : Int) := by have := preB_iff.1 HP.out; omega
  have hq0 : 8 ≤ q := by have := preB_iff.1 HP.out; omega
  have hq1 : q ≤ 512 := by have := preB_iff.1 HP.out; omega
  obtain ⟨F, hF⟩ : ∃ F : Nat → Nat → PI, F = fun i j => pAdd (atP m i j) (atP n i j) q := ⟨_, rfl⟩
  have HDm := Lib.hid (show D = (tabM m.length (colsM m) F, 0) by
    rw [HD.out]; unfold entC
    rw [HVM.out, HVN.out, HP.out, if_neg (by decide), if_neg (by decide), if_neg (by have := HC0.out; omega), hF, hq])
  have HF := Lib.hid hF
  have HNE := Lib.hid (And.intro hne hnc)
  have HK3 := Lib.hid hk3
  rw [hpq]
  try rw [hne1]
  try rw [hnc1]
  clear g1 g2 hne hnc hpq hq hF hk3 hne1 hnc1
  go_wp2_with fail
  go_loopg [11, 12] m.length (fun z v x wr => ∃ (R : List (List RI)) (us : List Value), R.length + z = m.length ∧ x = .int .i64 (R.length : Int) ∧ OwnM W0 wr v us R ∧ plM R = tabM R.length (colsM m) F ∧ okM R)
  case atStart => exact ⟨[], [], by simp, rfl, OwnM.nil (Kp.refl _), rfl, fun r h => by simp at h⟩
  case round =>
  obtain ⟨R, us, hRq, rfl, hO, hpl, hok⟩ := hrel
  have HH := Lib.hid (And.intro hpl hok)
  have HO := Lib.hid hO
  have hkr := hO.1
  clear hpl hok hO
  by_cases hlt : R.length < m.length
  rotate_left
  · have hRe : R.length = m.length := by omega
    obtain ⟨va, vc, rfl, hvc1, hvc2, hrm⟩ := HO.out.value
    have HRe := Lib.hid (And.intro hRe hrm)
    clear hRe hRq hrm
    go_wp2_with fail
    rw [HDm.out]
    refine bodyPost_ret (v := .tuple #[.slice va R.length vc, .int .i64 0]) (by simp [results, Tryz.results40, go_sem]) rfl ?_
    refine ⟨va, R, vc, rfl, HRe.out.2, ?_, HH.out.2, by have := HML.out; have := HRe.out.1; omega, HK3.out.trans hkr⟩
    rw [HH.out.1, HRe.out.1]
  obtain ⟨r, hr⟩ : ∃ r, m[R.length]? = some r := ⟨_, List.getElem?_eq_getElem hlt⟩
  obtain ⟨s, hs⟩ : ∃ s, n[R.length]? = some s := ⟨_, List.getElem?_eq_getElem (by have := HNE.out.1; omega)⟩
  obtain ⟨b2, o2, ra2, rc, e2, hrc, hrow, hrl⟩ := HM.out R.length r hr
  cases e2
  obtain ⟨b2, o2, sa2, sc, e2, hsc, hsow, hsl⟩ := HN.out R.length s hs
  cases e2
  have HRW := Lib.hid (And.intro hr (And.intro hrc (And.intro hrow (vlM_row HVM.out hr))))
  have HSW := Lib.hid (And.intro hs (And.intro hsc (And.intro hsow (vlM_row HVN.out hs))))
  have Hlt := Lib.hid (And.intro hlt hRq)
  have hr8 : r.length ≤ 8 := by have := (vlM_row HVM.out hr).1; have := HML.out.2; omega
  have hs8 : s.length = r.length := by have := (vlM_row HVM.out hr).1; have := (vlM_row HVN.out hs).1; have := HNE.out.2; have := HC0.out; omega
  have hS8 := Lib.hid hs8
  have hs9 : s.length ≤ 8 := by omega
  clear hr hrc hrow hrl hRq hs hsc hsow hsl hs8
  have hk1 : (0 : Int) ≤ (R.length : Int) := by omega
  have hk2 : (R.length : Int) < (m.length : Int) := by omega
  have hk2n : (R.length : Int) < (n.length : Int) := by have := HNE.out.1; omega
  go_wp2_with fail
  obtain ⟨gk1, hgk1⟩ : ∃ x : Nat, x = gk := ⟨_, rfl⟩
  subst hgk1
  obtain ⟨wi, hwi⟩ : ∃ x : World, x = wr := ⟨_, rfl⟩
  subst hwi
  have HKI := Lib.hid (HK3.out.trans hkr)
  clear hkr
  go_loopg [13, 14] r.length (fun z u x wr => ∃ cur : List RI, cur.length + z = r.length ∧ x = .int .i64 (cur.length : Int) ∧ OwnN wi wr u cur ∧ plR cur = rowF cur.length (F R.length) ∧ ∀ x ∈ cur, x.vl = true)
  case atStart => exact ⟨[], by simp, rfl, OwnN.nil (Kp.refl _), rfl, fun x h => by simp at h⟩
  case round =>
  obtain ⟨cur, hcq, rfl, hown0, hpc, hvc⟩ := hrel
  have hki := HKI.out.trans hown0.1
  have hrcr := hki.cell HRW.out.2.1
  by_cases hlt2 : cur.length < r.length
  rotate_left
  · have hce : cur.length = r.length := by omega
    obtain ⟨ua, uc, rfl, huc, hum, hurow⟩ := hown0.value
    have kA := (Kp.refl wr).alloc (.cells #[.slice ua cur.length uc] 34)
    have HOA := HO.out.kp (hown0.1.trans kA)
    have hoff := OwnN.off (w' := wr.alloc (.cells #[.slice ua cur.length uc] 34)) hown0 rfl HO.out.new kA.size
    have hrowA := hurow.kp kA
    have HPC := Lib.hid (And.intro hpc (And.intro hvc hce))
    have hcl2 : cur.length ≤ 1100000 := by omega
    have hRl : R.length + 1 ≤ 9000000 := by omega
    clear hpc hvc hcq hown0 huc hum hurow hki kA hce
    go_wp2_with (at_builtin; refine wpList_append_rowi rfl _ _ rfl W0 _ us R rfl HOA _ _ rfl ua uc cur hrowA hoff hcl2 (by simp) hRl ?_; intro v' us' w9 hM9)
    go_roundg (gk1 - 1)
    case measure => have := Hlt.out; omega
    case rel =>
    refine ⟨R ++ [cur], us', by have := Hlt.out; rw [List.length_append, List.length_singleton]; omega, by rw [List.length_append, List.length_singleton]; go_num, hM9, ?_, okM_snoc HH.out.2 HPC.out.2.1⟩
    rw [plM_snoc, HH.out.1, List.length_append, List.length_singleton, tabM_snoc, HPC.out.1, HPC.out.2.2, HRW.out.2.2.2.1]
  obtain ⟨x, hx⟩ : ∃ x, r[cur.length]? = some x := ⟨_, List.getElem?_eq_getElem hlt2⟩
  obtain ⟨y, hy⟩ : ∃ y, s[cur.length]? = some y := ⟨_, List.getElem?_eq_getElem (by have := hS8.out; omega)⟩
  obtain ⟨b3, o3, e3, hxr, hxS⟩ := (HRW.out.2.2.1.kp HKI.out) cur.length x hx
  subst e3
  obtain ⟨b4, o4, e4, hyr, hyS⟩ := (HSW.out.2.2.1.kp HKI.out) cur.length y hy
  subst e4
  have HPC := Lib.hid (And.intro hpc (And.intro hvc (And.intro hcq hlt2)))
  have hj1 : (0 : Int) ≤ (cur.length : Int) := by omega
  have hj2 : (cur.length : Int) < (r.length : Int) := by omega
  have hj3 : (cur.length : Int) < (s.length : Int) := by have := hS8.out; omega
  have hcl : cur.length + 1 ≤ 9000000 := by omega
  have kd := (Kp.refl wr).drew
  have kid := hown0.1.trans kd
  have HS := Lib.hid (show wi.cell? ⟨ba, oa + R.length, none⟩ = some (.slice (some ⟨b3, o3, none⟩) r.length rc) ∧ wi.cell? ⟨bb, ob + R.length, none⟩ = some (.slice (some ⟨b4, o4, none⟩) s.length sc) ∧ wi.cell? ⟨b3, o3 + cur.length * 7, none⟩ = some (.bool x.lo.neg) ∧ wi.cell? ⟨b3, o3 + cur.length * 7 + 1, none⟩ = some (.slice x.lo.a x.lo.xs.length x.lo.c) ∧ wi.cell? ⟨b3, o3 + cur.length * 7 + 2, none⟩ = some (.int .i64 x.lo.e) ∧ wi.cell? ⟨b3, o3 + cur.length * 7 + 3, none⟩ = some (.bool x.hi.neg) ∧ wi.cell? ⟨b3, o3 + cur.length * 7 + 4, none⟩ = some (.slice x.hi.a x.hi.xs.length x.hi.c) ∧ wi.cell? ⟨b3, o3 + cur.length * 7 + 5, none⟩ = some (.int .i64 x.hi.e) ∧ wi.cell? ⟨b3, o3 + cur.length * 7 + 6, none⟩ = some (.bool x.all) ∧ wi.cell? ⟨b4, o4 + cur.length * 7, none⟩ = some (.bool y.lo.neg) ∧ wi.cell? ⟨b4, o4 + cur.length * 7 + 1, none⟩ = some (.slice y.lo.a y.lo.xs.length y.lo.c) ∧ wi.cell? ⟨b4, o4 + cur.length * 7 + 2, none⟩ = some (.int .i64 y.lo.e) ∧ wi.cell? ⟨b4, o4 + cur.length * 7 + 3, none⟩ = some (.bool y.hi.neg) ∧ wi.cell? ⟨b4, o4 + cur.length * 7 + 4, none⟩ = some (.slice y.hi.a y.hi.xs.length y.hi.c) ∧ wi.cell? ⟨b4, o4 + cur.length * 7 + 5, none⟩ = some (.int .i64 y.hi.e) ∧ wi.cell? ⟨b4, o4 + cur.length * 7 + 6, none⟩ = some (.bool y.all) from ⟨HKI.out.cell HRW.out.2.1, HKI.out.cell HSW.out.2.1, hxS.1, hxS.2.1, hxS.2.2.1, hxS.2.2.2.1, hxS.2.2.2.2.1, hxS.2.2.2.2.2.1, hxS.2.2.2.2.2.2, hyS⟩)
  have HSd := Lib.hid (keep16 kid HS.out)
  have HZ := Lib.hid (show pAdd x.pl y.pl q = F R.length cur.length by
    rw [HF.out]; show _ = pAdd (atP m R.length cur.length) (atP n R.length cur.length) q
    rw [atP_eq HRW.out.1 hx, atP_eq HSW.out.1 hy])
  have HC := Lib.hid (r5add_any x y q wr.drew (hxr.kp kid) (hyr.kp kid) (HRW.out.2.2.2.2 x (List.mem_of_getElem? hx)) (HSW.out.2.2.2.2 y (List.mem_of_getElem? hy)) hq0 hq1 (HT.out.kp (HKI.out.trans kid)))
  have HW := Lib.hid (hown0.kp kd)
  clear hx hy hxr hyr hxS hyS hpc hvc hcq kd kid hown0 hki
  go_upto_region 16 with fail
  clear hrcr
  go_region_held3 (fun w' => w'.cell? ⟨ba, oa + R.length, none⟩ = some (.slice (some ⟨b3, o3, none⟩) r.length rc) ∧ w'.cell? ⟨bb, ob + R.length, none⟩ = some (.slice (some ⟨b4, o4, none⟩) s.length sc) ∧ w'.cell? ⟨b3, o3 + cur.length * 7, none⟩ = some (.bool x.lo.neg) ∧ w'.cell? ⟨b3, o3 + cur.length * 7 + 1, none⟩ = some (.slice x.lo.a x.lo.xs.length x.lo.c) ∧ w'.cell? ⟨b3, o3 + cur.length * 7 + 2, none⟩ = some (.int .i64 x.lo.e) ∧ w'.cell? ⟨b3, o3 + cur.length * 7 + 3, none⟩ = some (.bool x.hi.neg) ∧ w'.cell? ⟨b3, o3 + cur.length * 7 + 4, none⟩ = some (.slice x.hi.a x.hi.xs.length x.hi.c) ∧ w'.cell? ⟨b3, o3 + cur.length * 7 + 5, none⟩ = some (.int .i64 x.hi.e) ∧ w'.cell? ⟨b3, o3 + cur.length * 7 + 6, none⟩ = some (.bool x.all) ∧ w'.cell? ⟨b4, o4 + cur.length * 7, none⟩ = some (.bool y.lo.neg) ∧ w'.cell? ⟨b4, o4 + cur.length * 7 + 1, none⟩ = some (.slice y.lo.a y.lo.xs.length y.lo.c) ∧ w'.cell? ⟨b4, o4 + cur.length * 7 + 2, none⟩ = some (.int .i64 y.lo.e) ∧ w'.cell? ⟨b4, o4 + cur.length * 7 + 3, none⟩ = some (.bool y.hi.neg) ∧ w'.cell? ⟨b4, o4 + cur.length * 7 + 4, none⟩ = some (.slice y.hi.a y.hi.xs.length y.hi.c) ∧ w'.cell? ⟨b4, o4 + cur.length * 7 + 5, none⟩ = some (.int .i64 y.hi.e) ∧ w'.cell? ⟨b4, o4 + cur.length * 7 + 6, none⟩ = some (.bool y.all)) (first | with_reducible exact HSd.out | with_reducible assumption | with_reducible exact keep16 (by assumption) (by assumption) | with_reducible exact keep16 hk9 HS.out | with_reducible exact keep16 hkA HS.out | fail)
    (first
      | (go_at_call 91; (with_reducible refine HC.out.mono ?_); rintro e v1 ⟨z, rfl, hz, hzp, hzv, j1⟩
         have hownA := HW.out.kp (j1.alloc (.cells #[.bool z.lo.neg, .slice z.lo.a z.lo.xs.length z.lo.c, .int .i64 z.lo.e, .bool z.hi.neg, .slice z.hi.a z.hi.xs.length z.hi.c, .int .i64 z.hi.e, .bool z.all] 44))
         have hkA := OwnN.base hownA
         have hzA := hz.kp ((Kp.refl v1).alloc (.cells #[.bool z.lo.neg, .slice z.lo.a z.lo.xs.length z.lo.c, .int .i64 z.lo.e, .bool z.hi.neg, .slice z.hi.a z.hi.xs.length z.hi.c, .int .i64 z.hi.e, .bool z.all] 44))
         have ZP := Lib.hid (And.intro (hzp.trans HZ.out) hzv)
         clear hz hzp hzv)
      | (refine step_append_ivg (by rfl) _ _ (by rfl) wi _ cur (by rfl) hownA _ _ (by rfl) z hzA (by simp) hcl ?_; intro a' c' w9 hown9 hgrow hblk; have hk9 := OwnN.base hown9)
      | fail)
  go_wp2_with fail
  go_roundg (gk - 1)
  case measure => have := HPC.out.2.2; omega
  case rel =>
  refine ⟨cur ++ [z], by have := HPC.out.2.2; rw [List.length_append, List.length_singleton]; omega, by rw [List.length_append, List.length_singleton]; go_num, by simpa using hown9, ?_, ok_snoc HPC.out.2.1 ZP.out.2⟩
  rw [plR_snoc, HPC.out.1, List.length_append, List.length_singleton, rowF_snoc, ZP.out.1]
set_option maxRecDepth 100000 in
set_option maxHeartbeats 8000000 in
theorem r7sub_any (a b : Option Addr) (m n : List (List RI)) (c d : Nat) (p : Int) (w : World) (hm : RowM w a m) (hn : RowM w b n) (hl : m.length ≤ 1100000) (hl2 : n.length ≤ 1100000) (hT : Tab w) :
    Calls Tryz.prog 40 #[.slice a m.length c, .slice b n.length d, .int .i64 p, .bool true] w (MatE w (entC (fun q X Y => pSub X Y q) m n p).1 (entC (fun q X Y => pSub X Y q) m n p).2) := by
  have HM := Lib.hid hm
  have HN := Lib.hid hn
  have HT := Lib.hid hT
  obtain ⟨D, hD⟩ : ∃ D, D = entC (fun q X Y => pSub X Y q) m n p := ⟨_, rfl⟩
  have HD := Lib.hid hD
  rw [← hD]
  clear hm hn hT hD
  go_enter Tryz.func40, Tryz.ntmps40
  go_wp2_with fail
  go_fit (r7fault_any a b m n c d p _ HM.out HN.out hl hl2)
  rintro e w1 ⟨rfl, hk2⟩
  by_cases hv : (!vlM m || !vlM n) = true
  · have HE := Lib.hid (show D = ([], 1) by rw [HD.out]; unfold entC; rw [if_pos hv])
    rw [show faultN m n p = 1 by unfold faultN; rw [if_pos hv]]
    clear hv
    go_wp2_with fail
    rw [HE.out]
    refine bodyPost_ret (v := .tuple #[.slice none 0 0, .int .i64 1]) (by simp [results, Tryz.results40, go_sem]) rfl ?_
    exact matE_nil rfl hk2
  by_cases hp : preB p = false
  · have HE := Lib.hid (show D = ([], 2) by rw [HD.out]; unfold entC; rw [if_neg hv, if_pos hp])
    rw [show faultN m n p = 2 by unfold faultN; rw [if_neg hv, if_pos hp]]
    clear hv hp
    go_wp2_with fail
    rw [HE.out]
    refine bodyPost_ret (v := .tuple #[.slice none 0 0, .int .i64 2]) (by simp [results, Tryz.results40, go_sem]) rfl ?_
    exact matE_nil rfl hk2
  have hvm : vlM m = true := by cases h : vlM m <;> simp_all
  have hvn : vlM n = true := by cases h : vlM n <;> simp_all
  have hp2 : preB p = true := by cases h : preB p <;> simp_all
  rw [show faultN m n p = 0 by unfold faultN; rw [if_neg hv, if_neg hp]]
  have HVM := Lib.hid hvm
  have HVN := Lib.hid hvn
  have HP := Lib.hid hp2
  clear hv hp hvm hvn hp2
  obtain ⟨r0, hr0, hc0⟩ := vlM_row0 HVM.out
  obtain ⟨s0, hs0, hd0⟩ := vlM_row0 HVN.out
  have hml := (vlM_iff.1 HVM.out).1
  have hmc := (vlM_iff.1 HVM.out).2.1
  have hnl := (vlM_iff.1 HVN.out).1
  have hnc := (vlM_iff.1 HVN.out).2.1
  obtain ⟨ba, oa, ra, rc, rfl, hrow, _⟩ := HM.out 0 r0 hr0
  obtain ⟨bb, ob, rb, rd, rfl, hrowb, _⟩ := HN.out 0 s0 hs0
  rw [Nat.add_zero] at hrow hrowb
  have hi1 : (0 : Int) < (m.length : Int) := by omega
  have hi2 : (0 : Int) < (n.length : Int) := by omega
  have HC0 := Lib.hid (And.intro hc0 hd0)
  have kd := (Kp.refl w1).drew
  have hk3 := hk2.trans kd
  have g1 := hk3.cell hrow
  have g2 := hk3.cell hrowb
  have hlr : r0.length ≤ 8 := by omega
  have hls : s0.length ≤ 8 := by omega
  have hlm : m.length ≤ 8 := by omega
  have hln : n.length ≤ 8 := by omega
  have HML := Lib.hid (And.intro hml (And.intro hmc (And.intro hnl hnc)))
  clear hr0 hs0 hrow hrowb hc0 hd0 kd hk2 hml hmc hnl hnc
  go_upto_region 4 with fail
  by_cases hne : m.length = n.length
  rotate_left
  · have hne1 : ((m.length : Int) != (n.length : Int)) = true := by simpa using (by omega : ¬ (m.length : Int) = (n.length : Int))
    have HE := Lib.hid (show D = ([], 3) by
      rw [HD.out]; unfold entC
      rw [HVM.out, HVN.out, HP.out, if_neg (by decide), if_neg (by decide), if_pos (.inl hne)])
    clear hne
    go_region
    generalize w1.drew = W0 at *
    go_wp2_with fail
    rw [HE.out]
    refine bodyPost_ret (v := .tuple #[.slice none 0 0, .int .i64 3]) (by simp [results, Tryz.results40, go_sem]) rfl ?_
    exact matE_nil rfl hk3
  have hne1 : ((m.length : Int) != (n.length : Int)) = false := by rw [hne]; simp
  by_cases hnc : r0.length = s0.length
  rotate_left
  · have hnc1 : ((r0.length : Int) != (s0.length : Int)) = true := by simpa using (by omega : ¬ (r0.length : Int) = (s0.length : Int))
    have HE := Lib.hid (show D = ([], 3) by
      rw [HD.out]; unfold entC
      rw [HVM.out, HVN.out, HP.out, if_neg (by decide), if_neg (by decide), if_pos (by have := HC0.out; omega)])
    clear hne hnc
    go_region
    generalize w1.drew = W0 at *
    go_wp2_with fail
    rw [HE.out]
    refine bodyPost_ret (v := .tuple #[.slice none 0 0, .int .i64 3]) (by simp [results, Tryz.results40, go_sem]) rfl ?_
    exact matE_nil rfl hk3
  have hnc1 : ((r0.length : Int) != (s0.length : Int)) = false := by rw [hnc]; simp
  go_region
  generalize w1.drew = W0 at *
  obtain ⟨q, hq⟩ : ∃ q : Nat, q = p.toNat := ⟨_, rfl⟩
  have hpq : p = (q : Int) := by have := preB_iff.1 HP.out; omega
  have hq0 : 8 ≤ q := by have := preB_iff.1 HP.out; omega
  have hq1 : q ≤ 512 := by have := preB_iff.1 HP.out; omega
  obtain ⟨F, hF⟩ : ∃ F : Nat → Nat → PI, F = fun i j => pSub (atP m i j) (atP n i j) q := ⟨_, rfl⟩
  have HDm := Lib.hid (show D = (tabM m.length (colsM m) F, 0) by
    rw [HD.out]; unfold entC
    rw [HVM.out, HVN.out, HP.out, if_neg (by decide), if_neg (by decide), if_neg (by have := HC0.out; omega), hF, hq])
  have HF := Lib.hid hF
  have HNE := Lib.hid (And.intro hne hnc)
  have HK3 := Lib.hid hk3
  rw [hpq]
  try rw [hne1]
  try rw [hnc1]
  clear g1 g2 hne hnc hpq hq hF hk3 hne1 hnc1
  go_wp2_with fail
  go_loopg [11, 12] m.length (fun z v x wr => ∃ (R : List (List RI)) (us : List Value), R.length + z = m.length ∧ x = .int .i64 (R.length : Int) ∧ OwnM W0 wr v us R ∧ plM R = tabM R.length (colsM m) F ∧ okM R)
  case atStart => exact ⟨[], [], by simp, rfl, OwnM.nil (Kp.refl _), rfl, fun r h => by simp at h⟩
  case round =>
  obtain ⟨R, us, hRq, rfl, hO, hpl, hok⟩ := hrel
  have HH := Lib.hid (And.intro hpl hok)
  have HO := Lib.hid hO
  have hkr := hO.1
  clear hpl hok hO
  by_cases hlt : R.length < m.length
  rotate_left
  · have hRe : R.length = m.length := by omega
    obtain ⟨va, vc, rfl, hvc1, hvc2, hrm⟩ := HO.out.value
    have HRe := Lib.hid (And.intro hRe hrm)
    clear hRe hRq hrm
    go_wp2_with fail
    rw [HDm.out]
    refine bodyPost_ret (v := .tuple #[.slice va R.length vc, .int .i64 0]) (by simp [results, Tryz.results40, go_sem]) rfl ?_
    refine ⟨va, R, vc, rfl, HRe.out.2, ?_, HH.out.2, by have := HML.out; have := HRe.out.1; omega, HK3.out.trans hkr⟩
    rw [HH.out.1, HRe.out.1]
  obtain ⟨r, hr⟩ : ∃ r, m[R.length]? = some r := ⟨_, List.getElem?_eq_getElem hlt⟩
  obtain ⟨s, hs⟩ : ∃ s, n[R.length]? = some s := ⟨_, List.getElem?_eq_getElem (by have := HNE.out.1; omega)⟩
  obtain ⟨b2, o2, ra2, rc, e2, hrc, hrow, hrl⟩ := HM.out R.length r hr
  cases e2
  obtain ⟨b2, o2, sa2, sc, e2, hsc, hsow, hsl⟩ := HN.out R.length s hs
  cases e2
  have HRW := Lib.hid (And.intro hr (And.intro hrc (And.intro hrow (vlM_row HVM.out hr))))
  have HSW := Lib.hid (And.intro hs (And.intro hsc (And.intro hsow (vlM_row HVN.out hs))))
  have Hlt := Lib.hid (And.intro hlt hRq)
  have hr8 : r.length ≤ 8 := by have := (vlM_row HVM.out hr).1; have := HML.out.2; omega
  have hs8 : s.length = r.length := by have := (vlM_row HVM.out hr).1; have := (vlM_row HVN.out hs).1; have := HNE.out.2; have := HC0.out; omega
  have hS8 := Lib.hid hs8
  have hs9 : s.length ≤ 8 := by omega
  clear hr hrc hrow hrl hRq hs hsc hsow hsl hs8
  have hk1 : (0 : Int) ≤ (R.length : Int) := by omega
  have hk2 : (R.length : Int) < (m.length : Int) := by omega
  have hk2n : (R.length : Int) < (n.length : Int) := by have := HNE.out.1; omega
  go_wp2_with fail
  obtain ⟨gk1, hgk1⟩ : ∃ x : Nat, x = gk := ⟨_, rfl⟩
  subst hgk1
  obtain ⟨wi, hwi⟩ : ∃ x : World, x = wr := ⟨_, rfl⟩
  subst hwi
  have HKI := Lib.hid (HK3.out.trans hkr)
  clear hkr
  go_loopg [13, 14] r.length (fun z u x wr => ∃ cur : List RI, cur.length + z = r.length ∧ x = .int .i64 (cur.length : Int) ∧ OwnN wi wr u cur ∧ plR cur = rowF cur.length (F R.length) ∧ ∀ x ∈ cur, x.vl = true)
  case atStart => exact ⟨[], by simp, rfl, OwnN.nil (Kp.refl _), rfl, fun x h => by simp at h⟩
  case round =>
  obtain ⟨cur, hcq, rfl, hown0, hpc, hvc⟩ := hrel
  have hki := HKI.out.trans hown0.1
  have hrcr := hki.cell HRW.out.2.1
  by_cases hlt2 : cur.length < r.length
  rotate_left
  · have hce : cur.length = r.length := by omega
    obtain ⟨ua, uc, rfl, huc, hum, hurow⟩ := hown0.value
    have kA := (Kp.refl wr).alloc (.cells #[.slice ua cur.length uc] 34)
    have HOA := HO.out.kp (hown0.1.trans kA)
    have hoff := OwnN.off (w' := wr.alloc (.cells #[.slice ua cur.length uc] 34)) hown0 rfl HO.out.new kA.size
    have hrowA := hurow.kp kA
    have HPC := Lib.hid (And.intro hpc (And.intro hvc hce))
    have hcl2 : cur.length ≤ 1100000 := by omega
    have hRl : R.length + 1 ≤ 9000000 := by omega
    clear hpc hvc hcq hown0 huc hum hurow hki kA hce
    go_wp2_with (at_builtin; refine wpList_append_rowi rfl _ _ rfl W0 _ us R rfl HOA _ _ rfl ua uc cur hrowA hoff hcl2 (by simp) hRl ?_; intro v' us' w9 hM9)
    go_roundg (gk1 - 1)
    case measure => have := Hlt.out; omega
    case rel =>
    refine ⟨R ++ [cur], us', by have := Hlt.out; rw [List.length_append, List.length_singleton]; omega, by rw [List.length_append, List.length_singleton]; go_num, hM9, ?_, okM_snoc HH.out.2 HPC.out.2.1⟩
    rw [plM_snoc, HH.out.1, List.length_append, List.length_singleton, tabM_snoc, HPC.out.1, HPC.out.2.2, HRW.out.2.2.2.1]
  obtain ⟨x, hx⟩ : ∃ x, r[cur.length]? = some x := ⟨_, List.getElem?_eq_getElem hlt2⟩
  obtain ⟨y, hy⟩ : ∃ y, s[cur.length]? = some y := ⟨_, List.getElem?_eq_getElem (by have := hS8.out; omega)⟩
  obtain ⟨b3, o3, e3, hxr, hxS⟩ := (HRW.out.2.2.1.kp HKI.out) cur.length x hx
  subst e3
  obtain ⟨b4, o4, e4, hyr, hyS⟩ := (HSW.out.2.2.1.kp HKI.out) cur.length y hy
  subst e4
  have HPC := Lib.hid (And.intro hpc (And.intro hvc (And.intro hcq hlt2)))
  have hj1 : (0 : Int) ≤ (cur.length : Int) := by omega
  have hj2 : (cur.length : Int) < (r.length : Int) := by omega
  have hj3 : (cur.length : Int) < (s.length : Int) := by have := hS8.out; omega
  have hcl : cur.length + 1 ≤ 9000000 := by omega
  have kd := (Kp.refl wr).drew
  have kid := hown0.1.trans kd
  have HS := Lib.hid (show wi.cell? ⟨ba, oa + R.length, none⟩ = some (.slice (some ⟨b3, o3, none⟩) r.length rc) ∧ wi.cell? ⟨bb, ob + R.length, none⟩ = some (.slice (some ⟨b4, o4, none⟩) s.length sc) ∧ wi.cell? ⟨b3, o3 + cur.length * 7, none⟩ = some (.bool x.lo.neg) ∧ wi.cell? ⟨b3, o3 + cur.length * 7 + 1, none⟩ = some (.slice x.lo.a x.lo.xs.length x.lo.c) ∧ wi.cell? ⟨b3, o3 + cur.length * 7 + 2, none⟩ = some (.int .i64 x.lo.e) ∧ wi.cell? ⟨b3, o3 + cur.length * 7 + 3, none⟩ = some (.bool x.hi.neg) ∧ wi.cell? ⟨b3, o3 + cur.length * 7 + 4, none⟩ = some (.slice x.hi.a x.hi.xs.length x.hi.c) ∧ wi.cell? ⟨b3, o3 + cur.length * 7 + 5, none⟩ = some (.int .i64 x.hi.e) ∧ wi.cell? ⟨b3, o3 + cur.length * 7 + 6, none⟩ = some (.bool x.all) ∧ wi.cell? ⟨b4, o4 + cur.length * 7, none⟩ = some (.bool y.lo.neg) ∧ wi.cell? ⟨b4, o4 + cur.length * 7 + 1, none⟩ = some (.slice y.lo.a y.lo.xs.length y.lo.c) ∧ wi.cell? ⟨b4, o4 + cur.length * 7 + 2, none⟩ = some (.int .i64 y.lo.e) ∧ wi.cell? ⟨b4, o4 + cur.length * 7 + 3, none⟩ = some (.bool y.hi.neg) ∧ wi.cell? ⟨b4, o4 + cur.length * 7 + 4, none⟩ = some (.slice y.hi.a y.hi.xs.length y.hi.c) ∧ wi.cell? ⟨b4, o4 + cur.length * 7 + 5, none⟩ = some (.int .i64 y.hi.e) ∧ wi.cell? ⟨b4, o4 + cur.length * 7 + 6, none⟩ = some (.bool y.all) from ⟨HKI.out.cell HRW.out.2.1, HKI.out.cell HSW.out.2.1, hxS.1, hxS.2.1, hxS.2.2.1, hxS.2.2.2.1, hxS.2.2.2.2.1, hxS.2.2.2.2.2.1, hxS.2.2.2.2.2.2, hyS⟩)
  have HSd := Lib.hid (keep16 kid HS.out)
  have HZ := Lib.hid (show pSub x.pl y.pl q = F R.length cur.length by
    rw [HF.out]; show _ = pSub (atP m R.length cur.length) (atP n R.length cur.length) q
    rw [atP_eq HRW.out.1 hx, atP_eq HSW.out.1 hy])
  have HC := Lib.hid (r5sub_any x y q wr.drew (hxr.kp kid) (hyr.kp kid) (HRW.out.2.2.2.2 x (List.mem_of_getElem? hx)) (HSW.out.2.2.2.2 y (List.mem_of_getElem? hy)) hq0 hq1 (HT.out.kp (HKI.out.trans kid)))
  have HW := Lib.hid (hown0.kp kd)
  clear hx hy hxr hyr hxS hyS hpc hvc hcq kd kid hown0 hki
  go_upto_region 15 with fail
  clear hrcr
  go_region_held3 (fun w' => w'.cell? ⟨ba, oa + R.length, none⟩ = some (.slice (some ⟨b3, o3, none⟩) r.length rc) ∧ w'.cell? ⟨bb, ob + R.length, none⟩ = some (.slice (some ⟨b4, o4, none⟩) s.length sc) ∧ w'.cell? ⟨b3, o3 + cur.length * 7, none⟩ = some (.bool x.lo.neg) ∧ w'.cell? ⟨b3, o3 + cur.length * 7 + 1, none⟩ = some (.slice x.lo.a x.lo.xs.length x.lo.c) ∧ w'.cell? ⟨b3, o3 + cur.length * 7 + 2, none⟩ = some (.int .i64 x.lo.e) ∧ w'.cell? ⟨b3, o3 + cur.length * 7 + 3, none⟩ = some (.bool x.hi.neg) ∧ w'.cell? ⟨b3, o3 + cur.length * 7 + 4, none⟩ = some (.slice x.hi.a x.hi.xs.length x.hi.c) ∧ w'.cell? ⟨b3, o3 + cur.length * 7 + 5, none⟩ = some (.int .i64 x.hi.e) ∧ w'.cell? ⟨b3, o3 + cur.length * 7 + 6, none⟩ = some (.bool x.all) ∧ w'.cell? ⟨b4, o4 + cur.length * 7, none⟩ = some (.bool y.lo.neg) ∧ w'.cell? ⟨b4, o4 + cur.length * 7 + 1, none⟩ = some (.slice y.lo.a y.lo.xs.length y.lo.c) ∧ w'.cell? ⟨b4, o4 + cur.length * 7 + 2, none⟩ = some (.int .i64 y.lo.e) ∧ w'.cell? ⟨b4, o4 + cur.length * 7 + 3, none⟩ = some (.bool y.hi.neg) ∧ w'.cell? ⟨b4, o4 + cur.length * 7 + 4, none⟩ = some (.slice y.hi.a y.hi.xs.length y.hi.c) ∧ w'.cell? ⟨b4, o4 + cur.length * 7 + 5, none⟩ = some (.int .i64 y.hi.e) ∧ w'.cell? ⟨b4, o4 + cur.length * 7 + 6, none⟩ = some (.bool y.all)) (first | with_reducible exact HSd.out | with_reducible assumption | with_reducible exact keep16 (by assumption) (by assumption) | with_reducible exact keep16 hk9 HS.out | with_reducible exact keep16 hkA HS.out | fail)
    (first
      | (go_at_call 90; (with_reducible refine HC.out.mono ?_); rintro e v1 ⟨z, rfl, hz, hzp, hzv, j1⟩
         have hownA := HW.out.kp (j1.alloc (.cells #[.bool z.lo.neg, .slice z.lo.a z.lo.xs.length z.lo.c, .int .i64 z.lo.e, .bool z.hi.neg, .slice z.hi.a z.hi.xs.length z.hi.c, .int .i64 z.hi.e, .bool z.all] 44))
         have hkA := OwnN.base hownA
         have hzA := hz.kp ((Kp.refl v1).alloc (.cells #[.bool z.lo.neg, .slice z.lo.a z.lo.xs.length z.lo.c, .int .i64 z.lo.e, .bool z.hi.neg, .slice z.hi.a z.hi.xs.length z.hi.c, .int .i64 z.hi.e, .bool z.all] 44))
         have ZP := Lib.hid (And.intro (hzp.trans HZ.out) hzv)
         clear hz hzp hzv)
      | (refine step_append_ivg (by rfl) _ _ (by rfl) wi _ cur (by rfl) hownA _ _ (by rfl) z hzA (by simp) hcl ?_; intro a' c' w9 hown9 hgrow hblk; have hk9 := OwnN.base hown9)
      | fail)
  go_wp2_with fail
  go_roundg (gk - 1)
  case measure => have := HPC.out.2.2; omega
  case rel =>
  refine ⟨cur ++ [z], by have := HPC.out.2.2; rw [List.length_append, List.length_singleton]; omega, by rw [List.length_append, List.length_singleton]; go_num, by simpa using hown9, ?_, ok_snoc HPC.out.2.1 ZP.out.2⟩
  rw [plR_snoc, HPC.out.1, List.length_append, List.length_singleton, rowF_snoc, ZP.out.1]
def PairC (w : World) (g : Nat) (x y : RI) : Prop := ∀ (k : Nat) (q : RD × RD), (pairR x y)[k]? = some q →
  (w.cell? ⟨g, k * 6, none⟩ = some (.bool q.1.neg) ∧ w.cell? ⟨g, k * 6 + 1, none⟩ = some (.slice q.1.a q.1.xs.length q.1.c) ∧ w.cell? ⟨g, k * 6 + 2, none⟩ = some (.int .i64 q.1.e)) ∧
  (w.cell? ⟨g, k * 6 + 3, none⟩ = some (.bool q.2.neg) ∧ w.cell? ⟨g, k * 6 + 4, none⟩ = some (.slice q.2.a q.2.xs.length q.2.c) ∧ w.cell? ⟨g, k * 6 + 5, none⟩ = some (.int .i64 q.2.e))
theorem PairC.kp {w w' : World} {g : Nat} {x y : RI} (h : PairC w g x y) (k : Kp w w') : PairC w' g x y := fun i q hq => keep33 k (h i q hq)
theorem pairC_of {w : World} {g : Nat} {x y : RI} {t : TypeId} (h : w.heap[g]? = some (.cells (pairCs x y) t (0, 0))) : PairC w g x y := by
  have key (i : Nat) : w.cell? ⟨g, i, none⟩ = (pairCs x y)[i]? := cell_of_row w g i _ t (0, 0) h
  intro k q hq
  match k, hq with
  | 0, h => cases h; simp only [key]; exact ⟨⟨rfl, rfl, rfl⟩, rfl, rfl, rfl⟩
  | 1, h => cases h; simp only [key]; exact ⟨⟨rfl, rfl, rfl⟩, rfl, rfl, rfl⟩
  | 2, h => cases h; simp only [key]; exact ⟨⟨rfl, rfl, rfl⟩, rfl, rfl, rfl⟩
  | 3, h => cases h; simp only [key]; exact ⟨⟨rfl, rfl, rfl⟩, rfl, rfl, rfl⟩
  | k + 4, h => simp [pairR] at h
theorem buildS4 (a0 a1 a2 a3 a4 a5 b0 b1 b2 b3 b4 b5 c0 c1 c2 c3 c4 c5 d0 d1 d2 d3 d4 d5 : Value) (w : World) :
    (Instr.buildSlice 151 4 #[(0, .agg #[a0, a1, a2, a3, a4, a5]), (1, .agg #[b0, b1, b2, b3, b4, b5]), (2, .agg #[c0, c1, c2, c3, c4, c5]), (3, .agg #[d0, d1, d2, d3, d4, d5])]).run Tryz.prog w = .ok (.slice (some ⟨w.heap.size, 0, none⟩) 4 4) (w.alloc (.cells #[a0, a1, a2, a3, a4, a5, b0, b1, b2, b3, b4, b5, c0, c1, c2, c3, c4, c5, d0, d1, d2, d3, d4, d5] 153)) := by kernel_rfl
theorem wpList_buildS4 {w : World} {ops : Array Oper} {rest : List Oper} {o : Oper} {a : Act} {Q : Exit → Act → World → Prop} (hgd : o.guard = none) (x0 x1 x2 x3 : Operand)
    (ho : o.op = .buildSlice 151 4 #[(0, x0), (1, x1), (2, x2), (3, x3)]) (x y : RI)
    (h0 : a.eval x0 = .agg #[.bool x.lo.neg, .slice x.lo.a x.lo.xs.length x.lo.c, .int .i64 x.lo.e, .bool y.lo.neg, .slice y.lo.a y.lo.xs.length y.lo.c, .int .i64 y.lo.e]) (h1 : a.eval x1 = .agg #[.bool x.lo.neg, .slice x.lo.a x.lo.xs.length x.lo.c, .int .i64 x.lo.e, .bool y.hi.neg, .slice y.hi.a y.hi.xs.length y.hi.c, .int .i64 y.hi.e])
    (h2 : a.eval x2 = .agg #[.bool x.hi.neg, .slice x.hi.a x.hi.xs.length x.hi.c, .int .i64 x.hi.e, .bool y.lo.neg, .slice y.lo.a y.lo.xs.length y.lo.c, .int .i64 y.lo.e]) (h3 : a.eval x3 = .agg #[.bool x.hi.neg, .slice x.hi.a x.hi.xs.length x.hi.c, .int .i64 x.hi.e, .bool y.hi.neg, .slice y.hi.a y.hi.xs.length y.hi.c, .int .i64 y.hi.e])
    (h : wpList Tryz.prog ops Q rest (a.put o.dst (.slice (some ⟨w.heap.size, 0, none⟩) 4 4)) (w.alloc (.cells (pairCs x y) 153))) : wpList Tryz.prog ops Q (o :: rest) a w :=
  wpList_plain hgd fun _ hK => by
    unfold Oper.wp execOp
    have e : (#[(0, x0), (1, x1), (2, x2), (3, x3)].map fun (i, x) => ((i : Nat), a.eval x)) = #[(0, a.eval x0), (1, a.eval x1), (2, a.eval x2), (3, a.eval x3)] := by simp
    simp only [ho, e, h0, h1, h2, h3, buildS4, Sem.run_bind, Result.andThen_ok]
    exact hK _ _ h
set_option maxRecDepth 100000 in
set_option maxHeartbeats 8000000 in
theorem r5ends_any (x y : RI) (w : World) :
    Calls Tryz.prog 175 #[.agg #[.bool x.lo.neg, .slice x.lo.a x.lo.xs.length x.lo.c, .int .i64 x.lo.e, .bool x.hi.neg, .slice x.hi.a x.hi.xs.length x.hi.c, .int .i64 x.hi.e, .bool x.all], .agg #[.bool y.lo.neg, .slice y.lo.a y.lo.xs.length y.lo.c, .int .i64 y.lo.e, .bool y.hi.neg, .slice y.hi.a y.hi.xs.length y.hi.c, .int .i64 y.hi.e, .bool y.all]] w fun e w' => ∃ g, e = .returned (.slice (some ⟨g, 0, none⟩) 4 4) ∧ PairC w' g x y ∧ Kp w w' ∧ w.heap.size ≤ g := by
  go_enter Tryz.func175, Tryz.ntmps175
  go_upto_region 1 with fail
  generalize hW : ((w.alloc _).alloc _) = W at *
  have hk : Kp w W := hW ▸ ((Kp.refl w).alloc _).alloc _
  have hS : (W.cell? ⟨w.heap.size, 0, none⟩ = some (.bool x.lo.neg) ∧ W.cell? ⟨w.heap.size, 1, none⟩ = some (.slice x.lo.a x.lo.xs.length x.lo.c) ∧ W.cell? ⟨w.heap.size, 2, none⟩ = some (.int .i64 x.lo.e) ∧ W.cell? ⟨w.heap.size, 3, none⟩ = some (.bool x.hi.neg) ∧ W.cell? ⟨w.heap.size, 4, none⟩ = some (.slice x.hi.a x.hi.xs.length x.hi.c) ∧ W.cell? ⟨w.heap.size, 5, none⟩ = some (.int .i64 x.hi.e) ∧ W.cell? ⟨w.heap.size, 6, none⟩ = some (.bool x.all)) ∧ W.cell? ⟨w.heap.size + 1, 0, none⟩ = some (.bool y.lo.neg) ∧ W.cell? ⟨w.heap.size + 1, 1, none⟩ = some (.slice y.lo.a y.lo.xs.length y.lo.c) ∧ W.cell? ⟨w.heap.size + 1, 2, none⟩ = some (.int .i64 y.lo.e) ∧ W.cell? ⟨w.heap.size + 1, 3, none⟩ = some (.bool y.hi.neg) ∧ W.cell? ⟨w.heap.size + 1, 4, none⟩ = some (.slice y.hi.a y.hi.xs.length y.hi.c) ∧ W.cell? ⟨w.heap.size + 1, 5, none⟩ = some (.int .i64 y.hi.e) ∧ W.cell? ⟨w.heap.size + 1, 6, none⟩ = some (.bool y.all) := by rw [← hW]; simp
  clear hW
  obtain ⟨⟨s0, s1, s2, s3, s4, s5, s6⟩, t0, t1, t2, t3, t4, t5, t6⟩ := hS
  go_wp2_with (first | refine wpList_buildS4 rfl _ _ _ _ rfl x y rfl rfl rfl rfl ?_ | fail)
  go_ret
  exact ⟨_, rfl, pairC_of (heap_alloc_new W _), hk.alloc _, hk.size⟩

set_option maxRecDepth 100000 in
set_option maxHeartbeats 4000000 in
theorem r2times_any (a b : Option Addr) (xs ys : List Nat) (c d : Nat) (w : World) (hx : Rd w a xs) (hy : Rd w b ys) (hxl : xs.length ≤ 1000) (hyl : ys.length ≤ 1000) :
    Calls Tryz.prog 208 #[.slice a xs.length c, .slice b ys.length d] w (NatOut w (val xs * val ys)) := by
  have hmk := make_u32 ((xs.length : Int) + ys.length + 1) (xs.length + ys.length + 1) (by omega) (by omega)
  go_enter Tryz.func208, Tryz.ntmps208
  go_wp2_with fail
  clear hmk
  go_loopw [6] (fun ix wr => ∃ (i : Nat) (zs : List Nat), i ≤ xs.length ∧ ix = .int .i64 i ∧ zs.length = xs.length + ys.length + 1 ∧ Blk wr w.heap.size zs ∧ Lt32 zs ∧
      val zs = val (xs.take i) * val ys ∧ (∀ j, i + ys.length ≤ j → nth zs j = 0) ∧ Kp w wr) (fun ix _ => xs.length - (intOf ix).toNat)
  case atStart => exact ⟨0, _, Nat.zero_le _, rfl, by simp, Blk.made _ _, .replicate _, by simp [val, val_replicate], fun j _ => nth_replicate _ _, (Kp.refl _).alloc _⟩
  case round =>
  obtain ⟨i, zs, hi, rfl, hzl, hb, hz32, hvz, hzero, hkp⟩ := hrel
  have Hvz := Lib.hid hvz
  have Hzl := Lib.hid hzl
  have Hzero := Lib.hid hzero
  clear hvz hzero
  by_cases hlt : i < xs.length
  rotate_left
  · have e2 := Hvz.out
    rw [List.take_of_length_le (by omega)] at e2
    have E2 := Lib.hid e2
    have HT := Lib.hid (r2trim_any (some ⟨w.heap.size, 0, none⟩) zs (xs.length + ys.length + 1) wr (hb.rd hz32) (by omega) (by unfold maxLen; omega) (by omega))
    rw [hzl] at HT
    have hkk := Lib.hid hkp
    clear e2 hb hkp hzl
    go_wp2_with fail
    with_reducible refine HT.out.mono ?_
    rintro e w7 ⟨a6, c6, rfl, l6, m6, r6, k6⟩
    go_wp2_with fail
    go_ret
    rw [← E2.out]
    exact ⟨a6, c6, rfl, l6, m6, r6, hkk.out.trans k6⟩
  go_wp2_with fail
  obtain ⟨wo, hwo⟩ : ∃ wo : World, wo = wr := ⟨_, rfl⟩
  subst hwo
  go_loopw [7, 8] (fun cy ix wr => ∃ (k c : Nat) (us : List Nat), k ≤ ys.length ∧ ix = .int .i64 k ∧ cy = .int .u64 c ∧ c < 4294967296 ∧ us.length = xs.length + ys.length + 1 ∧ Blk wr w.heap.size us ∧ Lt32 us ∧
    val us + 4294967296 ^ (i + k) * c = val zs + 4294967296 ^ i * (nth xs i * val (ys.take k)) ∧ (∀ j, i + ys.length ≤ j → nth us j = 0) ∧ Kp w wr) (fun _ ix _ => ys.length - (intOf ix).toNat)
  case atStart => exact ⟨0, 0, zs, Nat.zero_le _, rfl, rfl, by omega, Hzl.out, hb, hz32, by simp [val], Hzero.out, hkp⟩
  case round =>
  obtain ⟨k, cy, us, hk, rfl, rfl, hcy, hul, hb, hu32, hvu, huz, hkp⟩ := hrel
  have Hvu := Lib.hid hvu
  have Hul := Lib.hid hul
  have Huz := Lib.hid huz
  clear hvu huz
  by_cases hlt2 : k < ys.length
  · obtain ⟨b1, o1, rfl, hcx⟩ := (hx.kp hkp).some hlt
    have hx1 := hcx i hlt
    have bx := hx.lt32.nth i
    obtain ⟨b2, o2, rfl, hcy2⟩ := (hy.kp hkp).some hlt2
    have hy1 := hcy2 k hlt2
    have by' := hy.lt32.nth k
    have bu := hu32.nth (i + k)
    have hs1 := hb.cell (i := i + k) (by omega)
    have hs2 := hb.frozen (i + k)
    have hp1 := prod32 bx by'
    have hp0 : 0 ≤ (nth xs i : Int) * nth ys k := Int.mul_nonneg (by omega) (by omega)
    clear hcy2 hcx
    have hq1 := prodN bx by'
    have hi1 : (0 : Int) ≤ (i : Int) + k := by omega
    have hi2 : (i : Int) + k < ((xs.length + ys.length + 1 : Nat) : Int) := by omega
    have hi3 : (0 : Int) ≤ (i : Int) := by omega
    have hi4 : (0 : Int) ≤ (k : Int) := by omega
    have hi5 : (i : Int) < (xs.length : Int) := by omega
    have hi6 : (k : Int) < (ys.length : Int) := by omega
    have Hst := Lib.hid (mul_step (zs := us) (j := i + k) (x := nth xs i) (y := nth ys k) (by omega) Hvu.out rfl)
    have Hcl := Lib.hid (and_lowI (x := (nth xs i : Int) * nth ys k + nth us (i + k) + cy) (s := nth xs i * nth ys k + nth us (i + k) + cy) (by push_cast; rfl) (by omega))
    go_wp2_with fail
    go_quiet (fail)
    go_wp2_with fail
    go_roundw
    case measure => simp [intOf]; omega
    case rel =>
    refine ⟨k + 1, (nth xs i * nth ys k + nth us (i + k) + cy) / 4294967296, us.set (i + k) ((nth xs i * nth ys k + nth us (i + k) + cy) % 4294967296), by omega, by go_num, by rw [cast_div3], by omega, by simp [Hul.out], (hb.kp ((Kp.refl _).drewN _)).put Hcl.out, hu32.set _ _ (by omega), ?_, fun j hj => ?_, (hkp.drewN _).set (Nat.le_refl _) _⟩
    · rw [show i + (k + 1) = i + k + 1 from by omega, Hst.out, val_take_step ys, Nat.mul_add, Nat.mul_add, Nat.pow_add]
      congr 2
      rw [Nat.mul_assoc, Nat.mul_left_comm (nth xs i)]
    rw [nth_set_ne (by omega)]; exact Huz.out j hj
  have hke : k = ys.length := by omega
  have HV := Lib.hid (show val us + 4294967296 ^ (i + ys.length) * cy = val zs + 4294967296 ^ i * (nth xs i * val ys) by
    have := Hvu.out
    rw [hke, List.take_of_length_le (Nat.le_refl _)] at this
    exact this)
  clear hke Hvu
  go_wp2_with fail
  clear hlt2 hk
  obtain ⟨wp, hwp⟩ : ∃ wp : World, wp = wr := ⟨_, rfl⟩
  subst hwp
  go_loopw [7, 10] (fun cy ix wr => ∃ (k c : Nat) (vs : List Nat), i + ys.length ≤ k ∧ k ≤ i + ys.length + 1 ∧ (k = i + ys.length + 1 → c = 0) ∧ ix = .int .i64 k ∧ cy = .int .u64 c ∧ c < 4294967296 ∧ vs.length = xs.length + ys.length + 1 ∧ Blk wr w.heap.size vs ∧ Lt32 vs ∧
    val vs + 4294967296 ^ k * c = val zs + 4294967296 ^ i * (nth xs i * val ys) ∧ (∀ j, k ≤ j → nth vs j = 0) ∧ Kp w wr) (fun _ ix _ => i + ys.length + 1 - (intOf ix).toNat)
  case atStart => exact ⟨i + ys.length, cy, us, Nat.le_refl _, by omega, fun h => absurd h (by omega), by go_num, rfl, hcy, Hul.out, hb, hu32, HV.out, Huz.out, hkp⟩
  case round =>
  obtain ⟨k3, c3, vs, hk1, hk2, hk3, rfl, rfl, hc3, hvl, hb, hv32, hvv, hvz, hkp⟩ := hrel
  have HVV := Lib.hid hvv
  have Hvl := Lib.hid hvl
  have Hvz3 := Lib.hid hvz
  clear hvv hvz
  by_cases h0 : c3 = 0
  · have HE := Lib.hid (show val vs = val zs + 4294967296 ^ i * (nth xs i * val ys) by
      have := HVV.out
      rw [h0, Nat.mul_zero, Nat.add_zero] at this
      exact this)
    have hc0 : ¬ (0 : Int) < (c3 : Int) := by omega
    clear h0 hk3 HVV HV
    go_wp2_with fail
    go_roundw
    case measure => simp [intOf]; omega
    case rel =>
    refine ⟨i + 1, vs, by omega, by go_num, Hvl.out, hb, hv32, ?_, fun j hj => Hvz3.out j (by omega), hkp⟩
    rw [HE.out, Hvz.out, val_take_step xs, Nat.add_mul, Nat.mul_assoc]
  have hke : k3 = i + ys.length := by
    rcases Nat.lt_or_ge (i + ys.length) k3 with h | h
    · exact absurd (hk3 (by omega)) h0
    · omega
  subst hke
  have hc0 : (0 : Int) < (c3 : Int) := by omega
  have hs1 := hb.cell (i := i + ys.length) (by omega)
  have hs2 := hb.frozen (i + ys.length)
  rw [Hvz3.out _ (Nat.le_refl _)] at hs1
  have HL := Lib.hid (mul_last (zs := vs) (j := i + ys.length) (c := c3) (V := val zs) (W := 4294967296 ^ i * (nth xs i * val ys)) (by omega) (Hvz3.out _ (Nat.le_refl _)) HVV.out)
  have Hcl := Lib.hid (and_lowI (x := (c3 : Int)) (s := c3) rfl (by omega))
  clear h0 hk3 HVV HV
  go_wp2_with fail
  go_roundw
  case measure => simp [intOf]; omega
  case rel =>
  refine ⟨i + ys.length + 1, 0, vs.set (i + ys.length) c3, by omega, by omega, fun _ => rfl, by go_num, by congr 1; omega, by omega, by simp [Hvl.out], hb.put (by rw [Hcl.out]; omega), hv32.set _ _ hc3, by rw [Nat.mul_zero, Nat.add_zero]; exact HL.out, fun j hj => ?_, hkp.set (Nat.le_refl _) _⟩
  rw [nth_set_ne (by omega)]; exact Hvz3.out j (by omega)
theorem rndS_canon {s : Bool} {N p : Nat} {e : Int} {up : Bool} (hN : N ≠ 0) : rndS s (oddp N) (e + tz N) false p up = rndS s N e false p up := by
  have h : ∀ u : Bool, rcut (oddp N) (e + tz N) false p u = rcut N e false p u := by
    intro u
    have h1 := rcut_shift (oddp_ne_zero hN) (tz N) (e + tz N) false p u
    rw [← (oddp_spec hN).2, show e + (tz N : Int) - (tz N : Nat) = e from by omega] at h1
    exact h1.symm
  unfold rndS
  rw [h]
theorem prodD_zero0 {d f : Dy} (h : (prodD d f).m = 0) : prodD d f = .zero := by
  unfold prodD canon at h ⊢
  split
  · rfl
  next h0 =>
  rw [if_neg h0] at h
  have := (oddp_spec h0).1
  have h2 : oddp (d.m * f.m) = 0 := h
  rw [h2] at this
  exact absurd this (by decide)
theorem prodD_small {d f : Dy} (hd : d.ok) (hf : f.ok) : (limbs (prodD d f).m).length ≤ 2000 ∧ -100000 ≤ (prodD d f).e ∧ (prodD d f).e ≤ 100000 := by
  have h1 := bits_mul_le d.m f.m
  have h2 := dok_bits hd
  have h3 := dok_bits hf
  have e1 := ok_e hd
  have e2 := ok_e hf
  unfold prodD canon
  split
  · exact ⟨by show (limbs 0).length ≤ 2000; rw [limbs_zero]; exact Nat.zero_le _, by decide, by decide⟩
  next h0 =>
  have h4 := bits_oddp h0
  exact ⟨limbs_of_bits (by show bits (oddp _) ≤ _; omega), by show _ ≤ d.e + f.e + (tz _ : Int); omega, by show d.e + f.e + (tz _ : Int) ≤ _; omega⟩
theorem prod_rnd {w w' : World} {x y : RD} (hx : x.ok w) (hy : y.ok w') {q : Nat} {up : Bool} (h0 : fltB (q : Int) [x, y] = 0) (hp : q ≤ 512) :
    mulB x y (q : Int) up = rndE (rndS (prodD x.dy y.dy).neg (prodD x.dy y.dy).m (prodD x.dy y.dy).e false q up) := by
  unfold mulB
  rw [if_pos h0]
  by_cases hz : x.xs.length = 0 ∨ y.xs.length = 0
  · rw [if_pos hz]
    have hm : x.dy.m * y.dy.m = 0 := by
      rcases hz with hz | hz
      · rw [(rdok_zero hx).1 hz, Nat.zero_mul]
      · rw [(rdok_zero hy).1 hz, Nat.mul_zero]
    have hP : prodD x.dy y.dy = .zero := by unfold prodD; rw [hm, canon_zero]
    have h2 := rndS_rnd (d := .zero) Dy.ok_zero hp up
    rw [Dy.iv_zero, rnd_zero] at h2
    rw [hP, h2]; rfl
  rw [if_neg hz]
  have hm : x.dy.m * y.dy.m ≠ 0 := Nat.mul_ne_zero (fun k => hz (.inl ((rdok_zero hx).2 k))) (fun k => hz (.inr ((rdok_zero hy).2 k)))
  have hP : prodD x.dy y.dy = ⟨x.neg != y.neg, oddp (x.dy.m * y.dy.m), x.e + y.e + tz (x.dy.m * y.dy.m)⟩ := by
    unfold prodD canon; rw [if_neg hm]; rfl
  rw [hP, rndS_canon hm]
  rfl
set_option maxRecDepth 100000 in
set_option maxHeartbeats 4000000 in
theorem r2prod_dy (x y : RD) (w : World) (hx : x.ok w) (hy : y.ok w) :
    Calls Tryz.prog 195 #[.agg #[.bool x.neg, .slice x.a x.xs.length x.c, .int .i64 x.e], .agg #[.bool y.neg, .slice y.a y.xs.length y.c, .int .i64 y.e]] w (DyOut w (prodD x.dy y.dy)) := by
  have hlx := rdok_len hx
  have hly := rdok_len hy
  have hex := rdok_e hx
  have hey := rdok_e hy
  have HPl := Lib.hid (show (limbs (val x.xs * val y.xs)).length ≤ 256 from limbs_of_bits (Nat.le_trans (bits_mul_le _ _) (by
    have h2 : bits (val x.xs) ≤ 4096 := dok_bits (rdok_dy hx)
    have h3 : bits (val y.xs) ≤ 4096 := dok_bits (rdok_dy hy)
    omega)))
  have HP := Lib.hid (show prodD x.dy y.dy = canon (x.neg != y.neg) (val x.xs * val y.xs) (x.e + y.e) from rfl)
  have HTm := Lib.hid (fun W (k : Kp w W) => r2times_any x.a y.a x.xs y.xs x.c y.c W (hx.kp k).1.1 (hy.kp k).1.1 (by omega) (by omega))
  have HOf := Lib.hid (fun (W : World) (a : Option Addr) (c : Nat) (h : Rd W a (limbs (val x.xs * val y.xs))) (hc : (limbs (val x.xs * val y.xs)).length ≤ c) (hm : c ≤ maxLen) => show Calls Tryz.prog 94 #[.bool (!(x.neg == y.neg)), .slice a (limbs (val x.xs * val y.xs)).length c, .int .i64 (IntKind.i64.wrap (x.e + y.e))] W (DyOut W (prodD x.dy y.dy)) by
    rw [show IntKind.i64.wrap (x.e + y.e) = x.e + y.e from IntWalk.i64_in _ (by omega)]
    have := r2Of_any (x.neg != y.neg) a (limbs (val x.xs * val y.xs)) c (x.e + y.e) W h hc hm (by have := HPl.out; omega) (by omega) (by omega)
    rw [val_limbs] at this
    rw [HP.out]
    exact this)
  clear hx hy HPl HP
  generalize prodD x.dy y.dy = G at *
  go_enter Tryz.func195, Tryz.ntmps195
  go_upto_region 1 with fail
  generalize hW : (((w.alloc _).alloc _).alloc _) = W at *
  have hk : Kp w W := hW ▸ (((Kp.refl w).alloc _).alloc _).alloc _
  have hS0 : W.cell? ⟨w.heap.size, 0, none⟩ = some (.bool x.neg) ∧ W.cell? ⟨w.heap.size, 1, none⟩ = some (.slice x.a x.xs.length x.c) ∧ W.cell? ⟨w.heap.size, 2, none⟩ = some (.int .i64 x.e) ∧ W.cell? ⟨w.heap.size + 1, 0, none⟩ = some (.bool y.neg) ∧ W.cell? ⟨w.heap.size + 1, 1, none⟩ = some (.slice y.a y.xs.length y.c) ∧ W.cell? ⟨w.heap.size + 1, 2, none⟩ = some (.int .i64 y.e) := by rw [← hW]; exact keep6 ((Kp.refl _).alloc _) (by simp)
  have hB0 : Box3 W (w.heap.size + 2) (.bool false) (.slice none 0 0) (.int .i64 0) := hW ▸ Box3.new3 _ _ _ _ _ _ _
  clear hW
  have hS := keepRR (Kp.refl W).drew hS0
  have HB := Lib.hid (hB0.kp (Kp.refl W).drew)
  have hkd := hk.drew
  have n1 : w.heap.size ≠ w.heap.size + 2 := by omega
  have n2 : w.heap.size + 1 ≠ w.heap.size + 2 := by omega
  clear hS0 hB0 hk
  go_region_held3 (fun w' => w'.cell? ⟨w.heap.size, 0, none⟩ = some (.bool x.neg) ∧ w'.cell? ⟨w.heap.size, 1, none⟩ = some (.slice x.a x.xs.length x.c) ∧ w'.cell? ⟨w.heap.size, 2, none⟩ = some (.int .i64 x.e) ∧ w'.cell? ⟨w.heap.size + 1, 0, none⟩ = some (.bool y.neg) ∧ w'.cell? ⟨w.heap.size + 1, 1, none⟩ = some (.slice y.a y.xs.length y.c) ∧ w'.cell? ⟨w.heap.size + 1, 2, none⟩ = some (.int .i64 y.e)) (first | with_reducible assumption | with_reducible exact keepRR (by assumption) (by assumption) | with_reducible exact setRR (by assumption) (by assumption) (by assumption))
    (first
      | (go_at_call 208; (with_reducible refine (HTm.out _ hkd).mono ?_); rintro e v1 ⟨a1, c1, rfl, l1, m1, r1, j1⟩)
      | (go_at_call 94; (with_reducible refine (HOf.out _ a1 c1 r1 l1 m1).mono ?_); rintro e v2 ⟨a2, c2, rfl, r2, l2, m2, j2⟩; obtain ⟨q0, q1, q2, f0, f1, f2⟩ := (HB.out.kp j1).kp j2)
      | fail)
  have hkk := (hkd.trans j1).trans j2
  have hst := stored q0 q1 q2 (fun _ h => by cases h) (fun _ h => by cases h) (fun _ h => by cases h) (.bool G.neg) (.slice a2 (limbs G.m).length c2) (.int .i64 G.e)
  go_wp2_with fail
  generalize (((v2.setCell _ _).setCell _ _).setCell _ _) = W2 at hst ⊢
  obtain ⟨s0, s1, s2, _, s4, s5, _, _⟩ := hst
  refine bodyPost_ret (v := .agg #[.bool G.neg, .slice a2 (limbs G.m).length c2, .int .i64 G.e]) (by simp [results, Tryz.results195, go_sem, s0, s1, s2]) rfl ?_
  exact ⟨a2, c2, rfl, s4 _ _ r2, l2, m2, s5 _ hkk (by omega)⟩
set_option maxHeartbeats 4000000 in
set_option maxRecDepth 100000 in
theorem r3mul_any (x y : RD) (p : Int) (up : Bool) (w : World) (hx : x.rd w) (hy : y.rd w) :
    Calls Tryz.prog 176 #[.agg #[.bool x.neg, .slice x.a x.xs.length x.c, .int .i64 x.e], .agg #[.bool y.neg, .slice y.a y.xs.length y.c, .int .i64 y.e], .int .i64 p, .bool up] w (NumE w (mulB x y p up).1 (mulB x y p up).2) := by
  obtain ⟨D, hD⟩ : ∃ D, D = mulB x y p up := ⟨_, rfl⟩
  have HD := Lib.hid hD
  rw [← hD]
  clear hD
  go_enter Tryz.func176, Tryz.ntmps176
  go_wp2_with fail
  generalize hW : (((w.alloc _).alloc _).alloc _) = W at *
  have hk : Kp w W := hW ▸ (((Kp.refl w).alloc _).alloc _).alloc _
  have hS : W.cell? ⟨w.heap.size, 0, none⟩ = some (.bool x.neg) ∧ W.cell? ⟨w.heap.size, 1, none⟩ = some (.slice x.a x.xs.length x.c) ∧ W.cell? ⟨w.heap.size, 2, none⟩ = some (.int .i64 x.e) ∧ W.cell? ⟨w.heap.size + 1, 0, none⟩ = some (.bool y.neg) ∧ W.cell? ⟨w.heap.size + 1, 1, none⟩ = some (.slice y.a y.xs.length y.c) ∧ W.cell? ⟨w.heap.size + 1, 2, none⟩ = some (.int .i64 y.e) := by rw [← hW]; exact keep6 ((Kp.refl _).alloc _) (by simp)
  have hB : Box3 W (w.heap.size + 2) (.bool false) (.slice none 0 0) (.int .i64 0) := hW ▸ Box3.new3 _ _ _ _ _ _ _
  clear hW
  refine (r3fault_any x y p _ (hx.kp hk) (hy.kp hk)).mono ?_
  rintro e w1 ⟨rfl, hk1⟩
  have hS1 := keepRR hk1 hS
  have hB1 := hB.kp hk1
  have hk2 := hk.trans hk1
  clear hS hB hk hk1
  by_cases h0 : fltB p [x, y] = 0
  rotate_left
  · have hz2 : (fltB p [x, y] != 0) = true := by simpa using h0
    have HD2 := Lib.hid (show D = (.zero, fltB p [x, y]) by rw [HD.out]; unfold mulB; rw [if_neg h0])
    clear h0 hS1
    obtain ⟨q0, q1, q2, f0, f1, f2⟩ := hB1
    go_wp2_with fail
    have hst := stored q0 q1 q2 (fun _ h => by cases h) (fun _ h => by cases h) (fun _ h => by cases h) (.bool false) (.slice none 0 0) (.int .i64 0)
    generalize (((w1.setCell _ _).setCell _ _).setCell _ _) = W9 at hst ⊢
    obtain ⟨s0, s1, s2, _, s4, s5, _, _⟩ := hst
    refine bodyPost_ret (v := .tuple #[.agg #[.bool false, .slice none 0 0, .int .i64 0], .int .i64 (fltB p [x, y])]) (by simp [results, Tryz.results176, go_sem, s0, s1, s2]) rfl ?_
    rw [HD2.out]
    exact numE_zero rfl (s5 _ hk2 (by omega))
  obtain ⟨hv, hp0, hp1⟩ := fltB_zero.1 h0
  obtain ⟨q, rfl⟩ := Int.eq_ofNat_of_zero_le (show 0 ≤ p by omega)
  have hxo : x.ok w1 := ⟨hx.kp hk2, by simpa using (List.all_eq_true.1 hv) x (by simp)⟩
  have hyo : y.ok w1 := ⟨hy.kp hk2, by simpa using (List.all_eq_true.1 hv) y (by simp)⟩
  have HD2 := Lib.hid (show D = rndE (rndS (prodD x.dy y.dy).neg (prodD x.dy y.dy).m (prodD x.dy y.dy).e false q up) by
    rw [HD.out, prod_rnd hxo hyo h0 (by omega)])
  rw [h0]
  clear h0 hv HD
  obtain ⟨hsl, hse0, hse1⟩ := prodD_small (rdok_dy hxo) (rdok_dy hyo)
  have HZ := Lib.hid (@prodD_zero0 x.dy y.dy)
  obtain ⟨s0, s1, s2, t0, t1, t2⟩ := hS1
  have HS := Lib.hid (r2prod_dy x y w1 hxo hyo)
  clear hxo hyo
  go_wp2_with fail
  refine HS.out.mono ?_
  rintro e w3 ⟨a3, c3, rfl, r3, l3, m3, k3⟩
  have hEx := r3exact_dy (prodD x.dy y.dy) a3 c3 q up w3 r3 l3 m3 (by omega) hse0 hse1 (by omega) (by omega) (fun h => by rw [HZ.out h]; decide)
  rw [← HD2.out] at hEx
  have HE := Lib.hid hEx
  clear hEx HS HZ s0 s1 s2 t0 t1 t2 hse0 hse1 hsl
  generalize prodD x.dy y.dy = G at *
  go_wp2_with fail
  refine HE.out.mono ?_
  rintro e w5 ⟨z, rfl, hzr, hzd, hzv, hk5⟩
  obtain ⟨q0, q1, q2, f0, f1, f2⟩ := (hB1.kp k3).kp hk5
  have hk6 := (hk2.trans k3).trans hk5
  clear hB1 hk5 HE r3
  have hst := stored q0 q1 q2 (fun _ h => by cases h) (fun _ h => by cases h) (fun _ h => by cases h) (.bool z.neg) (.slice z.a z.xs.length z.c) (.int .i64 z.e)
  go_wp2_with fail
  generalize (((w5.setCell _ _).setCell _ _).setCell _ _) = W2 at hst ⊢
  obtain ⟨s0, s1, s2, _, s4, s5, _, _⟩ := hst
  refine bodyPost_ret (v := .tuple #[.agg #[.bool z.neg, .slice z.a z.xs.length z.c, .int .i64 z.e], .int .i64 D.2]) (by simp [results, Tryz.results176, go_sem, s0, s1, s2]) rfl ?_
  exact ⟨z, rfl, ⟨s4 _ _ hzr.1, hzr.2⟩, hzd, hzv, s5 _ hk6 (by omega)⟩
end Go.Proofs.YtpocjagbhiahdaaGreatDoor
