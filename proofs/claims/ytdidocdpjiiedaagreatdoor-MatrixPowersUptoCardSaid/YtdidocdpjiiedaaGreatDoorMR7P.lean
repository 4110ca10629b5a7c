/-
  Walks: the seventh reference's Pow.
-/
import Derived.Deep.LoopGhost
import Derived.Deep.DeepFit
import Derived.Test.YtdidocdpjiiedaaGreatDoorMLaw7N
import Derived.Test.YtdidocdpjiiedaaGreatDoorMR7I
import Derived.Test.YtdidocdpjiiedaaGreatDoorMR7D
namespace Go.Proofs.YtdidocdpjiiedaaGreatDoor
open Go.RowKit

theorem okM_vlR {m : List (List RI)} (hm : vlM m = true) : okM m := fun r hr => ((vlM_iff.1 hm).2.2 r hr).2
set_option maxRecDepth 100000 in
set_option maxHeartbeats 8000000 in
theorem r7pow_any (a : Option Addr) (m : List (List RI)) (c : Nat) (n p : Int) (w : World) (hm : RowM w a m) (hl : m.length ≤ 1100000) (hT : Tab w) :
    Calls Tryz.prog 48 #[.slice a m.length c, .int .i64 n, .int .i64 p] w (MatE w (powC m n p).1 (powC m n p).2) := by
  have HM := Lib.hid hm
  have HT := Lib.hid hT
  obtain ⟨D, hD⟩ : ∃ D, D = powC m n p := ⟨_, rfl⟩
  have HD := Lib.hid hD
  rw [← hD]
  clear hm hT hD
  go_enter Tryz.func48, Tryz.ntmps48
  go_wp2_with fail
  go_fit (r7valid_any a m c _ HM.out hl)
  rintro e w1 ⟨rfl, hk1⟩
  cases hvm : vlM m with
  | false =>
    have HE := Lib.hid (show D = ([], 1) by rw [HD.out]; unfold powC; rw [if_pos hvm])
    clear hvm
    go_wp2_with fail
    rw [HE.out]
    refine bodyPost_ret (v := .tuple #[.slice none 0 0, .int .i64 1]) (by simp [results, Tryz.results48, go_sem]) rfl ?_
    exact matE_nil rfl hk1
  | true =>
    have HVM := Lib.hid hvm
    clear hvm
    go_wp2_with fail
    go_fit (r3prec_any p _)
    rintro e w2 ⟨rfl, rfl⟩
    cases hp : preB p with
    | false =>
      have HE := Lib.hid (show D = ([], 2) by rw [HD.out]; unfold powC; rw [HVM.out, if_neg (by decide), if_pos (.inl hp)])
      clear hp
      go_wp2_with fail
      rw [HE.out]
      refine bodyPost_ret (v := .tuple #[.slice none 0 0, .int .i64 2]) (by simp [results, Tryz.results48, go_sem]) rfl ?_
      exact matE_nil rfl hk1
    | true =>
      have HP := Lib.hid hp
      clear hp
      by_cases hn0 : n < 0
      · have HE := Lib.hid (show D = ([], 2) by rw [HD.out]; unfold powC; rw [HVM.out, if_neg (by decide), if_pos (.inr (.inl hn0))])
        go_wp2_with fail
        rw [HE.out]
        refine bodyPost_ret (v := .tuple #[.slice none 0 0, .int .i64 2]) (by simp [results, Tryz.results48, go_sem]) rfl ?_
        exact matE_nil rfl hk1
      · by_cases hn16 : 16 < n
        · have HE := Lib.hid (show D = ([], 2) by rw [HD.out]; unfold powC; rw [HVM.out, if_neg (by decide), if_pos (.inr (.inr hn16))])
          go_wp2_with fail
          rw [HE.out]
          refine bodyPost_ret (v := .tuple #[.slice none 0 0, .int .i64 2]) (by simp [results, Tryz.results48, go_sem]) rfl ?_
          exact matE_nil rfl hk1
        · have HNB := Lib.hid (show ¬ (preB p = false ∨ n < 0 ∨ 16 < n) from fun h => by
            rcases h with h | h | h
            · rw [HP.out] at h; cases h
            · exact hn0 h
            · exact hn16 h)
          obtain ⟨r0, hr0, hc0⟩ := vlM_row0 HVM.out
          have hml := (vlM_iff.1 HVM.out).1
          have hmc := (vlM_iff.1 HVM.out).2.1
          obtain ⟨ba, oa, ra, rc, rfl, hrow, _⟩ := HM.out 0 r0 hr0
          rw [Nat.add_zero] at hrow
          have hi1 : (0 : Int) < (m.length : Int) := by omega
          have HC0 := Lib.hid hc0
          have hbr := hk1.cell hrow
          have hlr : r0.length ≤ 8 := by omega
          have HML := Lib.hid (And.intro hml hmc)
          have HK1 := Lib.hid hk1
          clear hr0 hrow hc0 hml hmc hk1
          by_cases hne : m.length = r0.length
          · have hne1 : ((m.length : Int) != (r0.length : Int)) = false := by rw [hne]; simp
            have HSQ := Lib.hid (show m.length = colsM m by have := HC0.out; omega)
            clear hne
            by_cases hz : n = 0
            · have HE := Lib.hid (show D = (tabM m.length m.length idP, 0) by rw [HD.out]; unfold powC; rw [HVM.out, if_neg (by decide), if_neg HNB.out, if_neg (by have := HSQ.out; omega), if_pos hz])
              have hz1 : (n == 0) = true := beq_iff_eq.2 hz
              clear hz
              go_wp2_with fail
              clear hne1 hbr
              go_fit (r7idn_any m.length _ HML.out.1.1 HML.out.1.2)
              rintro e w3 ⟨a1, Z, c1, rfl, r1, p1, o1, l1, j1⟩
              have H1 := Lib.hid (And.intro r1 (And.intro p1 (And.intro o1 l1)))
              have K1 := Lib.hid (HK1.out.trans j1)
              clear r1 p1 o1 l1 j1
              go_wp2_with fail
              rw [HE.out]
              refine bodyPost_ret (v := .tuple #[.slice a1 Z.length c1, .int .i64 0]) (by simp [results, Tryz.results48, go_sem]) rfl ?_
              exact ⟨a1, Z, c1, rfl, H1.out.1, H1.out.2.1, H1.out.2.2.1, H1.out.2.2.2, K1.out⟩
            · have hz1 : (n == 0) = false := beq_eq_false_iff_ne.2 hz
              obtain ⟨q, hq⟩ : ∃ q : Nat, q = p.toNat := ⟨_, rfl⟩
              have hpq : p = (q : Int) := by have := preB_iff.1 HP.out; omega
              have HQ := Lib.hid (show 8 ≤ q ∧ q ≤ 512 by have := preB_iff.1 HP.out; omega)
              obtain ⟨N, hN⟩ : ∃ N : Nat, N = n.toNat - 1 := ⟨_, rfl⟩
              have HE := Lib.hid (show D = (powM m q N, 0) by rw [HD.out]; unfold powC; rw [HVM.out, if_neg (by decide), if_neg HNB.out, if_neg (by have := HSQ.out; omega), if_neg hz, hq, hN])
              obtain rfl : n = (N : Int) + 1 := by omega
              have hN16 : (N : Int) ≤ 15 := by omega
              rw [hpq]
              clear hpq hq hN hz hn0 hn16
              go_wp2_with fail
              clear hne1 hbr
              go_loopg [1, 8] N (fun z t v wr => ∃ (k : Nat) (az : Option Addr) (Z : List (List RI)) (cz : Nat), k + z = N ∧ t = .int .i64 ((z : Int) + 1) ∧ v = .slice az Z.length cz ∧ RowM wr az Z ∧ plM Z = powM m q k ∧ okM Z ∧ Z.length ≤ 1100000 ∧ Kp w1 wr)
              case atStart => exact ⟨0, some ⟨ba, oa, none⟩, m, c, by omega, rfl, rfl, HM.out.kp HK1.out, rfl, okM_vlR HVM.out, hl, .refl _⟩
              case round =>
                obtain ⟨k, az, Z, cz, hkz, rfl, rfl, hrz, hpz, hoz, hlz, hkr⟩ := hrel
                by_cases hlt : k < N
                · have hlt1 : (1 : Int) < (gk : Int) + 1 := by omega
                  have hg16 : (gk : Int) ≤ 15 := by omega
                  have HC := Lib.hid (r7mul_any az (some ⟨ba, oa, none⟩) Z m cz c (q : Int) wr hrz (HM.out.kp (HK1.out.trans hkr)) hlz hl (HT.out.kp (HK1.out.trans hkr)))
                  rw [mulC_pow HVM.out HSQ.out HQ.out.1 HQ.out.2 hpz hoz] at HC
                  have HKR := Lib.hid hkr
                  clear hrz hpz hoz hlz hkr
                  go_wp2_with fail
                  go_fit HC.out
                  rintro e w5 ⟨a2, Y, c2, rfl, r2, p2, o2, l2, j2⟩
                  have H2 := Lib.hid (And.intro r2 (And.intro p2 (And.intro o2 (And.intro l2 j2))))
                  clear r2 p2 o2 l2 j2
                  go_wp2_with fail
                  go_roundg (gk - 1)
                  case measure => omega
                  case rel => exact ⟨k + 1, a2, Y, c2, by omega, by go_num, rfl, H2.out.1, H2.out.2.1, H2.out.2.2.1, H2.out.2.2.2.1, HKR.out.trans H2.out.2.2.2.2⟩
                · have hkN : k = N := by omega
                  have H2 := Lib.hid (And.intro hrz (And.intro (hkN ▸ hpz) (And.intro hoz (And.intro hlz (HK1.out.trans hkr)))))
                  have hg0 : ¬ (1 : Int) < (gk : Int) + 1 := by omega
                  clear hrz hpz hoz hlz hkr
                  go_wp2_with fail
                  rw [HE.out]
                  refine bodyPost_ret (v := .tuple #[.slice az Z.length cz, .int .i64 0]) (by simp [results, Tryz.results48, go_sem]) rfl ?_
                  exact ⟨az, Z, cz, rfl, H2.out.1, H2.out.2.1, H2.out.2.2.1, H2.out.2.2.2.1, H2.out.2.2.2.2⟩
          · have hne1 : ((m.length : Int) != (r0.length : Int)) = true := by simpa using (by omega : ¬ (m.length : Int) = (r0.length : Int))
            have HE := Lib.hid (show D = ([], 3) by rw [HD.out]; unfold powC; rw [HVM.out, if_neg (by decide), if_neg HNB.out, if_pos (by have := HC0.out; omega)])
            clear hne
            go_wp2_with fail
            rw [HE.out]
            refine bodyPost_ret (v := .tuple #[.slice none 0 0, .int .i64 3]) (by simp [results, Tryz.results48, go_sem]) rfl ?_
            exact matE_nil rfl HK1.out
end Go.Proofs.YtdidocdpjiiedaaGreatDoor
