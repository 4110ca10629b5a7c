/-
  Walks: natural.divide, DivMod, of any numbers.
  Walks: round.div of any numbers.
  Walks: the law RoundBetween.
  Plain: rounded roots squared, exact products, the quotient of a product and one factor.
  Plain: smaller intervals have smaller norms.
  Plain: exact sums of products of numbers at ends of intervals are in the sums of products of the intervals, and the norm bounds them; no program in sight.
  Rows of intervals that are made; an append at a step of a region that draws.
  Walks: matrix.Mul.
  Walks: the reference's trim, compare, Equal.
-/
import Derived.Test.YtdlpiblgkpgplaaGreatDoorMNrmP
import Derived.Test.YtdlpiblgkpgplaaGreatDoorMSumH
import Derived.Test.YtdlpiblgkpgplaaGreatDoorMRoSq
import Derived.Deep.Cut
import Derived.Test.YtdlpiblgkpgplaaGreatDoorMRoAdd
import Derived.Test.YtdlpiblgkpgplaaGreatDoorMIvT
import Derived.Test.YtdlpiblgkpgplaaGreatDoorMSpare
import Derived.Test.YtdlpiblgkpgplaaGreatDoorMDotM
import Derived.Deep.RegionHeld3
import Derived.Deep.RegionLaw
import Derived.Deep.CutRange
import Derived.Test.YtdlpiblgkpgplaaGreatDoorMDyD
import Derived.Test.YtdlpiblgkpgplaaGreatDoorMMul
section
namespace Go.Proofs.YtdlpiblgkpgplaaGreatDoor
open Go.RowKit

end Go.Proofs.YtdlpiblgkpgplaaGreatDoor
end

section
namespace Go.Proofs.YtdlpiblgkpgplaaGreatDoor
open Go.RowKit

end Go.Proofs.YtdlpiblgkpgplaaGreatDoor
end

section
namespace Go.Proofs.YtdlpiblgkpgplaaGreatDoor
open Go.RowKit

end Go.Proofs.YtdlpiblgkpgplaaGreatDoor
end

section
namespace Go.Proofs.YtdlpiblgkpgplaaGreatDoor

end Go.Proofs.YtdlpiblgkpgplaaGreatDoor
end

section
namespace Go.Proofs.YtdlpiblgkpgplaaGreatDoor
open Go.RowKit

/-- the rows r' lie inside of r -/
def inR (r' r : List RI) : Prop := r'.length = r.length ∧ ∀ (j : Nat) (x' x : RI), r'[j]? = some x' → r[j]? = some x → x'.pl.ok ∧ insP x'.pl x.pl
theorem inR.tail {x' x : RI} {r' r : List RI} (h : inR (x' :: r') (x :: r)) : inR r' r := ⟨by simpa using h.1, fun j y' y hy' hy => h.2 (j + 1) y' y (by simpa using hy') (by simpa using hy)⟩
/-- the matrix Z lies inside of m -/
def inM (Z m : List (List RI)) : Prop := Z.length = m.length ∧ ∀ (i : Nat) (r' r : List RI), Z[i]? = some r' → m[i]? = some r → inR r' r
theorem inM.tail {x' x : List RI} {r' r : List (List RI)} (h : inM (x' :: r') (x :: r)) : inM r' r := ⟨by simpa using h.1, fun j y' y hy' hy => h.2 (j + 1) y' y (by simpa using hy') (by simpa using hy)⟩
end Go.Proofs.YtdlpiblgkpgplaaGreatDoor
end

section
namespace Go.Proofs.YtdlpiblgkpgplaaGreatDoor
open Go.RowKit

/-- a number is an end of an interval -/
def endR (x : RI) (d : RD) : Prop := d = x.lo ∨ d = x.hi
theorem endR.ok {w : World} {x : RI} {d : RD} (h : endR x d) (hx : x.rd w) (hv : x.vl = true) : d.rd w ∧ d.vl = true := by
  have hz : ∀ y : RD, y.zr = true → y.vl = true := fun y hy => by
    obtain ⟨h1, h2, h3⟩ := RD.zr_parts.1 hy
    unfold RD.vl; rw [h1, h2, h3]; exact rdZero_vl
  have hp : x.lo.vl = true ∧ x.hi.vl = true := by
    unfold RI.vl at hv
    split at hv
    · rw [Bool.and_eq_true] at hv; exact ⟨hz _ hv.1, hz _ hv.2⟩
    · rw [Bool.and_eq_true, Bool.and_eq_true] at hv; exact ⟨hv.1, hv.2.1⟩
  rcases h with rfl | rfl
  · exact ⟨hx.1, hp.1⟩
  · exact ⟨hx.2, hp.2⟩
theorem endR.has {w : World} {x : RI} {d : RD} (h : endR x d) (hx : x.rd w) (hv : x.vl = true) : hasV x.pl d.iv := by
  have ho := RI.pl_ok hx hv
  rcases h with rfl | rfl
  · exact hasV.lo ho
  · exact hasV.hi ho
/-- sums -/
def sumZ (c : Nat → Int) : Nat → Int
  | 0 => 0
  | t + 1 => sumZ c t + c t
theorem sumZ_congr {c d : Nat → Int} : ∀ {n : Nat}, (∀ t, t < n → c t = d t) → sumZ c n = sumZ d n
  | 0, _ => rfl
  | n + 1, h => by show sumZ c n + c n = sumZ d n + d n; rw [sumZ_congr (fun t ht => h t (by omega)), h n (by omega)]
/-- v is the sum of the first k products, exactly -/
def dotS (l z : List RD) (k : Nat) (v : Int) : Prop := ∃ c : Nat → Int, (∀ (t : Nat) (x y : RD), t < k → l[t]? = some x → z[t]? = some y → c t * 2 ^ 16384 = x.iv * y.iv) ∧ v = sumZ c k
theorem dotS.zero (l z : List RD) : dotS l z 0 0 := ⟨fun _ => 0, fun t x y h => by omega, rfl⟩
theorem dotS.step {l z : List RD} {k : Nat} {v q : Int} {x y : RD} (h : dotS l z k v) (hx : l[k]? = some x) (hy : z[k]? = some y) (hq : q * 2 ^ 16384 = x.iv * y.iv) : dotS l z (k + 1) (v + q) := by
  obtain ⟨c, h1, rfl⟩ := h
  refine ⟨fun t => if t = k then q else c t, fun t a b ht ha hb => ?_, ?_⟩
  · by_cases e : t = k
    · subst e; rw [hx] at ha; rw [hy] at hb; cases ha; cases hb; show (if t = t then q else c t) * _ = _; rw [if_pos rfl]; exact hq
    · show (if t = k then q else c t) * _ = _; rw [if_neg e]; exact h1 t a b (by omega) ha hb
  · show sumZ c k + q = sumZ _ k + (if k = k then q else c k)
    rw [if_pos rfl, sumZ_congr (c := fun t => if t = k then q else c t) (d := c) (fun t ht => if_neg (by omega))]
end Go.Proofs.YtdlpiblgkpgplaaGreatDoor
end

section
namespace Go.Proofs.YtdlpiblgkpgplaaGreatDoor
open Go.RowKit

/-- make([][]api.Interval, n) -/
theorem make_rows (i : Int) (n : Nat) (e : i = n) (hn : n ≤ 9000000) (u : World) : (Instr.makeSlice 60 (.int .i64 i) (.int .i64 i)).run Tryz.prog u =
    .ok (.slice (some ⟨u.heap.size, 0, none⟩) n n) (u.alloc (.cells (madeCells #[.slice none 0 0] n) 24)) := by
  subst e
  obtain ⟨i0, hi, hz0, hz1, hz2⟩ := info_parts infoSlI
  have h := run_make (P := Tryz.prog) u 60 24 i0 (.slice none 0 0) Tryz.underlying60 hi hz0 .i64 .i64 (n : Int) (n : Int) (by omega) (Int.le_refl _) (by rw [hz2]; omega) (by omega)
  simpa [hz1, Value.cells] using h
theorem OutH.made (w : World) (n : Nat) : OutH w (w.alloc (.cells (madeCells #[.slice none 0 0] n) 24)) w.heap.size n [] := by
  have hg := heap_alloc_new w (.cells (madeCells #[.slice none 0 0] n) 24)
  refine ⟨⟨Nat.le_refl _, by simp, by simp⟩, (Kp.refl w).alloc _, fun i _ => frozen_of_row _ _ _ _ _ hg, fun i _ hi => ?_, fun i r h => by simp at h⟩
  rw [cell_of_row _ _ _ _ _ _ hg, ← Array.getElem?_toList, toList_madeCells_one]
  simp [hi]
theorem step_append_ivg {w : World} {ops : Array Oper} {o : Oper} {a : Act} {K : Act → World → Prop} {Q : Exit → Act → World → Prop} {E : Prop} (hgd : o.guard = none) (s x : Operand)
    (ho : o.op = .call { callee := .builtin .append, args := #[s, x], argTypes := #[24, 24] })
    (wb : World) (v : Value) (zs : List RI) (hs : a.eval s = v) (hown : OwnN wb w v zs)
    (g c : Nat) (hx : a.eval x = .slice (some ⟨g, 0, none⟩) 1 c) (y : RI) (hy : y.rd w)
    (hcell : w.cell? ⟨g, 0, none⟩ = some (.bool y.lo.neg) ∧ w.cell? ⟨g, 1, none⟩ = some (.slice y.lo.a y.lo.xs.length y.lo.c) ∧ w.cell? ⟨g, 2, none⟩ = some (.int .i64 y.lo.e) ∧ w.cell? ⟨g, 3, none⟩ = some (.bool y.hi.neg) ∧ w.cell? ⟨g, 4, none⟩ = some (.slice y.hi.a y.hi.xs.length y.hi.c) ∧ w.cell? ⟨g, 5, none⟩ = some (.int .i64 y.hi.e) ∧ w.cell? ⟨g, 6, none⟩ = some (.bool y.all)) (hlen : zs.length + 1 ≤ 9000000)
    (h : ∀ a' c' w', OwnN wb w' (.slice a' (zs.length + 1) c') (zs ++ [y]) → w.grownBy w' v.ownBlock → (v.ownBlock = (Value.slice a' (zs.length + 1) c').ownBlock ∨ (Value.slice a' (zs.length + 1) c').ownBlock = some w.heap.size) → K (a.put o.dst (.slice a' (zs.length + 1) c')) w') :
    if Region.wanted o (yielded ops a.tmps) = true then Oper.wp Tryz.prog o a w K Q else E := by
  have hw : Region.wanted o (yielded ops a.tmps) = true := by simp [Region.wanted, hgd]
  rw [if_pos hw]
  obtain ⟨i0, hi, hz0, hz1, hz2⟩ := info_parts infoIvl
  obtain ⟨hk, hown1, hall, hrows⟩ := hown
  obtain ⟨g', cap, w', hr, h1, h2, h3, h6⟩ := append_all (P := Tryz.prog) w NoU 24 o.type wb.heap.size 35 i0 (.agg #[.bool false, .slice none 0 0, .int .i64 0, .bool false, .slice none 0 0, .int .i64 0, .bool false]) 7 88 Tryz.underlying24 hi hz0 hz1 hz2 rfl (by decide) v zs.length (zs.flatMap RI.cells) hown1
    ⟨g, 0, none⟩ 1 c y.cells rfl (by
      intro j u hj
      obtain ⟨h0, h1, h2, h3, h4, h5, h6⟩ := hcell
      match j, hj with
      | 0, hj => cases hj; simpa [Addr.add] using h0
      | 1, hj => cases hj; simpa [Addr.add] using h1
      | 2, hj => cases hj; simpa [Addr.add] using h2
      | 3, hj => cases hj; simpa [Addr.add] using h3
      | 4, hj => cases hj; simpa [Addr.add] using h4
      | 5, hj => cases hj; simpa [Addr.add] using h5
      | 6, hj => cases hj; simpa [Addr.add] using h6
      | j + 7, hj => simp [RI.cells] at hj) (by
      intro u hu
      simp only [RI.cells, List.mem_cons, List.not_mem_nil, or_false] at hu
      rcases hu with rfl | rfl | rfl | rfl | rfl | rfl | rfl <;> rfl) (by decide) (by unfold maxLen; omega) (by omega) hk.size hall noU_cells (by
      intro u hu y e
      simp [Value.cells] at hu
      rcases hu with rfl | rfl | rfl | rfl | rfl | rfl | rfl <;> cases e)
  unfold Oper.wp execOp
  simp only [ho, resolve, invoke, builtin, Sem.run_bind, Sem.run_pure, Result.andThen_ok, List.map_toArray, List.map_cons, List.map_nil, hs, hx, hr]
  have hb : Below wb.heap.size w w' := (Below.refl wb.heap.size w).grown h2 hk.size (fun k hk => (hown1.lt k hk).1)
  refine h _ _ w' ⟨Below.trans hk hb, ?_, h6, fun q hq => ?_⟩ h2 ?_
  · rw [List.flatMap_append, List.length_append]
    simpa using h1
  · rcases List.mem_append.1 hq with hq | hq
    · exact (hrows q hq).far h2 hall
    · simp only [List.mem_singleton] at hq
      subst hq
      exact hy.far h2 hall
  · rcases h3 with h3 | h3
    · exact .inl h3
    · subst h3; exact .inr rfl
/-- what the store behind the append asks for -/
theorem OutM.cellF {wb w : World} {g n : Nat} {R : List (List RI)} {v : Value} {cur : List RI} (h : OutM wb w g n R v cur) : w.cell? ⟨g, R.length, none⟩ = some v ∧ w.frozen? ⟨g, R.length, none⟩ = false :=
  ⟨h.2.2.1, h.2.2.2.1 _ h.1.2.2.1⟩
theorem OutM.cellG {wb w w' : World} {g n : Nat} {R : List (List RI)} {v : Value} {cur : List RI} (h : OutM wb w g n R v cur) (hg : w.grownBy w' v.ownBlock) : w'.cell? ⟨g, R.length, none⟩ = some v ∧ w'.frozen? ⟨g, R.length, none⟩ = false := by
  obtain ⟨⟨h1, h2, h3, h4⟩, ho0, hv0, hf, hz, hr⟩ := h
  refine ⟨hg.cell hv0 (fun e => h4 e.symm), ?_⟩
  have := hg.block g h2 (fun e => h4 e.symm)
  have hh := hf _ h3
  unfold World.frozen? at hh ⊢
  rw [this]; exact hh
theorem OwnN.noU {wb w : World} {v : Value} {zs : List RI} (h : OwnN wb w v zs) : NoU v := by
  obtain ⟨a, c, e, _⟩ := h.value
  subst e
  intro x h; cases h
end Go.Proofs.YtdlpiblgkpgplaaGreatDoor
end

section
namespace Go.Proofs.YtdlpiblgkpgplaaGreatDoor
open Go.RowKit

end Go.Proofs.YtdlpiblgkpgplaaGreatDoor
end

section
namespace Go.Proofs.YtdlpiblgkpgplaaGreatDoor
open Go.RowKit

set_option maxHeartbeats 1000000 in
theorem r2trim_any (a : Option Addr) (xs : List Nat) (c : Nat) (w : World) (h : Rd w a xs) (hc : xs.length ≤ c) (hm : c ≤ maxLen) (hl : xs.length ≤ 1100000) :
    Calls Tryz.prog 158 #[.slice a xs.length c] w (NatOut w (val xs)) := by
  have hend : ∀ (n : Nat) (W : World), n = (limbs (val xs)).length → Rd W a (limbs (val xs)) → Rd (W.alloc (.cells #[] 73)) a (limbs (val xs)) := fun n W _ hr => hr.kp ((Kp.refl W).alloc _)
  have hm' := hm
  unfold maxLen at hm
  have hll := limbs_len_le h.lt32
  go_enter Tryz.func158, Tryz.ntmps158
  go_wp2
  go_loop [3] (fun x => ∃ n : Nat, n ≤ xs.length ∧ x = .int .i64 n ∧ ∀ i, n ≤ i → i < xs.length → nth xs i = 0) (fun x => (intOf x).toNat)
  case atStart => exact ⟨xs.length, Nat.le_refl _, rfl, fun i h1 h2 => by omega⟩
  case round =>
    obtain ⟨n, hn, rfl, hz⟩ := hrel
    have Hz := Lib.hid hz; clear hz
    by_cases h0 : n = 0
    · have htop := trim_top h.lt32 hn Hz.out (by omega)
      have hlen : (limbs (val xs)).length = n := by rw [← htop, List.length_take, Nat.min_eq_left hn]
      have hr := h.limbs.kp ((Kp.refl w).alloc (.cells #[] 73))
      have Hlen := Lib.hid hlen
      clear htop hlen
      subst h0
      go_wp2_with (at_builtin; refine wpList_append_u32s rfl _ _ rfl w.heap.size _ [] rfl (Own.empty w _ (Nat.le_refl _)) a (limbs (val xs)) c (by rw [Hlen.out]; rfl) hr (by simp; omega) (by simp) ?_; intro a2 c2 w2 hown2 hb2)
      go_ret
      obtain ⟨h5, h6, h7, h8⟩ := hown2.rd
      rw [List.nil_append] at h6 h8
      exact ⟨a2, c2, by simp, h6, h7, h8, ((Kp.refl w).alloc _).below.trans hb2⟩
    · obtain ⟨b, o, rfl, hcell⟩ := h.some (i := n - 1) (by omega)
      have hk := hcell (n - 1) (by omega)
      clear hcell
      by_cases hx : nth xs (n - 1) = 0
      · have hx2 : ((nth xs (n - 1) : Int) == 0) = true := by simp [hx]
        have Hx := Lib.hid hx; clear hx
        go_wp2
        go_round
        case rel =>
          refine ⟨n - 1, by omega, by congr 1; omega, fun i h1 h2 => ?_⟩
          by_cases hi : i = n - 1
          · rw [hi]; exact Hx.out
          · exact Hz.out i (by omega) h2
        case measure => simp [intOf]; omega
      · have hx2 : ((nth xs (n - 1) : Int) == 0) = false := by simp; omega
        have htop := trim_top h.lt32 hn Hz.out (fun _ => hx)
        have hlen : (limbs (val xs)).length = n := by rw [← htop, List.length_take, Nat.min_eq_left hn]
        have hr := h.limbs.kp ((Kp.refl w).alloc (.cells #[] 73))
        have Hlen := Lib.hid hlen
        clear htop hlen
        go_wp2_with (at_builtin; refine wpList_append_u32s rfl _ _ rfl w.heap.size _ [] rfl (Own.empty w _ (Nat.le_refl _)) (some ⟨b, o, none⟩) (limbs (val xs)) c (by rw [Hlen.out]; rfl) hr (by simp; omega) (by simp) ?_; intro a2 c2 w2 hown2 hb2)
        go_ret
        obtain ⟨h5, h6, h7, h8⟩ := hown2.rd
        rw [List.nil_append] at h6 h8
        exact ⟨a2, c2, by simp, h6, h7, h8, ((Kp.refl w).alloc _).below.trans hb2⟩

/-- compare, of limbs as they come -/
def cmpL (xs ys : List Nat) : Int := if xs.length < ys.length then -1 else if ys.length < xs.length then 1 else cmpN (val xs) (val ys)
theorem cmpL_lt {xs ys : List Nat} (h : xs.length < ys.length) : cmpL xs ys = -1 := by unfold cmpL; rw [if_pos h]
theorem cmpL_gt {xs ys : List Nat} (h : ys.length < xs.length) : cmpL xs ys = 1 := by unfold cmpL; rw [if_neg (by omega), if_pos h]
theorem cmpL_eq {xs ys : List Nat} (h : xs.length = ys.length) : cmpL xs ys = cmpN (val xs) (val ys) := by unfold cmpL; rw [if_neg (by omega), if_neg (by omega)]
set_option maxHeartbeats 1000000 in
theorem r2compare_any (a b : Option Addr) (xs ys : List Nat) (c d : Nat) (w : World) (h1 : Rd w a xs) (h2 : Rd w b ys) (hxl : xs.length ≤ 1100000) (_hyl : ys.length ≤ 1100000) :
    Calls Tryz.prog 137 #[.slice a xs.length c, .slice b ys.length d] w fun e w' => e = .returned (.int .i64 (cmpL xs ys)) ∧ Kp w w' := by
  go_enter Tryz.func137, Tryz.ntmps137
  rcases Nat.lt_trichotomy xs.length ys.length with hlen | hlen | hlen
  · have hne : ((xs.length : Int) != ys.length) = true := by simp; omega
    go_wp2_with fail
    go_ret
    exact ⟨ret_int (cmpL_lt hlen).symm, .refl _⟩
  · have hne : ((xs.length : Int) != ys.length) = false := by simp; omega
    have Hlen := Lib.hid hlen
    have hle1 : xs.length ≤ ys.length := by omega
    have hle2 : ys.length ≤ xs.length := by omega
    clear hlen
    go_wp2_with fail
    go_loopw [5] (fun ix wr => ∃ k : Nat, k ≤ xs.length ∧ ix = .int .i64 ((k : Int) - 1) ∧ xs.drop k = ys.drop k ∧ Kp w wr) (fun ix _ => (intOf ix + 1).toNat)
    case atStart => exact ⟨xs.length, Nat.le_refl _, rfl, by rw [List.drop_of_length_le (Nat.le_refl _), List.drop_of_length_le (by omega)], .refl _⟩
    case round =>
      obtain ⟨k, hk, rfl, hdrop, hkp⟩ := hrel
      have Hdrop := Lib.hid hdrop
      clear hdrop
      rcases k with _ | j
      · rw [show (((0 : Nat) : Int) - 1) = -1 from rfl]
        go_wp2_with fail
        go_ret
        have : xs = ys := by have := Hdrop.out; rwa [List.drop_zero, List.drop_zero] at this
        exact ⟨ret_int ((cmpL_eq Hlen.out).trans (cmpN_eq (by rw [this]))).symm, hkp⟩
      · rw [show (((j + 1 : Nat) : Int) - 1) = (j : Int) from by omega]
        obtain ⟨b1, o1, rfl, hcx⟩ := (h1.kp hkp).some (i := j) (by omega)
        have hx1 := hcx j (by omega)
        obtain ⟨b2, o2, rfl, hcy⟩ := (h2.kp hkp).some (i := j) (by omega)
        have hy1 := hcy j (by omega)
        clear hcx hcy
        have bx := h1.lt32.nth j
        have by' := h2.lt32.nth j
        rcases Nat.lt_trichotomy (nth xs j) (nth ys j) with hd1 | hd1 | hd1
        · have Hr := Lib.hid (val_lt_of_top Hlen.out (by omega) h1.lt32 Hdrop.out hd1)
          go_wp2_with fail
          go_quiet (fail)
          go_wp2_with fail
          go_ret
          exact ⟨ret_int ((cmpL_eq Hlen.out).trans (cmpN_lt Hr.out)).symm, by first | exact hkp.drewN _ | exact (hkp.drewN _).drewN _⟩
        · have hd2 : ¬ nth xs j < nth ys j := by omega
          have hd3 : ¬ nth ys j < nth xs j := by omega
          have Hd1 := Lib.hid hd1
          clear hd1
          go_wp2_with fail
          go_quiet (fail)
          go_wp2_with fail
          go_quiet (fail)
          go_wp2_with fail
          go_roundw
          case rel =>
            refine ⟨j, by omega, rfl, ?_, hkp.drewN _⟩
            rw [drop_eq_nth (show j < xs.length by omega), drop_eq_nth (show j < ys.length by omega), Hdrop.out, Hd1.out]
          case measure => simp [intOf]
        · have hd2 : ¬ nth xs j < nth ys j := by omega
          have Hr := Lib.hid (val_lt_of_top (us := ys) (vs := xs) (k := j) Hlen.out.symm (by omega) h2.lt32 Hdrop.out.symm hd1)
          go_wp2_with fail
          go_quiet (fail)
          go_wp2_with fail
          go_quiet (fail)
          go_wp2_with fail
          go_ret
          exact ⟨ret_int ((cmpL_eq Hlen.out).trans (cmpN_gt Hr.out)).symm, by first | exact hkp.drewN _ | exact (hkp.drewN _).drewN _⟩
  · have hne : ((xs.length : Int) != ys.length) = true := by simp; omega
    go_wp2_with fail
    go_ret
    exact ⟨ret_int (cmpL_gt hlen).symm, .refl _⟩
end Go.Proofs.YtdlpiblgkpgplaaGreatDoor
end
