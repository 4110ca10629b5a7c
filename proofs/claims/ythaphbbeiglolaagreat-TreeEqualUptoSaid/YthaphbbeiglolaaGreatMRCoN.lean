/-
  Walks: ref13.count, Valid, Size.
  Problems as they come: declarations, equations, edges, modes; when they are valid as trees; where they lie.
  Arguments opened: problems.
-/
import Derived.Test.YthaphbbeiglolaaGreatMRNcN
import Derived.Test.YthaphbbeiglolaaGreatMOpnT
section
namespace Go.Proofs.YthaphbbeiglolaaGreat
open Go.RowKit Go.Sort

theorem rctL_le {lv M : Nat} : ∀ (l : List Ex) (n : Nat), (∀ x ∈ l, x.rct lv ≤ M) → n ≤ 200 + M → Ex.rctL l lv n ≤ 200 + M
  | [], n, _, hn => by rw [Ex.rctL_nil]; exact hn
  | x :: t, n, h, hn => by
    rw [Ex.rctL_cons]
    split
    · exact rctL_le t _ (fun y hy => h y (.tail _ hy)) (by have := h x (.head _); omega)
    · exact hn
theorem rct_le : ∀ (e : Ex) (lv : Nat), e.rct lv ≤ 1048576 + 200 * lv := by
  refine Ex.ind fun e ih lv => ?_
  cases lv with
  | zero => rw [Ex.rct_zero]; omega
  | succ lv =>
    rw [Ex.rct_succ]
    split
    · omega
    · have := rctL_le (lv := lv) (M := 1048576 + 200 * lv) e.l 1 (fun x hx => ih x hx lv) (by omega)
      omega
def RCountAt (e : Ex) : Prop := ∀ (lv B : Nat) (w : World), e.at w B → lv ≤ 20 → Calls Tryz.prog 23 #[.agg #[.int .i64 e.kind, .int .i64 e.rn, .int .i64 e.rd, .string e.name, .int .i64 e.pw, .slice e.a e.l.length e.c], .int .i64 (lv : Int)] w fun r w' => r = .returned (.int .i64 (e.rct lv : Int)) ∧ Kp w w'
set_option maxHeartbeats 2000000 in
set_option maxRecDepth 20000 in
theorem rcount_any : ∀ e : Ex, RCountAt e := by
  refine Ex.ind fun e ih lv B w hat hlv => ?_
  have k1 : Kp w (w.alloc (.cells #[.int .i64 e.kind, .int .i64 e.rn, .int .i64 e.rd, .string e.name, .int .i64 e.pw, .slice e.a e.l.length e.c] 26)) := (Kp.refl w).alloc _
  have hS : ((w.alloc (.cells #[.int .i64 e.kind, .int .i64 e.rn, .int .i64 e.rd, .string e.name, .int .i64 e.pw, .slice e.a e.l.length e.c] 26)).cell? ⟨w.heap.size, 0, none⟩ = some (.int .i64 e.kind) ∧ (w.alloc (.cells #[.int .i64 e.kind, .int .i64 e.rn, .int .i64 e.rd, .string e.name, .int .i64 e.pw, .slice e.a e.l.length e.c] 26)).cell? ⟨w.heap.size, 1, none⟩ = some (.int .i64 e.rn) ∧ (w.alloc (.cells #[.int .i64 e.kind, .int .i64 e.rn, .int .i64 e.rd, .string e.name, .int .i64 e.pw, .slice e.a e.l.length e.c] 26)).cell? ⟨w.heap.size, 2, none⟩ = some (.int .i64 e.rd) ∧ (w.alloc (.cells #[.int .i64 e.kind, .int .i64 e.rn, .int .i64 e.rd, .string e.name, .int .i64 e.pw, .slice e.a e.l.length e.c] 26)).cell? ⟨w.heap.size, 3, none⟩ = some (.string e.name) ∧ (w.alloc (.cells #[.int .i64 e.kind, .int .i64 e.rn, .int .i64 e.rd, .string e.name, .int .i64 e.pw, .slice e.a e.l.length e.c] 26)).cell? ⟨w.heap.size, 4, none⟩ = some (.int .i64 e.pw) ∧ (w.alloc (.cells #[.int .i64 e.kind, .int .i64 e.rn, .int .i64 e.rd, .string e.name, .int .i64 e.pw, .slice e.a e.l.length e.c] 26)).cell? ⟨w.heap.size, 5, none⟩ = some (.slice e.a e.l.length e.c)) := by simp
  obtain ⟨⟨hlc, hcm, hnm, hl⟩, hrow, hch⟩ := Ex.at_iff.1 hat
  cases lv with
  | zero =>
    have HD := Lib.hid e.rct_zero
    show Calls Tryz.prog 23 #[.agg #[.int .i64 e.kind, .int .i64 e.rn, .int .i64 e.rd, .string e.name, .int .i64 e.pw, .slice e.a e.l.length e.c], .int .i64 0] w _
    go_enter Tryz.func23, Tryz.ntmps23
    go_upto_region 1 with fail
    generalize w.alloc _ = W at *
    clear hrow hch ih hat hS
    go_wp2
    go_ret
    exact ⟨ret_int (by rw [HD.out]; rfl), k1⟩
  | succ lv =>
    have HD := Lib.hid (e.rct_succ lv)
    have hb := Lib.hid (rct_le e (lv + 1))
    rw [Int.natCast_succ]
    have z0 : (((lv : Int) + 1) == 0) = false := beq_eq_false_iff_ne.2 (by omega)
    go_enter Tryz.func23, Tryz.ntmps23
    go_upto_region 1 with fail
    generalize w.alloc _ = W at *
    have HN := Lib.hid (rnode_any e W (by omega) hnm)
    obtain ⟨s0, s1, s2, s3, s4, s5⟩ := hS
    cases hv : nodeB e with
    | false =>
      rw [hv] at HN
      have Hv := Lib.hid hv
      clear hrow hch ih hat hv
      have K1 := Lib.hid k1
      clear k1
      go_wp2_with (go_at_call 53; go_fit HN.out; rintro r w2 ⟨rfl, k2⟩)
      go_ret
      exact ⟨ret_int (by rw [HD.out, if_pos Hv.out]; rfl), K1.out.trans k2⟩
    | true =>
      rw [hv] at HN
      have Hv := Lib.hid hv
      have HR := Lib.hid (hrow.kp k1)
      have HC := Lib.hid fun x hx => Ex.at_kp (hch x hx) k1
      have HI := Lib.hid ih
      have K1 := Lib.hid k1
      clear hrow hch ih k1 hat hv
      go_wp2_with (go_at_call 53; go_fit HN.out; rintro r w2 ⟨rfl, k2⟩)
      have K2 := Lib.hid k2
      go_loopw [5, 6] (fun x y wr => ∃ k n : Nat, k ≤ e.l.length ∧ x = .int .i64 (n : Int) ∧ y = .int .i64 (k : Int) ∧ n ≤ 1048576 + 200 * (lv + 1) ∧ Ex.rctL (e.l.drop k) lv n = Ex.rctL e.l lv 1 ∧ Kp W wr) (fun _ y _ => e.l.length - (intOf y).toNat)
      case atStart => exact ⟨0, 1, by omega, rfl, rfl, by omega, by simp, K2.out⟩
      case round =>
        obtain ⟨k, n, hk, rfl, rfl, hn, hm, hkp⟩ := hrel
        have Hm := Lib.hid hm; clear hm k2
        have z5 := hkp.cell s5
        by_cases hlt : k < e.l.length
        · obtain ⟨x, hx⟩ : ∃ x, e.l[k]? = some x := ⟨_, List.getElem?_eq_getElem hlt⟩
          have Hd := Lib.hid (show e.l.drop k = x :: e.l.drop (k + 1) from (List.drop_eq_getElem_cons hlt).trans (by rw [(List.getElem?_eq_some_iff.1 hx).2]))
          have hxm := List.mem_of_getElem? hx
          obtain ⟨b, o, ha, hb2, h0, h1, h2, h3, h4, h5⟩ := (HR.out.kp hkp) k x hx
          have HX := Lib.hid fun W' h => HI.out x hxm lv B W' (Ex.at_kp (HC.out x hxm) (hkp.trans h)) (by omega)
          have Hkp := Lib.hid hkp
          have Hbx := rct_le x lv
          clear hx hxm hkp
          rw [ha] at z5
          by_cases hn2 : n ≤ 200
          · have hn3 : (n : Int) ≤ 200 := by omega
            rw [ha]
            have HX2 := Lib.hid (HX.out _ (Kp.refl wr))
            go_wp2_with (go_at_call 23; go_fit HX2.out; rintro r w2 ⟨rfl, k2⟩)
            go_wp2
            go_roundw
            case rel =>
              refine ⟨k + 1, n + x.rct lv, by omega, by go_num, by go_num, by omega, ?_, Hkp.out.trans k2⟩
              have := Hm.out
              rw [Hd.out, Ex.rctL_cons, if_pos hn2] at this
              exact this
            case measure => simp [intOf]; omega
          · have hn3 : ¬ (n : Int) ≤ 200 := by omega
            have hf := Hm.out
            rw [Hd.out, Ex.rctL_cons, if_neg hn2] at hf
            have Hf := Lib.hid hf
            clear hf
            rw [ha]
            go_wp2
            go_ret
            exact ⟨ret_int (by rw [HD.out, if_neg (by rw [Hv.out]; decide), ← Hf.out]), K1.out.trans Hkp.out⟩
        · obtain rfl : k = e.l.length := by omega
          have hf := Hm.out
          rw [List.drop_length, Ex.rctL_nil] at hf
          have Hf := Lib.hid hf
          clear hf
          go_wp2
          go_ret
          exact ⟨ret_int (by rw [HD.out, if_neg (by rw [Hv.out]; decide), ← Hf.out]), K1.out.trans hkp⟩
set_option maxHeartbeats 2000000 in
set_option maxRecDepth 20000 in
/-- ref13.Valid -/
theorem rvalid13_any (e : Ex) (B : Nat) (w : World) (hat : e.at w B) : Calls Tryz.prog 7 #[.agg #[.int .i64 e.kind, .int .i64 e.rn, .int .i64 e.rd, .string e.name, .int .i64 e.pw, .slice e.a e.l.length e.c]] w fun r w' => r = .returned (.bool e.ok) ∧ Kp w w' := by
  have k1 : Kp w (w.alloc (.cells #[.int .i64 e.kind, .int .i64 e.rn, .int .i64 e.rd, .string e.name, .int .i64 e.pw, .slice e.a e.l.length e.c] 26)) := (Kp.refl w).alloc _
  have hS : ((w.alloc (.cells #[.int .i64 e.kind, .int .i64 e.rn, .int .i64 e.rd, .string e.name, .int .i64 e.pw, .slice e.a e.l.length e.c] 26)).cell? ⟨w.heap.size, 0, none⟩ = some (.int .i64 e.kind) ∧ (w.alloc (.cells #[.int .i64 e.kind, .int .i64 e.rn, .int .i64 e.rd, .string e.name, .int .i64 e.pw, .slice e.a e.l.length e.c] 26)).cell? ⟨w.heap.size, 1, none⟩ = some (.int .i64 e.rn) ∧ (w.alloc (.cells #[.int .i64 e.kind, .int .i64 e.rn, .int .i64 e.rd, .string e.name, .int .i64 e.pw, .slice e.a e.l.length e.c] 26)).cell? ⟨w.heap.size, 2, none⟩ = some (.int .i64 e.rd) ∧ (w.alloc (.cells #[.int .i64 e.kind, .int .i64 e.rn, .int .i64 e.rd, .string e.name, .int .i64 e.pw, .slice e.a e.l.length e.c] 26)).cell? ⟨w.heap.size, 3, none⟩ = some (.string e.name) ∧ (w.alloc (.cells #[.int .i64 e.kind, .int .i64 e.rn, .int .i64 e.rd, .string e.name, .int .i64 e.pw, .slice e.a e.l.length e.c] 26)).cell? ⟨w.heap.size, 4, none⟩ = some (.int .i64 e.pw) ∧ (w.alloc (.cells #[.int .i64 e.kind, .int .i64 e.rn, .int .i64 e.rd, .string e.name, .int .i64 e.pw, .slice e.a e.l.length e.c] 26)).cell? ⟨w.heap.size, 5, none⟩ = some (.slice e.a e.l.length e.c)) := by simp
  have hok := Lib.hid (rct_ok e)
  go_enter Tryz.func7, Tryz.ntmps7
  go_upto_region 1 with fail
  generalize w.alloc _ = W at *
  have HC := Lib.hid (rcount_any e 20 B W (Ex.at_kp hat k1) (by omega))
  have K1 := Lib.hid k1
  clear k1 hat
  obtain ⟨s0, s1, s2, s3, s4, s5⟩ := hS
  go_wp2_with (go_at_call 23; go_fit HC.out; rintro r w2 ⟨rfl, k2⟩)
  go_ret
  exact ⟨ret_bool (by rw [← hok.out]; apply decide_eq_decide.2; omega), K1.out.trans k2⟩
end Go.Proofs.YthaphbbeiglolaaGreat
end

section
namespace Go.Proofs.YthaphbbeiglolaaGreat
open Go.RowKit

/-- a declaration -/
structure De where
  name : ByteArray
  ln : Int
  ld : Int
  hn : Int
  hd : Int
/-- an equation, or a reset -/
structure Qe where
  name : ByteArray
  e : Ex
/-- an edge -/
structure Ed where
  g : Ex
  dir : Int
  tx : ByteArray
  a : Option Addr
  c : Nat
  rs : List Qe
/-- a mode -/
structure Mo where
  name : ByteArray
  fa : Option Addr
  fc : Nat
  fs : List Qe
  ea : Option Addr
  ec : Nat
  es : List Ed
/-- a problem -/
structure Pr where
  sa : Option Addr
  sc : Nat
  ss : List De
  pa : Option Addr
  pc : Nat
  ps : List De
  ma : Option Addr
  mc : Nat
  ms : List Mo
  tn : Int
  td : Int
def De.cells (x : De) : List Value := [.string x.name, .int .i64 x.ln, .int .i64 x.ld, .int .i64 x.hn, .int .i64 x.hd]
def Qe.cells (x : Qe) : List Value := [.string x.name, .int .i64 x.e.kind, .int .i64 x.e.rn, .int .i64 x.e.rd, .string x.e.name, .int .i64 x.e.pw, .slice x.e.a x.e.l.length x.e.c]
def Ed.cells (x : Ed) : List Value := [.int .i64 x.g.kind, .int .i64 x.g.rn, .int .i64 x.g.rd, .string x.g.name, .int .i64 x.g.pw, .slice x.g.a x.g.l.length x.g.c, .int .i64 x.dir, .string x.tx, .slice x.a x.rs.length x.c]
def Mo.cells (x : Mo) : List Value := [.string x.name, .slice x.fa x.fs.length x.fc, .slice x.ea x.es.length x.ec]
def Pr.cells (x : Pr) : List Value := [.slice x.sa x.ss.length x.sc, .slice x.pa x.ps.length x.pc, .slice x.ma x.ms.length x.mc, .int .i64 x.tn, .int .i64 x.td]
def declB (d : De) : Bool := nameB d.name && (ratB d.ln d.ld && ratB d.hn d.hd)
def eqnB (q : Qe) : Bool := nameB q.name && q.e.ok
def edgeB (x : Ed) : Bool := x.g.ok && ((decide (x.dir = 1) || decide (x.dir = 2)) && (nameB x.tx && (decide (x.rs.length ≤ 4) && x.rs.all eqnB)))
def modeB (m : Mo) : Bool := nameB m.name && (decide (m.fs.length ≤ 4) && (decide (m.es.length ≤ 4) && (m.fs.all eqnB && m.es.all edgeB)))
def probB (p : Pr) : Bool := (decide (1 ≤ p.ss.length ∧ p.ss.length ≤ 4) && (decide (p.ps.length ≤ 4) && decide (1 ≤ p.ms.length ∧ p.ms.length ≤ 8))) && (p.ss.all declB && (p.ps.all declB && (p.ms.all modeB && ratB p.tn p.td)))
/-- values in neighbouring cells -/
def CellsV (w : World) (b o : Nat) (vs : List Value) : Prop := ∀ (j : Nat) (v : Value), vs[j]? = some v → w.cell? ⟨b, o + j, none⟩ = some v
/-- a slice of structs -/
def RowV {α : Type} (cells : α → List Value) (k : Nat) (w : World) (B : Nat) (a : Option Addr) (zs : List α) : Prop := ∀ (i : Nat) (x : α), zs[i]? = some x → ∃ b o, a = some ⟨b, o, none⟩ ∧ b < B ∧ CellsV w b (o + i * k) (cells x)
theorem CellsV.kp {w w' : World} {b o : Nat} {vs : List Value} (h : CellsV w b o vs) (k : Kp w w') : CellsV w' b o vs := fun j v hj => k.cell (h j v hj)
theorem RowV.kp {α : Type} {cells : α → List Value} {n : Nat} {w w' : World} {B : Nat} {a : Option Addr} {zs : List α} (h : RowV cells n w B a zs) (k : Kp w w') : RowV cells n w' B a zs := fun i x hx => by
  obtain ⟨b, o, e, hb, hc⟩ := h i x hx
  exact ⟨b, o, e, hb, hc.kp k⟩
theorem CellsV.new (w : World) (vs : List Value) (t : TypeId) (g : Nat) (h : w.heap.size = g) : CellsV (w.alloc (.cells vs.toArray t)) g 0 vs := fun j v hj => by
  subst h
  have h1 : vs.toArray[j]? = some v := by simpa using hj
  simp [hj]
def De.at (d : De) (_w : World) (_B : Nat) : Prop := d.name.size ≤ maxLen
def Qe.at (q : Qe) (w : World) (B : Nat) : Prop := q.name.size ≤ maxLen ∧ q.e.at w B
def Ed.at (x : Ed) (w : World) (B : Nat) : Prop := (x.g.at w B ∧ x.tx.size ≤ maxLen ∧ x.rs.length ≤ 1048576) ∧ RowV Qe.cells 7 w B x.a x.rs ∧ ∀ q ∈ x.rs, q.at w B
def Mo.at (m : Mo) (w : World) (B : Nat) : Prop := (m.name.size ≤ maxLen ∧ m.fs.length ≤ 1048576 ∧ m.es.length ≤ 1048576) ∧ (RowV Qe.cells 7 w B m.fa m.fs ∧ ∀ q ∈ m.fs, q.at w B) ∧ RowV Ed.cells 9 w B m.ea m.es ∧ ∀ x ∈ m.es, x.at w B
def Pr.at (p : Pr) (w : World) (B : Nat) : Prop := (p.ss.length ≤ 1048576 ∧ p.ps.length ≤ 1048576 ∧ p.ms.length ≤ 1048576) ∧ (RowV De.cells 5 w B p.sa p.ss ∧ ∀ d ∈ p.ss, d.at w B) ∧ (RowV De.cells 5 w B p.pa p.ps ∧ ∀ d ∈ p.ps, d.at w B) ∧ RowV Mo.cells 3 w B p.ma p.ms ∧ ∀ m ∈ p.ms, m.at w B
theorem De.at_kp {d : De} {w w' : World} {B : Nat} (h : d.at w B) (_k : Kp w w') : d.at w' B := h
theorem Qe.at_kp {q : Qe} {w w' : World} {B : Nat} (h : q.at w B) (k : Kp w w') : q.at w' B := ⟨h.1, Ex.at_kp h.2 k⟩
theorem Ed.at_kp {x : Ed} {w w' : World} {B : Nat} (h : x.at w B) (k : Kp w w') : x.at w' B := ⟨⟨Ex.at_kp h.1.1 k, h.1.2⟩, h.2.1.kp k, fun q hq => Qe.at_kp (h.2.2 q hq) k⟩
theorem Mo.at_kp {m : Mo} {w w' : World} {B : Nat} (h : m.at w B) (k : Kp w w') : m.at w' B := ⟨h.1, ⟨h.2.1.1.kp k, fun q hq => Qe.at_kp (h.2.1.2 q hq) k⟩, h.2.2.1.kp k, fun x hx => Ed.at_kp (h.2.2.2 x hx) k⟩
theorem Pr.at_kp {p : Pr} {w w' : World} {B : Nat} (h : p.at w B) (k : Kp w w') : p.at w' B := ⟨h.1, ⟨h.2.1.1.kp k, h.2.1.2⟩, ⟨h.2.2.1.1.kp k, h.2.2.1.2⟩, h.2.2.2.1.kp k, fun x hx => Mo.at_kp (h.2.2.2.2 x hx) k⟩
end Go.Proofs.YthaphbbeiglolaaGreat
end

section
namespace Go.Proofs.YthaphbbeiglolaaGreat
open Go.ChangeShapes Go.WideShapes Go.ChangeAt Go.RowKit Go.Deep

theorem cut_at {α : Type} (cs : List α) (a b : Nat) : cs.drop a = (cs.drop a).take b ++ cs.drop (a + b) := by
  rw [← List.drop_drop, List.take_append_drop]
theorem list4V {α : Type} {l : List α} (h : l.length = 4) : ∃ a b c d, l = [a, b, c, d] := by
  match l, h with
  | [a, b, c, d], _ => exact ⟨a, b, c, d, rfl⟩
theorem list3V {α : Type} {l : List α} (h : l.length = 3) : ∃ a b c, l = [a, b, c] := by
  match l, h with
  | [a, b, c], _ => exact ⟨a, b, c, rfl⟩
theorem choose_gen {α : Type} (d : α) {n : Nat} {p : Nat → α → Prop} (h : ∀ i, i < n → ∃ y, p i y) : ∃ f : Nat → α, ∀ i, i < n → p i (f i) := by
  refine ⟨fun i => if hi : i < n then Classical.choose (h i hi) else d, fun i hi => ?_⟩
  dsimp only
  rw [dif_pos hi]
  exact Classical.choose_spec (h i hi)
theorem cellsRange : Tryz.prog.cellsOf 53 = 4 := by kernel_rfl
theorem cellsDecl : Tryz.prog.cellsOf 55 = 5 := by kernel_rfl
theorem cellsEqu : Tryz.prog.cellsOf 73 = 7 := by kernel_rfl
theorem cellsRst : Tryz.prog.cellsOf 66 = 7 := by kernel_rfl
theorem cellsEdge : Tryz.prog.cellsOf 70 = 9 := by kernel_rfl
theorem cellsMode : Tryz.prog.cellsOf 61 = 3 := by kernel_rfl
theorem cellsProb : Tryz.prog.cellsOf 30 = 5 := by kernel_rfl
theorem cellsSD : Tryz.prog.cellsOf 27 = 1 := by kernel_rfl
theorem cellsSQ : Tryz.prog.cellsOf 58 = 1 := by kernel_rfl
theorem cellsSR : Tryz.prog.cellsOf 68 = 1 := by kernel_rfl
theorem cellsSX : Tryz.prog.cellsOf 59 = 1 := by kernel_rfl
theorem cellsSM : Tryz.prog.cellsOf 28 = 1 := by kernel_rfl
section
variable {H : Type} {enc : TypeId × Value → H} {w : World} {base : Nat} {spare : Nat → Bool} {held : Bool}
theorem open_rat {fuel : Nat} {cs : List Value} {x : DataW H × List MemPlace} (h : DataW.trod enc Tryz.prog w base spare held fuel 23 cs = some x) : ∃ r d : Int, cs = [.int .i64 r, .int .i64 d] := by
  obtain ⟨zs, n2, _, _, hlen, hzz, hg⟩ := DataW.trod_struct Tryz.underlying23 h
  replace hlen := hlen.trans cellsR
  obtain ⟨c1, c2, rfl⟩ := list2 hlen
  obtain ⟨z0, z1, rfl⟩ := list2 hzz
  have g0 : DataW.trod enc Tryz.prog w base spare held n2 3 (([c1, c2].drop 0).take (Tryz.prog.cellsOf 3)) = some z0 := hg 0 _ rfl
  have g1 : DataW.trod enc Tryz.prog w base spare held n2 3 (([c1, c2].drop 1).take (Tryz.prog.cellsOf 3)) = some z1 := hg 1 _ rfl
  rw [cellsI] at g0 g1
  have g0 : DataW.trod enc Tryz.prog w base spare held n2 3 [c1] = some z0 := g0
  have g1 : DataW.trod enc Tryz.prog w base spare held n2 3 [c2] = some z1 := g1
  obtain ⟨r, e1, _, _⟩ := DataW.trod_int Tryz.underlying3 g0
  obtain ⟨d, e2, _, _⟩ := DataW.trod_int Tryz.underlying3 g1
  exact ⟨r, d, by rw [(List.cons.inj e1).1, (List.cons.inj e2).1]⟩
theorem open_rng {fuel : Nat} {cs : List Value} {x : DataW H × List MemPlace} (h : DataW.trod enc Tryz.prog w base spare held fuel 53 cs = some x) : ∃ a b c d : Int, cs = [.int .i64 a, .int .i64 b, .int .i64 c, .int .i64 d] := by
  obtain ⟨zs, n2, _, _, hlen, hzz, hg⟩ := DataW.trod_struct Tryz.underlying53 h
  replace hlen := hlen.trans cellsRange
  obtain ⟨z0, z1, rfl⟩ := list2 hzz
  have g0 : DataW.trod enc Tryz.prog w base spare held n2 23 ((cs.drop 0).take (Tryz.prog.cellsOf 23)) = some z0 := hg 0 _ rfl
  have g1 : DataW.trod enc Tryz.prog w base spare held n2 23 ((cs.drop 2).take (Tryz.prog.cellsOf 23)) = some z1 := hg 1 _ rfl
  rw [cellsR] at g0 g1
  obtain ⟨a, b, e1⟩ := open_rat g0
  obtain ⟨c, d, e2⟩ := open_rat g1
  refine ⟨a, b, c, d, ?_⟩
  have h0 : cs = cs.drop 0 := rfl
  rw [h0, cut_at cs 0 2, e1, cut_at cs (0 + 2) 2, e2, List.drop_of_length_le (by omega)]
  rfl
theorem open_dec {fuel : Nat} {cs : List Value} {x : DataW H × List MemPlace} (h : DataW.trod enc Tryz.prog w base spare held fuel 55 cs = some x) : ∃ d : De, cs = d.cells ∧ d.at w w.heap.size := by
  obtain ⟨zs, n2, _, _, hlen, hzz, hg⟩ := DataW.trod_struct Tryz.underlying55 h
  replace hlen := hlen.trans cellsDecl
  obtain ⟨z0, z1, rfl⟩ := list2 hzz
  have g0 : DataW.trod enc Tryz.prog w base spare held n2 9 ((cs.drop 0).take (Tryz.prog.cellsOf 9)) = some z0 := hg 0 _ rfl
  have g1 : DataW.trod enc Tryz.prog w base spare held n2 53 ((cs.drop 1).take (Tryz.prog.cellsOf 53)) = some z1 := hg 1 _ rfl
  rw [cellsSt] at g0
  rw [cellsRange] at g1
  obtain ⟨s, e1, _, hs⟩ := DataW.trod_string Tryz.underlying9 g0
  obtain ⟨a, b, c, d, e2⟩ := open_rng g1
  refine ⟨⟨s, a, b, c, d⟩, ?_, hs⟩
  have h0 : cs = cs.drop 0 := rfl
  rw [h0, cut_at cs 0 1, e1, cut_at cs (0 + 1) 4, e2, List.drop_of_length_le (by omega)]
  rfl
theorem open_eqn {fuel : Nat} {cs : List Value} {x : DataW H × List MemPlace} (h : DataW.trod enc Tryz.prog w base spare held fuel 73 cs = some x) (hb : Rows.uptoBulk x.1 ≤ 1048576) : ∃ q : Qe, cs = q.cells ∧ q.at w w.heap.size := by
  obtain ⟨zs, n2, _, hx, hlen, hzz, hg⟩ := DataW.trod_struct Tryz.underlying73 h
  replace hlen := hlen.trans cellsEqu
  obtain ⟨z0, z1, rfl⟩ := list2 hzz
  have g0 : DataW.trod enc Tryz.prog w base spare held n2 9 ((cs.drop 0).take (Tryz.prog.cellsOf 9)) = some z0 := hg 0 _ rfl
  have g1 : DataW.trod enc Tryz.prog w base spare held n2 26 ((cs.drop 1).take (Tryz.prog.cellsOf 26)) = some z1 := hg 1 _ rfl
  rw [cellsSt] at g0
  rw [cellsE] at g1
  obtain ⟨s, e1, _, hs⟩ := DataW.trod_string Tryz.underlying9 g0
  obtain ⟨e, e2, he⟩ := open_ex n2 n2 _ _ (Nat.le_refl _) g1 (Nat.le_trans (by rw [hx]; exact bulk_agg (by simp)) hb)
  refine ⟨⟨s, e⟩, ?_, hs, he⟩
  have h0 : cs = cs.drop 0 := rfl
  rw [h0, cut_at cs 0 1, e1, cut_at cs (0 + 1) 6, e2, List.drop_of_length_le (by omega)]
  rfl
theorem open_rst {fuel : Nat} {cs : List Value} {x : DataW H × List MemPlace} (h : DataW.trod enc Tryz.prog w base spare held fuel 66 cs = some x) (hb : Rows.uptoBulk x.1 ≤ 1048576) : ∃ q : Qe, cs = q.cells ∧ q.at w w.heap.size := by
  obtain ⟨zs, n2, _, hx, hlen, hzz, hg⟩ := DataW.trod_struct Tryz.underlying66 h
  replace hlen := hlen.trans cellsRst
  obtain ⟨z0, z1, rfl⟩ := list2 hzz
  have g0 : DataW.trod enc Tryz.prog w base spare held n2 9 ((cs.drop 0).take (Tryz.prog.cellsOf 9)) = some z0 := hg 0 _ rfl
  have g1 : DataW.trod enc Tryz.prog w base spare held n2 26 ((cs.drop 1).take (Tryz.prog.cellsOf 26)) = some z1 := hg 1 _ rfl
  rw [cellsSt] at g0
  rw [cellsE] at g1
  obtain ⟨s, e1, _, hs⟩ := DataW.trod_string Tryz.underlying9 g0
  obtain ⟨e, e2, he⟩ := open_ex n2 n2 _ _ (Nat.le_refl _) g1 (Nat.le_trans (by rw [hx]; exact bulk_agg (by simp)) hb)
  refine ⟨⟨s, e⟩, ?_, hs, he⟩
  have h0 : cs = cs.drop 0 := rfl
  rw [h0, cut_at cs 0 1, e1, cut_at cs (0 + 1) 6, e2, List.drop_of_length_le (by omega)]
  rfl
/-- a slice of structs, its elements opened -/
theorem open_rowV {α : Type} (d : α) (cells : α → List Value) (k : Nat) (hk : 0 < k) (tS tE : TypeId) (hu : Tryz.prog.underlying tS = some (.slice tE)) (hce : Tryz.prog.cellsOf tE = k) (hlen : ∀ x, (cells x).length = k) (at' : α → Prop)
    (helem : ∀ (fuel : Nat) (cs : List Value) (x : DataW H × List MemPlace), DataW.trod enc Tryz.prog w base spare held fuel tE cs = some x → Rows.uptoBulk x.1 ≤ 1048576 → ∃ y, cs = cells y ∧ at' y)
    {fuel : Nat} {cs : List Value} {x : DataW H × List MemPlace} (h : DataW.trod enc Tryz.prog w base spare held fuel tS cs = some x) (hb : Rows.uptoBulk x.1 ≤ 1048576) :
    ∃ (a : Option Addr) (zs : List α) (c : Nat), cs = [.slice a zs.length c] ∧ RowV cells k w w.heap.size a zs ∧ zs.length ≤ 1048576 ∧ ∀ z ∈ zs, at' z := by
  rcases DataW.trod_slice hu h with ⟨rfl, _⟩ | ⟨a, len, cap, elems, rest, n3, _, rfl, hx4, _, hl, hm, hel, hi, _⟩
  · exact ⟨none, [], 0, rfl, fun i x hx => by simp at hx, by simp, fun z hz => by simp at hz⟩
  · have hll : len ≤ 1048576 := by
      refine Nat.le_trans ?_ hb
      rw [hx4]
      refine Nat.le_trans ?_ (bulk_slice _ _)
      rw [List.length_map, hel]
      exact Nat.le_refl _
    obtain ⟨f, hf'⟩ := choose_gen d (n := len) (p := fun i y => w.cells? base (a.add (i * k)) k = some (cells y) ∧ at' y) (fun i hil => by
      have h5 := hi i hil
      rw [hce, List.getElem?_eq_getElem (by omega)] at h5
      cases hc : w.cells? base (a.add (i * k)) k with
      | none => rw [hc] at h5; cases h5
      | some cs' =>
        rw [hc] at h5
        have h6 : DataW.trod enc Tryz.prog w base spare held n3 tE cs' = some (elems[i]'(by omega)) := h5
        obtain ⟨y, e, hr⟩ := helem n3 cs' _ h6 (by
          refine Nat.le_trans ?_ hb
          rw [hx4]
          exact bulk_elem (List.mem_map.2 ⟨_, List.getElem_mem _, rfl⟩))
        exact ⟨y, by rw [e], hr⟩)
    have hfl : ((List.range len).map f).length = len := by simp
    refine ⟨some a, (List.range len).map f, cap, by rw [hfl], fun i x hx => ?_, by rw [hfl]; exact hll, fun z hz => ?_⟩
    · have hil : i < len := by have := (List.getElem?_eq_some_iff.1 hx).1; rwa [hfl] at this
      rw [List.getElem?_map, List.getElem?_range hil] at hx
      cases hx
      obtain ⟨h1, h2⟩ := hf' i hil
      obtain ⟨_, _, hat⟩ := World.cells?_some h1
      have h0' := hf' 0 (by omega)
      have hspot : ∃ b o, a = ⟨b, o, none⟩ := by
        obtain ⟨_, _, hat0⟩ := World.cells?_some h0'.1
        have := hat0 0 (by omega)
        rw [Nat.zero_mul, add_add] at this
        cases hz : (cells (f 0))[0]? with
        | none => have := List.getElem?_eq_none_iff.1 hz; rw [hlen] at this; omega
        | some u => rw [hz] at this; exact cell_spot this
      obtain ⟨b, o, rfl⟩ := hspot
      have key (j : Nat) (u : Value) (hu : (cells (f i))[j]? = some u) : w.cell? ⟨b, o + i * k + j, none⟩ = some u := by
        have hj : j < k := by have := (List.getElem?_eq_some_iff.1 hu).1; rwa [hlen] at this
        have := hat j hj
        rw [add_add, Addr.add_lit, hu, ← Nat.add_assoc] at this
        exact this
      refine ⟨b, o, rfl, ?_, fun j u hu => key j u hu⟩
      cases hz : (cells (f i))[0]? with
      | none => have := List.getElem?_eq_none_iff.1 hz; rw [hlen] at this; omega
      | some u => exact cell_ltT (key 0 u hz)
    · obtain ⟨i, hi', rfl⟩ := List.mem_map.1 hz
      exact (hf' i (List.mem_range.1 hi')).2
def dDe : De := ⟨ByteArray.empty, 0, 0, 0, 0⟩
def dQe : Qe := ⟨ByteArray.empty, .mk 0 0 0 ByteArray.empty 0 none 0 []⟩
def dEd : Ed := ⟨.mk 0 0 0 ByteArray.empty 0 none 0 [], 0, ByteArray.empty, none, 0, []⟩
def dMo : Mo := ⟨ByteArray.empty, none, 0, [], none, 0, []⟩
theorem open_edg {fuel : Nat} {cs : List Value} {x : DataW H × List MemPlace} (h : DataW.trod enc Tryz.prog w base spare held fuel 70 cs = some x) (hb : Rows.uptoBulk x.1 ≤ 1048576) : ∃ q : Ed, cs = q.cells ∧ q.at w w.heap.size := by
  obtain ⟨zs, n2, _, hx, hlen, hzz, hg⟩ := DataW.trod_struct Tryz.underlying70 h
  replace hlen := hlen.trans cellsEdge
  obtain ⟨z0, z1, z2, z3, rfl⟩ := list4V hzz
  have g0 : DataW.trod enc Tryz.prog w base spare held n2 26 ((cs.drop 0).take (Tryz.prog.cellsOf 26)) = some z0 := hg 0 _ rfl
  have g1 : DataW.trod enc Tryz.prog w base spare held n2 3 ((cs.drop 6).take (Tryz.prog.cellsOf 3)) = some z1 := hg 1 _ rfl
  have g2 : DataW.trod enc Tryz.prog w base spare held n2 9 ((cs.drop 7).take (Tryz.prog.cellsOf 9)) = some z2 := hg 2 _ rfl
  have g3 : DataW.trod enc Tryz.prog w base spare held n2 68 ((cs.drop 8).take (Tryz.prog.cellsOf 68)) = some z3 := hg 3 _ rfl
  rw [cellsE] at g0
  rw [cellsI] at g1
  rw [cellsSt] at g2
  rw [cellsSR] at g3
  obtain ⟨e, e0, he⟩ := open_ex n2 n2 _ _ (Nat.le_refl _) g0 (Nat.le_trans (by rw [hx]; exact bulk_agg (by simp)) hb)
  obtain ⟨d, e1, _, _⟩ := DataW.trod_int Tryz.underlying3 g1
  obtain ⟨s, e2, _, hs⟩ := DataW.trod_string Tryz.underlying9 g2
  obtain ⟨a, rs, c, e3, hr, hrl, hra⟩ := open_rowV dQe Qe.cells 7 (by decide) _ _ Tryz.underlying68 cellsRst (fun _ => rfl) (fun q => q.at w w.heap.size) (fun f cs x h hb => open_rst h hb) g3 (Nat.le_trans (by rw [hx]; exact bulk_agg (by simp)) hb)
  refine ⟨⟨e, d, s, a, c, rs⟩, ?_, ⟨he, hs, hrl⟩, hr, hra⟩
  have h0 : cs = cs.drop 0 := rfl
  rw [h0, cut_at cs 0 6, e0, cut_at cs (0 + 6) 1, e1, cut_at cs (0 + 6 + 1) 1, e2, cut_at cs (0 + 6 + 1 + 1) 1, e3, List.drop_of_length_le (by omega)]
  rfl
theorem open_mod {fuel : Nat} {cs : List Value} {x : DataW H × List MemPlace} (h : DataW.trod enc Tryz.prog w base spare held fuel 61 cs = some x) (hb : Rows.uptoBulk x.1 ≤ 1048576) : ∃ q : Mo, cs = q.cells ∧ q.at w w.heap.size := by
  obtain ⟨zs, n2, _, hx, hlen, hzz, hg⟩ := DataW.trod_struct Tryz.underlying61 h
  replace hlen := hlen.trans cellsMode
  obtain ⟨z0, z1, z2, rfl⟩ := list3V hzz
  have g0 : DataW.trod enc Tryz.prog w base spare held n2 9 ((cs.drop 0).take (Tryz.prog.cellsOf 9)) = some z0 := hg 0 _ rfl
  have g1 : DataW.trod enc Tryz.prog w base spare held n2 58 ((cs.drop 1).take (Tryz.prog.cellsOf 58)) = some z1 := hg 1 _ rfl
  have g2 : DataW.trod enc Tryz.prog w base spare held n2 59 ((cs.drop 2).take (Tryz.prog.cellsOf 59)) = some z2 := hg 2 _ rfl
  rw [cellsSt] at g0
  rw [cellsSQ] at g1
  rw [cellsSX] at g2
  obtain ⟨s, e0, _, hs⟩ := DataW.trod_string Tryz.underlying9 g0
  obtain ⟨a1, l1, c1, e1, hr1, hl1, ha1⟩ := open_rowV dQe Qe.cells 7 (by decide) _ _ Tryz.underlying58 cellsEqu (fun _ => rfl) (fun q => q.at w w.heap.size) (fun f cs x h hb => open_eqn h hb) g1 (Nat.le_trans (by rw [hx]; exact bulk_agg (by simp)) hb)
  obtain ⟨a2, l2, c2, e2, hr2, hl2, ha2⟩ := open_rowV dEd Ed.cells 9 (by decide) _ _ Tryz.underlying59 cellsEdge (fun _ => rfl) (fun q => q.at w w.heap.size) (fun f cs x h hb => open_edg h hb) g2 (Nat.le_trans (by rw [hx]; exact bulk_agg (by simp)) hb)
  refine ⟨⟨s, a1, c1, l1, a2, c2, l2⟩, ?_, ⟨hs, hl1, hl2⟩, ⟨hr1, ha1⟩, hr2, ha2⟩
  have h0 : cs = cs.drop 0 := rfl
  rw [h0, cut_at cs 0 1, e0, cut_at cs (0 + 1) 1, e1, cut_at cs (0 + 1 + 1) 1, e2, List.drop_of_length_le (by omega)]
  rfl
/-- an argument that is a problem -/
theorem open_pr {fuel : Nat} {cs : List Value} {x : DataW H × List MemPlace} (h : DataW.trod enc Tryz.prog w base spare held fuel 30 cs = some x) (hb : Rows.uptoBulk x.1 ≤ 1048576) : ∃ q : Pr, cs = q.cells ∧ q.at w w.heap.size := by
  obtain ⟨zs, n2, _, hx, hlen, hzz, hg⟩ := DataW.trod_struct Tryz.underlying30 h
  replace hlen := hlen.trans cellsProb
  obtain ⟨z0, z1, z2, z3, rfl⟩ := list4V hzz
  have g0 : DataW.trod enc Tryz.prog w base spare held n2 27 ((cs.drop 0).take (Tryz.prog.cellsOf 27)) = some z0 := hg 0 _ rfl
  have g1 : DataW.trod enc Tryz.prog w base spare held n2 27 ((cs.drop 1).take (Tryz.prog.cellsOf 27)) = some z1 := hg 1 _ rfl
  have g2 : DataW.trod enc Tryz.prog w base spare held n2 28 ((cs.drop 2).take (Tryz.prog.cellsOf 28)) = some z2 := hg 2 _ rfl
  have g3 : DataW.trod enc Tryz.prog w base spare held n2 23 ((cs.drop 3).take (Tryz.prog.cellsOf 23)) = some z3 := hg 3 _ rfl
  rw [cellsSD] at g0 g1
  rw [cellsSM] at g2
  rw [cellsR] at g3
  obtain ⟨a1, l1, c1, e1, hr1, hl1, ha1⟩ := open_rowV dDe De.cells 5 (by decide) _ _ Tryz.underlying27 cellsDecl (fun _ => rfl) (fun q => q.at w w.heap.size) (fun f cs x h hb => open_dec h) g0 (Nat.le_trans (by rw [hx]; exact bulk_agg (by simp)) hb)
  obtain ⟨a2, l2, c2, e2, hr2, hl2, ha2⟩ := open_rowV dDe De.cells 5 (by decide) _ _ Tryz.underlying27 cellsDecl (fun _ => rfl) (fun q => q.at w w.heap.size) (fun f cs x h hb => open_dec h) g1 (Nat.le_trans (by rw [hx]; exact bulk_agg (by simp)) hb)
  obtain ⟨a3, l3, c3, e3, hr3, hl3, ha3⟩ := open_rowV dMo Mo.cells 3 (by decide) _ _ Tryz.underlying28 cellsMode (fun _ => rfl) (fun q => q.at w w.heap.size) (fun f cs x h hb => open_mod h hb) g2 (Nat.le_trans (by rw [hx]; exact bulk_agg (by simp)) hb)
  obtain ⟨r, d, e4⟩ := open_rat g3
  refine ⟨⟨a1, c1, l1, a2, c2, l2, a3, c3, l3, r, d⟩, ?_, ⟨hl1, hl2, hl3⟩, ⟨hr1, ha1⟩, ⟨hr2, ha2⟩, hr3, ha3⟩
  have h0 : cs = cs.drop 0 := rfl
  rw [h0, cut_at cs 0 1, e1, cut_at cs (0 + 1) 1, e2, cut_at cs (0 + 1 + 1) 1, e3, cut_at cs (0 + 1 + 1 + 1) 2, e4, List.drop_of_length_le (by omega)]
  rfl
end
end Go.Proofs.YthaphbbeiglolaaGreat
end
