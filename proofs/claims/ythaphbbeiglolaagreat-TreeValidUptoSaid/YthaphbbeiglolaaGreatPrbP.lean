/-
  Problems as they come: declarations, equations, edges, modes; when they are valid as trees; where they lie.
-/
import Derived.Test.YthaphbbeiglolaaGreatRCoN
namespace Go.Proofs.YthaphbbeiglolaaGreat
open Go.RowKit

/-- a declaration -/
structure De where
  name : ByteArray
  ln : Int
  ld : Int
  hn : Int
  hd : Int
/-- an equation, or a reset -/
structure Qe where
  name : ByteArray
  e : Ex
/-- an edge -/
structure Ed where
  g : Ex
  dir : Int
  tx : ByteArray
  a : Option Addr
  c : Nat
  rs : List Qe
/-- a mode -/
structure Mo where
  name : ByteArray
  fa : Option Addr
  fc : Nat
  fs : List Qe
  ea : Option Addr
  ec : Nat
  es : List Ed
/-- a problem -/
structure Pr where
  sa : Option Addr
  sc : Nat
  ss : List De
  pa : Option Addr
  pc : Nat
  ps : List De
  ma : Option Addr
  mc : Nat
  ms : List Mo
  tn : Int
  td : Int
def De.cells (x : De) : List Value := [.string x.name, .int .i64 x.ln, .int .i64 x.ld, .int .i64 x.hn, .int .i64 x.hd]
def Qe.cells (x : Qe) : List Value := [.string x.name, .int .i64 x.e.kind, .int .i64 x.e.rn, .int .i64 x.e.rd, .string x.e.name, .int .i64 x.e.pw, .slice x.e.a x.e.l.length x.e.c]
def Ed.cells (x : Ed) : List Value := [.int .i64 x.g.kind, .int .i64 x.g.rn, .int .i64 x.g.rd, .string x.g.name, .int .i64 x.g.pw, .slice x.g.a x.g.l.length x.g.c, .int .i64 x.dir, .string x.tx, .slice x.a x.rs.length x.c]
def Mo.cells (x : Mo) : List Value := [.string x.name, .slice x.fa x.fs.length x.fc, .slice x.ea x.es.length x.ec]
def Pr.cells (x : Pr) : List Value := [.slice x.sa x.ss.length x.sc, .slice x.pa x.ps.length x.pc, .slice x.ma x.ms.length x.mc, .int .i64 x.tn, .int .i64 x.td]
def declB (d : De) : Bool := nameB d.name && (ratB d.ln d.ld && ratB d.hn d.hd)
def eqnB (q : Qe) : Bool := nameB q.name && q.e.ok
def edgeB (x : Ed) : Bool := x.g.ok && ((decide (x.dir = 1) || decide (x.dir = 2)) && (nameB x.tx && (decide (x.rs.length ≤ 4) && x.rs.all eqnB)))
def modeB (m : Mo) : Bool := nameB m.name && (decide (m.fs.length ≤ 4) && (decide (m.es.length ≤ 4) && (m.fs.all eqnB && m.es.all edgeB)))
def probB (p : Pr) : Bool := (decide (1 ≤ p.ss.length ∧ p.ss.length ≤ 4) && (decide (p.ps.length ≤ 4) && decide (1 ≤ p.ms.length ∧ p.ms.length ≤ 8))) && (p.ss.all declB && (p.ps.all declB && (p.ms.all modeB && ratB p.tn p.td)))
/-- values in neighbouring cells -/
def CellsV (w : World) (b o : Nat) (vs : List Value) : Prop := ∀ (j : Nat) (v : Value), vs[j]? = some v → w.cell? ⟨b, o + j, none⟩ = some v
/-- a slice of structs -/
def RowV {α : Type} (cells : α → List Value) (k : Nat) (w : World) (B : Nat) (a : Option Addr) (zs : List α) : Prop := ∀ (i : Nat) (x : α), zs[i]? = some x → ∃ b o, a = some ⟨b, o, none⟩ ∧ b < B ∧ CellsV w b (o + i * k) (cells x)
theorem CellsV.kp {w w' : World} {b o : Nat} {vs : List Value} (h : CellsV w b o vs) (k : Kp w w') : CellsV w' b o vs := fun j v hj => k.cell (h j v hj)
theorem RowV.kp {α : Type} {cells : α → List Value} {n : Nat} {w w' : World} {B : Nat} {a : Option Addr} {zs : List α} (h : RowV cells n w B a zs) (k : Kp w w') : RowV cells n w' B a zs := fun i x hx => by
  obtain ⟨b, o, e, hb, hc⟩ := h i x hx
  exact ⟨b, o, e, hb, hc.kp k⟩
theorem CellsV.new (w : World) (vs : List Value) (t : TypeId) (g : Nat) (h : w.heap.size = g) : CellsV (w.alloc (.cells vs.toArray t)) g 0 vs := fun j v hj => by
  subst h
  have h1 : vs.toArray[j]? = some v := by simpa using hj
  simp [hj]
/-- only the blocks' ends count -/
theorem RowV.up {α : Type} {cells : α → List Value} {n : Nat} {w : World} {B B' : Nat} {a : Option Addr} {zs : List α} (h : RowV cells n w B a zs) (hB : B ≤ B') : RowV cells n w B' a zs := fun i x hx => by
  obtain ⟨b, o, e, hb, hc⟩ := h i x hx
  exact ⟨b, o, e, by omega, hc⟩
def De.at (d : De) (_w : World) (_B : Nat) : Prop := d.name.size ≤ maxLen
def Qe.at (q : Qe) (w : World) (B : Nat) : Prop := q.name.size ≤ maxLen ∧ q.e.at w B
def Ed.at (x : Ed) (w : World) (B : Nat) : Prop := (x.g.at w B ∧ x.tx.size ≤ maxLen ∧ x.rs.length ≤ 1048576) ∧ RowV Qe.cells 7 w B x.a x.rs ∧ ∀ q ∈ x.rs, q.at w B
def Mo.at (m : Mo) (w : World) (B : Nat) : Prop := (m.name.size ≤ maxLen ∧ m.fs.length ≤ 1048576 ∧ m.es.length ≤ 1048576) ∧ (RowV Qe.cells 7 w B m.fa m.fs ∧ ∀ q ∈ m.fs, q.at w B) ∧ RowV Ed.cells 9 w B m.ea m.es ∧ ∀ x ∈ m.es, x.at w B
def Pr.at (p : Pr) (w : World) (B : Nat) : Prop := (p.ss.length ≤ 1048576 ∧ p.ps.length ≤ 1048576 ∧ p.ms.length ≤ 1048576) ∧ (RowV De.cells 5 w B p.sa p.ss ∧ ∀ d ∈ p.ss, d.at w B) ∧ (RowV De.cells 5 w B p.pa p.ps ∧ ∀ d ∈ p.ps, d.at w B) ∧ RowV Mo.cells 3 w B p.ma p.ms ∧ ∀ m ∈ p.ms, m.at w B
theorem De.at_kp {d : De} {w w' : World} {B : Nat} (h : d.at w B) (_k : Kp w w') : d.at w' B := h
theorem Qe.at_kp {q : Qe} {w w' : World} {B : Nat} (h : q.at w B) (k : Kp w w') : q.at w' B := ⟨h.1, Ex.at_kp h.2 k⟩
theorem Ed.at_kp {x : Ed} {w w' : World} {B : Nat} (h : x.at w B) (k : Kp w w') : x.at w' B := ⟨⟨Ex.at_kp h.1.1 k, h.1.2⟩, h.2.1.kp k, fun q hq => Qe.at_kp (h.2.2 q hq) k⟩
theorem Mo.at_kp {m : Mo} {w w' : World} {B : Nat} (h : m.at w B) (k : Kp w w') : m.at w' B := ⟨h.1, ⟨h.2.1.1.kp k, fun q hq => Qe.at_kp (h.2.1.2 q hq) k⟩, h.2.2.1.kp k, fun x hx => Ed.at_kp (h.2.2.2 x hx) k⟩
theorem Pr.at_kp {p : Pr} {w w' : World} {B : Nat} (h : p.at w B) (k : Kp w w') : p.at w' B := ⟨h.1, ⟨h.2.1.1.kp k, h.2.1.2⟩, ⟨h.2.2.1.1.kp k, h.2.2.1.2⟩, h.2.2.2.1.kp k, fun x hx => Mo.at_kp (h.2.2.2.2 x hx) k⟩
end Go.Proofs.YthaphbbeiglolaaGreat
