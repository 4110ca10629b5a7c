/-
  Walks: the reference's Sum, whole; Add, Sub of valid numbers.
-/
import Derived.Test.YteidgoldnllabaaGreatDoorMR2K
import Derived.Test.YteidgoldnllabaaGreatDoorMRoE
import Derived.Deep.DeepFit
import Derived.Deep.CutRange
import Derived.Test.YteidgoldnllabaaGreatDoorMR2F
import Derived.Test.YteidgoldnllabaaGreatDoorMDyA
import Derived.Test.YteidgoldnllabaaGreatDoorMProdP
import Derived.Deep.LoopGhost
import Derived.Test.YteidgoldnllabaaGreatDoorMOwnD
import Derived.Deep.AppendLies
import Derived.Test.YteidgoldnllabaaGreatDoorMKnuE
import Derived.Deep.RegionLaw
import Derived.Test.YteidgoldnllabaaGreatDoorMIvB
import Derived.Laws.EntriesVeiled
namespace Go.Proofs.YteidgoldnllabaaGreatDoor
open Go.RowKit
def RowN (w:World) (a:Option Addr) (m:List (List RD)):Prop :=
 ∀ i r,m[i]? = some r→∃ b o ra rc,a=some ⟨b,o,none⟩∧w.cell? ⟨b,o+i,none⟩=some (.slice ra r.length rc)∧RowD w ra r∧r.length≤1100000
theorem RowN.kp {w w':World} {a:Option Addr} {m:List (List RD)} (h:RowN w a m) (k:Kp w w'):RowN w' a m:=by
 intro i r hi
 obtain⟨b,o,ra,rc,h1,h2,h3,h4⟩:=h i r hi
 exact⟨b,o,ra,rc,h1,k.cell h2,h3.kp k,h4⟩
def RowT (w:World) (a:Option Addr) (m:List (List (List RI))):Prop :=
 ∀ i r,m[i]? = some r→∃ b o ra rc,a=some ⟨b,o,none⟩∧w.cell? ⟨b,o+i,none⟩=some (.slice ra r.length rc)∧RowM w ra r∧r.length≤1100000
theorem RowT.kp {w w':World} {a:Option Addr} {m:List (List (List RI))} (h:RowT w a m) (k:Kp w w'):RowT w' a m:=by
 intro i r hi
 obtain⟨b,o,ra,rc,h1,h2,h3,h4⟩:=h i r hi
 exact⟨b,o,ra,rc,h1,k.cell h2,h3.kp k,h4⟩
end Go.Proofs.YteidgoldnllabaaGreatDoor
