/-
  Plain: the example of the trees' chapter.
-/
import Derived.Test.YthaphbbeiglolaaAwkT
namespace Go.Proofs.Ythaphbbeiglolaa

def nX : ByteArray := ⟨#[120]⟩
def nY : ByteArray := ⟨#[121]⟩
/-- x * x + 1, its elements where they lie -/
def exE (a1 a2 : Option Addr) : Ex := .mk 3 0 0 ⟨#[]⟩ 0 a2 2 [.mk 5 0 0 ⟨#[]⟩ 0 a1 2 [varE nX, varE nX], .mk 1 1 1 ⟨#[]⟩ 0 none 0 []]
/-- - y -/
def exY (a : Option Addr) : Ex := .mk 7 0 0 ⟨#[]⟩ 0 a 1 [varE nY]
theorem nX_name : nameB nX = true := by kernel_rfl
theorem nY_name : nameB nY = true := by kernel_rfl
theorem exE_er (a1 a2 : Option Addr) : (exE a1 a2).er = (exE none none).er := rfl
theorem exY_er (a : Option Addr) : (exY a).er = (exY none).er := rfl
theorem exE_ok (a1 a2 : Option Addr) : (exE a1 a2).ok = true := by
  rw [ok_er (exE_er a1 a2)]; kernel_rfl
theorem exY_ok (a : Option Addr) : (exY a).ok = true := by
  rw [ok_er (exY_er a)]; kernel_rfl
theorem exE_size (a1 a2 : Option Addr) : (exE a1 a2).size = 5 := rfl
theorem exE_depth (a1 a2 : Option Addr) : (exE a1 a2).depth = 3 := rfl
theorem flatE_er {x y : Ex} (h : x.er = y.er) : flatE x = flatE y := by unfold flatE; rw [ok_er h, flat_er h]
theorem sizO_ok {x : Ex} (h : x.ok = true) : sizO x = x.size := by unfold sizO; rw [flatE_len h]
theorem sub_exE (a1 a2 a : Option Addr) : (exE a1 a2).sub (oneF nX (exY a)) = .mk 3 0 0 ⟨#[]⟩ 0 none 0 [.mk 5 0 0 ⟨#[]⟩ 0 none 0 [exY a, exY a], .mk 1 1 1 ⟨#[]⟩ 0 none 0 []] := by
  kernel_rfl
theorem sub_ok (a1 a2 a : Option Addr) : ((exE a1 a2).sub (oneF nX (exY a))).ok = true := by
  rw [sub_exE]
  rw [ok_er (show (Ex.mk 3 0 0 ⟨#[]⟩ 0 none 0 [.mk 5 0 0 ⟨#[]⟩ 0 none 0 [exY a, exY a], .mk 1 1 1 ⟨#[]⟩ 0 none 0 []]).er = (Ex.mk 3 0 0 ⟨#[]⟩ 0 none 0 [.mk 5 0 0 ⟨#[]⟩ 0 none 0 [exY none, exY none], .mk 1 1 1 ⟨#[]⟩ 0 none 0 []]).er from rfl)]
  kernel_rfl
theorem sub_size7 (a1 a2 a : Option Addr) : ((exE a1 a2).sub (oneF nX (exY a))).size = 7 := by
  rw [sub_exE]; rfl
theorem replF_ex (a1 a2 a : Option Addr) : replF (exE a1 a2) nX (exY a) = 0 := by
  rw [replF_eq, if_pos ⟨exE_ok _ _, exY_ok _, nX_name⟩, if_pos (sub_ok _ _ _)]
theorem namO_ex (a1 a2 : Option Addr) : namO (exE a1 a2) = [nX] := by
  unfold namO flatE
  rw [if_pos (exE_ok _ _)]
  show namesL [nX, nX] = [nX]
  show insS [nX] nX = [nX]
  unfold insS
  rw [if_neg (by rw [blt_irrefl]; decide), if_pos rfl]
end Go.Proofs.Ythaphbbeiglolaa
