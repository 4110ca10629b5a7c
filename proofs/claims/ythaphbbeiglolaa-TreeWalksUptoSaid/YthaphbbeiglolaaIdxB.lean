/-
  Walks: strings.IndexByte.
-/
import Derived.Test.YthaphbbeiglolaaBase
import Derived.Lib.Strings
import Derived.Lib.Slices
import Derived.Lib.Bytealg
namespace Go.Proofs.Ythaphbbeiglolaa

set_option maxHeartbeats 1000000 in
set_option maxRecDepth 100000 in
theorem ixl_any (s : ByteArray) (c : Int) (w : World) :
    Calls Try.prog 104 #[.string s, .int .u8 c] w fun e w' => e = .returned (.int .i64 (Lib.indexByte s.data.toList c.toNat.toUInt8)) ∧ w' = w := by
  go_enter Try.func104, Try.ntmps104
  go_wp2
  rw [run_callFunc_extern Try.func106 (by kernel_rfl) (by kernel_rfl) (by kernel_rfl) (e := Extern.BytealgIndexByte.indexByte) (by kernel_rfl), Lib.run_indexByteString]
  simp only [Result.andThen]
  rw [Oper.upon_value]
  go_wp2
  go_ret
  exact ⟨rfl, rfl⟩
set_option maxHeartbeats 1000000 in
theorem ixb_any (s : ByteArray) (c : Int) (w : World) :
    Calls Try.prog 93 #[.string s, .int .u8 c] w fun e w' => ∃ k : Int, e = .returned (.int .i64 k) ∧ w' = w := by
  go_enter Try.func93, Try.ntmps93
  go_wp2_with (refine (ixl_any _ _ _).mono ?_; rintro e w' ⟨rfl, rfl⟩)
  go_ret
  exact ⟨_, rfl, rfl⟩
end Go.Proofs.Ythaphbbeiglolaa
