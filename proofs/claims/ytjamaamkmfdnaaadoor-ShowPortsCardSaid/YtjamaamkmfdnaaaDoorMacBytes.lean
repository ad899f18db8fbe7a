/- Contract of mac.Bytes: the six bytes of the lowest 48 bits, the highest one first; no condition. -/
import Derived.Test.YtjamaamkmfdnaaaDoorBase
import Derived.Outline
import Derived.WalkLawsBesides
namespace Go.Proofs.YtjamaamkmfdnaaaDoor
open Go.RowKit Go.Proofs.YtjamaamkmfdnaaaDoorW.PrintWords

set_option maxHeartbeats 1000000 in
theorem mac_Bytes.calls (a : Int) (_h0 : 0 ≤ a) (_h1 : a ≤ 18446744073709551615) (w : World) :
    Calls Tryd.prog 28 #[.int .u64 a] w fun e w' => e = .returned (.agg #[.int .u8 (a / 1099511627776 % 256), .int .u8 (a / 4294967296 % 256), .int .u8 (a / 16777216 % 256), .int .u8 (a / 65536 % 256), .int .u8 (a / 256 % 256), .int .u8 (a % 256)]) ∧ Below w.heap.size w w' := by
  go_enter Tryd.func28, Tryd.ntmps28
  go_wp2
  refine wp_loop_rounds 7 ?_
  iterate 7 (rw [rounds_succ]; go_wp2)
  exact bodyPost_ret (v := .agg #[.int .u8 (a / 1099511627776 % 256), .int .u8 (a / 4294967296 % 256), .int .u8 (a / 16777216 % 256), .int .u8 (a / 65536 % 256), .int .u8 (a / 256 % 256), .int .u8 (a % 256)])
    (by simp [results, Tryd.results28, go_sem]) rfl ⟨rfl, ((Below.refl _ _).alloc (Nat.le_refl _) _).alloc (by simp) _⟩
end Go.Proofs.YtjamaamkmfdnaaaDoor
