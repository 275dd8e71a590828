/- The live questions of layer 4's statements are answered as they are fixed. No condition. -/
import Derived.Test.YtpdlfokfjkmplaaDoorPx5
import Derived.Test.YtpdlfokfjkmplaaDoorLex
import Derived.KernelRfl
namespace Go.Proofs.YtpdlfokfjkmplaaDoor.P
theorem head_true : sorrellaw04_head.f 40 = some true := by kernel_rfl
theorem head_at (k : Nat) (hk : 40 ≤ k) : sorrellaw04_head.f k = some true :=
  Go.Proofs.YtpdlfokfjkmplaaDoorW.PrintWords.at_rounds (g := fun k => sorrellaw04_head.f k) (fun k => sorrellaw04_head.mono k) hk head_true
end Go.Proofs.YtpdlfokfjkmplaaDoor.P
