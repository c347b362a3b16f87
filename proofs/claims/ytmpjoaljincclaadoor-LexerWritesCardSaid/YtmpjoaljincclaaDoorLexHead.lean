/- The law's head: fixed sources with known results. No Go and no memory in it. -/
import Derived.Test.YtmpjoaljincclaaDoorLexPure2
namespace Go.Proofs.YtmpjoaljincclaaDoor.Pure
open Go.RowKit Go.Proofs.YtmpjoaljincclaaDoor.X Go.Proofs.YtmpjoaljincclaaDoorW.PrintWords

theorem head_ok : cohousinglaw07_head.f = some true := by kernel_rfl
end Go.Proofs.YtmpjoaljincclaaDoor.Pure

