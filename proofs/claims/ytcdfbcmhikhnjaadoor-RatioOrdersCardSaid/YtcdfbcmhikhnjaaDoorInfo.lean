/- What the table of types says of the types that slices have as elements. -/
import Derived.Test.YtcdfbcmhikhnjaaDoorBase
namespace Go.Proofs.YtcdfbcmhikhnjaaDoor
open Go.RowKit
theorem info_i64 : (Tryd.prog.info? 2).map (fun i => (i.zero, i.size, i.bytes)) = some (some (.int .i64 0), 1, 8) := by kernel_rfl
theorem info_u8 : (Tryd.prog.info? 5).map (fun i => (i.zero, i.size, i.bytes)) = some (some (.int .u8 0), 1, 1) := by kernel_rfl
theorem info_int : (Tryd.prog.info? 3).map (fun i => (i.zero, i.size, i.bytes)) = some (some (.int .i64 0), 1, 8) := by kernel_rfl
end Go.Proofs.YtcdfbcmhikhnjaaDoor
