/- Facts on the types of this translation. -/
import Derived.Test.YtimkhidniolpeaaLaw
namespace Go.Proofs.Ytimkhidniolpeaa
set_option linter.unusedSimpArgs false
set_option linter.unusedVariables false
set_option maxRecDepth 100000
set_option maxHeartbeats 0
open Go.RowKit

theorem agg_vec : Agg Try.prog 27 3 := ⟨⟨_, Try.underlying27, rfl⟩, by kernel_rfl⟩
theorem agg_pl : Agg Try.prog 44 15 := ⟨⟨_, Try.underlying44, rfl⟩, by kernel_rfl⟩
theorem agg_map : Agg Try.prog 25 5 := ⟨⟨_, Try.underlying25, rfl⟩, by kernel_rfl⟩
theorem agg_cmd : Agg Try.prog 52 5 := ⟨⟨_, Try.underlying52, rfl⟩, by kernel_rfl⟩
theorem agg_shot : Agg Try.prog 64 11 := ⟨⟨_, Try.underlying64, rfl⟩, by kernel_rfl⟩
theorem agg_b3 : Agg Try.prog 132 3 := ⟨⟨_, Try.underlying132, rfl⟩, by kernel_rfl⟩
theorem agg_i3 : Agg Try.prog 142 3 := ⟨⟨_, Try.underlying142, rfl⟩, by kernel_rfl⟩
theorem agg_i2 : Agg Try.prog 42 2 := ⟨⟨_, Try.underlying42, rfl⟩, by kernel_rfl⟩
theorem agg_p3 : Agg Try.prog 92 3 := ⟨⟨_, Try.underlying92, rfl⟩, by kernel_rfl⟩
theorem agg_axis : Agg Try.prog 147 4 := ⟨⟨_, Try.underlying147, rfl⟩, by kernel_rfl⟩
theorem agg_axis3 : Agg Try.prog 149 12 := ⟨⟨_, Try.underlying149, rfl⟩, by kernel_rfl⟩
theorem agg_wide : Agg Try.prog 120 2 := ⟨⟨_, Try.underlying120, rfl⟩, by kernel_rfl⟩
theorem one_int : One Try.prog 3 := ⟨⟨_, Try.underlying3, rfl⟩, by kernel_rfl⟩
theorem one_int64 : One Try.prog 2 := ⟨⟨_, Try.underlying2, rfl⟩, by kernel_rfl⟩
theorem one_bool : One Try.prog 4 := ⟨⟨_, Try.underlying4, rfl⟩, by kernel_rfl⟩
theorem one_uint8 : One Try.prog 5 := ⟨⟨_, Try.underlying5, rfl⟩, by kernel_rfl⟩
theorem one_int8 : One Try.prog 50 := ⟨⟨_, Try.underlying50, rfl⟩, by kernel_rfl⟩
theorem one_uint16 : One Try.prog 49 := ⟨⟨_, Try.underlying49, rfl⟩, by kernel_rfl⟩
theorem one_uint64 : One Try.prog 118 := ⟨⟨_, Try.underlying118, rfl⟩, by kernel_rfl⟩
theorem one_int32 : One Try.prog 21 := ⟨⟨_, Try.underlying21, rfl⟩, by kernel_rfl⟩
theorem one_errno : One Try.prog 31 := ⟨⟨_, Try.underlying31, rfl⟩, by kernel_rfl⟩
theorem one_bools : One Try.prog 22 := ⟨⟨_, Try.underlying22, rfl⟩, by kernel_rfl⟩
theorem one_vecs : One Try.prog 23 := ⟨⟨_, Try.underlying23, rfl⟩, by kernel_rfl⟩
theorem one_pls : One Try.prog 37 := ⟨⟨_, Try.underlying37, rfl⟩, by kernel_rfl⟩
theorem one_shots : One Try.prog 40 := ⟨⟨_, Try.underlying40, rfl⟩, by kernel_rfl⟩
theorem one_pint64 : One Try.prog 91 := ⟨⟨_, Try.underlying91, rfl⟩, by kernel_rfl⟩
theorem one_paxis : One Try.prog 150 := ⟨⟨_, Try.underlying150, rfl⟩, by kernel_rfl⟩

end Go.Proofs.Ytimkhidniolpeaa
