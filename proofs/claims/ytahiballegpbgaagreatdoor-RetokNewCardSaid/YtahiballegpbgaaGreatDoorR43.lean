/- Two facts of the program, for every law's lift. -/
import Derived.Test.YtahiballegpbgaaGreatDoorR18
set_option maxHeartbeats 400000
namespace Go.Proofs.YtahiballegpbgaaGreatDoor
theorem own:ownKnob Tryz.prog.godebug=none:=by kernel_rfl
theorem laidOut:laidOutB Tryz.prog=true:=by kernel_rfl
end Go.Proofs.YtahiballegpbgaaGreatDoor
