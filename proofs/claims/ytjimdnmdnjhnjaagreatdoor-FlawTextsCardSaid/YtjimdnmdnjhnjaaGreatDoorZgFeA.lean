/- Contracts: few scans; the reference's error of scans. -/
import Derived.Deep.DeepCutAuto
import Derived.Test.YtjimdnmdnjhnjaaGreatDoorZgFaE
namespace Go.Proofs.YtjimdnmdnjhnjaaGreatDoor
open Go.RowKit

set_option maxHeartbeats 400000 in
theorem isLevel_any (n : Int) (w : World) : Calls Tryz.prog 31 #[.int .i64 n] w fun e w' => e = .returned (.bool (wi n 0 1000000000)) ∧ w = w' := by
  go_enter Tryz.func31, Tryz.ntmps31
  go_wp2_with (go_at_call 30; refine (bWithin_any _ _ _ _).mono ?_; rintro e w1 ⟨rfl, rfl⟩)
  go_ret
  exact ⟨rfl, rfl⟩

end Go.Proofs.YtjimdnmdnjhnjaaGreatDoor
