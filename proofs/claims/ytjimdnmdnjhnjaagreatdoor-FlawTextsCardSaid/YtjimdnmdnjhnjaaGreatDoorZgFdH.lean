/- For every input the law FlawTrue answers true, and the arguments read afterwards as before: a true tip's depth lies in what is found, and a narrower telling finds no wider range. No condition. -/
import Derived.Test.YtjimdnmdnjhnjaaGreatDoorZgFbE
import Derived.Test.YtjimdnmdnjhnjaaGreatDoorZgFcP
import Derived.Test.YtjimdnmdnjhnjaaGreatDoorZgFdD
namespace Go.Proofs.YtjimdnmdnjhnjaaGreatDoor.flawTrue
open Go.ChangeShapes Go.WideShapes Go.ChangeAt Go.RowKit

theorem own : ownKnob Tryz.prog.godebug = none := by kernel_rfl

end Go.Proofs.YtjimdnmdnjhnjaaGreatDoor.flawTrue
