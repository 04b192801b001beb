import Derived.Test.YtblicjipogbhmaaGreatDoorHr
import Derived.Test.YtblicjipogbhmaaGreatDoorHp
namespace Go.Abs.W
