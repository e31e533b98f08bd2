/- A disc of short numbers. -/
import Derived.Test.YtbdckemkmocdlaaGreatDoorZ25
import Derived.Test.YtbdckemkmocdlaaGreatDoorZ17
set_option linter.all false
set_option exponentiation.threshold 2000000
namespace Go.Proofs.YtbdckemkmocdlaaGreatDoor
open Go.RowKit

/-- a disc of short numbers, or of such a one that grew -/
structure Bg (d : QD) : Prop where
  x : Sz 12 10 d.x
  y : Sz 12 10 d.y
  q : Sz 13 10 d.q
  q0 : 0 ≤ d.q.num

theorem bg_far {a c : QD} (ha : Bg a) (hc : Bg c) : Sz 87 80 (farQ c.x c.y a.x a.y) := sz_far hc.x hc.y ha.x ha.y
theorem bg_fitFar {a c : QD} (ha : Bg a) (hc : Bg c) : FitFar c.x c.y a.x a.y := fitFar hc.x hc.y ha.x ha.y

end Go.Proofs.YtbdckemkmocdlaaGreatDoor
