/-
  The tick of a day's second.
-/
import Derived.Test.YtmelcndflllgmaaDoorDateB
namespace Go.Proofs.YtmelcndflllgmaaDoor
open Go.RowKit DateM

def tickN (y m d s : Int) : Int := (aheadD y + cum y m + (d - 1)) * 86400 + s
def TickYes (y m d s : Int) (w : World) (e : Ending) (w' : World) : Prop :=
  e = .returned (.tuple #[.int .i64 (tickN y m d s), .int .i64 0]) ∧ Below w.heap.size w w'

def TickNo (w : World) (e : Ending) (w' : World) : Prop :=
  e = .returned (.tuple #[.int .i64 0, .int .i64 1]) ∧ Below w.heap.size w w'

/-- A day that there is, and a second of it. -/
def dayB (y m d s : Int) : Bool := decide (1970 ≤ y ∧ y ≤ 9999 ∧ 1 ≤ m ∧ m ≤ 12 ∧ 1 ≤ d ∧ d ≤ dim y m ∧ 0 ≤ s ∧ s < 86400)

end Go.Proofs.YtmelcndflllgmaaDoor
