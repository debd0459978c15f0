/-
  TableUndo: the walk.
-/
import Derived.Test.YtohldionclgljaaGreatUk
namespace Go.Proofs.YtohldionclgljaaGreat
open Go.J Go.RowKit
set_option linter.unusedVariables false
set_option linter.unusedSimpArgs false
set_option maxRecDepth 4000
theorem tget_snoc {L : List EV} {x : EV} (h : tget L x.p = none) : tget (L ++ [x]) x.p = some x := by
  unfold tget at *
  rw [List.find?_append, h]
  simp
theorem del_none {L : List EV} {p : PV} (h : tget L p = none) : delL L p = L := filter_no h
theorem tadd_ok {L : List EV} {most : Int} {x : EV} (h1 : rightP x) (h2 : tget L x.p = none) (h3 : (L.length : Int) < most) : tadd L most x = (0, L ++ [x]) := by
  unfold tadd
  rw [if_neg (by simpa using h1), if_neg (by rw [h2]; simp), if_neg (by omega)]

end Go.Proofs.YtohldionclgljaaGreat
