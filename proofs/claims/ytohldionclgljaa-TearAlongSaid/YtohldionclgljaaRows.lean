/-
  No cell of these rows narrows 'for every input' (looked for: loops, veiled, ifaces, maps, wideKeys, modest, calm, conditions, laid).
  DERIVED. THE GIVEN ROWS OF THIS SEAT. 11 by the template 'for every input the law returns true; each argument reads behind the call as it read before'; 0 by the template 'total and deterministic' (their statements: YtohldionclgljaaTotals.lean).
  GIVEN WITH THE SEED: the statements are not yours to turn. If you find one false, say at which input.
  Laid BY PROGRAM, IN A SANDBOX (cutbox-rows.mjs): the forced cells as the released guide's own fill.sh prints them over the translation 1b3c8b30f307958c… (all of the seat's roots in one cut). By AI agents, Wed Nov 11 2026. No macro, syntax, notation, axiom, sorry.
-/
import Derived.Test.YtohldionclgljaaChecked
import GoSem.Claim
import GoSem.ClaimJoined
import GoSem.ClaimMapViews
import Derived.JoinedTies
import Derived.KernelRfl
namespace Go.Proofs.Ytohldionclgljaa
/- THE CELL 'sum', in the pinned program and in every row, IS THE sha256 OF THE DUMP (.gsa) THAT YtohldionclgljaaProg.lean LOADS. Nothing in Lean hashes anything: it is a label: what it is worth is what the hold of that sum in a sandbox is worth. -/
noncomputable def Try.pinned : Pinned := { name := "ytohldionclgljaa", sum := "1b3c8b30f307958cc8331ba91040e0795a39d8cabae8eb44580859b42437498d", checked := Try.checked }
namespace Rows
def none {H : Type} : Left H := { results := [], args := [] }

/-- 'annuletlaw13.RouteChooses': WHATEVER THE INPUT: true; the input reads as it did. -/
def routeChoosesSpec : ChangeSpec := { name := "routeChooses", fn := fun _ => fun
  | [d1, d2] => { results := [.lit (.bool true)], args := [d1, d2] }
  | _ => none }
def routeChoosesRow : OpenClaim := { program := "ytohldionclgljaa", sum := "1b3c8b30f307958cc8331ba91040e0795a39d8cabae8eb44580859b42437498d", func := "annulet/annuletlaw13.RouteChooses", spec := "routeChooses", inPlace := ["internal/bytealg.Compare"], unfollowed := true, recurses := true, plainKeys := false, apart := false }
def RouteChoosesSaid : Prop := routeChoosesRow.holds Try.pinned (OpenSpec.ofChange routeChoosesSpec)

/-- ITS FALSE NEIGHBOUR: 'it returns false'. Refute it at one input. -/
def routeChoosesWrong : ChangeSpec := { name := "routeChooses", fn := fun _ => fun
  | [d1, d2] => { results := [.lit (.bool false)], args := [d1, d2] }
  | _ => none }
def RouteChoosesWrongFalsely : Prop := routeChoosesRow.holds Try.pinned (OpenSpec.ofChange routeChoosesWrong)

/-- 'annuletlaw13.RouteOrders': WHATEVER THE INPUT: true; the input reads as it did. -/
def routeOrdersSpec : ChangeSpec := { name := "routeOrders", fn := fun _ => fun
  | [d1, d2, d3] => { results := [.lit (.bool true)], args := [d1, d2, d3] }
  | _ => none }
def routeOrdersRow : OpenClaim := { program := "ytohldionclgljaa", sum := "1b3c8b30f307958cc8331ba91040e0795a39d8cabae8eb44580859b42437498d", func := "annulet/annuletlaw13.RouteOrders", spec := "routeOrders", inPlace := ["internal/bytealg.Compare"], unfollowed := true, recurses := true, plainKeys := false, apart := false }
def RouteOrdersSaid : Prop := routeOrdersRow.holds Try.pinned (OpenSpec.ofChange routeOrdersSpec)

/-- ITS FALSE NEIGHBOUR: 'it returns false'. Refute it at one input. -/
def routeOrdersWrong : ChangeSpec := { name := "routeOrders", fn := fun _ => fun
  | [d1, d2, d3] => { results := [.lit (.bool false)], args := [d1, d2, d3] }
  | _ => none }
def RouteOrdersWrongFalsely : Prop := routeOrdersRow.holds Try.pinned (OpenSpec.ofChange routeOrdersWrong)

/-- 'annuletlaw13.RouteNearest': WHATEVER THE INPUT: true; the input reads as it did. -/
def routeNearestSpec : ChangeSpec := { name := "routeNearest", fn := fun _ => fun
  | [d1, d2] => { results := [.lit (.bool true)], args := [d1, d2] }
  | _ => none }
def routeNearestRow : OpenClaim := { program := "ytohldionclgljaa", sum := "1b3c8b30f307958cc8331ba91040e0795a39d8cabae8eb44580859b42437498d", func := "annulet/annuletlaw13.RouteNearest", spec := "routeNearest", inPlace := ["internal/bytealg.Compare"], unfollowed := true, recurses := true, plainKeys := false, apart := false }
def RouteNearestSaid : Prop := routeNearestRow.holds Try.pinned (OpenSpec.ofChange routeNearestSpec)

/-- ITS FALSE NEIGHBOUR: 'it returns false'. Refute it at one input. -/
def routeNearestWrong : ChangeSpec := { name := "routeNearest", fn := fun _ => fun
  | [d1, d2] => { results := [.lit (.bool false)], args := [d1, d2] }
  | _ => none }
def RouteNearestWrongFalsely : Prop := routeNearestRow.holds Try.pinned (OpenSpec.ofChange routeNearestWrong)

/-- 'annuletlaw13.RouteHome': WHATEVER THE INPUT: true; the input reads as it did. -/
def routeHomeSpec : ChangeSpec := { name := "routeHome", fn := fun _ => fun
  | [d] => { results := [.lit (.bool true)], args := [d] }
  | _ => none }
def routeHomeRow : OpenClaim := { program := "ytohldionclgljaa", sum := "1b3c8b30f307958cc8331ba91040e0795a39d8cabae8eb44580859b42437498d", func := "annulet/annuletlaw13.RouteHome", spec := "routeHome", inPlace := ["internal/bytealg.Compare"], unfollowed := true, recurses := true, plainKeys := false, apart := false }
def RouteHomeSaid : Prop := routeHomeRow.holds Try.pinned (OpenSpec.ofChange routeHomeSpec)

/-- ITS FALSE NEIGHBOUR: 'it returns false'. Refute it at one input. -/
def routeHomeWrong : ChangeSpec := { name := "routeHome", fn := fun _ => fun
  | [d] => { results := [.lit (.bool false)], args := [d] }
  | _ => none }
def RouteHomeWrongFalsely : Prop := routeHomeRow.holds Try.pinned (OpenSpec.ofChange routeHomeWrong)

/-- 'annuletlaw13.RouteTurned': WHATEVER THE INPUT: true; the input reads as it did. -/
def routeTurnedSpec : ChangeSpec := { name := "routeTurned", fn := fun _ => fun
  | [d1, d2, d3] => { results := [.lit (.bool true)], args := [d1, d2, d3] }
  | _ => none }
def routeTurnedRow : OpenClaim := { program := "ytohldionclgljaa", sum := "1b3c8b30f307958cc8331ba91040e0795a39d8cabae8eb44580859b42437498d", func := "annulet/annuletlaw13.RouteTurned", spec := "routeTurned", inPlace := ["internal/bytealg.Compare"], unfollowed := true, recurses := true, plainKeys := false, apart := false }
def RouteTurnedSaid : Prop := routeTurnedRow.holds Try.pinned (OpenSpec.ofChange routeTurnedSpec)

/-- ITS FALSE NEIGHBOUR: 'it returns false'. Refute it at one input. -/
def routeTurnedWrong : ChangeSpec := { name := "routeTurned", fn := fun _ => fun
  | [d1, d2, d3] => { results := [.lit (.bool false)], args := [d1, d2, d3] }
  | _ => none }
def RouteTurnedWrongFalsely : Prop := routeTurnedRow.holds Try.pinned (OpenSpec.ofChange routeTurnedWrong)

/-- 'annuletlaw13.RouteMore': WHATEVER THE INPUT: true; the input reads as it did. -/
def routeMoreSpec : ChangeSpec := { name := "routeMore", fn := fun _ => fun
  | [d1, d2, d3] => { results := [.lit (.bool true)], args := [d1, d2, d3] }
  | _ => none }
def routeMoreRow : OpenClaim := { program := "ytohldionclgljaa", sum := "1b3c8b30f307958cc8331ba91040e0795a39d8cabae8eb44580859b42437498d", func := "annulet/annuletlaw13.RouteMore", spec := "routeMore", inPlace := ["internal/bytealg.Compare"], unfollowed := true, recurses := true, plainKeys := false, apart := false }
def RouteMoreSaid : Prop := routeMoreRow.holds Try.pinned (OpenSpec.ofChange routeMoreSpec)

/-- ITS FALSE NEIGHBOUR: 'it returns false'. Refute it at one input. -/
def routeMoreWrong : ChangeSpec := { name := "routeMore", fn := fun _ => fun
  | [d1, d2, d3] => { results := [.lit (.bool false)], args := [d1, d2, d3] }
  | _ => none }
def RouteMoreWrongFalsely : Prop := routeMoreRow.holds Try.pinned (OpenSpec.ofChange routeMoreWrong)

/-- 'annuletlaw15.TearAlong': WHATEVER THE INPUT: true; the input reads as it did. -/
def tearAlongSpec : ChangeSpec := { name := "tearAlong", fn := fun _ => fun
  | [d1, d2, d3] => { results := [.lit (.bool true)], args := [d1, d2, d3] }
  | _ => none }
def tearAlongRow : OpenClaim := { program := "ytohldionclgljaa", sum := "1b3c8b30f307958cc8331ba91040e0795a39d8cabae8eb44580859b42437498d", func := "annulet/annuletlaw15.TearAlong", spec := "tearAlong", inPlace := ["internal/bytealg.Compare"], unfollowed := true, recurses := true, plainKeys := false, apart := false }
def TearAlongSaid : Prop := tearAlongRow.holds Try.pinned (OpenSpec.ofChange tearAlongSpec)

/-- ITS FALSE NEIGHBOUR: 'it returns false'. Refute it at one input. -/
def tearAlongWrong : ChangeSpec := { name := "tearAlong", fn := fun _ => fun
  | [d1, d2, d3] => { results := [.lit (.bool false)], args := [d1, d2, d3] }
  | _ => none }
def TearAlongWrongFalsely : Prop := tearAlongRow.holds Try.pinned (OpenSpec.ofChange tearAlongWrong)

/-- 'annuletlaw15.TearDrops': WHATEVER THE INPUT: true; the input reads as it did. -/
def tearDropsSpec : ChangeSpec := { name := "tearDrops", fn := fun _ => fun
  | [d1, d2, d3] => { results := [.lit (.bool true)], args := [d1, d2, d3] }
  | _ => none }
def tearDropsRow : OpenClaim := { program := "ytohldionclgljaa", sum := "1b3c8b30f307958cc8331ba91040e0795a39d8cabae8eb44580859b42437498d", func := "annulet/annuletlaw15.TearDrops", spec := "tearDrops", inPlace := ["internal/bytealg.Compare"], unfollowed := true, recurses := true, plainKeys := false, apart := false }
def TearDropsSaid : Prop := tearDropsRow.holds Try.pinned (OpenSpec.ofChange tearDropsSpec)

/-- ITS FALSE NEIGHBOUR: 'it returns false'. Refute it at one input. -/
def tearDropsWrong : ChangeSpec := { name := "tearDrops", fn := fun _ => fun
  | [d1, d2, d3] => { results := [.lit (.bool false)], args := [d1, d2, d3] }
  | _ => none }
def TearDropsWrongFalsely : Prop := tearDropsRow.holds Try.pinned (OpenSpec.ofChange tearDropsWrong)

/-- 'annuletlaw15.TearDies': WHATEVER THE INPUT: true; the input reads as it did. -/
def tearDiesSpec : ChangeSpec := { name := "tearDies", fn := fun _ => fun
  | [d1, d2] => { results := [.lit (.bool true)], args := [d1, d2] }
  | _ => none }
def tearDiesRow : OpenClaim := { program := "ytohldionclgljaa", sum := "1b3c8b30f307958cc8331ba91040e0795a39d8cabae8eb44580859b42437498d", func := "annulet/annuletlaw15.TearDies", spec := "tearDies", inPlace := ["internal/bytealg.Compare"], unfollowed := true, recurses := true, plainKeys := false, apart := false }
def TearDiesSaid : Prop := tearDiesRow.holds Try.pinned (OpenSpec.ofChange tearDiesSpec)

/-- ITS FALSE NEIGHBOUR: 'it returns false'. Refute it at one input. -/
def tearDiesWrong : ChangeSpec := { name := "tearDies", fn := fun _ => fun
  | [d1, d2] => { results := [.lit (.bool false)], args := [d1, d2] }
  | _ => none }
def TearDiesWrongFalsely : Prop := tearDiesRow.holds Try.pinned (OpenSpec.ofChange tearDiesWrong)

/-- 'annuletlaw15.TearSweeps': WHATEVER THE INPUT: true; the input reads as it did. -/
def tearSweepsSpec : ChangeSpec := { name := "tearSweeps", fn := fun _ => fun
  | [d1, d2] => { results := [.lit (.bool true)], args := [d1, d2] }
  | _ => none }
def tearSweepsRow : OpenClaim := { program := "ytohldionclgljaa", sum := "1b3c8b30f307958cc8331ba91040e0795a39d8cabae8eb44580859b42437498d", func := "annulet/annuletlaw15.TearSweeps", spec := "tearSweeps", inPlace := ["internal/bytealg.Compare"], unfollowed := true, recurses := true, plainKeys := false, apart := false }
def TearSweepsSaid : Prop := tearSweepsRow.holds Try.pinned (OpenSpec.ofChange tearSweepsSpec)

/-- ITS FALSE NEIGHBOUR: 'it returns false'. Refute it at one input. -/
def tearSweepsWrong : ChangeSpec := { name := "tearSweeps", fn := fun _ => fun
  | [d1, d2] => { results := [.lit (.bool false)], args := [d1, d2] }
  | _ => none }
def TearSweepsWrongFalsely : Prop := tearSweepsRow.holds Try.pinned (OpenSpec.ofChange tearSweepsWrong)

/-- 'annuletlaw15.TearEnds': WHATEVER THE INPUT: true; the input reads as it did. -/
def tearEndsSpec : ChangeSpec := { name := "tearEnds", fn := fun _ => fun
  | [d1, d2] => { results := [.lit (.bool true)], args := [d1, d2] }
  | _ => none }
def tearEndsRow : OpenClaim := { program := "ytohldionclgljaa", sum := "1b3c8b30f307958cc8331ba91040e0795a39d8cabae8eb44580859b42437498d", func := "annulet/annuletlaw15.TearEnds", spec := "tearEnds", inPlace := ["internal/bytealg.Compare"], unfollowed := true, recurses := true, plainKeys := false, apart := false }
def TearEndsSaid : Prop := tearEndsRow.holds Try.pinned (OpenSpec.ofChange tearEndsSpec)

/-- ITS FALSE NEIGHBOUR: 'it returns false'. Refute it at one input. -/
def tearEndsWrong : ChangeSpec := { name := "tearEnds", fn := fun _ => fun
  | [d1, d2] => { results := [.lit (.bool false)], args := [d1, d2] }
  | _ => none }
def TearEndsWrongFalsely : Prop := tearEndsRow.holds Try.pinned (OpenSpec.ofChange tearEndsWrong)

/- THE SECOND FORM. 'bulk': how many values and letters a reading holds, each counted each time it is reached (what is shared counts as often as it is met; a slice's spare places count too). A statement '..UptoSaid' is the law's where the arguments, and the package variables that the reading takes, are together of bulk at most 1048576: NARROWER than '..Said'. Prove '..Said' where nothing that the law and all that it calls make is longer than what came in: it says more and counts as full. Else prove '..UptoSaid'. A law counts once. -/
mutual
def uptoBulk {H : Type} : DataW H → Nat
  | .lit (.string bytes) => bytes.length + 1
  | .lit _ => 1
  | .nil => 1
  | .ptr d => uptoBulk d + 1
  | .slice elems spare => uptoBulkAll elems + uptoBulkAll spare + 1
  | .agg parts => uptoBulkAll parts + 1
  | .iface _ d => uptoBulk d + 1
  | .map entries => uptoBulkEntries entries + 1
  | .held _ => 1
def uptoBulkAll {H : Type} : List (DataW H) → Nat
  | [] => 0
  | d :: r => uptoBulk d + uptoBulkAll r
def uptoBulkEntries {H : Type} : List (Lit × DataW H) → Nat
  | [] => 0
  | x :: r => uptoBulkEntry x + uptoBulkEntries r
def uptoBulkEntry {H : Type} : Lit × DataW H → Nat
  | (.string bytes, d) => bytes.length + uptoBulk d + 1
  | (_, d) => uptoBulk d + 1
 end
def uptoSmall : (H : Type) → List (DataW H) → Bool := fun _ ds => decide (uptoBulkAll ds ≤ 1048576)
def OpenSpec.upto (s : _root_.Go.ChangeSpec) : _root_.Go.OpenSpec := { _root_.Go.OpenSpec.ofChange s with cond := some uptoSmall }

/-- 'annuletlaw13.RouteChooses', WHERE WHAT IT READS IS OF BULK AT MOST 1048576: true; the input reads as it did. -/
def routeChoosesUptoRow : OpenClaim := { program := "ytohldionclgljaa", sum := "1b3c8b30f307958cc8331ba91040e0795a39d8cabae8eb44580859b42437498d", func := "annulet/annuletlaw13.RouteChooses", spec := "routeChooses", inPlace := ["internal/bytealg.Compare"], unfollowed := true, recurses := true, plainKeys := false, apart := false, narrowed := true }
def RouteChoosesUptoSaid : Prop := routeChoosesUptoRow.holds Try.pinned (OpenSpec.upto routeChoosesSpec)

/-- 'annuletlaw13.RouteOrders', WHERE WHAT IT READS IS OF BULK AT MOST 1048576: true; the input reads as it did. -/
def routeOrdersUptoRow : OpenClaim := { program := "ytohldionclgljaa", sum := "1b3c8b30f307958cc8331ba91040e0795a39d8cabae8eb44580859b42437498d", func := "annulet/annuletlaw13.RouteOrders", spec := "routeOrders", inPlace := ["internal/bytealg.Compare"], unfollowed := true, recurses := true, plainKeys := false, apart := false, narrowed := true }
def RouteOrdersUptoSaid : Prop := routeOrdersUptoRow.holds Try.pinned (OpenSpec.upto routeOrdersSpec)

/-- 'annuletlaw13.RouteNearest', WHERE WHAT IT READS IS OF BULK AT MOST 1048576: true; the input reads as it did. -/
def routeNearestUptoRow : OpenClaim := { program := "ytohldionclgljaa", sum := "1b3c8b30f307958cc8331ba91040e0795a39d8cabae8eb44580859b42437498d", func := "annulet/annuletlaw13.RouteNearest", spec := "routeNearest", inPlace := ["internal/bytealg.Compare"], unfollowed := true, recurses := true, plainKeys := false, apart := false, narrowed := true }
def RouteNearestUptoSaid : Prop := routeNearestUptoRow.holds Try.pinned (OpenSpec.upto routeNearestSpec)

/-- 'annuletlaw13.RouteHome', WHERE WHAT IT READS IS OF BULK AT MOST 1048576: true; the input reads as it did. -/
def routeHomeUptoRow : OpenClaim := { program := "ytohldionclgljaa", sum := "1b3c8b30f307958cc8331ba91040e0795a39d8cabae8eb44580859b42437498d", func := "annulet/annuletlaw13.RouteHome", spec := "routeHome", inPlace := ["internal/bytealg.Compare"], unfollowed := true, recurses := true, plainKeys := false, apart := false, narrowed := true }
def RouteHomeUptoSaid : Prop := routeHomeUptoRow.holds Try.pinned (OpenSpec.upto routeHomeSpec)

/-- 'annuletlaw13.RouteTurned', WHERE WHAT IT READS IS OF BULK AT MOST 1048576: true; the input reads as it did. -/
def routeTurnedUptoRow : OpenClaim := { program := "ytohldionclgljaa", sum := "1b3c8b30f307958cc8331ba91040e0795a39d8cabae8eb44580859b42437498d", func := "annulet/annuletlaw13.RouteTurned", spec := "routeTurned", inPlace := ["internal/bytealg.Compare"], unfollowed := true, recurses := true, plainKeys := false, apart := false, narrowed := true }
def RouteTurnedUptoSaid : Prop := routeTurnedUptoRow.holds Try.pinned (OpenSpec.upto routeTurnedSpec)

/-- 'annuletlaw13.RouteMore', WHERE WHAT IT READS IS OF BULK AT MOST 1048576: true; the input reads as it did. -/
def routeMoreUptoRow : OpenClaim := { program := "ytohldionclgljaa", sum := "1b3c8b30f307958cc8331ba91040e0795a39d8cabae8eb44580859b42437498d", func := "annulet/annuletlaw13.RouteMore", spec := "routeMore", inPlace := ["internal/bytealg.Compare"], unfollowed := true, recurses := true, plainKeys := false, apart := false, narrowed := true }
def RouteMoreUptoSaid : Prop := routeMoreUptoRow.holds Try.pinned (OpenSpec.upto routeMoreSpec)

/-- 'annuletlaw15.TearAlong', WHERE WHAT IT READS IS OF BULK AT MOST 1048576: true; the input reads as it did. -/
def tearAlongUptoRow : OpenClaim := { program := "ytohldionclgljaa", sum := "1b3c8b30f307958cc8331ba91040e0795a39d8cabae8eb44580859b42437498d", func := "annulet/annuletlaw15.TearAlong", spec := "tearAlong", inPlace := ["internal/bytealg.Compare"], unfollowed := true, recurses := true, plainKeys := false, apart := false, narrowed := true }
def TearAlongUptoSaid : Prop := tearAlongUptoRow.holds Try.pinned (OpenSpec.upto tearAlongSpec)

/-- 'annuletlaw15.TearDrops', WHERE WHAT IT READS IS OF BULK AT MOST 1048576: true; the input reads as it did. -/
def tearDropsUptoRow : OpenClaim := { program := "ytohldionclgljaa", sum := "1b3c8b30f307958cc8331ba91040e0795a39d8cabae8eb44580859b42437498d", func := "annulet/annuletlaw15.TearDrops", spec := "tearDrops", inPlace := ["internal/bytealg.Compare"], unfollowed := true, recurses := true, plainKeys := false, apart := false, narrowed := true }
def TearDropsUptoSaid : Prop := tearDropsUptoRow.holds Try.pinned (OpenSpec.upto tearDropsSpec)

/-- 'annuletlaw15.TearDies', WHERE WHAT IT READS IS OF BULK AT MOST 1048576: true; the input reads as it did. -/
def tearDiesUptoRow : OpenClaim := { program := "ytohldionclgljaa", sum := "1b3c8b30f307958cc8331ba91040e0795a39d8cabae8eb44580859b42437498d", func := "annulet/annuletlaw15.TearDies", spec := "tearDies", inPlace := ["internal/bytealg.Compare"], unfollowed := true, recurses := true, plainKeys := false, apart := false, narrowed := true }
def TearDiesUptoSaid : Prop := tearDiesUptoRow.holds Try.pinned (OpenSpec.upto tearDiesSpec)

/-- 'annuletlaw15.TearSweeps', WHERE WHAT IT READS IS OF BULK AT MOST 1048576: true; the input reads as it did. -/
def tearSweepsUptoRow : OpenClaim := { program := "ytohldionclgljaa", sum := "1b3c8b30f307958cc8331ba91040e0795a39d8cabae8eb44580859b42437498d", func := "annulet/annuletlaw15.TearSweeps", spec := "tearSweeps", inPlace := ["internal/bytealg.Compare"], unfollowed := true, recurses := true, plainKeys := false, apart := false, narrowed := true }
def TearSweepsUptoSaid : Prop := tearSweepsUptoRow.holds Try.pinned (OpenSpec.upto tearSweepsSpec)

/-- 'annuletlaw15.TearEnds', WHERE WHAT IT READS IS OF BULK AT MOST 1048576: true; the input reads as it did. -/
def tearEndsUptoRow : OpenClaim := { program := "ytohldionclgljaa", sum := "1b3c8b30f307958cc8331ba91040e0795a39d8cabae8eb44580859b42437498d", func := "annulet/annuletlaw15.TearEnds", spec := "tearEnds", inPlace := ["internal/bytealg.Compare"], unfollowed := true, recurses := true, plainKeys := false, apart := false, narrowed := true }
def TearEndsUptoSaid : Prop := tearEndsUptoRow.holds Try.pinned (OpenSpec.upto tearEndsSpec)

end Rows
end Go.Proofs.Ytohldionclgljaa
