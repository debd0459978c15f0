/-
  No cell of these rows narrows 'for every input' (looked for: loops, veiled, ifaces, maps, wideKeys, modest, calm, conditions, laid).
  DERIVED. THE GIVEN ROWS OF THIS SEAT. 11 by the template 'for every input the law returns true; each argument reads behind the call as it read before'; 0 by the template 'total and deterministic' (their statements: YtdpbgmbicdgdbaaTotals.lean).
  GIVEN WITH THE SEED: the statements are not yours to turn. If you find one false, say at which input.
  Laid BY PROGRAM, IN A SANDBOX (cutbox-rows.mjs): the forced cells as the released guide's own fill.sh prints them over the translation 60e1bd0514e72c2d… (all of the seat's roots in one cut). By AI agents, Wed Nov 11 2026. No macro, syntax, notation, axiom, sorry.
-/
import Derived.Test.YtdpbgmbicdgdbaaChecked
import GoSem.Claim
import GoSem.ClaimJoined
import GoSem.ClaimMapViews
import Derived.JoinedTies
import Derived.KernelRfl
namespace Go.Proofs.Ytdpbgmbicdgdbaa
/- THE CELL 'sum', in the pinned program and in every row, IS THE sha256 OF THE DUMP (.gsa) THAT YtdpbgmbicdgdbaaProg.lean LOADS. Nothing in Lean hashes anything: it is a label: what it is worth is what the hold of that sum in a sandbox is worth. -/
noncomputable def Try.pinned : Pinned := { name := "ytdpbgmbicdgdbaa", sum := "60e1bd0514e72c2d4401ea968e54eadef32503150e0d81ec2db3db2098282ef9", checked := Try.checked }
namespace Rows
def none {H : Type} : Left H := { results := [], args := [] }

/-- 'annuletlaw10.RingWants': WHATEVER THE INPUT: true; the input reads as it did. -/
def ringWantsSpec : ChangeSpec := { name := "ringWants", fn := fun _ => fun
  | [d1, d2, d3] => { results := [.lit (.bool true)], args := [d1, d2, d3] }
  | _ => none }
def ringWantsRow : OpenClaim := { program := "ytdpbgmbicdgdbaa", sum := "60e1bd0514e72c2d4401ea968e54eadef32503150e0d81ec2db3db2098282ef9", func := "annulet/annuletlaw10.RingWants", spec := "ringWants", inPlace := ["internal/bytealg.Compare"], unfollowed := true, recurses := true, apart := false }
def RingWantsSaid : Prop := ringWantsRow.holds Try.pinned (OpenSpec.ofChange ringWantsSpec)

/-- ITS FALSE NEIGHBOUR: 'it returns false'. Refute it at one input. -/
def ringWantsWrong : ChangeSpec := { name := "ringWants", fn := fun _ => fun
  | [d1, d2, d3] => { results := [.lit (.bool false)], args := [d1, d2, d3] }
  | _ => none }
def RingWantsWrongFalsely : Prop := ringWantsRow.holds Try.pinned (OpenSpec.ofChange ringWantsWrong)

/-- 'annuletlaw10.RingNexts': WHATEVER THE INPUT: true; the input reads as it did. -/
def ringNextsSpec : ChangeSpec := { name := "ringNexts", fn := fun _ => fun
  | [d1, d2] => { results := [.lit (.bool true)], args := [d1, d2] }
  | _ => none }
def ringNextsRow : OpenClaim := { program := "ytdpbgmbicdgdbaa", sum := "60e1bd0514e72c2d4401ea968e54eadef32503150e0d81ec2db3db2098282ef9", func := "annulet/annuletlaw10.RingNexts", spec := "ringNexts", inPlace := ["internal/bytealg.Compare"], unfollowed := true, recurses := true, apart := false }
def RingNextsSaid : Prop := ringNextsRow.holds Try.pinned (OpenSpec.ofChange ringNextsSpec)

/-- ITS FALSE NEIGHBOUR: 'it returns false'. Refute it at one input. -/
def ringNextsWrong : ChangeSpec := { name := "ringNexts", fn := fun _ => fun
  | [d1, d2] => { results := [.lit (.bool false)], args := [d1, d2] }
  | _ => none }
def RingNextsWrongFalsely : Prop := ringNextsRow.holds Try.pinned (OpenSpec.ofChange ringNextsWrong)

/-- 'annuletlaw10.RingGreedy': WHATEVER THE INPUT: true; the input reads as it did. -/
def ringGreedySpec : ChangeSpec := { name := "ringGreedy", fn := fun _ => fun
  | [d1, d2, d3] => { results := [.lit (.bool true)], args := [d1, d2, d3] }
  | _ => none }
def ringGreedyRow : OpenClaim := { program := "ytdpbgmbicdgdbaa", sum := "60e1bd0514e72c2d4401ea968e54eadef32503150e0d81ec2db3db2098282ef9", func := "annulet/annuletlaw10.RingGreedy", spec := "ringGreedy", inPlace := ["internal/bytealg.Compare"], unfollowed := true, recurses := true, apart := false }
def RingGreedySaid : Prop := ringGreedyRow.holds Try.pinned (OpenSpec.ofChange ringGreedySpec)

/-- ITS FALSE NEIGHBOUR: 'it returns false'. Refute it at one input. -/
def ringGreedyWrong : ChangeSpec := { name := "ringGreedy", fn := fun _ => fun
  | [d1, d2, d3] => { results := [.lit (.bool false)], args := [d1, d2, d3] }
  | _ => none }
def RingGreedyWrongFalsely : Prop := ringGreedyRow.holds Try.pinned (OpenSpec.ofChange ringGreedyWrong)

/-- 'annuletlaw10.RingEnough': WHATEVER THE INPUT: true; the input reads as it did. -/
def ringEnoughSpec : ChangeSpec := { name := "ringEnough", fn := fun _ => fun
  | [d1, d2, d3] => { results := [.lit (.bool true)], args := [d1, d2, d3] }
  | _ => none }
def ringEnoughRow : OpenClaim := { program := "ytdpbgmbicdgdbaa", sum := "60e1bd0514e72c2d4401ea968e54eadef32503150e0d81ec2db3db2098282ef9", func := "annulet/annuletlaw10.RingEnough", spec := "ringEnough", inPlace := ["internal/bytealg.Compare"], unfollowed := true, recurses := true, apart := false }
def RingEnoughSaid : Prop := ringEnoughRow.holds Try.pinned (OpenSpec.ofChange ringEnoughSpec)

/-- ITS FALSE NEIGHBOUR: 'it returns false'. Refute it at one input. -/
def ringEnoughWrong : ChangeSpec := { name := "ringEnough", fn := fun _ => fun
  | [d1, d2, d3] => { results := [.lit (.bool false)], args := [d1, d2, d3] }
  | _ => none }
def RingEnoughWrongFalsely : Prop := ringEnoughRow.holds Try.pinned (OpenSpec.ofChange ringEnoughWrong)

/-- 'annuletlaw10.RingRound': WHATEVER THE INPUT: true; the input reads as it did. -/
def ringRoundSpec : ChangeSpec := { name := "ringRound", fn := fun _ => fun
  | [d] => { results := [.lit (.bool true)], args := [d] }
  | _ => none }
def ringRoundRow : OpenClaim := { program := "ytdpbgmbicdgdbaa", sum := "60e1bd0514e72c2d4401ea968e54eadef32503150e0d81ec2db3db2098282ef9", func := "annulet/annuletlaw10.RingRound", spec := "ringRound", inPlace := ["internal/bytealg.Compare"], unfollowed := true, recurses := true, apart := false }
def RingRoundSaid : Prop := ringRoundRow.holds Try.pinned (OpenSpec.ofChange ringRoundSpec)

/-- ITS FALSE NEIGHBOUR: 'it returns false'. Refute it at one input. -/
def ringRoundWrong : ChangeSpec := { name := "ringRound", fn := fun _ => fun
  | [d] => { results := [.lit (.bool false)], args := [d] }
  | _ => none }
def RingRoundWrongFalsely : Prop := ringRoundRow.holds Try.pinned (OpenSpec.ofChange ringRoundWrong)

/-- 'annuletlaw10.RingGrows': WHATEVER THE INPUT: true; the input reads as it did. -/
def ringGrowsSpec : ChangeSpec := { name := "ringGrows", fn := fun _ => fun
  | [d1, d2, d3] => { results := [.lit (.bool true)], args := [d1, d2, d3] }
  | _ => none }
def ringGrowsRow : OpenClaim := { program := "ytdpbgmbicdgdbaa", sum := "60e1bd0514e72c2d4401ea968e54eadef32503150e0d81ec2db3db2098282ef9", func := "annulet/annuletlaw10.RingGrows", spec := "ringGrows", inPlace := ["internal/bytealg.Compare"], unfollowed := true, recurses := true, apart := false }
def RingGrowsSaid : Prop := ringGrowsRow.holds Try.pinned (OpenSpec.ofChange ringGrowsSpec)

/-- ITS FALSE NEIGHBOUR: 'it returns false'. Refute it at one input. -/
def ringGrowsWrong : ChangeSpec := { name := "ringGrows", fn := fun _ => fun
  | [d1, d2, d3] => { results := [.lit (.bool false)], args := [d1, d2, d3] }
  | _ => none }
def RingGrowsWrongFalsely : Prop := ringGrowsRow.holds Try.pinned (OpenSpec.ofChange ringGrowsWrong)

/-- 'annuletlaw10.RingMutual': WHATEVER THE INPUT: true; the input reads as it did. -/
def ringMutualSpec : ChangeSpec := { name := "ringMutual", fn := fun _ => fun
  | [d1, d2] => { results := [.lit (.bool true)], args := [d1, d2] }
  | _ => none }
def ringMutualRow : OpenClaim := { program := "ytdpbgmbicdgdbaa", sum := "60e1bd0514e72c2d4401ea968e54eadef32503150e0d81ec2db3db2098282ef9", func := "annulet/annuletlaw10.RingMutual", spec := "ringMutual", inPlace := ["internal/bytealg.Compare"], unfollowed := true, recurses := true, apart := false }
def RingMutualSaid : Prop := ringMutualRow.holds Try.pinned (OpenSpec.ofChange ringMutualSpec)

/-- ITS FALSE NEIGHBOUR: 'it returns false'. Refute it at one input. -/
def ringMutualWrong : ChangeSpec := { name := "ringMutual", fn := fun _ => fun
  | [d1, d2] => { results := [.lit (.bool false)], args := [d1, d2] }
  | _ => none }
def RingMutualWrongFalsely : Prop := ringMutualRow.holds Try.pinned (OpenSpec.ofChange ringMutualWrong)

/-- 'annuletlaw17.SeekAsks': WHATEVER THE INPUT: true; the input reads as it did. -/
def seekAsksSpec : ChangeSpec := { name := "seekAsks", fn := fun _ => fun
  | [d] => { results := [.lit (.bool true)], args := [d] }
  | _ => none }
def seekAsksRow : OpenClaim := { program := "ytdpbgmbicdgdbaa", sum := "60e1bd0514e72c2d4401ea968e54eadef32503150e0d81ec2db3db2098282ef9", func := "annulet/annuletlaw17.SeekAsks", spec := "seekAsks", inPlace := ["internal/bytealg.Compare"], unfollowed := true, recurses := true, apart := false }
def SeekAsksSaid : Prop := seekAsksRow.holds Try.pinned (OpenSpec.ofChange seekAsksSpec)

/-- ITS FALSE NEIGHBOUR: 'it returns false'. Refute it at one input. -/
def seekAsksWrong : ChangeSpec := { name := "seekAsks", fn := fun _ => fun
  | [d] => { results := [.lit (.bool false)], args := [d] }
  | _ => none }
def SeekAsksWrongFalsely : Prop := seekAsksRow.holds Try.pinned (OpenSpec.ofChange seekAsksWrong)

/-- 'annuletlaw17.SeekOnce': WHATEVER THE INPUT: true; the input reads as it did. -/
def seekOnceSpec : ChangeSpec := { name := "seekOnce", fn := fun _ => fun
  | [d] => { results := [.lit (.bool true)], args := [d] }
  | _ => none }
def seekOnceRow : OpenClaim := { program := "ytdpbgmbicdgdbaa", sum := "60e1bd0514e72c2d4401ea968e54eadef32503150e0d81ec2db3db2098282ef9", func := "annulet/annuletlaw17.SeekOnce", spec := "seekOnce", inPlace := ["internal/bytealg.Compare"], unfollowed := true, recurses := true, apart := false }
def SeekOnceSaid : Prop := seekOnceRow.holds Try.pinned (OpenSpec.ofChange seekOnceSpec)

/-- ITS FALSE NEIGHBOUR: 'it returns false'. Refute it at one input. -/
def seekOnceWrong : ChangeSpec := { name := "seekOnce", fn := fun _ => fun
  | [d] => { results := [.lit (.bool false)], args := [d] }
  | _ => none }
def SeekOnceWrongFalsely : Prop := seekOnceRow.holds Try.pinned (OpenSpec.ofChange seekOnceWrong)

/-- 'annuletlaw17.SeekDone': WHATEVER THE INPUT: true; the input reads as it did. -/
def seekDoneSpec : ChangeSpec := { name := "seekDone", fn := fun _ => fun
  | [d] => { results := [.lit (.bool true)], args := [d] }
  | _ => none }
def seekDoneRow : OpenClaim := { program := "ytdpbgmbicdgdbaa", sum := "60e1bd0514e72c2d4401ea968e54eadef32503150e0d81ec2db3db2098282ef9", func := "annulet/annuletlaw17.SeekDone", spec := "seekDone", inPlace := ["internal/bytealg.Compare"], unfollowed := true, recurses := true, apart := false }
def SeekDoneSaid : Prop := seekDoneRow.holds Try.pinned (OpenSpec.ofChange seekDoneSpec)

/-- ITS FALSE NEIGHBOUR: 'it returns false'. Refute it at one input. -/
def seekDoneWrong : ChangeSpec := { name := "seekDone", fn := fun _ => fun
  | [d] => { results := [.lit (.bool false)], args := [d] }
  | _ => none }
def SeekDoneWrongFalsely : Prop := seekDoneRow.holds Try.pinned (OpenSpec.ofChange seekDoneWrong)

/-- 'annuletlaw17.SeekOrder': WHATEVER THE INPUT: true; the input reads as it did. -/
def seekOrderSpec : ChangeSpec := { name := "seekOrder", fn := fun _ => fun
  | [d] => { results := [.lit (.bool true)], args := [d] }
  | _ => none }
def seekOrderRow : OpenClaim := { program := "ytdpbgmbicdgdbaa", sum := "60e1bd0514e72c2d4401ea968e54eadef32503150e0d81ec2db3db2098282ef9", func := "annulet/annuletlaw17.SeekOrder", spec := "seekOrder", inPlace := ["internal/bytealg.Compare"], unfollowed := true, recurses := true, apart := false }
def SeekOrderSaid : Prop := seekOrderRow.holds Try.pinned (OpenSpec.ofChange seekOrderSpec)

/-- ITS FALSE NEIGHBOUR: 'it returns false'. Refute it at one input. -/
def seekOrderWrong : ChangeSpec := { name := "seekOrder", fn := fun _ => fun
  | [d] => { results := [.lit (.bool false)], args := [d] }
  | _ => none }
def SeekOrderWrongFalsely : Prop := seekOrderRow.holds Try.pinned (OpenSpec.ofChange seekOrderWrong)

/- THE SECOND FORM. 'bulk': how many values and letters a reading holds, each counted each time it is reached (what is shared counts as often as it is met; a slice's spare places count too). A statement '..UptoSaid' is the law's where the arguments, and the package variables that the reading takes, are together of bulk at most 1048576: NARROWER than '..Said'. Prove '..Said' where nothing that the law and all that it calls make is longer than what came in: it says more and counts as full. Else prove '..UptoSaid'. A law counts once. -/
mutual
def uptoBulk {H : Type} : DataW H → Nat
  | .lit (.string bytes) => bytes.length + 1
  | .lit _ => 1
  | .nil => 1
  | .ptr d => uptoBulk d + 1
  | .slice elems spare => uptoBulkAll elems + uptoBulkAll spare + 1
  | .agg parts => uptoBulkAll parts + 1
  | .iface _ d => uptoBulk d + 1
  | .map entries => uptoBulkEntries entries + 1
  | .held _ => 1
def uptoBulkAll {H : Type} : List (DataW H) → Nat
  | [] => 0
  | d :: r => uptoBulk d + uptoBulkAll r
def uptoBulkEntries {H : Type} : List (Lit × DataW H) → Nat
  | [] => 0
  | x :: r => uptoBulkEntry x + uptoBulkEntries r
def uptoBulkEntry {H : Type} : Lit × DataW H → Nat
  | (.string bytes, d) => bytes.length + uptoBulk d + 1
  | (_, d) => uptoBulk d + 1
 end
def uptoSmall : (H : Type) → List (DataW H) → Bool := fun _ ds => decide (uptoBulkAll ds ≤ 1048576)
def OpenSpec.upto (s : _root_.Go.ChangeSpec) : _root_.Go.OpenSpec := { _root_.Go.OpenSpec.ofChange s with cond := some uptoSmall }

/-- 'annuletlaw10.RingWants', WHERE WHAT IT READS IS OF BULK AT MOST 1048576: true; the input reads as it did. -/
def ringWantsUptoRow : OpenClaim := { program := "ytdpbgmbicdgdbaa", sum := "60e1bd0514e72c2d4401ea968e54eadef32503150e0d81ec2db3db2098282ef9", func := "annulet/annuletlaw10.RingWants", spec := "ringWants", inPlace := ["internal/bytealg.Compare"], unfollowed := true, recurses := true, apart := false, narrowed := true }
def RingWantsUptoSaid : Prop := ringWantsUptoRow.holds Try.pinned (OpenSpec.upto ringWantsSpec)

/-- 'annuletlaw10.RingNexts', WHERE WHAT IT READS IS OF BULK AT MOST 1048576: true; the input reads as it did. -/
def ringNextsUptoRow : OpenClaim := { program := "ytdpbgmbicdgdbaa", sum := "60e1bd0514e72c2d4401ea968e54eadef32503150e0d81ec2db3db2098282ef9", func := "annulet/annuletlaw10.RingNexts", spec := "ringNexts", inPlace := ["internal/bytealg.Compare"], unfollowed := true, recurses := true, apart := false, narrowed := true }
def RingNextsUptoSaid : Prop := ringNextsUptoRow.holds Try.pinned (OpenSpec.upto ringNextsSpec)

/-- 'annuletlaw10.RingGreedy', WHERE WHAT IT READS IS OF BULK AT MOST 1048576: true; the input reads as it did. -/
def ringGreedyUptoRow : OpenClaim := { program := "ytdpbgmbicdgdbaa", sum := "60e1bd0514e72c2d4401ea968e54eadef32503150e0d81ec2db3db2098282ef9", func := "annulet/annuletlaw10.RingGreedy", spec := "ringGreedy", inPlace := ["internal/bytealg.Compare"], unfollowed := true, recurses := true, apart := false, narrowed := true }
def RingGreedyUptoSaid : Prop := ringGreedyUptoRow.holds Try.pinned (OpenSpec.upto ringGreedySpec)

/-- 'annuletlaw10.RingEnough', WHERE WHAT IT READS IS OF BULK AT MOST 1048576: true; the input reads as it did. -/
def ringEnoughUptoRow : OpenClaim := { program := "ytdpbgmbicdgdbaa", sum := "60e1bd0514e72c2d4401ea968e54eadef32503150e0d81ec2db3db2098282ef9", func := "annulet/annuletlaw10.RingEnough", spec := "ringEnough", inPlace := ["internal/bytealg.Compare"], unfollowed := true, recurses := true, apart := false, narrowed := true }
def RingEnoughUptoSaid : Prop := ringEnoughUptoRow.holds Try.pinned (OpenSpec.upto ringEnoughSpec)

/-- 'annuletlaw10.RingRound', WHERE WHAT IT READS IS OF BULK AT MOST 1048576: true; the input reads as it did. -/
def ringRoundUptoRow : OpenClaim := { program := "ytdpbgmbicdgdbaa", sum := "60e1bd0514e72c2d4401ea968e54eadef32503150e0d81ec2db3db2098282ef9", func := "annulet/annuletlaw10.RingRound", spec := "ringRound", inPlace := ["internal/bytealg.Compare"], unfollowed := true, recurses := true, apart := false, narrowed := true }
def RingRoundUptoSaid : Prop := ringRoundUptoRow.holds Try.pinned (OpenSpec.upto ringRoundSpec)

/-- 'annuletlaw10.RingGrows', WHERE WHAT IT READS IS OF BULK AT MOST 1048576: true; the input reads as it did. -/
def ringGrowsUptoRow : OpenClaim := { program := "ytdpbgmbicdgdbaa", sum := "60e1bd0514e72c2d4401ea968e54eadef32503150e0d81ec2db3db2098282ef9", func := "annulet/annuletlaw10.RingGrows", spec := "ringGrows", inPlace := ["internal/bytealg.Compare"], unfollowed := true, recurses := true, apart := false, narrowed := true }
def RingGrowsUptoSaid : Prop := ringGrowsUptoRow.holds Try.pinned (OpenSpec.upto ringGrowsSpec)

/-- 'annuletlaw10.RingMutual', WHERE WHAT IT READS IS OF BULK AT MOST 1048576: true; the input reads as it did. -/
def ringMutualUptoRow : OpenClaim := { program := "ytdpbgmbicdgdbaa", sum := "60e1bd0514e72c2d4401ea968e54eadef32503150e0d81ec2db3db2098282ef9", func := "annulet/annuletlaw10.RingMutual", spec := "ringMutual", inPlace := ["internal/bytealg.Compare"], unfollowed := true, recurses := true, apart := false, narrowed := true }
def RingMutualUptoSaid : Prop := ringMutualUptoRow.holds Try.pinned (OpenSpec.upto ringMutualSpec)

/-- 'annuletlaw17.SeekAsks', WHERE WHAT IT READS IS OF BULK AT MOST 1048576: true; the input reads as it did. -/
def seekAsksUptoRow : OpenClaim := { program := "ytdpbgmbicdgdbaa", sum := "60e1bd0514e72c2d4401ea968e54eadef32503150e0d81ec2db3db2098282ef9", func := "annulet/annuletlaw17.SeekAsks", spec := "seekAsks", inPlace := ["internal/bytealg.Compare"], unfollowed := true, recurses := true, apart := false, narrowed := true }
def SeekAsksUptoSaid : Prop := seekAsksUptoRow.holds Try.pinned (OpenSpec.upto seekAsksSpec)

/-- 'annuletlaw17.SeekOnce', WHERE WHAT IT READS IS OF BULK AT MOST 1048576: true; the input reads as it did. -/
def seekOnceUptoRow : OpenClaim := { program := "ytdpbgmbicdgdbaa", sum := "60e1bd0514e72c2d4401ea968e54eadef32503150e0d81ec2db3db2098282ef9", func := "annulet/annuletlaw17.SeekOnce", spec := "seekOnce", inPlace := ["internal/bytealg.Compare"], unfollowed := true, recurses := true, apart := false, narrowed := true }
def SeekOnceUptoSaid : Prop := seekOnceUptoRow.holds Try.pinned (OpenSpec.upto seekOnceSpec)

/-- 'annuletlaw17.SeekDone', WHERE WHAT IT READS IS OF BULK AT MOST 1048576: true; the input reads as it did. -/
def seekDoneUptoRow : OpenClaim := { program := "ytdpbgmbicdgdbaa", sum := "60e1bd0514e72c2d4401ea968e54eadef32503150e0d81ec2db3db2098282ef9", func := "annulet/annuletlaw17.SeekDone", spec := "seekDone", inPlace := ["internal/bytealg.Compare"], unfollowed := true, recurses := true, apart := false, narrowed := true }
def SeekDoneUptoSaid : Prop := seekDoneUptoRow.holds Try.pinned (OpenSpec.upto seekDoneSpec)

/-- 'annuletlaw17.SeekOrder', WHERE WHAT IT READS IS OF BULK AT MOST 1048576: true; the input reads as it did. -/
def seekOrderUptoRow : OpenClaim := { program := "ytdpbgmbicdgdbaa", sum := "60e1bd0514e72c2d4401ea968e54eadef32503150e0d81ec2db3db2098282ef9", func := "annulet/annuletlaw17.SeekOrder", spec := "seekOrder", inPlace := ["internal/bytealg.Compare"], unfollowed := true, recurses := true, apart := false, narrowed := true }
def SeekOrderUptoSaid : Prop := seekOrderUptoRow.holds Try.pinned (OpenSpec.upto seekOrderSpec)

end Rows
end Go.Proofs.Ytdpbgmbicdgdbaa
