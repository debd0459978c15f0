/-
  No cell of these rows narrows 'for every input' (looked for: loops, veiled, ifaces, maps, wideKeys, modest, calm, conditions, laid).
  DERIVED. THE GIVEN ROWS OF THIS SEAT. 10 by the template 'for every input the law returns true; each argument reads behind the call as it read before'; 0 by the template 'total and deterministic' (their statements: YtbafhclandendaaTotals.lean).
  GIVEN WITH THE SEED: the statements are not yours to turn. If you find one false, say at which input.
  Laid BY PROGRAM, IN A SANDBOX (cutbox-rows.mjs): the forced cells as the released guide's own fill.sh prints them over the translation c84cfc8d3d9e4e42… (all of the seat's roots in one cut). By AI agents, Wed Nov 11 2026. No macro, syntax, notation, axiom, sorry.
-/
import Derived.Test.YtbafhclandendaaChecked
import GoSem.Claim
import GoSem.ClaimJoined
import GoSem.ClaimMapViews
import Derived.JoinedTies
import Derived.KernelRfl
namespace Go.Proofs.Ytbafhclandendaa
/- THE CELL 'sum', in the pinned program and in every row, IS THE sha256 OF THE DUMP (.gsa) THAT YtbafhclandendaaProg.lean LOADS. Nothing in Lean hashes anything: it is a label: what it is worth is what the hold of that sum in a sandbox is worth. -/
noncomputable def Try.pinned : Pinned := { name := "ytbafhclandendaa", sum := "c84cfc8d3d9e4e4273db6dcce4dff1f2761f2499bbfc293de051cabb5dccdb92", checked := Try.checked }
namespace Rows
def none {H : Type} : Left H := { results := [], args := [] }

/-- 'annuletlaw19.CopiesOwes': WHATEVER THE INPUT: true; the input reads as it did. -/
def copiesOwesSpec : ChangeSpec := { name := "copiesOwes", fn := fun _ => fun
  | [d1, d2, d3] => { results := [.lit (.bool true)], args := [d1, d2, d3] }
  | _ => none }
def copiesOwesRow : OpenClaim := { program := "ytbafhclandendaa", sum := "c84cfc8d3d9e4e4273db6dcce4dff1f2761f2499bbfc293de051cabb5dccdb92", func := "annulet/annuletlaw19.CopiesOwes", spec := "copiesOwes", inPlace := ["internal/bytealg.Compare"], unfollowed := true, recurses := true, plainKeys := false, apart := false }
def CopiesOwesSaid : Prop := copiesOwesRow.holds Try.pinned (OpenSpec.ofChange copiesOwesSpec)

/-- ITS FALSE NEIGHBOUR: 'it returns false'. Refute it at one input. -/
def copiesOwesWrong : ChangeSpec := { name := "copiesOwes", fn := fun _ => fun
  | [d1, d2, d3] => { results := [.lit (.bool false)], args := [d1, d2, d3] }
  | _ => none }
def CopiesOwesWrongFalsely : Prop := copiesOwesRow.holds Try.pinned (OpenSpec.ofChange copiesOwesWrong)

/-- 'annuletlaw19.CopiesRises': WHATEVER THE INPUT: true; the input reads as it did. -/
def copiesRisesSpec : ChangeSpec := { name := "copiesRises", fn := fun _ => fun
  | [d1, d2, d3] => { results := [.lit (.bool true)], args := [d1, d2, d3] }
  | _ => none }
def copiesRisesRow : OpenClaim := { program := "ytbafhclandendaa", sum := "c84cfc8d3d9e4e4273db6dcce4dff1f2761f2499bbfc293de051cabb5dccdb92", func := "annulet/annuletlaw19.CopiesRises", spec := "copiesRises", inPlace := ["internal/bytealg.Compare"], unfollowed := true, recurses := true, plainKeys := false, apart := false }
def CopiesRisesSaid : Prop := copiesRisesRow.holds Try.pinned (OpenSpec.ofChange copiesRisesSpec)

/-- ITS FALSE NEIGHBOUR: 'it returns false'. Refute it at one input. -/
def copiesRisesWrong : ChangeSpec := { name := "copiesRises", fn := fun _ => fun
  | [d1, d2, d3] => { results := [.lit (.bool false)], args := [d1, d2, d3] }
  | _ => none }
def CopiesRisesWrongFalsely : Prop := copiesRisesRow.holds Try.pinned (OpenSpec.ofChange copiesRisesWrong)

/-- 'annuletlaw19.CopiesComes': WHATEVER THE INPUT: true; the input reads as it did. -/
def copiesComesSpec : ChangeSpec := { name := "copiesComes", fn := fun _ => fun
  | [d1, d2, d3] => { results := [.lit (.bool true)], args := [d1, d2, d3] }
  | _ => none }
def copiesComesRow : OpenClaim := { program := "ytbafhclandendaa", sum := "c84cfc8d3d9e4e4273db6dcce4dff1f2761f2499bbfc293de051cabb5dccdb92", func := "annulet/annuletlaw19.CopiesComes", spec := "copiesComes", inPlace := ["internal/bytealg.Compare"], unfollowed := true, recurses := true, plainKeys := false, apart := false }
def CopiesComesSaid : Prop := copiesComesRow.holds Try.pinned (OpenSpec.ofChange copiesComesSpec)

/-- ITS FALSE NEIGHBOUR: 'it returns false'. Refute it at one input. -/
def copiesComesWrong : ChangeSpec := { name := "copiesComes", fn := fun _ => fun
  | [d1, d2, d3] => { results := [.lit (.bool false)], args := [d1, d2, d3] }
  | _ => none }
def CopiesComesWrongFalsely : Prop := copiesComesRow.holds Try.pinned (OpenSpec.ofChange copiesComesWrong)

/-- 'annuletlaw19.CopiesPlays': WHATEVER THE INPUT: true; the input reads as it did. -/
def copiesPlaysSpec : ChangeSpec := { name := "copiesPlays", fn := fun _ => fun
  | [d] => { results := [.lit (.bool true)], args := [d] }
  | _ => none }
def copiesPlaysRow : OpenClaim := { program := "ytbafhclandendaa", sum := "c84cfc8d3d9e4e4273db6dcce4dff1f2761f2499bbfc293de051cabb5dccdb92", func := "annulet/annuletlaw19.CopiesPlays", spec := "copiesPlays", inPlace := ["internal/bytealg.Compare"], unfollowed := true, recurses := true, plainKeys := false, apart := false }
def CopiesPlaysSaid : Prop := copiesPlaysRow.holds Try.pinned (OpenSpec.ofChange copiesPlaysSpec)

/-- ITS FALSE NEIGHBOUR: 'it returns false'. Refute it at one input. -/
def copiesPlaysWrong : ChangeSpec := { name := "copiesPlays", fn := fun _ => fun
  | [d] => { results := [.lit (.bool false)], args := [d] }
  | _ => none }
def CopiesPlaysWrongFalsely : Prop := copiesPlaysRow.holds Try.pinned (OpenSpec.ofChange copiesPlaysWrong)

/-- 'annuletlaw19.CopiesMarked': WHATEVER THE INPUT: true; the input reads as it did. -/
def copiesMarkedSpec : ChangeSpec := { name := "copiesMarked", fn := fun _ => fun
  | [d1, d2, d3] => { results := [.lit (.bool true)], args := [d1, d2, d3] }
  | _ => none }
def copiesMarkedRow : OpenClaim := { program := "ytbafhclandendaa", sum := "c84cfc8d3d9e4e4273db6dcce4dff1f2761f2499bbfc293de051cabb5dccdb92", func := "annulet/annuletlaw19.CopiesMarked", spec := "copiesMarked", inPlace := ["internal/bytealg.Compare"], unfollowed := true, recurses := true, plainKeys := false, apart := false }
def CopiesMarkedSaid : Prop := copiesMarkedRow.holds Try.pinned (OpenSpec.ofChange copiesMarkedSpec)

/-- ITS FALSE NEIGHBOUR: 'it returns false'. Refute it at one input. -/
def copiesMarkedWrong : ChangeSpec := { name := "copiesMarked", fn := fun _ => fun
  | [d1, d2, d3] => { results := [.lit (.bool false)], args := [d1, d2, d3] }
  | _ => none }
def CopiesMarkedWrongFalsely : Prop := copiesMarkedRow.holds Try.pinned (OpenSpec.ofChange copiesMarkedWrong)

/-- 'annuletlaw19.CopiesNil': WHATEVER THE INPUT: true; the input reads as it did. -/
def copiesNilSpec : ChangeSpec := { name := "copiesNil", fn := fun _ => fun
  | [d1, d2] => { results := [.lit (.bool true)], args := [d1, d2] }
  | _ => none }
def copiesNilRow : OpenClaim := { program := "ytbafhclandendaa", sum := "c84cfc8d3d9e4e4273db6dcce4dff1f2761f2499bbfc293de051cabb5dccdb92", func := "annulet/annuletlaw19.CopiesNil", spec := "copiesNil", inPlace := ["internal/bytealg.Compare"], unfollowed := true, recurses := true, plainKeys := false, apart := false }
def CopiesNilSaid : Prop := copiesNilRow.holds Try.pinned (OpenSpec.ofChange copiesNilSpec)

/-- ITS FALSE NEIGHBOUR: 'it returns false'. Refute it at one input. -/
def copiesNilWrong : ChangeSpec := { name := "copiesNil", fn := fun _ => fun
  | [d1, d2] => { results := [.lit (.bool false)], args := [d1, d2] }
  | _ => none }
def CopiesNilWrongFalsely : Prop := copiesNilRow.holds Try.pinned (OpenSpec.ofChange copiesNilWrong)

/-- 'annuletlaw17.SeekAsks': WHATEVER THE INPUT: true; the input reads as it did. -/
def seekAsksSpec : ChangeSpec := { name := "seekAsks", fn := fun _ => fun
  | [d] => { results := [.lit (.bool true)], args := [d] }
  | _ => none }
def seekAsksRow : OpenClaim := { program := "ytbafhclandendaa", sum := "c84cfc8d3d9e4e4273db6dcce4dff1f2761f2499bbfc293de051cabb5dccdb92", func := "annulet/annuletlaw17.SeekAsks", spec := "seekAsks", inPlace := ["internal/bytealg.Compare"], unfollowed := true, recurses := true, plainKeys := false, apart := false }
def SeekAsksSaid : Prop := seekAsksRow.holds Try.pinned (OpenSpec.ofChange seekAsksSpec)

/-- ITS FALSE NEIGHBOUR: 'it returns false'. Refute it at one input. -/
def seekAsksWrong : ChangeSpec := { name := "seekAsks", fn := fun _ => fun
  | [d] => { results := [.lit (.bool false)], args := [d] }
  | _ => none }
def SeekAsksWrongFalsely : Prop := seekAsksRow.holds Try.pinned (OpenSpec.ofChange seekAsksWrong)

/-- 'annuletlaw17.SeekOnce': WHATEVER THE INPUT: true; the input reads as it did. -/
def seekOnceSpec : ChangeSpec := { name := "seekOnce", fn := fun _ => fun
  | [d] => { results := [.lit (.bool true)], args := [d] }
  | _ => none }
def seekOnceRow : OpenClaim := { program := "ytbafhclandendaa", sum := "c84cfc8d3d9e4e4273db6dcce4dff1f2761f2499bbfc293de051cabb5dccdb92", func := "annulet/annuletlaw17.SeekOnce", spec := "seekOnce", inPlace := ["internal/bytealg.Compare"], unfollowed := true, recurses := true, plainKeys := false, apart := false }
def SeekOnceSaid : Prop := seekOnceRow.holds Try.pinned (OpenSpec.ofChange seekOnceSpec)

/-- ITS FALSE NEIGHBOUR: 'it returns false'. Refute it at one input. -/
def seekOnceWrong : ChangeSpec := { name := "seekOnce", fn := fun _ => fun
  | [d] => { results := [.lit (.bool false)], args := [d] }
  | _ => none }
def SeekOnceWrongFalsely : Prop := seekOnceRow.holds Try.pinned (OpenSpec.ofChange seekOnceWrong)

/-- 'annuletlaw17.SeekDone': WHATEVER THE INPUT: true; the input reads as it did. -/
def seekDoneSpec : ChangeSpec := { name := "seekDone", fn := fun _ => fun
  | [d] => { results := [.lit (.bool true)], args := [d] }
  | _ => none }
def seekDoneRow : OpenClaim := { program := "ytbafhclandendaa", sum := "c84cfc8d3d9e4e4273db6dcce4dff1f2761f2499bbfc293de051cabb5dccdb92", func := "annulet/annuletlaw17.SeekDone", spec := "seekDone", inPlace := ["internal/bytealg.Compare"], unfollowed := true, recurses := true, plainKeys := false, apart := false }
def SeekDoneSaid : Prop := seekDoneRow.holds Try.pinned (OpenSpec.ofChange seekDoneSpec)

/-- ITS FALSE NEIGHBOUR: 'it returns false'. Refute it at one input. -/
def seekDoneWrong : ChangeSpec := { name := "seekDone", fn := fun _ => fun
  | [d] => { results := [.lit (.bool false)], args := [d] }
  | _ => none }
def SeekDoneWrongFalsely : Prop := seekDoneRow.holds Try.pinned (OpenSpec.ofChange seekDoneWrong)

/-- 'annuletlaw17.SeekOrder': WHATEVER THE INPUT: true; the input reads as it did. -/
def seekOrderSpec : ChangeSpec := { name := "seekOrder", fn := fun _ => fun
  | [d] => { results := [.lit (.bool true)], args := [d] }
  | _ => none }
def seekOrderRow : OpenClaim := { program := "ytbafhclandendaa", sum := "c84cfc8d3d9e4e4273db6dcce4dff1f2761f2499bbfc293de051cabb5dccdb92", func := "annulet/annuletlaw17.SeekOrder", spec := "seekOrder", inPlace := ["internal/bytealg.Compare"], unfollowed := true, recurses := true, plainKeys := false, apart := false }
def SeekOrderSaid : Prop := seekOrderRow.holds Try.pinned (OpenSpec.ofChange seekOrderSpec)

/-- ITS FALSE NEIGHBOUR: 'it returns false'. Refute it at one input. -/
def seekOrderWrong : ChangeSpec := { name := "seekOrder", fn := fun _ => fun
  | [d] => { results := [.lit (.bool false)], args := [d] }
  | _ => none }
def SeekOrderWrongFalsely : Prop := seekOrderRow.holds Try.pinned (OpenSpec.ofChange seekOrderWrong)

/- THE SECOND FORM. 'bulk': how many values and letters a reading holds, each counted each time it is reached (what is shared counts as often as it is met; a slice's spare places count too). A statement '..UptoSaid' is the law's where the arguments, and the package variables that the reading takes, are together of bulk at most 1048576: NARROWER than '..Said'. Prove '..Said' where nothing that the law and all that it calls make is longer than what came in: it says more and counts as full. Else prove '..UptoSaid'. A law counts once. -/
mutual
def uptoBulk {H : Type} : DataW H → Nat
  | .lit (.string bytes) => bytes.length + 1
  | .lit _ => 1
  | .nil => 1
  | .ptr d => uptoBulk d + 1
  | .slice elems spare => uptoBulkAll elems + uptoBulkAll spare + 1
  | .agg parts => uptoBulkAll parts + 1
  | .iface _ d => uptoBulk d + 1
  | .map entries => uptoBulkEntries entries + 1
  | .held _ => 1
def uptoBulkAll {H : Type} : List (DataW H) → Nat
  | [] => 0
  | d :: r => uptoBulk d + uptoBulkAll r
def uptoBulkEntries {H : Type} : List (Lit × DataW H) → Nat
  | [] => 0
  | x :: r => uptoBulkEntry x + uptoBulkEntries r
def uptoBulkEntry {H : Type} : Lit × DataW H → Nat
  | (.string bytes, d) => bytes.length + uptoBulk d + 1
  | (_, d) => uptoBulk d + 1
 end
def uptoSmall : (H : Type) → List (DataW H) → Bool := fun _ ds => decide (uptoBulkAll ds ≤ 1048576)
def OpenSpec.upto (s : _root_.Go.ChangeSpec) : _root_.Go.OpenSpec := { _root_.Go.OpenSpec.ofChange s with cond := some uptoSmall }

/-- 'annuletlaw19.CopiesOwes', WHERE WHAT IT READS IS OF BULK AT MOST 1048576: true; the input reads as it did. -/
def copiesOwesUptoRow : OpenClaim := { program := "ytbafhclandendaa", sum := "c84cfc8d3d9e4e4273db6dcce4dff1f2761f2499bbfc293de051cabb5dccdb92", func := "annulet/annuletlaw19.CopiesOwes", spec := "copiesOwes", inPlace := ["internal/bytealg.Compare"], unfollowed := true, recurses := true, plainKeys := false, apart := false, narrowed := true }
def CopiesOwesUptoSaid : Prop := copiesOwesUptoRow.holds Try.pinned (OpenSpec.upto copiesOwesSpec)

/-- 'annuletlaw19.CopiesRises', WHERE WHAT IT READS IS OF BULK AT MOST 1048576: true; the input reads as it did. -/
def copiesRisesUptoRow : OpenClaim := { program := "ytbafhclandendaa", sum := "c84cfc8d3d9e4e4273db6dcce4dff1f2761f2499bbfc293de051cabb5dccdb92", func := "annulet/annuletlaw19.CopiesRises", spec := "copiesRises", inPlace := ["internal/bytealg.Compare"], unfollowed := true, recurses := true, plainKeys := false, apart := false, narrowed := true }
def CopiesRisesUptoSaid : Prop := copiesRisesUptoRow.holds Try.pinned (OpenSpec.upto copiesRisesSpec)

/-- 'annuletlaw19.CopiesComes', WHERE WHAT IT READS IS OF BULK AT MOST 1048576: true; the input reads as it did. -/
def copiesComesUptoRow : OpenClaim := { program := "ytbafhclandendaa", sum := "c84cfc8d3d9e4e4273db6dcce4dff1f2761f2499bbfc293de051cabb5dccdb92", func := "annulet/annuletlaw19.CopiesComes", spec := "copiesComes", inPlace := ["internal/bytealg.Compare"], unfollowed := true, recurses := true, plainKeys := false, apart := false, narrowed := true }
def CopiesComesUptoSaid : Prop := copiesComesUptoRow.holds Try.pinned (OpenSpec.upto copiesComesSpec)

/-- 'annuletlaw19.CopiesPlays', WHERE WHAT IT READS IS OF BULK AT MOST 1048576: true; the input reads as it did. -/
def copiesPlaysUptoRow : OpenClaim := { program := "ytbafhclandendaa", sum := "c84cfc8d3d9e4e4273db6dcce4dff1f2761f2499bbfc293de051cabb5dccdb92", func := "annulet/annuletlaw19.CopiesPlays", spec := "copiesPlays", inPlace := ["internal/bytealg.Compare"], unfollowed := true, recurses := true, plainKeys := false, apart := false, narrowed := true }
def CopiesPlaysUptoSaid : Prop := copiesPlaysUptoRow.holds Try.pinned (OpenSpec.upto copiesPlaysSpec)

/-- 'annuletlaw19.CopiesMarked', WHERE WHAT IT READS IS OF BULK AT MOST 1048576: true; the input reads as it did. -/
def copiesMarkedUptoRow : OpenClaim := { program := "ytbafhclandendaa", sum := "c84cfc8d3d9e4e4273db6dcce4dff1f2761f2499bbfc293de051cabb5dccdb92", func := "annulet/annuletlaw19.CopiesMarked", spec := "copiesMarked", inPlace := ["internal/bytealg.Compare"], unfollowed := true, recurses := true, plainKeys := false, apart := false, narrowed := true }
def CopiesMarkedUptoSaid : Prop := copiesMarkedUptoRow.holds Try.pinned (OpenSpec.upto copiesMarkedSpec)

/-- 'annuletlaw19.CopiesNil', WHERE WHAT IT READS IS OF BULK AT MOST 1048576: true; the input reads as it did. -/
def copiesNilUptoRow : OpenClaim := { program := "ytbafhclandendaa", sum := "c84cfc8d3d9e4e4273db6dcce4dff1f2761f2499bbfc293de051cabb5dccdb92", func := "annulet/annuletlaw19.CopiesNil", spec := "copiesNil", inPlace := ["internal/bytealg.Compare"], unfollowed := true, recurses := true, plainKeys := false, apart := false, narrowed := true }
def CopiesNilUptoSaid : Prop := copiesNilUptoRow.holds Try.pinned (OpenSpec.upto copiesNilSpec)

/-- 'annuletlaw17.SeekAsks', WHERE WHAT IT READS IS OF BULK AT MOST 1048576: true; the input reads as it did. -/
def seekAsksUptoRow : OpenClaim := { program := "ytbafhclandendaa", sum := "c84cfc8d3d9e4e4273db6dcce4dff1f2761f2499bbfc293de051cabb5dccdb92", func := "annulet/annuletlaw17.SeekAsks", spec := "seekAsks", inPlace := ["internal/bytealg.Compare"], unfollowed := true, recurses := true, plainKeys := false, apart := false, narrowed := true }
def SeekAsksUptoSaid : Prop := seekAsksUptoRow.holds Try.pinned (OpenSpec.upto seekAsksSpec)

/-- 'annuletlaw17.SeekOnce', WHERE WHAT IT READS IS OF BULK AT MOST 1048576: true; the input reads as it did. -/
def seekOnceUptoRow : OpenClaim := { program := "ytbafhclandendaa", sum := "c84cfc8d3d9e4e4273db6dcce4dff1f2761f2499bbfc293de051cabb5dccdb92", func := "annulet/annuletlaw17.SeekOnce", spec := "seekOnce", inPlace := ["internal/bytealg.Compare"], unfollowed := true, recurses := true, plainKeys := false, apart := false, narrowed := true }
def SeekOnceUptoSaid : Prop := seekOnceUptoRow.holds Try.pinned (OpenSpec.upto seekOnceSpec)

/-- 'annuletlaw17.SeekDone', WHERE WHAT IT READS IS OF BULK AT MOST 1048576: true; the input reads as it did. -/
def seekDoneUptoRow : OpenClaim := { program := "ytbafhclandendaa", sum := "c84cfc8d3d9e4e4273db6dcce4dff1f2761f2499bbfc293de051cabb5dccdb92", func := "annulet/annuletlaw17.SeekDone", spec := "seekDone", inPlace := ["internal/bytealg.Compare"], unfollowed := true, recurses := true, plainKeys := false, apart := false, narrowed := true }
def SeekDoneUptoSaid : Prop := seekDoneUptoRow.holds Try.pinned (OpenSpec.upto seekDoneSpec)

/-- 'annuletlaw17.SeekOrder', WHERE WHAT IT READS IS OF BULK AT MOST 1048576: true; the input reads as it did. -/
def seekOrderUptoRow : OpenClaim := { program := "ytbafhclandendaa", sum := "c84cfc8d3d9e4e4273db6dcce4dff1f2761f2499bbfc293de051cabb5dccdb92", func := "annulet/annuletlaw17.SeekOrder", spec := "seekOrder", inPlace := ["internal/bytealg.Compare"], unfollowed := true, recurses := true, plainKeys := false, apart := false, narrowed := true }
def SeekOrderUptoSaid : Prop := seekOrderUptoRow.holds Try.pinned (OpenSpec.upto seekOrderSpec)

end Rows
end Go.Proofs.Ytbafhclandendaa
