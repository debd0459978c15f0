/-
  No cell of these rows narrows 'for every input' (looked for: loops, veiled, ifaces, maps, wideKeys, modest, calm, conditions, laid).
  DERIVED. THE GIVEN ROWS OF THIS SEAT. 12 by the template 'for every input the law returns true; each argument reads behind the call as it read before'; 0 by the template 'total and deterministic' (their statements: YtpldpkdlloolkaaTotals.lean).
  GIVEN WITH THE SEED: the statements are not yours to turn. If you find one false, say at which input.
  Laid BY PROGRAM, IN A SANDBOX (cutbox-rows.mjs): the forced cells as the released guide's own fill.sh prints them over the translation 6aff35ca4e54bf72… (all of the seat's roots in one cut). By AI agents, Wed Nov 11 2026. No macro, syntax, notation, axiom, sorry.
-/
import Derived.Test.YtpldpkdlloolkaaChecked
import GoSem.Claim
import GoSem.ClaimJoined
import GoSem.ClaimMapViews
import Derived.JoinedTies
import Derived.KernelRfl
namespace Go.Proofs.Ytpldpkdlloolkaa
/- THE CELL 'sum', in the pinned program and in every row, IS THE sha256 OF THE DUMP (.gsa) THAT YtpldpkdlloolkaaProg.lean LOADS. Nothing in Lean hashes anything: it is a label: what it is worth is what the hold of that sum in a sandbox is worth. -/
noncomputable def Try.pinned : Pinned := { name := "ytpldpkdlloolkaa", sum := "6aff35ca4e54bf72a16fdba2dfab61263259e06ea0203dd0350f3bb7f010dba0", checked := Try.checked }
namespace Rows
def none {H : Type} : Left H := { results := [], args := [] }

/-- 'annuletlaw14.SetupFull': WHATEVER THE INPUT: true; the input reads as it did. -/
def setupFullSpec : ChangeSpec := { name := "setupFull", fn := fun _ => fun
  | [d1, d2, d3] => { results := [.lit (.bool true)], args := [d1, d2, d3] }
  | _ => none }
def setupFullRow : OpenClaim := { program := "ytpldpkdlloolkaa", sum := "6aff35ca4e54bf72a16fdba2dfab61263259e06ea0203dd0350f3bb7f010dba0", func := "annulet/annuletlaw14.SetupFull", spec := "setupFull", unfollowed := true, recurses := true, plainKeys := false, apart := false }
def SetupFullSaid : Prop := setupFullRow.holds Try.pinned (OpenSpec.ofChange setupFullSpec)

/-- ITS FALSE NEIGHBOUR: 'it returns false'. Refute it at one input. -/
def setupFullWrong : ChangeSpec := { name := "setupFull", fn := fun _ => fun
  | [d1, d2, d3] => { results := [.lit (.bool false)], args := [d1, d2, d3] }
  | _ => none }
def SetupFullWrongFalsely : Prop := setupFullRow.holds Try.pinned (OpenSpec.ofChange setupFullWrong)

/-- 'annuletlaw14.SetupWhole': WHATEVER THE INPUT: true; the input reads as it did. -/
def setupWholeSpec : ChangeSpec := { name := "setupWhole", fn := fun _ => fun
  | [d1, d2] => { results := [.lit (.bool true)], args := [d1, d2] }
  | _ => none }
def setupWholeRow : OpenClaim := { program := "ytpldpkdlloolkaa", sum := "6aff35ca4e54bf72a16fdba2dfab61263259e06ea0203dd0350f3bb7f010dba0", func := "annulet/annuletlaw14.SetupWhole", spec := "setupWhole", unfollowed := true, recurses := true, plainKeys := false, apart := false }
def SetupWholeSaid : Prop := setupWholeRow.holds Try.pinned (OpenSpec.ofChange setupWholeSpec)

/-- ITS FALSE NEIGHBOUR: 'it returns false'. Refute it at one input. -/
def setupWholeWrong : ChangeSpec := { name := "setupWhole", fn := fun _ => fun
  | [d1, d2] => { results := [.lit (.bool false)], args := [d1, d2] }
  | _ => none }
def SetupWholeWrongFalsely : Prop := setupWholeRow.holds Try.pinned (OpenSpec.ofChange setupWholeWrong)

/-- 'annuletlaw12.TableNew': WHATEVER THE INPUT: true; the input reads as it did. -/
def tableNewSpec : ChangeSpec := { name := "tableNew", fn := fun _ => fun
  | [d] => { results := [.lit (.bool true)], args := [d] }
  | _ => none }
def tableNewRow : OpenClaim := { program := "ytpldpkdlloolkaa", sum := "6aff35ca4e54bf72a16fdba2dfab61263259e06ea0203dd0350f3bb7f010dba0", func := "annulet/annuletlaw12.TableNew", spec := "tableNew", inPlace := ["internal/bytealg.Compare"], unfollowed := true, recurses := true, plainKeys := false, apart := false }
def TableNewSaid : Prop := tableNewRow.holds Try.pinned (OpenSpec.ofChange tableNewSpec)

/-- ITS FALSE NEIGHBOUR: 'it returns false'. Refute it at one input. -/
def tableNewWrong : ChangeSpec := { name := "tableNew", fn := fun _ => fun
  | [d] => { results := [.lit (.bool false)], args := [d] }
  | _ => none }
def TableNewWrongFalsely : Prop := tableNewRow.holds Try.pinned (OpenSpec.ofChange tableNewWrong)

/-- 'annuletlaw12.TableParts': WHATEVER THE INPUT: true; the input reads as it did. -/
def tablePartsSpec : ChangeSpec := { name := "tableParts", fn := fun _ => fun
  | [d] => { results := [.lit (.bool true)], args := [d] }
  | _ => none }
def tablePartsRow : OpenClaim := { program := "ytpldpkdlloolkaa", sum := "6aff35ca4e54bf72a16fdba2dfab61263259e06ea0203dd0350f3bb7f010dba0", func := "annulet/annuletlaw12.TableParts", spec := "tableParts", inPlace := ["internal/bytealg.Compare"], unfollowed := true, recurses := true, plainKeys := false, apart := false }
def TablePartsSaid : Prop := tablePartsRow.holds Try.pinned (OpenSpec.ofChange tablePartsSpec)

/-- ITS FALSE NEIGHBOUR: 'it returns false'. Refute it at one input. -/
def tablePartsWrong : ChangeSpec := { name := "tableParts", fn := fun _ => fun
  | [d] => { results := [.lit (.bool false)], args := [d] }
  | _ => none }
def TablePartsWrongFalsely : Prop := tablePartsRow.holds Try.pinned (OpenSpec.ofChange tablePartsWrong)

/-- 'annuletlaw12.TableAsks': WHATEVER THE INPUT: true; the input reads as it did. -/
def tableAsksSpec : ChangeSpec := { name := "tableAsks", fn := fun _ => fun
  | [d1, d2, d3] => { results := [.lit (.bool true)], args := [d1, d2, d3] }
  | _ => none }
def tableAsksRow : OpenClaim := { program := "ytpldpkdlloolkaa", sum := "6aff35ca4e54bf72a16fdba2dfab61263259e06ea0203dd0350f3bb7f010dba0", func := "annulet/annuletlaw12.TableAsks", spec := "tableAsks", inPlace := ["internal/bytealg.Compare"], unfollowed := true, recurses := true, plainKeys := false, apart := false }
def TableAsksSaid : Prop := tableAsksRow.holds Try.pinned (OpenSpec.ofChange tableAsksSpec)

/-- ITS FALSE NEIGHBOUR: 'it returns false'. Refute it at one input. -/
def tableAsksWrong : ChangeSpec := { name := "tableAsks", fn := fun _ => fun
  | [d1, d2, d3] => { results := [.lit (.bool false)], args := [d1, d2, d3] }
  | _ => none }
def TableAsksWrongFalsely : Prop := tableAsksRow.holds Try.pinned (OpenSpec.ofChange tableAsksWrong)

/-- 'annuletlaw12.TableUndo': WHATEVER THE INPUT: true; the input reads as it did. -/
def tableUndoSpec : ChangeSpec := { name := "tableUndo", fn := fun _ => fun
  | [d1, d2] => { results := [.lit (.bool true)], args := [d1, d2] }
  | _ => none }
def tableUndoRow : OpenClaim := { program := "ytpldpkdlloolkaa", sum := "6aff35ca4e54bf72a16fdba2dfab61263259e06ea0203dd0350f3bb7f010dba0", func := "annulet/annuletlaw12.TableUndo", spec := "tableUndo", inPlace := ["internal/bytealg.Compare"], unfollowed := true, recurses := true, plainKeys := false, apart := false }
def TableUndoSaid : Prop := tableUndoRow.holds Try.pinned (OpenSpec.ofChange tableUndoSpec)

/-- ITS FALSE NEIGHBOUR: 'it returns false'. Refute it at one input. -/
def tableUndoWrong : ChangeSpec := { name := "tableUndo", fn := fun _ => fun
  | [d1, d2] => { results := [.lit (.bool false)], args := [d1, d2] }
  | _ => none }
def TableUndoWrongFalsely : Prop := tableUndoRow.holds Try.pinned (OpenSpec.ofChange tableUndoWrong)

/-- 'annuletlaw12.TableRooms': WHATEVER THE INPUT: true; the input reads as it did. -/
def tableRoomsSpec : ChangeSpec := { name := "tableRooms", fn := fun _ => fun
  | [d1, d2] => { results := [.lit (.bool true)], args := [d1, d2] }
  | _ => none }
def tableRoomsRow : OpenClaim := { program := "ytpldpkdlloolkaa", sum := "6aff35ca4e54bf72a16fdba2dfab61263259e06ea0203dd0350f3bb7f010dba0", func := "annulet/annuletlaw12.TableRooms", spec := "tableRooms", inPlace := ["internal/bytealg.Compare"], unfollowed := true, recurses := true, plainKeys := false, apart := false }
def TableRoomsSaid : Prop := tableRoomsRow.holds Try.pinned (OpenSpec.ofChange tableRoomsSpec)

/-- ITS FALSE NEIGHBOUR: 'it returns false'. Refute it at one input. -/
def tableRoomsWrong : ChangeSpec := { name := "tableRooms", fn := fun _ => fun
  | [d1, d2] => { results := [.lit (.bool false)], args := [d1, d2] }
  | _ => none }
def TableRoomsWrongFalsely : Prop := tableRoomsRow.holds Try.pinned (OpenSpec.ofChange tableRoomsWrong)

/-- 'annuletlaw12.TablePlays': WHATEVER THE INPUT: true; the input reads as it did. -/
def tablePlaysSpec : ChangeSpec := { name := "tablePlays", fn := fun _ => fun
  | [d1, d2] => { results := [.lit (.bool true)], args := [d1, d2] }
  | _ => none }
def tablePlaysRow : OpenClaim := { program := "ytpldpkdlloolkaa", sum := "6aff35ca4e54bf72a16fdba2dfab61263259e06ea0203dd0350f3bb7f010dba0", func := "annulet/annuletlaw12.TablePlays", spec := "tablePlays", inPlace := ["internal/bytealg.Compare"], unfollowed := true, recurses := true, plainKeys := false, apart := false }
def TablePlaysSaid : Prop := tablePlaysRow.holds Try.pinned (OpenSpec.ofChange tablePlaysSpec)

/-- ITS FALSE NEIGHBOUR: 'it returns false'. Refute it at one input. -/
def tablePlaysWrong : ChangeSpec := { name := "tablePlays", fn := fun _ => fun
  | [d1, d2] => { results := [.lit (.bool false)], args := [d1, d2] }
  | _ => none }
def TablePlaysWrongFalsely : Prop := tablePlaysRow.holds Try.pinned (OpenSpec.ofChange tablePlaysWrong)

/-- 'annuletlaw12.TableNil': WHATEVER THE INPUT: true; the input reads as it did. -/
def tableNilSpec : ChangeSpec := { name := "tableNil", fn := fun _ => fun
  | [d1, d2] => { results := [.lit (.bool true)], args := [d1, d2] }
  | _ => none }
def tableNilRow : OpenClaim := { program := "ytpldpkdlloolkaa", sum := "6aff35ca4e54bf72a16fdba2dfab61263259e06ea0203dd0350f3bb7f010dba0", func := "annulet/annuletlaw12.TableNil", spec := "tableNil", inPlace := ["internal/bytealg.Compare"], unfollowed := true, recurses := true, plainKeys := false, apart := false }
def TableNilSaid : Prop := tableNilRow.holds Try.pinned (OpenSpec.ofChange tableNilSpec)

/-- ITS FALSE NEIGHBOUR: 'it returns false'. Refute it at one input. -/
def tableNilWrong : ChangeSpec := { name := "tableNil", fn := fun _ => fun
  | [d1, d2] => { results := [.lit (.bool false)], args := [d1, d2] }
  | _ => none }
def TableNilWrongFalsely : Prop := tableNilRow.holds Try.pinned (OpenSpec.ofChange tableNilWrong)

/-- 'annuletlaw14.SetupStarts': WHATEVER THE INPUT: true; the input reads as it did. -/
def setupStartsSpec : ChangeSpec := { name := "setupStarts", fn := fun _ => fun
  | [d1, d2] => { results := [.lit (.bool true)], args := [d1, d2] }
  | _ => none }
def setupStartsRow : OpenClaim := { program := "ytpldpkdlloolkaa", sum := "6aff35ca4e54bf72a16fdba2dfab61263259e06ea0203dd0350f3bb7f010dba0", func := "annulet/annuletlaw14.SetupStarts", spec := "setupStarts", inPlace := ["internal/bytealg.Compare"], unfollowed := true, recurses := true, plainKeys := false, apart := false }
def SetupStartsSaid : Prop := setupStartsRow.holds Try.pinned (OpenSpec.ofChange setupStartsSpec)

/-- ITS FALSE NEIGHBOUR: 'it returns false'. Refute it at one input. -/
def setupStartsWrong : ChangeSpec := { name := "setupStarts", fn := fun _ => fun
  | [d1, d2] => { results := [.lit (.bool false)], args := [d1, d2] }
  | _ => none }
def SetupStartsWrongFalsely : Prop := setupStartsRow.holds Try.pinned (OpenSpec.ofChange setupStartsWrong)

/-- 'annuletlaw14.SetupTakes': WHATEVER THE INPUT: true; the input reads as it did. -/
def setupTakesSpec : ChangeSpec := { name := "setupTakes", fn := fun _ => fun
  | [d1, d2, d3] => { results := [.lit (.bool true)], args := [d1, d2, d3] }
  | _ => none }
def setupTakesRow : OpenClaim := { program := "ytpldpkdlloolkaa", sum := "6aff35ca4e54bf72a16fdba2dfab61263259e06ea0203dd0350f3bb7f010dba0", func := "annulet/annuletlaw14.SetupTakes", spec := "setupTakes", inPlace := ["internal/bytealg.Compare"], unfollowed := true, recurses := true, plainKeys := false, apart := false }
def SetupTakesSaid : Prop := setupTakesRow.holds Try.pinned (OpenSpec.ofChange setupTakesSpec)

/-- ITS FALSE NEIGHBOUR: 'it returns false'. Refute it at one input. -/
def setupTakesWrong : ChangeSpec := { name := "setupTakes", fn := fun _ => fun
  | [d1, d2, d3] => { results := [.lit (.bool false)], args := [d1, d2, d3] }
  | _ => none }
def SetupTakesWrongFalsely : Prop := setupTakesRow.holds Try.pinned (OpenSpec.ofChange setupTakesWrong)

/-- 'annuletlaw14.SetupAdds': WHATEVER THE INPUT: true; the input reads as it did. -/
def setupAddsSpec : ChangeSpec := { name := "setupAdds", fn := fun _ => fun
  | [d1, d2, d3] => { results := [.lit (.bool true)], args := [d1, d2, d3] }
  | _ => none }
def setupAddsRow : OpenClaim := { program := "ytpldpkdlloolkaa", sum := "6aff35ca4e54bf72a16fdba2dfab61263259e06ea0203dd0350f3bb7f010dba0", func := "annulet/annuletlaw14.SetupAdds", spec := "setupAdds", inPlace := ["internal/bytealg.Compare"], unfollowed := true, recurses := true, plainKeys := false, apart := false }
def SetupAddsSaid : Prop := setupAddsRow.holds Try.pinned (OpenSpec.ofChange setupAddsSpec)

/-- ITS FALSE NEIGHBOUR: 'it returns false'. Refute it at one input. -/
def setupAddsWrong : ChangeSpec := { name := "setupAdds", fn := fun _ => fun
  | [d1, d2, d3] => { results := [.lit (.bool false)], args := [d1, d2, d3] }
  | _ => none }
def SetupAddsWrongFalsely : Prop := setupAddsRow.holds Try.pinned (OpenSpec.ofChange setupAddsWrong)

/- THE SECOND FORM. 'bulk': how many values and letters a reading holds, each counted each time it is reached (what is shared counts as often as it is met; a slice's spare places count too). A statement '..UptoSaid' is the law's where the arguments, and the package variables that the reading takes, are together of bulk at most 1048576: NARROWER than '..Said'. Prove '..Said' where nothing that the law and all that it calls make is longer than what came in: it says more and counts as full. Else prove '..UptoSaid'. A law counts once. -/
mutual
def uptoBulk {H : Type} : DataW H → Nat
  | .lit (.string bytes) => bytes.length + 1
  | .lit _ => 1
  | .nil => 1
  | .ptr d => uptoBulk d + 1
  | .slice elems spare => uptoBulkAll elems + uptoBulkAll spare + 1
  | .agg parts => uptoBulkAll parts + 1
  | .iface _ d => uptoBulk d + 1
  | .map entries => uptoBulkEntries entries + 1
  | .held _ => 1
def uptoBulkAll {H : Type} : List (DataW H) → Nat
  | [] => 0
  | d :: r => uptoBulk d + uptoBulkAll r
def uptoBulkEntries {H : Type} : List (Lit × DataW H) → Nat
  | [] => 0
  | x :: r => uptoBulkEntry x + uptoBulkEntries r
def uptoBulkEntry {H : Type} : Lit × DataW H → Nat
  | (.string bytes, d) => bytes.length + uptoBulk d + 1
  | (_, d) => uptoBulk d + 1
 end
def uptoSmall : (H : Type) → List (DataW H) → Bool := fun _ ds => decide (uptoBulkAll ds ≤ 1048576)
def OpenSpec.upto (s : _root_.Go.ChangeSpec) : _root_.Go.OpenSpec := { _root_.Go.OpenSpec.ofChange s with cond := some uptoSmall }

/-- 'annuletlaw14.SetupFull', WHERE WHAT IT READS IS OF BULK AT MOST 1048576: true; the input reads as it did. -/
def setupFullUptoRow : OpenClaim := { program := "ytpldpkdlloolkaa", sum := "6aff35ca4e54bf72a16fdba2dfab61263259e06ea0203dd0350f3bb7f010dba0", func := "annulet/annuletlaw14.SetupFull", spec := "setupFull", unfollowed := true, recurses := true, plainKeys := false, apart := false, narrowed := true }
def SetupFullUptoSaid : Prop := setupFullUptoRow.holds Try.pinned (OpenSpec.upto setupFullSpec)

/-- 'annuletlaw14.SetupWhole', WHERE WHAT IT READS IS OF BULK AT MOST 1048576: true; the input reads as it did. -/
def setupWholeUptoRow : OpenClaim := { program := "ytpldpkdlloolkaa", sum := "6aff35ca4e54bf72a16fdba2dfab61263259e06ea0203dd0350f3bb7f010dba0", func := "annulet/annuletlaw14.SetupWhole", spec := "setupWhole", unfollowed := true, recurses := true, plainKeys := false, apart := false, narrowed := true }
def SetupWholeUptoSaid : Prop := setupWholeUptoRow.holds Try.pinned (OpenSpec.upto setupWholeSpec)

/-- 'annuletlaw12.TableNew', WHERE WHAT IT READS IS OF BULK AT MOST 1048576: true; the input reads as it did. -/
def tableNewUptoRow : OpenClaim := { program := "ytpldpkdlloolkaa", sum := "6aff35ca4e54bf72a16fdba2dfab61263259e06ea0203dd0350f3bb7f010dba0", func := "annulet/annuletlaw12.TableNew", spec := "tableNew", inPlace := ["internal/bytealg.Compare"], unfollowed := true, recurses := true, plainKeys := false, apart := false, narrowed := true }
def TableNewUptoSaid : Prop := tableNewUptoRow.holds Try.pinned (OpenSpec.upto tableNewSpec)

/-- 'annuletlaw12.TableParts', WHERE WHAT IT READS IS OF BULK AT MOST 1048576: true; the input reads as it did. -/
def tablePartsUptoRow : OpenClaim := { program := "ytpldpkdlloolkaa", sum := "6aff35ca4e54bf72a16fdba2dfab61263259e06ea0203dd0350f3bb7f010dba0", func := "annulet/annuletlaw12.TableParts", spec := "tableParts", inPlace := ["internal/bytealg.Compare"], unfollowed := true, recurses := true, plainKeys := false, apart := false, narrowed := true }
def TablePartsUptoSaid : Prop := tablePartsUptoRow.holds Try.pinned (OpenSpec.upto tablePartsSpec)

/-- 'annuletlaw12.TableAsks', WHERE WHAT IT READS IS OF BULK AT MOST 1048576: true; the input reads as it did. -/
def tableAsksUptoRow : OpenClaim := { program := "ytpldpkdlloolkaa", sum := "6aff35ca4e54bf72a16fdba2dfab61263259e06ea0203dd0350f3bb7f010dba0", func := "annulet/annuletlaw12.TableAsks", spec := "tableAsks", inPlace := ["internal/bytealg.Compare"], unfollowed := true, recurses := true, plainKeys := false, apart := false, narrowed := true }
def TableAsksUptoSaid : Prop := tableAsksUptoRow.holds Try.pinned (OpenSpec.upto tableAsksSpec)

/-- 'annuletlaw12.TableUndo', WHERE WHAT IT READS IS OF BULK AT MOST 1048576: true; the input reads as it did. -/
def tableUndoUptoRow : OpenClaim := { program := "ytpldpkdlloolkaa", sum := "6aff35ca4e54bf72a16fdba2dfab61263259e06ea0203dd0350f3bb7f010dba0", func := "annulet/annuletlaw12.TableUndo", spec := "tableUndo", inPlace := ["internal/bytealg.Compare"], unfollowed := true, recurses := true, plainKeys := false, apart := false, narrowed := true }
def TableUndoUptoSaid : Prop := tableUndoUptoRow.holds Try.pinned (OpenSpec.upto tableUndoSpec)

/-- 'annuletlaw12.TableRooms', WHERE WHAT IT READS IS OF BULK AT MOST 1048576: true; the input reads as it did. -/
def tableRoomsUptoRow : OpenClaim := { program := "ytpldpkdlloolkaa", sum := "6aff35ca4e54bf72a16fdba2dfab61263259e06ea0203dd0350f3bb7f010dba0", func := "annulet/annuletlaw12.TableRooms", spec := "tableRooms", inPlace := ["internal/bytealg.Compare"], unfollowed := true, recurses := true, plainKeys := false, apart := false, narrowed := true }
def TableRoomsUptoSaid : Prop := tableRoomsUptoRow.holds Try.pinned (OpenSpec.upto tableRoomsSpec)

/-- 'annuletlaw12.TablePlays', WHERE WHAT IT READS IS OF BULK AT MOST 1048576: true; the input reads as it did. -/
def tablePlaysUptoRow : OpenClaim := { program := "ytpldpkdlloolkaa", sum := "6aff35ca4e54bf72a16fdba2dfab61263259e06ea0203dd0350f3bb7f010dba0", func := "annulet/annuletlaw12.TablePlays", spec := "tablePlays", inPlace := ["internal/bytealg.Compare"], unfollowed := true, recurses := true, plainKeys := false, apart := false, narrowed := true }
def TablePlaysUptoSaid : Prop := tablePlaysUptoRow.holds Try.pinned (OpenSpec.upto tablePlaysSpec)

/-- 'annuletlaw12.TableNil', WHERE WHAT IT READS IS OF BULK AT MOST 1048576: true; the input reads as it did. -/
def tableNilUptoRow : OpenClaim := { program := "ytpldpkdlloolkaa", sum := "6aff35ca4e54bf72a16fdba2dfab61263259e06ea0203dd0350f3bb7f010dba0", func := "annulet/annuletlaw12.TableNil", spec := "tableNil", inPlace := ["internal/bytealg.Compare"], unfollowed := true, recurses := true, plainKeys := false, apart := false, narrowed := true }
def TableNilUptoSaid : Prop := tableNilUptoRow.holds Try.pinned (OpenSpec.upto tableNilSpec)

/-- 'annuletlaw14.SetupStarts', WHERE WHAT IT READS IS OF BULK AT MOST 1048576: true; the input reads as it did. -/
def setupStartsUptoRow : OpenClaim := { program := "ytpldpkdlloolkaa", sum := "6aff35ca4e54bf72a16fdba2dfab61263259e06ea0203dd0350f3bb7f010dba0", func := "annulet/annuletlaw14.SetupStarts", spec := "setupStarts", inPlace := ["internal/bytealg.Compare"], unfollowed := true, recurses := true, plainKeys := false, apart := false, narrowed := true }
def SetupStartsUptoSaid : Prop := setupStartsUptoRow.holds Try.pinned (OpenSpec.upto setupStartsSpec)

/-- 'annuletlaw14.SetupTakes', WHERE WHAT IT READS IS OF BULK AT MOST 1048576: true; the input reads as it did. -/
def setupTakesUptoRow : OpenClaim := { program := "ytpldpkdlloolkaa", sum := "6aff35ca4e54bf72a16fdba2dfab61263259e06ea0203dd0350f3bb7f010dba0", func := "annulet/annuletlaw14.SetupTakes", spec := "setupTakes", inPlace := ["internal/bytealg.Compare"], unfollowed := true, recurses := true, plainKeys := false, apart := false, narrowed := true }
def SetupTakesUptoSaid : Prop := setupTakesUptoRow.holds Try.pinned (OpenSpec.upto setupTakesSpec)

/-- 'annuletlaw14.SetupAdds', WHERE WHAT IT READS IS OF BULK AT MOST 1048576: true; the input reads as it did. -/
def setupAddsUptoRow : OpenClaim := { program := "ytpldpkdlloolkaa", sum := "6aff35ca4e54bf72a16fdba2dfab61263259e06ea0203dd0350f3bb7f010dba0", func := "annulet/annuletlaw14.SetupAdds", spec := "setupAdds", inPlace := ["internal/bytealg.Compare"], unfollowed := true, recurses := true, plainKeys := false, apart := false, narrowed := true }
def SetupAddsUptoSaid : Prop := setupAddsUptoRow.holds Try.pinned (OpenSpec.upto setupAddsSpec)

end Rows
end Go.Proofs.Ytpldpkdlloolkaa
