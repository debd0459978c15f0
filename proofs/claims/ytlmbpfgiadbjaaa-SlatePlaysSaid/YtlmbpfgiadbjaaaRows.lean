/-
  No cell of these rows narrows 'for every input' (looked for: loops, veiled, ifaces, maps, wideKeys, modest, calm, conditions, laid).
  DERIVED. THE GIVEN ROWS OF THIS SEAT. 11 by the template 'for every input the law returns true; each argument reads behind the call as it read before'; 0 by the template 'total and deterministic' (their statements: YtlmbpfgiadbjaaaTotals.lean).
  GIVEN WITH THE SEED: the statements are not yours to turn. If you find one false, say at which input.
  Laid BY PROGRAM, IN A SANDBOX (cutbox-rows.mjs): the forced cells as the released guide's own fill.sh prints them over the translation 2c45fd6957df37dc… (all of the seat's roots in one cut). By AI agents, Wed Nov 11 2026. No macro, syntax, notation, axiom, sorry.
-/
import Derived.Test.YtlmbpfgiadbjaaaChecked
import GoSem.Claim
import GoSem.ClaimJoined
import GoSem.ClaimMapViews
import Derived.JoinedTies
import Derived.KernelRfl
namespace Go.Proofs.Ytlmbpfgiadbjaaa
/- THE CELL 'sum', in the pinned program and in every row, IS THE sha256 OF THE DUMP (.gsa) THAT YtlmbpfgiadbjaaaProg.lean LOADS. Nothing in Lean hashes anything: it is a label: what it is worth is what the hold of that sum in a sandbox is worth. -/
noncomputable def Try.pinned : Pinned := { name := "ytlmbpfgiadbjaaa", sum := "2c45fd6957df37dcfb71f99947cb4b66970fdef4f24dc33b56f3009d53ca6549", checked := Try.checked }
namespace Rows
def none {H : Type} : Left H := { results := [], args := [] }

/-- 'annuletlaw05.DiskPlays': WHATEVER THE INPUT: true; the input reads as it did. -/
def diskPlaysSpec : ChangeSpec := { name := "diskPlays", fn := fun _ => fun
  | [d1, d2] => { results := [.lit (.bool true)], args := [d1, d2] }
  | _ => none }
def diskPlaysRow : OpenClaim := { program := "ytlmbpfgiadbjaaa", sum := "2c45fd6957df37dcfb71f99947cb4b66970fdef4f24dc33b56f3009d53ca6549", func := "annulet/annuletlaw05.DiskPlays", spec := "diskPlays", apart := false }
def DiskPlaysSaid : Prop := diskPlaysRow.holds Try.pinned (OpenSpec.ofChange diskPlaysSpec)

/-- ITS FALSE NEIGHBOUR: 'it returns false'. Refute it at one input. -/
def diskPlaysWrong : ChangeSpec := { name := "diskPlays", fn := fun _ => fun
  | [d1, d2] => { results := [.lit (.bool false)], args := [d1, d2] }
  | _ => none }
def DiskPlaysWrongFalsely : Prop := diskPlaysRow.holds Try.pinned (OpenSpec.ofChange diskPlaysWrong)

/-- 'annuletlaw05.DiskStops': WHATEVER THE INPUT: true; the input reads as it did. -/
def diskStopsSpec : ChangeSpec := { name := "diskStops", fn := fun _ => fun
  | [d1, d2, d3] => { results := [.lit (.bool true)], args := [d1, d2, d3] }
  | _ => none }
def diskStopsRow : OpenClaim := { program := "ytlmbpfgiadbjaaa", sum := "2c45fd6957df37dcfb71f99947cb4b66970fdef4f24dc33b56f3009d53ca6549", func := "annulet/annuletlaw05.DiskStops", spec := "diskStops", apart := false }
def DiskStopsSaid : Prop := diskStopsRow.holds Try.pinned (OpenSpec.ofChange diskStopsSpec)

/-- ITS FALSE NEIGHBOUR: 'it returns false'. Refute it at one input. -/
def diskStopsWrong : ChangeSpec := { name := "diskStops", fn := fun _ => fun
  | [d1, d2, d3] => { results := [.lit (.bool false)], args := [d1, d2, d3] }
  | _ => none }
def DiskStopsWrongFalsely : Prop := diskStopsRow.holds Try.pinned (OpenSpec.ofChange diskStopsWrong)

/-- 'annuletlaw05.DiskNil': WHATEVER THE INPUT: true; the input reads as it did. -/
def diskNilSpec : ChangeSpec := { name := "diskNil", fn := fun _ => fun
  | [d1, d2] => { results := [.lit (.bool true)], args := [d1, d2] }
  | _ => none }
def diskNilRow : OpenClaim := { program := "ytlmbpfgiadbjaaa", sum := "2c45fd6957df37dcfb71f99947cb4b66970fdef4f24dc33b56f3009d53ca6549", func := "annulet/annuletlaw05.DiskNil", spec := "diskNil", apart := false }
def DiskNilSaid : Prop := diskNilRow.holds Try.pinned (OpenSpec.ofChange diskNilSpec)

/-- ITS FALSE NEIGHBOUR: 'it returns false'. Refute it at one input. -/
def diskNilWrong : ChangeSpec := { name := "diskNil", fn := fun _ => fun
  | [d1, d2] => { results := [.lit (.bool false)], args := [d1, d2] }
  | _ => none }
def DiskNilWrongFalsely : Prop := diskNilRow.holds Try.pinned (OpenSpec.ofChange diskNilWrong)

/-- 'annuletlaw05.DiskOf': WHATEVER THE INPUT: true; the input reads as it did. -/
def diskOfSpec : ChangeSpec := { name := "diskOf", fn := fun _ => fun
  | [d] => { results := [.lit (.bool true)], args := [d] }
  | _ => none }
def diskOfRow : OpenClaim := { program := "ytlmbpfgiadbjaaa", sum := "2c45fd6957df37dcfb71f99947cb4b66970fdef4f24dc33b56f3009d53ca6549", func := "annulet/annuletlaw05.DiskOf", spec := "diskOf", apart := false }
def DiskOfSaid : Prop := diskOfRow.holds Try.pinned (OpenSpec.ofChange diskOfSpec)

/-- ITS FALSE NEIGHBOUR: 'it returns false'. Refute it at one input. -/
def diskOfWrong : ChangeSpec := { name := "diskOf", fn := fun _ => fun
  | [d] => { results := [.lit (.bool false)], args := [d] }
  | _ => none }
def DiskOfWrongFalsely : Prop := diskOfRow.holds Try.pinned (OpenSpec.ofChange diskOfWrong)

/-- 'annuletlaw05.DiskApart': WHATEVER THE INPUT: true; the input reads as it did. -/
def diskApartSpec : ChangeSpec := { name := "diskApart", fn := fun _ => fun
  | [d1, d2, d3] => { results := [.lit (.bool true)], args := [d1, d2, d3] }
  | _ => none }
def diskApartRow : OpenClaim := { program := "ytlmbpfgiadbjaaa", sum := "2c45fd6957df37dcfb71f99947cb4b66970fdef4f24dc33b56f3009d53ca6549", func := "annulet/annuletlaw05.DiskApart", spec := "diskApart", apart := false }
def DiskApartSaid : Prop := diskApartRow.holds Try.pinned (OpenSpec.ofChange diskApartSpec)

/-- ITS FALSE NEIGHBOUR: 'it returns false'. Refute it at one input. -/
def diskApartWrong : ChangeSpec := { name := "diskApart", fn := fun _ => fun
  | [d1, d2, d3] => { results := [.lit (.bool false)], args := [d1, d2, d3] }
  | _ => none }
def DiskApartWrongFalsely : Prop := diskApartRow.holds Try.pinned (OpenSpec.ofChange diskApartWrong)

/-- 'annuletlaw06.SlateTwice': WHATEVER THE INPUT: true; the input reads as it did. -/
def slateTwiceSpec : ChangeSpec := { name := "slateTwice", fn := fun _ => fun
  | [d] => { results := [.lit (.bool true)], args := [d] }
  | _ => none }
def slateTwiceRow : OpenClaim := { program := "ytlmbpfgiadbjaaa", sum := "2c45fd6957df37dcfb71f99947cb4b66970fdef4f24dc33b56f3009d53ca6549", func := "annulet/annuletlaw06.SlateTwice", spec := "slateTwice", apart := false }
def SlateTwiceSaid : Prop := slateTwiceRow.holds Try.pinned (OpenSpec.ofChange slateTwiceSpec)

/-- ITS FALSE NEIGHBOUR: 'it returns false'. Refute it at one input. -/
def slateTwiceWrong : ChangeSpec := { name := "slateTwice", fn := fun _ => fun
  | [d] => { results := [.lit (.bool false)], args := [d] }
  | _ => none }
def SlateTwiceWrongFalsely : Prop := slateTwiceRow.holds Try.pinned (OpenSpec.ofChange slateTwiceWrong)

/-- 'annuletlaw06.SlateNil': WHATEVER THE INPUT: true; the input reads as it did. -/
def slateNilSpec : ChangeSpec := { name := "slateNil", fn := fun _ => fun
  | [d1, d2] => { results := [.lit (.bool true)], args := [d1, d2] }
  | _ => none }
def slateNilRow : OpenClaim := { program := "ytlmbpfgiadbjaaa", sum := "2c45fd6957df37dcfb71f99947cb4b66970fdef4f24dc33b56f3009d53ca6549", func := "annulet/annuletlaw06.SlateNil", spec := "slateNil", apart := false }
def SlateNilSaid : Prop := slateNilRow.holds Try.pinned (OpenSpec.ofChange slateNilSpec)

/-- ITS FALSE NEIGHBOUR: 'it returns false'. Refute it at one input. -/
def slateNilWrong : ChangeSpec := { name := "slateNil", fn := fun _ => fun
  | [d1, d2] => { results := [.lit (.bool false)], args := [d1, d2] }
  | _ => none }
def SlateNilWrongFalsely : Prop := slateNilRow.holds Try.pinned (OpenSpec.ofChange slateNilWrong)

/-- 'annuletlaw06.SlateKeeps': WHATEVER THE INPUT: true; the input reads as it did. -/
def slateKeepsSpec : ChangeSpec := { name := "slateKeeps", fn := fun _ => fun
  | [d1, d2] => { results := [.lit (.bool true)], args := [d1, d2] }
  | _ => none }
def slateKeepsRow : OpenClaim := { program := "ytlmbpfgiadbjaaa", sum := "2c45fd6957df37dcfb71f99947cb4b66970fdef4f24dc33b56f3009d53ca6549", func := "annulet/annuletlaw06.SlateKeeps", spec := "slateKeeps", apart := false }
def SlateKeepsSaid : Prop := slateKeepsRow.holds Try.pinned (OpenSpec.ofChange slateKeepsSpec)

/-- ITS FALSE NEIGHBOUR: 'it returns false'. Refute it at one input. -/
def slateKeepsWrong : ChangeSpec := { name := "slateKeeps", fn := fun _ => fun
  | [d1, d2] => { results := [.lit (.bool false)], args := [d1, d2] }
  | _ => none }
def SlateKeepsWrongFalsely : Prop := slateKeepsRow.holds Try.pinned (OpenSpec.ofChange slateKeepsWrong)

/-- 'annuletlaw06.SlateGoes': WHATEVER THE INPUT: true; the input reads as it did. -/
def slateGoesSpec : ChangeSpec := { name := "slateGoes", fn := fun _ => fun
  | [d1, d2] => { results := [.lit (.bool true)], args := [d1, d2] }
  | _ => none }
def slateGoesRow : OpenClaim := { program := "ytlmbpfgiadbjaaa", sum := "2c45fd6957df37dcfb71f99947cb4b66970fdef4f24dc33b56f3009d53ca6549", func := "annulet/annuletlaw06.SlateGoes", spec := "slateGoes", apart := false }
def SlateGoesSaid : Prop := slateGoesRow.holds Try.pinned (OpenSpec.ofChange slateGoesSpec)

/-- ITS FALSE NEIGHBOUR: 'it returns false'. Refute it at one input. -/
def slateGoesWrong : ChangeSpec := { name := "slateGoes", fn := fun _ => fun
  | [d1, d2] => { results := [.lit (.bool false)], args := [d1, d2] }
  | _ => none }
def SlateGoesWrongFalsely : Prop := slateGoesRow.holds Try.pinned (OpenSpec.ofChange slateGoesWrong)

/-- 'annuletlaw06.SlateOpens': WHATEVER THE INPUT: true; the input reads as it did. -/
def slateOpensSpec : ChangeSpec := { name := "slateOpens", fn := fun _ => fun
  | [d] => { results := [.lit (.bool true)], args := [d] }
  | _ => none }
def slateOpensRow : OpenClaim := { program := "ytlmbpfgiadbjaaa", sum := "2c45fd6957df37dcfb71f99947cb4b66970fdef4f24dc33b56f3009d53ca6549", func := "annulet/annuletlaw06.SlateOpens", spec := "slateOpens", apart := false }
def SlateOpensSaid : Prop := slateOpensRow.holds Try.pinned (OpenSpec.ofChange slateOpensSpec)

/-- ITS FALSE NEIGHBOUR: 'it returns false'. Refute it at one input. -/
def slateOpensWrong : ChangeSpec := { name := "slateOpens", fn := fun _ => fun
  | [d] => { results := [.lit (.bool false)], args := [d] }
  | _ => none }
def SlateOpensWrongFalsely : Prop := slateOpensRow.holds Try.pinned (OpenSpec.ofChange slateOpensWrong)

/-- 'annuletlaw06.SlatePlays': WHATEVER THE INPUT: true; the input reads as it did. -/
def slatePlaysSpec : ChangeSpec := { name := "slatePlays", fn := fun _ => fun
  | [d1, d2] => { results := [.lit (.bool true)], args := [d1, d2] }
  | _ => none }
def slatePlaysRow : OpenClaim := { program := "ytlmbpfgiadbjaaa", sum := "2c45fd6957df37dcfb71f99947cb4b66970fdef4f24dc33b56f3009d53ca6549", func := "annulet/annuletlaw06.SlatePlays", spec := "slatePlays", apart := false }
def SlatePlaysSaid : Prop := slatePlaysRow.holds Try.pinned (OpenSpec.ofChange slatePlaysSpec)

/-- ITS FALSE NEIGHBOUR: 'it returns false'. Refute it at one input. -/
def slatePlaysWrong : ChangeSpec := { name := "slatePlays", fn := fun _ => fun
  | [d1, d2] => { results := [.lit (.bool false)], args := [d1, d2] }
  | _ => none }
def SlatePlaysWrongFalsely : Prop := slatePlaysRow.holds Try.pinned (OpenSpec.ofChange slatePlaysWrong)

/- THE SECOND FORM. 'bulk': how many values and letters a reading holds, each counted each time it is reached (what is shared counts as often as it is met; a slice's spare places count too). A statement '..UptoSaid' is the law's where the arguments, and the package variables that the reading takes, are together of bulk at most 1048576: NARROWER than '..Said'. Prove '..Said' where nothing that the law and all that it calls make is longer than what came in: it says more and counts as full. Else prove '..UptoSaid'. A law counts once. -/
mutual
def uptoBulk {H : Type} : DataW H → Nat
  | .lit (.string bytes) => bytes.length + 1
  | .lit _ => 1
  | .nil => 1
  | .ptr d => uptoBulk d + 1
  | .slice elems spare => uptoBulkAll elems + uptoBulkAll spare + 1
  | .agg parts => uptoBulkAll parts + 1
  | .iface _ d => uptoBulk d + 1
  | .map entries => uptoBulkEntries entries + 1
  | .held _ => 1
def uptoBulkAll {H : Type} : List (DataW H) → Nat
  | [] => 0
  | d :: r => uptoBulk d + uptoBulkAll r
def uptoBulkEntries {H : Type} : List (Lit × DataW H) → Nat
  | [] => 0
  | x :: r => uptoBulkEntry x + uptoBulkEntries r
def uptoBulkEntry {H : Type} : Lit × DataW H → Nat
  | (.string bytes, d) => bytes.length + uptoBulk d + 1
  | (_, d) => uptoBulk d + 1
 end
def uptoSmall : (H : Type) → List (DataW H) → Bool := fun _ ds => decide (uptoBulkAll ds ≤ 1048576)
def OpenSpec.upto (s : _root_.Go.ChangeSpec) : _root_.Go.OpenSpec := { _root_.Go.OpenSpec.ofChange s with cond := some uptoSmall }

/-- 'annuletlaw05.DiskPlays', WHERE WHAT IT READS IS OF BULK AT MOST 1048576: true; the input reads as it did. -/
def diskPlaysUptoRow : OpenClaim := { program := "ytlmbpfgiadbjaaa", sum := "2c45fd6957df37dcfb71f99947cb4b66970fdef4f24dc33b56f3009d53ca6549", func := "annulet/annuletlaw05.DiskPlays", spec := "diskPlays", apart := false, narrowed := true }
def DiskPlaysUptoSaid : Prop := diskPlaysUptoRow.holds Try.pinned (OpenSpec.upto diskPlaysSpec)

/-- 'annuletlaw05.DiskStops', WHERE WHAT IT READS IS OF BULK AT MOST 1048576: true; the input reads as it did. -/
def diskStopsUptoRow : OpenClaim := { program := "ytlmbpfgiadbjaaa", sum := "2c45fd6957df37dcfb71f99947cb4b66970fdef4f24dc33b56f3009d53ca6549", func := "annulet/annuletlaw05.DiskStops", spec := "diskStops", apart := false, narrowed := true }
def DiskStopsUptoSaid : Prop := diskStopsUptoRow.holds Try.pinned (OpenSpec.upto diskStopsSpec)

/-- 'annuletlaw05.DiskNil', WHERE WHAT IT READS IS OF BULK AT MOST 1048576: true; the input reads as it did. -/
def diskNilUptoRow : OpenClaim := { program := "ytlmbpfgiadbjaaa", sum := "2c45fd6957df37dcfb71f99947cb4b66970fdef4f24dc33b56f3009d53ca6549", func := "annulet/annuletlaw05.DiskNil", spec := "diskNil", apart := false, narrowed := true }
def DiskNilUptoSaid : Prop := diskNilUptoRow.holds Try.pinned (OpenSpec.upto diskNilSpec)

/-- 'annuletlaw05.DiskOf', WHERE WHAT IT READS IS OF BULK AT MOST 1048576: true; the input reads as it did. -/
def diskOfUptoRow : OpenClaim := { program := "ytlmbpfgiadbjaaa", sum := "2c45fd6957df37dcfb71f99947cb4b66970fdef4f24dc33b56f3009d53ca6549", func := "annulet/annuletlaw05.DiskOf", spec := "diskOf", apart := false, narrowed := true }
def DiskOfUptoSaid : Prop := diskOfUptoRow.holds Try.pinned (OpenSpec.upto diskOfSpec)

/-- 'annuletlaw05.DiskApart', WHERE WHAT IT READS IS OF BULK AT MOST 1048576: true; the input reads as it did. -/
def diskApartUptoRow : OpenClaim := { program := "ytlmbpfgiadbjaaa", sum := "2c45fd6957df37dcfb71f99947cb4b66970fdef4f24dc33b56f3009d53ca6549", func := "annulet/annuletlaw05.DiskApart", spec := "diskApart", apart := false, narrowed := true }
def DiskApartUptoSaid : Prop := diskApartUptoRow.holds Try.pinned (OpenSpec.upto diskApartSpec)

/-- 'annuletlaw06.SlateTwice', WHERE WHAT IT READS IS OF BULK AT MOST 1048576: true; the input reads as it did. -/
def slateTwiceUptoRow : OpenClaim := { program := "ytlmbpfgiadbjaaa", sum := "2c45fd6957df37dcfb71f99947cb4b66970fdef4f24dc33b56f3009d53ca6549", func := "annulet/annuletlaw06.SlateTwice", spec := "slateTwice", apart := false, narrowed := true }
def SlateTwiceUptoSaid : Prop := slateTwiceUptoRow.holds Try.pinned (OpenSpec.upto slateTwiceSpec)

/-- 'annuletlaw06.SlateNil', WHERE WHAT IT READS IS OF BULK AT MOST 1048576: true; the input reads as it did. -/
def slateNilUptoRow : OpenClaim := { program := "ytlmbpfgiadbjaaa", sum := "2c45fd6957df37dcfb71f99947cb4b66970fdef4f24dc33b56f3009d53ca6549", func := "annulet/annuletlaw06.SlateNil", spec := "slateNil", apart := false, narrowed := true }
def SlateNilUptoSaid : Prop := slateNilUptoRow.holds Try.pinned (OpenSpec.upto slateNilSpec)

/-- 'annuletlaw06.SlateKeeps', WHERE WHAT IT READS IS OF BULK AT MOST 1048576: true; the input reads as it did. -/
def slateKeepsUptoRow : OpenClaim := { program := "ytlmbpfgiadbjaaa", sum := "2c45fd6957df37dcfb71f99947cb4b66970fdef4f24dc33b56f3009d53ca6549", func := "annulet/annuletlaw06.SlateKeeps", spec := "slateKeeps", apart := false, narrowed := true }
def SlateKeepsUptoSaid : Prop := slateKeepsUptoRow.holds Try.pinned (OpenSpec.upto slateKeepsSpec)

/-- 'annuletlaw06.SlateGoes', WHERE WHAT IT READS IS OF BULK AT MOST 1048576: true; the input reads as it did. -/
def slateGoesUptoRow : OpenClaim := { program := "ytlmbpfgiadbjaaa", sum := "2c45fd6957df37dcfb71f99947cb4b66970fdef4f24dc33b56f3009d53ca6549", func := "annulet/annuletlaw06.SlateGoes", spec := "slateGoes", apart := false, narrowed := true }
def SlateGoesUptoSaid : Prop := slateGoesUptoRow.holds Try.pinned (OpenSpec.upto slateGoesSpec)

/-- 'annuletlaw06.SlateOpens', WHERE WHAT IT READS IS OF BULK AT MOST 1048576: true; the input reads as it did. -/
def slateOpensUptoRow : OpenClaim := { program := "ytlmbpfgiadbjaaa", sum := "2c45fd6957df37dcfb71f99947cb4b66970fdef4f24dc33b56f3009d53ca6549", func := "annulet/annuletlaw06.SlateOpens", spec := "slateOpens", apart := false, narrowed := true }
def SlateOpensUptoSaid : Prop := slateOpensUptoRow.holds Try.pinned (OpenSpec.upto slateOpensSpec)

/-- 'annuletlaw06.SlatePlays', WHERE WHAT IT READS IS OF BULK AT MOST 1048576: true; the input reads as it did. -/
def slatePlaysUptoRow : OpenClaim := { program := "ytlmbpfgiadbjaaa", sum := "2c45fd6957df37dcfb71f99947cb4b66970fdef4f24dc33b56f3009d53ca6549", func := "annulet/annuletlaw06.SlatePlays", spec := "slatePlays", apart := false, narrowed := true }
def SlatePlaysUptoSaid : Prop := slatePlaysUptoRow.holds Try.pinned (OpenSpec.upto slatePlaysSpec)

end Rows
end Go.Proofs.Ytlmbpfgiadbjaaa
