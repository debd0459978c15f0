/-
  No cell of these rows narrows 'for every input' (looked for: loops, veiled, ifaces, maps, wideKeys, modest, calm, conditions, laid).
  DERIVED. THE GIVEN ROWS OF THIS SEAT. 7 by the template 'for every input the law returns true; each argument reads behind the call as it read before'; 0 by the template 'total and deterministic' (their statements: YtoaenmlhehcjfaaTotals.lean).
  GIVEN WITH THE SEED: the statements are not yours to turn. If you find one false, say at which input.
  Laid BY PROGRAM, IN A SANDBOX (cutbox-rows.mjs): the forced cells as the released guide's own fill.sh prints them over the translation c9e5a14bb372467d… (all of the seat's roots in one cut). By AI agents, Wed Nov 11 2026. No macro, syntax, notation, axiom, sorry.
-/
import Derived.Test.YtoaenmlhehcjfaaChecked
import GoSem.Claim
import GoSem.ClaimJoined
import GoSem.ClaimMapViews
import Derived.JoinedTies
import Derived.KernelRfl
namespace Go.Proofs.Ytoaenmlhehcjfaa
/- THE CELL 'sum', in the pinned program and in every row, IS THE sha256 OF THE DUMP (.gsa) THAT YtoaenmlhehcjfaaProg.lean LOADS. Nothing in Lean hashes anything: it is a label: what it is worth is what the hold of that sum in a sandbox is worth. -/
noncomputable def Try.pinned : Pinned := { name := "ytoaenmlhehcjfaa", sum := "c9e5a14bb372467dc287667cdcdc75f9c15a1cf78e143ded4fad6eed5afbcc77", checked := Try.checked }
namespace Rows
def none {H : Type} : Left H := { results := [], args := [] }

/-- 'annuletlaw18.VaultForms': WHATEVER THE INPUT: true; the input reads as it did. -/
def vaultFormsSpec : ChangeSpec := { name := "vaultForms", fn := fun _ => fun
  | [d1, d2, d3] => { results := [.lit (.bool true)], args := [d1, d2, d3] }
  | _ => none }
def vaultFormsRow : OpenClaim := { program := "ytoaenmlhehcjfaa", sum := "c9e5a14bb372467dc287667cdcdc75f9c15a1cf78e143ded4fad6eed5afbcc77", func := "annulet/annuletlaw18.VaultForms", spec := "vaultForms", inPlace := ["internal/bytealg.Compare"], plainKeys := false, apart := false }
def VaultFormsSaid : Prop := vaultFormsRow.holds Try.pinned (OpenSpec.ofChange vaultFormsSpec)

/-- ITS FALSE NEIGHBOUR: 'it returns false'. Refute it at one input. -/
def vaultFormsWrong : ChangeSpec := { name := "vaultForms", fn := fun _ => fun
  | [d1, d2, d3] => { results := [.lit (.bool false)], args := [d1, d2, d3] }
  | _ => none }
def VaultFormsWrongFalsely : Prop := vaultFormsRow.holds Try.pinned (OpenSpec.ofChange vaultFormsWrong)

/-- 'annuletlaw18.VaultBegins': WHATEVER THE INPUT: true; the input reads as it did. -/
def vaultBeginsSpec : ChangeSpec := { name := "vaultBegins", fn := fun _ => fun
  | [d] => { results := [.lit (.bool true)], args := [d] }
  | _ => none }
def vaultBeginsRow : OpenClaim := { program := "ytoaenmlhehcjfaa", sum := "c9e5a14bb372467dc287667cdcdc75f9c15a1cf78e143ded4fad6eed5afbcc77", func := "annulet/annuletlaw18.VaultBegins", spec := "vaultBegins", inPlace := ["internal/bytealg.Compare"], plainKeys := false, apart := false }
def VaultBeginsSaid : Prop := vaultBeginsRow.holds Try.pinned (OpenSpec.ofChange vaultBeginsSpec)

/-- ITS FALSE NEIGHBOUR: 'it returns false'. Refute it at one input. -/
def vaultBeginsWrong : ChangeSpec := { name := "vaultBegins", fn := fun _ => fun
  | [d] => { results := [.lit (.bool false)], args := [d] }
  | _ => none }
def VaultBeginsWrongFalsely : Prop := vaultBeginsRow.holds Try.pinned (OpenSpec.ofChange vaultBeginsWrong)

/-- 'annuletlaw18.VaultNewest': WHATEVER THE INPUT: true; the input reads as it did. -/
def vaultNewestSpec : ChangeSpec := { name := "vaultNewest", fn := fun _ => fun
  | [d] => { results := [.lit (.bool true)], args := [d] }
  | _ => none }
def vaultNewestRow : OpenClaim := { program := "ytoaenmlhehcjfaa", sum := "c9e5a14bb372467dc287667cdcdc75f9c15a1cf78e143ded4fad6eed5afbcc77", func := "annulet/annuletlaw18.VaultNewest", spec := "vaultNewest", inPlace := ["internal/bytealg.Compare"], unfollowed := true, recurses := true, plainKeys := false, apart := false }
def VaultNewestSaid : Prop := vaultNewestRow.holds Try.pinned (OpenSpec.ofChange vaultNewestSpec)

/-- ITS FALSE NEIGHBOUR: 'it returns false'. Refute it at one input. -/
def vaultNewestWrong : ChangeSpec := { name := "vaultNewest", fn := fun _ => fun
  | [d] => { results := [.lit (.bool false)], args := [d] }
  | _ => none }
def VaultNewestWrongFalsely : Prop := vaultNewestRow.holds Try.pinned (OpenSpec.ofChange vaultNewestWrong)

/-- 'annuletlaw18.VaultNil': WHATEVER THE INPUT: true; the input reads as it did. -/
def vaultNilSpec : ChangeSpec := { name := "vaultNil", fn := fun _ => fun
  | [d] => { results := [.lit (.bool true)], args := [d] }
  | _ => none }
def vaultNilRow : OpenClaim := { program := "ytoaenmlhehcjfaa", sum := "c9e5a14bb372467dc287667cdcdc75f9c15a1cf78e143ded4fad6eed5afbcc77", func := "annulet/annuletlaw18.VaultNil", spec := "vaultNil", inPlace := ["internal/bytealg.Compare"], unfollowed := true, recurses := true, plainKeys := false, apart := false }
def VaultNilSaid : Prop := vaultNilRow.holds Try.pinned (OpenSpec.ofChange vaultNilSpec)

/-- ITS FALSE NEIGHBOUR: 'it returns false'. Refute it at one input. -/
def vaultNilWrong : ChangeSpec := { name := "vaultNil", fn := fun _ => fun
  | [d] => { results := [.lit (.bool false)], args := [d] }
  | _ => none }
def VaultNilWrongFalsely : Prop := vaultNilRow.holds Try.pinned (OpenSpec.ofChange vaultNilWrong)

/-- 'annuletlaw18.VaultKeeps': WHATEVER THE INPUT: true; the input reads as it did. -/
def vaultKeepsSpec : ChangeSpec := { name := "vaultKeeps", fn := fun _ => fun
  | [d1, d2] => { results := [.lit (.bool true)], args := [d1, d2] }
  | _ => none }
def vaultKeepsRow : OpenClaim := { program := "ytoaenmlhehcjfaa", sum := "c9e5a14bb372467dc287667cdcdc75f9c15a1cf78e143ded4fad6eed5afbcc77", func := "annulet/annuletlaw18.VaultKeeps", spec := "vaultKeeps", inPlace := ["internal/bytealg.Compare"], unfollowed := true, recurses := true, plainKeys := false, apart := false }
def VaultKeepsSaid : Prop := vaultKeepsRow.holds Try.pinned (OpenSpec.ofChange vaultKeepsSpec)

/-- ITS FALSE NEIGHBOUR: 'it returns false'. Refute it at one input. -/
def vaultKeepsWrong : ChangeSpec := { name := "vaultKeeps", fn := fun _ => fun
  | [d1, d2] => { results := [.lit (.bool false)], args := [d1, d2] }
  | _ => none }
def VaultKeepsWrongFalsely : Prop := vaultKeepsRow.holds Try.pinned (OpenSpec.ofChange vaultKeepsWrong)

/-- 'annuletlaw18.VaultOpens': WHATEVER THE INPUT: true; the input reads as it did. -/
def vaultOpensSpec : ChangeSpec := { name := "vaultOpens", fn := fun _ => fun
  | [d] => { results := [.lit (.bool true)], args := [d] }
  | _ => none }
def vaultOpensRow : OpenClaim := { program := "ytoaenmlhehcjfaa", sum := "c9e5a14bb372467dc287667cdcdc75f9c15a1cf78e143ded4fad6eed5afbcc77", func := "annulet/annuletlaw18.VaultOpens", spec := "vaultOpens", inPlace := ["internal/bytealg.Compare"], unfollowed := true, recurses := true, plainKeys := false, apart := false }
def VaultOpensSaid : Prop := vaultOpensRow.holds Try.pinned (OpenSpec.ofChange vaultOpensSpec)

/-- ITS FALSE NEIGHBOUR: 'it returns false'. Refute it at one input. -/
def vaultOpensWrong : ChangeSpec := { name := "vaultOpens", fn := fun _ => fun
  | [d] => { results := [.lit (.bool false)], args := [d] }
  | _ => none }
def VaultOpensWrongFalsely : Prop := vaultOpensRow.holds Try.pinned (OpenSpec.ofChange vaultOpensWrong)

/-- 'annuletlaw18.VaultPlays': WHATEVER THE INPUT: true; the input reads as it did. -/
def vaultPlaysSpec : ChangeSpec := { name := "vaultPlays", fn := fun _ => fun
  | [d1, d2] => { results := [.lit (.bool true)], args := [d1, d2] }
  | _ => none }
def vaultPlaysRow : OpenClaim := { program := "ytoaenmlhehcjfaa", sum := "c9e5a14bb372467dc287667cdcdc75f9c15a1cf78e143ded4fad6eed5afbcc77", func := "annulet/annuletlaw18.VaultPlays", spec := "vaultPlays", inPlace := ["internal/bytealg.Compare"], unfollowed := true, recurses := true, plainKeys := false, apart := false }
def VaultPlaysSaid : Prop := vaultPlaysRow.holds Try.pinned (OpenSpec.ofChange vaultPlaysSpec)

/-- ITS FALSE NEIGHBOUR: 'it returns false'. Refute it at one input. -/
def vaultPlaysWrong : ChangeSpec := { name := "vaultPlays", fn := fun _ => fun
  | [d1, d2] => { results := [.lit (.bool false)], args := [d1, d2] }
  | _ => none }
def VaultPlaysWrongFalsely : Prop := vaultPlaysRow.holds Try.pinned (OpenSpec.ofChange vaultPlaysWrong)

/- THE SECOND FORM. 'bulk': how many values and letters a reading holds, each counted each time it is reached (what is shared counts as often as it is met; a slice's spare places count too). A statement '..UptoSaid' is the law's where the arguments, and the package variables that the reading takes, are together of bulk at most 1048576: NARROWER than '..Said'. Prove '..Said' where nothing that the law and all that it calls make is longer than what came in: it says more and counts as full. Else prove '..UptoSaid'. A law counts once. -/
mutual
def uptoBulk {H : Type} : DataW H → Nat
  | .lit (.string bytes) => bytes.length + 1
  | .lit _ => 1
  | .nil => 1
  | .ptr d => uptoBulk d + 1
  | .slice elems spare => uptoBulkAll elems + uptoBulkAll spare + 1
  | .agg parts => uptoBulkAll parts + 1
  | .iface _ d => uptoBulk d + 1
  | .map entries => uptoBulkEntries entries + 1
  | .held _ => 1
def uptoBulkAll {H : Type} : List (DataW H) → Nat
  | [] => 0
  | d :: r => uptoBulk d + uptoBulkAll r
def uptoBulkEntries {H : Type} : List (Lit × DataW H) → Nat
  | [] => 0
  | x :: r => uptoBulkEntry x + uptoBulkEntries r
def uptoBulkEntry {H : Type} : Lit × DataW H → Nat
  | (.string bytes, d) => bytes.length + uptoBulk d + 1
  | (_, d) => uptoBulk d + 1
 end
def uptoSmall : (H : Type) → List (DataW H) → Bool := fun _ ds => decide (uptoBulkAll ds ≤ 1048576)
def OpenSpec.upto (s : _root_.Go.ChangeSpec) : _root_.Go.OpenSpec := { _root_.Go.OpenSpec.ofChange s with cond := some uptoSmall }

/-- 'annuletlaw18.VaultForms', WHERE WHAT IT READS IS OF BULK AT MOST 1048576: true; the input reads as it did. -/
def vaultFormsUptoRow : OpenClaim := { program := "ytoaenmlhehcjfaa", sum := "c9e5a14bb372467dc287667cdcdc75f9c15a1cf78e143ded4fad6eed5afbcc77", func := "annulet/annuletlaw18.VaultForms", spec := "vaultForms", inPlace := ["internal/bytealg.Compare"], plainKeys := false, apart := false, narrowed := true }
def VaultFormsUptoSaid : Prop := vaultFormsUptoRow.holds Try.pinned (OpenSpec.upto vaultFormsSpec)

/-- 'annuletlaw18.VaultBegins', WHERE WHAT IT READS IS OF BULK AT MOST 1048576: true; the input reads as it did. -/
def vaultBeginsUptoRow : OpenClaim := { program := "ytoaenmlhehcjfaa", sum := "c9e5a14bb372467dc287667cdcdc75f9c15a1cf78e143ded4fad6eed5afbcc77", func := "annulet/annuletlaw18.VaultBegins", spec := "vaultBegins", inPlace := ["internal/bytealg.Compare"], plainKeys := false, apart := false, narrowed := true }
def VaultBeginsUptoSaid : Prop := vaultBeginsUptoRow.holds Try.pinned (OpenSpec.upto vaultBeginsSpec)

/-- 'annuletlaw18.VaultNewest', WHERE WHAT IT READS IS OF BULK AT MOST 1048576: true; the input reads as it did. -/
def vaultNewestUptoRow : OpenClaim := { program := "ytoaenmlhehcjfaa", sum := "c9e5a14bb372467dc287667cdcdc75f9c15a1cf78e143ded4fad6eed5afbcc77", func := "annulet/annuletlaw18.VaultNewest", spec := "vaultNewest", inPlace := ["internal/bytealg.Compare"], unfollowed := true, recurses := true, plainKeys := false, apart := false, narrowed := true }
def VaultNewestUptoSaid : Prop := vaultNewestUptoRow.holds Try.pinned (OpenSpec.upto vaultNewestSpec)

/-- 'annuletlaw18.VaultNil', WHERE WHAT IT READS IS OF BULK AT MOST 1048576: true; the input reads as it did. -/
def vaultNilUptoRow : OpenClaim := { program := "ytoaenmlhehcjfaa", sum := "c9e5a14bb372467dc287667cdcdc75f9c15a1cf78e143ded4fad6eed5afbcc77", func := "annulet/annuletlaw18.VaultNil", spec := "vaultNil", inPlace := ["internal/bytealg.Compare"], unfollowed := true, recurses := true, plainKeys := false, apart := false, narrowed := true }
def VaultNilUptoSaid : Prop := vaultNilUptoRow.holds Try.pinned (OpenSpec.upto vaultNilSpec)

/-- 'annuletlaw18.VaultKeeps', WHERE WHAT IT READS IS OF BULK AT MOST 1048576: true; the input reads as it did. -/
def vaultKeepsUptoRow : OpenClaim := { program := "ytoaenmlhehcjfaa", sum := "c9e5a14bb372467dc287667cdcdc75f9c15a1cf78e143ded4fad6eed5afbcc77", func := "annulet/annuletlaw18.VaultKeeps", spec := "vaultKeeps", inPlace := ["internal/bytealg.Compare"], unfollowed := true, recurses := true, plainKeys := false, apart := false, narrowed := true }
def VaultKeepsUptoSaid : Prop := vaultKeepsUptoRow.holds Try.pinned (OpenSpec.upto vaultKeepsSpec)

/-- 'annuletlaw18.VaultOpens', WHERE WHAT IT READS IS OF BULK AT MOST 1048576: true; the input reads as it did. -/
def vaultOpensUptoRow : OpenClaim := { program := "ytoaenmlhehcjfaa", sum := "c9e5a14bb372467dc287667cdcdc75f9c15a1cf78e143ded4fad6eed5afbcc77", func := "annulet/annuletlaw18.VaultOpens", spec := "vaultOpens", inPlace := ["internal/bytealg.Compare"], unfollowed := true, recurses := true, plainKeys := false, apart := false, narrowed := true }
def VaultOpensUptoSaid : Prop := vaultOpensUptoRow.holds Try.pinned (OpenSpec.upto vaultOpensSpec)

/-- 'annuletlaw18.VaultPlays', WHERE WHAT IT READS IS OF BULK AT MOST 1048576: true; the input reads as it did. -/
def vaultPlaysUptoRow : OpenClaim := { program := "ytoaenmlhehcjfaa", sum := "c9e5a14bb372467dc287667cdcdc75f9c15a1cf78e143ded4fad6eed5afbcc77", func := "annulet/annuletlaw18.VaultPlays", spec := "vaultPlays", inPlace := ["internal/bytealg.Compare"], unfollowed := true, recurses := true, plainKeys := false, apart := false, narrowed := true }
def VaultPlaysUptoSaid : Prop := vaultPlaysUptoRow.holds Try.pinned (OpenSpec.upto vaultPlaysSpec)

end Rows
end Go.Proofs.Ytoaenmlhehcjfaa
