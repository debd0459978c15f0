/-
  Closed facts of this program on identities, paths and entries.
-/
import Derived.Test.YtohldionclgljaaTy
import Derived.Test.YtohldionclgljaaMa
namespace Go.Proofs.Ytohldionclgljaa
namespace Ty
open Go.J Go.RowKit
set_option linter.unusedVariables false
set_option linter.unusedSimpArgs false
theorem size_ : Try.prog.types.size + 1 = 199 + 4 := by kernel_rfl
theorem c23 : Try.prog.cellsOf 23 = 16 := by kernel_rfl
theorem c5 : Try.prog.cellsOf 5 = 1 := by kernel_rfl
theorem c3 : Try.prog.cellsOf 3 = 1 := by kernel_rfl
theorem c2 : Try.prog.cellsOf 2 = 1 := by kernel_rfl
theorem c38 : Try.prog.cellsOf 38 = 17 := by kernel_rfl
theorem c55 : Try.prog.cellsOf 55 = 51 := by kernel_rfl
theorem fk38 : fieldsK Try.prog 38 = some [(23, 0), (2, 16)] := by kernel_rfl
theorem fk55 : fieldsK Try.prog 55 = some [(38, 0), (23, 17), (23, 33), (3, 49), (3, 50)] := by kernel_rfl
theorem litsI (a : IDV) (d : Nat) : Try.prog.keyLits (d + 2) 23 (cI a) = some (lI a).flatten := lits_id u23 u5 c23 c5
theorem litsP (p : PV) (hp : okN p.n) (d : Nat) : Try.prog.keyLits (d + 3) 38 (cP p) = some [(lI p.who).flatten, [.int .i64 p.n]].flatten := by
  refine lits_struct (d := d + 2) fk38 (by rw [c38]; rfl) ?_
  have h1 := litsI p.who d
  have h2 : Try.prog.keyLits (d + 2) 2 [.int .i64 p.n] = some [.int .i64 p.n] := lits_int (d := d + 1) u2 hp
  simp only [List.mapM_cons, List.mapM_nil, c23, c2]
  rw [show ((cP p).drop 0).take 16 = cI p.who from rfl, show ((cP p).drop 16).take 1 = [.int .i64 p.n] from rfl, h1, h2]; rfl
theorem litsE (x : EV) (hx : okE x) (d : Nat) : Try.prog.keyLits (d + 4) 55 (cE x) = some [[(lI x.p.who).flatten, [.int .i64 x.p.n]].flatten, (lI x.a).flatten, (lI x.b).flatten, [.int .i64 x.na], [.int .i64 x.nb]].flatten := by
  refine lits_struct (d := d + 3) fk55 (by rw [c55]; rfl) ?_
  have h1 := litsP x.p hx.1 d
  have h2 := litsI x.a (d + 1)
  have h3 := litsI x.b (d + 1)
  have h4 : Try.prog.keyLits (d + 3) 3 [.int .i64 x.na] = some [.int .i64 x.na] := lits_int (d := d + 2) u3 hx.2.1
  have h5 : Try.prog.keyLits (d + 3) 3 [.int .i64 x.nb] = some [.int .i64 x.nb] := lits_int (d := d + 2) u3 hx.2.2
  simp only [List.mapM_cons, List.mapM_nil, c23, c3, c38]
  rw [show ((cE x).drop 0).take 17 = cP x.p from rfl, show ((cE x).drop 17).take 16 = cI x.a from rfl, show ((cE x).drop 33).take 16 = cI x.b from rfl, show ((cE x).drop 49).take 1 = [.int .i64 x.na] from rfl, show ((cE x).drop 50).take 1 = [.int .i64 x.nb] from rfl, h1, h2, h3, h4, h5]; rfl
theorem keyI (a : IDV) : ∃ l, keyOf Try.prog 23 (.agg (cI a).toArray) = some l := key_of size_ (by kernel_rfl) (by kernel_rfl) (by rw [c23]; rfl) (litsI a _)
theorem keyP (p : PV) (hp : okN p.n) : ∃ l, keyOf Try.prog 38 (.agg (cP p).toArray) = some l := key_of size_ (by kernel_rfl) (by kernel_rfl) (by rw [c38]; rfl) (litsP p hp _)
theorem keyE (x : EV) (hx : okE x) : ∃ l, keyOf Try.prog 55 (.agg (cE x).toArray) = some l := key_of size_ (by kernel_rfl) (by kernel_rfl) (by rw [c55]; rfl) (litsE x hx _)
theorem KP : WideMaps.KeyLaw Try.prog 38 := deep_law (m := 4) (by omega) (by kernel_rfl) (by kernel_rfl) (by kernel_rfl)
theorem QI : EqL Try.prog 23 := EqL.of (m := 4) (by kernel_rfl) (by omega) (by kernel_rfl) (by kernel_rfl) (by kernel_rfl)
theorem QP : EqL Try.prog 38 := EqL.of (m := 5) (by kernel_rfl) (by omega) (by kernel_rfl) (by kernel_rfl) (by kernel_rfl)
theorem QE : EqL Try.prog 55 := EqL.of (m := 6) (by kernel_rfl) (by omega) (by kernel_rfl) (by kernel_rfl) (by kernel_rfl)
theorem zE_ : zeroT Try.prog 55 = some (.agg (cE zE).toArray) := by kernel_rfl
end Ty
end Go.Proofs.Ytohldionclgljaa
