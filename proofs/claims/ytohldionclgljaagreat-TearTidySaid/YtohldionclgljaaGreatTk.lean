/-
  Closed facts of this program on identities, paths and entries.
-/
import Derived.Test.YtohldionclgljaaGreatTy
import Derived.Test.YtohldionclgljaaGreatMa
namespace Go.Proofs.YtohldionclgljaaGreat
namespace Ty
open Go.J Go.RowKit
set_option linter.unusedVariables false
set_option linter.unusedSimpArgs false
theorem size_ : Tryz.prog.types.size + 1 = 190 + 4 := by kernel_rfl
theorem c24 : Tryz.prog.cellsOf 24 = 16 := by kernel_rfl
theorem c5 : Tryz.prog.cellsOf 5 = 1 := by kernel_rfl
theorem c3 : Tryz.prog.cellsOf 3 = 1 := by kernel_rfl
theorem c2 : Tryz.prog.cellsOf 2 = 1 := by kernel_rfl
theorem c31 : Tryz.prog.cellsOf 31 = 17 := by kernel_rfl
theorem c33 : Tryz.prog.cellsOf 33 = 51 := by kernel_rfl
theorem fk31 : fieldsK Tryz.prog 31 = some [(24, 0), (2, 16)] := by kernel_rfl
theorem fk33 : fieldsK Tryz.prog 33 = some [(31, 0), (24, 17), (24, 33), (3, 49), (3, 50)] := by kernel_rfl
theorem litsI (a : IDV) (d : Nat) : Tryz.prog.keyLits (d + 2) 24 (cI a) = some (lI a).flatten := lits_id u24 u5 c24 c5
theorem litsP (p : PV) (hp : okN p.n) (d : Nat) : Tryz.prog.keyLits (d + 3) 31 (cP p) = some [(lI p.who).flatten, [.int .i64 p.n]].flatten := by
  refine lits_struct (d := d + 2) fk31 (by rw [c31]; rfl) ?_
  have h1 := litsI p.who d
  have h2 : Tryz.prog.keyLits (d + 2) 2 [.int .i64 p.n] = some [.int .i64 p.n] := lits_int (d := d + 1) u2 hp
  simp only [List.mapM_cons, List.mapM_nil, c24, c2]
  rw [show ((cP p).drop 0).take 16 = cI p.who from rfl, show ((cP p).drop 16).take 1 = [.int .i64 p.n] from rfl, h1, h2]; rfl
theorem litsE (x : EV) (hx : okE x) (d : Nat) : Tryz.prog.keyLits (d + 4) 33 (cE x) = some [[(lI x.p.who).flatten, [.int .i64 x.p.n]].flatten, (lI x.a).flatten, (lI x.b).flatten, [.int .i64 x.na], [.int .i64 x.nb]].flatten := by
  refine lits_struct (d := d + 3) fk33 (by rw [c33]; rfl) ?_
  have h1 := litsP x.p hx.1 d
  have h2 := litsI x.a (d + 1)
  have h3 := litsI x.b (d + 1)
  have h4 : Tryz.prog.keyLits (d + 3) 3 [.int .i64 x.na] = some [.int .i64 x.na] := lits_int (d := d + 2) u3 hx.2.1
  have h5 : Tryz.prog.keyLits (d + 3) 3 [.int .i64 x.nb] = some [.int .i64 x.nb] := lits_int (d := d + 2) u3 hx.2.2
  simp only [List.mapM_cons, List.mapM_nil, c24, c3, c31]
  rw [show ((cE x).drop 0).take 17 = cP x.p from rfl, show ((cE x).drop 17).take 16 = cI x.a from rfl, show ((cE x).drop 33).take 16 = cI x.b from rfl, show ((cE x).drop 49).take 1 = [.int .i64 x.na] from rfl, show ((cE x).drop 50).take 1 = [.int .i64 x.nb] from rfl, h1, h2, h3, h4, h5]; rfl
theorem keyI (a : IDV) : ∃ l, keyOf Tryz.prog 24 (.agg (cI a).toArray) = some l := key_of size_ (by kernel_rfl) (by kernel_rfl) (by rw [c24]; rfl) (litsI a _)
theorem keyP (p : PV) (hp : okN p.n) : ∃ l, keyOf Tryz.prog 31 (.agg (cP p).toArray) = some l := key_of size_ (by kernel_rfl) (by kernel_rfl) (by rw [c31]; rfl) (litsP p hp _)
theorem keyE (x : EV) (hx : okE x) : ∃ l, keyOf Tryz.prog 33 (.agg (cE x).toArray) = some l := key_of size_ (by kernel_rfl) (by kernel_rfl) (by rw [c33]; rfl) (litsE x hx _)
theorem KP : WideMaps.KeyLaw Tryz.prog 31 := deep_law (m := 4) (by omega) (by kernel_rfl) (by kernel_rfl) (by kernel_rfl)
theorem QI : EqL Tryz.prog 24 := EqL.of (m := 4) (by kernel_rfl) (by omega) (by kernel_rfl) (by kernel_rfl) (by kernel_rfl)
theorem QP : EqL Tryz.prog 31 := EqL.of (m := 5) (by kernel_rfl) (by omega) (by kernel_rfl) (by kernel_rfl) (by kernel_rfl)
theorem QE : EqL Tryz.prog 33 := EqL.of (m := 6) (by kernel_rfl) (by omega) (by kernel_rfl) (by kernel_rfl) (by kernel_rfl)
theorem zE_ : zeroT Tryz.prog 33 = some (.agg (cE zE).toArray) := by kernel_rfl
end Ty
end Go.Proofs.YtohldionclgljaaGreat
