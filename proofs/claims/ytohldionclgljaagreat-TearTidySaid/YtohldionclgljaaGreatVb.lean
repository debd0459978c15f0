/-
  Frames with all their fields; two frames that are one: contracts.
-/
import Derived.Test.YtohldionclgljaaGreatTf
import Derived.Test.YtohldionclgljaaGreatUn
namespace Go.Proofs.YtohldionclgljaaGreat
open Go.J Go.RowKit
set_option linter.unusedVariables false
set_option linter.unusedSimpArgs false
set_option maxRecDepth 8000
structure FV where
  k : Int
  p : PV
  toA : Bool
  a : IDV
  b : IDV
  n : Int
  fi : Int
  fn : Int
  ti : Int
  tn : Int
  tr : List Int
  ids : List IDV
  key : IDV
  vn : Int
  vw : IDV
  val : List UInt8
  op : Int
  ttl : Int
  txt : List UInt8
/-- a frame's slices -/
structure FSl where
  tr : Value
  ids : Value
  val : Value
  txt : Value
abbrev cIt (f : FV) (v : Value) : List Value := cI f.key ++ [iV f.vn] ++ cI f.vw ++ [v]
abbrev cFG (f : FV) (s : FSl) : List Value :=
  iV f.k :: (cP f.p ++ [.bool f.toA] ++ cI f.a ++ cI f.b ++ [iV f.n, iV f.fi, iV f.fn, iV f.ti, iV f.tn, s.tr, s.ids] ++ cIt f s.val ++ [iV f.op, iV f.ttl, s.txt])
structure FRows (w : World) (f : FV) (s : FSl) : Prop where
  tr : Row w s.tr f.tr.length (f.tr.map iV)
  ids : Row w s.ids f.ids.length (f.ids.flatMap cI)
  val : Row w s.val f.val.length (f.val.map u8)
  txt : Row w s.txt f.txt.length (f.txt.map u8)
structure OkF (f : FV) : Prop where
  p : okN f.p.n
  fi : okN f.fi
  fn : okN f.fn
  ti : okN f.ti
  tn : okN f.tn
  vn : okN f.vn
  ltr : f.tr.length < 4611686018427387904
  lids : f.ids.length < 4611686018427387904
theorem zF_ : zeroT Tryz.prog 77 = some (.agg (cFG ⟨0, zP, false, zI, zI, 0, 0, 0, 0, 0, [], [], zI, 0, zI, [], 0, 0, []⟩ ⟨nilV, nilV, nilV, nilV⟩).toArray) := by kernel_rfl
theorem cells69 : Tryz.prog.cellsOf 69 = 2 := by kernel_rfl
theorem cells72 : Tryz.prog.cellsOf 72 = 17 := by kernel_rfl
theorem fk69 : fieldsK Tryz.prog 69 = some [(2, 0), (2, 1)] := by kernel_rfl
theorem fk72 : fieldsK Tryz.prog 72 = some [(2, 0), (24, 1)] := by kernel_rfl
theorem litsN (x y : Int) (hx : okN x) (hy : okN y) (d : Nat) : Tryz.prog.keyLits (d + 3) 69 [iV x, iV y] = some [[.int .i64 x], [.int .i64 y]].flatten := by
  refine lits_struct (d := d + 2) fk69 (by rw [cells69]; rfl) ?_
  have h1 : Tryz.prog.keyLits (d + 2) 2 [.int .i64 x] = some [.int .i64 x] := lits_int (d := d + 1) Ty.u2 hx
  have h2 : Tryz.prog.keyLits (d + 2) 2 [.int .i64 y] = some [.int .i64 y] := lits_int (d := d + 1) Ty.u2 hy
  simp only [List.mapM_cons, List.mapM_nil, Ty.c2]
  rw [show ([iV x, iV y].drop 0).take 1 = [.int .i64 x] from rfl, show ([iV x, iV y].drop 1).take 1 = [.int .i64 y] from rfl, h1, h2]; rfl
theorem litsV (x : Int) (a : IDV) (hx : okN x) (d : Nat) : Tryz.prog.keyLits (d + 3) 72 (iV x :: cI a) = some [[.int .i64 x], (lI a).flatten].flatten := by
  refine lits_struct (d := d + 2) fk72 (by rw [cells72]; rfl) ?_
  have h1 : Tryz.prog.keyLits (d + 2) 2 [.int .i64 x] = some [.int .i64 x] := lits_int (d := d + 1) Ty.u2 hx
  have h2 := Ty.litsI a d
  simp only [List.mapM_cons, List.mapM_nil, Ty.c2, Ty.c24]
  rw [show ((iV x :: cI a).drop 0).take 1 = [.int .i64 x] from rfl, show ((iV x :: cI a).drop 1).take 16 = cI a from rfl, h1, h2]; rfl
theorem keyN (x y : Int) (hx : okN x) (hy : okN y) : ∃ l, keyOf Tryz.prog 69 (.agg [iV x, iV y].toArray) = some l := key_of Ty.size_ (by kernel_rfl) (by kernel_rfl) (by rw [cells69]; rfl) (litsN x y hx hy _)
theorem keyV (x : Int) (a : IDV) (hx : okN x) : ∃ l, keyOf Tryz.prog 72 (.agg (iV x :: cI a).toArray) = some l := key_of Ty.size_ (by kernel_rfl) (by kernel_rfl) (by rw [cells72]; rfl) (litsV x a hx _)
theorem QN : EqL Tryz.prog 69 := EqL.of (m := 5) (by kernel_rfl) (by omega) (by kernel_rfl) (by kernel_rfl) (by kernel_rfl)
theorem QV : EqL Tryz.prog 72 := EqL.of (m := 5) (by kernel_rfl) (by omega) (by kernel_rfl) (by kernel_rfl) (by kernel_rfl)

theorem rowI_at2 {w : World} {b o k c q i : Nat} {xs : List Int} {n : Int} (h : Row w (.slice (some ⟨b, o, none⟩) k c) k (xs.map iV)) (hi : xs[i]? = some n) (hq : q = o + i) : w.cell? ⟨b, q, none⟩ = some (iV n) := by
  have hl : i < xs.length := (List.getElem?_eq_some_iff.1 hi).1
  obtain ⟨b', o', c', hv, _, hc⟩ := Row.some h (by simp; omega)
  simp only [Value.slice.injEq, Option.some.injEq, Addr.mk.injEq] at hv
  obtain ⟨⟨rfl, rfl, _⟩, _, rfl⟩ := hv
  exact hc.get (i := i) (by rw [List.getElem?_map, hi]; rfl) hq

end Go.Proofs.YtohldionclgljaaGreat
