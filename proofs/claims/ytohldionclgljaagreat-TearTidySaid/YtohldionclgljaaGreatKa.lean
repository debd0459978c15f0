/-
  Identities: closed facts, and what ident's and slices' first functions do: contracts.
-/
import Derived.Test.YtohldionclgljaaGreatTk
import Derived.Test.YtohldionclgljaaGreatMc
namespace Go.Proofs.YtohldionclgljaaGreat
namespace Ty
open Go.J Go.RowKit
set_option linter.unusedVariables false
set_option linter.unusedSimpArgs false
theorem zID : zeroT Tryz.prog 24 = some (.agg (cI zI).toArray) := by kernel_rfl
end Ty
open Go.J Go.RowKit
set_option maxRecDepth 4000
/-- the cells of a row of identities -/
abbrev fI (xs : List IDV) : List Value := xs.flatMap cI
theorem fI_length : ∀ xs : List IDV, (fI xs).length = xs.length * 16
  | [] => rfl
  | x :: xs => by
    have := fI_length xs
    simp only [fI, List.flatMap_cons, List.length_append, List.length_cons] at this ⊢
    simp only [List.length_nil] at this ⊢
    omega
theorem fI_at : ∀ {xs : List IDV} {i : Nat} {a : IDV}, xs[i]? = some a → ((fI xs).drop (i * 16)).take 16 = cI a
  | [], i, a, h => by simp at h
  | x :: xs, 0, a, h => by
    simp only [List.getElem?_cons_zero, Option.some.injEq] at h
    subst h
    rfl
  | x :: xs, i + 1, a, h => by
    have ih := fI_at (xs := xs) (i := i) (by simpa using h)
    rw [show (i + 1) * 16 = 16 + i * 16 by omega]
    show (((cI x ++ fI xs).drop (16 + i * 16)).take 16) = cI a
    rw [← List.drop_drop, show (cI x ++ fI xs).drop 16 = fI xs from rfl]
    exact ih
theorem rowF_at {w : World} {b o k c q i : Nat} {xs : List IDV} {a : IDV} (h : Row w (.slice (some ⟨b, o, none⟩) k c) k (fI xs)) (hi : xs[i]? = some a) (hq : q = o + i * 16) : Cells w b q (cI a) := by
  have hl : i < xs.length := (List.getElem?_eq_some_iff.1 hi).1
  have hlen := fI_length xs
  obtain ⟨b', o', c', hv, _, hc⟩ := Row.some h (by omega)
  simp only [Value.slice.injEq, Option.some.injEq, Addr.mk.injEq] at hv
  obtain ⟨⟨rfl, rfl, _⟩, _, rfl⟩ := hv
  subst hq
  intro j hj
  have hj16 : j < 16 := hj
  rw [Nat.add_assoc, hc (i * 16 + j) (by omega)]
  have e := fI_at hi
  have : (cI a)[j]? = (((fI xs).drop (i * 16)).take 16)[j]? := by rw [e]
  rw [this, List.getElem?_take_of_lt hj16, List.getElem?_drop]
theorem bI_map (a : IDV) : (bI a).map u8 = cI a := rfl

theorem bcompare_spec (v1 v2 : Value) (xs ys : List UInt8) (w : World) (hr1 : Row w v1 xs.length (xs.map u8)) (hr2 : Row w v2 ys.length (ys.map u8)) :
    Calls Tryz.prog 51 [v1, v2].toArray w fun r w' => r = .returned (.int .i64 (Extern.BytealgCompare.cmp (str xs) (str ys))) ∧ Bel w w' := by
  refine calls_of_J (args := [v1, v2]) (e := [(0, v1), (1, v2)]) Tryz.func51 rfl rfl ⟨rfl, rfl, trivial⟩ (St.start w) ?_
  refine JC.seq (fun K0 hK0 => ?_)
  refine JC.region ?_
  refine J.assign rfl rfl ?_
  refine J.nil ?_
  refine JX.thenN (hK0 _ _ ?_)
  refine JC.seq (fun K1 hK1 => ?_)
  refine JC.region ?_
  refine J.move rfl rfl ?_
  refine J.move rfl rfl ?_
  refine J.callX (v := .int .i64 (Extern.BytealgCompare.cmp (str xs) (str ys))) Tryz.func68 (by kernel_rfl) (by kernel_rfl) (by kernel_rfl) (ex := Extern.BytealgCompare.compare) (by kernel_rfl) rfl rfl (fun w1 hw => run_compare (hr1.below hw.below) (hr2.below hw.below)) ?_
  refine J.assign rfl rfl ?_
  refine J.nil ?_
  refine JX.thenN (hK1 _ _ ?_)
  refine JC.ret ?_
  refine JX.ret1 rfl rfl (fun w hw => ?_)
  exact ⟨rfl, hw.below⟩

theorem compare_spec (a b : IDV) (w : World) :
    Calls Tryz.prog 27 [.agg (cI a).toArray, .agg (cI b).toArray].toArray w fun r w' => r = .returned (.int .i64 (cmpI a b)) ∧ Bel w w' := by
  refine calls_of_J (args := [.agg (cI a).toArray, .agg (cI b).toArray]) (e := [(0, .agg (cI a).toArray), (1, .agg (cI b).toArray)]) Tryz.func27 rfl rfl ⟨rfl, rfl, trivial⟩ (St.start w) ?_
  refine JC.seq (fun K0 hK0 => ?_)
  refine JC.region ?_
  refine J.box rfl rfl rfl (fun b2 => ?_)
  refine J.box rfl rfl rfl (fun b3 => ?_)
  refine J.assign rfl rfl ?_
  refine J.nil ?_
  refine JX.thenN (hK0 _ _ ?_)
  refine JC.seq (fun K1 hK1 => ?_)
  apply JC.drawL 3 [Eqv (.slice (some ⟨b2, 0, none⟩) 16 16), Eqv (.slice (some ⟨b3, 0, none⟩) 16 16), Eqv (.int .i64 (cmpI a b))] Ty.mixed rfl rfl rfl (by kernel_rfl) rfl rfl (fun w w' hw hb => hw.step hb) ⟨fun _ _ _ h _ => h, fun _ _ _ h _ => h, fun _ _ _ h _ => h, trivial⟩ ?hstep ?htail
  case hstep =>
    refine ⟨fun wi => ?_, fun wi => ?_, fun wi => ?_, trivial⟩
    · skip
      refine Fin.nil ?_
      refine J.sliceAll Ty.ar24 (by rw [Ty.s5]; rfl) rfl rfl ?_
      exact J.finP rfl
    · skip
      refine Fin.nil ?_
      refine J.sliceAll Ty.ar24 (by rw [Ty.s5]; rfl) rfl rfl ?_
      exact J.finP rfl
    · skip
      refine Fin.consE rfl (Fin.consE rfl (Fin.nil ?_))
      refine J.callD (v := .int .i64 (cmpI a b)) Ty.bd51 rfl rfl (fun w1 hw => by
        have h := bcompare_spec (.slice (some ⟨b2, 0, none⟩) 16 16) (.slice (some ⟨b3, 0, none⟩) 16 16) (bI a) (bI b) w1 (Row.own hw (.tail _ (.head _)) rfl (Nat.le_refl _)) (Row.own hw (.head _) rfl (Nat.le_refl _))
        rw [cmp_bI] at h
        exact h) ?_
      exact J.finQ rfl
  case htail =>
    refine Fin.consE rfl (Fin.consE rfl (Fin.consE rfl (Fin.nil ?_)))
    refine J.assign rfl rfl ?_
    refine J.nil ?_
    refine JX.thenN (hK1 _ _ ?_)
    refine JC.ret ?_
    refine JX.ret1 rfl rfl (fun w hw => ?_)
    exact ⟨rfl, hw.below⟩

end Go.Proofs.YtohldionclgljaaGreat
