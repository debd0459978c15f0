/-
  The law's n, cut and fixed of layer 10: contracts.
-/
import Derived.Test.YtbafhclandendaaLf
namespace Go.J
open Go.RowKit
/-- s[:hi:max] of a slice, both one -/
theorem J.sliceM {P : Program} {ops : Array Oper} {Q : Exit → Act → World → Prop} {n : Nat} {e : Env} {I : World → Prop} {rest : List Oper} {d t : Nat} {p : String} {af : Array Edge} {x : Operand}
    {ty el : TypeId} {sz k c m : Nat} {a : Option Addr} {hi mx : Operand} {ik jk : IntKind} (he : elemT P ty = some el) (hs : sizeT P el = some sz) (hx : ev e x = some (.slice a k c))
    (hhi : ev e hi = some (.int ik (m : Int))) (hmx : ev e mx = some (.int jk (m : Int))) (h3 : m ≤ c) (hd : Nat.blt d n = true)
    (h : J P ops Q n rest ((d, .slice (if m = 0 then a else a.map (·.add (0 * sz))) m m) :: e) I) : J P ops Q n (⟨some d, .slice ty x none (some hi) (some mx), t, p, af, none⟩ :: rest) e I := by
  refine J.value hd (fun T w ht hw => ⟨w, ?_, hw⟩) h
  have e1 : ∀ (kk : IntKind) (y : Nat) (code : BoundsCode), m ≤ y → (Instr.sliceBound (.int kk (m : Int)) y code).run P w = .ok m w := by
    intro kk y code hle
    simp [Instr.sliceBound, asIntOf]
    omega
  have hb : (Instr.sliceBounds true k c none (some (.int ik (m : Int))) (some (.int jk (m : Int)))).run P w = .ok (0, m, m) w := by
    simp [Instr.sliceBounds, e1 jk c _ h3, e1 ik m _ (Nat.le_refl _)]
  simp only [execOp, ht.eval hx, Instr.sliceAt, Instr.slice, run_underlying' (elem_u he), Sem.run_bind, Result.andThen_ok, Sem.run_pure, Option.map_none, Option.map_some, ht.eval hhi, ht.eval hmx, hb, run_sizeOf hs, Nat.sub_zero]
theorem Vec.rowM {w0 w : World} {S : List Nat} {l lp : List (Nat × Obj)} {t sz : Nat} {v : Value} {k : Nat} {xs : List Value} (h : Vec t sz v k xs lp) (hw : St w0 S l w) (hm : ∀ p, p ∈ lp → p ∈ l) : Row w v k xs := by
  obtain ⟨hl, h⟩ := h
  rcases h with ⟨rfl, rfl, rfl⟩ | ⟨b, c, sp, rfl, rfl, _, hk⟩
  · exact ⟨none, 0, rfl, Nat.le_refl _, .inl (List.eq_nil_of_length_eq_zero (by simpa using hl))⟩
  · exact Row.own (cs := xs ++ sp) (tb := t) (fr := (0, 0)) hw (hm _ (.head _)) (by simp) hk
end Go.J
namespace Go.Proofs.Ytbafhclandendaa
open Go.J Go.RowKit
set_option linter.unusedVariables false
set_option linter.unusedSimpArgs false
set_option maxRecDepth 4000
def nI (k : UInt8) : IDV := fun i => if i = 15 then k else 0
/-- what cut gives -/
def cutV (v : Value) (m : Nat) : Value := match v with
  | .slice a _ _ => .slice (if m = 0 then a else a.map (·.add (0 * 16))) m m
  | v => v
theorem row_cut {w : World} {v : Value} {xs : List IDV} (h : Row w v xs.length (fI xs)) (most : Nat) : Row w (cutV v (min xs.length most)) (xs.take most).length (fI (xs.take most)) := by
  obtain ⟨a, c, rfl, hc, h⟩ := id h
  have e : (xs.take most).length = min xs.length most := by rw [List.length_take]; omega
  rw [e, fI_take]
  refine ⟨_, _, rfl, Nat.le_refl _, ?_⟩
  have hfl := fI_length xs
  rcases h with h | ⟨b, o, rfl, hcl⟩
  · left; rw [h, List.take_nil]
  · by_cases hm : min xs.length most = 0
    · left
      rw [List.take_eq_nil_iff, fI, List.flatMap_eq_nil_iff]
      rcases Nat.eq_zero_or_pos most with h0 | h0
      · left; rw [h0]
      · right
        have : xs = [] := List.eq_nil_of_length_eq_zero (by omega)
        rw [this]; intro x hx; cases hx
    · right
      refine ⟨b, o, by rw [if_neg hm]; simp [Addr.add], ?_⟩
      intro j hj
      rw [List.length_take] at hj
      rw [List.getElem?_take_of_lt (by omega)]
      exact hcl j (by omega)
/-- how far, reckoned -/
theorem dI_eq (me x : IDV) : dI me x = (valI x + 2 ^ 128 - valI me) % 2 ^ 128 := valI_subI x me
theorem eI_eq (me x : IDV) : eI me x = (valI me + 2 ^ 128 - valI x) % 2 ^ 128 := valI_subI me x
def wantC (me : IDV) (xs : List IDV) (half : Int) : List IDV :=
  (sortI xs me).filter (fun x => decide ((((sortI xs me).countP (fun y => decide ((valI y + 2 ^ 128 - valI me) % 2 ^ 128 < (valI x + 2 ^ 128 - valI me) % 2 ^ 128)) : Nat) : Int) < half) || decide ((((sortI xs me).countP (fun y => decide ((valI me + 2 ^ 128 - valI y) % 2 ^ 128 < (valI me + 2 ^ 128 - valI x) % 2 ^ 128)) : Nat) : Int) < half))
theorem wantI_C (me : IDV) (xs : List IDV) (half : Int) : wantI me xs half = wantC me xs half := by
  unfold wantI wantC rI lI
  simp only [dI_eq, eI_eq]
def L4 : List IDV := [nI 1, nI 4, nI 9, nI 12]
theorem want1 : wantI (nI 4) L4 1 = [nI 1, nI 9] := by rw [wantI_C]; decide +kernel
theorem want2 : wantI (nI 12) L4 1 = [nI 1, nI 9] := by rw [wantI_C]; decide +kernel
theorem want3 : wantI (nI 4) L4 2 = [nI 1, nI 9, nI 12] := by rw [wantI_C]; decide +kernel
theorem next1 : nextO (nI 12) L4 = some (nI 1) := by
  refine nextO_of ⟨⟨by decide +kernel, by decide +kernel⟩, ?_⟩
  simp only [dI_eq]
  decide +kernel

end Go.Proofs.Ytbafhclandendaa
