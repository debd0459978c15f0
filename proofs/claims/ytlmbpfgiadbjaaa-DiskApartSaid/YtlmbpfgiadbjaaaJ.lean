/-
  The calculus, whole: what was added last.
-/
import Derived.Test.YtlmbpfgiadbjaaaJi
namespace Go.J
open Go.RowKit
set_option linter.unusedVariables false
set_option linter.unusedSimpArgs false
/-- two lists of blocks with the same parts -/
noncomputable def cntB (a : Nat × Obj) (l : List (Nat × Obj)) : Nat := by classical exact l.count a
noncomputable def oneB (a x : Nat × Obj) : Nat := by classical exact if x == a then 1 else 0
theorem cntB_nil (a : Nat × Obj) : cntB a [] = 0 := by simp [cntB]
theorem cntB_cons (a x : Nat × Obj) (l : List (Nat × Obj)) : cntB a (x :: l) = cntB a l + oneB a x := by simp [cntB, oneB, List.count_cons]
theorem cntB_append (a : Nat × Obj) (l l' : List (Nat × Obj)) : cntB a (l ++ l') = cntB a l + cntB a l' := by simp [cntB, List.count_append]
theorem perm_cnt {l l' : List (Nat × Obj)} (h : ∀ a, cntB a l = cntB a l') : l.Perm l' := by
  classical exact List.perm_iff_count.2 (fun a => h a)
theorem Vec.at {t m c j : Nat} {a : Option Addr} {ys : List UInt8} {lp : List (Nat × Obj)} (h : Vec t 1 (.slice a m c) m (ys.map u8) lp) (hj : j < m) :
    ∃ b sp, a = some ⟨b, 0, none⟩ ∧ lp = [(b, cb (ys.map u8 ++ sp) t)] ∧ ys.length = m ∧
      ∀ x, Vec t 1 (.slice (some ⟨b, 0, none⟩) m c) m ((ys.set j x).map u8) [(b, cb (setMany (ys.map u8 ++ sp) (0 + (j : Int).toNat * 1) [u8 x]) t)] := by
  obtain ⟨hl, h⟩ := h
  have hyl : ys.length = m := by simpa using hl
  rcases h with ⟨_, h0, _⟩ | ⟨b, c', sp, hve, rfl, hcap, hk⟩
  · omega
  · simp only [Value.slice.injEq, true_and] at hve
    obtain ⟨rfl, rfl⟩ := hve
    refine ⟨b, sp, rfl, rfl, hyl, fun x => ⟨by simp [hyl], .inr ⟨b, c, sp, rfl, ?_, by simp only [List.length_append, List.length_map, List.length_set] at hcap ⊢; exact hcap, hk⟩⟩⟩
    have : 0 + (j : Int).toNat * 1 = j := by simp
    rw [this]
    simp only [setMany]
    rw [List.set_append_left _ _ (by simp; omega), ← List.map_set]
theorem at_u8 {ys : List UInt8} {sp : List Value} {j : Nat} (h : j < ys.length) : (ys.map u8 ++ sp)[0 + (j : Int).toNat * 1]? = some (u8 ys[j]) := by
  have : 0 + (j : Int).toNat * 1 = j := by simp
  rw [this, List.getElem?_append_left (by simpa using h)]
  simp [List.getElem?_eq_getElem h]
section
variable {P : Program} {ops : Array Oper} {Q : Exit → Act → World → Prop} {n : Nat} {e : Env} {I : World → Prop} {rest : List Oper}
variable {d t : Nat} {p : String} {af : Array Edge} {x y z : Operand} {v : Value} {w0 : World} {S : List Nat} {l l' : List (Nat × Obj)}
theorem J.perm (l' : List (Nat × Obj)) (hp : l.Perm l') (h : J P ops Q n rest e (St w0 S l')) : J P ops Q n rest e (St w0 S l) := h.conseq fun _ hw => hw.perm hp
/-- a call, in a region that draws, that makes a slice -/
theorem J.callR {f : FuncId} {xs : List Operand} {ats : Array TypeId} {vs : List Value} {k : Nat} {ys : List Value} {wi : World} (hb : bodyT P f = true) (hx : evs e xs = some vs) (hd : Nat.blt d n = true)
    (hc : ∀ w, I w → Calls P f vs.toArray w fun r w' => ∃ v, r = .returned v ∧ Row w' v k ys ∧ Below w.heap.size w w')
    (h : ∀ v, J P ops Q n rest ((d, v) :: e) (fun w => Row w v k ys ∧ Below wi.heap.size wi w)) : J P ops Q n (⟨some d, .call ⟨.value (.func f), xs.toArray, ats⟩, t, p, af, none⟩ :: rest) e (fun w => w = wi ∧ I w) := by
  refine J.call (R := fun v' w' => Row w' v' k ys ∧ Below wi.heap.size wi w') hb hx hd (fun w hw => ?_) h
  obtain ⟨rfl, hw⟩ := hw
  exact (hc w hw).mono fun r w' ⟨v, h1, h2, h3⟩ => ⟨v, h1, h2, h3⟩
end
end Go.J
