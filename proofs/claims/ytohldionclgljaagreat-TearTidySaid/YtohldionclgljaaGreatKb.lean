/-
  What is between two identities, clockwise: contract of ident.Sub.
-/
import Derived.Test.YtohldionclgljaaGreatKa
namespace Go.Proofs.YtohldionclgljaaGreat
open Go.J Go.RowKit
set_option linter.unusedVariables false
set_option linter.unusedSimpArgs false
set_option maxRecDepth 4000
theorem list16 : ∀ (bs : List UInt8), bs.length = 16 → ∃ a : IDV, bs = bI a
  | [b0, b1, b2, b3, b4, b5, b6, b7, b8, b9, b10, b11, b12, b13, b14, b15], _ => ⟨fun i => [b0, b1, b2, b3, b4, b5, b6, b7, b8, b9, b10, b11, b12, b13, b14, b15].get i, rfl⟩
/-- the identity of a number -/
def ofI (n : Nat) : IDV := fun i => UInt8.ofNat (n / 256 ^ (15 - i.val))
theorem valI_ofI_exists (n : Nat) (h : n < 2 ^ 128) : ∃ a : IDV, valI a = n := by
  have key : ∀ (k n : Nat), n < 256 ^ k → ∃ bs : List UInt8, bs.length = k ∧ valB bs = n := by
    intro k
    induction k with
    | zero => intro n hn; exact ⟨[], rfl, by simp [valB]; simp at hn; omega⟩
    | succ k ih =>
      intro n hn
      have hp : 0 < 256 ^ k := Nat.pow_pos (by omega)
      obtain ⟨bs, hl, hv⟩ := ih (n % 256 ^ k) (Nat.mod_lt _ hp)
      have hq : n / 256 ^ k < 256 := by
        rw [Nat.div_lt_iff_lt_mul hp]
        rw [Nat.pow_succ] at hn
        omega
      refine ⟨UInt8.ofNat (n / 256 ^ k) :: bs, by simp [hl], ?_⟩
      simp only [valB, hl, hv]
      have : (UInt8.ofNat (n / 256 ^ k)).toNat = n / 256 ^ k := by simp; omega
      rw [this]
      have := Nat.div_add_mod n (256 ^ k)
      rw [Nat.mul_comm] at this
      omega
  obtain ⟨bs, hl, hv⟩ := key 16 n (by omega)
  obtain ⟨a, rfl⟩ := list16 bs hl
  exact ⟨a, hv⟩
/-- how far it is from b to a -/
noncomputable def subI (a b : IDV) : IDV := (valI_ofI_exists ((valI a + 2 ^ 128 - valI b) % 2 ^ 128) (Nat.mod_lt _ (by omega))).choose
theorem valI_subI (a b : IDV) : valI (subI a b) = (valI a + 2 ^ 128 - valI b) % 2 ^ 128 := (valI_ofI_exists ((valI a + 2 ^ 128 - valI b) % 2 ^ 128) (Nat.mod_lt _ (by omega))).choose_spec
theorem drop_cons {l : List UInt8} {k : Nat} (h : k < l.length) : valB (l.drop k) = (l[k]).toNat * 256 ^ (l.length - (k + 1)) + valB (l.drop (k + 1)) := by
  rw [List.drop_eq_getElem_cons h]
  simp only [valB, List.length_drop]
structure SB where
  i : Nat
  out : List UInt8
  br : Nat
/-- what the loop keeps -/
structure SubInv (a b : IDV) (s : SB) : Prop where
  hi : s.i ≤ 16
  hl : s.out.length = 16
  hb : s.br ≤ 1
  eq : valB ((bI a).drop (16 - s.i)) + s.br * 256 ^ s.i = valB ((bI b).drop (16 - s.i)) + valB (s.out.drop (16 - s.i))
theorem SubInv.step {a b : IDV} {s : SB} (h : SubInv a b s) (hi : s.i < 16) {x y : UInt8} (hx : (bI a)[15 - s.i]? = some x) (hy : (bI b)[15 - s.i]? = some y) {n : Nat} {br : Nat} (hbr : br ≤ 1) (hn : n < 256)
    (he : (x.toNat : Int) - (y.toNat : Int) - (s.br : Int) + 256 * (br : Int) = (n : Int)) : SubInv a b ⟨s.i + 1, s.out.set (15 - s.i) (UInt8.ofNat n), br⟩ := by
  refine ⟨by show s.i + 1 ≤ 16; omega, by simp [h.hl], hbr, ?_⟩
  have ka : 15 - s.i < (bI a).length := by show 15 - s.i < 16; omega
  have kb : 15 - s.i < (bI b).length := by show 15 - s.i < 16; omega
  have ko : 15 - s.i < (s.out.set (15 - s.i) (UInt8.ofNat n)).length := by rw [List.length_set, h.hl]; omega
  have e1 : 16 - (s.i + 1) = 15 - s.i := by omega
  have e2 : 15 - s.i + 1 = 16 - s.i := by omega
  have la : (bI a).length = 16 := rfl
  have lb : (bI b).length = 16 := rfl
  have lo : (s.out.set (15 - s.i) (UInt8.ofNat n)).length = 16 := by rw [List.length_set, h.hl]
  simp only
  rw [e1, drop_cons ka, drop_cons kb, drop_cons ko, la, lb, lo, e2, show 16 - (16 - s.i) = s.i by omega]
  have xa : (bI a)[15 - s.i] = x := by rw [List.getElem?_eq_getElem ka] at hx; exact Option.some.inj hx
  have yb : (bI b)[15 - s.i] = y := by rw [List.getElem?_eq_getElem kb] at hy; exact Option.some.inj hy
  rw [xa, yb, List.getElem_set_self, List.drop_set_of_lt (by omega)]
  have hn2 : (UInt8.ofNat n).toNat = n := by simp; omega
  rw [hn2]
  have heq := h.eq
  have hxe : x.toNat + 256 * br = y.toNat + s.br + n := by omega
  have key : x.toNat * 256 ^ s.i + br * 256 ^ (s.i + 1) = y.toNat * 256 ^ s.i + n * 256 ^ s.i + s.br * 256 ^ s.i := by
    rw [Nat.pow_succ, show br * (256 ^ s.i * 256) = (256 * br) * 256 ^ s.i by rw [Nat.mul_comm (256 ^ s.i) 256, ← Nat.mul_assoc, Nat.mul_comm br 256], ← Nat.add_mul, hxe, Nat.add_mul, Nat.add_mul]
    omega
  omega
theorem SubInv.done {a b o : IDV} {br : Nat} (h : SubInv a b ⟨16, bI o, br⟩) : o = subI a b := by
  apply valI_inj
  rw [valI_subI]
  have heq := h.eq
  have hb := h.hb
  simp only [Nat.sub_self, List.drop_zero] at heq hb
  have h1 : valB (bI a) = valI a := rfl
  have h2 : valB (bI b) = valI b := rfl
  have h3 : valB (bI o) = valI o := rfl
  rw [h1, h2, h3] at heq
  have l1 := valI_lt a
  have l2 := valI_lt b
  have l3 := valI_lt o
  have hp : (256 : Nat) ^ 16 = 2 ^ 128 := by decide
  rw [hp] at heq
  have : br = 0 ∨ br = 1 := by omega
  rcases this with rfl | rfl <;> omega

end Go.Proofs.YtohldionclgljaaGreat
