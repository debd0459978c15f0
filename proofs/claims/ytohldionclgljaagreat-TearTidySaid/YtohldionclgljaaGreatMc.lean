/-
  Identities as numbers; the model's comparison of bytes. Proved over any program.
-/
import Derived.Test.YtohldionclgljaaGreatMb
import Derived.Sort.Grow
import Derived.Deep.Draws
namespace Go.J
open Go.RowKit
set_option linter.unusedVariables false
set_option linter.unusedSimpArgs false

def lexB : List UInt8 → List UInt8 → Int
  | [], [] => 0
  | [], _ :: _ => -1
  | _ :: _, [] => 1
  | a :: as, b :: bs => if a = b then lexB as bs else if a < b then -1 else 1
theorem str_get (xs : List UInt8) (i : Nat) : (str xs)[i]! = xs.getD i 0 := by
  by_cases h : i < xs.length
  · rw [getElem!_pos (str xs) i (by rw [str_size]; exact h)]
    simp [str, List.getD_eq_getElem?_getD, List.getElem?_eq_getElem h]
    rfl
  · rw [getElem!_neg (str xs) i (by rw [str_size]; exact h)]
    simp [List.getD_eq_getElem?_getD, List.getElem?_eq_none (by omega : xs.length ≤ i)]
    rfl
theorem find_range (p : Nat → Bool) : ∀ n, (List.range (n + 1)).find? p = if p 0 then some 0 else ((List.range n).find? fun i => p (i + 1)).map (· + 1) := by
  intro n
  rw [List.range_succ_eq_map, List.find?_cons]
  cases h : p 0 with
  | true => rfl
  | false =>
    simp only [Bool.false_eq_true, if_false]
    rw [List.find?_map]
    rfl
theorem cmp_lex : ∀ (xs ys : List UInt8), xs.length = ys.length → Extern.BytealgCompare.cmp (str xs) (str ys) = lexB xs ys
  | [], [], _ => rfl
  | [], _ :: _, h => by simp at h
  | _ :: _, [], h => by simp at h
  | x :: xs, y :: ys, h => by
    have ih := cmp_lex xs ys (by simpa using h)
    unfold Extern.BytealgCompare.cmp at ih ⊢
    simp only [str_size, List.length_cons] at ih ⊢
    rw [show min (xs.length + 1) (ys.length + 1) = min xs.length ys.length + 1 by omega, find_range]
    simp only [str_get, List.getD_cons_zero, List.getD_cons_succ] at ih ⊢
    by_cases hxy : x = y
    · subst hxy
      simp only [bne_self_eq_false, Bool.false_eq_true, if_false]
      rw [lexB, if_pos rfl, ← ih]
      cases hf : (List.range (min xs.length ys.length)).find? (fun i => xs.getD i 0 != ys.getD i 0) with
      | none =>
        simp only [Option.map_none]
        have : xs.length = ys.length := by simpa using h
        simp [this]
      | some i => simp only [Option.map_some, List.getD_cons_succ]
    · rw [if_pos (by simpa using hxy)]
      simp only [List.getD_cons_zero]
      rw [lexB, if_neg hxy]
def valB : List UInt8 → Nat
  | [] => 0
  | b :: bs => b.toNat * 256 ^ bs.length + valB bs
theorem valB_lt : ∀ bs : List UInt8, valB bs < 256 ^ bs.length
  | [] => by simp [valB]
  | b :: bs => by
    have h1 := valB_lt bs
    have h2 := b.toNat_lt
    simp only [valB, List.length_cons, Nat.pow_succ]
    have h3 : b.toNat * 256 ^ bs.length ≤ 255 * 256 ^ bs.length := Nat.mul_le_mul_right _ (by omega)
    omega
theorem lexB_val : ∀ (xs ys : List UInt8), xs.length = ys.length → lexB xs ys = if valB xs < valB ys then -1 else if valB ys < valB xs then 1 else 0
  | [], [], _ => by simp [lexB, valB]
  | [], _ :: _, h => by simp at h
  | _ :: _, [], h => by simp at h
  | x :: xs, y :: ys, h => by
    have hl : xs.length = ys.length := by simpa using h
    have ih := lexB_val xs ys hl
    have h1 := valB_lt xs
    have h2 := valB_lt ys
    rw [hl] at h1
    have hA : valB (x :: xs) = x.toNat * 256 ^ ys.length + valB xs := by simp only [valB]; rw [hl]
    have hB : valB (y :: ys) = y.toNat * 256 ^ ys.length + valB ys := rfl
    rw [hA, hB]
    simp only [lexB]
    by_cases hxy : x = y
    · subst hxy
      rw [if_pos rfl, ih]
      simp only [Nat.add_lt_add_iff_left]
    · rw [if_neg hxy]
      have hne : x.toNat ≠ y.toNat := fun e => hxy (UInt8.toNat_inj.1 e)
      rcases Nat.lt_or_ge x.toNat y.toNat with hlt | hge
      · have h3 : (x.toNat + 1) * 256 ^ ys.length ≤ y.toNat * 256 ^ ys.length := Nat.mul_le_mul_right _ hlt
        rw [Nat.add_mul, Nat.one_mul] at h3
        rw [if_pos (UInt8.lt_iff_toNat_lt.2 hlt), if_pos (by omega)]
      · have h3 : (y.toNat + 1) * 256 ^ ys.length ≤ x.toNat * 256 ^ ys.length := Nat.mul_le_mul_right _ (by omega)
        rw [Nat.add_mul, Nat.one_mul] at h3
        rw [if_neg (by rw [UInt8.lt_iff_toNat_lt]; omega), if_neg (by omega), if_pos (by omega)]
theorem valB_inj : ∀ (xs ys : List UInt8), xs.length = ys.length → valB xs = valB ys → xs = ys
  | [], [], _, _ => rfl
  | [], _ :: _, h, _ => by simp at h
  | _ :: _, [], h, _ => by simp at h
  | x :: xs, y :: ys, h, hv => by
    have hl : xs.length = ys.length := by simpa using h
    have h1 := valB_lt xs
    have h2 := valB_lt ys
    simp only [valB] at hv
    rw [hl] at h1 hv
    have hxy : x.toNat = y.toNat := by
      rcases Nat.lt_trichotomy x.toNat y.toNat with hlt | he | hlt
      · have h3 : (x.toNat + 1) * 256 ^ ys.length ≤ y.toNat * 256 ^ ys.length := Nat.mul_le_mul_right _ hlt
        rw [Nat.add_mul, Nat.one_mul] at h3
        omega
      · exact he
      · have h3 : (y.toNat + 1) * 256 ^ ys.length ≤ x.toNat * 256 ^ ys.length := Nat.mul_le_mul_right _ hlt
        rw [Nat.add_mul, Nat.one_mul] at h3
        omega
    rw [hxy] at hv
    rw [UInt8.toNat_inj.1 hxy, valB_inj xs ys hl (by omega)]
abbrev bI (a : IDV) : List UInt8 := [a 0, a 1, a 2, a 3, a 4, a 5, a 6, a 7, a 8, a 9, a 10, a 11, a 12, a 13, a 14, a 15]
/-- an identity's number -/
def valI (a : IDV) : Nat := valB (bI a)
theorem valI_lt (a : IDV) : valI a < 2 ^ 128 := by
  have := valB_lt (bI a)
  simpa [valI] using this
theorem bI_inj {a b : IDV} (h : bI a = bI b) : a = b := cI_eq.1 (by
  have := congrArg (List.map u8) h
  exact this)
theorem valI_inj {a b : IDV} (h : valI a = valI b) : a = b := bI_inj (valB_inj _ _ rfl h)
def cmpI (a b : IDV) : Int := if valI a < valI b then -1 else if valI b < valI a then 1 else 0
theorem cmp_bI (a b : IDV) : Extern.BytealgCompare.cmp (str (bI a)) (str (bI b)) = cmpI a b := by
  rw [cmp_lex (bI a) (bI b) rfl, lexB_val (bI a) (bI b) rfl]
  rfl
theorem run_loadBytesE {P : Program} {w : World} {b : Nat} : ∀ (l : List UInt8) (o : Nat) (acc : ByteArray), (∀ j x, l[j]? = some x → w.cell? ⟨b, o + j, none⟩ = some (u8 x)) →
    (Extern.Bytes.loadBytes ⟨b, o, none⟩ l.length acc).run P w = .ok ⟨acc.data ++ l.toArray⟩ w
  | [], o, acc, _ => by simp [Extern.Bytes.loadBytes]
  | x :: l, o, acc, h => by
    have h0 : w.cell? ⟨b, o, none⟩ = some (u8 x) := h 0 x rfl
    have ih := run_loadBytesE (P := P) (w := w) (b := b) l (o + 1) (acc.push x) (fun j y hy => by
      have := h (j + 1) y (by simpa using hy)
      rw [show o + 1 + j = o + (j + 1) by omega]; exact this)
    have hx : ((x.toNat : Int).toNat).toUInt8 = x := by simp
    simp only [List.length_cons, Extern.Bytes.loadBytes, Sem.run_bind, run_load, h0, Result.andThen_ok, addr_add, hx]
    rw [ih]
    congr 1
    apply ByteArray.ext
    simp [ByteArray.push]
theorem run_bytesOf {P : Program} {w : World} {v : Value} {m : Nat} {bs : List UInt8} (h : Row w v m (bs.map u8)) (hl : bs.length = m) : (Extern.Bytes.bytesOf v).run P w = .ok (str bs) w := by
  obtain ⟨a, c, rfl, _, h⟩ := h
  cases a with
  | none =>
    have : bs = [] := by
      rcases h with h | ⟨b, o, ha, _⟩
      · exact List.map_eq_nil_iff.1 h
      · cases ha
    subst this
    rfl
  | some a =>
    rcases h with h | ⟨b, o, ha, hc⟩
    · have := List.map_eq_nil_iff.1 h
      subst this
      simp only [List.length_nil] at hl
      subst hl
      rfl
    · simp only [Option.some.injEq] at ha
      subst ha
      subst hl
      simp only [Extern.Bytes.bytesOf]
      rw [run_loadBytesE bs o .empty (fun j x hj => by
        have hlt := (List.getElem?_eq_some_iff.1 hj).1
        have := hc j (by simpa using hlt)
        rw [this, List.getElem?_map, hj]; rfl)]
      simp [str]
theorem run_compare {P : Program} {w : World} {v1 v2 : Value} {xs ys : List UInt8} (h1 : Row w v1 xs.length (xs.map u8)) (h2 : Row w v2 ys.length (ys.map u8)) :
    (Extern.BytealgCompare.compare #[v1, v2]).run P w = .ok (.int .i64 (Extern.BytealgCompare.cmp (str xs) (str ys))) w := by
  have e : Extern.BytealgCompare.compare #[v1, v2] = (do pure (goInt (Extern.BytealgCompare.cmp (← Extern.Bytes.bytesOf v1) (← Extern.Bytes.bytesOf v2)))) := rfl
  rw [e]
  simp only [Sem.run_bind, run_bytesOf h1 rfl, run_bytesOf h2 rfl, Result.andThen_ok, Sem.run_pure]
  rfl
theorem Bel.grown {w w' : World} (h : Bel w w') : ∃ q os', w' = Sort.grow (w.drewN q) os' := by
  refine ⟨w'.drawn - w.drawn, w'.heap.extract w.heap.size w'.heap.size, ?_⟩
  have hh : w'.heap = w.heap ++ w'.heap.extract w.heap.size w'.heap.size := by
    apply Array.ext_getElem?
    intro k
    by_cases hk : k < w.heap.size
    · rw [Array.getElem?_append_left hk]
      exact h.block k hk
    · rw [Array.getElem?_append_right (by omega), Array.getElem?_extract]
      by_cases hk2 : k < w'.heap.size
      · rw [if_pos (by have := h.size; omega), show w.heap.size + (k - w.heap.size) = k by omega]
      · rw [if_neg (by omega), Array.getElem?_eq_none (by omega)]
  have hd : w.drawn + (w'.drawn - w.drawn) = w'.drawn := by have := h.drawn; omega
  cases w'
  simp only [Sort.grow, World.drewN] at hh hd ⊢
  have h1 := h.os; have h2 := h.tape; have h3 := h.output
  simp only at h1 h2 h3
  subst h1 h2 h3
  rw [← hh, hd]
end Go.J
