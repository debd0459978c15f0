/-
  Along a simple trail a Setup leaves an entry at each place: walk of the law SetupWhole.
-/
import Derived.Test.YtpldpkdlloolkaaTp
namespace Go.Proofs.Ytpldpkdlloolkaa
open Go.J Go.RowKit
set_option linter.unusedVariables false
set_option linter.unusedSimpArgs false
set_option maxRecDepth 8000
theorem zID : zeroT Try.prog 23 = some (.agg (cI zI).toArray) := by kernel_rfl
theorem len_bound : ∀ (k : Nat) (W : List Int), W.Nodup → (∀ n, n ∈ W → 0 ≤ n ∧ n < (k : Int)) → W.length ≤ k
  | 0, W, _, h => by
    cases W with
    | nil => simp
    | cons x W => have := h x (by simp); omega
  | k + 1, W, hn, h => by
    by_cases hm : (k : Int) ∈ W
    · have ih := len_bound k (W.erase (k : Int)) (hn.erase _) (fun n hx => by
        have h1 := (hn.mem_erase_iff).1 hx
        have h2 := h n h1.2
        have h3 := h1.1
        omega)
      rw [List.length_erase_of_mem hm] at ih
      omega
    · have ih := len_bound k W hn (fun n hx => by
        have h2 := h n hx
        have h3 : n ≠ (k : Int) := fun e => hm (e ▸ hx)
        omega)
      omega
theorem naW_pos {W : List Int} {i : Nat} (h1 : 1 ≤ i) (h2 : i < W.length) : naW W i = W[i - 1]'(by omega) := by
  obtain ⟨j, rfl⟩ : ∃ j, i = j + 1 := ⟨i - 1, by omega⟩
  simp [naW, List.getD_eq_getElem?_getD, List.getElem?_eq_getElem (show j < W.length by omega)]
theorem nbW_in {W : List Int} {i : Nat} (h : i + 1 < W.length) : nbW W i = W[i + 1] := by simp [nbW, List.getD_eq_getElem?_getD, List.getElem?_eq_getElem h]
theorem nbW_out {W : List Int} {i : Nat} (h : W.length ≤ i + 1) : nbW W i = -1 := by simp [nbW, List.getD_eq_getElem?_getD, List.getElem?_eq_none h]
theorem HopAt.one {W : List Int} {i : Nat} {p : PV} {a b : IDV} {out : Value} {mine : Bool} {hl : List (Nat × Obj)} (h : HopAt W i p a b out mine hl) : out.oneCell' = true := by
  cases hn : W[i]? with
  | none => rw [(h.off hn).1]; rfl
  | some n => obtain ⟨_, _, _, _, e, _⟩ := h.on n hn; rw [e]; rfl
theorem cD_one {out : Value} {m f : Bool} (h : out.oneCell' = true) : ∀ v, v ∈ cD out m f → v.oneCell' = true := by
  intro v hv
  simp only [cD, List.mem_cons, List.not_mem_nil, or_false] at hv
  rcases hv with rfl | rfl | rfl
  · exact h
  · rfl
  · rfl
theorem start_whole (t mb : Nat) (w : World) (hw0 : Own w [(t, tabO 3 mb), (mb, .map #[] 0)]) (W : List Int) (hnd : W.Nodup) (hran : ∀ n, n ∈ W → 0 ≤ n ∧ n < 6) (h6 : W.length ≤ 6) (h2 : 2 ≤ W.length) (p : PV) (hp : okN p.n)
    (n0 nl : Int) (hn0 : W[0]? = some n0) (hnl : W[W.length - 1]? = some nl) (q cq : Nat) (hr : Row w (.slice (some ⟨q, 0, none⟩) W.length cq) W.length (W.map iV)) (hoff : Off [t, mb] (.slice (some ⟨q, 0, none⟩) W.length cq) (W.map iV)) (ov : Value) (hro : Row w ov OP6.length (OP6.map bV)) (hoffo : Off [t, mb] ov (OP6.map bV)) :
    Calls Try.prog 18 [.pointer (some ⟨t, 0, none⟩), .agg (cW n0 (idW n0)).toArray, .agg (cP p).toArray, .agg (cI (idW nl)).toArray, .slice (some ⟨q, 0, none⟩) W.length cq, ov].toArray w fun r w' =>
      ∃ x : WX, r = .returned (.tuple #[.agg (cD x.out x.mine false).toArray, .int .i64 0]) ∧ (HopAt W 1 p (idW n0) (idW nl) x.out x.mine x.hl ∧ x.mine = true ∧ Tab [(⟨p, idW n0, idW nl, -1, nbW W 0⟩ : EV)] x.es x.ck) ∧ St w [t, mb] (x.hl ++ [(t, tabO 3 mb), (mb, .map x.es x.ck)]) w' := by
  match W, h2 with
  | n :: n1 :: rest, _ =>
    have e0 : n = n0 := by simpa using hn0
    subst e0
    have hb0 := hran n (by simp)
    have hb1 := hran n1 (by simp)
    have hll : (n :: n1 :: rest).length - 1 < (n :: n1 :: rest).length := by simp
    rw [List.getElem?_eq_getElem hll] at hnl
    have hnl' : (n :: n1 :: rest)[(n :: n1 :: rest).length - 1] = nl := by simpa using hnl
    have hbl := hran nl (hnl' ▸ List.getElem_mem _)
    have hne : nl ≠ n := by
      rw [← hnl']
      exact nodup_get hnd (i := 0) (by simp) hll (by simp)
    have hR : rightP (⟨p, idW n, idW nl, -1, n1⟩ : EV) := ⟨idW_ne hb0 hbl (fun e => hne e.symm), (show okTN (-1) by decide), ⟨by simp only; omega, by simp only; omega⟩, by simp only; omega⟩
    refine (start_ok t mb 3 [] #[] 0 w hw0 Tab.nil n n1 (idW n) (idW nl) p hp q 0 cq rest hr hoff (by simp at h6; omega) hnd (idW_ne hbl hb0 hne) ov OP6 hro hoffo (by decide) (open06 hb1) (tadd_nil hR (by decide))).mono fun r w' hx => ?_
    obtain ⟨x, h1, ⟨h2, h3⟩, h4⟩ := hx
    refine ⟨⟨.slice (some ⟨x.h, 0, none⟩) 1 1, true, (x.h, cb (cH n1 (cF 4 p (idW n) (idW nl) (.slice x.a (rest.length + 2) x.c))) 54) :: x.lp, x.es, x.ck⟩, h1, ⟨⟨fun k hk => ?_, fun hk => ?_⟩, rfl, h3⟩, h4⟩
    · have : n1 = k := by simpa using hk
      subst this
      exact ⟨x.h, x.a, x.c, x.lp, rfl, rfl, h2⟩
    · simp at hk
structure LS where
  i : Nat
  W : List Int
  a5 : Option Addr
  c5 : Nat
  lp : List (Nat × Obj)
structure LG where
  i : Nat
  t : Nat
  mb : Nat
  es : Array MapEntry
  ck : Nat
  out : Value
  mine : Bool
  hl : List (Nat × Obj)

end Go.Proofs.Ytpldpkdlloolkaa
