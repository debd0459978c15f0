/-
  The calculus, whole: what was added last.
-/
import Derived.Test.YtohldionclgljaaGreatJi
namespace Go.J
open Go.RowKit
set_option linter.unusedVariables false
set_option linter.unusedSimpArgs false
theorem JX.ret3 {P : Program} {fn : Func} {R : Ending → World → Prop} {n : Nat} {e : Env} {I : World → Prop} {t u s : Nat} {v v' v'' : Value} (hr : fn.results = #[.tmp t, .tmp u, .tmp s]) (hv : get e t = some v) (hv' : get e u = some v') (hv'' : get e s = some v'') (h : ∀ w, I w → R (.returned (.tuple #[v, v', v''])) w) :
    JX (bodyPost P fn R) n .ret e I := by
  intro T w ht hw
  refine ⟨rfl, .tuple #[v, v', v''], ?_, h w hw⟩
  rw [results_tmp3 hr, Array.getD_eq_getD_getElem?, Array.getD_eq_getD_getElem?, Array.getD_eq_getD_getElem?, ht.2 t v hv, ht.2 u v' hv', ht.2 s v'' hv'']; rfl
/-- two lists of blocks with the same parts -/
noncomputable def cntB (a : Nat × Obj) (l : List (Nat × Obj)) : Nat := by classical exact l.count a
noncomputable def oneB (a x : Nat × Obj) : Nat := by classical exact if x == a then 1 else 0
theorem cntB_nil (a : Nat × Obj) : cntB a [] = 0 := by simp [cntB]
theorem cntB_cons (a x : Nat × Obj) (l : List (Nat × Obj)) : cntB a (x :: l) = cntB a l + oneB a x := by simp [cntB, oneB, List.count_cons]
theorem cntB_append (a : Nat × Obj) (l l' : List (Nat × Obj)) : cntB a (l ++ l') = cntB a l + cntB a l' := by simp [cntB, List.count_append]
theorem perm_cnt {l l' : List (Nat × Obj)} (h : ∀ a, cntB a l = cntB a l') : l.Perm l' := by
  classical exact List.perm_iff_count.2 (fun a => h a)
theorem Vec.at {t m c j : Nat} {a : Option Addr} {ys : List UInt8} {lp : List (Nat × Obj)} (h : Vec t 1 (.slice a m c) m (ys.map u8) lp) (hj : j < m) :
    ∃ b sp, a = some ⟨b, 0, none⟩ ∧ lp = [(b, cb (ys.map u8 ++ sp) t)] ∧ ys.length = m ∧
      ∀ x, Vec t 1 (.slice (some ⟨b, 0, none⟩) m c) m ((ys.set j x).map u8) [(b, cb (setMany (ys.map u8 ++ sp) (0 + (j : Int).toNat * 1) [u8 x]) t)] := by
  obtain ⟨hl, h⟩ := h
  have hyl : ys.length = m := by simpa using hl
  rcases h with ⟨_, h0, _⟩ | ⟨b, c', sp, hve, rfl, hcap, hk⟩
  · omega
  · simp only [Value.slice.injEq, true_and] at hve
    obtain ⟨rfl, rfl⟩ := hve
    refine ⟨b, sp, rfl, rfl, hyl, fun x => ⟨by simp [hyl], .inr ⟨b, c, sp, rfl, ?_, by simp only [List.length_append, List.length_map, List.length_set] at hcap ⊢; exact hcap, hk⟩⟩⟩
    have : 0 + (j : Int).toNat * 1 = j := by simp
    rw [this]
    simp only [setMany]
    rw [List.set_append_left _ _ (by simp; omega), ← List.map_set]
theorem at_u8 {ys : List UInt8} {sp : List Value} {j : Nat} (h : j < ys.length) : (ys.map u8 ++ sp)[0 + (j : Int).toNat * 1]? = some (u8 ys[j]) := by
  have : 0 + (j : Int).toNat * 1 = j := by simp
  rw [this, List.getElem?_append_left (by simpa using h)]
  simp [List.getElem?_eq_getElem h]
theorem Row.some {w : World} {v : Value} {k : Nat} {xs : List Value} (h : Row w v k xs) (hx : 0 < xs.length) : ∃ b o c, v = .slice (some ⟨b, o, none⟩) k c ∧ k ≤ c ∧ Cells w b o xs := by
  obtain ⟨a, c, rfl, hk, h⟩ := h
  rcases h with h | ⟨b, o, rfl, h⟩
  · rw [h] at hx; simp at hx
  · exact ⟨b, o, c, rfl, hk, h⟩
theorem Cells.at_u8 {w : World} {b o : Nat} {bs : List UInt8} (h : Cells w b o (bs.map u8)) {i : Nat} (hi : i < bs.length) {q : Nat} (hq : q = o + i) : w.cell? ⟨b, q, none⟩ = some (u8 bs[i]) := by
  have := h i (by simpa using hi)
  rw [hq, this]; simp [List.getElem?_eq_getElem hi]
theorem take_add_one {α : Type} {l : List α} {i : Nat} (h : i < l.length) : l.take (i + 1) = l.take i ++ [l[i]] := by
  rw [List.take_add_one, List.getElem?_eq_getElem h]; rfl

/-- a call that only read known blocks: what it made -/
theorem St.free {w w' : World} {l1 l : List (Nat × Obj)} (h0 : Own w l1) (h : St w (l1.map (·.1)) (l ++ l1) w') : St w [] l w' := by
  have hd := List.pairwise_append.1 h.dist
  refine ⟨h.os, h.tape, h.output, h.size, h.drawn, fun b hb _ => ?_, fun p hp => h.own p (List.mem_append_left _ hp), fun p hp => ?_, hd.1⟩
  · by_cases hm : b ∈ l1.map (·.1)
    · obtain ⟨q, hq, rfl⟩ := List.mem_map.1 hm
      rw [h.own q (List.mem_append_right _ hq), h0.own q hq]
    · exact h.keep b hb hm
  · rcases h.apart p (List.mem_append_left _ hp) with h1 | h1
    · obtain ⟨q, hq, he⟩ := List.mem_map.1 h1
      exact absurd he.symm (hd.2.2 p hp q hq)
    · exact .inr h1
theorem Own.at {w w' : World} {l1 l : List (Nat × Obj)} (h0 : Own w l1) (h : St w [] l w') : Own w' l1 :=
  ⟨fun p hp => by rw [h.keep p.1 (lt_of_some (h0.own p hp)) (by simp)]; exact h0.own p hp, h0.dist⟩
theorem Own.cell {w : World} {l : List (Nat × Obj)} {b o : Nat} {cs : List Value} {t : TypeId} {fr : Nat × Nat} {v : Value} (h : Own w l) (hm : (b, Obj.cells cs.toArray t fr) ∈ l) (hv : cs[o]? = some v) : w.cell? ⟨b, o, none⟩ = some v := by
  rw [cell_of (h.own _ hm)]; exact hv
/-- lists of bytes, each in memory of its own -/
inductive Recs (t : Nat) : List Value → List (List UInt8) → List (Nat × Obj) → Prop
  | nil : Recs t [] [] []
  | snoc {vs : List Value} {rs : List (List UInt8)} {lp l : List (Nat × Obj)} {v : Value} {r : List UInt8} : Recs t vs rs lp → Vec t 1 v r.length (r.map u8) l → Recs t (vs ++ [v]) (rs ++ [r]) (lp ++ l)
theorem Recs.length {t : Nat} {vs : List Value} {rs : List (List UInt8)} {lp : List (Nat × Obj)} (h : Recs t vs rs lp) : vs.length = rs.length := by
  induction h with
  | nil => rfl
  | snoc _ _ ih => simp [ih]
theorem Recs.row {t : Nat} {vs : List Value} {rs : List (List UInt8)} {lp : List (Nat × Obj)} (h : Recs t vs rs lp) : ∀ {w0 w : World} {S : List Nat} {l : List (Nat × Obj)}, St w0 S (lp ++ l) w → ∀ (i : Nat) (v : Value) (r : List UInt8), vs[i]? = some v → rs[i]? = some r → Row w v r.length (r.map u8) := by
  induction h with
  | nil => intro w0 w S l _ i v r h; simp at h
  | @snoc vs rs lp l' v r hr hv ih =>
    intro w0 w S l hw i v' r' h1 h2
    rw [List.append_assoc] at hw
    by_cases hi : i < vs.length
    · rw [List.getElem?_append_left hi] at h1
      rw [List.getElem?_append_left (by rw [← hr.length]; exact hi)] at h2
      exact ih hw i v' r' h1 h2
    · rw [List.getElem?_append_right (by omega)] at h1
      rw [List.getElem?_append_right (by rw [← hr.length]; omega)] at h2
      have : i - vs.length = 0 := by
        have := (List.getElem?_eq_some_iff.1 h1).1
        simp at this; omega
      have e2 : i - rs.length = 0 := by rw [← hr.length]; exact this
      rw [this] at h1
      rw [e2] at h2
      simp only [List.getElem?_cons_zero, Option.some.injEq] at h1 h2
      subst h1; subst h2
      exact hv.row (l := lp ++ l) (hw.perm (by
        rw [← List.append_assoc, ← List.append_assoc]
        exact List.Perm.append_right _ List.perm_append_comm))
/-- a list of lists of bytes, as one that is read -/
def RowRecs (w : World) (v : Value) (rs : List (List UInt8)) : Prop := ∃ vs, Row w v rs.length vs ∧ vs.length = rs.length ∧ ∀ (i : Nat) (u : Value) (r : List UInt8), vs[i]? = some u → rs[i]? = some r → Row w u r.length (r.map u8)
theorem RowRecs.nil (w : World) : RowRecs w (.slice none 0 0) [] := ⟨[], ⟨none, 0, rfl, Nat.le_refl _, .inl rfl⟩, rfl, fun i u r h => by simp at h⟩
theorem RowRecs.of {t t' : Nat} {v : Value} {vs : List Value} {rs : List (List UInt8)} {lv lp l : List (Nat × Obj)} {w0 w : World} {S : List Nat} (hv : Vec t 1 v rs.length vs lv) (hr : Recs t' vs rs lp) (hw : St w0 S (lv ++ lp ++ l) w) : RowRecs w v rs :=
  ⟨vs, hv.row (l := lp ++ l) (by rw [List.append_assoc] at hw; exact hw), hr.length, fun i u r h1 h2 => hr.row (l := l) (hw.drop (by rw [List.append_assoc]; exact List.sublist_append_right _ _)) i u r h1 h2⟩
theorem RowRecs.below {w w' : World} {v : Value} {rs : List (List UInt8)} (h : RowRecs w v rs) (hb : Bel w w') : RowRecs w' v rs := by
  obtain ⟨vs, h1, h2, h3⟩ := h
  exact ⟨vs, h1.below hb, h2, fun i u r e1 e2 => (h3 i u r e1 e2).below hb⟩
theorem Cells.st {w0 w : World} {b o : Nat} {xs : List Value} {l : List (Nat × Obj)} (h : Cells w0 b o xs) (hx : 0 < xs.length) (hw : St w0 [] l w) : Cells w b o xs :=
  h.blk (hw.keep b (h.lt (by intro e; rw [e] at hx; simp at hx)) (by simp))
theorem Cells.get {w : World} {b o : Nat} {xs : List Value} (h : Cells w b o xs) {i : Nat} {v : Value} (hv : xs[i]? = some v) {q : Nat} (hq : q = o + i) : w.cell? ⟨b, q, none⟩ = some v := by
  have hi : i < xs.length := (List.getElem?_eq_some_iff.1 hv).1
  rw [hq, h i hi]; exact hv
theorem run_convBytes {P : Program} {w : World} {t e b k c : Nat} {cs : List Value} (ht : P.underlying t = some (.slice e)) (he : P.underlying e = some (.int .u8)) (hb : w.heap[b]? = some (cb cs e)) :
    ∃ w', (convert t t (.slice (some ⟨b, 0, none⟩) k c)).run P w = .ok (.slice (some ⟨b, 0, none⟩) k c) w' ∧ Wrote w w' b (.cells cs.toArray e (cs.length, cs.length + 1)) := by
  refine ⟨w.freeze ⟨b, cs.length, none⟩ 1, ?_, ?_⟩
  · simp [convert, run_underlying' ht, run_underlying' he, markStringish, World.shape?, hb]
  · unfold World.freeze
    rw [if_neg (by decide)]
    refine ⟨rfl, rfl, rfl, by simp, rfl, ?_, fun k hk => ?_⟩
    · simp [Array.getElem?_modify, hb]
    · simp only [Array.getElem?_modify]
      rw [if_neg (fun e => hk e.symm)]
section
variable {P : Program} {ops : Array Oper} {Q : Exit → Act → World → Prop} {n : Nat} {e : Env} {I : World → Prop} {rest : List Oper}
variable {d t : Nat} {p : String} {af : Array Edge} {x y z : Operand} {v : Value} {w0 : World} {S : List Nat} {l l' : List (Nat × Obj)}
theorem J.shrN {ty : TypeId} {k k' : IntKind} {a b : Int} {yt : Nat} (hx : ev e x = some (.int k a)) (hy : ev e y = some (.int k' b)) (hb : 0 ≤ b) (hd : Nat.blt d n = true)
    (h : J P ops Q n rest ((d, .int k (a.fdiv (2 ^ (min b.toNat k.bits)))) :: e) I) : J P ops Q n (⟨some d, .binOp .shr ty x y yt, t, p, af, none⟩ :: rest) e I :=
  J.bin hx hy (by simp only [binI]; rw [if_neg (by omega)]) hd h
theorem J.convBytes {ty el b k c : Nat} {cs : List Value} (hs : P.underlying ty = some (.slice el)) (he : P.underlying el = some (.int .u8)) (hx : ev e x = some (.slice (some ⟨b, 0, none⟩) k c)) (hu : Up l b (cb cs el) (.cells cs.toArray el (cs.length, cs.length + 1)) l') (hd : Nat.blt d n = true)
    (h : J P ops Q n rest ((d, .slice (some ⟨b, 0, none⟩) k c) :: e) (St w0 S l')) : J P ops Q n (⟨some d, .convert ty ty x, t, p, af, none⟩ :: rest) e (St w0 S l) := by
  refine J.value hd (fun T w ht hw => ?_) h
  obtain ⟨w', hr, hw'⟩ := run_convBytes (P := P) (k := k) (c := c) hs he (hw.own _ hu.mem)
  exact ⟨w', by simp [execOp, ht.eval hx, hr], hw.wrote hu hw'⟩
theorem J.perm (l' : List (Nat × Obj)) (hp : l.Perm l') (h : J P ops Q n rest e (St w0 S l')) : J P ops Q n rest e (St w0 S l) := h.conseq fun _ hw => hw.perm hp
/-- a call, in a region that draws, that makes a slice -/
theorem J.callR {f : FuncId} {xs : List Operand} {ats : Array TypeId} {vs : List Value} {k : Nat} {ys : List Value} {wi : World} (hb : bodyT P f = true) (hx : evs e xs = some vs) (hd : Nat.blt d n = true)
    (hc : ∀ w, I w → Calls P f vs.toArray w fun r w' => ∃ v, r = .returned v ∧ Row w' v k ys ∧ Bel w w')
    (h : ∀ v, J P ops Q n rest ((d, v) :: e) (fun w => Row w v k ys ∧ Bel wi w)) : J P ops Q n (⟨some d, .call ⟨.value (.func f), xs.toArray, ats⟩, t, p, af, none⟩ :: rest) e (fun w => w = wi ∧ I w) := by
  refine J.call (R := fun v' w' => Row w' v' k ys ∧ Bel wi w') hb hx hd (fun w hw => ?_) h
  obtain ⟨rfl, hw⟩ := hw
  exact (hc w hw).mono fun r w' ⟨v, h1, h2, h3⟩ => ⟨v, h1, h2, h3⟩
end
end Go.J
