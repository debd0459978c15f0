/-
  The calculus: calls that work on known blocks; further rules. Proved over any program.
-/
import Derived.Test.YtohldionclgljaaGreatJh
namespace Go.J
open Go.RowKit
set_option linter.unusedVariables false
set_option linter.unusedSimpArgs false

structure Own (w : World) (l : List (Nat × Obj)) : Prop where
  own : ∀ p, p ∈ l → w.heap[p.1]? = some p.2
  dist : l.Pairwise (fun p q => p.1 ≠ q.1)
theorem Own.st {w : World} {l : List (Nat × Obj)} (h : Own w l) : St w (l.map (·.1)) l w := St.startS h.own h.dist
theorem St.owns {w0 w : World} {S : List Nat} {l1 l : List (Nat × Obj)} (h : St w0 S (l1 ++ l) w) : Own w l1 :=
  ⟨fun p hp => h.own p (List.mem_append_left _ hp), (List.pairwise_append.1 h.dist).1⟩
theorem St.owns' {w0 w : World} {S : List Nat} {l : List (Nat × Obj)} (h : St w0 S l w) : Own w l := ⟨h.own, h.dist⟩

/-- behind a call that worked on l1 and left l1' -/
theorem St.call {w0 w w' : World} {S : List Nat} {l1 l1' l : List (Nat × Obj)} (h : St w0 S (l1 ++ l) w) (h' : St w (l1.map (·.1)) l1' w') : St w0 S (l1' ++ l) w' := by
  have hd := List.pairwise_append.1 h.dist
  have hne : ∀ q, q ∈ l → q.1 ∉ l1.map (·.1) := by
    intro q hq hm
    obtain ⟨p, hp, he⟩ := List.mem_map.1 hm
    exact hd.2.2 p hp q hq he
  refine ⟨h'.os.trans h.os, h'.tape.trans h.tape, h'.output.trans h.output, Nat.le_trans h.size h'.size, Nat.le_trans h.drawn h'.drawn, fun b hb hS => ?_, fun p hp => ?_, fun p hp => ?_, ?_⟩
  · rw [h'.keep b (Nat.lt_of_lt_of_le hb h.size) ?_]
    · exact h.keep b hb hS
    · intro hm
      obtain ⟨p, hp, he⟩ := List.mem_map.1 hm
      rcases h.apart p (List.mem_append_left _ hp) with h1 | h1
      · exact hS (he ▸ h1)
      · have : p.1 = b := he
        omega
  · rcases List.mem_append.1 hp with h1 | h1
    · exact h'.own p h1
    · rw [h'.keep p.1 (lt_of_some (h.own p (List.mem_append_right _ h1))) (hne p h1)]
      exact h.own p (List.mem_append_right _ h1)
  · rcases List.mem_append.1 hp with h1 | h1
    · rcases h'.apart p h1 with h2 | h2
      · obtain ⟨q, hq, he⟩ := List.mem_map.1 h2
        have : q.1 = p.1 := he
        rcases h.apart q (List.mem_append_left _ hq) with h3 | h3
        · exact .inl (this ▸ h3)
        · right; omega
      · right; have := h.size; omega
    · exact h.apart p (List.mem_append_right _ h1)
  · refine List.pairwise_append.2 ⟨h'.dist, hd.2.1, fun p hp q hq he => ?_⟩
    rcases h'.apart p hp with h2 | h2
    · exact hne q hq (he ▸ h2)
    · have := lt_of_some (h.own q (List.mem_append_right _ hq))
      omega
theorem St.perm {w0 w : World} {S : List Nat} {l l' : List (Nat × Obj)} (h : St w0 S l w) (hp : l.Perm l') : St w0 S l' w :=
  ⟨h.os, h.tape, h.output, h.size, h.drawn, h.keep, fun p hq => h.own p (hp.mem_iff.2 hq), fun p hq => h.apart p (hp.mem_iff.2 hq), (hp.pairwise_iff (fun hab => Ne.symm hab)).1 h.dist⟩
theorem St.rot {w0 w : World} {S : List Nat} {p : Nat × Obj} {l : List (Nat × Obj)} (h : St w0 S (p :: l) w) : St w0 S (l ++ [p]) w :=
  h.perm (List.perm_append_comm (l₁ := [p]))
theorem St.swap {w0 w : World} {S : List Nat} {p q : Nat × Obj} {l : List (Nat × Obj)} (h : St w0 S (p :: q :: l) w) : St w0 S (q :: p :: l) w := h.perm (.swap q p l)

theorem St.same {w w' : World} {l l' : List (Nat × Obj)} (h0 : Own w l) (h : St w (l.map (·.1)) l' w') (hs : ∀ p, p ∈ l → p ∈ l') : Bel w w' :=
  ⟨⟨h.os, h.tape, h.output, h.size, fun k hk => by
    by_cases hm : k ∈ l.map (·.1)
    · obtain ⟨p, hp, rfl⟩ := List.mem_map.1 hm
      rw [h.own p (hs p hp), h0.own p hp]
    · exact h.keep k hk hm⟩, h.drawn⟩

theorem Own.st0 {w : World} {l : List (Nat × Obj)} (h : Own w l) : St w (l.map (·.1)) (l ++ []) w := by rw [List.append_nil]; exact h.st
theorem Own.keep {w w' : World} {l : List (Nat × Obj)} (h0 : Own w l) (hb : Bel w w') : St w (l.map (·.1)) l w' := h0.st.step hb
theorem Vec.form {t sz k : Nat} {v : Value} {xs : List Value} {lp : List (Nat × Obj)} (h : Vec t sz v k xs lp) : ∃ a c, v = .slice a k c ∧ k ≤ c := by
  obtain ⟨_, h⟩ := h
  rcases h with ⟨rfl, rfl, _⟩ | ⟨b, c, sp, rfl, _, _, hk⟩
  · exact ⟨_, _, rfl, Nat.le_refl _⟩
  · exact ⟨_, _, rfl, hk⟩
theorem Row.slice {w : World} {a : Option Addr} {k c sz i j : Nat} {xs : List Value} (h : Row w (.slice a k c) k xs) (hl : xs.length = k * sz) (hij : i ≤ j) (hj : j ≤ k) :
    Row w (.slice (if c = i then a else a.map (·.add (i * sz))) (j - i) (c - i)) (j - i) ((xs.drop (i * sz)).take ((j - i) * sz)) := by
  obtain ⟨a', c', hv, hk, h⟩ := h
  simp only [Value.slice.injEq] at hv
  obtain ⟨rfl, _, rfl⟩ := hv
  refine ⟨_, _, rfl, by omega, ?_⟩
  by_cases hc : c = i
  · left
    have : j - i = 0 := by omega
    rw [this]; simp
  · rw [if_neg hc]
    rcases h with h | ⟨b, o, ha, h⟩
    · left; rw [h]; simp
    · right
      refine ⟨b, o + i * sz, by rw [ha, Option.map_some, addr_add], fun q hq => ?_⟩
      simp only [List.length_take, List.length_drop] at hq
      have h1 : i * sz + q < xs.length := by omega
      rw [List.getElem?_take_of_lt (by omega), List.getElem?_drop, Nat.add_assoc]
      exact h (i * sz + q) h1

section
variable {P : Program} {ops : Array Oper} {Q : Exit → Act → World → Prop} {n : Nat} {e : Env} {I I' : World → Prop} {rest : List Oper}
variable {d t yt : Nat} {p : String} {af : Array Edge} {x y z : Operand} {v v1 v2 : Value} {w0 : World} {S : List Nat} {l l' l1 lp : List (Nat × Obj)}

theorem J.callS {f : FuncId} {xs : List Operand} {ats : Array TypeId} {vs : List Value} {α : Type} {V : α → Value} {Pr : α → Prop} {L : α → List (Nat × Obj)} (hb : bodyT P f = true) (hx : evs e xs = some vs) (hd : Nat.blt d n = true)
    (hc : ∀ w, St w0 S (l1 ++ l) w → Calls P f vs.toArray w fun r w' => ∃ x, r = .returned (V x) ∧ Pr x ∧ St w (l1.map (·.1)) (L x) w')
    (h : ∀ x, Pr x → J P ops Q n rest ((d, V x) :: e) (St w0 S (L x ++ l))) : J P ops Q n (⟨some d, .call ⟨.value (.func f), xs.toArray, ats⟩, t, p, af, none⟩ :: rest) e (St w0 S (l1 ++ l)) := by
  refine J.call (R := fun v w' => ∃ x, v = V x ∧ Pr x ∧ St w0 S (L x ++ l) w') hb hx hd (fun w hw => (hc w hw).mono fun r w' ⟨x, h1, h2, h3⟩ => ⟨V x, h1, x, rfl, h2, hw.call h3⟩) (fun v => J.ex fun x => J.pr fun hv => J.pr fun hp => ?_)
  subst hv
  exact h x hp
theorem J.callS0 {f : FuncId} {xs : List Operand} {ats : Array TypeId} {vs : List Value} {L : List (Nat × Obj)} (hb : bodyT P f = true) (hx : evs e xs = some vs)
    (hc : ∀ w, St w0 S (l1 ++ l) w → Calls P f vs.toArray w fun r w' => ∃ v, r = .returned v ∧ St w (l1.map (·.1)) L w')
    (h : J P ops Q n rest e (St w0 S (L ++ l))) : J P ops Q n (⟨none, .call ⟨.value (.func f), xs.toArray, ats⟩, t, p, af, none⟩ :: rest) e (St w0 S (l1 ++ l)) :=
  J.callN hb hx (fun w hw => (hc w hw).mono fun _ _ ⟨v, h1, h3⟩ => ⟨v, h1, hw.call h3⟩) h
/-- a call that changes nothing, of which the value is told -/
theorem J.callB {f : FuncId} {xs : List Operand} {ats : Array TypeId} {vs : List Value} (hI : ∀ w w', I w → Bel w w' → I w') (hb : bodyT P f = true) (hx : evs e xs = some vs) (hd : Nat.blt d n = true)
    (hc : ∀ w, I w → Calls P f vs.toArray w fun r w' => r = .returned v ∧ Bel w w')
    (h : J P ops Q n rest ((d, v) :: e) I) : J P ops Q n (⟨some d, .call ⟨.value (.func f), xs.toArray, ats⟩, t, p, af, none⟩ :: rest) e I := by
  refine J.call (R := fun v' w' => v' = v ∧ I w') hb hx hd (fun w hw => (hc w hw).mono fun r w' ⟨h1, h2⟩ => ⟨v, h1, rfl, hI w w' hw h2⟩) (fun v' => J.pr fun hv => ?_)
  subst hv
  exact h
theorem J.sliceAll {ty el : TypeId} {len b o : Nat} (he : arrT P ty = some (len, el)) (hs : (sizeT P el).isSome = true) (hx : ev e x = some (.pointer (some ⟨b, o, none⟩))) (hd : Nat.blt d n = true)
    (h : J P ops Q n rest ((d, .slice (some ⟨b, o, none⟩) len len) :: e) I) : J P ops Q n (⟨some d, .slice ty x none none none, t, p, af, none⟩ :: rest) e I := by
  obtain ⟨sz, hs⟩ := Option.isSome_iff_exists.1 hs
  refine J.sliceA (i := 0) (j := len) he hs hx rfl rfl rfl rfl (Nat.zero_le _) (Nat.le_refl _) hd ?_
  have : (if len = 0 then o else o + 0 * sz) = o := by split <;> omega
  rw [this]
  exact h
theorem J.addN {ty : TypeId} {a b : Int} (hx : ev e x = some (.int .i64 a)) (hy : ev e y = some (.int .i64 b)) (h1 : -9223372036854775808 ≤ a + b) (h2 : a + b < 9223372036854775808) (hd : Nat.blt d n = true)
    (h : J P ops Q n rest ((d, .int .i64 (a + b)) :: e) I) : J P ops Q n (⟨some d, .binOp .add ty x y yt, t, p, af, none⟩ :: rest) e I :=
  J.bin hx hy rfl hd (by rw [wrap_i64 h1 h2]; exact h)
theorem J.subN {ty : TypeId} {a b : Int} (hx : ev e x = some (.int .i64 a)) (hy : ev e y = some (.int .i64 b)) (h1 : -9223372036854775808 ≤ a - b) (h2 : a - b < 9223372036854775808) (hd : Nat.blt d n = true)
    (h : J P ops Q n rest ((d, .int .i64 (a - b)) :: e) I) : J P ops Q n (⟨some d, .binOp .sub ty x y yt, t, p, af, none⟩ :: rest) e I :=
  J.bin hx hy rfl hd (by rw [wrap_i64 h1 h2]; exact h)
theorem J.mulN {ty : TypeId} {a b : Int} (hx : ev e x = some (.int .i64 a)) (hy : ev e y = some (.int .i64 b)) (h1 : -9223372036854775808 ≤ a * b) (h2 : a * b < 9223372036854775808) (hd : Nat.blt d n = true)
    (h : J P ops Q n rest ((d, .int .i64 (a * b)) :: e) I) : J P ops Q n (⟨some d, .binOp .mul ty x y yt, t, p, af, none⟩ :: rest) e I :=
  J.bin hx hy rfl hd (by rw [wrap_i64 h1 h2]; exact h)
/-- '/' and '%' of what is not negative, by a positive constant -/
theorem J.quoN {ty : TypeId} {a b : Int} (hx : ev e x = some (.int .i64 a)) (hy : ev e y = some (.int .i64 b)) (h1 : 0 ≤ a) (h2 : a < 9223372036854775808) (h3 : 0 < b) (hd : Nat.blt d n = true)
    (h : J P ops Q n rest ((d, .int .i64 (a / b)) :: e) I) : J P ops Q n (⟨some d, .binOp .quo ty x y yt, t, p, af, none⟩ :: rest) e I := by
  refine J.bin (v := .int .i64 (IntKind.i64.wrap (a.tdiv b))) hx hy ?_ hd ?_
  · simp only [binI, if_true]
    rw [if_neg (by omega)]
  · rw [Int.tdiv_eq_ediv_of_nonneg h1]
    have h4 : 0 ≤ a / b := Int.ediv_nonneg h1 (by omega)
    have h5 : a / b ≤ a := Int.ediv_le_self b h1
    rw [wrap_i64 (by omega) (by omega)]
    exact h
theorem J.remN {ty : TypeId} {a b : Int} (hx : ev e x = some (.int .i64 a)) (hy : ev e y = some (.int .i64 b)) (h1 : 0 ≤ a) (h3 : 0 < b) (hd : Nat.blt d n = true)
    (h : J P ops Q n rest ((d, .int .i64 (a % b)) :: e) I) : J P ops Q n (⟨some d, .binOp .rem ty x y yt, t, p, af, none⟩ :: rest) e I := by
  refine J.bin (v := .int .i64 (a.tmod b)) hx hy ?_ hd ?_
  · simp only [binI, if_true]
    rw [if_neg (by omega)]
  · rw [Int.tmod_eq_emod_of_nonneg h1]; exact h
end

/- regions that draw: what is told of the slots -/
def Eqv (c : Value) : Value → World → Prop := fun v _ => v = c
def AllSt : List (Value → World → Prop) → Prop
  | [] => True
  | φ :: r => (∀ v w w', φ v w → Bel w w' → φ v w') ∧ AllSt r
theorem AllSt.getD : ∀ {l : List (Value → World → Prop)}, AllSt l → ∀ i v w w', l.getD i (fun _ _ => True) v w → Bel w w' → l.getD i (fun _ _ => True) v w'
  | [], _, _, _, _, _, _, _ => by simp
  | φ :: r, hl, i, v, w, w', h, hb => by
    cases i with
    | zero => exact hl.1 v w w' h hb
    | succ i => simp only [List.getD_cons_succ] at h ⊢; exact AllSt.getD hl.2 i v w w' h hb
theorem JC.drawL {P : Program} {Q : Exit → Act → World → Prop} {n id : Nat} {l : List Oper} {e : Env} {I : World → Prop} (N : Nat) (φs : List (Value → World → Prop)) {ds : List Nat}
    (hm : P.follows .mixedOrders = true) (hds : dsts (l.take N) = some ds) (hnd : nodupB ds = true) (hN : Nat.ble N l.length = true) (hB : headB l N = true)
    (hlt : (ds.all fun d => Nat.blt d n) = true) (hkeys : (ds.all fun d => (get e d).isNone) = true)
    (hI : ∀ w w', I w → Bel w w' → I w') (hφ : AllSt φs)
    (hstep : Steps P l n ds (fun i => φs.getD i (fun _ _ => True)) e I 0 (l.take N))
    (htail : Fin ds (fun i => φs.getD i (fun _ _ => True)) (List.range N) e I (fun e' I' => J P l.toArray Q n (l.drop N) e' I')) : JC P Q n (.region id l.toArray true) e I :=
  JC.draw N _ hm hds hnd hN hB hlt hkeys hI (fun i v w w' h hb => hφ.getD i v w w' h hb) hstep htail
def AllInd : List (Value → World → Prop) → Prop
  | [] => True
  | φ :: r => (∀ v w w', φ v w → φ v w') ∧ AllInd r
theorem AllInd.getD : ∀ {l : List (Value → World → Prop)} {b : Nat}, AllInd (l.take b) → ∀ i, i < b → ∀ v w w', l.getD i (fun _ _ => True) v w → l.getD i (fun _ _ => True) v w'
  | [], _, _, _, _, _, _, _ => by simp
  | φ :: r, b, hl, i, hi, v, w, w' => by
    cases b with
    | zero => omega
    | succ b =>
      intro h
      cases i with
      | zero => exact hl.1 v w w' h
      | succ i => simp only [List.getD_cons_succ] at h ⊢; exact AllInd.getD (b := b) hl.2 i (by omega) v w w' h
theorem JC.drawL2 {P : Program} {Q : Exit → Act → World → Prop} {n id : Nat} {l : List Oper} {e : Env} {I0 : World → Prop} (I1 : World → Prop) (N b : Nat) (φs : List (Value → World → Prop)) {ds : List Nat}
    (hm : P.follows .mixedOrders = true) (hds : dsts (l.take N) = some ds) (hnd : nodupB ds = true) (hN : Nat.ble N l.length = true) (hB : headB l N = true)
    (hlt : (ds.all fun d => Nat.blt d n) = true) (hkeys : (ds.all fun d => (get e d).isNone) = true) (hbN : Nat.blt b N = true) (hdep : depB l N b = true)
    (hI0 : ∀ w w', I0 w → Bel w w' → I0 w') (hI1 : ∀ w w', I1 w → Bel w w' → I1 w') (hind : AllInd (φs.take b)) (hφ : AllSt φs)
    (hA0 : Steps P l n ds (fun i => φs.getD i (fun _ _ => True)) e I0 0 (l.take b)) (hA1 : Steps P l n ds (fun i => φs.getD i (fun _ _ => True)) e I1 0 (l.take b)) {ob : Oper} (hob : l[b]? = some ob)
    (hb : Fin ds (fun i => φs.getD i (fun _ _ => True)) (preds ob) e I0 (fun e' I' => J P l.toArray (QB (ds.getD b 0) (φs.getD b (fun _ _ => True)) I1) n [ob] e' I'))
    (hC : Steps P l n ds (fun i => φs.getD i (fun _ _ => True)) e I1 (b + 1) ((l.take N).drop (b + 1)))
    (htail : Fin ds (fun i => φs.getD i (fun _ _ => True)) (List.range N) e I1 (fun e' I' => J P l.toArray Q n (l.drop N) e' I')) : JC P Q n (.region id l.toArray true) e I0 :=
  JC.draw2 N b _ hm hds hnd hN hB hlt hkeys hbN hdep hI0 hI1 (fun i v w w' hi h => hind.getD i hi v w w' h) (fun i v w w' h hb => hφ.getD i v w w' h hb) hA0 hA1 hob hb hC htail
section
variable {P : Program} {ops : Array Oper} {Q : Exit → Act → World → Prop} {n : Nat} {e : Env} {I I' : World → Prop} {rest : List Oper}
variable {d t yt : Nat} {p : String} {af : Array Edge} {x y z : Operand} {v v1 v2 : Value}
theorem J.prE {c : Value} (h : v = c → J P ops Q n rest e I) : J P ops Q n rest e (fun w => Eqv c v w ∧ I w) := J.pr h
theorem Fin.mono {ds : List Nat} {Φ : Nat → Value → World → Prop} : ∀ (js : List Nat) (e : Env) (I I' : World → Prop), (∀ w, I w → I' w) → Fin ds Φ js e I' (fun e' I' => J P ops Q n rest e' I') → Fin ds Φ js e I (fun e' I' => J P ops Q n rest e' I')
  | [], _, _, _, hi, h => J.conseq h hi
  | _ :: js, _, _, _, hi, h => fun v => Fin.mono js _ _ _ (fun w hw => ⟨hw.1, hi w hw.2⟩) (h v)
theorem Fin.pr {p : Prop} {ds : List Nat} {Φ : Nat → Value → World → Prop} : ∀ (js : List Nat) (e : Env) (I : World → Prop), (p → Fin ds Φ js e I (fun e' I' => J P ops Q n rest e' I')) → Fin ds Φ js e (fun w => p ∧ I w) (fun e' I' => J P ops Q n rest e' I')
  | [], _, _, h => J.pr h
  | _ :: js, _, _, h => fun v => Fin.mono js _ _ _ (fun w hw => ⟨hw.2.1, hw.1, hw.2.2⟩) (Fin.pr js _ _ fun hp => h hp v)
/-- a slot of which the value is known -/
theorem Fin.consE {c : Value} {ds : List Nat} {Φ : Nat → Value → World → Prop} {j : Nat} {js : List Nat} {I : World → Prop} (hΦ : Φ j = Eqv c) (h : Fin ds Φ js ((ds.getD j 0, c) :: e) I (fun e' I' => J P ops Q n rest e' I')) :
    Fin ds Φ (j :: js) e I (fun e' I' => J P ops Q n rest e' I') := by
  refine Fin.cons (fun v => ?_)
  rw [hΦ]
  exact Fin.pr js _ _ (fun hv => by cases hv; exact h)
theorem J.finP {d : Nat} {c : Value} {wi : World} (hv : get e d = some c) : J P ops (QF d (Eqv c) wi) n [] e (fun w => w = wi ∧ I w) :=
  J.nil (JX.fin hv fun w hw => ⟨rfl, by rw [hw.1]; exact Bel.refl _⟩)
theorem J.finQ {d : Nat} {c : Value} {wi : World} (hv : get e d = some c) : J P ops (QF d (Eqv c) wi) n [] e (fun w => Bel wi w) :=
  J.nil (JX.fin hv fun w hw => ⟨rfl, hw⟩)
theorem J.callD {f : FuncId} {xs : List Operand} {ats : Array TypeId} {vs : List Value} {wi : World} (hb : bodyT P f = true) (hx : evs e xs = some vs) (hd : Nat.blt d n = true)
    (hc : ∀ w, I w → Calls P f vs.toArray w fun r w' => r = .returned v ∧ Bel w w')
    (h : J P ops Q n rest ((d, v) :: e) (fun w => Bel wi w)) : J P ops Q n (⟨some d, .call ⟨.value (.func f), xs.toArray, ats⟩, t, p, af, none⟩ :: rest) e (fun w => w = wi ∧ I w) := by
  refine J.call (R := fun v' w' => v' = v ∧ Bel wi w') hb hx hd (fun w hw => ?_) (fun v' => J.pr fun hv => ?_)
  · obtain ⟨rfl, hw⟩ := hw
    exact (hc w hw).mono fun r w' ⟨h1, h2⟩ => ⟨v, h1, rfl, h2⟩
  · subst hv
    exact h
theorem J.prR {A : World → Prop} {wi : World} (h : J P ops Q n rest e (fun w => w = wi ∧ (A w ∧ I w))) : J P ops Q n rest e (fun w => A w ∧ (w = wi ∧ I w)) :=
  h.conseq fun _ hw => ⟨hw.2.1, hw.1, hw.2.2⟩
theorem J.drop {A : World → Prop} (h : J P ops Q n rest e I) : J P ops Q n rest e (fun w => A w ∧ I w) := h.conseq fun _ hw => hw.2
theorem J.fresh {wi : World} (h : J P ops Q n rest e (St wi [] [])) : J P ops Q n rest e (fun w => w = wi ∧ I w) :=
  h.conseq fun w hw => by rw [hw.1]; exact St.start wi
def RowP (k : Nat) (xs : List Value) : Value → World → Prop := fun v w => Row w v k xs
theorem RowP.st (k : Nat) (xs : List Value) : ∀ v w w', RowP k xs v w → Bel w w' → RowP k xs v w' := fun _ _ _ h hb => Row.below h hb
theorem J.callT {f : FuncId} {xs : List Operand} {ats : Array TypeId} {vs : List Value} {w0 : World} {S : List Nat} {l l1 L : List (Nat × Obj)} (hb : bodyT P f = true) (hx : evs e xs = some vs) (hd : Nat.blt d n = true)
    (hc : ∀ w, St w0 S (l1 ++ l) w → Calls P f vs.toArray w fun r w' => r = .returned v ∧ St w (l1.map (·.1)) L w')
    (h : J P ops Q n rest ((d, v) :: e) (St w0 S (L ++ l))) : J P ops Q n (⟨some d, .call ⟨.value (.func f), xs.toArray, ats⟩, t, p, af, none⟩ :: rest) e (St w0 S (l1 ++ l)) :=
  J.callS (α := Unit) (V := fun _ => v) (Pr := fun _ => True) (L := fun _ => L) hb hx hd (fun w hw => (hc w hw).mono fun _ _ hr => ⟨(), hr.1, trivial, hr.2⟩) (fun _ _ => h)
theorem J.rot {w0 : World} {S : List Nat} {q : Nat × Obj} {l : List (Nat × Obj)} (h : J P ops Q n rest e (St w0 S (l ++ [q]))) : J P ops Q n rest e (St w0 S (q :: l)) := h.conseq fun _ hw => hw.rot
theorem J.sub {w0 : World} {S : List Nat} {l l' : List (Nat × Obj)} (hs : l'.Sublist l) (h : J P ops Q n rest e (St w0 S l')) : J P ops Q n rest e (St w0 S l) := h.conseq fun _ hw => hw.drop hs
end
theorem St.off {w0 w : World} {S : List Nat} {l1 l : List (Nat × Obj)} {b : Nat} {o : Obj} (h : St w0 S (l1 ++ l) w) (hm : (b, o) ∈ l) : b ∉ l1.map (·.1) := by
  intro hb
  obtain ⟨q, hq, he⟩ := List.mem_map.1 hb
  exact (List.pairwise_append.1 h.dist).2.2 q hq _ hm he
theorem Off.mk {S : List Nat} {b o k c : Nat} {xs : List Value} (h : b ∉ S) : Off S (.slice (some ⟨b, o, none⟩) k c) xs :=
  .inr fun b' o' k' c' he => by
    simp only [Value.slice.injEq, Option.some.injEq, Addr.mk.injEq] at he
    obtain ⟨⟨rfl, _⟩, _⟩ := he
    exact h
theorem Vec.off {w0 w : World} {S : List Nat} {l1 l lp : List (Nat × Obj)} {t sz k : Nat} {v : Value} {xs : List Value} (h : Vec t sz v k xs lp) (hw : St w0 S (l1 ++ (lp ++ l)) w) : Off (l1.map (·.1)) v xs := by
  obtain ⟨hl, h⟩ := h
  rcases h with ⟨rfl, rfl, rfl⟩ | ⟨b, c, sp, rfl, rfl, _, _⟩
  · left; exact List.eq_nil_of_length_eq_zero (by simpa using hl)
  · exact Off.mk (hw.off (List.mem_append_left _ (.head _)))
theorem Row.offNew {w0 w : World} {l l1 : List (Nat × Obj)} {v : Value} {k : Nat} {xs : List Value} (h : Row w0 v k xs) (hw : St w0 [] l w) (hs : ∀ p, p ∈ l1 → p ∈ l) : Off (l1.map (·.1)) v xs := by
  obtain ⟨a, c, rfl, _, h⟩ := h
  by_cases hx : xs = []
  · exact .inl hx
  · rcases h with h | ⟨b, o, rfl, hc⟩
    · exact .inl h
    · refine Off.mk fun hm => ?_
      obtain ⟨p, hp, he⟩ := List.mem_map.1 hm
      have h1 := hc.lt hx
      rcases hw.apart p (hs p hp) with h2 | h2
      · cases h2
      · have : p.1 = b := he
        omega
theorem u8_succ (b : UInt8) : Value.int .u8 (IntKind.u8.wrap ((b.toNat : Int) + 1)) = u8 (b + 1) := by
  rw [wrap_u8m]
  show Value.int .u8 _ = Value.int .u8 _
  congr 1
section
variable {P : Program} {ops : Array Oper} {Q : Exit → Act → World → Prop} {n : Nat} {e : Env} {rest : List Oper}
variable {d t : Nat} {p : String} {af : Array Edge} {x y z : Operand} {v : Value} {w0 : World} {S : List Nat} {l l' : List (Nat × Obj)}
/-- an aggregate out of what came in -/
theorem J.loadRA {ty k b o : Nat} {vs : List Value} (ha : aggT P ty = some true) (hs : sizeT P ty = some k) (hx : ev e x = some (.pointer (some ⟨b, o, none⟩))) (hl : vs.length = k) (hk : 0 < k) (hc : Cells w0 b o vs) (hS : b ∉ S) (hd : Nat.blt d n = true)
    (h : J P ops Q n rest ((d, .agg vs.toArray) :: e) (St w0 S l)) : J P ops Q n (⟨some d, .load ty x, t, p, af, none⟩ :: rest) e (St w0 S l) :=
  J.loadA ha hs hx hl (fun w hw => hc.blk (hw.keep b (hc.lt (by intro hx; rw [hx] at hl; simp at hl; omega)) hS)) hd h
end
end Go.J
