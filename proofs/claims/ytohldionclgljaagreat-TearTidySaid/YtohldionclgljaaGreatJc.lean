/-
  The calculus' memory: what is known of the world ('St'), reading, writing, new blocks, calls. Proved over any program.
-/
import Derived.Test.YtohldionclgljaaGreatJb
namespace Go.J
open Go.RowKit
set_option linter.unusedVariables false
set_option linter.unusedSimpArgs false

/-- what was there is as it was, and draws only go on -/
structure Bel (w w' : World) : Prop extends Below w.heap.size w w' where
  drawn : w.drawn ≤ w'.drawn
theorem Bel.refl (w : World) : Bel w w := ⟨Below.refl _ w, Nat.le_refl _⟩
theorem Bel.alloc {w w' : World} (h : Bel w w') (o : Obj) : Bel w (w'.alloc o) := ⟨h.toBelow.alloc h.size o, h.drawn⟩
theorem Bel.drew {w w' : World} (h : Bel w w') : Bel w w'.drew := ⟨h.toBelow.drew, Nat.le_trans h.drawn (Nat.le_succ _)⟩
theorem Bel.trans {a b c : World} (h : Bel a b) (k : Bel b c) : Bel a c :=
  ⟨⟨k.os.trans h.os, k.tape.trans h.tape, k.output.trans h.output, Nat.le_trans h.size k.size, fun i hi => (k.block i (Nat.lt_of_lt_of_le hi h.size)).trans (h.block i hi)⟩, Nat.le_trans h.drawn k.drawn⟩
/-- The world w, told from the world w0 in which the call began: what was there is as it was, but for the blocks of S; and the blocks of l are just these. -/
structure St (w0 : World) (S : List Nat) (l : List (Nat × Obj)) (w : World) : Prop where
  os : w.os = w0.os
  tape : w.tape = w0.tape
  output : w.output = w0.output
  size : w0.heap.size ≤ w.heap.size
  drawn : w0.drawn ≤ w.drawn
  keep : ∀ b, b < w0.heap.size → b ∉ S → w.heap[b]? = w0.heap[b]?
  own : ∀ p, p ∈ l → w.heap[p.1]? = some p.2
  apart : ∀ p, p ∈ l → p.1 ∈ S ∨ w0.heap.size ≤ p.1
  dist : l.Pairwise (fun p q => p.1 ≠ q.1)

theorem lt_of_some {w : World} {b : Nat} {o : Obj} (h : w.heap[b]? = some o) : b < w.heap.size := (Array.getElem?_eq_some_iff.1 h).1

theorem St.start (w0 : World) : St w0 [] [] w0 :=
  ⟨rfl, rfl, rfl, Nat.le_refl _, Nat.le_refl _, fun _ _ _ => rfl, (fun _ h => by cases h), (fun _ h => by cases h), .nil⟩
theorem St.startS {w0 : World} {l : List (Nat × Obj)} (hl : ∀ p, p ∈ l → w0.heap[p.1]? = some p.2) (hd : l.Pairwise (fun p q => p.1 ≠ q.1)) : St w0 (l.map (·.1)) l w0 :=
  ⟨rfl, rfl, rfl, Nat.le_refl _, Nat.le_refl _, fun _ _ _ => rfl, hl, fun p h => .inl (List.mem_map.2 ⟨p, h, rfl⟩), hd⟩
theorem St.below {w0 w : World} {l : List (Nat × Obj)} (h : St w0 [] l w) : Bel w0 w :=
  ⟨⟨h.os, h.tape, h.output, h.size, fun k hk => h.keep k hk (by simp)⟩, h.drawn⟩

/-- what a call that changes nothing that was there leaves -/
theorem St.step {w0 w w' : World} {S : List Nat} {l : List (Nat × Obj)} (h : St w0 S l w) (hb : Bel w w') : St w0 S l w' :=
  ⟨hb.os.trans h.os, hb.tape.trans h.tape, hb.output.trans h.output, Nat.le_trans h.size hb.size, Nat.le_trans h.drawn hb.drawn,
   fun b hb1 hb2 => (hb.block b (Nat.lt_of_lt_of_le hb1 h.size)).trans (h.keep b hb1 hb2),
   fun p hp => (hb.block p.1 (lt_of_some (h.own p hp))).trans (h.own p hp), h.apart, h.dist⟩
/-- a new block -/
theorem St.new {w0 w w' : World} {S : List Nat} {l : List (Nat × Obj)} {b : Nat} {o : Obj} (h : St w0 S l w) (hb : Bel w w') (h1 : w.heap.size ≤ b) (h2 : w'.heap[b]? = some o) : St w0 S ((b, o) :: l) w' := by
  have h' := h.step hb
  refine ⟨h'.os, h'.tape, h'.output, h'.size, h'.drawn, h'.keep, fun p hp => ?_, fun p hp => ?_, ?_⟩
  · cases hp with
    | head => exact h2
    | tail _ hp => exact h'.own p hp
  · cases hp with
    | head => exact .inr (Nat.le_trans h.size h1)
    | tail _ hp => exact h.apart p hp
  · refine List.Pairwise.cons (fun q hq => ?_) h.dist
    have := lt_of_some (h.own q hq)
    show b ≠ q.1
    omega
/-- blocks that are no longer of interest -/
theorem St.drop {w0 w : World} {S : List Nat} {l l' : List (Nat × Obj)} (h : St w0 S l w) (hs : l'.Sublist l) : St w0 S l' w :=
  ⟨h.os, h.tape, h.output, h.size, h.drawn, h.keep, fun p hp => h.own p (hs.subset hp), fun p hp => h.apart p (hs.subset hp), h.dist.sublist hs⟩

inductive Up : List (Nat × Obj) → Nat → Obj → Obj → List (Nat × Obj) → Prop
  | here {l : List (Nat × Obj)} {b : Nat} {o o' : Obj} : Up ((b, o) :: l) b o o' ((b, o') :: l)
  | there {l l' : List (Nat × Obj)} {b : Nat} {o o' : Obj} {p : Nat × Obj} (h : Up l b o o' l') : Up (p :: l) b o o' (p :: l')
theorem Up.mem {l l' : List (Nat × Obj)} {b : Nat} {o o' : Obj} (h : Up l b o o' l') : (b, o) ∈ l := by
  induction h with
  | here => exact .head _
  | there _ ih => exact .tail _ ih
theorem Up.keys {l l' : List (Nat × Obj)} {b : Nat} {o o' : Obj} (h : Up l b o o' l') : l'.map (·.1) = l.map (·.1) := by
  induction h with
  | here => rfl
  | there _ ih => simp [ih]
theorem Up.mem' {l l' : List (Nat × Obj)} {b : Nat} {o o' : Obj} (h : Up l b o o' l') (hd : l.Pairwise (fun p q => p.1 ≠ q.1)) : ∀ p, p ∈ l' → p = (b, o') ∨ (p ∈ l ∧ p.1 ≠ b) := by
  induction h with
  | here =>
    intro p hp
    cases hp with
    | head => exact .inl rfl
    | tail _ hp => cases hd with | cons h1 _ => exact .inr ⟨.tail _ hp, fun e => h1 p hp e.symm⟩
  | there h ih =>
    intro p hp
    cases hd with
    | cons h1 h2 =>
      cases hp with
      | head => exact .inr ⟨.head _, h1 _ h.mem⟩
      | tail _ hp => rcases ih h2 p hp with h3 | ⟨h3, h4⟩
                     · exact .inl h3
                     · exact .inr ⟨.tail _ h3, h4⟩
theorem pairwise_keys {l : List (Nat × Obj)} : l.Pairwise (fun p q => p.1 ≠ q.1) ↔ (l.map (·.1)).Pairwise (· ≠ ·) := by
  rw [List.pairwise_map]

/-- one known block gets another content -/
theorem St.set {w0 w w' : World} {S : List Nat} {l l' : List (Nat × Obj)} {b : Nat} {o o' : Obj} (h : St w0 S l w) (hu : Up l b o o' l')
    (hos : w'.os = w.os) (ht : w'.tape = w.tape) (hout : w'.output = w.output) (hsz : w.heap.size ≤ w'.heap.size) (hdr : w'.drawn = w.drawn)
    (hb : w'.heap[b]? = some o') (hne : ∀ k, k < w.heap.size → k ≠ b → w'.heap[k]? = w.heap[k]?) : St w0 S l' w' := by
  refine ⟨hos.trans h.os, ht.trans h.tape, hout.trans h.output, Nat.le_trans h.size hsz, (by rw [hdr]; exact h.drawn), fun k hk1 hk2 => ?_, fun p hp => ?_, fun p hp => ?_, ?_⟩
  · rw [hne k (Nat.lt_of_lt_of_le hk1 h.size) ?_, h.keep k hk1 hk2]
    intro e
    subst e
    rcases h.apart _ hu.mem with h1 | h1
    · exact hk2 h1
    · have h1 : w0.heap.size ≤ k := h1
      omega
  · rcases hu.mem' h.dist p hp with rfl | ⟨h1, h2⟩
    · exact hb
    · rw [hne p.1 (lt_of_some (h.own p h1)) h2]; exact h.own p h1
  · rcases hu.mem' h.dist p hp with rfl | ⟨h1, _⟩
    · exact h.apart (b, o) hu.mem
    · exact h.apart p h1
  · rw [pairwise_keys, hu.keys, ← pairwise_keys]; exact h.dist

/-- a block that is a row of cells, none of them frozen -/
abbrev cb (cs : List Value) (t : TypeId) : Obj := .cells cs.toArray t (0, 0)

theorem cell_of {w : World} {b o : Nat} {cs : List Value} {t : TypeId} {fr : Nat × Nat} (h : w.heap[b]? = some (.cells cs.toArray t fr)) : w.cell? ⟨b, o, none⟩ = cs[o]? := by
  simp [World.cell?, h]
theorem frozen_of {w : World} {b o : Nat} {cs : List Value} {t : TypeId} (h : w.heap[b]? = some (cb cs t)) : w.frozen? ⟨b, o, none⟩ = false := by
  simp [World.frozen?, h]

theorem run_loadCellsFrom {P : Program} {w : World} {b o : Nat} : ∀ (k i : Nat) (acc : Array Value) (vs : List Value), vs.length = k → (∀ j, j < k → w.cell? ⟨b, o + (i + j), none⟩ = vs[j]?) →
    (loadCellsFrom ⟨b, o, none⟩ i k acc).run P w = .ok (acc ++ vs.toArray) w := by
  intro k
  induction k with
  | zero => intro i acc vs hl _; simp [loadCellsFrom, List.length_eq_zero_iff.1 hl]
  | succ k ih =>
    intro i acc vs hl hc
    match vs, hl with
    | v :: vs, hl =>
      have h0 := hc 0 (by omega)
      simp only [Nat.add_zero, List.getElem?_cons_zero] at h0
      simp only [loadCellsFrom, Sem.run_bind, addr_add, run_load, h0, Result.andThen_ok]
      rw [ih (i + 1) (acc.push v) vs (by simpa using hl) (fun j hj => by
        have := hc (j + 1) (by omega)
        rw [show o + (i + 1 + j) = o + (i + (j + 1)) by omega, this]; simp)]
      simp

/-- the cells of a variable -/
def Cells (w : World) (b o : Nat) (vs : List Value) : Prop := ∀ j, j < vs.length → w.cell? ⟨b, o + j, none⟩ = vs[j]?
theorem Cells.of_block {w : World} {b o : Nat} {cs vs : List Value} {t : TypeId} {fr : Nat × Nat} (h : w.heap[b]? = some (.cells cs.toArray t fr)) (hv : (cs.drop o).take vs.length = vs) : Cells w b o vs := by
  intro j hj
  rw [cell_of h]
  have : vs[j]? = ((cs.drop o).take vs.length)[j]? := by rw [hv]
  rw [this, List.getElem?_take_of_lt hj, List.getElem?_drop]
theorem run_loadVar_agg {P : Program} {w : World} {t k b o : Nat} {vs : List Value} (ha : aggT P t = some true) (hs : sizeT P t = some k) (hl : vs.length = k) (hc : Cells w b o vs) :
    (loadVar t ⟨b, o, none⟩).run P w = .ok (.agg vs.toArray) w := by
  simp only [loadVar, Sem.run_bind, run_isAgg ha, Result.andThen_ok, if_true, run_sizeOf hs, loadCells]
  rw [run_loadCellsFrom k 0 #[] vs hl (fun j hj => by rw [Nat.zero_add]; exact hc j (by omega))]
  simp
theorem run_loadVar_one {P : Program} {w : World} {t : TypeId} {a : Addr} {v : Value} (ha : aggT P t = some false) (hc : w.cell? a = some v) : (loadVar t a).run P w = .ok v w := by
  simp [loadVar, run_isAgg ha, run_load, hc]

def setMany (cs : List Value) (o : Nat) : List Value → List Value
  | [] => cs
  | v :: vs => setMany (cs.set o v) (o + 1) vs
@[simp] theorem setMany_length (vs : List Value) : ∀ (cs : List Value) (o : Nat), (setMany cs o vs).length = cs.length := by
  induction vs with
  | nil => intro _ _; rfl
  | cons v vs ih => intro cs o; simp [setMany, ih]
theorem setMany_get (vs : List Value) : ∀ (cs : List Value) (o i : Nat), o + vs.length ≤ cs.length → (setMany cs o vs)[i]? = if i < o then cs[i]? else if i < o + vs.length then vs[i - o]? else cs[i]? := by
  induction vs with
  | nil => intro cs o i _; simp only [setMany, List.length_nil, Nat.add_zero]; split <;> rfl
  | cons v vs ih =>
    intro cs o i h
    simp only [List.length_cons] at h
    rw [setMany, ih _ _ _ (by simp; omega), List.getElem?_set]
    simp only [List.length_cons]
    by_cases h1 : i < o
    · rw [if_pos (by omega), if_neg (by omega), if_pos h1]
    · by_cases h2 : o = i
      · subst h2; rw [if_pos (by omega), if_pos rfl, if_neg h1, if_pos (by omega), if_pos (by omega)]; simp
      · rw [if_neg (by omega), if_neg h2, if_neg h1]
        by_cases h3 : i < o + 1 + vs.length
        · rw [if_pos h3, if_pos (by omega), show i - o = (i - (o + 1)) + 1 by omega]; simp
        · rw [if_neg h3, if_neg (by omega)]
theorem setMany_eq (vs : List Value) (cs : List Value) (o : Nat) (h : o + vs.length ≤ cs.length) : setMany cs o vs = cs.take o ++ vs ++ cs.drop (o + vs.length) := by
  apply List.ext_getElem?
  intro i
  rw [setMany_get vs cs o i h]
  by_cases h1 : i < o
  · rw [if_pos h1, List.append_assoc, List.getElem?_append_left (by simp; omega), List.getElem?_take_of_lt h1]
  · rw [if_neg h1, List.append_assoc, List.getElem?_append_right (by simp; omega)]
    have m : (cs.take o).length = o := by simp; omega
    rw [m]
    by_cases h3 : i < o + vs.length
    · rw [if_pos h3, List.getElem?_append_left (by omega)]
    · rw [if_neg h3, List.getElem?_append_right (by omega), List.getElem?_drop]
      congr 1; omega

theorem setCell_block {w : World} {b o : Nat} {cs : List Value} {t : TypeId} (v : Value) (h : w.heap[b]? = some (cb cs t)) : (w.setCell ⟨b, o, none⟩ v).heap[b]? = some (cb (cs.set o v) t) := by
  simp [World.setCell, Array.getElem?_modify, h]
theorem setCell_other {w : World} {a : Addr} {k : Nat} (v : Value) (h : k ≠ a.block) : (w.setCell a v).heap[k]? = w.heap[k]? := by
  simp only [World.setCell, Array.getElem?_modify]
  rw [if_neg (fun e => h e.symm)]

structure Wrote (w w' : World) (b : Nat) (o' : Obj) : Prop where
  os : w'.os = w.os
  tape : w'.tape = w.tape
  output : w'.output = w.output
  size : w'.heap.size = w.heap.size
  drawn : w'.drawn = w.drawn
  at_ : w'.heap[b]? = some o'
  other : ∀ k, k ≠ b → w'.heap[k]? = w.heap[k]?

theorem run_storeCells {P : Program} {b : Nat} {t : TypeId} (vs : List Value) : ∀ (w : World) (cs : List Value) (o i : Nat), w.heap[b]? = some (cb cs t) → o + i + vs.length ≤ cs.length → (∀ v, v ∈ vs → v.oneCell' = true) →
    ∃ w', (storeCells ⟨b, o, none⟩ vs i).run P w = .ok () w' ∧ Wrote w w' b (cb (setMany cs (o + i) vs) t) := by
  induction vs with
  | nil => intro w cs o i h _ _; exact ⟨w, rfl, rfl, rfl, rfl, rfl, rfl, h, fun _ _ => rfl⟩
  | cons v vs ih =>
    intro w cs o i h hl hv
    simp only [List.length_cons] at hl
    have hc : w.cell? ⟨b, o + i, none⟩ = some (cs[o + i]'(by omega)) := by rw [cell_of h, List.getElem?_eq_getElem]
    obtain ⟨w', hr, hw⟩ := ih (w.setCell ⟨b, o + i, none⟩ v) (cs.set (o + i) v) o (i + 1) (setCell_block v h) (by simp; omega) (fun u hu => hv u (.tail _ hu))
    refine ⟨w', ?_, hw.os, hw.tape, hw.output, (by rw [hw.size]; simp), (by rw [hw.drawn]; rfl), hw.at_, fun k hk => (hw.other k hk).trans (setCell_other v hk)⟩
    simp only [storeCells, Sem.run_bind, addr_add, run_store P w _ v .plain (hv v (.head _)), hc, frozen_of h]
    simpa using hr

def ones (vs : List Value) : Bool := vs.all (·.oneCell')
theorem run_storeVar {P : Program} {w : World} {b o t k : Nat} {cs vs : List Value} {tb : TypeId} {v : Value} (hs : sizeT P t = some k) (hv : v.cells = vs.toArray) (hk : vs.length = k) (h1 : ∀ v, v ∈ vs → v.oneCell' = true)
    (hb : w.heap[b]? = some (cb cs tb)) (hl : o + k ≤ cs.length) :
    ∃ w', (storeVar t ⟨b, o, none⟩ v).run P w = .ok () w' ∧ Wrote w w' b (cb (setMany cs o vs) tb) := by
  obtain ⟨w', hr, hw⟩ := run_storeCells (P := P) vs w cs o 0 hb (by omega) h1
  refine ⟨w', ?_, by simpa using hw⟩
  simp only [storeVar, Sem.run_bind, run_sizeOf hs, Result.andThen_ok, hv]
  simp [hk, hr]
theorem St.wrote {w0 w w' : World} {S : List Nat} {l l' : List (Nat × Obj)} {b : Nat} {o o' : Obj} (h : St w0 S l w) (hu : Up l b o o' l') (hw : Wrote w w' b o') : St w0 S l' w' :=
  h.set hu hw.os hw.tape hw.output (Nat.le_of_eq hw.size.symm) hw.drawn hw.at_ (fun k _ hk => hw.other k hk)
theorem below_alloc' (w : World) (o : Obj) : Bel w (w.alloc o) := (Bel.refl w).alloc o
theorem alloc_at (w : World) (o : Obj) : (w.alloc o).heap[w.heap.size]? = some o := by
  show (w.heap.push o)[w.heap.size]? = some o
  simp

section
variable {P : Program} {ops : Array Oper} {Q : Exit → Act → World → Prop} {n : Nat} {e : Env} {I I' : World → Prop} {rest : List Oper}
variable {d t : Nat} {p : String} {af : Array Edge} {x y z : Operand} {v v1 v2 : Value} {w0 : World} {S : List Nat} {l l' : List (Nat × Obj)}

/- loads -/
theorem J.load1 {ty : TypeId} {a : Addr} (ha : aggT P ty = some false) (hx : ev e x = some (.pointer (some a))) (hc : ∀ w, I w → w.cell? a = some v) (hd : Nat.blt d n = true)
    (h : J P ops Q n rest ((d, v) :: e) I) : J P ops Q n (⟨some d, .load ty x, t, p, af, none⟩ :: rest) e I :=
  J.value hd (fun T w ht hw => ⟨w, by simp [execOp, ht.eval hx, Instr.loadAt, Instr.sureAddr, run_loadVar_one ha (hc w hw)], hw⟩) h
theorem J.loadA {ty k b o : Nat} {vs : List Value} (ha : aggT P ty = some true) (hs : sizeT P ty = some k) (hx : ev e x = some (.pointer (some ⟨b, o, none⟩))) (hl : vs.length = k) (hc : ∀ w, I w → Cells w b o vs) (hd : Nat.blt d n = true)
    (h : J P ops Q n rest ((d, .agg vs.toArray) :: e) I) : J P ops Q n (⟨some d, .load ty x, t, p, af, none⟩ :: rest) e I :=
  J.value hd (fun T w ht hw => ⟨w, by simp [execOp, ht.eval hx, Instr.loadAt, Instr.sureAddr, run_loadVar_agg ha hs hl (hc w hw)], hw⟩) h
/-- out of a known block -/
theorem J.loadO {ty : TypeId} {b o : Nat} {cs : List Value} {tb : TypeId} {fr : Nat × Nat} (ha : aggT P ty = some false) (hx : ev e x = some (.pointer (some ⟨b, o, none⟩))) (hm : (b, Obj.cells cs.toArray tb fr) ∈ l) (hv : cs[o]? = some v) (hd : Nat.blt d n = true)
    (h : J P ops Q n rest ((d, v) :: e) (St w0 S l)) : J P ops Q n (⟨some d, .load ty x, t, p, af, none⟩ :: rest) e (St w0 S l) :=
  J.load1 ha hx (fun w hw => by rw [cell_of (hw.own _ hm)]; exact hv) hd h
theorem J.loadOA {ty k b o : Nat} {cs vs : List Value} {tb : TypeId} {fr : Nat × Nat} (ha : aggT P ty = some true) (hs : sizeT P ty = some k) (hx : ev e x = some (.pointer (some ⟨b, o, none⟩))) (hm : (b, Obj.cells cs.toArray tb fr) ∈ l)
    (hv : (cs.drop o).take k = vs) (hl : vs.length = k) (hd : Nat.blt d n = true)
    (h : J P ops Q n rest ((d, .agg vs.toArray) :: e) (St w0 S l)) : J P ops Q n (⟨some d, .load ty x, t, p, af, none⟩ :: rest) e (St w0 S l) :=
  J.loadA ha hs hx hl (fun w hw => Cells.of_block (hw.own _ hm) (by rw [hl]; exact hv)) hd h
/-- out of what came in -/
theorem J.loadR {ty : TypeId} {b o : Nat} (ha : aggT P ty = some false) (hx : ev e x = some (.pointer (some ⟨b, o, none⟩))) (hc : w0.cell? ⟨b, o, none⟩ = some v) (hS : b ∉ S) (hd : Nat.blt d n = true)
    (h : J P ops Q n rest ((d, v) :: e) (St w0 S l)) : J P ops Q n (⟨some d, .load ty x, t, p, af, none⟩ :: rest) e (St w0 S l) :=
  J.load1 ha hx (fun w hw => by rw [World.cell?_of_block (w := w0) (hw.keep b (World.block_lt_of_cell? _ _ hc) hS)]; exact hc) hd h
/- stores -/
theorem J.storeO {ty k b o : Nat} {cs vs : List Value} {tb : TypeId} (hs : sizeT P ty = some k) (hx : ev e x = some (.pointer (some ⟨b, o, none⟩))) (hy : ev e y = some v) (hv : v.cells = vs.toArray) (hk : vs.length = k) (h1 : ∀ v, v ∈ vs → v.oneCell' = true)
    (hu : Up l b (cb cs tb) (cb (setMany cs o vs) tb) l') (hl : o + k ≤ cs.length)
    (h : J P ops Q n rest e (St w0 S l')) : J P ops Q n (⟨none, .store ty x y, t, p, af, none⟩ :: rest) e (St w0 S l) := by
  refine J.skipN (fun T w ht hw => ?_) h
  obtain ⟨w', hr, hw'⟩ := run_storeVar (P := P) hs hv hk h1 (hw.own _ hu.mem) hl
  exact ⟨w', by simp [execOp, ht.eval hx, ht.eval hy, Instr.storeAt, Instr.sureAddr, hr], hw.wrote hu hw'⟩
/- new blocks -/
theorem J.box {ty : TypeId} {vs : List Value} (hx : ev e x = some v) (hv : v.cells = vs.toArray) (hd : Nat.blt d n = true)
    (h : ∀ b, J P ops Q n rest ((d, .pointer (some ⟨b, 0, none⟩)) :: e) (St w0 S ((b, cb vs ty) :: l))) : J P ops Q n (⟨some d, .box ty x, t, p, af, none⟩ :: rest) e (St w0 S l) := by
  refine J.valueEx (V := fun b => .pointer (some ⟨b, 0, none⟩)) hd (fun T w ht hw => ⟨w.heap.size, w.alloc (cb vs ty), ?_, ?_⟩) h
  · simp [execOp, ht.eval hx, Instr.box, newVar, newRow, run_newObj, hv, cb]
  · exact hw.new (below_alloc' w _) (Nat.le_refl _) (alloc_at w _)
theorem J.alloc {ty : TypeId} {vs : List Value} (hz : zeroT P ty = some v) (hv : v.cells = vs.toArray) (hd : Nat.blt d n = true)
    (h : ∀ b, J P ops Q n rest ((d, .pointer (some ⟨b, 0, none⟩)) :: e) (St w0 S ((b, cb vs ty) :: l))) : J P ops Q n (⟨some d, .alloc ty, t, p, af, none⟩ :: rest) e (St w0 S l) := by
  refine J.valueEx (V := fun b => .pointer (some ⟨b, 0, none⟩)) hd (fun T w ht hw => ⟨w.heap.size, w.alloc (cb vs ty), ?_, ?_⟩) h
  · simp [execOp, Instr.alloc, newVar, newRow, run_newObj, hv, cb, run_zeroValue' hz]
  · exact hw.new (below_alloc' w _) (Nat.le_refl _) (alloc_at w _)
/- calls -/
def evs (e : Env) : List Operand → Option (List Value)
  | [] => some []
  | x :: xs => match ev e x with
    | some v => match evs e xs with
      | some vs => some (v :: vs)
      | none => none
    | none => none
theorem Rep.evals {n : Nat} {T : Array Value} {e : Env} (h : Rep n T e) : ∀ {xs : List Operand} {vs : List Value}, evs e xs = some vs → xs.map (act T).eval = vs := by
  intro xs
  induction xs with
  | nil => intro vs hv; simp [evs] at hv; simp [hv]
  | cons x xs ih =>
    intro vs hv
    simp only [evs] at hv
    split at hv
    · rename_i v hx
      split at hv
      · rename_i us hus
        simp only [Option.some.injEq] at hv
        subst hv
        simp [h.eval hx, ih hus]
      · cases hv
    · cases hv
/-- a function of the program that has a body -/
def bodyT (P : Program) (f : FuncId) : Bool := match P.funcs[f]? with
  | some fn => fn.body.isSome && !(fn.name == "runtime.NumGoroutine")
  | none => false
theorem run_callFunc {P : Program} {f : FuncId} {args : Array Value} (hb : bodyT P f = true) (w : World) : (callFunc f args).run P w = .ok (.enter f args) w := by
  unfold bodyT at hb
  split at hb
  · rename_i fn hf
    simp only [Bool.and_eq_true, Bool.not_eq_true'] at hb
    obtain ⟨hb1, hb2⟩ := hb
    have h2 : fn.body.isNone = false := by cases hh : fn.body <;> simp_all
    simp only [callFunc, Sem.run_bind, run_program, Result.andThen_ok, hf, hb2, h2, Bool.false_eq_true, if_false, Sem.run_pure]
  · cases hb
theorem J.call {f : FuncId} {xs : List Operand} {ats : Array TypeId} {vs : List Value} {R : Value → World → Prop} (hb : bodyT P f = true) (hx : evs e xs = some vs) (hd : Nat.blt d n = true)
    (hc : ∀ w, I w → Calls P f vs.toArray w fun r w' => ∃ v, r = .returned v ∧ R v w')
    (h : ∀ v, J P ops Q n rest ((d, v) :: e) (R v)) : J P ops Q n (⟨some d, .call ⟨.value (.func f), xs.toArray, ats⟩, t, p, af, none⟩ :: rest) e I := by
  intro T w ht hw
  refine wpList_plain rfl fun K hK => ?_
  have hr : (execOp (act T).eval ⟨some d, .call ⟨.value (.func f), xs.toArray, ats⟩, t, p, af, none⟩).run P w = .ok (.enter f vs.toArray) w := by
    have := ht.evals hx
    simp [execOp, resolve, Act.eval, Deferred.ofValue, invoke, this, run_callFunc hb]
  simp only [Oper.wp, hr, Oper.upon]
  refine (hc w hw).mono fun r w' ⟨v, hv, hR⟩ => ?_
  subst hv
  exact hK _ _ (h v _ w' (ht.put hd v) hR)
theorem J.callN {f : FuncId} {xs : List Operand} {ats : Array TypeId} {vs : List Value} {R : World → Prop} (hb : bodyT P f = true) (hx : evs e xs = some vs)
    (hc : ∀ w, I w → Calls P f vs.toArray w fun r w' => ∃ v, r = .returned v ∧ R w')
    (h : J P ops Q n rest e R) : J P ops Q n (⟨none, .call ⟨.value (.func f), xs.toArray, ats⟩, t, p, af, none⟩ :: rest) e I := by
  intro T w ht hw
  refine wpList_plain rfl fun K hK => ?_
  have hr : (execOp (act T).eval ⟨none, .call ⟨.value (.func f), xs.toArray, ats⟩, t, p, af, none⟩).run P w = .ok (.enter f vs.toArray) w := by
    have := ht.evals hx
    simp [execOp, resolve, Act.eval, Deferred.ofValue, invoke, this, run_callFunc hb]
  simp only [Oper.wp, hr, Oper.upon]
  refine (hc w hw).mono fun r w' ⟨v, hv, hR⟩ => ?_
  subst hv
  exact hK _ _ (h _ w' ht hR)
end

/- a function's body -/
theorem calls_of_J {P : Program} {f : FuncId} {fn : Func} {c : Code} {args : List Value} {w0 w : World} {S : List Nat} {l : List (Nat × Obj)} {R : Ending → World → Prop} {e : Env}
    (hf : P.funcs[f]? = some fn) (hb : fn.body = some c) (hn : Nat.ble args.length fn.ntmps = true) (he : Cov ((List.range args.length).zip args) e) (hst : St w0 S l w)
    (h : JC P (bodyPost P fn R) fn.ntmps c e (St w0 S l)) : Calls P f args.toArray w R := by
  refine calls_of_wp hf hb ?_
  have hn' : args.length ≤ fn.ntmps := Nat.le_of_ble_eq_true hn
  refine h _ w (Rep.cov ⟨by simp; omega, fun t v hv => ?_⟩ he) hst
  have key : ∀ (l : List Value) (k : Nat), get ((List.range' k l.length).zip l) t = some v → k ≤ t ∧ l[t - k]? = some v := by
    intro l
    induction l with
    | nil => intro k h; simp [J.get] at h
    | cons u l ih =>
      intro k h
      simp only [List.length_cons, List.range'_succ, List.zip_cons_cons, J.get] at h
      cases hk : Nat.beq k t with
      | true =>
        rw [hk] at h
        have : k = t := by simpa using hk
        subst this
        simpa using h
      | false =>
        rw [hk] at h
        obtain ⟨h1, h2⟩ := ih (k + 1) h
        refine ⟨by omega, ?_⟩
        rw [show t - k = (t - (k + 1)) + 1 by omega]
        simpa using h2
  rw [List.range_eq_range'] at hv
  obtain ⟨_, h2⟩ := key args 0 hv
  simp only [Nat.sub_zero] at h2
  have hlt : t < args.length := (List.getElem?_eq_some_iff.1 h2).1
  rw [Array.getElem?_append_left (by simpa using hlt)]
  simpa using h2
theorem JX.ret1 {P : Program} {fn : Func} {R : Ending → World → Prop} {n : Nat} {e : Env} {I : World → Prop} {t : Nat} {v : Value} (hr : fn.results = #[.tmp t]) (hv : get e t = some v) (h : ∀ w, I w → R (.returned v) w) :
    JX (bodyPost P fn R) n .ret e I := by
  intro T w ht hw
  refine ⟨rfl, v, ?_, h w hw⟩
  rw [results_tmp hr, Array.getD_eq_getD_getElem?, ht.2 t v hv]; rfl
theorem JX.ret2 {P : Program} {fn : Func} {R : Ending → World → Prop} {n : Nat} {e : Env} {I : World → Prop} {t u : Nat} {v v' : Value} (hr : fn.results = #[.tmp t, .tmp u]) (hv : get e t = some v) (hv' : get e u = some v') (h : ∀ w, I w → R (.returned (.tuple #[v, v'])) w) :
    JX (bodyPost P fn R) n .ret e I := by
  intro T w ht hw
  refine ⟨rfl, .tuple #[v, v'], ?_, h w hw⟩
  rw [results_tmp2 hr, Array.getD_eq_getD_getElem?, Array.getD_eq_getD_getElem?, ht.2 t v hv, ht.2 u v' hv']; rfl
theorem JX.ret0 {P : Program} {fn : Func} {R : Ending → World → Prop} {n : Nat} {e : Env} {I : World → Prop} (hr : fn.results = #[]) (h : ∀ w, I w → R (.returned (.tuple #[])) w) :
    JX (bodyPost P fn R) n .ret e I := by
  intro T w ht hw
  exact ⟨rfl, .tuple #[], results_none hr _ _ _, h w hw⟩
theorem JX.end0 {P : Program} {fn : Func} {R : Ending → World → Prop} {n : Nat} {e : Env} {I : World → Prop} (hr : fn.results = #[]) (h : ∀ w, I w → R (.returned (.tuple #[])) w) :
    JX (bodyPost P fn R) n .normal e I := by
  intro T w ht hw
  exact ⟨rfl, .tuple #[], results_none hr _ _ _, h w hw⟩
end Go.J
