/-
  The calculus: composite literals. Proved over any program.
-/
import Derived.Test.YtohldionclgljaaGreatJg
namespace Go.J
open Go.RowKit
set_option linter.unusedVariables false
set_option linter.unusedSimpArgs false

def placesL (P : Program) : List Field → Option (List (Nat × Nat))
  | [] => some []
  | f :: fs => match sizeT P f.type, placesL P fs with
    | some k, some r => some ((f.offset, k) :: r)
    | _, _ => none
def placesT (P : Program) (t : TypeId) : Option (List (Nat × Nat)) := match P.underlying t with
  | some (.struct fs) => placesL P fs.toList
  | _ => none
theorem run_places {P : Program} (w : World) : ∀ (l : List Field) (r : List (Nat × Nat)), placesL P l = some r → (l.mapM (m := Sem) fun f => do pure (f.offset, ← sizeOf f.type)).run P w = .ok r w := by
  intro l
  induction l with
  | nil => intro r h; simp only [placesL, Option.some.injEq] at h; subst h; simp
  | cons f fs ih =>
    intro r h
    simp only [placesL] at h
    split at h
    · rename_i k r' hk hr
      simp only [Option.some.injEq] at h
      subst h
      simp only [List.mapM_cons, Sem.run_bind, run_sizeOf hk, Result.andThen_ok, Sem.run_pure, ih r' hr]
    · cases h
def evps (e : Env) : List (Nat × Operand) → Option (List (Nat × Value))
  | [] => some []
  | (i, x) :: xs => match ev e x, evps e xs with
    | some v, some vs => some ((i, v) :: vs)
    | _, _ => none
theorem Rep.evps {n : Nat} {T : Array Value} {e : Env} (h : Rep n T e) : ∀ {xs : List (Nat × Operand)} {vs : List (Nat × Value)}, J.evps e xs = some vs → xs.map (fun q => (q.1, (act T).eval q.2)) = vs := by
  intro xs
  induction xs with
  | nil => intro vs hv; simp [J.evps] at hv; simp [hv]
  | cons q xs ih =>
    obtain ⟨i, x⟩ := q
    intro vs hv
    simp only [J.evps] at hv
    split at hv
    · rename_i v us hx hus
      simp only [Option.some.injEq] at hv
      subst hv
      simp [h.eval hx, ih hus]
    · cases hv
/-- the parts of a literal laid over the zero value, as lists -/
def fillL (pl : Nat → Option (Nat × Nat)) (cs : List Value) : List (Nat × Value) → Option (List Value)
  | [] => some cs
  | (i, v) :: rest => match pl i with
    | none => none
    | some (off, size) => if v.cells.toList.length ≠ size || off + v.cells.toList.length > cs.length then none else fillL pl (setMany cs off v.cells.toList) rest
theorem fill_fillL {pl : Nat → Option (Nat × Nat)} : ∀ (parts : List (Nat × Value)) (cs r : List Value), fillL pl cs parts = some r → Instr.fill pl cs.toArray parts = some r.toArray := by
  intro parts
  induction parts with
  | nil => intro cs r h; simp only [fillL, Option.some.injEq] at h; subst h; rfl
  | cons q parts ih =>
    obtain ⟨i, v⟩ := q
    intro cs r h
    simp only [fillL] at h
    split at h
    · cases h
    · rename_i off size hp
      split at h
      · cases h
      · rename_i hc
        simp only [Instr.fill, hp]
        have hc' : ¬ ((decide (v.cells.size ≠ size) || decide (off + v.cells.size > cs.toArray.size)) = true) := by simpa using hc
        rw [if_neg hc']
        have key : ∀ (vs : List Value) (k : Nat) (cs : List Value), (vs.zipIdx k).foldl (fun (a : Array Value) (x : Value × Nat) => a.setIfInBounds (off + x.2) x.1) cs.toArray = (setMany cs (off + k) vs).toArray := by
          intro vs
          induction vs with
          | nil => intro k cs; rfl
          | cons u vs ihv =>
            intro k cs
            simp only [List.zipIdx_cons, List.foldl_cons, List.setIfInBounds_toArray, setMany]
            have := ihv (k + 1) (cs.set (off + k) u)
            rw [this, Nat.add_assoc]
        have h2 : v.cells.zipIdx.foldl (fun cs (c, j) => cs.setIfInBounds (off + j) c) cs.toArray = (setMany cs off v.cells.toList).toArray := by
          have := key v.cells.toList 0 cs
          rw [Nat.add_zero] at this
          rw [← this, ← Array.foldl_toList, Array.toList_zipIdx]
        rw [h2]
        exact ih _ _ h

section
variable {P : Program} {ops : Array Oper} {Q : Exit → Act → World → Prop} {n : Nat} {e : Env} {I I' : World → Prop} {rest : List Oper}
variable {d t yt : Nat} {p : String} {af : Array Edge} {x y z : Operand} {v v1 v2 : Value} {w0 : World} {S : List Nat} {l l' lp : List (Nat × Obj)}

theorem J.buildS {ty : TypeId} {ps : List (Nat × Operand)} {pl : List (Nat × Nat)} {vs : List (Nat × Value)} {zs cs : List Value} (hp : placesT P ty = some pl) (hz : zeroT P ty = some (.agg zs.toArray)) (hx : evps e ps = some vs)
    (hf : fillL (fun i : Nat => pl[i]?) zs vs = some cs) (hd : Nat.blt d n = true)
    (h : J P ops Q n rest ((d, .agg cs.toArray) :: e) I) : J P ops Q n (⟨some d, .build ty ps.toArray, t, p, af, none⟩ :: rest) e I := by
  refine J.value hd (fun T w ht hw => ⟨w, ?_, hw⟩) h
  unfold placesT at hp
  split at hp
  · rename_i fs hu
    have hr' : (fs.mapM (m := Sem) fun f => do pure (f.offset, ← sizeOf f.type)).run P w = .ok pl.toArray w := by
      rw [← Array.toArray_toList (xs := fs), List.mapM_toArray]
      simp only [Sem.run_map, run_places w fs.toList pl hp, Result.andThen_ok]
    have hpm : (ps.toArray.map fun q => (q.1, (act T).eval q.2)).toList = vs := by simp [ht.evps hx]
    have hfill := fill_fillL vs zs cs hf
    have hpl : (fun i : Nat => pl.toArray[i]?) = (fun i : Nat => pl[i]?) := by funext i; simp
    have hpm' : (ps.toArray.map fun (i, x) => (i, (act T).eval x)).toList = vs := hpm
    simp only [execOp, Instr.build, Sem.run_bind, run_zeroValue' hz, Result.andThen_ok, run_underlying' hu, hr', hpm', Value.cells, hpl, hfill, Sem.run_pure]
  · cases hp
theorem J.buildA {ty el k sz : Nat} {ps : List (Nat × Operand)} {vs : List (Nat × Value)} {zs cs : List Value} (ha : arrT P ty = some (k, el)) (hs : sizeT P el = some sz) (hz : zeroT P ty = some (.agg zs.toArray)) (hx : evps e ps = some vs)
    (hf : fillL (fun i => some (i * sz, sz)) zs vs = some cs) (hd : Nat.blt d n = true)
    (h : J P ops Q n rest ((d, .agg cs.toArray) :: e) I) : J P ops Q n (⟨some d, .build ty ps.toArray, t, p, af, none⟩ :: rest) e I := by
  refine J.value hd (fun T w ht hw => ⟨w, ?_, hw⟩) h
  have hpm : (ps.toArray.map fun q => (q.1, (act T).eval q.2)).toList = vs := by simp [ht.evps hx]
  have hfill := fill_fillL vs zs cs hf
  have hpm' : (ps.toArray.map fun (i, x) => (i, (act T).eval x)).toList = vs := hpm
  simp only [execOp, Instr.build, Sem.run_bind, run_zeroValue' hz, Result.andThen_ok, run_underlying' (arr_u ha), run_sizeOf hs, hpm', Value.cells, hfill, Sem.run_pure]
/-- a slice literal: a new block -/
theorem J.buildSl {ty el sz len : Nat} {ps : List (Nat × Operand)} {vs : List (Nat × Value)} {zv : Value} {zs cs : List Value} (he : elemT P ty = some el) (hs : sizeT P el = some sz) (hz : zeroT P el = some zv) (hzc : zv.cells = zs.toArray) (hzl : zs.length = sz) (hx : evps e ps = some vs)
    (hlen : Nat.ble (len * sz) 16777216 = true) (hf : fillL (fun i => some (i * sz, sz)) (List.replicate len zs).flatten vs = some cs) (hcl : cs.length = len * sz) (hd : Nat.blt d n = true)
    (h : ∀ b, J P ops Q n rest ((d, .slice (some ⟨b, 0, none⟩) len len) :: e) (St w0 S ((b, cb cs el) :: l))) : J P ops Q n (⟨some d, .buildSlice ty len ps.toArray, t, p, af, none⟩ :: rest) e (St w0 S l) := by
  refine J.valueEx (V := fun b => .slice (some ⟨b, 0, none⟩) len len) hd (fun T w ht hw => ⟨w.heap.size, w.alloc (cb cs el), ?_, hw.new (below_alloc' w _) (Nat.le_refl _) (alloc_at w _)⟩) h
  have hpm : (ps.toArray.map fun (i, x) => (i, (act T).eval x)).toList = vs := by simp [ht.evps hx]
  have hfill := fill_fillL vs _ cs hf
  have hle : ¬ (len * sz > 2 ^ 24) := by have := Nat.le_of_ble_eq_true hlen; omega
  have hcells : len * sz ≠ 0 → (Array.range (len * sz)).map (zv.cells[· % zv.cells.size]!) = ((List.replicate len zs).flatten).toArray := by
    intro _
    rw [hzc]
    apply Array.ext'
    simp only [Array.toList_map, Array.toList_range, List.size_toArray, hzl]
    apply List.ext_getElem?
    intro i
    have hfl : ∀ (m i : Nat), ((List.replicate m zs).flatten)[i]? = if i < m * sz then zs[i % sz]? else none := by
      intro m
      induction m with
      | zero => intro i; simp
      | succ m ih =>
        intro i
        rw [List.replicate_succ, List.flatten_cons, List.getElem?_append, hzl, ih]
        by_cases h1 : i < sz
        · rw [if_pos h1, if_pos (by rw [Nat.add_mul]; omega), Nat.mod_eq_of_lt h1]
        · rw [if_neg h1]
          have : i % sz = (i - sz) % sz := by
            rw [Nat.mod_eq_sub_mod (by omega)]
          by_cases h2 : i - sz < m * sz
          · rw [if_pos h2, if_pos (by rw [Nat.add_mul]; omega), this]
          · rw [if_neg h2, if_neg (by rw [Nat.add_mul]; omega)]
    rw [hfl, List.getElem?_map]
    by_cases h1 : i < len * sz
    · rw [if_pos h1, List.getElem?_range h1]
      have h2 : 0 < sz := by
        rcases Nat.eq_zero_or_pos sz with h | h
        · rw [h] at h1; omega
        · exact h
      have h3 : i % sz < zs.length := by rw [hzl]; exact Nat.mod_lt _ h2
      rw [Option.map_some, List.getElem?_eq_getElem h3]
      congr 1
      rw [getElem!_pos zs.toArray (i % sz) (by simpa using h3)]
      simp
    · rw [if_neg h1, List.getElem?_eq_none (by simp; omega)]; rfl
  by_cases hz0 : len * sz = 0
  · have he0 : (List.replicate len zs).flatten = [] := List.eq_nil_of_length_eq_zero (by simp [hzl, hz0])
    rw [he0] at hfill
    have h0 : (Array.range 0).map (fun _ : Nat => (default : Value)) = #[] := Array.ext' (by simp)
    have hd0 : ∀ f : Nat → Value, (Array.range 0).map f = #[] := fun f => Array.ext' (by simp)
    simp only [execOp, Instr.buildSlice, Sem.run_bind, run_underlying' (elem_u he), Result.andThen_ok, run_sizeOf hs, hz0, hpm]
    simp only [show ¬ (0 > 2 ^ 24) by omega, if_false, Sem.run_pure, Result.andThen_ok, if_true, hd0]
    simp [hfill, newRow, cb]
  · simp only [execOp, Instr.buildSlice, Sem.run_bind, run_underlying' (elem_u he), Result.andThen_ok, run_sizeOf hs, hle, hpm, if_false, Sem.run_pure, hz0, run_zeroValue' hz, hcells hz0, hfill]
    simp [newRow, cb]
end
end Go.J
