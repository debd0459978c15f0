/-
  The calculus' slices: rows of cells, append, copy, make, literals, strings. Proved over any program.
-/
import Derived.Test.YtohldionclgljaaGreatJc
namespace Go.J
open Go.RowKit
set_option linter.unusedVariables false
set_option linter.unusedSimpArgs false

/-- a slice whose first elements are these cells (k elements): nothing is said where it has none -/
def Row (w : World) (v : Value) (k : Nat) (xs : List Value) : Prop :=
  ∃ a c, v = .slice a k c ∧ k ≤ c ∧ (xs = [] ∨ ∃ b o, a = some ⟨b, o, none⟩ ∧ Cells w b o xs)

theorem Cells.blk {w w' : World} {b o : Nat} {xs : List Value} (h : Cells w b o xs) (hb : w'.heap[b]? = w.heap[b]?) : Cells w' b o xs := by
  intro j hj
  have := World.cell?_of_block (w := w) (a := ⟨b, o + j, none⟩) hb
  rw [this]; exact h j hj
theorem Cells.lt {w : World} {b o : Nat} {xs : List Value} (h : Cells w b o xs) (hx : xs ≠ []) : b < w.heap.size := by
  match xs, hx with
  | x :: xs, _ =>
    have := h 0 (by simp)
    exact World.block_lt_of_cell? w ⟨b, o + 0, none⟩ (u := x) (by simpa using this)
theorem Row.below {w w' : World} {v : Value} {k : Nat} {xs : List Value} (h : Row w v k xs) (hb : Bel w w') : Row w' v k xs := by
  obtain ⟨a, c, hv, hk, h⟩ := h
  refine ⟨a, c, hv, hk, ?_⟩
  by_cases hx : xs = []
  · exact .inl hx
  · rcases h with h | ⟨b, o, ha, hc⟩
    · exact absurd h hx
    · exact .inr ⟨b, o, ha, hc.blk (hb.block b (hc.lt hx))⟩
theorem Row.cap {w : World} {a : Option Addr} {k c : Nat} {xs : List Value} (h : Row w (.slice a k c) k xs) : k ≤ c := by
  obtain ⟨_, _, hv, hk, _⟩ := h
  simp only [Value.slice.injEq] at hv
  obtain ⟨_, _, rfl⟩ := hv
  exact hk
/-- it lies outside these blocks -/
def Off (S : List Nat) (v : Value) (xs : List Value) : Prop := xs = [] ∨ ∀ b o k c, v = .slice (some ⟨b, o, none⟩) k c → b ∉ S
theorem Row.st {w0 w : World} {S : List Nat} {l : List (Nat × Obj)} {v : Value} {k : Nat} {xs : List Value} (h : Row w0 v k xs) (ho : Off S v xs) (hw : St w0 S l w) : Row w v k xs := by
  obtain ⟨a, c, hv, hk, h⟩ := h
  refine ⟨a, c, hv, hk, ?_⟩
  by_cases hx : xs = []
  · exact .inl hx
  · rcases h with h | ⟨b, o, ha, hc⟩
    · exact absurd h hx
    · refine .inr ⟨b, o, ha, hc.blk (hw.keep b (hc.lt hx) ?_)⟩
      rcases ho with h | h
      · exact absurd h hx
      · exact h b o k c (by rw [hv, ha])
theorem Row.own {w0 w : World} {S : List Nat} {l : List (Nat × Obj)} {b o k c : Nat} {cs xs : List Value} {tb : TypeId} {fr : Nat × Nat} (hw : St w0 S l w) (hm : (b, Obj.cells cs.toArray tb fr) ∈ l) (hx : (cs.drop o).take xs.length = xs) (hk : k ≤ c) :
    Row w (.slice (some ⟨b, o, none⟩) k c) k xs := ⟨_, c, rfl, hk, .inr ⟨b, o, rfl, Cells.of_block (hw.own _ hm) hx⟩⟩

/-- a slice that the call has made: nil, or the head of a block -/
def Vec (t sz : Nat) (v : Value) (k : Nat) (xs : List Value) (lp : List (Nat × Obj)) : Prop :=
  xs.length = k * sz ∧ ((v = .slice none 0 0 ∧ k = 0 ∧ lp = []) ∨ ∃ b c sp, v = .slice (some ⟨b, 0, none⟩) k c ∧ lp = [(b, cb (xs ++ sp) t)] ∧ (xs ++ sp).length = c * sz ∧ k ≤ c)
theorem Vec.row {w0 w : World} {S : List Nat} {l lp : List (Nat × Obj)} {t sz : Nat} {v : Value} {k : Nat} {xs : List Value} (h : Vec t sz v k xs lp) (hw : St w0 S (lp ++ l) w) : Row w v k xs := by
  obtain ⟨hl, h⟩ := h
  rcases h with ⟨rfl, rfl, rfl⟩ | ⟨b, c, sp, rfl, rfl, _, hk⟩
  · exact ⟨none, 0, rfl, Nat.le_refl _, .inl (List.eq_nil_of_length_eq_zero (by simpa using hl))⟩
  · exact Row.own (cs := xs ++ sp) (tb := t) (fr := (0, 0)) hw (.head _) (by simp) hk
theorem Vec.nil (t sz : Nat) : Vec t sz (.slice none 0 0) 0 [] [] := ⟨by simp, .inl ⟨rfl, rfl, rfl⟩⟩

theorem run_firstCells {P : Program} {w : World} {v : Value} {k sz : Nat} {xs : List Value} (h : Row w v k xs) (hl : xs.length = k * sz) : (Builtin.firstCells sz k v).run P w = .ok xs.toArray w := by
  obtain ⟨a, c, rfl, _, h⟩ := h
  cases a with
  | none =>
    have : xs = [] := by
      rcases h with h | ⟨b, o, ha, _⟩
      · exact h
      · cases ha
    subst this
    simp [Builtin.firstCells]
  | some a =>
    rcases h with h | ⟨b, o, ha, hc⟩
    · subst h
      simp only [List.length_nil] at hl
      simp [Builtin.firstCells, loadCells, ← hl, loadCellsFrom]
    · simp only [Option.some.injEq] at ha
      subst ha
      simp only [Builtin.firstCells, loadCells]
      rw [run_loadCellsFrom (k * sz) 0 #[] xs hl (fun j hj => by rw [Nat.zero_add]; exact hc j (by omega))]
      simp

theorem zeroCells_size (z : Array Value) (n : Nat) : (Builtin.zeroCells z n).size = n * z.size := by simp [Builtin.zeroCells]

/-- what append does with a slice of the call's own -/
theorem run_append {P : Program} {w0 w : World} {S : List Nat} {l lp : List (Nat × Obj)} {t sz ty tx tr : Nat} {by_ : Nat} {zv : Value} {v x : Value} {k m : Nat} {xs ys : List Value}
    (he : elemT P ty = some t) (hs : sizeT P t = some sz) (hbb : bytesT P t = some by_) (hz : zeroT P t = some zv) (hzc : zv.cells.size = sz) (hx : (∃ e', P.underlying tx = some (.slice e')) ∨ P.underlying tx = some .string)
    (hv : Vec t sz v k xs lp) (hw : St w0 S (lp ++ l) w) (hr : Row w x m ys ∨ ∃ s : ByteArray, x = .string s ∧ s.size = m ∧ sz = 1 ∧ ys = (s.data.toList.map fun b => .int .u8 b.toNat)) (hm : ys.length = m * sz) (hone : ∀ y, y ∈ ys → y.oneCell' = true)
    (hbound : (k + m) * by_ ≤ 140737488355328) (h63 : k + m ≤ 9223372036854775807) :
    ∃ v' w' lp', (Builtin.append_ #[ty, tx] tr #[v, x]).run P w = .ok v' w' ∧ Vec t sz v' (k + m) (xs ++ ys) lp' ∧ St w0 S (lp' ++ l) w' := by
  have hu : P.underlying ty = some (.slice t) := by
    unfold elemT at he
    split at he
    · rename_i e' hu; simp only [Option.some.injEq] at he; rw [hu, he]
    · cases he
  have hinfo : ∃ i, P.info? t = some i ∧ i.bytes = by_ := by
    unfold bytesT at hbb
    cases h : P.info? t with
    | none => rw [h] at hbb; cases hbb
    | some i => rw [h] at hbb; simp at hbb; exact ⟨i, rfl, hbb⟩
  obtain ⟨inf, hi1, hi2⟩ := hinfo
  have hti : ∀ w : World, (typeInfo t).run P w = .ok inf w := fun w => by simp [typeInfo, hi1]
  have hlen : (Builtin.lenOf x).run P w = .ok m w := by
    rcases hr with ⟨a, c, rfl, _⟩ | ⟨s, rfl, hs1, _⟩
    · rfl
    · simp [Builtin.lenOf, hs1]
  have hfirst : (Builtin.firstCells sz m x).run P w = .ok ys.toArray w := by
    rcases hr with hr | ⟨s, rfl, hs1, rfl, hys⟩
    · exact run_firstCells hr hm
    · simp only [Builtin.firstCells, Sem.run_pure]
      congr 1
      subst hs1
      rw [hys]
      have hx : (Array.map (fun b : UInt8 => Value.int IntKind.u8 (b.toNat : Int)) s.data).extract 0 s.size = Array.map (fun b : UInt8 => Value.int IntKind.u8 (b.toNat : Int)) s.data := by
        have hs : s.size = (Array.map (fun b : UInt8 => Value.int IntKind.u8 (b.toNat : Int)) s.data).size := by rw [Array.size_map]; rfl
        rw [hs, Array.extract_size]
      have hy : (s.extract 0 s.size).data.map (fun b : UInt8 => Value.int IntKind.u8 (b.toNat : Int)) = Array.map (fun b : UInt8 => Value.int IntKind.u8 (b.toNat : Int)) s.data := by
        rw [ByteArray.extract_zero_size]
      rw [hy]
      apply Array.ext'
      simp
  obtain ⟨base, c, hvv, hlx, hbase⟩ : ∃ base c, v = .slice base k c ∧ xs.length = k * sz ∧ ((base = none ∧ k = 0 ∧ c = 0 ∧ lp = []) ∨ ∃ b sp, base = some ⟨b, 0, none⟩ ∧ lp = [(b, cb (xs ++ sp) t)] ∧ (xs ++ sp).length = c * sz ∧ k ≤ c) := by
    obtain ⟨hl, h⟩ := hv
    rcases h with ⟨rfl, rfl, rfl⟩ | ⟨b, c, sp, rfl, rfl, h2, hk⟩
    · exact ⟨none, 0, rfl, hl, .inl ⟨rfl, rfl, rfl, rfl⟩⟩
    · exact ⟨_, c, rfl, hl, .inr ⟨b, sp, rfl, rfl, h2, hk⟩⟩
  have hrowv : Row w v k xs := hv.row hw
  subst hvv
  have hti2 : ∀ w : World, (zeroValue t).run P w = .ok zv w := run_zeroValue' hz
  have hsz : ∀ w : World, (sizeOf t).run P w = .ok sz w := run_sizeOf hs
  have hin : k + m ≤ c → (Builtin.append_ #[ty, tx] tr #[.slice base k c, x]).run P w =
        (match base with
          | some a => ((storeCells (a.add (k * sz)) ys).run P w).andThen fun _ w' => Result.ok (Value.slice base (k + m) c) w'
          | none => Result.ok (Value.slice base (k + m) c) w) := by
    intro hc
    rcases hx with ⟨e', hdx⟩ | hdx <;> cases base <;>
      simp [Builtin.append_, run_underlying' hu, run_underlying' hdx, hsz, hlen, hc, hfirst]
  have hout : ¬ k + m ≤ c → ∀ (old new : Array Value), (Builtin.firstCells sz k (.slice base k c)).run P w.drew = .ok old w.drew → (Builtin.firstCells sz m x).run P w.drew = .ok new w.drew →
      (Builtin.append_ #[ty, tx] tr #[.slice base k c, x]).run P w = .ok (.slice (some ⟨w.heap.size, 0, none⟩) (k + m) (grownCap w (k + m) c t))
        (w.drew.alloc (.cells (old ++ (new ++ Builtin.zeroCells zv.cells (grownCap w (k + m) c t - (k + m)))) t)) := by
    intro hc old new ho hn
    have h63' : ¬ (9223372036854775807 < ((k : Int) + (m : Int))) := by omega
    have hfit : Builtin.nextslicecap (k + m) c * inf.bytes ≤ 281474976710656 := growslice_fits (by omega) (by rw [hi2]; exact hbound)
    have h48' : ¬ (281474976710656 < Builtin.nextslicecap (k + m) c * inf.bytes) := by omega
    rcases hx with ⟨e', hdx⟩ | hdx <;>
      simp [Builtin.append_, run_underlying' hu, run_underlying' hdx, hsz, hlen, hc, hti, h63', h48', Question.forced, ho, hn, hti2, newRow, grownCap]
  by_cases hc : k + m ≤ c
  · rcases hbase with ⟨rfl, rfl, rfl, rfl⟩ | ⟨b, sp, rfl, rfl, h2, hk⟩
    · obtain rfl : m = 0 := by omega
      have h1 : xs = [] := List.eq_nil_of_length_eq_zero (by simpa using hlx)
      have h3 : ys = [] := List.eq_nil_of_length_eq_zero (by simpa using hm)
      subst h1; subst h3
      exact ⟨_, w, [], hin (by omega), ⟨by simp, .inl ⟨rfl, rfl, rfl⟩⟩, hw⟩
    · have hle : k * sz + ys.length ≤ (xs ++ sp).length := by
        rw [h2, hm, ← Nat.add_mul]; exact Nat.mul_le_mul_right _ hc
      obtain ⟨w', hr', hw'⟩ := run_storeCells (P := P) (t := t) ys w (xs ++ sp) (k * sz) 0 (hw.own _ (.head _)) (by omega) hone
      have hset : setMany (xs ++ sp) (k * sz + 0) ys = xs ++ ys ++ sp.drop ys.length := by
        rw [Nat.add_zero, setMany_eq _ _ _ hle, ← hlx]
        simp [List.drop_append]
      refine ⟨.slice (some ⟨b, 0, none⟩) (k + m) c, w', [(b, cb (xs ++ ys ++ sp.drop ys.length) t)], ?_, ⟨?_, .inr ⟨b, c, sp.drop ys.length, rfl, rfl, ?_, hc⟩⟩, ?_⟩
      · rw [hin hc]
        simp only [addr_add, Nat.zero_add]
        have : (storeCells ⟨b, k * sz, none⟩ ys).run P w = .ok () w' := hr'
        rw [this]; rfl
      · simp [hlx, hm, Nat.add_mul]
      · simp only [List.length_append, List.length_drop] at h2 hle ⊢; omega
      · rw [hset] at hw'
        exact hw.wrote (l' := (b, cb (xs ++ ys ++ sp.drop ys.length) t) :: l) .here hw'
  · have hrowx' : (Builtin.firstCells sz m x).run P w.drew = .ok ys.toArray w.drew := by
      rcases hr with hr | ⟨s, rfl, hs1, rfl, hys⟩
      · exact run_firstCells (w := w.drew) hr hm
      · simp only [Builtin.firstCells, Sem.run_pure] at hfirst ⊢
        simp only [Result.ok.injEq, and_true] at hfirst
        rw [hfirst]
    have hrowv' : (Builtin.firstCells sz k (.slice base k c)).run P w.drew = .ok xs.toArray w.drew := run_firstCells (w := w.drew) hrowv hlx
    have hncl := grownCap_ge w (k + m) c t
    have h1 : St w0 S l w := hw.drop (List.sublist_append_right lp l)
    have hrun := hout hc _ _ hrowv' hrowx'
    generalize grownCap w (k + m) c t = nc at hncl hrun
    have hz2 : (Builtin.zeroCells zv.cells (nc - (k + m))).size = (nc - (k + m)) * sz := by rw [zeroCells_size, hzc]
    have hobj : (Obj.cells (xs.toArray ++ (ys.toArray ++ Builtin.zeroCells zv.cells (nc - (k + m)))) t) = cb (xs ++ ys ++ (Builtin.zeroCells zv.cells (nc - (k + m))).toList) t := by
      simp [cb]
    rw [hobj] at hrun
    refine ⟨_, _, [(w.heap.size, cb (xs ++ ys ++ (Builtin.zeroCells zv.cells (nc - (k + m))).toList) t)], hrun, ⟨by simp [hlx, hm, Nat.add_mul], .inr ⟨_, nc, _, rfl, rfl, ?_, hncl⟩⟩, ?_⟩
    · simp only [List.length_append, Array.length_toList, hz2, hlx, hm]
      rw [← Nat.add_mul, ← Nat.add_mul]; congr 1; omega
    · have h2 : Bel w (w.drew.alloc (cb (xs ++ ys ++ (Builtin.zeroCells zv.cells (nc - (k + m))).toList) t)) := ((Bel.refl w).drew).alloc _
      exact h1.new h2 (Nat.le_refl _) (alloc_at w.drew _)
end Go.J
