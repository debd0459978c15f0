/-
  The calculus: slices whose capacity may end ahead of their block; s[lo:hi:max]; rows of anything. Proved over any program.
-/
import Derived.Test.YtohldionclgljaaGreatMd
namespace Go.J
open Go.RowKit
set_option linter.unusedVariables false
set_option linter.unusedSimpArgs false
/-- a slice of the call's own of which the block may hold more than its capacity -/
def VecW (t sz : Nat) (v : Value) (k : Nat) (xs : List Value) (lp : List (Nat × Obj)) : Prop :=
  xs.length = k * sz ∧ ((v = .slice none 0 0 ∧ k = 0 ∧ lp = []) ∨ ∃ b c sp, v = .slice (some ⟨b, 0, none⟩) k c ∧ lp = [(b, cb (xs ++ sp) t)] ∧ c * sz ≤ (xs ++ sp).length ∧ k ≤ c)
theorem Vec.weak {t sz : Nat} {v : Value} {k : Nat} {xs : List Value} {lp : List (Nat × Obj)} (h : Vec t sz v k xs lp) : VecW t sz v k xs lp := by
  refine ⟨h.1, ?_⟩
  rcases h.2 with h | ⟨b, c, sp, h1, h2, h3, h4⟩
  · exact .inl h
  · exact .inr ⟨b, c, sp, h1, h2, Nat.le_of_eq h3.symm, h4⟩
theorem VecW.nil (t sz : Nat) : VecW t sz (.slice none 0 0) 0 [] [] := (Vec.nil t sz).weak
theorem VecW.row {w0 w : World} {S : List Nat} {l lp : List (Nat × Obj)} {t sz : Nat} {v : Value} {k : Nat} {xs : List Value} (h : VecW t sz v k xs lp) (hw : St w0 S (lp ++ l) w) : Row w v k xs := by
  obtain ⟨hl, h⟩ := h
  rcases h with ⟨rfl, rfl, rfl⟩ | ⟨b, c, sp, rfl, rfl, _, hk⟩
  · exact ⟨none, 0, rfl, Nat.le_refl _, .inl (List.eq_nil_of_length_eq_zero (by simpa using hl))⟩
  · exact Row.own (cs := xs ++ sp) (tb := t) (fr := (0, 0)) hw (.head _) (by simp) hk
theorem VecW.rowM {w0 w : World} {S : List Nat} {l lp : List (Nat × Obj)} {t sz : Nat} {v : Value} {k : Nat} {xs : List Value} (h : VecW t sz v k xs lp) (hw : St w0 S l w) (hm : ∀ p, p ∈ lp → p ∈ l) : Row w v k xs := by
  obtain ⟨hl, h⟩ := h
  rcases h with ⟨rfl, rfl, rfl⟩ | ⟨b, c, sp, rfl, rfl, _, hk⟩
  · exact ⟨none, 0, rfl, Nat.le_refl _, .inl (List.eq_nil_of_length_eq_zero (by simpa using hl))⟩
  · exact Row.own (cs := xs ++ sp) (tb := t) (fr := (0, 0)) hw (hm _ (.head _)) (by simp) hk
theorem VecW.form {t sz : Nat} {v : Value} {k : Nat} {xs : List Value} {lp : List (Nat × Obj)} (h : VecW t sz v k xs lp) : ∃ a c, v = .slice a k c ∧ k ≤ c := by
  rcases h.2 with ⟨rfl, rfl, rfl⟩ | ⟨b, c, sp, rfl, rfl, _, hk⟩
  · exact ⟨none, 0, rfl, Nat.le_refl _⟩
  · exact ⟨_, c, rfl, hk⟩
theorem VecW.pos {t sz : Nat} {a : Option Addr} {k c : Nat} {xs : List Value} {lp : List (Nat × Obj)} (h : VecW t sz (.slice a k c) k xs lp) (h0 : 0 < k) : ∃ q sp, a = some ⟨q, 0, none⟩ ∧ lp = [(q, cb (xs ++ sp) t)] ∧ c * sz ≤ (xs ++ sp).length ∧ k ≤ c := by
  rcases h.2 with ⟨_, h2, _⟩ | ⟨b, c', sp, h1, h2, h3, h4⟩
  · omega
  · simp only [Value.slice.injEq] at h1
    obtain ⟨rfl, _, rfl⟩ := h1
    exact ⟨b, sp, rfl, h2, h3, h4⟩
/-- its first j elements, with no more room than that -/
theorem VecW.cut {t sz : Nat} {a : Option Addr} {k c j : Nat} {xs : List Value} {lp : List (Nat × Obj)} (h : VecW t sz (.slice a k c) k xs lp) (hj : j ≤ k) : VecW t sz (.slice a j j) j (xs.take (j * sz)) lp := by
  have hl := h.1
  have hle : j * sz ≤ xs.length := by rw [hl]; exact Nat.mul_le_mul_right _ hj
  refine ⟨by rw [List.length_take]; omega, ?_⟩
  rcases h.2 with ⟨h1, h2, h3⟩ | ⟨b, c', sp, h1, h2, h3, h4⟩
  · simp only [Value.slice.injEq] at h1
    obtain ⟨rfl, _, _⟩ := h1
    obtain rfl : j = 0 := by omega
    exact .inl ⟨rfl, rfl, h3⟩
  · simp only [Value.slice.injEq] at h1
    obtain ⟨rfl, _, _⟩ := h1
    refine .inr ⟨b, j, xs.drop (j * sz) ++ sp, rfl, ?_, ?_, Nat.le_refl _⟩
    · rw [h2, ← List.append_assoc, List.take_append_drop]
    · rw [← List.append_assoc, List.take_append_drop, List.length_append]; omega
/-- what append does with a slice of the call's own -/
theorem run_appendW {P : Program} {w0 w : World} {S : List Nat} {l lp : List (Nat × Obj)} {t sz ty tx tr : Nat} {by_ : Nat} {zv : Value} {v x : Value} {k m : Nat} {xs ys : List Value}
    (he : elemT P ty = some t) (hs : sizeT P t = some sz) (hbb : bytesT P t = some by_) (hz : zeroT P t = some zv) (hzc : zv.cells.size = sz) (hx : (∃ e', P.underlying tx = some (.slice e')) ∨ P.underlying tx = some .string)
    (hv : VecW t sz v k xs lp) (hw : St w0 S (lp ++ l) w) (hr : Row w x m ys ∨ ∃ s : ByteArray, x = .string s ∧ s.size = m ∧ sz = 1 ∧ ys = (s.data.toList.map fun b => .int .u8 b.toNat)) (hm : ys.length = m * sz) (hone : ∀ y, y ∈ ys → y.oneCell' = true)
    (hbound : (k + m) * by_ ≤ 140737488355328) (h63 : k + m ≤ 9223372036854775807) :
    ∃ v' w' lp', (Builtin.append_ #[ty, tx] tr #[v, x]).run P w = .ok v' w' ∧ VecW t sz v' (k + m) (xs ++ ys) lp' ∧ St w0 S (lp' ++ l) w' := by
  have hu : P.underlying ty = some (.slice t) := by
    unfold elemT at he
    split at he
    · rename_i e' hu; simp only [Option.some.injEq] at he; rw [hu, he]
    · cases he
  have hinfo : ∃ i, P.info? t = some i ∧ i.bytes = by_ := by
    unfold bytesT at hbb
    cases h : P.info? t with
    | none => rw [h] at hbb; cases hbb
    | some i => rw [h] at hbb; simp at hbb; exact ⟨i, rfl, hbb⟩
  obtain ⟨inf, hi1, hi2⟩ := hinfo
  have hti : ∀ w : World, (typeInfo t).run P w = .ok inf w := fun w => by simp [typeInfo, hi1]
  have hlen : (Builtin.lenOf x).run P w = .ok m w := by
    rcases hr with ⟨a, c, rfl, _⟩ | ⟨s, rfl, hs1, _⟩
    · rfl
    · simp [Builtin.lenOf, hs1]
  have hfirst : (Builtin.firstCells sz m x).run P w = .ok ys.toArray w := by
    rcases hr with hr | ⟨s, rfl, hs1, rfl, hys⟩
    · exact run_firstCells hr hm
    · simp only [Builtin.firstCells, Sem.run_pure]
      congr 1
      subst hs1
      rw [hys]
      have hx : (Array.map (fun b : UInt8 => Value.int IntKind.u8 (b.toNat : Int)) s.data).extract 0 s.size = Array.map (fun b : UInt8 => Value.int IntKind.u8 (b.toNat : Int)) s.data := by
        have hs : s.size = (Array.map (fun b : UInt8 => Value.int IntKind.u8 (b.toNat : Int)) s.data).size := by rw [Array.size_map]; rfl
        rw [hs, Array.extract_size]
      have hy : (s.extract 0 s.size).data.map (fun b : UInt8 => Value.int IntKind.u8 (b.toNat : Int)) = Array.map (fun b : UInt8 => Value.int IntKind.u8 (b.toNat : Int)) s.data := by
        rw [ByteArray.extract_zero_size]
      rw [hy]
      apply Array.ext'
      simp
  obtain ⟨base, c, hvv, hlx, hbase⟩ : ∃ base c, v = .slice base k c ∧ xs.length = k * sz ∧ ((base = none ∧ k = 0 ∧ c = 0 ∧ lp = []) ∨ ∃ b sp, base = some ⟨b, 0, none⟩ ∧ lp = [(b, cb (xs ++ sp) t)] ∧ c * sz ≤ (xs ++ sp).length ∧ k ≤ c) := by
    obtain ⟨hl, h⟩ := hv
    rcases h with ⟨rfl, rfl, rfl⟩ | ⟨b, c, sp, rfl, rfl, h2, hk⟩
    · exact ⟨none, 0, rfl, hl, .inl ⟨rfl, rfl, rfl, rfl⟩⟩
    · exact ⟨_, c, rfl, hl, .inr ⟨b, sp, rfl, rfl, h2, hk⟩⟩
  have hrowv : Row w v k xs := hv.row hw
  subst hvv
  have hti2 : ∀ w : World, (zeroValue t).run P w = .ok zv w := run_zeroValue' hz
  have hsz : ∀ w : World, (sizeOf t).run P w = .ok sz w := run_sizeOf hs
  have hin : k + m ≤ c → (Builtin.append_ #[ty, tx] tr #[.slice base k c, x]).run P w =
        (match base with
          | some a => ((storeCells (a.add (k * sz)) ys).run P w).andThen fun _ w' => Result.ok (Value.slice base (k + m) c) w'
          | none => Result.ok (Value.slice base (k + m) c) w) := by
    intro hc
    rcases hx with ⟨e', hdx⟩ | hdx <;> cases base <;>
      simp [Builtin.append_, run_underlying' hu, run_underlying' hdx, hsz, hlen, hc, hfirst]
  have hout : ¬ k + m ≤ c → ∀ (old new : Array Value), (Builtin.firstCells sz k (.slice base k c)).run P w.drew = .ok old w.drew → (Builtin.firstCells sz m x).run P w.drew = .ok new w.drew →
      (Builtin.append_ #[ty, tx] tr #[.slice base k c, x]).run P w = .ok (.slice (some ⟨w.heap.size, 0, none⟩) (k + m) (grownCap w (k + m) c t))
        (w.drew.alloc (.cells (old ++ (new ++ Builtin.zeroCells zv.cells (grownCap w (k + m) c t - (k + m)))) t)) := by
    intro hc old new ho hn
    have h63' : ¬ (9223372036854775807 < ((k : Int) + (m : Int))) := by omega
    have hfit : Builtin.nextslicecap (k + m) c * inf.bytes ≤ 281474976710656 := growslice_fits (by omega) (by rw [hi2]; exact hbound)
    have h48' : ¬ (281474976710656 < Builtin.nextslicecap (k + m) c * inf.bytes) := by omega
    rcases hx with ⟨e', hdx⟩ | hdx <;>
      simp [Builtin.append_, run_underlying' hu, run_underlying' hdx, hsz, hlen, hc, hti, h63', h48', Question.forced, ho, hn, hti2, newRow, grownCap]
  by_cases hc : k + m ≤ c
  · rcases hbase with ⟨rfl, rfl, rfl, rfl⟩ | ⟨b, sp, rfl, rfl, h2, hk⟩
    · obtain rfl : m = 0 := by omega
      have h1 : xs = [] := List.eq_nil_of_length_eq_zero (by simpa using hlx)
      have h3 : ys = [] := List.eq_nil_of_length_eq_zero (by simpa using hm)
      subst h1; subst h3
      exact ⟨_, w, [], hin (by omega), ⟨by simp, .inl ⟨rfl, rfl, rfl⟩⟩, hw⟩
    · have hle : k * sz + ys.length ≤ (xs ++ sp).length := by
        rw [hm, ← Nat.add_mul]; exact Nat.le_trans (Nat.mul_le_mul_right _ hc) h2
      obtain ⟨w', hr', hw'⟩ := run_storeCells (P := P) (t := t) ys w (xs ++ sp) (k * sz) 0 (hw.own _ (.head _)) (by omega) hone
      have hset : setMany (xs ++ sp) (k * sz + 0) ys = xs ++ ys ++ sp.drop ys.length := by
        rw [Nat.add_zero, setMany_eq _ _ _ hle, ← hlx]
        simp [List.drop_append]
      refine ⟨.slice (some ⟨b, 0, none⟩) (k + m) c, w', [(b, cb (xs ++ ys ++ sp.drop ys.length) t)], ?_, ⟨?_, .inr ⟨b, c, sp.drop ys.length, rfl, rfl, ?_, hc⟩⟩, ?_⟩
      · rw [hin hc]
        simp only [addr_add, Nat.zero_add]
        have : (storeCells ⟨b, k * sz, none⟩ ys).run P w = .ok () w' := hr'
        rw [this]; rfl
      · simp [hlx, hm, Nat.add_mul]
      · simp only [List.length_append, List.length_drop] at h2 hle ⊢; omega
      · rw [hset] at hw'
        exact hw.wrote (l' := (b, cb (xs ++ ys ++ sp.drop ys.length) t) :: l) .here hw'
  · have hrowx' : (Builtin.firstCells sz m x).run P w.drew = .ok ys.toArray w.drew := by
      rcases hr with hr | ⟨s, rfl, hs1, rfl, hys⟩
      · exact run_firstCells (w := w.drew) hr hm
      · simp only [Builtin.firstCells, Sem.run_pure] at hfirst ⊢
        simp only [Result.ok.injEq, and_true] at hfirst
        rw [hfirst]
    have hrowv' : (Builtin.firstCells sz k (.slice base k c)).run P w.drew = .ok xs.toArray w.drew := run_firstCells (w := w.drew) hrowv hlx
    have hncl := grownCap_ge w (k + m) c t
    have h1 : St w0 S l w := hw.drop (List.sublist_append_right lp l)
    have hrun := hout hc _ _ hrowv' hrowx'
    generalize grownCap w (k + m) c t = nc at hncl hrun
    have hz2 : (Builtin.zeroCells zv.cells (nc - (k + m))).size = (nc - (k + m)) * sz := by rw [zeroCells_size, hzc]
    have hobj : (Obj.cells (xs.toArray ++ (ys.toArray ++ Builtin.zeroCells zv.cells (nc - (k + m)))) t) = cb (xs ++ ys ++ (Builtin.zeroCells zv.cells (nc - (k + m))).toList) t := by
      simp [cb]
    rw [hobj] at hrun
    refine ⟨_, _, [(w.heap.size, cb (xs ++ ys ++ (Builtin.zeroCells zv.cells (nc - (k + m))).toList) t)], hrun, ⟨by simp [hlx, hm, Nat.add_mul], .inr ⟨_, nc, _, rfl, rfl, ?_, hncl⟩⟩, ?_⟩
    · refine Nat.le_of_eq (Eq.symm ?_)
      simp only [List.length_append, Array.length_toList, hz2, hlx, hm]
      rw [← Nat.add_mul, ← Nat.add_mul]; congr 1; omega
    · have h2 : Bel w (w.drew.alloc (cb (xs ++ ys ++ (Builtin.zeroCells zv.cells (nc - (k + m))).toList) t)) := ((Bel.refl w).drew).alloc _
      exact h1.new h2 (Nat.le_refl _) (alloc_at w.drew _)

theorem run_sliceBounds3 {P : Program} {len cap a b m : Nat} {lo : Option Value} {hi mx : Value} (hl : bnd 0 lo = some a) (hh : bnd 0 (some hi) = some b) (hm : bnd 0 (some mx) = some m) (h1 : a ≤ b) (h2 : b ≤ m) (h3 : m ≤ cap) (w : World) :
    (Instr.sliceBounds true len cap lo (some hi) (some mx)).run P w = .ok (a, b, m) w := by
  have e1 : ∀ (x : Value) (y c : Nat) (code : BoundsCode), bnd 0 (some x) = some c → c ≤ y → (Instr.sliceBound x y code).run P w = .ok c w := by
    intro x y c code hb hle
    cases x <;> simp only [bnd, reduceCtorEq] at hb
    rename_i k i
    split at hb
    · rename_i h0
      simp only [Option.some.injEq] at hb
      have : i ≤ (y : Int) := by omega
      simp [Instr.sliceBound, asIntOf, h0, this, hb]
    · cases hb
  have em := e1 mx cap m .slice3Acap hm h3
  have eh := e1 hi m b .slice3B hh h2
  cases lo with
  | none => simp only [bnd, Option.some.injEq] at hl; subst hl; simp [Instr.sliceBounds, em, eh]
  | some x => simp [Instr.sliceBounds, em, eh, e1 x b a .slice3C hl h1]
section
variable {P : Program} {ops : Array Oper} {Q : Exit → Act → World → Prop} {n : Nat} {e : Env} {I I' : World → Prop} {rest : List Oper}
variable {d t : Nat} {p : String} {af : Array Edge} {x y z : Operand} {v v1 v2 : Value} {w0 : World} {S : List Nat} {l l' lp : List (Nat × Obj)}
/-- s[lo:hi:max] of a slice -/
theorem J.slice3 {ty el : TypeId} {sz k c i j m : Nat} {a : Option Addr} {lo : Option Operand} {hi mx : Operand} {vl : Option Value} {vh vm : Value} (he : elemT P ty = some el) (hs : sizeT P el = some sz) (hx : ev e x = some (.slice a k c))
    (hlo : optI e lo = some vl) (hhi : ev e hi = some vh) (hmx : ev e mx = some vm) (h1 : bnd 0 vl = some i) (h2 : bnd 0 (some vh) = some j) (h3 : bnd 0 (some vm) = some m) (h4 : i ≤ j) (h5 : j ≤ m) (h6 : m ≤ c) (hd : Nat.blt d n = true)
    (h : J P ops Q n rest ((d, .slice (if m = i then a else a.map (·.add (i * sz))) (j - i) (m - i)) :: e) I) : J P ops Q n (⟨some d, .slice ty x lo (some hi) (some mx), t, p, af, none⟩ :: rest) e I := by
  refine J.value hd (fun T w ht hw => ⟨w, ?_, hw⟩) h
  have hb := run_sliceBounds3 (P := P) (len := k) h1 h2 h3 h4 h5 h6 w
  simp only [execOp, ht.eval hx, Instr.sliceAt, Instr.slice, run_underlying' (elem_u he), Sem.run_bind, Result.andThen_ok, Sem.run_pure, ht.optI hlo, ht.eval hhi, ht.eval hmx, Option.map_some, Sem.run_map, hb, run_sizeOf hs]
/-- append -/
theorem J.appendW {ty tx el sz by_ k m : Nat} {zv : Value} {xs ys : List Value} (he : elemT P ty = some el) (hs : sizeT P el = some sz) (hbb : bytesT P el = some by_) (hz : zeroT P el = some zv) (hzc : zv.cells.size = sz)
    (htx : (∃ e', P.underlying tx = some (.slice e')) ∨ P.underlying tx = some .string)
    (hx : ev e x = some v1) (hy : ev e y = some v2) (hv : VecW el sz v1 k xs lp)
    (hr : ∀ w, St w0 S (lp ++ l) w → Row w v2 m ys ∨ ∃ s : ByteArray, v2 = .string s ∧ s.size = m ∧ sz = 1 ∧ ys = (s.data.toList.map fun b => .int .u8 b.toNat)) (hm : ys.length = m * sz) (hone : ∀ y, y ∈ ys → y.oneCell' = true)
    (hbound : (k + m) * by_ ≤ 140737488355328) (h63 : k + m ≤ 9223372036854775807) (hd : Nat.blt d n = true)
    (h : ∀ v' lp', VecW el sz v' (k + m) (xs ++ ys) lp' → J P ops Q n rest ((d, v') :: e) (St w0 S (lp' ++ l))) :
    J P ops Q n (⟨some d, .call ⟨.builtin .append, #[x, y], #[ty, tx]⟩, t, p, af, none⟩ :: rest) e (St w0 S (lp ++ l)) := by
  refine J.valueEx (α := Value × List (Nat × Obj)) (V := (·.1)) (I' := fun q w => VecW el sz q.1 (k + m) (xs ++ ys) q.2 ∧ St w0 S (q.2 ++ l) w) hd (fun T w ht hw => ?_) (fun q => J.pr fun hq => h q.1 q.2 hq)
  obtain ⟨v', w', lp', hrun, hvec, hst⟩ := run_appendW (P := P) (tr := t) he hs hbb hz hzc htx hv hw (hr w hw) hm hone hbound h63
  exact ⟨(v', lp'), w', by simp [execOp, resolve, invoke, builtin, ht.eval hx, ht.eval hy, hrun], hvec, hst⟩

end
/-- rows of anything -/
theorem fG_length {α : Type} {c : α → List Value} {sz : Nat} (hc : ∀ x, (c x).length = sz) : ∀ xs : List α, (xs.flatMap c).length = xs.length * sz
  | [] => by simp
  | x :: xs => by
    have := fG_length hc xs
    simp only [List.flatMap_cons, List.length_append, List.length_cons, this, hc, Nat.add_mul]
    omega
theorem fG_at {α : Type} {c : α → List Value} {sz : Nat} (hc : ∀ x, (c x).length = sz) : ∀ {xs : List α} {i : Nat} {a : α}, xs[i]? = some a → ((xs.flatMap c).drop (i * sz)).take sz = c a
  | [], i, a, h => by simp at h
  | x :: xs, 0, a, h => by
    simp only [List.getElem?_cons_zero, Option.some.injEq] at h
    subst h
    rw [Nat.zero_mul, List.drop_zero, List.flatMap_cons, ← hc x, List.take_left]
  | x :: xs, i + 1, a, h => by
    have ih := fG_at hc (xs := xs) (i := i) (by simpa using h)
    rw [Nat.add_mul, Nat.one_mul, Nat.add_comm, ← List.drop_drop, List.flatMap_cons]
    have : (c x ++ List.flatMap c xs).drop sz = List.flatMap c xs := by rw [← hc x, List.drop_left]
    rw [this]
    exact ih
theorem rowG_at {α : Type} {c : α → List Value} {sz : Nat} (hc : ∀ x, (c x).length = sz) {w : World} {b o k cc q i : Nat} {xs : List α} {a : α} (h : Row w (.slice (some ⟨b, o, none⟩) k cc) k (xs.flatMap c)) (hi : xs[i]? = some a) (hq : q = o + i * sz) : Cells w b q (c a) := by
  have hl : i < xs.length := (List.getElem?_eq_some_iff.1 hi).1
  have hlen := fG_length hc xs
  intro j hj
  rw [hc a] at hj
  have h1 : (i + 1) * sz ≤ xs.length * sz := Nat.mul_le_mul_right _ hl
  rw [Nat.add_mul, Nat.one_mul] at h1
  obtain ⟨b', o', c', hv, _, hcc⟩ := Row.some h (by omega)
  simp only [Value.slice.injEq, Option.some.injEq, Addr.mk.injEq] at hv
  obtain ⟨⟨rfl, rfl, _⟩, _, rfl⟩ := hv
  subst hq
  rw [Nat.add_assoc, hcc (i * sz + j) (by omega)]
  have e := fG_at hc hi
  have : (c a)[j]? = (((xs.flatMap c).drop (i * sz)).take sz)[j]? := by rw [e]
  rw [this, List.getElem?_take_of_lt hj, List.getElem?_drop]
theorem fG_cell {α : Type} {c : α → List Value} {sz : Nat} (hc : ∀ x, (c x).length = sz) {xs : List α} {i r : Nat} {a : α} (h : xs[i]? = some a) (hr : r < sz) : (xs.flatMap c)[i * sz + r]? = (c a)[r]? := by
  rw [← fG_at hc h, List.getElem?_take_of_lt hr, List.getElem?_drop]
theorem fG_take {α : Type} {c : α → List Value} {sz : Nat} (hc : ∀ x, (c x).length = sz) : ∀ (xs : List α) (j : Nat), (xs.flatMap c).take (j * sz) = (xs.take j).flatMap c
  | [], j => by simp
  | x :: xs, 0 => by simp
  | x :: xs, j + 1 => by
    rw [Nat.add_mul, Nat.one_mul, Nat.add_comm, List.flatMap_cons, List.take_succ_cons, List.flatMap_cons, ← fG_take hc xs j, ← hc x, List.take_length_add_append]
theorem fG_drop {α : Type} {c : α → List Value} {sz : Nat} (hc : ∀ x, (c x).length = sz) : ∀ (xs : List α) (j : Nat), (xs.flatMap c).drop (j * sz) = (xs.drop j).flatMap c
  | [], j => by simp
  | x :: xs, 0 => by simp
  | x :: xs, j + 1 => by
    rw [Nat.add_mul, Nat.one_mul, Nat.add_comm, List.flatMap_cons, List.drop_succ_cons, ← fG_drop hc xs j, ← hc x, List.drop_length_add_append]
end Go.J
