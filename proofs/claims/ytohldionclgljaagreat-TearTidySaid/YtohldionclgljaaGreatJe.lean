/-
  The calculus' rules for slices. Proved over any program.
-/
import Derived.Test.YtohldionclgljaaGreatJd
namespace Go.J
open Go.RowKit
set_option linter.unusedVariables false
set_option linter.unusedSimpArgs false

theorem elem_u {P : Program} {ty t : TypeId} (he : elemT P ty = some t) : P.underlying ty = some (.slice t) := by
  unfold elemT at he
  split at he
  · rename_i e' hu; simp only [Option.some.injEq] at he; rw [hu, he]
  · cases he
theorem arr_u {P : Program} {ty t n : Nat} (he : arrT P ty = some (n, t)) : P.underlying ty = some (.array n t) := by
  unfold arrT at he
  split at he
  · rename_i n' e' hu; simp only [Option.some.injEq, Prod.mk.injEq] at he; obtain ⟨rfl, rfl⟩ := he; exact hu
  · cases he

/-- the cells of a string's bytes -/
abbrev u8 (b : UInt8) : Value := .int .u8 (b.toNat : Int)
theorem one_u8 (bs : List UInt8) : ∀ v, v ∈ bs.map u8 → v.oneCell' = true := by
  intro v hv
  obtain ⟨b, _, rfl⟩ := List.mem_map.1 hv
  rfl

def optI (e : Env) : Option Operand → Option (Option Value)
  | none => some none
  | some x => match ev e x with
    | some v => some (some v)
    | none => none
theorem Rep.optI {n : Nat} {T : Array Value} {e : Env} (h : Rep n T e) {x : Option Operand} {v : Option Value} (hx : optI e x = some v) : x.map (act T).eval = v := by
  cases x with
  | none => simp only [J.optI, Option.some.injEq] at hx; subst hx; rfl
  | some x =>
    simp only [J.optI] at hx
    split at hx
    · rename_i u hu; simp only [Option.some.injEq] at hx; subst hx; simp [h.eval hu]
    · cases hx

theorem wrap_i64 {n : Int} (h1 : -9223372036854775808 ≤ n) (h2 : n < 9223372036854775808) : IntKind.i64.wrap n = n := by
  have e1 : ((2 : Int) ^ 64) = 18446744073709551616 := by decide
  have e2 : ((2 : Int) ^ (64 - 1)) = 9223372036854775808 := by decide
  simp only [IntKind.wrap, IntKind.bits, IntKind.signed, Bool.true_and, decide_eq_true_eq, e1, e2]
  split <;> omega
theorem wrap_u64 {n : Int} (h1 : 0 ≤ n) (h2 : n < 18446744073709551616) : IntKind.u64.wrap n = n := by
  have e1 : ((2 : Int) ^ 64) = 18446744073709551616 := by decide
  simp only [IntKind.wrap, IntKind.bits, IntKind.signed, Bool.false_and, e1]
  rw [if_neg (by simp)]; omega
theorem wrap_u64m (n : Int) : IntKind.u64.wrap n = n % 18446744073709551616 := by
  have e1 : ((2 : Int) ^ 64) = 18446744073709551616 := by decide
  simp only [IntKind.wrap, IntKind.bits, IntKind.signed, Bool.false_and, e1]
  rw [if_neg (by simp)]
theorem wrap_u8m (n : Int) : IntKind.u8.wrap n = n % 256 := by
  have e1 : ((2 : Int) ^ 8) = 256 := by decide
  simp only [IntKind.wrap, IntKind.bits, IntKind.signed, Bool.false_and, e1]
  rw [if_neg (by simp)]

/-- the bounds of x[lo:hi] -/
def bnd (d : Nat) : Option Value → Option Nat
  | none => some d
  | some (.int _ i) => if 0 ≤ i then some i.toNat else none
  | _ => none
theorem run_sliceBounds {P : Program} (isS : Bool) {len cap a b : Nat} {lo hi : Option Value} (hl : bnd 0 lo = some a) (hh : bnd len hi = some b) (h1 : a ≤ b) (h2 : b ≤ cap) (w : World) (h3 : hi = none → len ≤ cap) :
    (Instr.sliceBounds isS len cap lo hi none).run P w = .ok (a, b, cap) w := by
  have e1 : ∀ (x : Value) (y c : Nat) (code : BoundsCode), bnd 0 (some x) = some c → c ≤ y → (Instr.sliceBound x y code).run P w = .ok c w := by
    intro x y c code hb hle
    cases x <;> simp only [bnd, reduceCtorEq] at hb
    rename_i k i
    split at hb
    · rename_i h0
      simp only [Option.some.injEq] at hb
      have : i ≤ (y : Int) := by omega
      simp [Instr.sliceBound, asIntOf, h0, this, hb]
    · cases hb
  have hh' : ∀ x, hi = some x → bnd 0 (some x) = some b := by
    intro x hx; subst hx; cases x <;> exact hh
  have hl' : ∀ x, lo = some x → bnd 0 (some x) = some a := by
    intro x hx; subst hx; exact hl
  cases hi with
  | none =>
    simp only [bnd, Option.some.injEq] at hh
    subst hh
    cases lo with
    | none => simp only [bnd, Option.some.injEq] at hl; subst hl; simp [Instr.sliceBounds]
    | some x => simp [Instr.sliceBounds, e1 x len a .sliceB (hl' x rfl) h1]
  | some y =>
    have hy := e1 y cap b (if isS then .sliceAcap else .sliceAlen) (hh' y rfl) h2
    cases lo with
    | none => simp only [bnd, Option.some.injEq] at hl; subst hl; simp [Instr.sliceBounds, hy]
    | some x => simp [Instr.sliceBounds, hy, e1 x b a .sliceB (hl' x rfl) h1]

section
variable {P : Program} {ops : Array Oper} {Q : Exit → Act → World → Prop} {n : Nat} {e : Env} {I I' : World → Prop} {rest : List Oper}
variable {d t : Nat} {p : String} {af : Array Edge} {x y z : Operand} {v v1 v2 : Value} {w0 : World} {S : List Nat} {l l' lp : List (Nat × Obj)}

/-- a[lo:hi] of an array behind a pointer -/
theorem J.sliceA {ty el : TypeId} {len sz b o i j : Nat} {lo hi : Option Operand} {vl vh : Option Value} (he : arrT P ty = some (len, el)) (hs : sizeT P el = some sz) (hx : ev e x = some (.pointer (some ⟨b, o, none⟩)))
    (hlo : optI e lo = some vl) (hhi : optI e hi = some vh) (h1 : bnd 0 vl = some i) (h2 : bnd len vh = some j) (h3 : i ≤ j) (h4 : j ≤ len) (hd : Nat.blt d n = true)
    (h : J P ops Q n rest ((d, .slice (some ⟨b, if len = i then o else o + i * sz, none⟩) (j - i) (len - i)) :: e) I) : J P ops Q n (⟨some d, .slice ty x lo hi none, t, p, af, none⟩ :: rest) e I := by
  refine J.value hd (fun T w ht hw => ⟨w, ?_, hw⟩) h
  have hb := run_sliceBounds (P := P) false h1 h2 h3 h4 w (fun _ => Nat.le_refl _)
  simp only [execOp, ht.eval hx, Instr.sliceAt, run_underlying' (arr_u he), Sem.run_bind, Result.andThen_ok, Instr.sureAddr, Sem.run_pure, ht.optI hlo, ht.optI hhi, Option.map_none, hb, run_sizeOf hs]
  congr 3
  split
  · rfl
  · rw [addr_add]
/-- s[lo:hi] of a slice -/
theorem J.sliceS {ty el : TypeId} {sz k c i j : Nat} {a : Option Addr} {lo hi : Option Operand} {vl vh : Option Value} (he : elemT P ty = some el) (hs : sizeT P el = some sz) (hx : ev e x = some (.slice a k c))
    (hlo : optI e lo = some vl) (hhi : optI e hi = some vh) (h1 : bnd 0 vl = some i) (h2 : bnd k vh = some j) (h3 : i ≤ j) (h4 : j ≤ c) (h5 : k ≤ c) (hd : Nat.blt d n = true)
    (h : J P ops Q n rest ((d, .slice (if c = i then a else a.map (·.add (i * sz))) (j - i) (c - i)) :: e) I) : J P ops Q n (⟨some d, .slice ty x lo hi none, t, p, af, none⟩ :: rest) e I := by
  refine J.value hd (fun T w ht hw => ⟨w, ?_, hw⟩) h
  have hb := run_sliceBounds (P := P) true h1 h2 h3 h4 w (fun _ => h5)
  simp only [execOp, ht.eval hx, Instr.sliceAt, Instr.slice, run_underlying' (elem_u he), Sem.run_bind, Result.andThen_ok, Sem.run_pure, ht.optI hlo, ht.optI hhi, Option.map_none, hb, run_sizeOf hs]

/-- append -/
theorem J.append {ty tx el sz by_ k m : Nat} {zv : Value} {xs ys : List Value} (he : elemT P ty = some el) (hs : sizeT P el = some sz) (hbb : bytesT P el = some by_) (hz : zeroT P el = some zv) (hzc : zv.cells.size = sz)
    (htx : (∃ e', P.underlying tx = some (.slice e')) ∨ P.underlying tx = some .string)
    (hx : ev e x = some v1) (hy : ev e y = some v2) (hv : Vec el sz v1 k xs lp)
    (hr : ∀ w, St w0 S (lp ++ l) w → Row w v2 m ys ∨ ∃ s : ByteArray, v2 = .string s ∧ s.size = m ∧ sz = 1 ∧ ys = (s.data.toList.map fun b => .int .u8 b.toNat)) (hm : ys.length = m * sz) (hone : ∀ y, y ∈ ys → y.oneCell' = true)
    (hbound : (k + m) * by_ ≤ 140737488355328) (h63 : k + m ≤ 9223372036854775807) (hd : Nat.blt d n = true)
    (h : ∀ v' lp', Vec el sz v' (k + m) (xs ++ ys) lp' → J P ops Q n rest ((d, v') :: e) (St w0 S (lp' ++ l))) :
    J P ops Q n (⟨some d, .call ⟨.builtin .append, #[x, y], #[ty, tx]⟩, t, p, af, none⟩ :: rest) e (St w0 S (lp ++ l)) := by
  refine J.valueEx (α := Value × List (Nat × Obj)) (V := (·.1)) (I' := fun q w => Vec el sz q.1 (k + m) (xs ++ ys) q.2 ∧ St w0 S (q.2 ++ l) w) hd (fun T w ht hw => ?_) (fun q => J.pr fun hq => h q.1 q.2 hq)
  obtain ⟨v', w', lp', hrun, hvec, hst⟩ := run_append (P := P) (tr := t) he hs hbb hz hzc htx hv hw (hr w hw) hm hone hbound h63
  exact ⟨(v', lp'), w', by simp [execOp, resolve, invoke, builtin, ht.eval hx, ht.eval hy, hrun], hvec, hst⟩

/-- copy into a known block -/
theorem J.copy {ty tx el b o k c m kb : Nat} {cs ys : List Value} {tb : TypeId} {dd : Option Nat} (he : elemT P ty = some el) (hs : sizeT P el = some 1)
    (hx : ev e x = some (.slice (some ⟨b, o, none⟩) k c)) (hy : ev e y = some v2) (hr : ∀ w, St w0 S l w → Row w v2 m ys ∧ ∃ a c, v2 = .slice a m c) (hm : ys.length = m) (hone : ∀ y, y ∈ ys → y.oneCell' = true)
    (hk : min m k = kb) (hu : Up l b (cb cs tb) (cb (setMany cs o (ys.take kb)) tb) l') (hl : o + k ≤ cs.length)
    (hdd : dd = none ∨ ∃ d', dd = some d' ∧ Nat.blt d' n = true)
    (h : J P ops Q n rest (match dd with | some d' => (d', .int .i64 kb) :: e | none => e) (St w0 S l')) :
    J P ops Q n (⟨dd, .call ⟨.builtin .copy, #[x, y], #[ty, tx]⟩, t, p, af, none⟩ :: rest) e (St w0 S l) := by
  have key : ∀ T w, Rep n T e → St w0 S l w → ∃ w', (execOp (act T).eval ⟨dd, .call ⟨.builtin .copy, #[x, y], #[ty, tx]⟩, t, p, af, none⟩).run P w = .ok (.value (.int .i64 kb)) w' ∧ St w0 S l' w' := by
    intro T w ht hw
    obtain ⟨hrow, a, c', rfl⟩ := hr w hw
    have hrow2 : Row w (.slice a kb c') kb (ys.take kb) := by
      obtain ⟨a1, c1, hv, hk1, h1⟩ := hrow
      simp only [Value.slice.injEq] at hv
      obtain ⟨rfl, _, rfl⟩ := hv
      refine ⟨a, c', rfl, by omega, ?_⟩
      rcases h1 with h1 | ⟨b1, o1, h1, h2⟩
      · exact .inl (by rw [h1]; simp)
      · refine .inr ⟨b1, o1, h1, fun j hj => ?_⟩
        simp only [List.length_take] at hj
        rw [h2 j (by omega), List.getElem?_take_of_lt (by omega)]
    have hlt : (ys.take kb).length = kb * 1 := by simp only [List.length_take]; omega
    have hfc : (Builtin.firstCells 1 kb (.slice a m c')).run P w = .ok (ys.take kb).toArray w := by
      have := run_firstCells (P := P) hrow2 hlt
      cases a <;> simpa [Builtin.firstCells] using this
    obtain ⟨w', hr', hw'⟩ := run_storeCells (P := P) (t := tb) (ys.take kb) w cs o 0 (hw.own _ hu.mem) (by simp only [List.length_take]; omega) (fun v hv => hone v (List.mem_of_mem_take hv))
    refine ⟨w', ?_, hw.wrote hu hw'⟩
    have hmin : Nat.min m k = kb := hk
    simp [execOp, resolve, invoke, builtin, Builtin.copy_, ht.eval hx, ht.eval hy, run_underlying' (elem_u he), Builtin.lenOf, hmin, run_sizeOf hs, hfc, hr', goInt]
  rcases hdd with rfl | ⟨d', rfl, hd'⟩
  · exact J.valueN (fun T w ht hw => ⟨_, key T w ht hw⟩) h
  · exact J.value hd' (fun T w ht hw => key T w ht hw) h

/-- make([]T, k) -/
theorem J.make {ty el sz by_ : Nat} {zv : Value} {zs : List Value} {k : Int} {ik jk : IntKind} (he : elemT P ty = some el) (hs : sizeT P el = some sz) (hbb : bytesT P el = some by_) (hz : zeroT P el = some zv) (hzc : zv.cells = zs.toArray) (hzl : zs.length = sz)
    (hx : ev e x = some (.int ik k)) (hy : ev e y = some (.int jk k)) (h0 : 0 ≤ k) (h48 : (by_ : Int) * k ≤ 281474976710656) (h63 : k < 9223372036854775808) (hd : Nat.blt d n = true)
    (h : ∀ b, J P ops Q n rest ((d, .slice (some ⟨b, 0, none⟩) k.toNat k.toNat) :: e) (St w0 S ((b, cb (List.replicate k.toNat zs).flatten el) :: l))) :
    J P ops Q n (⟨some d, .makeSlice ty x y, t, p, af, none⟩ :: rest) e (St w0 S l) := by
  have hinfo : ∃ i, P.info? el = some i ∧ i.bytes = by_ := by
    unfold bytesT at hbb
    cases h : P.info? el with
    | none => rw [h] at hbb; cases hbb
    | some i => rw [h] at hbb; simp at hbb; exact ⟨i, rfl, hbb⟩
  obtain ⟨inf, hi1, hi2⟩ := hinfo
  have hwrap : IntKind.i64.wrap k = k := wrap_i64 (by omega) h63
  have hnot : ¬ (k < 0 ∨ 281474976710656 < (by_ : Int) * k) := by omega
  have hcells : (Array.range (k.toNat * sz)).map (zv.cells[· % zv.cells.size]!) = ((List.replicate k.toNat zs).flatten).toArray := by
    rw [hzc]
    apply Array.ext'
    simp only [Array.toList_map, Array.toList_range, List.size_toArray, hzl]
    apply List.ext_getElem?
    intro i
    have hfl : ∀ (m i : Nat), ((List.replicate m zs).flatten)[i]? = if i < m * sz then zs[i % sz]? else none := by
      intro m
      induction m with
      | zero => intro i; simp
      | succ m ih =>
        intro i
        rw [List.replicate_succ, List.flatten_cons, List.getElem?_append, hzl, ih]
        by_cases h1 : i < sz
        · rw [if_pos h1, if_pos (by rw [Nat.add_mul]; omega), Nat.mod_eq_of_lt h1]
        · rw [if_neg h1]
          have : i % sz = (i - sz) % sz := by
            rw [Nat.mod_eq_sub_mod (by omega)]
          by_cases h2 : i - sz < m * sz
          · rw [if_pos h2, if_pos (by rw [Nat.add_mul]; omega), this]
          · rw [if_neg h2, if_neg (by rw [Nat.add_mul]; omega)]
    rw [hfl, List.getElem?_map]
    by_cases h1 : i < k.toNat * sz
    · rw [if_pos h1, List.getElem?_range h1]
      have h2 : 0 < sz := by
        rcases Nat.eq_zero_or_pos sz with h | h
        · rw [h] at h1; omega
        · exact h
      have h3 : i % sz < zs.length := by rw [hzl]; exact Nat.mod_lt _ h2
      rw [Option.map_some, List.getElem?_eq_getElem h3]
      congr 1
      rw [getElem!_pos zs.toArray (i % sz) (by simpa using h3)]
      simp
    · rw [if_neg h1, List.getElem?_eq_none (by simp; omega)]; rfl
  refine J.valueEx (V := fun b => .slice (some ⟨b, 0, none⟩) k.toNat k.toNat) hd (fun T w ht hw => ⟨w.heap.size, w.alloc (cb (List.replicate k.toNat zs).flatten el), ?_, ?_⟩) h
  · have hti : (typeInfo el).run P w = .ok inf w := by simp [typeInfo, hi1]
    have hnot' : ¬ (281474976710656 < (inf.bytes : Int) * k) := by rw [hi2]; omega
    have hneg : ¬ (k < 0) := by omega
    by_cases hz0 : k.toNat * sz = 0
    · have he0 : (List.replicate k.toNat zs).flatten = [] := List.eq_nil_of_length_eq_zero (by simp [hzl, hz0])
      simp [execOp, ht.eval hx, ht.eval hy, Instr.makeSlice, run_underlying' (elem_u he), asInt, asIntOf, hti, hwrap, run_sizeOf hs, hneg, hnot', hz0, newRow, cb, he0]
      rw [show (Array.range 0).map (fun _ : Nat => (default : Value)) = #[] from Array.ext' (by simp)]
    · simp [execOp, ht.eval hx, ht.eval hy, Instr.makeSlice, run_underlying' (elem_u he), asInt, asIntOf, hti, hwrap, run_sizeOf hs, hneg, hnot', hz0, newRow, cb, run_zeroValue' hz, hcells]
  · exact hw.new (below_alloc' w _) (Nat.le_refl _) (alloc_at w _)
end
end Go.J
