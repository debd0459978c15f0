/-
  What an argument that can be read as data looks like in memory; and the frame of a law's row. Proved over any program.
-/
import Derived.Test.YtohldionclgljaaGreatJ
import Derived.ProofKit
import Derived.OpenShut
import Derived.ShutString
import Derived.ChangeOld
import Derived.Deep.Slices
import Derived.SizedLaws
namespace Go.J
open Go.ChangeShapes Go.WideShapes Go.ChangeAt Go.RowKit
set_option linter.unusedVariables false
set_option linter.unusedSimpArgs false

def Decodes (P : Program) (t : TypeId) {α : Type} (R : World → List Value → α → Prop) : Prop :=
  ∀ (H : Type) (enc : TypeId × Value → H) (w : World) (fuel : Nat) (cs : List Value) (x : DataW H × List MemPlace),
    DataW.trod enc P w 0 (fun _ => true) true fuel t cs = some x → (∀ n, n ∈ x.1.weights P t → n ≤ reachBytes) → ∃ y : α, R w cs y

def RInt (k : IntKind) : World → List Value → Int → Prop := fun _ cs n => cs = [.int k n] ∧ (Lit.int k n).wf = true
def RU8 : World → List Value → UInt8 → Prop := fun _ cs b => cs = [u8 b]
def RBool : World → List Value → Bool → Prop := fun _ cs b => cs = [.bool b]
def RStr : World → List Value → ByteArray → Prop := fun _ cs s => cs = [.string s] ∧ s.size ≤ reachBytes
structure Sl (α : Type) where
  a : Option Addr
  c : Nat
  xs : List α
/-- the slice's own value -/
abbrev Sl.v {α : Type} (s : Sl α) : Value := .slice s.a s.xs.length s.c
def RSl {α : Type} (sz by_ : Nat) (R : World → List Value → α → Prop) : World → List Value → Sl α → Prop := fun w cs s =>
  cs = [s.v] ∧ s.xs.length ≤ s.c ∧ s.c * by_ ≤ reachBytes ∧
    (s.xs = [] ∨ ∃ b o, s.a = some ⟨b, o, none⟩ ∧ ∀ i x, s.xs[i]? = some x → ∃ cs', cs'.length = sz ∧ Cells w b (o + i * sz) cs' ∧ R w cs' x)

theorem dec_int {P : Program} {t : TypeId} {k : IntKind} (hu : P.underlying t = some (.int k)) : Decodes P t (RInt k) := by
  intro H enc w fuel cs x h _
  obtain ⟨n, rfl, _, hw⟩ := DataW.trod_int hu h
  exact ⟨n, rfl, hw⟩
theorem dec_u8 {P : Program} {t : TypeId} (hu : P.underlying t = some (.int .u8)) : Decodes P t RU8 := by
  intro H enc w fuel cs x h _
  obtain ⟨n, rfl, _, hw⟩ := DataW.trod_int hu h
  have := bounds_u8 hw
  exact ⟨UInt8.ofNat n.toNat, by
    show [Value.int .u8 n] = [Value.int .u8 ((UInt8.ofNat n.toNat).toNat : Int)]
    have h2 : (UInt8.ofNat n.toNat).toNat = n.toNat := by simp; omega
    rw [h2]; congr 2; omega⟩
theorem dec_bool {P : Program} {t : TypeId} (hu : P.underlying t = some .bool) : Decodes P t RBool := by
  intro H enc w fuel cs x h _
  obtain ⟨b, rfl, _⟩ := DataW.trod_bool hu h
  exact ⟨b, rfl⟩
theorem dec_str {P : Program} {t : TypeId} (hu : P.underlying t = some .string) : Decodes P t RStr := by
  intro H enc w fuel cs x h hn
  obtain ⟨s, rfl, rfl, _⟩ := DataW.trod_string hu h
  refine ⟨s, rfl, ?_⟩
  have := hn s.data.toList.length (by simp [DataW.weights])
  show s.data.size ≤ _
  rw [← Array.length_toList]; exact this

theorem cells_none {w : World} {a : Addr} {k : Nat} {cs : List Value} (h : w.cells? 0 a k = some cs) (hk : 0 < k) : ∃ b o, a = ⟨b, o, none⟩ ∧ cs.length = k ∧ Cells w b o cs := by
  unfold World.cells? at h
  rw [if_pos (Nat.zero_le _)] at h
  have hl := mapM_some_length h
  have hg := fun i (hi : i < k) => mapM_some_get h i i (by simp [hi])
  obtain ⟨b, o, s⟩ := a
  have h0 : w.cell? (⟨b, o, s⟩ : Addr) = cs[0]? := by simpa [Addr.add] using hg 0 hk
  have hs : s = none := World.cell?_spot (a := ⟨b, o, s⟩) (v := cs[0]'(by simp at hl; omega)) (by rw [h0, List.getElem?_eq_getElem])
  subst hs
  refine ⟨b, o, rfl, by simpa using hl, fun j hj => ?_⟩
  have := hg j (by simp at hl; omega)
  rw [addr_add] at this
  exact this

theorem weights_all {H : Type} {P : Program} {e : TypeId} : ∀ {ds : List (DataW H)} {d : DataW H}, d ∈ ds → ∀ n, n ∈ d.weights P e → n ∈ DataW.weightsAll P e ds := by
  intro ds
  induction ds with
  | nil => intro d h; cases h
  | cons d0 ds ih =>
    intro d h n hn
    simp only [DataW.weightsAll, List.mem_append]
    cases h with
    | head => exact .inl hn
    | tail _ h => exact .inr (ih h n hn)

theorem list_of {α : Type} {p : Nat → α → Prop} : ∀ (k : Nat), (∀ i, i < k → ∃ x, p i x) → ∃ xs : List α, xs.length = k ∧ ∀ i x, xs[i]? = some x → p i x := by
  intro k
  induction k with
  | zero => intro _; exact ⟨[], rfl, fun i x h => by simp at h⟩
  | succ k ih =>
    intro h
    obtain ⟨xs, hl, hx⟩ := ih (fun i hi => h i (by omega))
    obtain ⟨y, hy⟩ := h k (by omega)
    refine ⟨xs ++ [y], by simp [hl], fun i x hi => ?_⟩
    by_cases h1 : i < k
    · rw [List.getElem?_append_left (by omega)] at hi; exact hx i x hi
    · rw [List.getElem?_append_right (by omega)] at hi
      have : i - xs.length = 0 := by
        have := (List.getElem?_eq_some_iff.1 hi).1
        simp at this; omega
      rw [this] at hi
      simp at hi
      subst hi
      rw [show i = k by omega]; exact hy

theorem dec_slice {P : Program} {t e : TypeId} {sz by_ : Nat} {α : Type} {R : World → List Value → α → Prop} (he : elemT P t = some e) (hs : sizeT P e = some sz) (hb : bytesT P e = some by_) (hsz : 0 < sz) (D : Decodes P e R) : Decodes P t (RSl sz by_ R) := by
  intro H enc w fuel cs x h hn
  have hu := elem_u he
  have hcz : P.cellsOf e = sz := by
    unfold Program.cellsOf; unfold sizeT at hs; rw [hs]; rfl
  have hbz : P.bytesOf e = by_ := by
    unfold Program.bytesOf; unfold bytesT at hb; rw [hb]; rfl
  rcases Deep.open_slice hu h with ⟨rfl, rfl⟩ | ⟨a, len, cap, m, n, Dd, Pl, rfl, _, hl, _, hm, rfl, hel⟩
  · exact ⟨⟨none, 0, []⟩, rfl, Nat.le_refl _, by simp, .inl rfl⟩
  · simp only [if_true] at hm
    subst hm
    have hw1 : m * by_ ≤ reachBytes := by
      have := hn (((List.range len).map Dd).length + ((List.range (m - len)).map fun j => Dd (len + j)).length |> (· * P.bytesOf e)) (by simp [DataW.weights, hu])
      simp only [List.length_map, List.length_range, hbz] at this
      rwa [show len + (m - len) = m by omega] at this
    have hwe : ∀ i, i < len → ∀ k, k ∈ (Dd i).weights P e → k ≤ reachBytes := by
      intro i hi k hk
      refine hn k ?_
      simp only [DataW.weights, hu, List.mem_cons, List.mem_append]
      exact .inr (.inl (weights_all (List.mem_map.2 ⟨i, List.mem_range.2 hi, rfl⟩) k hk))
    obtain ⟨xs, hxl, hx⟩ := list_of (p := fun i (y : α) => ∃ cs', w.cells? 0 (a.add (i * sz)) sz = some cs' ∧ R w cs' y) len (fun i hi => by
      obtain ⟨cs', h1, h2⟩ := hel i (by omega)
      obtain ⟨y, hy⟩ := D H enc w n cs' _ h2 (hwe i hi)
      exact ⟨y, cs', by rw [← hcz]; exact h1, hy⟩)
    refine ⟨⟨some a, m, xs⟩, by simp [Sl.v, hxl], by simp only [hxl]; exact hl, hw1, ?_⟩
    by_cases h0 : xs = []
    · exact .inl h0
    · right
      have h0l : 0 < xs.length := List.length_pos_iff.2 h0
      obtain ⟨cs0, hc0, _⟩ := hx 0 xs[0] (List.getElem?_eq_getElem h0l)
      have ha0 : a.add (0 * sz) = a := by simp [Addr.add]
      rw [ha0] at hc0
      obtain ⟨b, o, rfl, _, _⟩ := cells_none hc0 hsz
      refine ⟨b, o, rfl, fun i y hi => ?_⟩
      obtain ⟨cs', hc, hr⟩ := hx i y hi
      rw [addr_add] at hc
      obtain ⟨b', o', he', hl', hcc⟩ := cells_none hc hsz
      simp only [Addr.mk.injEq] at he'
      obtain ⟨rfl, rfl, _⟩ := he'
      exact ⟨cs', hl', hcc, hr⟩

/-- the fields of a struct: types, places, sizes -/
def fieldsL (P : Program) : List Field → Option (List (TypeId × Nat × Nat))
  | [] => some []
  | f :: fs => match sizeT P f.type, fieldsL P fs with
    | some k, some r => some ((f.type, f.offset, k) :: r)
    | _, _ => none
def fieldsT (P : Program) (t : TypeId) : Option (List (TypeId × Nat × Nat)) := match P.underlying t with
  | some (.struct fs) => fieldsL P fs.toList
  | _ => none
theorem fieldsL_get {P : Program} : ∀ {l : List Field} {r : List (TypeId × Nat × Nat)}, fieldsL P l = some r → ∀ (j : Nat) (q : TypeId × Nat × Nat), r[j]? = some q → ∃ f, l[j]? = some f ∧ q.1 = f.type ∧ q.2.1 = f.offset ∧ sizeT P f.type = some q.2.2 := by
  intro l
  induction l with
  | nil => intro r h j q hq; simp only [fieldsL, Option.some.injEq] at h; subst h; simp at hq
  | cons f fs ih =>
    intro r h j q hq
    simp only [fieldsL] at h
    split at h
    · rename_i k r' hk hr
      simp only [Option.some.injEq] at h
      subst h
      cases j with
      | zero => simp only [List.getElem?_cons_zero, Option.some.injEq] at hq; subst hq; exact ⟨f, rfl, rfl, rfl, hk⟩
      | succ j => simp only [List.getElem?_cons_succ] at hq ⊢; exact ih hr j q hq
    · cases h
theorem weights_eachT {H : Type} {P : Program} : ∀ {ts : List TypeId} {ds : List (DataW H)} {j : Nat} {t : TypeId} {d : DataW H}, ts[j]? = some t → ds[j]? = some d → ∀ n, n ∈ d.weights P t → n ∈ DataW.weightsEach P ts ds := by
  intro ts ds j t d ht hd n hn
  exact DataW.weights_mem_each ht hd n hn
/-- each field of a struct that was read can be decoded -/
theorem dec_field {P : Program} {t : TypeId} {l : List (TypeId × Nat × Nat)} (hf : fieldsT P t = some l) {H : Type} {enc : TypeId × Value → H} {w : World} {fuel : Nat} {cs : List Value} {x : DataW H × List MemPlace}
    (h : DataW.trod enc P w 0 (fun _ => true) true fuel t cs = some x) (hn : ∀ n, n ∈ x.1.weights P t → n ≤ reachBytes) :
    ∀ (j : Nat) (q : TypeId × Nat × Nat), l[j]? = some q → ∀ {α : Type} {R : World → List Value → α → Prop}, Decodes P q.1 R → ∃ y : α, R w ((cs.drop q.2.1).take q.2.2) y := by
  intro j q hq α R D
  unfold fieldsT at hf
  split at hf
  · rename_i fs hu
    obtain ⟨xs, n, _, rfl, hlen, hxl, hfl⟩ := DataW.trod_struct hu h
    obtain ⟨f, hfj, h1, h2, h3⟩ := fieldsL_get hf j q hq
    have hfj' : fs[j]? = some f := by simpa using hfj
    have := hfl j f hfj'
    have hcz : P.cellsOf f.type = q.2.2 := by
      unfold Program.cellsOf; unfold sizeT at h3; rw [h3]; rfl
    rw [hcz, ← h2] at this
    have hj : j < xs.length := by rw [hxl]; exact (Array.getElem?_eq_some_iff.1 hfj').1
    rw [List.getElem?_eq_getElem hj] at this
    refine D H enc w n _ xs[j] (h1 ▸ this) (fun k hk => hn k ?_)
    simp only [DataW.weights, hu]
    refine DataW.weights_mem_each (j := j) (t := f.type) (d := xs[j].1) ?_ ?_ k (h1 ▸ hk)
    · simp [hfj]
    · simp [List.getElem?_eq_getElem hj]
  · cases hf
theorem dec_len {P : Program} {t k : Nat} (ha : aggT P t = some true) (hs : sizeT P t = some k) {H : Type} {enc : TypeId × Value → H} {w : World} {fuel : Nat} {cs : List Value} {x : DataW H × List MemPlace}
    (h : DataW.trod enc P w 0 (fun _ => true) true fuel t cs = some x) : cs.length = k := by
  have hcz : P.cellsOf t = k := by
    unfold Program.cellsOf; unfold sizeT at hs; rw [hs]; rfl
  unfold aggT at ha
  split at ha
  · rename_i fs hu
    obtain ⟨_, _, _, _, hlen, _⟩ := DataW.trod_struct hu h
    exact hlen.trans hcz
  · rename_i m el hu
    cases fuel with
    | zero => simp [DataW.trod] at h
    | succ n =>
      unfold DataW.trod at h
      rw [hu] at h
      split at h <;> simp_all
  · cases ha
  · cases ha
/-- an array of bytes -/
def RBytes (k : Nat) : World → List Value → List UInt8 → Prop := fun _ cs bs => bs.length = k ∧ cs = bs.map u8
theorem dec_bytes {P : Program} {t e k : Nat} (ha : arrT P t = some (k, e)) (hu : P.underlying e = some (.int .u8)) (hs : sizeT P e = some 1) (hk : sizeT P t = some k) : Decodes P t (RBytes k) := by
  intro H enc w fuel cs x h _
  have hua := arr_u ha
  have hcz : P.cellsOf e = 1 := by
    unfold Program.cellsOf; unfold sizeT at hs; rw [hs]; rfl
  obtain ⟨xs, m, _, _, hl, hxl, hx⟩ := DataW.trod_array hua h
  have hlk : cs.length = k := by
    rw [hl]
    unfold Program.cellsOf; unfold sizeT at hk; rw [hk]; rfl
  obtain ⟨bs, hbl, hb⟩ := list_of (p := fun i (b : UInt8) => cs[i]? = some (u8 b)) k (fun i hi => by
    have h1 := hx i hi
    rw [hcz, Nat.mul_one, List.getElem?_eq_getElem (by omega)] at h1
    have h2 : (cs.drop i).take 1 = [cs[i]'(by omega)] := by
      rw [List.drop_eq_getElem_cons (by omega)]; rfl
    rw [h2] at h1
    obtain ⟨b, hb⟩ := dec_u8 hu H enc w m _ _ h1 (by
      intro n hn
      obtain ⟨z, _, hz, _⟩ := DataW.trod_int hu h1
      rw [hz] at hn
      simp [DataW.weights] at hn)
    refine ⟨b, ?_⟩
    have hb' : [cs[i]'(by omega)] = [u8 b] := hb
    simp only [List.cons.injEq, and_true] at hb'
    rw [List.getElem?_eq_getElem (by omega), hb'])
  refine ⟨bs, hbl, ?_⟩
  apply List.ext_getElem?
  intro i
  by_cases hi : i < k
  · rw [hb i bs[i] (List.getElem?_eq_getElem (by omega)), List.getElem?_map, List.getElem?_eq_getElem (by omega)]; rfl
  · rw [List.getElem?_eq_none (by omega), List.getElem?_eq_none (by simp; omega)]

/- arguments -/
theorem arg_int {P : Program} {W : World} {base t : Nat} {v : Value} {k : IntKind} (hu : P.underlying t = some (.int k)) (hval : Value.okWide P W .any base t v) {H : Type} {enc : TypeId × Value → H} {d : DataW H} {ps : List MemPlace}
    (h : DataW.Trod enc P W 0 (fun _ => true) true t v d ps) : ∃ n, v = .int k n ∧ (Lit.int k n).wf = true := by
  obtain ⟨n, h1, _, _, h2⟩ := open_int hu hval h
  exact ⟨n, h1, h2⟩
theorem arg_bool {P : Program} {W : World} {base t : Nat} {v : Value} (hu : P.underlying t = some .bool) (hval : Value.okWide P W .any base t v) {H : Type} {enc : TypeId × Value → H} {d : DataW H} {ps : List MemPlace}
    (h : DataW.Trod enc P W 0 (fun _ => true) true t v d ps) : ∃ b, v = .bool b := by
  obtain ⟨b, h1, _⟩ := open_bool hu hval h
  exact ⟨b, h1⟩
theorem arg_slice {P : Program} {W : World} {base t : Nat} {v : Value} {sz by_ : Nat} {α : Type} {R : World → List Value → α → Prop} {e : Nat} (he : elemT P t = some e) (hval : Value.okWide P W .any base t v) (D : Decodes P t (RSl sz by_ R))
    {H : Type} {enc : TypeId × Value → H} {d : DataW H} {ps : List MemPlace} (h : DataW.Trod enc P W 0 (fun _ => true) true t v d ps) (hn : ∀ n, n ∈ d.weights P t → n ≤ reachBytes) : ∃ s : Sl α, v = s.v ∧ RSl sz by_ R W [s.v] s := by
  obtain ⟨a, len, cap, rfl⟩ := okWide_slice (elem_u he) hval
  obtain ⟨fuel, hf⟩ := h
  obtain ⟨s, hs⟩ := D H enc W fuel _ _ hf hn
  have h1 : [Value.slice a len cap] = [s.v] := hs.1
  simp only [List.cons.injEq, and_true] at h1
  exact ⟨s, h1, rfl, hs.2⟩
theorem arg_agg {P : Program} {W : World} {base t : Nat} {v : Value} {α : Type} {R : World → List Value → α → Prop} (ha : aggT P t = some true) (hval : Value.okWide P W .any base t v) (D : Decodes P t R)
    {H : Type} {enc : TypeId × Value → H} {d : DataW H} {ps : List MemPlace} (h : DataW.Trod enc P W 0 (fun _ => true) true t v d ps) (hn : ∀ n, n ∈ d.weights P t → n ≤ reachBytes) : ∃ cs : List Value, v = .agg cs.toArray ∧ ∃ x : α, R W cs x := by
  obtain ⟨fuel, hf⟩ := h
  obtain ⟨x, hx⟩ := D H enc W fuel _ _ hf hn
  have : ∃ cs, v = .agg cs := by
    unfold aggT at ha
    unfold Value.okWide at hval
    split at ha
    · rename_i fs hu; rw [hu] at hval; obtain ⟨cs, h, _⟩ := hval; exact ⟨cs, h⟩
    · rename_i m el hu; rw [hu] at hval; obtain ⟨cs, h, _⟩ := hval; exact ⟨cs, h⟩
    · cases ha
    · cases ha
  obtain ⟨cs, rfl⟩ := this
  exact ⟨cs.toList, by simp, x, hx⟩
theorem sized_arg {H : Type} {P : Program} {ts : List TypeId} {ds : List (DataW H)} (h : (DataW.weightsEach P ts ds).all (· ≤ reachBytes) = true) {j : Nat} {t : TypeId} {d : DataW H} (ht : ts[j]? = some t) (hd : ds[j]? = some d) :
    ∀ n, n ∈ d.weights P t → n ≤ reachBytes := fun n hn => by
  have := List.all_eq_true.1 h _ (DataW.weights_mem_each ht hd n hn)
  simpa using this
/-- bytes that came in -/
theorem RSl.row {W : World} {by_ : Nat} {s : Sl UInt8} {cs : List Value} (h : RSl 1 by_ RU8 W cs s) : Row W s.v s.xs.length (s.xs.map u8) := by
  obtain ⟨_, h1, _, h2⟩ := h
  refine ⟨s.a, s.c, rfl, h1, ?_⟩
  rcases h2 with h2 | ⟨b, o, ha, h2⟩
  · left; rw [h2]; rfl
  · right
    refine ⟨b, o, ha, fun j hj => ?_⟩
    simp only [List.length_map] at hj
    obtain ⟨cs', hl, hc, hr⟩ := h2 j s.xs[j] (List.getElem?_eq_getElem hj)
    have hr' : cs' = [u8 s.xs[j]] := hr
    subst hr'
    have := hc 0 (by simp)
    rw [show o + j = o + j * 1 + 0 by omega, this]
    simp [List.getElem?_eq_getElem hj]
theorem one_of {cs : List Value} {k : Nat} {v : Value} (h : (cs.drop k).take 1 = [v]) : cs[k]? = some v := by
  have : ((cs.drop k).take 1)[0]? = some v := by rw [h]; rfl
  rw [List.getElem?_take_of_lt (by omega), List.getElem?_drop] at this
  simpa using this
theorem RSl.at {α : Type} {W : World} {sz by_ : Nat} {R : World → List Value → α → Prop} {s : Sl α} {cs : List Value} (h : RSl sz by_ R W cs s) {i : Nat} (hi : i < s.xs.length) :
    ∃ b o cs', s.a = some ⟨b, o, none⟩ ∧ cs'.length = sz ∧ Cells W b (o + (i : Int).toNat * sz) cs' ∧ R W cs' s.xs[i] := by
  obtain ⟨_, _, _, h2⟩ := h
  rcases h2 with h2 | ⟨b, o, ha, h2⟩
  · rw [h2] at hi; simp at hi
  · obtain ⟨cs', h3, h4, h5⟩ := h2 i s.xs[i] (List.getElem?_eq_getElem hi)
    exact ⟨b, o, cs', ha, h3, by simpa using h4, h5⟩
end Go.J
