/-
  The calculus: strings out of bytes, literals, zero values, comparing strings. Proved over any program.
-/
import Derived.Test.YtohldionclgljaaGreatJf
namespace Go.J
open Go.RowKit
set_option linter.unusedVariables false
set_option linter.unusedSimpArgs false

def str (bs : List UInt8) : ByteArray := ⟨bs.toArray⟩
theorem str_toList (bs : List UInt8) : (str bs).data.toList = bs := rfl
theorem str_size (bs : List UInt8) : (str bs).size = bs.length := by simp [str, ByteArray.size]
theorem str_beq (xs ys : List UInt8) : ((str xs).toList == (str ys).toList) = (xs == ys) := by
  rw [← beq_toListBytes]
  have : ∀ a b : ByteArray, (a == b) = (a.data.toList == b.data.toList) := by
    intro a b
    obtain ⟨a⟩ := a
    obtain ⟨b⟩ := b
    have h1 : ((⟨a⟩ : ByteArray) == ⟨b⟩) = (a == b) := rfl
    rw [h1, Bool.eq_iff_iff]
    simp only [beq_iff_eq]
    constructor
    · rintro rfl; rfl
    · intro h; exact Array.toList_inj.1 h
  rw [this]; rfl
theorem u8_nums (bs : List UInt8) : bs.map u8 = (bs.map fun b => (b.toNat : Int)).map (Value.int .u8) := by simp
theorem strOfNums_u8 (bs : List UInt8) : strOfNums (bs.map fun b => (b.toNat : Int)) = str bs := by
  simp only [strOfNums, str, List.map_map]
  congr 2
  have : (fun n : Int => UInt8.ofNat n.toNat) ∘ (fun b : UInt8 => (b.toNat : Int)) = id := by
    funext b; simp
  rw [this, List.map_id]

theorem run_toStr {P : Program} {w : World} {src dst el : TypeId} {v : Value} {m : Nat} {bs : List UInt8} (hs : elemT P src = some el) (he : P.underlying el = some (.int .u8)) (hd : P.underlying dst = some .string)
    (h : Row w v m (bs.map u8)) (hl : bs.length = m) : (convert src dst v).run P w = .ok (.string (str bs)) w := by
  obtain ⟨a, c, rfl, _, h⟩ := h
  cases a with
  | none =>
    have : bs = [] := by
      rcases h with h | ⟨b, o, ha, _⟩
      · exact List.map_eq_nil_iff.1 h
      · cases ha
    subst this
    rw [run_convert_bytes_nil w src el (elem_u hs) he _ _ dst hd]; rfl
  | some a =>
    rcases h with h | ⟨b, o, ha, hc⟩
    · have := List.map_eq_nil_iff.1 h
      subst this
      simp only [List.length_nil] at hl
      subst hl
      rw [run_convert_bytes_string w src dst el _ 0 c (elem_u hs) he hd, run_bytesToString (P := P) w a 0 c [] rfl]; rfl
    · simp only [Option.some.injEq] at ha
      subst ha
      rw [run_convert_bytes_arg w src el (elem_u hs) he b o m c (bs.map fun b => (b.toNat : Int)) (by simpa using hl) (fun i hi => ?_) dst hd, strOfNums_u8]
      rw [hc i (by simp; omega)]
      have hi' : i < bs.length := by omega
      simp [List.getElem?_eq_getElem hi']

section
variable {P : Program} {ops : Array Oper} {Q : Exit → Act → World → Prop} {n : Nat} {e : Env} {I I' : World → Prop} {rest : List Oper}
variable {d t yt : Nat} {p : String} {af : Array Edge} {x y z : Operand} {v v1 v2 : Value} {w0 : World} {S : List Nat} {l l' lp : List (Nat × Obj)}

theorem J.toStr {src dst el m : Nat} {bs : List UInt8} (hs : elemT P src = some el) (he : P.underlying el = some (.int .u8)) (hdst : P.underlying dst = some .string) (hx : ev e x = some v)
    (hr : ∀ w, I w → Row w v m (bs.map u8)) (hl : bs.length = m) (hd : Nat.blt d n = true)
    (h : J P ops Q n rest ((d, .string (str bs)) :: e) I) : J P ops Q n (⟨some d, .convert src dst x, t, p, af, none⟩ :: rest) e I :=
  J.value hd (fun T w ht hw => ⟨w, by simp [execOp, ht.eval hx, run_toStr hs he hdst (hr w hw) hl], hw⟩) h
theorem J.strEq {ty : TypeId} {xs ys : List UInt8} (hx : ev e x = some (.string (str xs))) (hy : ev e y = some (.string (str ys))) (hd : Nat.blt d n = true)
    (h : J P ops Q n rest ((d, .bool (xs == ys)) :: e) I) : J P ops Q n (⟨some d, .binOp .eql ty x y yt, t, p, af, none⟩ :: rest) e I :=
  J.bin hx hy rfl hd (by rw [str_beq]; exact h)
theorem J.strNe {ty : TypeId} {xs ys : List UInt8} (hx : ev e x = some (.string (str xs))) (hy : ev e y = some (.string (str ys))) (hd : Nat.blt d n = true)
    (h : J P ops Q n rest ((d, .bool (!(xs == ys))) :: e) I) : J P ops Q n (⟨some d, .binOp .neq ty x y yt, t, p, af, none⟩ :: rest) e I :=
  J.bin hx hy rfl hd (by rw [str_beq]; exact h)
/-- a composite with nothing written out -/
theorem J.build0 {ty : TypeId} {vs : List Value} (hz : zeroT P ty = some (.agg vs.toArray)) (hu : aggT P ty = some true) (hd : Nat.blt d n = true) (hel : ∀ m el, P.underlying ty = some (.array m el) → ∃ k, sizeT P el = some k)
    (hfs : ∀ fs, P.underlying ty = some (.struct fs) → fs.toList.all (fun f => (sizeT P f.type).isSome) = true)
    (h : J P ops Q n rest ((d, .agg vs.toArray) :: e) I) : J P ops Q n (⟨some d, .build ty #[], t, p, af, none⟩ :: rest) e I := by
  refine J.value hd (fun T w ht hw => ⟨w, ?_, hw⟩) h
  unfold aggT at hu
  cases hdu : P.underlying ty with
  | none => rw [hdu] at hu; cases hu
  | some du =>
    rw [hdu] at hu
    cases du <;> simp at hu
    case array m el =>
      obtain ⟨k, hk⟩ := hel m el hdu
      simp [execOp, Instr.build, run_zeroValue' hz, run_underlying' hdu, Value.cells, run_sizeOf hk, Instr.fill]
    case struct fs =>
      have hall := hfs fs hdu
      have key : ∀ (l : List Field), (l.all (fun f => (sizeT P f.type).isSome)) = true → ∃ r, (l.mapM (m := Sem) fun f => do pure (f.offset, ← sizeOf f.type)).run P w = .ok r w := by
        intro l
        induction l with
        | nil => intro _; exact ⟨[], by simp⟩
        | cons f fs ih =>
          intro h
          simp only [List.all_cons, Bool.and_eq_true] at h
          obtain ⟨r, hr⟩ := ih h.2
          obtain ⟨k, hk⟩ := Option.isSome_iff_exists.1 h.1
          exact ⟨(f.offset, k) :: r, by simp only [List.mapM_cons, Sem.run_bind, run_sizeOf hk, Result.andThen_ok, Sem.run_pure, hr]⟩
      obtain ⟨r, hr⟩ := key fs.toList hall
      have hr' : (fs.mapM (m := Sem) fun f => do pure (f.offset, ← sizeOf f.type)).run P w = .ok r.toArray w := by
        rw [← Array.toArray_toList (xs := fs), List.mapM_toArray]
        simp only [Sem.run_map, hr, Result.andThen_ok]
      simp only [execOp, Instr.build, Sem.run_bind, run_zeroValue' hz, Result.andThen_ok, run_underlying' hdu, hr']
      simp [Value.cells, Instr.fill]
end
end Go.J
