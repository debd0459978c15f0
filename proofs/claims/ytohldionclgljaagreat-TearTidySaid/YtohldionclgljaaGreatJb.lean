/-
  The calculus' rules for single operations: numbers, copies, memory. Proved over any program.
-/
import Derived.Test.YtohldionclgljaaGreatJa
namespace Go.J
open Go.RowKit
set_option linter.unusedVariables false
set_option linter.unusedSimpArgs false

/- what the rules ask of the program's types: closed facts -/
def aggT (P : Program) (t : TypeId) : Option Bool := match P.underlying t with
  | some (.struct _) => some true
  | some (.array _ _) => some true
  | some _ => some false
  | none => none
def sizeT (P : Program) (t : TypeId) : Option Nat := (P.info? t).map (·.size)
def bytesT (P : Program) (t : TypeId) : Option Nat := (P.info? t).map (·.bytes)
def zeroT (P : Program) (t : TypeId) : Option Value := (P.info? t).bind (·.zero)
def fieldT (P : Program) (s f : Nat) : Option Nat := match P.underlying s with
  | some (.struct fs) => match fs[f]? with
    | some fd => match sizeT P fd.type with
      | some (_ + 1) => some fd.offset
      | _ => none
    | none => none
  | _ => none
def elemT (P : Program) (t : TypeId) : Option TypeId := match P.underlying t with
  | some (.slice e) => some e
  | _ => none
def arrT (P : Program) (t : TypeId) : Option (Nat × TypeId) := match P.underlying t with
  | some (.array n e) => some (n, e)
  | _ => none

theorem run_isAgg {P : Program} {t : TypeId} {b : Bool} (h : aggT P t = some b) (w : World) : (isAgg t).run P w = .ok b w := by
  unfold aggT at h
  simp only [isAgg, underlying, Sem.run_bind, run_program, Result.andThen_ok]
  cases hu : P.underlying t with
  | none => rw [hu] at h; cases h
  | some d =>
    rw [hu] at h
    simp only [Sem.run_pure, Result.andThen_ok]
    cases d <;> simp at h <;> subst h <;> rfl
theorem run_sizeOf {P : Program} {t : TypeId} {k : Nat} (h : sizeT P t = some k) (w : World) : (sizeOf t).run P w = .ok k w := by
  unfold sizeT at h
  simp only [sizeOf, typeInfo, Sem.run_bind, run_program, Result.andThen_ok]
  cases hu : P.info? t with
  | none => rw [hu] at h; cases h
  | some i => rw [hu] at h; simp at h; subst h; rfl
theorem run_underlying' {P : Program} {t : TypeId} {d : TypeDesc} (h : P.underlying t = some d) (w : World) : (underlying t).run P w = .ok d w := by
  simp only [underlying, Sem.run_bind, run_program, Result.andThen_ok, h, Sem.run_pure]
theorem run_zeroValue' {P : Program} {t : TypeId} {v : Value} (h : zeroT P t = some v) (w : World) : (zeroValue t).run P w = .ok v w := by
  unfold zeroT at h
  simp only [zeroValue, typeInfo, Sem.run_bind, run_program, Result.andThen_ok]
  cases hu : P.info? t with
  | none => rw [hu] at h; cases h
  | some i => rw [hu] at h; simp at h; simp [h]

theorem addr_add (b o k : Nat) : (⟨b, o, none⟩ : Addr).add k = ⟨b, o + k, none⟩ := by
  unfold Addr.add
  split
  · rename_i h; subst h; rfl
  · rfl

def binI (op : BinOp) : Value → Value → Option Value
  | .int k a, .int k' b =>
    match op with
    | .shl => if b < 0 then none else some (.int k (k.wrap (a * 2 ^ (min b.toNat k.bits))))
    | .shr => if b < 0 then none else some (.int k (a.fdiv (2 ^ (min b.toNat k.bits))))
    | .add => if k = k' then some (.int k (k.wrap (a + b))) else none
    | .sub => if k = k' then some (.int k (k.wrap (a - b))) else none
    | .mul => if k = k' then some (.int k (k.wrap (a * b))) else none
    | .quo => if k = k' then if b = 0 then none else some (.int k (k.wrap (a.tdiv b))) else none
    | .rem => if k = k' then if b = 0 then none else some (.int k (a.tmod b)) else none
    | .eql => if k = k' then some (.bool (a == b)) else none
    | .neq => if k = k' then some (.bool (a != b)) else none
    | .lss => if k = k' then some (.bool (decide (a < b))) else none
    | .leq => if k = k' then some (.bool (decide (a ≤ b))) else none
    | .gtr => if k = k' then some (.bool (decide (a > b))) else none
    | .geq => if k = k' then some (.bool (decide (a ≥ b))) else none
    | .and => if k = k' then some (.int k (k.wrap (BitVec.ofInt k.bits a &&& BitVec.ofInt k.bits b).toNat)) else none
    | .or => if k = k' then some (.int k (k.wrap (BitVec.ofInt k.bits a ||| BitVec.ofInt k.bits b).toNat)) else none
    | .xor => if k = k' then some (.int k (k.wrap (BitVec.ofInt k.bits a ^^^ BitVec.ofInt k.bits b).toNat)) else none
    | .andNot => none
  | .string a, .string b =>
    match op with
    | .eql => some (.bool (a.toList == b.toList))
    | .neq => some (.bool (!(a.toList == b.toList)))
    | _ => none
  | _, _ => none

theorem binI_ok {P : Program} {op : BinOp} {x y v : Value} (h : binI op x y = some v) (t : TypeId) (w : World) :
    (binOp op t x y).run P w = .ok v w := by
  unfold binI at h
  split at h
  · rename_i k a k' b
    cases op <;> simp only [] at h <;> (repeat' split at h) <;> simp only [Option.some.injEq, reduceCtorEq] at h <;> subst h <;>
      (first | (simp_all [binOp, Op.shift, Op.intArith, Op.intDiv, Op.intCmp, Op.intBits]; done) | (simp_all [binOp, Op.shift]; intro; omega))
  · rename_i a b
    cases op <;> simp only [Option.some.injEq, reduceCtorEq] at h <;> subst h <;> simp [binOp, Op.stringOp]
  · cases h

theorem run_eqGuard {P : Program} {op : BinOp} {t : TypeId} {x y : Operand} {a b : Value} (w : World)
    (h : match a with | .nilIface => False | .agg _ => False | _ => True) : (eqGuard op t x y a b).run P w = .ok () w := by
  unfold eqGuard
  cases op <;> simp <;> cases a <;> simp_all

theorem run_equal_of {P : Program} {t : TypeId} {x y : Value} {r : Result Bool} {w : World} (h : ∀ d, (Op.equalIn (d + 1) t x y).run P w = r) : (Op.equal t x y).run P w = r := h 9999
theorem equalIn_ptrNil {P : Program} {t el : TypeId} (hu : P.underlying t = some (.pointer el)) (a : Option Addr) (w : World) (d : Nat) :
    (Op.equalIn (d + 1) t (.pointer a) (.pointer none)).run P w = .ok a.isNone w := by
  cases a <;> simp [Op.equalIn, run_underlying' hu]
theorem equalIn_bool {P : Program} {t : TypeId} (hu : P.underlying t = some .bool) (a b : Bool) (w : World) (d : Nat) :
    (Op.equalIn (d + 1) t (.bool a) (.bool b)).run P w = .ok (a == b) w := by
  simp [Op.equalIn, run_underlying' hu]
theorem binOp_eql_ptr (P : Program) (t : TypeId) (a b : Option Addr) (w : World) : (binOp .eql t (.pointer a) (.pointer b)).run P w = ((Op.equal t (.pointer a) (.pointer b)).run P w).andThen fun r w' => .ok (.bool r) w' := by
  simp only [binOp, Sem.run_bind, Sem.run_pure]
theorem binOp_neq_ptr (P : Program) (t : TypeId) (a b : Option Addr) (w : World) : (binOp .neq t (.pointer a) (.pointer b)).run P w = ((Op.equal t (.pointer a) (.pointer b)).run P w).andThen fun r w' => .ok (.bool !r) w' := by
  simp only [binOp, Sem.run_bind, Sem.run_pure]
theorem binOp_eql_bool (P : Program) (t : TypeId) (a b : Bool) (w : World) : (binOp .eql t (.bool a) (.bool b)).run P w = ((Op.equal t (.bool a) (.bool b)).run P w).andThen fun r w' => .ok (.bool r) w' := by
  simp only [binOp, Sem.run_bind, Sem.run_pure]
theorem binOp_neq_bool (P : Program) (t : TypeId) (a b : Bool) (w : World) : (binOp .neq t (.bool a) (.bool b)).run P w = ((Op.equal t (.bool a) (.bool b)).run P w).andThen fun r w' => .ok (.bool !r) w' := by
  simp only [binOp, Sem.run_bind, Sem.run_pure]

section
variable {P : Program} {ops : Array Oper} {Q : Exit → Act → World → Prop} {n : Nat} {e : Env} {I I' : World → Prop} {rest : List Oper}
variable {d t yt : Nat} {p : String} {af : Array Edge} {x y z : Operand} {v v1 v2 : Value}

theorem J.move (hx : ev e x = some v) (hd : Nat.blt d n = true) (h : J P ops Q n rest ((d, v) :: e) I) : J P ops Q n (⟨some d, .move x, t, p, af, none⟩ :: rest) e I :=
  J.value hd (fun T w ht hw => ⟨w, by simp [execOp, ht.eval hx], hw⟩) h
theorem J.assign (hx : ev e x = some v) (hd : Nat.blt d n = true) (h : J P ops Q n rest ((d, v) :: e) I) : J P ops Q n (⟨some d, .assign x, t, p, af, none⟩ :: rest) e I :=
  J.value hd (fun T w ht hw => ⟨w, by simp [execOp, ht.eval hx], hw⟩) h
theorem J.pickT (hx : ev e x = some (.bool true)) (hy : ev e y = some v) (hd : Nat.blt d n = true) (h : J P ops Q n rest ((d, v) :: e) I) : J P ops Q n (⟨some d, .pick x y z, t, p, af, none⟩ :: rest) e I :=
  J.value hd (fun T w ht hw => ⟨w, by simp [execOp, ht.eval hx, ht.eval hy, asBool], hw⟩) h
theorem J.pickF (hx : ev e x = some (.bool false)) (hz : ev e z = some v) (hd : Nat.blt d n = true) (h : J P ops Q n rest ((d, v) :: e) I) : J P ops Q n (⟨some d, .pick x y z, t, p, af, none⟩ :: rest) e I :=
  J.value hd (fun T w ht hw => ⟨w, by simp [execOp, ht.eval hx, ht.eval hz, asBool], hw⟩) h
theorem J.bin {op : BinOp} {ty : TypeId} (hx : ev e x = some v1) (hy : ev e y = some v2) (hv : binI op v1 v2 = some v) (hd : Nat.blt d n = true)
    (h : J P ops Q n rest ((d, v) :: e) I) : J P ops Q n (⟨some d, .binOp op ty x y yt, t, p, af, none⟩ :: rest) e I := by
  refine J.value hd (fun T w ht hw => ⟨w, ?_, hw⟩) h
  simp only [execOp, ht.eval hx, ht.eval hy, Sem.run_bind, Sem.run_pure]
  rw [run_eqGuard w (by unfold binI at hv; split at hv <;> first | trivial | cases hv), Result.andThen_ok, binI_ok hv, Result.andThen_ok]
/-- a pointer against nil -/
theorem J.eqNil {ty el : TypeId} {a : Option Addr} (hu : P.underlying ty = some (.pointer el)) (hx : ev e x = some (.pointer a)) (hy : ev e y = some (.pointer none)) (hd : Nat.blt d n = true)
    (h : J P ops Q n rest ((d, .bool a.isNone) :: e) I) : J P ops Q n (⟨some d, .binOp .eql ty x y yt, t, p, af, none⟩ :: rest) e I := by
  refine J.value hd (fun T w ht hw => ⟨w, ?_, hw⟩) h
  simp only [execOp, ht.eval hx, ht.eval hy, Sem.run_bind, Sem.run_pure]
  rw [run_eqGuard w trivial, Result.andThen_ok]
  rw [binOp_eql_ptr, run_equal_of (equalIn_ptrNil hu a w)]; rfl
theorem J.neNil {ty el : TypeId} {a : Option Addr} (hu : P.underlying ty = some (.pointer el)) (hx : ev e x = some (.pointer a)) (hy : ev e y = some (.pointer none)) (hd : Nat.blt d n = true)
    (h : J P ops Q n rest ((d, .bool a.isSome) :: e) I) : J P ops Q n (⟨some d, .binOp .neq ty x y yt, t, p, af, none⟩ :: rest) e I := by
  refine J.value hd (fun T w ht hw => ⟨w, ?_, hw⟩) h
  simp only [execOp, ht.eval hx, ht.eval hy, Sem.run_bind, Sem.run_pure]
  rw [run_eqGuard w trivial, Result.andThen_ok]
  rw [binOp_neq_ptr, run_equal_of (equalIn_ptrNil hu a w)]; cases a <;> rfl
theorem J.eqBool {op : BinOp} {ty : TypeId} {a b : Bool} (hop : op = .eql ∨ op = .neq) (hu : P.underlying ty = some .bool) (hx : ev e x = some (.bool a)) (hy : ev e y = some (.bool b)) (hd : Nat.blt d n = true)
    (h : J P ops Q n rest ((d, .bool (match op with | .eql => a == b | _ => a != b)) :: e) I) : J P ops Q n (⟨some d, .binOp op ty x y yt, t, p, af, none⟩ :: rest) e I := by
  refine J.value hd (fun T w ht hw => ⟨w, ?_, hw⟩) h
  simp only [execOp, ht.eval hx, ht.eval hy, Sem.run_bind, Sem.run_pure]
  rw [run_eqGuard w trivial, Result.andThen_ok]
  rcases hop with rfl | rfl
  · rw [binOp_eql_bool, run_equal_of (equalIn_bool hu a b w)]; rfl
  · rw [binOp_neq_bool, run_equal_of (equalIn_bool hu a b w)]; rfl
theorem J.not {ty : TypeId} {b : Bool} (hx : ev e x = some (.bool b)) (hd : Nat.blt d n = true)
    (h : J P ops Q n rest ((d, .bool (!b)) :: e) I) : J P ops Q n (⟨some d, .unOp .not ty x, t, p, af, none⟩ :: rest) e I :=
  J.value hd (fun T w ht hw => ⟨w, by simp [execOp, ht.eval hx, Op.unary], hw⟩) h
theorem J.extract {vs : Array Value} {i : Nat} (hx : ev e x = some (.tuple vs)) (hi : vs[i]? = some v) (hd : Nat.blt d n = true)
    (h : J P ops Q n rest ((d, v) :: e) I) : J P ops Q n (⟨some d, .extract x i, t, p, af, none⟩ :: rest) e I :=
  J.value hd (fun T w ht hw => ⟨w, by simp [execOp, ht.eval hx, Instr.extract, hi], hw⟩) h
theorem J.nilCheck {a : Addr} (hx : ev e x = some (.pointer (some a))) (hd : Nat.blt d n = true)
    (h : J P ops Q n rest ((d, .pointer (some a)) :: e) I) : J P ops Q n (⟨some d, .nilCheck x, t, p, af, none⟩ :: rest) e I :=
  J.value hd (fun T w ht hw => ⟨w, by simp [execOp, ht.eval hx], hw⟩) h
theorem J.convInt {s ty : TypeId} {ds : TypeDesc} {k k' : IntKind} {a : Int} (hs : P.underlying s = some ds) (hu : P.underlying ty = some (.int k)) (hx : ev e x = some (.int k' a)) (hd : Nat.blt d n = true)
    (h : J P ops Q n rest ((d, .int k (k.wrap a)) :: e) I) : J P ops Q n (⟨some d, .convert s ty x, t, p, af, none⟩ :: rest) e I :=
  J.value hd (fun T w ht hw => ⟨w, by simp [execOp, ht.eval hx, convert, run_underlying' hs, run_underlying' hu, Conv.intToInt], hw⟩) h
theorem J.lenS {ty el : TypeId} {a : Option Addr} {k c : Nat} {ats : Array TypeId} (ha : ats[0]? = some ty) (hu : P.underlying ty = some (.slice el)) (hx : ev e x = some (.slice a k c)) (hd : Nat.blt d n = true)
    (h : J P ops Q n rest ((d, .int .i64 k) :: e) I) : J P ops Q n (⟨some d, .call ⟨.builtin .len, #[x], ats⟩, t, p, af, none⟩ :: rest) e I :=
  J.value hd (fun T w ht hw => ⟨w, by simp [execOp, resolve, invoke, builtin, Builtin.len_, ht.eval hx, run_underlying' hu, ha, goInt], hw⟩) h
theorem J.lenStr {ty : TypeId} {s : ByteArray} {ats : Array TypeId} (ha : ats[0]? = some ty) (hu : P.underlying ty = some .string) (hx : ev e x = some (.string s)) (hd : Nat.blt d n = true)
    (h : J P ops Q n rest ((d, .int .i64 s.size) :: e) I) : J P ops Q n (⟨some d, .call ⟨.builtin .len, #[x], ats⟩, t, p, af, none⟩ :: rest) e I :=
  J.value hd (fun T w ht hw => ⟨w, by simp [execOp, resolve, invoke, builtin, Builtin.len_, ht.eval hx, run_underlying' hu, ha, goInt], hw⟩) h
theorem J.max2 {k : IntKind} {a b : Int} {ats : Array TypeId} (hx : ev e x = some (.int k a)) (hy : ev e y = some (.int k b)) (hd : Nat.blt d n = true)
    (h : J P ops Q n rest ((d, .int k (max a b)) :: e) I) : J P ops Q n (⟨some d, .call ⟨.builtin .max, #[x, y], ats⟩, t, p, af, none⟩ :: rest) e I :=
  J.value hd (fun T w ht hw => ⟨w, by
    have : (if b > a then b else a) = max a b := by split <;> omega
    simp [execOp, resolve, invoke, builtin, Builtin.max_, Builtin.max2, ht.eval hx, ht.eval hy, this], hw⟩) h
theorem J.min2 {k : IntKind} {a b : Int} {ats : Array TypeId} (hx : ev e x = some (.int k a)) (hy : ev e y = some (.int k b)) (hd : Nat.blt d n = true)
    (h : J P ops Q n rest ((d, .int k (min a b)) :: e) I) : J P ops Q n (⟨some d, .call ⟨.builtin .min, #[x, y], ats⟩, t, p, af, none⟩ :: rest) e I :=
  J.value hd (fun T w ht hw => ⟨w, by
    have : (if b < a then b else a) = min a b := by split <;> omega
    simp [execOp, resolve, invoke, builtin, Builtin.min_, Builtin.min2, ht.eval hx, ht.eval hy, this], hw⟩) h
/- places -/
theorem J.fieldAddr {s f off b o : Nat} (hf : fieldT P s f = some off) (hx : ev e x = some (.pointer (some ⟨b, o, none⟩))) (hd : Nat.blt d n = true)
    (h : J P ops Q n rest ((d, .pointer (some ⟨b, o + off, none⟩)) :: e) I) : J P ops Q n (⟨some d, .fieldAddr s x f, t, p, af, none⟩ :: rest) e I := by
  refine J.value hd (fun T w ht hw => ⟨w, ?_, hw⟩) h
  unfold fieldT at hf
  split at hf
  · rename_i fs hu
    split at hf
    · rename_i fd hfd
      split at hf
      · rename_i k hk
        simp only [Option.some.injEq] at hf
        subst hf
        simp [execOp, ht.eval hx, Instr.fieldAt, run_underlying' hu, hfd, Instr.sureAddr, fieldPlace, run_sizeOf hk, addr_add]
      · cases hf
    · cases hf
  · cases hf
theorem J.indexAddrS {ty el : TypeId} {sz b o k c : Nat} {i : Int} {ik : IntKind} (he : elemT P ty = some el) (hs : sizeT P el = some sz) (hx : ev e x = some (.slice (some ⟨b, o, none⟩) k c)) (hy : ev e y = some (.int ik i))
    (h0 : 0 ≤ i) (h1 : i < k) (hd : Nat.blt d n = true)
    (h : J P ops Q n rest ((d, .pointer (some ⟨b, o + i.toNat * sz, none⟩)) :: e) I) : J P ops Q n (⟨some d, .indexAddr ty x y, t, p, af, none⟩ :: rest) e I := by
  refine J.value hd (fun T w ht hw => ⟨w, ?_, hw⟩) h
  unfold elemT at he
  split at he
  · rename_i e' hu
    simp only [Option.some.injEq] at he
    subst he
    simp [execOp, ht.eval hx, ht.eval hy, Instr.indexAt, asIntOf, run_underlying' hu, run_sizeOf hs, h0, h1, addr_add]
  · cases he
theorem J.indexAddrA {ty el : TypeId} {len sz b o : Nat} {i : Int} {ik : IntKind} (he : arrT P ty = some (len, el)) (hs : sizeT P el = some sz) (hx : ev e x = some (.pointer (some ⟨b, o, none⟩))) (hy : ev e y = some (.int ik i))
    (h0 : 0 ≤ i) (h1 : i < len) (hd : Nat.blt d n = true)
    (h : J P ops Q n rest ((d, .pointer (some ⟨b, o + i.toNat * sz, none⟩)) :: e) I) : J P ops Q n (⟨some d, .indexAddr ty x y, t, p, af, none⟩ :: rest) e I := by
  refine J.value hd (fun T w ht hw => ⟨w, ?_, hw⟩) h
  unfold arrT at he
  split at he
  · rename_i l' e' hu
    simp only [Option.some.injEq, Prod.mk.injEq] at he
    obtain ⟨rfl, rfl⟩ := he
    simp [execOp, ht.eval hx, ht.eval hy, Instr.indexAt, asIntOf, run_underlying' hu, run_sizeOf hs, h0, h1, addr_add, Instr.sureAddr]
  · cases he
end
end Go.J
