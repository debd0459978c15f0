/-
  VaultKeeps: texts that its proof needs, part 4.
-/
import Derived.Test.YtoaenmlhehcjfaaZVaultKeepsc
/-
  The vault's Inc, Down, Get, Put, Merge: contracts.
-/
namespace Go.Proofs.Ytoaenmlhehcjfaa
open Go.J Go.RowKit
set_option linter.unusedVariables false
set_option linter.unusedSimpArgs false
set_option maxRecDepth 8000
def fieldF (P : Program) (s f : Nat) : Option (Nat × Nat) := match P.underlying s with
  | some (.struct fs) => (fs[f]?).map (fun d => (d.type, d.offset))
  | _ => none
theorem fieldF.ex {P : Program} {s f t off : Nat} (h : fieldF P s f = some (t, off)) : ∃ fs fd, P.underlying s = some (.struct fs) ∧ fs[f]? = some fd ∧ fd.type = t ∧ fd.offset = off := by
  unfold fieldF at h
  split at h
  · rename_i fs hu
    obtain ⟨fd, h1, h2⟩ := Option.map_eq_some_iff.1 h
    simp only [Prod.mk.injEq] at h2
    exact ⟨fs, fd, hu, h1, h2.1, h2.2⟩
  · cases h
section
variable {P : Program} {ops : Array Oper} {Q : Exit → Act → World → Prop} {n : Nat} {e : Env} {I I' : World → Prop} {rest : List Oper}
variable {d t yt : Nat} {p : String} {af : Array Edge} {x y z : Operand} {v v1 v2 : Value} {w0 : World} {S : List Nat} {l l' : List (Nat × Obj)}
theorem J.fieldA {s f tt off k : Nat} {cs vs : List Value} (hf : fieldF P s f = some (tt, off)) (ha : aggT P tt = some true) (hs : sizeT P tt = some k) (hx : ev e x = some (.agg cs.toArray)) (hv : (cs.drop off).take k = vs) (hd : Nat.blt d n = true)
    (h : J P ops Q n rest ((d, .agg vs.toArray) :: e) I) : J P ops Q n (⟨some d, .field s x f, t, p, af, none⟩ :: rest) e I := by
  refine J.value hd (fun T w ht hw => ⟨w, ?_, hw⟩) h
  obtain ⟨fs, fd, hu, hfd, rfl, rfl⟩ := fieldF.ex hf
  simp [execOp, ht.eval hx, Instr.field, run_underlying' hu, hfd, asAgg, part, run_isAgg ha, Go.J.run_sizeOf hs, hv]
theorem J.field1 {s f tt off : Nat} {cs : List Value} (hf : fieldF P s f = some (tt, off)) (ha : aggT P tt = some false) (hx : ev e x = some (.agg cs.toArray)) (hv : cs[off]? = some v) (hd : Nat.blt d n = true)
    (h : J P ops Q n rest ((d, v) :: e) I) : J P ops Q n (⟨some d, .field s x f, t, p, af, none⟩ :: rest) e I := by
  refine J.value hd (fun T w ht hw => ⟨w, ?_, hw⟩) h
  obtain ⟨fs, fd, hu, hfd, rfl, rfl⟩ := fieldF.ex hf
  simp [execOp, ht.eval hx, Instr.field, run_underlying' hu, hfd, asAgg, part, run_isAgg ha, hv]
end
namespace Ty
theorem ffIt : fieldF Try.prog 28 1 = some (25, 16) := by kernel_rfl
theorem ffVr : fieldF Try.prog 25 0 = some (2, 0) := by kernel_rfl
end Ty

theorem inc_spec (vb mb : Nat) (lv : Value) (inc : Int) (w : World) {l : List (Nat × Obj)} (hw0 : Own w ((vb, vaO lv mb inc) :: l)) :
    Calls Try.prog 18 [.pointer (some ⟨vb, 0, none⟩)].toArray w fun r w' => r = .returned (.int .i64 inc) ∧ Bel w w' := by
  refine calls_of_J (args := [.pointer (some ⟨vb, 0, none⟩)]) (e := [(0, .pointer (some ⟨vb, 0, none⟩))]) Try.func18 rfl rfl ⟨rfl, trivial⟩ (hw0.st) ?_
  refine JC.seq (fun K0 hK0 => ?_)
  refine JC.region ?_
  refine J.assign rfl rfl ?_
  refine J.nil ?_
  refine JX.thenN (hK0 _ _ ?_)
  refine JC.seq (fun K1 hK1 => ?_)
  refine JC.seq (fun K2 hK2 => ?_)
  refine JC.region ?_
  refine J.move rfl rfl ?_
  refine J.eqNil Ty.u38 rfl rfl rfl ?_
  refine J.nil ?_
  refine JX.thenN (hK2 _ _ ?_)
  first | refine JC.condF rfl ?_ | refine JC.cond rfl (fun h => by first | (exfalso; simp at h; omega) | (simp at h)) (fun _ => ?_)
  refine JC.skip ?_
  refine JX.thenN (hK1 _ _ ?_)
  refine JC.seq (fun K3 hK3 => ?_)
  refine JC.region ?_
  refine J.move rfl rfl ?_
  refine J.nilCheck rfl rfl ?_
  refine J.fieldAddr Ty.fd99_2 rfl rfl ?_
  refine J.load1 (v := .int .i64 inc) Ty.a2 rfl (fun w1 hw => by rw [cell_of (hw.own ((vb, vaO lv mb inc)) (by repeat first | exact .head _ | apply List.Mem.tail | apply List.mem_append_right))]; rfl) rfl ?_
  refine J.assign rfl rfl ?_
  refine J.nil ?_
  refine JX.thenN (hK3 _ _ ?_)
  refine JC.ret ?_
  refine JX.ret1 rfl rfl (fun w hw => ?_)
  exact ⟨rfl, hw.same hw0 (fun p hp => hp)⟩

theorem vdown_spec (vb mb lb d : Nat) (q : LogP) (down : Bool) (inc : Int) (w : World) {l : List (Nat × Obj)} (hw0 : Own w ((vb, vaO (.pointer (some ⟨lb, 0, none⟩)) mb inc) :: (lb, lgO d q down) :: l)) :
    Calls Try.prog 25 [.pointer (some ⟨vb, 0, none⟩)].toArray w fun r w' => r = .returned (.bool down) ∧ Bel w w' := by
  refine calls_of_J (args := [.pointer (some ⟨vb, 0, none⟩)]) (e := [(0, .pointer (some ⟨vb, 0, none⟩))]) Try.func25 rfl rfl ⟨rfl, trivial⟩ (hw0.st) ?_
  refine JC.seq (fun K0 hK0 => ?_)
  refine JC.region ?_
  refine J.assign rfl rfl ?_
  refine J.nil ?_
  refine JX.thenN (hK0 _ _ ?_)
  refine JC.seq (fun K1 hK1 => ?_)
  refine JC.region ?_
  refine J.move rfl rfl ?_
  refine J.neNil Ty.u38 rfl rfl rfl ?_
  refine J.move rfl rfl ?_
  first | refine J.skip rfl rfl rfl rfl rfl ?_ | refine J.skipU rfl rfl rfl rfl ?_ | (refine J.unguard rfl rfl rfl ?_; refine J.move rfl rfl ?_)
  first | refine J.skip rfl rfl rfl rfl rfl ?_ | refine J.skipU rfl rfl rfl rfl ?_ | (refine J.unguard rfl rfl rfl ?_; refine J.nilCheck rfl rfl ?_)
  first | refine J.skip rfl rfl rfl rfl rfl ?_ | refine J.skipU rfl rfl rfl rfl ?_ | (refine J.unguard rfl rfl rfl ?_; refine J.fieldAddr Ty.fd99_0 rfl rfl ?_)
  refine J.unguard rfl rfl rfl ?_
  refine J.load1 (v := .pointer (some ⟨lb, 0, none⟩)) Ty.a94 rfl (fun w1 hw => by rw [cell_of (hw.own ((vb, vaO (.pointer (some ⟨lb, 0, none⟩)) mb inc)) (by repeat first | exact .head _ | apply List.Mem.tail | apply List.mem_append_right))]; rfl) rfl ?_
  refine J.unguard rfl rfl rfl ?_
  refine J.callB (v := .bool down) (fun w1 w2 hw hb => hw.step hb) Ty.bd51 rfl rfl (fun w1 hw => down_spec lb d q down w1 (l := (vb, vaO (.pointer (some ⟨lb, 0, none⟩)) mb inc) :: l) (St.owns' (hw.perm (.swap _ _ _)))) ?_
  (first | refine J.pickT rfl rfl rfl ?_ | refine J.pickF rfl rfl rfl ?_)
  refine J.assign rfl rfl ?_
  refine J.nil ?_
  refine JX.thenN (hK1 _ _ ?_)
  refine JC.ret ?_
  refine JX.ret1 rfl rfl (fun w hw => ?_)
  exact ⟨rfl, hw.same hw0 (fun p hp => hp)⟩

theorem vget_spec (vb mb : Nat) (lv : Value) (inc : Int) (L : List HI) (es : Array MapEntry) (ck : Nat) (hT : Vm L es ck) (hV : VOK L) (key : IDV) (O : HI) (K : Bool) (w : World) (hw0 : Own w [(vb, vaO lv mb inc), (mb, .map es ck)]) (hO : (hget L key).getD zH = O) (hK : (hget L key).isSome = K) (hrow : Row w O.sv O.bs.length (O.bs.map u8)) (hoff : Off [vb, mb] O.sv (O.bs.map u8)) (hl : O.bs.length ≤ 140737488351232) :
    Calls Try.prog 22 [.pointer (some ⟨vb, 0, none⟩), .agg (cI key).toArray].toArray w fun r w' => ∃ y : Value × List (Nat × Obj), r = .returned (.tuple #[.agg (cT O.key O.ver y.1).toArray, .bool K]) ∧ Vec 5 1 y.1 (O.bs).length ((O.bs).map u8) y.2 ∧ St w [vb, mb] (y.2 ++ [(vb, vaO lv mb inc), (mb, .map es ck)]) w' := by
  obtain ⟨ao, co, hOs⟩ := hV.old key
  rw [hO] at hOs
  refine calls_of_J (args := [.pointer (some ⟨vb, 0, none⟩), .agg (cI key).toArray]) (e := [(0, .pointer (some ⟨vb, 0, none⟩)), (1, .agg (cI key).toArray)]) Try.func22 rfl rfl ⟨rfl, rfl, trivial⟩ (hw0.st) ?_
  refine JC.seq (fun K0 hK0 => ?_)
  refine JC.region ?_
  refine J.box rfl rfl rfl (fun b3 => ?_)
  refine J.alloc Ty.zIt rfl rfl (fun b4 => ?_)
  refine J.assign rfl rfl ?_
  refine J.nil ?_
  refine JX.thenN (hK0 _ _ ?_)
  refine JC.seq (fun K1 hK1 => ?_)
  refine JC.seq (fun K2 hK2 => ?_)
  refine JC.region ?_
  refine J.move rfl rfl ?_
  refine J.eqNil Ty.u38 rfl rfl rfl ?_
  refine J.nil ?_
  refine JX.thenN (hK2 _ _ ?_)
  first | refine JC.condF rfl ?_ | refine JC.cond rfl (fun h => by first | (exfalso; simp at h; omega) | (simp at h)) (fun _ => ?_)
  refine JC.skip ?_
  refine JX.thenN (hK1 _ _ ?_)
  refine JC.seq (fun K3 hK3 => ?_)
  apply JC.drawX (α := Nat × Unit) 11 (fun x => match x with | ⟨x6, uu⟩ => [.pointer (some ⟨vb, 0, none⟩), .pointer (some ⟨vb, 0, none⟩), .pointer (some ⟨vb, 0 + 1, none⟩), .map (some mb), .agg (cI key).toArray, .tuple #[.agg (cH O).toArray, .bool K], .tuple #[.agg (cH O).toArray, .bool K], .agg (cH O).toArray, .bool K, .pointer (some ⟨x6, 0, none⟩), undef]) (fun m x => match x with | ⟨x6, uu⟩ => fun w1 => ((m 10 = true → m 9 = true)) ∧ St w [vb, mb] ((bif m 9 then [(x6, cb (cH (bif m 10 then O else zH)) 28)] else []) ++ ((b4, cb (cH zH) 28) :: (b3, cb (cI key) 23) :: (vb, vaO lv mb inc) :: (mb, .map es ck) :: [])) w1) Ty.mixed rfl rfl rfl (by kernel_rfl) rfl rfl ?hinit ?hstep ?htail
  case hinit => exact fun w1 hw => ⟨(0, ()), fun h => (by cases h), hw.drew⟩
  case hstep =>
    refine ⟨fun m x hm hp => ?_, fun m x hm hp => ?_, fun m x hm hp => ?_, fun m x hm hp => ?_, fun m x hm hp => ?_, fun m x hm hp => ?_, fun m x hm hp => ?_, fun m x hm hp => ?_, fun m x hm hp => ?_, fun m x hm hp => ?_, fun m x hm hp => ?_, trivial⟩
    · skip
      obtain ⟨x6, uu⟩ := x
      show J _ _ _ _ _ (_) _
      refine J.pr (fun hF => ?_)
      refine J.move rfl rfl ?_
      exact J.finX rfl (fun _ hw => ⟨⟨x6, uu⟩, rfl, fun _ _ _ => rfl, hF, hw⟩)
    · skip
      obtain ⟨x6, uu⟩ := x
      show J _ _ _ _ _ ((12, .pointer (some ⟨vb, 0, none⟩)) :: _) _
      refine J.pr (fun hF => ?_)
      refine J.nilCheck rfl rfl ?_
      exact J.finX rfl (fun _ hw => ⟨⟨x6, uu⟩, rfl, fun _ _ _ => rfl, hF, hw⟩)
    · skip
      obtain ⟨x6, uu⟩ := x
      show J _ _ _ _ _ ((13, .pointer (some ⟨vb, 0, none⟩)) :: _) _
      refine J.pr (fun hF => ?_)
      refine J.fieldAddr Ty.fd99_1 rfl rfl ?_
      exact J.finX rfl (fun _ hw => ⟨⟨x6, uu⟩, rfl, fun _ _ _ => rfl, hF, hw⟩)
    · skip
      obtain ⟨x6, uu⟩ := x
      show J _ _ _ _ _ ((14, .pointer (some ⟨vb, 0 + 1, none⟩)) :: _) _
      refine J.pr (fun hF => ?_)
      refine J.load1 (v := .map (some mb)) Ty.a97 rfl (fun w1 hw => by rw [cell_of (hw.own ((vb, vaO lv mb inc)) (by repeat first | exact .head _ | apply List.Mem.tail | apply List.mem_append_right))]; rfl) rfl ?_
      exact J.finX rfl (fun _ hw => ⟨⟨x6, uu⟩, rfl, fun _ _ _ => rfl, hF, hw⟩)
    · skip
      obtain ⟨x6, uu⟩ := x
      show J _ _ _ _ _ (_) _
      refine J.pr (fun hF => ?_)
      refine J.loadA (vs := cI key) Ty.a23 Ty.s23 rfl rfl (fun w1 hw => Cells.of_block (hw.own ((b3, cb (cI key) 23)) (by repeat first | exact .head _ | apply List.Mem.tail | apply List.mem_append_right)) rfl) rfl ?_
      exact J.finX rfl (fun _ hw => ⟨⟨x6, uu⟩, rfl, fun _ _ _ => rfl, hF, hw⟩)
    · skip
      obtain ⟨x6, uu⟩ := x
      show J _ _ _ _ _ ((16, .agg (cI key).toArray) :: (15, .map (some mb)) :: _) _
      refine J.pr (fun hF => ?_)
      refine J.lookV2 Ty.u97 Ty.KI Ty.keyI Ty.zIt rfl rfl hT (fun w1 hw => hw.own ((mb, .map es ck)) (by repeat first | exact .head _ | apply List.Mem.tail | apply List.mem_append_right)) rfl ?_
      refine J.name 17 rfl (show _ = Value.tuple #[.agg (cH O).toArray, .bool K] by rw [hO, hK]) ?_
      exact J.finX rfl (fun _ hw => ⟨⟨x6, uu⟩, rfl, fun _ _ _ => rfl, hF, hw⟩)
    · skip
      obtain ⟨x6, uu⟩ := x
      show J _ _ _ _ _ ((17, .tuple #[.agg (cH O).toArray, .bool K]) :: _) _
      refine J.pr (fun hF => ?_)
      refine J.move rfl rfl ?_
      exact J.finX rfl (fun _ hw => ⟨⟨x6, uu⟩, rfl, fun _ _ _ => rfl, hF, hw⟩)
    · skip
      obtain ⟨x6, uu⟩ := x
      show J _ _ _ _ _ ((11, .tuple #[.agg (cH O).toArray, .bool K]) :: _) _
      refine J.pr (fun hF => ?_)
      refine J.extract rfl rfl rfl ?_
      exact J.finX rfl (fun _ hw => ⟨⟨x6, uu⟩, rfl, fun _ _ _ => rfl, hF, hw⟩)
    · skip
      obtain ⟨x6, uu⟩ := x
      show J _ _ _ _ _ ((11, .tuple #[.agg (cH O).toArray, .bool K]) :: _) _
      refine J.pr (fun hF => ?_)
      refine J.extract rfl rfl rfl ?_
      exact J.finX rfl (fun _ hw => ⟨⟨x6, uu⟩, rfl, fun _ _ _ => rfl, hF, hw⟩)
    · skip
      obtain ⟨x6, uu⟩ := x
      show J _ _ _ _ _ (_) _
      refine J.pr (fun hF => ?_)
      have h10 : m 10 = false := by cases h : m 10 with
        | false => rfl
        | true => rw [hF h] at hm; cases hm
      refine J.alloc Ty.zIt rfl rfl (fun b6 => ?_)
      refine J.nil (JX.finB rfl (fun w1 hw => ⟨⟨⟨b6, uu⟩, rfl, fun j h1 h2 => ?_, ?_⟩, trivial⟩))
      · match j, h1 with
        | 0, _ => (first | rfl | trivial)
        | 1, _ => (first | rfl | trivial)
        | 2, _ => (first | rfl | trivial)
        | 3, _ => (first | rfl | trivial)
        | 4, _ => (first | rfl | trivial)
        | 5, _ => (first | rfl | trivial)
        | 6, _ => (first | rfl | trivial)
        | 7, _ => (first | rfl | trivial)
        | 8, _ => (first | rfl | trivial)
        | 9, _ => exact absurd (h2.symm.trans hm) (by decide)
        | 10, _ => (first | rfl | trivial)
        | j + 11, h1 => omega
      show ((m 10 = true → true = true)) ∧ St w [vb, mb] ((bif true then [(b6, cb (cH (bif m 10 then O else zH)) 28)] else []) ++ ((b4, cb (cH zH) 28) :: (b3, cb (cI key) 23) :: (vb, vaO lv mb inc) :: (mb, .map es ck) :: [])) w1
      simp only [hm, h10, cond_true, cond_false] at hw ⊢
      exact ⟨fun _ => (by first | trivial | rfl), hw⟩
    · skip
      obtain ⟨x6, uu⟩ := x
      show J _ _ _ _ _ ((6, .pointer (some ⟨x6, 0, none⟩)) :: (18, .agg (cH O).toArray) :: (11, .tuple #[.agg (cH O).toArray, .bool K]) :: (17, .tuple #[.agg (cH O).toArray, .bool K]) :: (16, .agg (cI key).toArray) :: (15, .map (some mb)) :: (14, .pointer (some ⟨vb, 0 + 1, none⟩)) :: (13, .pointer (some ⟨vb, 0, none⟩)) :: (12, .pointer (some ⟨vb, 0, none⟩)) :: (18, .agg (cH O).toArray) :: (6, .pointer (some ⟨x6, 0, none⟩)) :: _) _
      have hp9 : m 9 = true := predsT hp (by kernel_rfl)
      have hp9 : m 9 = true := predsT hp (by kernel_rfl)
      refine J.pr (fun hF => ?_)
      refine J.conseq (I' := St w [vb, mb] ((x6, cb (cH zH) 28) :: (b4, cb (cH zH) 28) :: (b3, cb (cI key) 23) :: (vb, vaO lv mb inc) :: (mb, .map es ck) :: [])) ?_ (fun w1 hw => by simp only [hm, hp9, cond_true, cond_false] at hw; exact hw)
      refine J.storeW (cs := cH zH) (vs := cH O) Ty.s28 rfl rfl rfl rfl rfl (one_cH hOs) .here ?_
      refine J.nil (JX.finN undef (fun w1 hw => ⟨⟨x6, uu⟩, rfl, fun j h1 h2 => ?_, ?_⟩))
      · match j, h1 with
        | 0, _ => (first | rfl | trivial)
        | 1, _ => (first | rfl | trivial)
        | 2, _ => (first | rfl | trivial)
        | 3, _ => (first | rfl | trivial)
        | 4, _ => (first | rfl | trivial)
        | 5, _ => (first | rfl | trivial)
        | 6, _ => (first | rfl | trivial)
        | 7, _ => (first | rfl | trivial)
        | 8, _ => (first | rfl | trivial)
        | 9, _ => (first | rfl | trivial)
        | 10, _ => (first | rfl | trivial)
        | j + 11, h1 => omega
      show ((true = true → m 9 = true)) ∧ St w [vb, mb] ((bif m 9 then [(x6, cb (cH (bif true then O else zH)) 28)] else []) ++ ((b4, cb (cH zH) 28) :: (b3, cb (cI key) 23) :: (vb, vaO lv mb inc) :: (mb, .map es ck) :: [])) w1
      simp only [hm, hp9, cond_true, cond_false] at hw ⊢
      exact ⟨fun _ => (by first | trivial | rfl), hw⟩
  case htail =>
    intro x
    obtain ⟨x6, uu⟩ := x
    show J _ _ _ _ _ ((6, .pointer (some ⟨x6, 0, none⟩)) :: (19, .bool K) :: (18, .agg (cH O).toArray) :: (11, .tuple #[.agg (cH O).toArray, .bool K]) :: (17, .tuple #[.agg (cH O).toArray, .bool K]) :: (16, .agg (cI key).toArray) :: (15, .map (some mb)) :: (14, .pointer (some ⟨vb, 0 + 1, none⟩)) :: (13, .pointer (some ⟨vb, 0, none⟩)) :: (12, .pointer (some ⟨vb, 0, none⟩)) :: _) (fun w1 => ((true = true → true = true)) ∧ St w [vb, mb] ((bif true then [(x6, cb (cH (bif true then O else zH)) 28)] else []) ++ ((b4, cb (cH zH) 28) :: (b3, cb (cI key) 23) :: (vb, vaO lv mb inc) :: (mb, .map es ck) :: [])) w1)
    refine J.pr (fun hF => ?_)
    refine J.conseq (I' := St w [vb, mb] ((x6, cb (cH O) 28) :: (b4, cb (cH zH) 28) :: (b3, cb (cI key) 23) :: (vb, vaO lv mb inc) :: (mb, .map es ck) :: [])) ?_ (fun w1 hw => by simp only [cond_true] at hw; exact hw)
    refine J.assign rfl rfl ?_
    refine J.nil ?_
    refine JX.thenN (hK3 _ _ ?_)
    refine JC.seq (fun K4 hK4 => ?_)
    refine JC.region ?_
    refine J.loadA (vs := cH O) Ty.a28 Ty.s28 rfl rfl (fun w1 hw => Cells.of_block (hw.own ((x6, cb (cH O) 28)) (by repeat first | exact .head _ | apply List.Mem.tail | apply List.mem_append_right)) rfl) rfl ?_
    refine J.perm ([] ++ ((x6, cb (cH O) 28) :: (b4, cb (cH zH) 28) :: (b3, cb (cI key) 23) :: (vb, vaO lv mb inc) :: (mb, .map es ck) :: [])) (.refl _) ?_
    refine J.callS (α := Value × List (Nat × Obj)) (V := fun y => .agg (cT O.key O.ver y.1).toArray) (Pr := fun y => Vec 5 1 y.1 (O.bs).length ((O.bs).map u8) y.2) (L := (·.2)) (l1 := []) Ty.bd47 rfl rfl (fun w1 hw => copied_spec (cH O) O.key O.ver O.bs O.sv w1 rfl (hrow.st hoff hw) hl) (fun y hy => ?_)
    obtain ⟨v9, l9⟩ := y
    try simp only at hy ⊢
    obtain ⟨a9, c9, rfl, hc9⟩ := hy.form
    refine J.perm ((b4, cb (cH zH) 28) :: ((x6, cb (cH O) 28) :: (b3, cb (cI key) 23) :: (vb, vaO lv mb inc) :: (mb, .map es ck) :: l9)) (by (refine perm_cnt (fun _ => ?_)); simp only [cntB_append, cntB_cons, cntB_nil, Nat.add_zero, Nat.zero_add]; try ac_rfl) ?_
    refine J.move rfl rfl ?_
    refine J.storeW (cs := cH zH) (vs := cT O.key O.ver (.slice a9 O.bs.length c9)) (l' := (b4, cb (cT O.key O.ver (.slice a9 O.bs.length c9)) 28) :: ((x6, cb (cH O) 28) :: (b3, cb (cI key) 23) :: (vb, vaO lv mb inc) :: (mb, .map es ck) :: l9)) Ty.s28 rfl rfl rfl rfl rfl one_cT .here ?_
    refine J.assign rfl rfl ?_
    refine J.nil ?_
    refine JX.thenN (hK4 _ _ ?_)
    refine JC.ret ?_
    refine JX.retCT (vs := cT O.key O.ver (.slice a9 O.bs.length c9)) rfl rfl rfl Ty.a28 Ty.s28 rfl (fun w1 hw => Cells.of_block (hw.own (b4, cb (cT O.key O.ver (.slice a9 O.bs.length c9)) 28) (by repeat first | exact .head _ | apply List.Mem.tail | apply List.mem_append_right)) rfl) (fun w1 hw => ?_)
    exact ⟨(_, l9), rfl, hy, (hw.perm (by (refine perm_cnt (fun _ => ?_)); simp only [cntB_append, cntB_cons, cntB_nil, Nat.add_zero, Nat.zero_add]; try ac_rfl : List.Perm _ ([(b4, cb (cT O.key O.ver (.slice a9 O.bs.length c9)) 28), (x6, cb (cH O) 28), (b3, cb (cI key) 23)] ++ (l9 ++ [(vb, vaO lv mb inc), (mb, .map es ck)])))).drop (List.sublist_append_right _ _)⟩

end Go.Proofs.Ytoaenmlhehcjfaa
/-
  The vault's Put, Merge: contracts.
-/
namespace Go.Proofs.Ytoaenmlhehcjfaa
open Go.J Go.RowKit
set_option linter.unusedVariables false
set_option linter.unusedSimpArgs false
set_option maxRecDepth 8000
def zItV : ItV := ⟨zI, zV, []⟩
def verN (L : List ItV) (key : IDV) : Int := ((getV L key).getD zItV).ver.n
theorem old_it (L : List HI) (key : IDV) : (getV (L.map HI.it) key).getD zItV = ((hget L key).getD zH).it := by
  rw [hget_it]
  cases hget L key <;> rfl
theorem verN_it (L : List HI) (key : IDV) : verN (L.map HI.it) key = ((hget L key).getD zH).ver.n := by
  unfold verN
  rw [old_it]; rfl
/-- what putting does -/
def vputP (n : Nat) (q : LogP) (down : Bool) (σ : DS) (L : List ItV) (key : IDV) (val : List UInt8) (who : IDV) : Int × Option ItV × LogP × Bool × DS :=
  if 64 < val.length then (4, none, q, down, σ) else
  if verN L key = 4611686018427387903 then (5, none, q, down, σ) else
  match appendP n q down σ (formB ⟨key, ⟨verN L key + 1, who⟩, val⟩) with
  | (e, q', dn, σ') => if e = 0 then (0, some ⟨key, ⟨verN L key + 1, who⟩, val⟩, q', dn, σ') else (e, none, q', dn, σ')
/-- what merging does -/
def vmergeP (n : Nat) (q : LogP) (down : Bool) (σ : DS) (L : List ItV) (x : ItV) : Bool × Int × LogP × Bool × DS :=
  if x.ver.n < 1 ∨ 4611686018427387904 ≤ x.ver.n then (false, 1, q, down, σ) else
  if 64 < x.bs.length then (false, 4, q, down, σ) else
  if (getV L x.key).isSome = true ∧ newB x.ver ((getV L x.key).getD zItV).ver = false then (false, 0, q, down, σ) else
  match appendP n q down σ (formB x) with
  | (e, q', dn, σ') => (decide (e = 0), e, q', dn, σ')
inductive PutR where
  | bad (e : Int) (q : LogP) (dn : Bool) (σ : DS)
  | ok (h : HI) (y : Value) (ly : List (Nat × Obj)) (es : Array MapEntry) (ck : Nat) (q : LogP) (dn : Bool) (σ : DS)
def PutR.val : PutR → Value
  | .bad e _ _ _ => .tuple #[.agg (cH zH).toArray, .int .i64 e]
  | .ok h y _ _ _ _ _ _ => .tuple #[.agg (cT h.key h.ver y).toArray, .int .i64 0]
def PutR.lst (vb mb lb d s n inc : Nat) (es : Array MapEntry) (ck : Nat) : PutR → List (Nat × Obj)
  | .bad _ q dn σ => vltB vb mb lb d s n q dn inc es ck σ
  | .ok h _ ly es' ck' q dn σ => vltB vb mb lb d s n q dn inc es' ck' σ ++ (h.lp ++ ly)
def PutR.Pr (n : Nat) (q : LogP) (down : Bool) (σ : DS) (L : List HI) (key : IDV) (val : List UInt8) (who : IDV) : PutR → Prop
  | .bad e q' dn σ' => vputP n q down σ (L.map HI.it) key val who = (e, none, q', dn, σ') ∧ e ≠ 0
  | .ok h y ly es' ck' q' dn σ' => vputP n q down σ (L.map HI.it) key val who = (0, some h.it, q', dn, σ') ∧ (okV h.ver.n ∧ Vec 5 1 h.sv h.bs.length (h.bs.map u8) h.lp) ∧ Vec 5 1 y h.bs.length (h.bs.map u8) ly ∧ Vm (hset L h) es' ck'
inductive MerR where
  | no (e : Int) (q : LogP) (dn : Bool) (σ : DS)
  | yes (h : HI) (es : Array MapEntry) (ck : Nat) (q : LogP) (dn : Bool) (σ : DS)
def MerR.val : MerR → Value
  | .no e _ _ _ => .tuple #[.bool false, .int .i64 e]
  | .yes _ _ _ _ _ _ => .tuple #[.bool true, .int .i64 0]
def MerR.lst (vb mb lb d s n inc : Nat) (es : Array MapEntry) (ck : Nat) : MerR → List (Nat × Obj)
  | .no _ q dn σ => vltB vb mb lb d s n q dn inc es ck σ
  | .yes h es' ck' q dn σ => vltB vb mb lb d s n q dn inc es' ck' σ ++ h.lp
def MerR.Pr (n : Nat) (q : LogP) (down : Bool) (σ : DS) (L : List HI) (x : ItV) : MerR → Prop
  | .no e q' dn σ' => vmergeP n q down σ (L.map HI.it) x = (false, e, q', dn, σ')
  | .yes h es' ck' q' dn σ' => vmergeP n q down σ (L.map HI.it) x = (true, 0, q', dn, σ') ∧ h.it = x ∧ (okV h.ver.n ∧ Vec 5 1 h.sv h.bs.length (h.bs.map u8) h.lp) ∧ Vm (hset L h) es' ck'

set_option maxHeartbeats 2000000 in
theorem vput_spec (vb mb lb d s n inc : Nat) (q : LogP) (down : Bool) (B : List UInt8) (p k : Int) (L : List HI) (es : Array MapEntry) (ck : Nat) (hT : Vm L es ck) (hV : VOK L) (hI : LogI n q ⟨B, p, k⟩) (hn : n ≤ 4096) (hk : 0 ≤ k) (hk2 : k < 4611686018427380000) (key who : IDV) (val : List UInt8) (vv : Value) (w : World) (hw0 : Own w (vltB vb mb lb d s n q down inc es ck ⟨B, p, k⟩)) (hrv : Row w vv val.length (val.map u8)) (hoff : Off [vb, mb, lb, d, s] vv (val.map u8)) (hlv : val.length ≤ 140737488351232) :
    Calls Try.prog 24 [.pointer (some ⟨vb, 0, none⟩), .agg (cI key).toArray, vv, .agg (cI who).toArray].toArray w fun r w' => ∃ z : PutR, r = .returned z.val ∧ z.Pr n q down ⟨B, p, k⟩ L key val who ∧ St w [vb, mb, lb, d, s] (z.lst vb mb lb d s n inc es ck) w' := by
  obtain ⟨hn3, hgl, hul, hcl_, hrl⟩ := openP_len hI.open_ hn
  obtain ⟨a, c, rfl, hc, _⟩ := id hrv
  obtain ⟨O, hO⟩ : ∃ o, (hget L key).getD zH = o := ⟨_, rfl⟩
  obtain ⟨K, hK⟩ : ∃ o, (hget L key).isSome = o := ⟨_, rfl⟩
  obtain ⟨ao, co, hOs⟩ := hV.old key
  rw [hO] at hOs
  have hon := hV.okn key
  rw [hO] at hon
  obtain ⟨hon1, hon2⟩ := hon
  refine calls_of_J (args := [.pointer (some ⟨vb, 0, none⟩), .agg (cI key).toArray, .slice a val.length c, .agg (cI who).toArray]) (e := [(0, .pointer (some ⟨vb, 0, none⟩)), (1, .agg (cI key).toArray), (2, .slice a val.length c), (3, .agg (cI who).toArray)]) Try.func24 rfl rfl ⟨rfl, rfl, rfl, rfl, trivial⟩ (hw0.st) ?_
  refine JC.seq (fun K0 hK0 => ?_)
  refine JC.region ?_
  refine J.box rfl rfl rfl (fun b5 => ?_)
  refine J.box rfl rfl rfl (fun b7 => ?_)
  refine J.alloc Ty.zIt rfl rfl (fun b8 => ?_)
  refine J.assign rfl rfl ?_
  refine J.nil ?_
  refine JX.thenN (hK0 _ _ ?_)
  refine JC.seq (fun K1 hK1 => ?_)
  refine JC.seq (fun K2 hK2 => ?_)
  refine JC.region ?_
  refine J.move rfl rfl ?_
  refine J.eqNil Ty.u38 rfl rfl rfl ?_
  refine J.nil ?_
  refine JX.thenN (hK2 _ _ ?_)
  first | refine JC.condF rfl ?_ | refine JC.cond rfl (fun h => by first | (exfalso; simp at h; omega) | (simp at h)) (fun _ => ?_)
  refine JC.skip ?_
  refine JX.thenN (hK1 _ _ ?_)
  refine JC.seq (fun K3 hK3 => ?_)
  apply JC.drawX (α := Nat × Unit) 8 (fun x => match x with | ⟨xu, uu⟩ => [.pointer (some ⟨vb, 0, none⟩), .pointer (some ⟨vb, 0, none⟩), .pointer (some ⟨vb, 0 + 1, none⟩), .map (some mb), .agg (cI key).toArray, .agg (cH O).toArray, .agg (cV O.ver).toArray, .int .i64 O.ver.n]) (fun m x => match x with | ⟨xu, uu⟩ => fun w1 => (True) ∧ St w [vb, mb, lb, d, s] ((b8, cb (cH zH) 28) :: (b7, cb (cI who) 23) :: (b5, cb (cI key) 23) :: (vb, vaO (.pointer (some ⟨lb, 0, none⟩)) mb ((inc : Nat) : Int)) :: (mb, .map es ck) :: (lb, lgO d q down) :: (d, dkO s n p k) :: (s, dkS B) :: []) w1) Ty.mixed rfl rfl rfl (by kernel_rfl) rfl rfl ?hinit ?hstep ?htail
  case hinit => exact fun w1 hw => ⟨(0, ()), trivial, hw.drew⟩
  case hstep =>
    refine ⟨fun m x hm hp => ?_, fun m x hm hp => ?_, fun m x hm hp => ?_, fun m x hm hp => ?_, fun m x hm hp => ?_, fun m x hm hp => ?_, fun m x hm hp => ?_, fun m x hm hp => ?_, trivial⟩
    · skip
      obtain ⟨xu, uu⟩ := x
      show J _ _ _ _ _ (_) _
      refine J.pr (fun hF => ?_)
      refine J.move rfl rfl ?_
      exact J.finX rfl (fun _ hw => ⟨⟨xu, uu⟩, rfl, fun _ _ _ => rfl, hF, hw⟩)
    · skip
      obtain ⟨xu, uu⟩ := x
      show J _ _ _ _ _ ((16, .pointer (some ⟨vb, 0, none⟩)) :: _) _
      refine J.pr (fun hF => ?_)
      refine J.nilCheck rfl rfl ?_
      exact J.finX rfl (fun _ hw => ⟨⟨xu, uu⟩, rfl, fun _ _ _ => rfl, hF, hw⟩)
    · skip
      obtain ⟨xu, uu⟩ := x
      show J _ _ _ _ _ ((17, .pointer (some ⟨vb, 0, none⟩)) :: _) _
      refine J.pr (fun hF => ?_)
      refine J.fieldAddr Ty.fd99_1 rfl rfl ?_
      exact J.finX rfl (fun _ hw => ⟨⟨xu, uu⟩, rfl, fun _ _ _ => rfl, hF, hw⟩)
    · skip
      obtain ⟨xu, uu⟩ := x
      show J _ _ _ _ _ ((18, .pointer (some ⟨vb, 0 + 1, none⟩)) :: _) _
      refine J.pr (fun hF => ?_)
      refine J.load1 (v := .map (some mb)) Ty.a97 rfl (fun w1 hw => by rw [cell_of (hw.own ((vb, vaO (.pointer (some ⟨lb, 0, none⟩)) mb ((inc : Nat) : Int))) (by repeat first | exact .head _ | apply List.Mem.tail | apply List.mem_append_right))]; rfl) rfl ?_
      exact J.finX rfl (fun _ hw => ⟨⟨xu, uu⟩, rfl, fun _ _ _ => rfl, hF, hw⟩)
    · skip
      obtain ⟨xu, uu⟩ := x
      show J _ _ _ _ _ (_) _
      refine J.pr (fun hF => ?_)
      refine J.loadA (vs := cI key) Ty.a23 Ty.s23 rfl rfl (fun w1 hw => Cells.of_block (hw.own ((b5, cb (cI key) 23)) (by repeat first | exact .head _ | apply List.Mem.tail | apply List.mem_append_right)) rfl) rfl ?_
      exact J.finX rfl (fun _ hw => ⟨⟨xu, uu⟩, rfl, fun _ _ _ => rfl, hF, hw⟩)
    · skip
      obtain ⟨xu, uu⟩ := x
      show J _ _ _ _ _ ((20, .agg (cI key).toArray) :: (19, .map (some mb)) :: _) _
      refine J.pr (fun hF => ?_)
      refine J.lookV1 Ty.u97 Ty.KI Ty.keyI Ty.zIt rfl rfl hT (fun w1 hw => hw.own (mb, .map es ck) (by repeat first | exact .head _ | apply List.Mem.tail | apply List.mem_append_right)) rfl ?_
      refine J.name 21 rfl (show _ = Value.agg (cH O).toArray by rw [hO]) ?_
      exact J.finX rfl (fun _ hw => ⟨⟨xu, uu⟩, rfl, fun _ _ _ => rfl, hF, hw⟩)
    · skip
      obtain ⟨xu, uu⟩ := x
      show J _ _ _ _ _ ((21, .agg (cH O).toArray) :: _) _
      refine J.pr (fun hF => ?_)
      refine J.fieldA Ty.ffIt Ty.a25 Ty.s25 rfl (vs := cV O.ver) rfl rfl ?_
      exact J.finX rfl (fun _ hw => ⟨⟨xu, uu⟩, rfl, fun _ _ _ => rfl, hF, hw⟩)
    · skip
      obtain ⟨xu, uu⟩ := x
      show J _ _ _ _ _ ((22, .agg (cV O.ver).toArray) :: _) _
      refine J.pr (fun hF => ?_)
      refine J.field1 (v := .int .i64 O.ver.n) Ty.ffVr Ty.a2 rfl rfl rfl ?_
      exact J.finX rfl (fun _ hw => ⟨⟨xu, uu⟩, rfl, fun _ _ _ => rfl, hF, hw⟩)
  case htail =>
    intro x
    obtain ⟨xu, uu⟩ := x
    show J _ _ _ _ _ ((23, .int .i64 O.ver.n) :: (22, .agg (cV O.ver).toArray) :: (21, .agg (cH O).toArray) :: (20, .agg (cI key).toArray) :: (19, .map (some mb)) :: (18, .pointer (some ⟨vb, 0 + 1, none⟩)) :: (17, .pointer (some ⟨vb, 0, none⟩)) :: (16, .pointer (some ⟨vb, 0, none⟩)) :: _) (fun w1 => (True) ∧ St w [vb, mb, lb, d, s] ((b8, cb (cH zH) 28) :: (b7, cb (cI who) 23) :: (b5, cb (cI key) 23) :: (vb, vaO (.pointer (some ⟨lb, 0, none⟩)) mb ((inc : Nat) : Int)) :: (mb, .map es ck) :: (lb, lgO d q down) :: (d, dkO s n p k) :: (s, dkS B) :: []) w1)
    refine J.pr (fun hF => ?_)
    refine J.assign rfl rfl ?_
    refine J.nil ?_
    refine JX.thenN (hK3 _ _ ?_)
    refine JC.seq (fun K4 hK4 => ?_)
    refine JC.block ?_
    refine JC.seq (fun K5 hK5 => ?_)
    refine JC.region ?_
    refine J.move rfl rfl ?_
    refine J.lenS rfl Ty.u26 rfl rfl ?_
    refine J.bin rfl rfl rfl rfl ?_
    refine J.assign rfl rfl ?_
    refine J.nil ?_
    refine JX.thenN (hK5 _ _ ?_)
    refine JC.cond rfl (fun h1 => ?_) (fun h1 => ?_)
    · skip
      have hg : vputP n q down ⟨B, p, k⟩ (L.map HI.it) key val who = (4, none, q, down, ⟨B, p, k⟩) := by unfold vputP; rw [if_pos (by simp at h1; omega)]
      refine JC.seq (fun K6 hK6 => ?_)
      refine JC.region ?_
      refine J.buildS (cs := cH zH) Ty.pl28 Ty.zIt rfl (by kernel_rfl) rfl ?_
      refine J.storeW (cs := cH zH) (vs := cH zH) Ty.s28 rfl rfl rfl rfl rfl (one_cH (x := zH) rfl) (by repeat first | exact .here | apply Up.there) ?_
      refine J.assign rfl rfl ?_
      refine J.nil ?_
      refine JX.thenN (hK6 _ _ ?_)
      refine JC.ret ?_
      refine JX.blockR ?_
      refine JX.thenR ?_
      refine JX.retCT (vs := cH zH) rfl rfl rfl Ty.a28 Ty.s28 rfl (fun w1 hw => Cells.of_block (hw.own ((b8, cb (cH zH) 28)) (by repeat first | exact .head _ | apply List.Mem.tail | apply List.mem_append_right)) rfl) (fun w1 hw => ?_)
      exact ⟨.bad 4 q down ⟨B, p, k⟩, rfl, ⟨hg, by decide⟩, (hw.perm (by (refine perm_cnt (fun _ => ?_)); simp only [cntB_append, cntB_cons, cntB_nil, Nat.add_zero, Nat.zero_add]; try ac_rfl : List.Perm _ ([(b8, cb (cH zH) 28), (b7, cb (cI who) 23), (b5, cb (cI key) 23)] ++ (vltB vb mb lb d s n q down inc es ck ⟨B, p, k⟩)))).drop (List.sublist_append_right _ _)⟩
    · skip
      have hv64 : ¬ 64 < val.length := by simp at h1; omega
      refine JC.seq (fun K7 hK7 => ?_)
      refine JC.region ?_
      refine J.move rfl rfl ?_
      refine J.bin rfl rfl rfl rfl ?_
      refine J.assign rfl rfl ?_
      refine J.nil ?_
      refine JX.thenN (hK7 _ _ ?_)
      refine JC.cond rfl (fun h2 => ?_) (fun h2 => ?_)
      · skip
        have hg : vputP n q down ⟨B, p, k⟩ (L.map HI.it) key val who = (5, none, q, down, ⟨B, p, k⟩) := by unfold vputP; rw [if_neg hv64, verN_it, hO, if_pos (by simpa using h2)]
        refine JC.seq (fun K8 hK8 => ?_)
        refine JC.region ?_
        refine J.buildS (cs := cH zH) Ty.pl28 Ty.zIt rfl (by kernel_rfl) rfl ?_
        refine J.storeW (cs := cH zH) (vs := cH zH) Ty.s28 rfl rfl rfl rfl rfl (one_cH (x := zH) rfl) (by repeat first | exact .here | apply Up.there) ?_
        refine J.assign rfl rfl ?_
        refine J.nil ?_
        refine JX.thenN (hK8 _ _ ?_)
        refine JC.ret ?_
        refine JX.blockR ?_
        refine JX.thenR ?_
        refine JX.retCT (vs := cH zH) rfl rfl rfl Ty.a28 Ty.s28 rfl (fun w1 hw => Cells.of_block (hw.own ((b8, cb (cH zH) 28)) (by repeat first | exact .head _ | apply List.Mem.tail | apply List.mem_append_right)) rfl) (fun w1 hw => ?_)
        exact ⟨.bad 5 q down ⟨B, p, k⟩, rfl, ⟨hg, by decide⟩, (hw.perm (by (refine perm_cnt (fun _ => ?_)); simp only [cntB_append, cntB_cons, cntB_nil, Nat.add_zero, Nat.zero_add]; try ac_rfl : List.Perm _ ([(b8, cb (cH zH) 28), (b7, cb (cI who) 23), (b5, cb (cI key) 23)] ++ (vltB vb mb lb d s n q down inc es ck ⟨B, p, k⟩)))).drop (List.sublist_append_right _ _)⟩
      · skip
        have hne : ¬ O.ver.n = 4611686018427387903 := by simpa using h2
        refine JC.skip ?_
        refine JX.blockN ?_
        refine JX.thenN (hK4 _ _ ?_)
        refine JC.seq (fun K9 hK9 => ?_)
        refine JC.region ?_
        refine J.loadA (vs := cI key) Ty.a23 Ty.s23 rfl rfl (fun w1 hw => Cells.of_block (hw.own ((b5, cb (cI key) 23)) (by repeat first | exact .head _ | apply List.Mem.tail | apply List.mem_append_right)) rfl) rfl ?_
        refine J.move rfl rfl ?_
        refine J.addN rfl rfl (by omega) (by omega) rfl ?_
        refine J.loadA (vs := cI who) Ty.a23 Ty.s23 rfl rfl (fun w1 hw => Cells.of_block (hw.own ((b7, cb (cI who) 23)) (by repeat first | exact .head _ | apply List.Mem.tail | apply List.mem_append_right)) rfl) rfl ?_
        refine J.buildS (cs := cV ⟨O.ver.n + 1, who⟩) Ty.pl25 Ty.zVr rfl (by kernel_rfl) rfl ?_
        refine J.move rfl rfl ?_
        refine J.buildS (cs := cT key ⟨O.ver.n + 1, who⟩ (.slice a val.length c)) Ty.pl28 Ty.zIt rfl (by kernel_rfl) rfl ?_
        refine J.perm ([] ++ ((b8, cb (cH zH) 28) :: (b7, cb (cI who) 23) :: (b5, cb (cI key) 23) :: (vb, vaO (.pointer (some ⟨lb, 0, none⟩)) mb ((inc : Nat) : Int)) :: (mb, .map es ck) :: (lb, lgO d q down) :: (d, dkO s n p k) :: (s, dkS B) :: [])) (.refl _) ?_
        refine J.callS (α := Value × List (Nat × Obj)) (V := fun y => .agg (cT key ⟨O.ver.n + 1, who⟩ y.1).toArray) (Pr := fun y => Vec 5 1 y.1 (val).length ((val).map u8) y.2) (L := (·.2)) (l1 := []) Ty.bd47 rfl rfl (fun w1 hw => copied_spec (cT key ⟨O.ver.n + 1, who⟩ (.slice a val.length c)) key ⟨O.ver.n + 1, who⟩ val _ w1 rfl (hrv.st hoff hw) (by omega)) (fun y hv40 => ?_)
        obtain ⟨v40, l40⟩ := y
        try simp only at hv40 ⊢
        obtain ⟨a40, c40, rfl, hc40⟩ := hv40.form
        refine J.alloc Ty.zIt rfl rfl (fun b11 => ?_)
        refine J.storeW (cs := cH zH) (vs := cT key ⟨O.ver.n + 1, who⟩ (.slice a40 val.length c40)) Ty.s28 rfl rfl rfl rfl rfl one_cT .here ?_
        refine J.perm ((b11, cb (cT key ⟨O.ver.n + 1, who⟩ (.slice a40 val.length c40)) 28) :: (b8, cb (cH zH) 28) :: (b7, cb (cI who) 23) :: (b5, cb (cI key) 23) :: (l40 ++ ((vb, vaO (.pointer (some ⟨lb, 0, none⟩)) mb ((inc : Nat) : Int)) :: (mb, .map es ck) :: (lb, lgO d q down) :: (d, dkO s n p k) :: (s, dkS B) :: []))) (by (refine perm_cnt (fun _ => ?_)); simp only [cntB_append, cntB_cons, cntB_nil, Nat.add_zero, Nat.zero_add]; try ac_rfl) ?_
        refine J.nil ?_
        refine JX.thenN (hK9 _ _ ?_)
        refine JC.seq (fun K10 hK10 => ?_)
        refine JC.seq (fun K11 hK11 => ?_)
        apply JC.drawX (α := Value × List (Nat × Obj)) 6 (fun x => match x with | ⟨v46, l46⟩ => [.pointer (some ⟨vb, 0, none⟩), .pointer (some ⟨vb, 0, none⟩), .pointer (some ⟨vb, 0 + 0, none⟩), .pointer (some ⟨lb, 0, none⟩), .agg (cT key ⟨O.ver.n + 1, who⟩ (.slice a40 val.length c40)).toArray, v46]) (fun m x => match x with | ⟨v46, l46⟩ => fun w1 => ((m 5 = true → Vec 5 1 v46 (formB ⟨key, ⟨O.ver.n + 1, who⟩, val⟩).length ((formB ⟨key, ⟨O.ver.n + 1, who⟩, val⟩).map u8) l46)) ∧ St w [vb, mb, lb, d, s] ((bif m 5 then l46 else []) ++ ((b11, cb (cT key ⟨O.ver.n + 1, who⟩ (.slice a40 val.length c40)) 28) :: (b8, cb (cH zH) 28) :: (b7, cb (cI who) 23) :: (b5, cb (cI key) 23) :: (l40 ++ ((vb, vaO (.pointer (some ⟨lb, 0, none⟩)) mb ((inc : Nat) : Int)) :: (mb, .map es ck) :: (lb, lgO d q down) :: (d, dkO s n p k) :: (s, dkS B) :: [])))) w1) Ty.mixed rfl rfl rfl (by kernel_rfl) rfl rfl ?hinit ?hstep ?htail
        case hinit => exact fun w1 hw => ⟨(.slice none 0 0, []), fun h => (by cases h), hw.drew⟩
        case hstep =>
          refine ⟨fun m x hm hp => ?_, fun m x hm hp => ?_, fun m x hm hp => ?_, fun m x hm hp => ?_, fun m x hm hp => ?_, fun m x hm hp => ?_, trivial⟩
          · skip
            obtain ⟨v46, l46⟩ := x
            show J _ _ _ _ _ (_) _
            refine J.pr (fun hF => ?_)
            refine J.move rfl rfl ?_
            exact J.finX rfl (fun _ hw => ⟨⟨v46, l46⟩, rfl, fun _ _ _ => rfl, hF, hw⟩)
          · skip
            obtain ⟨v46, l46⟩ := x
            show J _ _ _ _ _ ((41, .pointer (some ⟨vb, 0, none⟩)) :: _) _
            refine J.pr (fun hF => ?_)
            refine J.nilCheck rfl rfl ?_
            exact J.finX rfl (fun _ hw => ⟨⟨v46, l46⟩, rfl, fun _ _ _ => rfl, hF, hw⟩)
          · skip
            obtain ⟨v46, l46⟩ := x
            show J _ _ _ _ _ ((42, .pointer (some ⟨vb, 0, none⟩)) :: _) _
            refine J.pr (fun hF => ?_)
            refine J.fieldAddr Ty.fd99_0 rfl rfl ?_
            exact J.finX rfl (fun _ hw => ⟨⟨v46, l46⟩, rfl, fun _ _ _ => rfl, hF, hw⟩)
          · skip
            obtain ⟨v46, l46⟩ := x
            show J _ _ _ _ _ ((43, .pointer (some ⟨vb, 0 + 0, none⟩)) :: _) _
            refine J.pr (fun hF => ?_)
            refine J.load1 (v := .pointer (some ⟨lb, 0, none⟩)) Ty.a94 rfl (fun w1 hw => by rw [cell_of (hw.own ((vb, vaO (.pointer (some ⟨lb, 0, none⟩)) mb ((inc : Nat) : Int))) (by repeat first | exact .head _ | apply List.Mem.tail | apply List.mem_append_right))]; rfl) rfl ?_
            exact J.finX rfl (fun _ hw => ⟨⟨v46, l46⟩, rfl, fun _ _ _ => rfl, hF, hw⟩)
          · skip
            obtain ⟨v46, l46⟩ := x
            show J _ _ _ _ _ (_) _
            refine J.pr (fun hF => ?_)
            refine J.loadA (vs := cT key ⟨O.ver.n + 1, who⟩ (.slice a40 val.length c40)) Ty.a28 Ty.s28 rfl rfl (fun w1 hw => Cells.of_block (hw.own ((b11, cb (cT key ⟨O.ver.n + 1, who⟩ (.slice a40 val.length c40)) 28)) (by repeat first | exact .head _ | apply List.Mem.tail | apply List.mem_append_right)) rfl) rfl ?_
            exact J.finX rfl (fun _ hw => ⟨⟨v46, l46⟩, rfl, fun _ _ _ => rfl, hF, hw⟩)
          · skip
            obtain ⟨v46, l46⟩ := x
            show J _ _ _ _ _ ((45, .agg (cT key ⟨O.ver.n + 1, who⟩ (.slice a40 val.length c40)).toArray) :: _) _
            refine J.pr (fun hF => ?_)
            refine J.conseq (I' := St w [vb, mb, lb, d, s] ((b11, cb (cT key ⟨O.ver.n + 1, who⟩ (.slice a40 val.length c40)) 28) :: (b8, cb (cH zH) 28) :: (b7, cb (cI who) 23) :: (b5, cb (cI key) 23) :: (l40 ++ ((vb, vaO (.pointer (some ⟨lb, 0, none⟩)) mb ((inc : Nat) : Int)) :: (mb, .map es ck) :: (lb, lgO d q down) :: (d, dkO s n p k) :: (s, dkS B) :: [])))) ?_ (fun w1 hw => by simp only [hm, cond_false, List.nil_append] at hw; exact hw)
            refine J.perm ([] ++ ((b11, cb (cT key ⟨O.ver.n + 1, who⟩ (.slice a40 val.length c40)) 28) :: (b8, cb (cH zH) 28) :: (b7, cb (cI who) 23) :: (b5, cb (cI key) 23) :: (l40 ++ ((vb, vaO (.pointer (some ⟨lb, 0, none⟩)) mb ((inc : Nat) : Int)) :: (mb, .map es ck) :: (lb, lgO d q down) :: (d, dkO s n p k) :: (s, dkS B) :: [])))) (.refl _) ?_
            refine J.callS (α := Value × List (Nat × Obj)) (V := (·.1)) (Pr := fun xo => Vec 5 1 xo.1 (formB ⟨key, ⟨O.ver.n + 1, who⟩, val⟩).length ((formB ⟨key, ⟨O.ver.n + 1, who⟩, val⟩).map u8) xo.2) (L := (·.2)) (l1 := []) Ty.bd11 rfl rfl (fun w1 hw => form_spec (cT key ⟨O.ver.n + 1, who⟩ (.slice a40 val.length c40)) key ⟨O.ver.n + 1, who⟩ val _ w1 rfl (vec_rowM hv40 hw (fun q hq => by simp [hq])) (by omega) (by simp only; omega) (by simp only; omega)) (fun xo hvn => ?_)
            obtain ⟨vn, ln⟩ := xo
            try simp only at hvn ⊢
            refine J.nil (JX.finB rfl (fun w1 hw => ⟨⟨⟨vn, ln⟩, rfl, fun j h1 h2 => ?_, ?_⟩, trivial⟩))
            · match j, h1 with
              | 0, _ => (first | rfl | trivial)
              | 1, _ => (first | rfl | trivial)
              | 2, _ => (first | rfl | trivial)
              | 3, _ => (first | rfl | trivial)
              | 4, _ => (first | rfl | trivial)
              | 5, _ => exact absurd (h2.symm.trans hm) (by decide)
              | j + 6, h1 => omega
            show ((true = true → Vec 5 1 vn (formB ⟨key, ⟨O.ver.n + 1, who⟩, val⟩).length ((formB ⟨key, ⟨O.ver.n + 1, who⟩, val⟩).map u8) ln)) ∧ St w [vb, mb, lb, d, s] ((bif true then ln else []) ++ ((b11, cb (cT key ⟨O.ver.n + 1, who⟩ (.slice a40 val.length c40)) 28) :: (b8, cb (cH zH) 28) :: (b7, cb (cI who) 23) :: (b5, cb (cI key) 23) :: (l40 ++ ((vb, vaO (.pointer (some ⟨lb, 0, none⟩)) mb ((inc : Nat) : Int)) :: (mb, .map es ck) :: (lb, lgO d q down) :: (d, dkO s n p k) :: (s, dkS B) :: [])))) w1
            simp only [cond_true] at hw ⊢
            exact ⟨fun _ => hvn, hw⟩
        case htail =>
          intro x
          obtain ⟨v46, l46⟩ := x
          show J _ _ _ _ _ ((46, v46) :: (45, .agg (cT key ⟨O.ver.n + 1, who⟩ (.slice a40 val.length c40)).toArray) :: (44, .pointer (some ⟨lb, 0, none⟩)) :: (43, .pointer (some ⟨vb, 0 + 0, none⟩)) :: (42, .pointer (some ⟨vb, 0, none⟩)) :: (41, .pointer (some ⟨vb, 0, none⟩)) :: _) (fun w1 => ((true = true → Vec 5 1 v46 (formB ⟨key, ⟨O.ver.n + 1, who⟩, val⟩).length ((formB ⟨key, ⟨O.ver.n + 1, who⟩, val⟩).map u8) l46)) ∧ St w [vb, mb, lb, d, s] ((bif true then l46 else []) ++ ((b11, cb (cT key ⟨O.ver.n + 1, who⟩ (.slice a40 val.length c40)) 28) :: (b8, cb (cH zH) 28) :: (b7, cb (cI who) 23) :: (b5, cb (cI key) 23) :: (l40 ++ ((vb, vaO (.pointer (some ⟨lb, 0, none⟩)) mb ((inc : Nat) : Int)) :: (mb, .map es ck) :: (lb, lgO d q down) :: (d, dkO s n p k) :: (s, dkS B) :: [])))) w1)
          refine J.pr (fun hF => ?_)
          have hv46 := hF rfl
          have hfl := formB_le ⟨key, ⟨O.ver.n + 1, who⟩, val⟩
          try simp only at hfl
          obtain ⟨a46, c46, rfl, hc46⟩ := hv46.form
          refine J.conseq (I' := St w [vb, mb, lb, d, s] (l46 ++ ((b11, cb (cT key ⟨O.ver.n + 1, who⟩ (.slice a40 val.length c40)) 28) :: (b8, cb (cH zH) 28) :: (b7, cb (cI who) 23) :: (b5, cb (cI key) 23) :: (l40 ++ ((vb, vaO (.pointer (some ⟨lb, 0, none⟩)) mb ((inc : Nat) : Int)) :: (mb, .map es ck) :: (lb, lgO d q down) :: (d, dkO s n p k) :: (s, dkS B) :: []))))) ?_ (fun w1 hw => by simp only [cond_true] at hw; exact hw)
          obtain ⟨⟨e9, q9, dn9, σ9⟩, hx9⟩ : ∃ x, appendP n q down ⟨B, p, k⟩ (formB ⟨key, ⟨O.ver.n + 1, who⟩, val⟩) = x := ⟨_, rfl⟩
          refine J.perm ([(lb, lgO d q down), (d, dkO s n p k), (s, dkS B)] ++ (l46 ++ ((b11, cb (cT key ⟨O.ver.n + 1, who⟩ (.slice a40 val.length c40)) 28) :: (b8, cb (cH zH) 28) :: (b7, cb (cI who) 23) :: (b5, cb (cI key) 23) :: (l40 ++ ((vb, vaO (.pointer (some ⟨lb, 0, none⟩)) mb ((inc : Nat) : Int)) :: (mb, .map es ck) :: []))))) (by (refine perm_cnt (fun _ => ?_)); simp only [cntB_append, cntB_cons, cntB_nil, Nat.add_zero, Nat.zero_add]; try ac_rfl) ?_
          refine J.callT (v := .int .i64 e9) (L := [(lb, lgO d q9 dn9), (d, dkO s n σ9.p σ9.k), (s, dkS σ9.B)]) Ty.bd46 rfl rfl (fun w1 hw => append_all lb d s n q down B (formB ⟨key, ⟨O.ver.n + 1, who⟩, val⟩) p k a46 _ c46 w1 (St.owns hw) hI.len hn hn3 hgl hul hcl_ hk hk2 hI.p rfl (by omega) (vec_rowM hv46 hw (fun q hq => by simp [hq])) (vec_offM hv46 (fun p0 hp0 => St.off (l1 := [(lb, lgO d q down), (d, dkO s n p k), (s, dkS B)]) hw (o := p0.2) (by simp [hp0]))) hx9) ?_
          refine J.perm ((b11, cb (cT key ⟨O.ver.n + 1, who⟩ (.slice a40 val.length c40)) 28) :: (b8, cb (cH zH) 28) :: (b7, cb (cI who) 23) :: (b5, cb (cI key) 23) :: (vb, vaO (.pointer (some ⟨lb, 0, none⟩)) mb ((inc : Nat) : Int)) :: (mb, .map es ck) :: (lb, lgO d q9 dn9) :: (d, dkO s n σ9.p σ9.k) :: (s, dkS σ9.B) :: (l46 ++ l40)) (by (refine perm_cnt (fun _ => ?_)); simp only [cntB_append, cntB_cons, cntB_nil, Nat.add_zero, Nat.zero_add]; try ac_rfl) ?_
          refine J.assign rfl rfl ?_
          refine J.nil ?_
          refine JX.thenN (hK11 _ _ ?_)
          refine JC.seq (fun K12 hK12 => ?_)
          refine JC.region ?_
          refine J.move rfl rfl ?_
          refine J.bin rfl rfl rfl rfl ?_
          refine J.nil ?_
          refine JX.thenN (hK12 _ _ ?_)
          refine JC.cond rfl (fun h3 => ?_) (fun h3 => ?_)
          · skip
            have he9 : e9 ≠ 0 := by simpa using h3
            have hg : vputP n q down ⟨B, p, k⟩ (L.map HI.it) key val who = (e9, none, q9, dn9, σ9) := by unfold vputP; rw [if_neg hv64, verN_it, hO, if_neg hne, hx9]; simp only; rw [if_neg he9]
            refine JC.seq (fun K13 hK13 => ?_)
            refine JC.region ?_
            refine J.buildS (cs := cH zH) Ty.pl28 Ty.zIt rfl (by kernel_rfl) rfl ?_
            refine J.move rfl rfl ?_
            refine J.storeW (cs := cH zH) (vs := cH zH) Ty.s28 rfl rfl rfl rfl rfl (one_cH (x := zH) rfl) (by repeat first | exact .here | apply Up.there) ?_
            refine J.assign rfl rfl ?_
            refine J.nil ?_
            refine JX.thenN (hK13 _ _ ?_)
            refine JC.ret ?_
            refine JX.thenR ?_
            refine JX.retCT (vs := cH zH) rfl rfl rfl Ty.a28 Ty.s28 rfl (fun w1 hw => Cells.of_block (hw.own ((b8, cb (cH zH) 28)) (by repeat first | exact .head _ | apply List.Mem.tail | apply List.mem_append_right)) rfl) (fun w1 hw => ?_)
            exact ⟨.bad e9 q9 dn9 σ9, rfl, ⟨hg, he9⟩, (hw.perm (by (refine perm_cnt (fun _ => ?_)); simp only [cntB_append, cntB_cons, cntB_nil, Nat.add_zero, Nat.zero_add]; try ac_rfl : List.Perm _ (((b11, cb (cT key ⟨O.ver.n + 1, who⟩ (.slice a40 val.length c40)) 28) :: (b8, cb (cH zH) 28) :: (b7, cb (cI who) 23) :: (b5, cb (cI key) 23) :: (l46 ++ l40)) ++ (vltB vb mb lb d s n q9 dn9 inc es ck σ9)))).drop (List.sublist_append_right _ _)⟩
          · skip
            have he9 : e9 = 0 := by simpa using h3
            have hg : vputP n q down ⟨B, p, k⟩ (L.map HI.it) key val who = (0, some ⟨key, ⟨O.ver.n + 1, who⟩, val⟩, q9, dn9, σ9) := by unfold vputP; rw [if_neg hv64, verN_it, hO, if_neg hne, hx9]; simp only; rw [if_pos he9]
            refine JC.skip ?_
            refine JX.thenN (hK10 _ _ ?_)
            refine JC.seq (fun K14 hK14 => ?_)
            apply JC.drawX (α := Nat × Unit) 6 (fun x => match x with | ⟨xu, uu⟩ => [.pointer (some ⟨vb, 0, none⟩), .pointer (some ⟨vb, 0, none⟩), .pointer (some ⟨vb, 0 + 1, none⟩), .map (some mb), .agg (cI key).toArray, .agg (cT key ⟨O.ver.n + 1, who⟩ (.slice a40 val.length c40)).toArray]) (fun m x => match x with | ⟨xu, uu⟩ => fun w1 => (True) ∧ St w [vb, mb, lb, d, s] ((b11, cb (cT key ⟨O.ver.n + 1, who⟩ (.slice a40 val.length c40)) 28) :: (b8, cb (cH zH) 28) :: (b7, cb (cI who) 23) :: (b5, cb (cI key) 23) :: (vb, vaO (.pointer (some ⟨lb, 0, none⟩)) mb ((inc : Nat) : Int)) :: (mb, .map es ck) :: (lb, lgO d q9 dn9) :: (d, dkO s n σ9.p σ9.k) :: (s, dkS σ9.B) :: (l46 ++ l40)) w1) Ty.mixed rfl rfl rfl (by kernel_rfl) rfl rfl ?hinit ?hstep ?htail
            case hinit => exact fun w1 hw => ⟨(0, ()), trivial, hw.drew⟩
            case hstep =>
              refine ⟨fun m x hm hp => ?_, fun m x hm hp => ?_, fun m x hm hp => ?_, fun m x hm hp => ?_, fun m x hm hp => ?_, fun m x hm hp => ?_, trivial⟩
              · skip
                obtain ⟨xu, uu⟩ := x
                show J _ _ _ _ _ (_) _
                refine J.pr (fun hF => ?_)
                refine J.move rfl rfl ?_
                exact J.finX rfl (fun _ hw => ⟨⟨xu, uu⟩, rfl, fun _ _ _ => rfl, hF, hw⟩)
              · skip
                obtain ⟨xu, uu⟩ := x
                show J _ _ _ _ _ ((52, .pointer (some ⟨vb, 0, none⟩)) :: _) _
                refine J.pr (fun hF => ?_)
                refine J.nilCheck rfl rfl ?_
                exact J.finX rfl (fun _ hw => ⟨⟨xu, uu⟩, rfl, fun _ _ _ => rfl, hF, hw⟩)
              · skip
                obtain ⟨xu, uu⟩ := x
                show J _ _ _ _ _ ((53, .pointer (some ⟨vb, 0, none⟩)) :: _) _
                refine J.pr (fun hF => ?_)
                refine J.fieldAddr Ty.fd99_1 rfl rfl ?_
                exact J.finX rfl (fun _ hw => ⟨⟨xu, uu⟩, rfl, fun _ _ _ => rfl, hF, hw⟩)
              · skip
                obtain ⟨xu, uu⟩ := x
                show J _ _ _ _ _ ((54, .pointer (some ⟨vb, 0 + 1, none⟩)) :: _) _
                refine J.pr (fun hF => ?_)
                refine J.load1 (v := .map (some mb)) Ty.a97 rfl (fun w1 hw => by rw [cell_of (hw.own ((vb, vaO (.pointer (some ⟨lb, 0, none⟩)) mb ((inc : Nat) : Int))) (by repeat first | exact .head _ | apply List.Mem.tail | apply List.mem_append_right))]; rfl) rfl ?_
                exact J.finX rfl (fun _ hw => ⟨⟨xu, uu⟩, rfl, fun _ _ _ => rfl, hF, hw⟩)
              · skip
                obtain ⟨xu, uu⟩ := x
                show J _ _ _ _ _ (_) _
                refine J.pr (fun hF => ?_)
                refine J.loadA (vs := cI key) Ty.a23 Ty.s23 rfl rfl (fun w1 hw => Cells.of_block (hw.own ((b5, cb (cI key) 23)) (by repeat first | exact .head _ | apply List.Mem.tail | apply List.mem_append_right)) rfl) rfl ?_
                exact J.finX rfl (fun _ hw => ⟨⟨xu, uu⟩, rfl, fun _ _ _ => rfl, hF, hw⟩)
              · skip
                obtain ⟨xu, uu⟩ := x
                show J _ _ _ _ _ (_) _
                refine J.pr (fun hF => ?_)
                refine J.loadA (vs := cT key ⟨O.ver.n + 1, who⟩ (.slice a40 val.length c40)) Ty.a28 Ty.s28 rfl rfl (fun w1 hw => Cells.of_block (hw.own ((b11, cb (cT key ⟨O.ver.n + 1, who⟩ (.slice a40 val.length c40)) 28)) (by repeat first | exact .head _ | apply List.Mem.tail | apply List.mem_append_right)) rfl) rfl ?_
                exact J.finX rfl (fun _ hw => ⟨⟨xu, uu⟩, rfl, fun _ _ _ => rfl, hF, hw⟩)
            case htail =>
              intro x
              obtain ⟨xu, uu⟩ := x
              show J _ _ _ _ _ ((57, .agg (cT key ⟨O.ver.n + 1, who⟩ (.slice a40 val.length c40)).toArray) :: (56, .agg (cI key).toArray) :: (55, .map (some mb)) :: (54, .pointer (some ⟨vb, 0 + 1, none⟩)) :: (53, .pointer (some ⟨vb, 0, none⟩)) :: (52, .pointer (some ⟨vb, 0, none⟩)) :: _) (fun w1 => (True) ∧ St w [vb, mb, lb, d, s] ((b11, cb (cT key ⟨O.ver.n + 1, who⟩ (.slice a40 val.length c40)) 28) :: (b8, cb (cH zH) 28) :: (b7, cb (cI who) 23) :: (b5, cb (cI key) 23) :: (vb, vaO (.pointer (some ⟨lb, 0, none⟩)) mb ((inc : Nat) : Int)) :: (mb, .map es ck) :: (lb, lgO d q9 dn9) :: (d, dkO s n σ9.p σ9.k) :: (s, dkS σ9.B) :: (l46 ++ l40)) w1)
              refine J.pr (fun hF => ?_)
              refine J.updV (xh := ⟨key, ⟨O.ver.n + 1, who⟩, val, .slice a40 val.length c40, l40⟩) (l' := fun es' c' => (b11, cb (cT key ⟨O.ver.n + 1, who⟩ (.slice a40 val.length c40)) 28) :: (b8, cb (cH zH) 28) :: (b7, cb (cI who) 23) :: (b5, cb (cI key) 23) :: (vb, vaO (.pointer (some ⟨lb, 0, none⟩)) mb ((inc : Nat) : Int)) :: (mb, .map es' c') :: (lb, lgO d q9 dn9) :: (d, dkO s n σ9.p σ9.k) :: (s, dkS σ9.B) :: (l46 ++ l40)) Ty.u97 Ty.KI Ty.keyI rfl rfl rfl hT (fun es' c' => (by repeat first | exact .here | apply Up.there)) (fun es2 ck2 hT2 => ?_)
              refine J.nil ?_
              refine JX.thenN (hK14 _ _ ?_)
              refine JC.seq (fun K15 hK15 => ?_)
              refine JC.region ?_
              refine J.loadA (vs := cT key ⟨O.ver.n + 1, who⟩ (.slice a40 val.length c40)) Ty.a28 Ty.s28 rfl rfl (fun w1 hw => Cells.of_block (hw.own ((b11, cb (cT key ⟨O.ver.n + 1, who⟩ (.slice a40 val.length c40)) 28)) (by repeat first | exact .head _ | apply List.Mem.tail | apply List.mem_append_right)) rfl) rfl ?_
              refine J.perm ([] ++ ((b11, cb (cT key ⟨O.ver.n + 1, who⟩ (.slice a40 val.length c40)) 28) :: (b8, cb (cH zH) 28) :: (b7, cb (cI who) 23) :: (b5, cb (cI key) 23) :: (vb, vaO (.pointer (some ⟨lb, 0, none⟩)) mb ((inc : Nat) : Int)) :: (mb, .map es2 ck2) :: (lb, lgO d q9 dn9) :: (d, dkO s n σ9.p σ9.k) :: (s, dkS σ9.B) :: (l46 ++ l40))) (.refl _) ?_
              refine J.callS (α := Value × List (Nat × Obj)) (V := fun y => .agg (cT key ⟨O.ver.n + 1, who⟩ y.1).toArray) (Pr := fun y => Vec 5 1 y.1 (val).length ((val).map u8) y.2) (L := (·.2)) (l1 := []) Ty.bd47 rfl rfl (fun w1 hw => copied_spec (cT key ⟨O.ver.n + 1, who⟩ (.slice a40 val.length c40)) key ⟨O.ver.n + 1, who⟩ val _ w1 rfl (vec_rowM hv40 hw (fun q hq => by simp [hq])) (by omega)) (fun y hv59 => ?_)
              obtain ⟨v59, l59⟩ := y
              try simp only at hv59 ⊢
              obtain ⟨a59, c59, rfl, hc59⟩ := hv59.form
              refine J.perm ((b8, cb (cH zH) 28) :: (l59 ++ ((b11, cb (cT key ⟨O.ver.n + 1, who⟩ (.slice a40 val.length c40)) 28) :: (b7, cb (cI who) 23) :: (b5, cb (cI key) 23) :: (vb, vaO (.pointer (some ⟨lb, 0, none⟩)) mb ((inc : Nat) : Int)) :: (mb, .map es2 ck2) :: (lb, lgO d q9 dn9) :: (d, dkO s n σ9.p σ9.k) :: (s, dkS σ9.B) :: (l46 ++ l40)))) (by (refine perm_cnt (fun _ => ?_)); simp only [cntB_append, cntB_cons, cntB_nil, Nat.add_zero, Nat.zero_add]; try ac_rfl) ?_
              refine J.storeW (cs := cH zH) (vs := cT key ⟨O.ver.n + 1, who⟩ (.slice a59 val.length c59)) Ty.s28 rfl rfl rfl rfl rfl one_cT .here ?_
              refine J.assign rfl rfl ?_
              refine J.nil ?_
              refine JX.thenN (hK15 _ _ ?_)
              refine JC.ret ?_
              refine JX.retCT (vs := cT key ⟨O.ver.n + 1, who⟩ (.slice a59 val.length c59)) rfl rfl rfl Ty.a28 Ty.s28 rfl (fun w1 hw => Cells.of_block (hw.own ((b8, cb (cT key ⟨O.ver.n + 1, who⟩ (.slice a59 val.length c59)) 28)) (by repeat first | exact .head _ | apply List.Mem.tail | apply List.mem_append_right)) rfl) (fun w1 hw => ?_)
              exact ⟨.ok ⟨key, ⟨O.ver.n + 1, who⟩, val, .slice a40 val.length c40, l40⟩ _ l59 es2 ck2 q9 dn9 σ9, rfl, ⟨hg, ⟨⟨by simp only; omega, by simp only; omega⟩, hv40⟩, hv59, hT2⟩, (hw.perm (by (refine perm_cnt (fun _ => ?_)); simp only [cntB_append, cntB_cons, cntB_nil, Nat.add_zero, Nat.zero_add]; try ac_rfl : List.Perm _ (((b8, cb (cT key ⟨O.ver.n + 1, who⟩ (.slice a59 val.length c59)) 28) :: (b11, cb (cT key ⟨O.ver.n + 1, who⟩ (.slice a40 val.length c40)) 28) :: (b7, cb (cI who) 23) :: (b5, cb (cI key) 23) :: l46) ++ ((vltB vb mb lb d s n q9 dn9 inc es2 ck2 σ9) ++ (l40 ++ l59))))).drop (List.sublist_append_right _ _)⟩

end Go.Proofs.Ytoaenmlhehcjfaa
/-
  The vault's Merge: contract.
-/
namespace Go.Proofs.Ytoaenmlhehcjfaa
open Go.J Go.RowKit
set_option linter.unusedVariables false
set_option linter.unusedSimpArgs false
set_option maxRecDepth 8000

set_option maxHeartbeats 2000000 in
theorem vmerge_spec (vb mb lb d s n inc : Nat) (q : LogP) (down : Bool) (B : List UInt8) (p k : Int) (L : List HI) (es : Array MapEntry) (ck : Nat) (hT : Vm L es ck) (hV : VOK L) (hI : LogI n q ⟨B, p, k⟩) (hn : n ≤ 4096) (hk : 0 ≤ k) (hk2 : k < 4611686018427380000) (xc : List Value) (key : IDV) (ver : WV) (bs : List UInt8) (sv : Value) (w : World) (hxc : xc = cT key ver sv) (hw0 : Own w (vltB vb mb lb d s n q down inc es ck ⟨B, p, k⟩)) (hb : Row w sv bs.length (bs.map u8)) (hoff : Off [vb, mb, lb, d, s] sv (bs.map u8)) (hlv : bs.length ≤ 140737488351232) :
    Calls Try.prog 19 [.pointer (some ⟨vb, 0, none⟩), .agg xc.toArray].toArray w fun r w' => ∃ z : MerR, r = .returned z.val ∧ z.Pr n q down ⟨B, p, k⟩ L ⟨key, ver, bs⟩ ∧ St w [vb, mb, lb, d, s] (z.lst vb mb lb d s n inc es ck) w' := by
  obtain ⟨hn3, hgl, hul, hcl_, hrl⟩ := openP_len hI.open_ hn
  obtain ⟨a, c, rfl, hc, _⟩ := id hb
  obtain ⟨O, hO⟩ : ∃ o, (hget L key).getD zH = o := ⟨_, rfl⟩
  obtain ⟨K, hK⟩ : ∃ o, (hget L key).isSome = o := ⟨_, rfl⟩
  obtain ⟨ao, co, hOs⟩ := hV.old key
  rw [hO] at hOs
  have hon := hV.okn key
  rw [hO] at hon
  obtain ⟨hon1, hon2⟩ := hon
  refine calls_of_J (args := [.pointer (some ⟨vb, 0, none⟩), .agg xc.toArray]) (e := [(0, .pointer (some ⟨vb, 0, none⟩)), (1, .agg xc.toArray)]) Try.func19 rfl rfl ⟨rfl, rfl, trivial⟩ (hw0.st) ?_
  refine JC.seq (fun K0 hK0 => ?_)
  refine JC.region ?_
  refine J.box rfl rfl rfl (fun b3 => ?_)
  refine J.assign rfl rfl ?_
  refine J.assign rfl rfl ?_
  refine J.nil ?_
  refine JX.thenN (hK0 _ _ ?_)
  refine JC.seq (fun K1 hK1 => ?_)
  refine JC.block ?_
  refine JC.seq (fun K2 hK2 => ?_)
  subst hxc
  by_cases xa : ver.n < 1
  · skip
    have hg : vmergeP n q down ⟨B, p, k⟩ (L.map HI.it) ⟨key, ver, bs⟩ = (false, 1, q, down, ⟨B, p, k⟩) := by unfold vmergeP; rw [if_pos (.inl xa)]
    refine JC.region ?_
    refine J.move rfl rfl ?_
    refine J.eqNil Ty.u38 rfl rfl rfl ?_
    refine J.move rfl rfl ?_
    first | refine J.skip rfl rfl rfl rfl rfl ?_ | refine J.skipU rfl rfl rfl rfl ?_ | (refine J.unguard rfl rfl rfl ?_; refine J.fieldAddr Ty.fd28_1 rfl rfl ?_)
    first | refine J.skip rfl rfl rfl rfl rfl ?_ | refine J.skipU rfl rfl rfl rfl ?_ | (refine J.unguard rfl rfl rfl ?_; refine J.fieldAddr Ty.fd25_0 rfl rfl ?_)
    refine J.unguard rfl rfl rfl ?_
    refine J.load1 (v := .int .i64 ver.n) Ty.a2 rfl (fun w1 hw => by rw [cell_of (hw.own ((b3, cb (cT key ver (.slice a bs.length c)) 28)) (by repeat first | exact .head _ | apply List.Mem.tail | apply List.mem_append_right))]; rfl) rfl ?_
    refine J.unguard rfl rfl rfl ?_
    refine J.bin rfl rfl rfl rfl ?_
    refine J.name 16 rfl (show _ = Value.bool true by simp; omega) ?_
    (first | refine J.pickT rfl rfl rfl ?_ | refine J.pickF rfl rfl rfl ?_)
    refine J.move rfl rfl ?_
    first | refine J.skip rfl rfl rfl rfl rfl ?_ | refine J.skipU rfl rfl rfl rfl ?_ | (refine J.unguard rfl rfl rfl ?_; refine J.fieldAddr Ty.fd28_1 rfl rfl ?_)
    first | refine J.skip rfl rfl rfl rfl rfl ?_ | refine J.skipU rfl rfl rfl rfl ?_ | (refine J.unguard rfl rfl rfl ?_; refine J.fieldAddr Ty.fd25_0 rfl rfl ?_)
    first | refine J.skip rfl rfl rfl rfl rfl ?_ | refine J.skipU rfl rfl rfl rfl ?_ | (refine J.unguard rfl rfl rfl ?_; refine J.loadO Ty.a2 rfl (by repeat first | exact .head _ | apply List.Mem.tail | apply List.mem_append_right) (by exact rfl) rfl ?_)
    first | refine J.skip rfl rfl rfl rfl rfl ?_ | refine J.skipU rfl rfl rfl rfl ?_ | (refine J.unguard rfl rfl rfl ?_; refine J.bin rfl rfl rfl rfl ?_)
    (first | refine J.pickT rfl rfl rfl ?_ | refine J.pickF rfl rfl rfl ?_)
    refine J.assign rfl rfl ?_
    refine J.nil ?_
    refine JX.thenN (hK2 _ _ ?_)
    first | refine JC.condT rfl ?_ | refine JC.cond rfl (fun _ => ?_) (fun h => by first | (exfalso; simp at h; omega) | (simp at h))
    refine JC.seq (fun K3 hK3 => ?_)
    refine JC.region ?_
    refine J.assign rfl rfl ?_
    refine J.assign rfl rfl ?_
    refine J.nil ?_
    refine JX.thenN (hK3 _ _ ?_)
    refine JC.ret ?_
    refine JX.blockR ?_
    refine JX.thenR ?_
    refine JX.ret2 rfl rfl rfl (fun w1 hw => ?_)
    exact ⟨.no 1 q down ⟨B, p, k⟩, rfl, hg, (hw.perm (by (refine perm_cnt (fun _ => ?_)); simp only [cntB_append, cntB_cons, cntB_nil, Nat.add_zero, Nat.zero_add]; try ac_rfl : List.Perm _ ([(b3, cb (cT key ver (.slice a bs.length c)) 28)] ++ (vltB vb mb lb d s n q down inc es ck ⟨B, p, k⟩)))).drop (List.sublist_append_right _ _)⟩
  · skip
    by_cases xb : 4611686018427387904 ≤ ver.n
    · skip
      have hg : vmergeP n q down ⟨B, p, k⟩ (L.map HI.it) ⟨key, ver, bs⟩ = (false, 1, q, down, ⟨B, p, k⟩) := by unfold vmergeP; rw [if_pos (.inr xb)]
      refine JC.region ?_
      refine J.move rfl rfl ?_
      refine J.eqNil Ty.u38 rfl rfl rfl ?_
      refine J.move rfl rfl ?_
      first | refine J.skip rfl rfl rfl rfl rfl ?_ | refine J.skipU rfl rfl rfl rfl ?_ | (refine J.unguard rfl rfl rfl ?_; refine J.fieldAddr Ty.fd28_1 rfl rfl ?_)
      first | refine J.skip rfl rfl rfl rfl rfl ?_ | refine J.skipU rfl rfl rfl rfl ?_ | (refine J.unguard rfl rfl rfl ?_; refine J.fieldAddr Ty.fd25_0 rfl rfl ?_)
      refine J.unguard rfl rfl rfl ?_
      refine J.load1 (v := .int .i64 ver.n) Ty.a2 rfl (fun w1 hw => by rw [cell_of (hw.own ((b3, cb (cT key ver (.slice a bs.length c)) 28)) (by repeat first | exact .head _ | apply List.Mem.tail | apply List.mem_append_right))]; rfl) rfl ?_
      refine J.unguard rfl rfl rfl ?_
      refine J.bin rfl rfl rfl rfl ?_
      refine J.name 16 rfl (show _ = Value.bool false by simp; omega) ?_
      (first | refine J.pickT rfl rfl rfl ?_ | refine J.pickF rfl rfl rfl ?_)
      refine J.move rfl rfl ?_
      first | refine J.skip rfl rfl rfl rfl rfl ?_ | refine J.skipU rfl rfl rfl rfl ?_ | (refine J.unguard rfl rfl rfl ?_; refine J.fieldAddr Ty.fd28_1 rfl rfl ?_)
      first | refine J.skip rfl rfl rfl rfl rfl ?_ | refine J.skipU rfl rfl rfl rfl ?_ | (refine J.unguard rfl rfl rfl ?_; refine J.fieldAddr Ty.fd25_0 rfl rfl ?_)
      refine J.unguard rfl rfl rfl ?_
      refine J.load1 (v := .int .i64 ver.n) Ty.a2 rfl (fun w1 hw => by rw [cell_of (hw.own ((b3, cb (cT key ver (.slice a bs.length c)) 28)) (by repeat first | exact .head _ | apply List.Mem.tail | apply List.mem_append_right))]; rfl) rfl ?_
      refine J.unguard rfl rfl rfl ?_
      refine J.bin rfl rfl rfl rfl ?_
      refine J.name 22 rfl (show _ = Value.bool true by simp; omega) ?_
      (first | refine J.pickT rfl rfl rfl ?_ | refine J.pickF rfl rfl rfl ?_)
      refine J.assign rfl rfl ?_
      refine J.nil ?_
      refine JX.thenN (hK2 _ _ ?_)
      first | refine JC.condT rfl ?_ | refine JC.cond rfl (fun _ => ?_) (fun h => by first | (exfalso; simp at h; omega) | (simp at h))
      refine JC.seq (fun K4 hK4 => ?_)
      refine JC.region ?_
      refine J.assign rfl rfl ?_
      refine J.assign rfl rfl ?_
      refine J.nil ?_
      refine JX.thenN (hK4 _ _ ?_)
      refine JC.ret ?_
      refine JX.blockR ?_
      refine JX.thenR ?_
      refine JX.ret2 rfl rfl rfl (fun w1 hw => ?_)
      exact ⟨.no 1 q down ⟨B, p, k⟩, rfl, hg, (hw.perm (by (refine perm_cnt (fun _ => ?_)); simp only [cntB_append, cntB_cons, cntB_nil, Nat.add_zero, Nat.zero_add]; try ac_rfl : List.Perm _ ([(b3, cb (cT key ver (.slice a bs.length c)) 28)] ++ (vltB vb mb lb d s n q down inc es ck ⟨B, p, k⟩)))).drop (List.sublist_append_right _ _)⟩
    · skip
      have hor : ¬ (ver.n < 1 ∨ 4611686018427387904 ≤ ver.n) := by omega
      refine JC.region ?_
      refine J.move rfl rfl ?_
      refine J.eqNil Ty.u38 rfl rfl rfl ?_
      refine J.move rfl rfl ?_
      first | refine J.skip rfl rfl rfl rfl rfl ?_ | refine J.skipU rfl rfl rfl rfl ?_ | (refine J.unguard rfl rfl rfl ?_; refine J.fieldAddr Ty.fd28_1 rfl rfl ?_)
      first | refine J.skip rfl rfl rfl rfl rfl ?_ | refine J.skipU rfl rfl rfl rfl ?_ | (refine J.unguard rfl rfl rfl ?_; refine J.fieldAddr Ty.fd25_0 rfl rfl ?_)
      refine J.unguard rfl rfl rfl ?_
      refine J.load1 (v := .int .i64 ver.n) Ty.a2 rfl (fun w1 hw => by rw [cell_of (hw.own ((b3, cb (cT key ver (.slice a bs.length c)) 28)) (by repeat first | exact .head _ | apply List.Mem.tail | apply List.mem_append_right))]; rfl) rfl ?_
      refine J.unguard rfl rfl rfl ?_
      refine J.bin rfl rfl rfl rfl ?_
      refine J.name 16 rfl (show _ = Value.bool false by simp; omega) ?_
      (first | refine J.pickT rfl rfl rfl ?_ | refine J.pickF rfl rfl rfl ?_)
      refine J.move rfl rfl ?_
      first | refine J.skip rfl rfl rfl rfl rfl ?_ | refine J.skipU rfl rfl rfl rfl ?_ | (refine J.unguard rfl rfl rfl ?_; refine J.fieldAddr Ty.fd28_1 rfl rfl ?_)
      first | refine J.skip rfl rfl rfl rfl rfl ?_ | refine J.skipU rfl rfl rfl rfl ?_ | (refine J.unguard rfl rfl rfl ?_; refine J.fieldAddr Ty.fd25_0 rfl rfl ?_)
      refine J.unguard rfl rfl rfl ?_
      refine J.load1 (v := .int .i64 ver.n) Ty.a2 rfl (fun w1 hw => by rw [cell_of (hw.own ((b3, cb (cT key ver (.slice a bs.length c)) 28)) (by repeat first | exact .head _ | apply List.Mem.tail | apply List.mem_append_right))]; rfl) rfl ?_
      refine J.unguard rfl rfl rfl ?_
      refine J.bin rfl rfl rfl rfl ?_
      refine J.name 22 rfl (show _ = Value.bool false by simp; omega) ?_
      (first | refine J.pickT rfl rfl rfl ?_ | refine J.pickF rfl rfl rfl ?_)
      refine J.assign rfl rfl ?_
      refine J.nil ?_
      refine JX.thenN (hK2 _ _ ?_)
      first | refine JC.condF rfl ?_ | refine JC.cond rfl (fun h => by first | (exfalso; simp at h; omega) | (simp at h)) (fun _ => ?_)
      refine JC.seq (fun K5 hK5 => ?_)
      refine JC.region ?_
      refine J.fieldAddr Ty.fd28_2 rfl rfl ?_
      refine J.load1 (v := (.slice a bs.length c)) Ty.a26 rfl (fun w1 hw => by rw [cell_of (hw.own ((b3, cb (cT key ver (.slice a bs.length c)) 28)) (by repeat first | exact .head _ | apply List.Mem.tail | apply List.mem_append_right))]; rfl) rfl ?_
      refine J.lenS rfl Ty.u26 rfl rfl ?_
      refine J.bin rfl rfl rfl rfl ?_
      refine J.assign rfl rfl ?_
      refine J.nil ?_
      refine JX.thenN (hK5 _ _ ?_)
      refine JC.cond rfl (fun h1 => ?_) (fun h1 => ?_)
      · skip
        have hg : vmergeP n q down ⟨B, p, k⟩ (L.map HI.it) ⟨key, ver, bs⟩ = (false, 4, q, down, ⟨B, p, k⟩) := by unfold vmergeP; rw [if_neg hor, if_pos (show 64 < bs.length by simp at h1; omega)]
        refine JC.seq (fun K6 hK6 => ?_)
        refine JC.region ?_
        refine J.assign rfl rfl ?_
        refine J.assign rfl rfl ?_
        refine J.nil ?_
        refine JX.thenN (hK6 _ _ ?_)
        refine JC.ret ?_
        refine JX.blockR ?_
        refine JX.thenR ?_
        refine JX.ret2 rfl rfl rfl (fun w1 hw => ?_)
        exact ⟨.no 4 q down ⟨B, p, k⟩, rfl, hg, (hw.perm (by (refine perm_cnt (fun _ => ?_)); simp only [cntB_append, cntB_cons, cntB_nil, Nat.add_zero, Nat.zero_add]; try ac_rfl : List.Perm _ ([(b3, cb (cT key ver (.slice a bs.length c)) 28)] ++ (vltB vb mb lb d s n q down inc es ck ⟨B, p, k⟩)))).drop (List.sublist_append_right _ _)⟩
      · skip
        have hb64 : ¬ 64 < bs.length := by simp at h1; omega
        refine JC.skip ?_
        refine JX.blockN ?_
        refine JX.thenN (hK1 _ _ ?_)
        refine JC.seqCut (α := Nat) (fun x6 => [(0, .pointer (some ⟨vb, 0, none⟩)), (3, .pointer (some ⟨b3, 0, none⟩))]) (fun x6 w' => (K = true → newB ver O.ver = true) ∧ St w [vb, mb, lb, d, s] ((x6, cb (cH O) 28) :: (b3, cb (cT key ver (.slice a bs.length c)) 28) :: (vb, vaO (.pointer (some ⟨lb, 0, none⟩)) mb ((inc : Nat) : Int)) :: (mb, .map es ck) :: (lb, lgO d q down) :: (d, dkO s n p k) :: (s, dkS B) :: []) w') (fun x6 => ?_) (fun K7 hK7 => ?_)
        · skip
          refine JC.pr (fun hnb => ?_)
          have hnb2 : ¬ ((getV (L.map HI.it) key).isSome = true ∧ newB ver ((getV (L.map HI.it) key).getD zItV).ver = false) := by
            rw [old_it, hget_it, Option.isSome_map, hO, hK]
            rintro ⟨h1, h2⟩
            have h3 := hnb h1
            have h4 : newB ver O.ver = false := h2
            rw [h4] at h3
            cases h3
          refine JC.seq (fun K8 hK8 => ?_)
          refine JC.seq (fun K9 hK9 => ?_)
          apply JC.drawX (α := Value × List (Nat × Obj)) 6 (fun x => match x with | ⟨v53, l53⟩ => [.pointer (some ⟨vb, 0, none⟩), .pointer (some ⟨vb, 0, none⟩), .pointer (some ⟨vb, 0 + 0, none⟩), .pointer (some ⟨lb, 0, none⟩), .agg (cT key ver (.slice a bs.length c)).toArray, v53]) (fun m x => match x with | ⟨v53, l53⟩ => fun w1 => ((m 5 = true → Vec 5 1 v53 (formB ⟨key, ver, bs⟩).length ((formB ⟨key, ver, bs⟩).map u8) l53)) ∧ St w [vb, mb, lb, d, s] ((bif m 5 then l53 else []) ++ ((x6, cb (cH O) 28) :: (b3, cb (cT key ver (.slice a bs.length c)) 28) :: (vb, vaO (.pointer (some ⟨lb, 0, none⟩)) mb ((inc : Nat) : Int)) :: (mb, .map es ck) :: (lb, lgO d q down) :: (d, dkO s n p k) :: (s, dkS B) :: [])) w1) Ty.mixed rfl rfl rfl (by kernel_rfl) rfl rfl ?hinit ?hstep ?htail
          case hinit => exact fun w1 hw => ⟨(.slice none 0 0, []), fun h => (by cases h), hw.drew⟩
          case hstep =>
            refine ⟨fun m x hm hp => ?_, fun m x hm hp => ?_, fun m x hm hp => ?_, fun m x hm hp => ?_, fun m x hm hp => ?_, fun m x hm hp => ?_, trivial⟩
            · skip
              obtain ⟨v53, l53⟩ := x
              show J _ _ _ _ _ (_) _
              refine J.pr (fun hF => ?_)
              refine J.move rfl rfl ?_
              exact J.finX rfl (fun _ hw => ⟨⟨v53, l53⟩, rfl, fun _ _ _ => rfl, hF, hw⟩)
            · skip
              obtain ⟨v53, l53⟩ := x
              show J _ _ _ _ _ ((48, .pointer (some ⟨vb, 0, none⟩)) :: _) _
              refine J.pr (fun hF => ?_)
              refine J.nilCheck rfl rfl ?_
              exact J.finX rfl (fun _ hw => ⟨⟨v53, l53⟩, rfl, fun _ _ _ => rfl, hF, hw⟩)
            · skip
              obtain ⟨v53, l53⟩ := x
              show J _ _ _ _ _ ((49, .pointer (some ⟨vb, 0, none⟩)) :: _) _
              refine J.pr (fun hF => ?_)
              refine J.fieldAddr Ty.fd99_0 rfl rfl ?_
              exact J.finX rfl (fun _ hw => ⟨⟨v53, l53⟩, rfl, fun _ _ _ => rfl, hF, hw⟩)
            · skip
              obtain ⟨v53, l53⟩ := x
              show J _ _ _ _ _ ((50, .pointer (some ⟨vb, 0 + 0, none⟩)) :: _) _
              refine J.pr (fun hF => ?_)
              refine J.load1 (v := .pointer (some ⟨lb, 0, none⟩)) Ty.a94 rfl (fun w1 hw => by rw [cell_of (hw.own ((vb, vaO (.pointer (some ⟨lb, 0, none⟩)) mb ((inc : Nat) : Int))) (by repeat first | exact .head _ | apply List.Mem.tail | apply List.mem_append_right))]; rfl) rfl ?_
              exact J.finX rfl (fun _ hw => ⟨⟨v53, l53⟩, rfl, fun _ _ _ => rfl, hF, hw⟩)
            · skip
              obtain ⟨v53, l53⟩ := x
              show J _ _ _ _ _ (_) _
              refine J.pr (fun hF => ?_)
              refine J.loadA (vs := (cT key ver (.slice a bs.length c))) Ty.a28 Ty.s28 rfl rfl (fun w1 hw => Cells.of_block (hw.own ((b3, cb (cT key ver (.slice a bs.length c)) 28)) (by repeat first | exact .head _ | apply List.Mem.tail | apply List.mem_append_right)) rfl) rfl ?_
              exact J.finX rfl (fun _ hw => ⟨⟨v53, l53⟩, rfl, fun _ _ _ => rfl, hF, hw⟩)
            · skip
              obtain ⟨v53, l53⟩ := x
              show J _ _ _ _ _ ((52, .agg (cT key ver (.slice a bs.length c)).toArray) :: _) _
              refine J.pr (fun hF => ?_)
              refine J.conseq (I' := St w [vb, mb, lb, d, s] ((x6, cb (cH O) 28) :: (b3, cb (cT key ver (.slice a bs.length c)) 28) :: (vb, vaO (.pointer (some ⟨lb, 0, none⟩)) mb ((inc : Nat) : Int)) :: (mb, .map es ck) :: (lb, lgO d q down) :: (d, dkO s n p k) :: (s, dkS B) :: [])) ?_ (fun w1 hw => by simp only [hm, cond_false, List.nil_append] at hw; exact hw)
              refine J.perm ([] ++ ((x6, cb (cH O) 28) :: (b3, cb (cT key ver (.slice a bs.length c)) 28) :: (vb, vaO (.pointer (some ⟨lb, 0, none⟩)) mb ((inc : Nat) : Int)) :: (mb, .map es ck) :: (lb, lgO d q down) :: (d, dkO s n p k) :: (s, dkS B) :: [])) (.refl _) ?_
              refine J.callS (α := Value × List (Nat × Obj)) (V := (·.1)) (Pr := fun xo => Vec 5 1 xo.1 (formB ⟨key, ver, bs⟩).length ((formB ⟨key, ver, bs⟩).map u8) xo.2) (L := (·.2)) (l1 := []) Ty.bd11 rfl rfl (fun w1 hw => form_spec (cT key ver (.slice a bs.length c)) key ver bs _ w1 rfl (hb.st hoff hw) (by omega) (by omega) (by omega)) (fun xo hvn => ?_)
              obtain ⟨vn, ln⟩ := xo
              try simp only at hvn ⊢
              refine J.nil (JX.finB rfl (fun w1 hw => ⟨⟨⟨vn, ln⟩, rfl, fun j h1 h2 => ?_, ?_⟩, trivial⟩))
              · match j, h1 with
                | 0, _ => (first | rfl | trivial)
                | 1, _ => (first | rfl | trivial)
                | 2, _ => (first | rfl | trivial)
                | 3, _ => (first | rfl | trivial)
                | 4, _ => (first | rfl | trivial)
                | 5, _ => exact absurd (h2.symm.trans hm) (by decide)
                | j + 6, h1 => omega
              show ((true = true → Vec 5 1 vn (formB ⟨key, ver, bs⟩).length ((formB ⟨key, ver, bs⟩).map u8) ln)) ∧ St w [vb, mb, lb, d, s] ((bif true then ln else []) ++ ((x6, cb (cH O) 28) :: (b3, cb (cT key ver (.slice a bs.length c)) 28) :: (vb, vaO (.pointer (some ⟨lb, 0, none⟩)) mb ((inc : Nat) : Int)) :: (mb, .map es ck) :: (lb, lgO d q down) :: (d, dkO s n p k) :: (s, dkS B) :: [])) w1
              simp only [cond_true] at hw ⊢
              exact ⟨fun _ => hvn, hw⟩
          case htail =>
            intro x
            obtain ⟨v53, l53⟩ := x
            show J _ _ _ _ _ ((53, v53) :: (52, .agg (cT key ver (.slice a bs.length c)).toArray) :: (51, .pointer (some ⟨lb, 0, none⟩)) :: (50, .pointer (some ⟨vb, 0 + 0, none⟩)) :: (49, .pointer (some ⟨vb, 0, none⟩)) :: (48, .pointer (some ⟨vb, 0, none⟩)) :: _) (fun w1 => ((true = true → Vec 5 1 v53 (formB ⟨key, ver, bs⟩).length ((formB ⟨key, ver, bs⟩).map u8) l53)) ∧ St w [vb, mb, lb, d, s] ((bif true then l53 else []) ++ ((x6, cb (cH O) 28) :: (b3, cb (cT key ver (.slice a bs.length c)) 28) :: (vb, vaO (.pointer (some ⟨lb, 0, none⟩)) mb ((inc : Nat) : Int)) :: (mb, .map es ck) :: (lb, lgO d q down) :: (d, dkO s n p k) :: (s, dkS B) :: [])) w1)
            refine J.pr (fun hF => ?_)
            have hv53 := hF rfl
            have hfl := formB_le ⟨key, ver, bs⟩
            try simp only at hfl
            obtain ⟨a53, c53, rfl, hc53⟩ := hv53.form
            refine J.conseq (I' := St w [vb, mb, lb, d, s] (l53 ++ ((x6, cb (cH O) 28) :: (b3, cb (cT key ver (.slice a bs.length c)) 28) :: (vb, vaO (.pointer (some ⟨lb, 0, none⟩)) mb ((inc : Nat) : Int)) :: (mb, .map es ck) :: (lb, lgO d q down) :: (d, dkO s n p k) :: (s, dkS B) :: []))) ?_ (fun w1 hw => by simp only [cond_true] at hw; exact hw)
            obtain ⟨⟨e9, q9, dn9, σ9⟩, hx9⟩ : ∃ x, appendP n q down ⟨B, p, k⟩ (formB ⟨key, ver, bs⟩) = x := ⟨_, rfl⟩
            refine J.perm ([(lb, lgO d q down), (d, dkO s n p k), (s, dkS B)] ++ (l53 ++ ((x6, cb (cH O) 28) :: (b3, cb (cT key ver (.slice a bs.length c)) 28) :: (vb, vaO (.pointer (some ⟨lb, 0, none⟩)) mb ((inc : Nat) : Int)) :: (mb, .map es ck) :: []))) (by (refine perm_cnt (fun _ => ?_)); simp only [cntB_append, cntB_cons, cntB_nil, Nat.add_zero, Nat.zero_add]; try ac_rfl) ?_
            refine J.callT (v := .int .i64 e9) (L := [(lb, lgO d q9 dn9), (d, dkO s n σ9.p σ9.k), (s, dkS σ9.B)]) Ty.bd46 rfl rfl (fun w1 hw => append_all lb d s n q down B (formB ⟨key, ver, bs⟩) p k a53 _ c53 w1 (St.owns hw) hI.len hn hn3 hgl hul hcl_ hk hk2 hI.p rfl (by omega) (vec_rowM hv53 hw (fun q hq => by simp [hq])) (vec_offM hv53 (fun p0 hp0 => St.off (l1 := [(lb, lgO d q down), (d, dkO s n p k), (s, dkS B)]) hw (o := p0.2) (by simp [hp0]))) hx9) ?_
            refine J.perm ((x6, cb (cH O) 28) :: (b3, cb (cT key ver (.slice a bs.length c)) 28) :: (vb, vaO (.pointer (some ⟨lb, 0, none⟩)) mb ((inc : Nat) : Int)) :: (mb, .map es ck) :: (lb, lgO d q9 dn9) :: (d, dkO s n σ9.p σ9.k) :: (s, dkS σ9.B) :: l53) (by (refine perm_cnt (fun _ => ?_)); simp only [cntB_append, cntB_cons, cntB_nil, Nat.add_zero, Nat.zero_add]; try ac_rfl) ?_
            refine J.assign rfl rfl ?_
            refine J.nil ?_
            refine JX.thenN (hK9 _ _ ?_)
            refine JC.seq (fun K10 hK10 => ?_)
            refine JC.region ?_
            refine J.move rfl rfl ?_
            refine J.bin rfl rfl rfl rfl ?_
            refine J.nil ?_
            refine JX.thenN (hK10 _ _ ?_)
            refine JC.cond rfl (fun h3 => ?_) (fun h3 => ?_)
            · skip
              have he9 : e9 ≠ 0 := by simpa using h3
              have hg : vmergeP n q down ⟨B, p, k⟩ (L.map HI.it) ⟨key, ver, bs⟩ = (false, e9, q9, dn9, σ9) := by unfold vmergeP; rw [if_neg hor, if_neg hb64, if_neg hnb2, hx9]; simp only; rw [decide_eq_false he9]
              refine JC.seq (fun K11 hK11 => ?_)
              refine JC.region ?_
              refine J.move rfl rfl ?_
              refine J.assign rfl rfl ?_
              refine J.assign rfl rfl ?_
              refine J.nil ?_
              refine JX.thenN (hK11 _ _ ?_)
              refine JC.ret ?_
              refine JX.thenR ?_
              refine JX.ret2 rfl rfl rfl (fun w1 hw => ?_)
              exact ⟨.no e9 q9 dn9 σ9, rfl, hg, (hw.perm (by (refine perm_cnt (fun _ => ?_)); simp only [cntB_append, cntB_cons, cntB_nil, Nat.add_zero, Nat.zero_add]; try ac_rfl : List.Perm _ (((x6, cb (cH O) 28) :: (b3, cb (cT key ver (.slice a bs.length c)) 28) :: l53) ++ (vltB vb mb lb d s n q9 dn9 inc es ck σ9)))).drop (List.sublist_append_right _ _)⟩
            · skip
              have he9 : e9 = 0 := by simpa using h3
              have hg : vmergeP n q down ⟨B, p, k⟩ (L.map HI.it) ⟨key, ver, bs⟩ = (true, 0, q9, dn9, σ9) := by unfold vmergeP; rw [if_neg hor, if_neg hb64, if_neg hnb2, hx9]; simp only; rw [decide_eq_true he9, he9]
              refine JC.skip ?_
              refine JX.thenN (hK8 _ _ ?_)
              refine JC.seq (fun K12 hK12 => ?_)
              apply JC.drawX (α := Option Addr × Nat × List (Nat × Obj)) 8 (fun x => match x with | ⟨a65, c65, l65⟩ => [.pointer (some ⟨vb, 0, none⟩), .pointer (some ⟨vb, 0, none⟩), .pointer (some ⟨vb, 0 + 1, none⟩), .map (some mb), .pointer (some ⟨b3, 0 + 0, none⟩), .agg (cI key).toArray, .agg (cT key ver (.slice a bs.length c)).toArray, .agg (cT key ver (.slice a65 bs.length c65)).toArray]) (fun m x => match x with | ⟨a65, c65, l65⟩ => fun w1 => ((m 7 = true → Vec 5 1 (.slice a65 bs.length c65) (bs).length ((bs).map u8) l65)) ∧ St w [vb, mb, lb, d, s] ((bif m 7 then l65 else []) ++ ((x6, cb (cH O) 28) :: (b3, cb (cT key ver (.slice a bs.length c)) 28) :: (vb, vaO (.pointer (some ⟨lb, 0, none⟩)) mb ((inc : Nat) : Int)) :: (mb, .map es ck) :: (lb, lgO d q9 dn9) :: (d, dkO s n σ9.p σ9.k) :: (s, dkS σ9.B) :: l53)) w1) Ty.mixed rfl rfl rfl (by kernel_rfl) rfl rfl ?hinit ?hstep ?htail
              case hinit => exact fun w1 hw => ⟨(none, 0, []), fun h => (by cases h), hw.drew⟩
              case hstep =>
                refine ⟨fun m x hm hp => ?_, fun m x hm hp => ?_, fun m x hm hp => ?_, fun m x hm hp => ?_, fun m x hm hp => ?_, fun m x hm hp => ?_, fun m x hm hp => ?_, fun m x hm hp => ?_, trivial⟩
                · skip
                  obtain ⟨a65, c65, l65⟩ := x
                  show J _ _ _ _ _ (_) _
                  refine J.pr (fun hF => ?_)
                  refine J.move rfl rfl ?_
                  exact J.finX rfl (fun _ hw => ⟨⟨a65, c65, l65⟩, rfl, fun _ _ _ => rfl, hF, hw⟩)
                · skip
                  obtain ⟨a65, c65, l65⟩ := x
                  show J _ _ _ _ _ ((58, .pointer (some ⟨vb, 0, none⟩)) :: _) _
                  refine J.pr (fun hF => ?_)
                  refine J.nilCheck rfl rfl ?_
                  exact J.finX rfl (fun _ hw => ⟨⟨a65, c65, l65⟩, rfl, fun _ _ _ => rfl, hF, hw⟩)
                · skip
                  obtain ⟨a65, c65, l65⟩ := x
                  show J _ _ _ _ _ ((59, .pointer (some ⟨vb, 0, none⟩)) :: _) _
                  refine J.pr (fun hF => ?_)
                  refine J.fieldAddr Ty.fd99_1 rfl rfl ?_
                  exact J.finX rfl (fun _ hw => ⟨⟨a65, c65, l65⟩, rfl, fun _ _ _ => rfl, hF, hw⟩)
                · skip
                  obtain ⟨a65, c65, l65⟩ := x
                  show J _ _ _ _ _ ((60, .pointer (some ⟨vb, 0 + 1, none⟩)) :: _) _
                  refine J.pr (fun hF => ?_)
                  refine J.load1 (v := .map (some mb)) Ty.a97 rfl (fun w1 hw => by rw [cell_of (hw.own ((vb, vaO (.pointer (some ⟨lb, 0, none⟩)) mb ((inc : Nat) : Int))) (by repeat first | exact .head _ | apply List.Mem.tail | apply List.mem_append_right))]; rfl) rfl ?_
                  exact J.finX rfl (fun _ hw => ⟨⟨a65, c65, l65⟩, rfl, fun _ _ _ => rfl, hF, hw⟩)
                · skip
                  obtain ⟨a65, c65, l65⟩ := x
                  show J _ _ _ _ _ (_) _
                  refine J.pr (fun hF => ?_)
                  refine J.fieldAddr Ty.fd28_0 rfl rfl ?_
                  exact J.finX rfl (fun _ hw => ⟨⟨a65, c65, l65⟩, rfl, fun _ _ _ => rfl, hF, hw⟩)
                · skip
                  obtain ⟨a65, c65, l65⟩ := x
                  show J _ _ _ _ _ ((62, .pointer (some ⟨b3, 0 + 0, none⟩)) :: _) _
                  refine J.pr (fun hF => ?_)
                  refine J.loadA (vs := cI key) Ty.a23 Ty.s23 rfl rfl (fun w1 hw => Cells.of_block (hw.own ((b3, cb (cT key ver (.slice a bs.length c)) 28)) (by repeat first | exact .head _ | apply List.Mem.tail | apply List.mem_append_right)) rfl) rfl ?_
                  exact J.finX rfl (fun _ hw => ⟨⟨a65, c65, l65⟩, rfl, fun _ _ _ => rfl, hF, hw⟩)
                · skip
                  obtain ⟨a65, c65, l65⟩ := x
                  show J _ _ _ _ _ (_) _
                  refine J.pr (fun hF => ?_)
                  refine J.loadA (vs := (cT key ver (.slice a bs.length c))) Ty.a28 Ty.s28 rfl rfl (fun w1 hw => Cells.of_block (hw.own ((b3, cb (cT key ver (.slice a bs.length c)) 28)) (by repeat first | exact .head _ | apply List.Mem.tail | apply List.mem_append_right)) rfl) rfl ?_
                  exact J.finX rfl (fun _ hw => ⟨⟨a65, c65, l65⟩, rfl, fun _ _ _ => rfl, hF, hw⟩)
                · skip
                  obtain ⟨a65, c65, l65⟩ := x
                  show J _ _ _ _ _ ((64, .agg (cT key ver (.slice a bs.length c)).toArray) :: _) _
                  refine J.pr (fun hF => ?_)
                  refine J.conseq (I' := St w [vb, mb, lb, d, s] ((x6, cb (cH O) 28) :: (b3, cb (cT key ver (.slice a bs.length c)) 28) :: (vb, vaO (.pointer (some ⟨lb, 0, none⟩)) mb ((inc : Nat) : Int)) :: (mb, .map es ck) :: (lb, lgO d q9 dn9) :: (d, dkO s n σ9.p σ9.k) :: (s, dkS σ9.B) :: l53)) ?_ (fun w1 hw => by simp only [hm, cond_false, List.nil_append] at hw; exact hw)
                  refine J.perm ([] ++ ((x6, cb (cH O) 28) :: (b3, cb (cT key ver (.slice a bs.length c)) 28) :: (vb, vaO (.pointer (some ⟨lb, 0, none⟩)) mb ((inc : Nat) : Int)) :: (mb, .map es ck) :: (lb, lgO d q9 dn9) :: (d, dkO s n σ9.p σ9.k) :: (s, dkS σ9.B) :: l53)) (.refl _) ?_
                  refine J.callS (α := Value × List (Nat × Obj)) (V := fun y => .agg (cT key ver y.1).toArray) (Pr := fun y => Vec 5 1 y.1 (bs).length ((bs).map u8) y.2) (L := (·.2)) (l1 := []) Ty.bd47 rfl rfl (fun w1 hw => copied_spec (cT key ver (.slice a bs.length c)) key ver bs _ w1 rfl (hb.st hoff hw) (by omega)) (fun y hyn => ?_)
                  obtain ⟨vn, ln⟩ := y
                  try simp only at hyn ⊢
                  obtain ⟨an, cn, rfl, hcn9⟩ := hyn.form
                  refine J.nil (JX.finB rfl (fun w1 hw => ⟨⟨⟨an, cn, ln⟩, rfl, fun j h1 h2 => ?_, ?_⟩, trivial⟩))
                  · match j, h1 with
                    | 0, _ => (first | rfl | trivial)
                    | 1, _ => (first | rfl | trivial)
                    | 2, _ => (first | rfl | trivial)
                    | 3, _ => (first | rfl | trivial)
                    | 4, _ => (first | rfl | trivial)
                    | 5, _ => (first | rfl | trivial)
                    | 6, _ => (first | rfl | trivial)
                    | 7, _ => exact absurd (h2.symm.trans hm) (by decide)
                    | j + 8, h1 => omega
                  show ((true = true → Vec 5 1 (.slice an bs.length cn) (bs).length ((bs).map u8) ln)) ∧ St w [vb, mb, lb, d, s] ((bif true then ln else []) ++ ((x6, cb (cH O) 28) :: (b3, cb (cT key ver (.slice a bs.length c)) 28) :: (vb, vaO (.pointer (some ⟨lb, 0, none⟩)) mb ((inc : Nat) : Int)) :: (mb, .map es ck) :: (lb, lgO d q9 dn9) :: (d, dkO s n σ9.p σ9.k) :: (s, dkS σ9.B) :: l53)) w1
                  simp only [cond_true] at hw ⊢
                  exact ⟨fun _ => hyn, hw⟩
              case htail =>
                intro x
                obtain ⟨a65, c65, l65⟩ := x
                show J _ _ _ _ _ ((65, .agg (cT key ver (.slice a65 bs.length c65)).toArray) :: (64, .agg (cT key ver (.slice a bs.length c)).toArray) :: (63, .agg (cI key).toArray) :: (62, .pointer (some ⟨b3, 0 + 0, none⟩)) :: (61, .map (some mb)) :: (60, .pointer (some ⟨vb, 0 + 1, none⟩)) :: (59, .pointer (some ⟨vb, 0, none⟩)) :: (58, .pointer (some ⟨vb, 0, none⟩)) :: _) (fun w1 => ((true = true → Vec 5 1 (.slice a65 bs.length c65) (bs).length ((bs).map u8) l65)) ∧ St w [vb, mb, lb, d, s] ((bif true then l65 else []) ++ ((x6, cb (cH O) 28) :: (b3, cb (cT key ver (.slice a bs.length c)) 28) :: (vb, vaO (.pointer (some ⟨lb, 0, none⟩)) mb ((inc : Nat) : Int)) :: (mb, .map es ck) :: (lb, lgO d q9 dn9) :: (d, dkO s n σ9.p σ9.k) :: (s, dkS σ9.B) :: l53)) w1)
                refine J.pr (fun hF => ?_)
                have hv65 := hF rfl
                refine J.conseq (I' := St w [vb, mb, lb, d, s] ((x6, cb (cH O) 28) :: (b3, cb (cT key ver (.slice a bs.length c)) 28) :: (vb, vaO (.pointer (some ⟨lb, 0, none⟩)) mb ((inc : Nat) : Int)) :: (mb, .map es ck) :: (lb, lgO d q9 dn9) :: (d, dkO s n σ9.p σ9.k) :: (s, dkS σ9.B) :: l53 ++ l65)) ?_ (fun w1 hw => (by simp only [cond_true] at hw; exact hw.perm (by (refine perm_cnt (fun _ => ?_)); simp only [cntB_append, cntB_cons, cntB_nil, Nat.add_zero, Nat.zero_add]; try ac_rfl)))
                refine J.updV (xh := ⟨key, ver, bs, (.slice a65 bs.length c65), l65⟩) (l' := fun es' c' => (x6, cb (cH O) 28) :: (b3, cb (cT key ver (.slice a bs.length c)) 28) :: (vb, vaO (.pointer (some ⟨lb, 0, none⟩)) mb ((inc : Nat) : Int)) :: (mb, .map es' c') :: (lb, lgO d q9 dn9) :: (d, dkO s n σ9.p σ9.k) :: (s, dkS σ9.B) :: l53 ++ l65) Ty.u97 Ty.KI Ty.keyI rfl rfl rfl hT (fun es' c' => (by repeat first | exact .here | apply Up.there)) (fun es2 ck2 hT2 => ?_)
                refine J.nil ?_
                refine JX.thenN (hK12 _ _ ?_)
                refine JC.seq (fun K13 hK13 => ?_)
                refine JC.region ?_
                refine J.assign rfl rfl ?_
                refine J.assign rfl rfl ?_
                refine J.nil ?_
                refine JX.thenN (hK13 _ _ ?_)
                refine JC.ret ?_
                refine JX.ret2 rfl rfl rfl (fun w1 hw => ?_)
                exact ⟨.yes ⟨key, ver, bs, (.slice a65 bs.length c65), l65⟩ es2 ck2 q9 dn9 σ9, rfl, ⟨hg, rfl, ⟨⟨by simp only; omega, by simp only; omega⟩, hv65⟩, hT2⟩, (hw.perm (by (refine perm_cnt (fun _ => ?_)); simp only [cntB_append, cntB_cons, cntB_nil, Nat.add_zero, Nat.zero_add]; try ac_rfl : List.Perm _ (((x6, cb (cH O) 28) :: (b3, cb (cT key ver (.slice a bs.length c)) 28) :: l53) ++ ((vltB vb mb lb d s n q9 dn9 inc es2 ck2 σ9) ++ l65)))).drop (List.sublist_append_right _ _)⟩
        · skip
          refine JC.seq (fun K14 hK14 => ?_)
          apply JC.drawX (α := Nat × Unit) 12 (fun x => match x with | ⟨x6, uu⟩ => [.pointer (some ⟨vb, 0, none⟩), .pointer (some ⟨vb, 0, none⟩), .pointer (some ⟨vb, 0 + 1, none⟩), .map (some mb), .pointer (some ⟨b3, 0 + 0, none⟩), .agg (cI key).toArray, .tuple #[.agg (cH O).toArray, .bool K], .tuple #[.agg (cH O).toArray, .bool K], .agg (cH O).toArray, .bool K, .pointer (some ⟨x6, 0, none⟩), undef]) (fun m x => match x with | ⟨x6, uu⟩ => fun w1 => ((m 11 = true → m 10 = true)) ∧ St w [vb, mb, lb, d, s] ((bif m 10 then [(x6, cb (cH (bif m 11 then O else zH)) 28)] else []) ++ ((b3, cb (cT key ver (.slice a bs.length c)) 28) :: (vb, vaO (.pointer (some ⟨lb, 0, none⟩)) mb ((inc : Nat) : Int)) :: (mb, .map es ck) :: (lb, lgO d q down) :: (d, dkO s n p k) :: (s, dkS B) :: [])) w1) Ty.mixed rfl rfl rfl (by kernel_rfl) rfl rfl ?hinit ?hstep ?htail
          case hinit => exact fun w1 hw => ⟨(0, ()), fun h => (by cases h), hw.drew⟩
          case hstep =>
            refine ⟨fun m x hm hp => ?_, fun m x hm hp => ?_, fun m x hm hp => ?_, fun m x hm hp => ?_, fun m x hm hp => ?_, fun m x hm hp => ?_, fun m x hm hp => ?_, fun m x hm hp => ?_, fun m x hm hp => ?_, fun m x hm hp => ?_, fun m x hm hp => ?_, fun m x hm hp => ?_, trivial⟩
            · skip
              obtain ⟨x6, uu⟩ := x
              show J _ _ _ _ _ (_) _
              refine J.pr (fun hF => ?_)
              refine J.move rfl rfl ?_
              exact J.finX rfl (fun _ hw => ⟨⟨x6, uu⟩, rfl, fun _ _ _ => rfl, hF, hw⟩)
            · skip
              obtain ⟨x6, uu⟩ := x
              show J _ _ _ _ _ ((30, .pointer (some ⟨vb, 0, none⟩)) :: _) _
              refine J.pr (fun hF => ?_)
              refine J.nilCheck rfl rfl ?_
              exact J.finX rfl (fun _ hw => ⟨⟨x6, uu⟩, rfl, fun _ _ _ => rfl, hF, hw⟩)
            · skip
              obtain ⟨x6, uu⟩ := x
              show J _ _ _ _ _ ((31, .pointer (some ⟨vb, 0, none⟩)) :: _) _
              refine J.pr (fun hF => ?_)
              refine J.fieldAddr Ty.fd99_1 rfl rfl ?_
              exact J.finX rfl (fun _ hw => ⟨⟨x6, uu⟩, rfl, fun _ _ _ => rfl, hF, hw⟩)
            · skip
              obtain ⟨x6, uu⟩ := x
              show J _ _ _ _ _ ((32, .pointer (some ⟨vb, 0 + 1, none⟩)) :: _) _
              refine J.pr (fun hF => ?_)
              refine J.load1 (v := .map (some mb)) Ty.a97 rfl (fun w1 hw => by rw [cell_of (hw.own ((vb, vaO (.pointer (some ⟨lb, 0, none⟩)) mb ((inc : Nat) : Int))) (by repeat first | exact .head _ | apply List.Mem.tail | apply List.mem_append_right))]; rfl) rfl ?_
              exact J.finX rfl (fun _ hw => ⟨⟨x6, uu⟩, rfl, fun _ _ _ => rfl, hF, hw⟩)
            · skip
              obtain ⟨x6, uu⟩ := x
              show J _ _ _ _ _ (_) _
              refine J.pr (fun hF => ?_)
              refine J.fieldAddr Ty.fd28_0 rfl rfl ?_
              exact J.finX rfl (fun _ hw => ⟨⟨x6, uu⟩, rfl, fun _ _ _ => rfl, hF, hw⟩)
            · skip
              obtain ⟨x6, uu⟩ := x
              show J _ _ _ _ _ ((34, .pointer (some ⟨b3, 0 + 0, none⟩)) :: _) _
              refine J.pr (fun hF => ?_)
              refine J.loadA (vs := cI key) Ty.a23 Ty.s23 rfl rfl (fun w1 hw => Cells.of_block (hw.own ((b3, cb (cT key ver (.slice a bs.length c)) 28)) (by repeat first | exact .head _ | apply List.Mem.tail | apply List.mem_append_right)) rfl) rfl ?_
              exact J.finX rfl (fun _ hw => ⟨⟨x6, uu⟩, rfl, fun _ _ _ => rfl, hF, hw⟩)
            · skip
              obtain ⟨x6, uu⟩ := x
              show J _ _ _ _ _ ((35, .agg (cI key).toArray) :: (33, .map (some mb)) :: _) _
              refine J.pr (fun hF => ?_)
              refine J.lookV2 Ty.u97 Ty.KI Ty.keyI Ty.zIt rfl rfl hT (fun w1 hw => hw.own ((mb, .map es ck)) (by repeat first | exact .head _ | apply List.Mem.tail | apply List.mem_append_right)) rfl ?_
              refine J.name 36 rfl (show _ = Value.tuple #[.agg (cH O).toArray, .bool K] by rw [hO, hK]) ?_
              exact J.finX rfl (fun _ hw => ⟨⟨x6, uu⟩, rfl, fun _ _ _ => rfl, hF, hw⟩)
            · skip
              obtain ⟨x6, uu⟩ := x
              show J _ _ _ _ _ ((36, .tuple #[.agg (cH O).toArray, .bool K]) :: _) _
              refine J.pr (fun hF => ?_)
              refine J.move rfl rfl ?_
              exact J.finX rfl (fun _ hw => ⟨⟨x6, uu⟩, rfl, fun _ _ _ => rfl, hF, hw⟩)
            · skip
              obtain ⟨x6, uu⟩ := x
              show J _ _ _ _ _ ((29, .tuple #[.agg (cH O).toArray, .bool K]) :: _) _
              refine J.pr (fun hF => ?_)
              refine J.extract rfl rfl rfl ?_
              exact J.finX rfl (fun _ hw => ⟨⟨x6, uu⟩, rfl, fun _ _ _ => rfl, hF, hw⟩)
            · skip
              obtain ⟨x6, uu⟩ := x
              show J _ _ _ _ _ ((29, .tuple #[.agg (cH O).toArray, .bool K]) :: _) _
              refine J.pr (fun hF => ?_)
              refine J.extract rfl rfl rfl ?_
              exact J.finX rfl (fun _ hw => ⟨⟨x6, uu⟩, rfl, fun _ _ _ => rfl, hF, hw⟩)
            · skip
              obtain ⟨x6, uu⟩ := x
              show J _ _ _ _ _ (_) _
              refine J.pr (fun hF => ?_)
              have h11 : m 11 = false := by cases h : m 11 with
                | false => rfl
                | true => rw [hF h] at hm; cases hm
              refine J.alloc Ty.zIt rfl rfl (fun b6 => ?_)
              refine J.nil (JX.finB rfl (fun w1 hw => ⟨⟨⟨b6, uu⟩, rfl, fun j h1 h2 => ?_, ?_⟩, trivial⟩))
              · match j, h1 with
                | 0, _ => (first | rfl | trivial)
                | 1, _ => (first | rfl | trivial)
                | 2, _ => (first | rfl | trivial)
                | 3, _ => (first | rfl | trivial)
                | 4, _ => (first | rfl | trivial)
                | 5, _ => (first | rfl | trivial)
                | 6, _ => (first | rfl | trivial)
                | 7, _ => (first | rfl | trivial)
                | 8, _ => (first | rfl | trivial)
                | 9, _ => (first | rfl | trivial)
                | 10, _ => exact absurd (h2.symm.trans hm) (by decide)
                | 11, _ => (first | rfl | trivial)
                | j + 12, h1 => omega
              show ((m 11 = true → true = true)) ∧ St w [vb, mb, lb, d, s] ((bif true then [(b6, cb (cH (bif m 11 then O else zH)) 28)] else []) ++ ((b3, cb (cT key ver (.slice a bs.length c)) 28) :: (vb, vaO (.pointer (some ⟨lb, 0, none⟩)) mb ((inc : Nat) : Int)) :: (mb, .map es ck) :: (lb, lgO d q down) :: (d, dkO s n p k) :: (s, dkS B) :: [])) w1
              simp only [hm, h11, cond_true, cond_false] at hw ⊢
              exact ⟨fun _ => (by first | trivial | rfl), hw⟩
            · skip
              obtain ⟨x6, uu⟩ := x
              show J _ _ _ _ _ ((6, .pointer (some ⟨x6, 0, none⟩)) :: (37, .agg (cH O).toArray) :: (29, .tuple #[.agg (cH O).toArray, .bool K]) :: (36, .tuple #[.agg (cH O).toArray, .bool K]) :: (35, .agg (cI key).toArray) :: (34, .pointer (some ⟨b3, 0 + 0, none⟩)) :: (33, .map (some mb)) :: (32, .pointer (some ⟨vb, 0 + 1, none⟩)) :: (31, .pointer (some ⟨vb, 0, none⟩)) :: (30, .pointer (some ⟨vb, 0, none⟩)) :: (37, .agg (cH O).toArray) :: (6, .pointer (some ⟨x6, 0, none⟩)) :: _) _
              have hp10 : m 10 = true := predsT hp (by kernel_rfl)
              have hp10 : m 10 = true := predsT hp (by kernel_rfl)
              refine J.pr (fun hF => ?_)
              refine J.conseq (I' := St w [vb, mb, lb, d, s] ((x6, cb (cH zH) 28) :: (b3, cb (cT key ver (.slice a bs.length c)) 28) :: (vb, vaO (.pointer (some ⟨lb, 0, none⟩)) mb ((inc : Nat) : Int)) :: (mb, .map es ck) :: (lb, lgO d q down) :: (d, dkO s n p k) :: (s, dkS B) :: [])) ?_ (fun w1 hw => by simp only [hm, hp10, cond_true, cond_false] at hw; exact hw)
              refine J.storeW (cs := cH zH) (vs := cH O) Ty.s28 rfl rfl rfl rfl rfl (one_cH hOs) .here ?_
              refine J.nil (JX.finN undef (fun w1 hw => ⟨⟨x6, uu⟩, rfl, fun j h1 h2 => ?_, ?_⟩))
              · match j, h1 with
                | 0, _ => (first | rfl | trivial)
                | 1, _ => (first | rfl | trivial)
                | 2, _ => (first | rfl | trivial)
                | 3, _ => (first | rfl | trivial)
                | 4, _ => (first | rfl | trivial)
                | 5, _ => (first | rfl | trivial)
                | 6, _ => (first | rfl | trivial)
                | 7, _ => (first | rfl | trivial)
                | 8, _ => (first | rfl | trivial)
                | 9, _ => (first | rfl | trivial)
                | 10, _ => (first | rfl | trivial)
                | 11, _ => (first | rfl | trivial)
                | j + 12, h1 => omega
              show ((true = true → m 10 = true)) ∧ St w [vb, mb, lb, d, s] ((bif m 10 then [(x6, cb (cH (bif true then O else zH)) 28)] else []) ++ ((b3, cb (cT key ver (.slice a bs.length c)) 28) :: (vb, vaO (.pointer (some ⟨lb, 0, none⟩)) mb ((inc : Nat) : Int)) :: (mb, .map es ck) :: (lb, lgO d q down) :: (d, dkO s n p k) :: (s, dkS B) :: [])) w1
              simp only [hm, hp10, cond_true, cond_false] at hw ⊢
              exact ⟨fun _ => (by first | trivial | rfl), hw⟩
          case htail =>
            intro x
            obtain ⟨x6, uu⟩ := x
            show J _ _ _ _ _ ((6, .pointer (some ⟨x6, 0, none⟩)) :: (38, .bool K) :: (37, .agg (cH O).toArray) :: (29, .tuple #[.agg (cH O).toArray, .bool K]) :: (36, .tuple #[.agg (cH O).toArray, .bool K]) :: (35, .agg (cI key).toArray) :: (34, .pointer (some ⟨b3, 0 + 0, none⟩)) :: (33, .map (some mb)) :: (32, .pointer (some ⟨vb, 0 + 1, none⟩)) :: (31, .pointer (some ⟨vb, 0, none⟩)) :: (30, .pointer (some ⟨vb, 0, none⟩)) :: _) (fun w1 => ((true = true → true = true)) ∧ St w [vb, mb, lb, d, s] ((bif true then [(x6, cb (cH (bif true then O else zH)) 28)] else []) ++ ((b3, cb (cT key ver (.slice a bs.length c)) 28) :: (vb, vaO (.pointer (some ⟨lb, 0, none⟩)) mb ((inc : Nat) : Int)) :: (mb, .map es ck) :: (lb, lgO d q down) :: (d, dkO s n p k) :: (s, dkS B) :: [])) w1)
            refine J.pr (fun hF => ?_)
            refine J.conseq (I' := St w [vb, mb, lb, d, s] ((x6, cb (cH O) 28) :: (b3, cb (cT key ver (.slice a bs.length c)) 28) :: (vb, vaO (.pointer (some ⟨lb, 0, none⟩)) mb ((inc : Nat) : Int)) :: (mb, .map es ck) :: (lb, lgO d q down) :: (d, dkO s n p k) :: (s, dkS B) :: [])) ?_ (fun w1 hw => by simp only [cond_true] at hw; exact hw)
            refine J.assign rfl rfl ?_
            refine J.nil ?_
            refine JX.thenN (hK14 _ _ ?_)
            refine JC.seq (fun K15 hK15 => ?_)
            cases K with
            | false =>
              have hnb : (false = true → newB ver O.ver = true) := fun h => (by cases h)
              refine JC.region ?_
              refine J.move rfl rfl ?_
              refine J.move rfl rfl ?_
              first | refine J.skip rfl rfl rfl rfl rfl ?_ | refine J.skipU rfl rfl rfl rfl ?_ | (refine J.unguard rfl rfl rfl ?_; refine J.fieldAddr Ty.fd28_1 rfl rfl ?_)
              first | refine J.skip rfl rfl rfl rfl rfl ?_ | refine J.skipU rfl rfl rfl rfl ?_ | (refine J.unguard rfl rfl rfl ?_; refine J.loadOA Ty.a25 Ty.s25 rfl (by repeat first | exact .head _ | apply List.Mem.tail | apply List.mem_append_right) (by exact rfl) rfl rfl ?_)
              first | refine J.skip rfl rfl rfl rfl rfl ?_ | refine J.skipU rfl rfl rfl rfl ?_ | (refine J.unguard rfl rfl rfl ?_; refine J.fieldAddr Ty.fd28_1 rfl rfl ?_)
              first | refine J.skip rfl rfl rfl rfl rfl ?_ | refine J.skipU rfl rfl rfl rfl ?_ | (refine J.unguard rfl rfl rfl ?_; refine J.loadOA Ty.a25 Ty.s25 rfl (by repeat first | exact .head _ | apply List.Mem.tail | apply List.mem_append_right) (by exact rfl) rfl rfl ?_)
              first | refine J.skip rfl rfl rfl rfl rfl ?_ | refine J.skipU rfl rfl rfl rfl ?_ | (refine J.unguard rfl rfl rfl ?_; fail)
              first | refine J.skip rfl rfl rfl rfl rfl ?_ | refine J.skipU rfl rfl rfl rfl ?_ | (refine J.unguard rfl rfl rfl ?_; refine J.not rfl rfl ?_)
              (first | refine J.pickT rfl rfl rfl ?_ | refine J.pickF rfl rfl rfl ?_)
              refine J.nil ?_
              refine JX.thenN (hK15 _ _ ?_)
              first | refine JC.condF rfl ?_ | refine JC.cond rfl (fun h => by first | (exfalso; simp at h; omega) | (simp at h)) (fun _ => ?_)
              refine JC.skip ?_
              refine JX.thenN ?_
              exact JX.cut (hK7 x6) ⟨rfl, rfl, trivial⟩ (fun w1 hw => ⟨hnb, hw⟩)
            | true =>
              refine JC.region ?_
              refine J.move rfl rfl ?_
              refine J.move rfl rfl ?_
              first | refine J.skip rfl rfl rfl rfl rfl ?_ | refine J.skipU rfl rfl rfl rfl ?_ | (refine J.unguard rfl rfl rfl ?_; refine J.fieldAddr Ty.fd28_1 rfl rfl ?_)
              refine J.unguard rfl rfl rfl ?_
              refine J.loadA (vs := cV ver) Ty.a25 Ty.s25 rfl rfl (fun w1 hw => Cells.of_block (hw.own ((b3, cb (cT key ver (.slice a bs.length c)) 28)) (by repeat first | exact .head _ | apply List.Mem.tail | apply List.mem_append_right)) rfl) rfl ?_
              first | refine J.skip rfl rfl rfl rfl rfl ?_ | refine J.skipU rfl rfl rfl rfl ?_ | (refine J.unguard rfl rfl rfl ?_; refine J.fieldAddr Ty.fd28_1 rfl rfl ?_)
              refine J.unguard rfl rfl rfl ?_
              refine J.loadA (vs := cV O.ver) Ty.a25 Ty.s25 rfl rfl (fun w1 hw => Cells.of_block (hw.own ((x6, cb (cH O) 28)) (by repeat first | exact .head _ | apply List.Mem.tail | apply List.mem_append_right)) rfl) rfl ?_
              refine J.unguard rfl rfl rfl ?_
              refine J.callB (v := .bool (newB ver O.ver)) (fun w1 w2 hw hb => hw.step hb) Ty.bd13 rfl rfl (fun w1 hw => newer_spec ver O.ver w1) ?_
              first | refine J.skip rfl rfl rfl rfl rfl ?_ | refine J.skipU rfl rfl rfl rfl ?_ | (refine J.unguard rfl rfl rfl ?_; refine J.not rfl rfl ?_)
              (first | refine J.pickT rfl rfl rfl ?_ | refine J.pickF rfl rfl rfl ?_)
              refine J.nil ?_
              refine JX.thenN (hK15 _ _ ?_)
              refine JC.cond rfl (fun h2 => ?_) (fun h2 => ?_)
              · skip
                have hnf : newB ver O.ver = false := by simpa using h2
                have hg : vmergeP n q down ⟨B, p, k⟩ (L.map HI.it) ⟨key, ver, bs⟩ = (false, 0, q, down, ⟨B, p, k⟩) := by unfold vmergeP; rw [if_neg hor, if_neg hb64, old_it, hget_it, Option.isSome_map, hO, hK, if_pos ⟨rfl, hnf⟩]
                refine JC.seq (fun K16 hK16 => ?_)
                refine JC.region ?_
                refine J.assign rfl rfl ?_
                refine J.assign rfl rfl ?_
                refine J.nil ?_
                refine JX.thenN (hK16 _ _ ?_)
                refine JC.ret ?_
                refine JX.thenR ?_
                refine JX.ret2 rfl rfl rfl (fun w1 hw => ?_)
                exact ⟨.no 0 q down ⟨B, p, k⟩, rfl, hg, (hw.perm (by (refine perm_cnt (fun _ => ?_)); simp only [cntB_append, cntB_cons, cntB_nil, Nat.add_zero, Nat.zero_add]; try ac_rfl : List.Perm _ ([(x6, cb (cH O) 28), (b3, cb (cT key ver (.slice a bs.length c)) 28)] ++ (vltB vb mb lb d s n q down inc es ck ⟨B, p, k⟩)))).drop (List.sublist_append_right _ _)⟩
              · skip
                have hnb : (true = true → newB ver O.ver = true) := fun _ => by simpa using h2
                refine JC.skip ?_
                refine JX.thenN ?_
                exact JX.cut (hK7 x6) ⟨rfl, rfl, trivial⟩ (fun w1 hw => ⟨hnb, hw⟩)

end Go.Proofs.Ytoaenmlhehcjfaa
/-
  Plain laws: a record that is laid is read again; appending with power; what a vault's log holds.
-/
namespace Go.Proofs.Ytoaenmlhehcjfaa
open Go.J Go.RowKit
set_option linter.unusedVariables false
set_option linter.unusedSimpArgs false
set_option maxRecDepth 8000
theorem div_pow256 (n a b : Nat) (h : b ≤ a) : n / 256 ^ a = n / 256 ^ b / 256 ^ (a - b) := by
  rw [Nat.div_div_eq_div_mul, ← Nat.pow_add]
  congr 2; omega
def beB (n : Nat) : List UInt8 := (List.range (wid n)).map (fun i => UInt8.ofNat (n / 2 ^ (8 * (wid n - 1 - i))))
theorem beB_len (n : Nat) : (beB n).length = wid n := by simp [beB]
theorem beB_at {n i : Nat} (h : i < (beB n).length) : (beB n)[i] = UInt8.ofNat (n / 256 ^ (wid n - 1 - i)) := by
  simp only [beB, List.getElem_map, List.getElem_range]
  rw [Nat.pow_mul]
theorem numB_eq (n : Nat) : numB n = UInt8.ofNat (wid n) :: beB n := rfl
theorem beB_num {n : Nat} (hn : n < 18446744073709551616) : ∀ j, j ≤ wid n → num ((beB n).take j) = n / 256 ^ (wid n - j) := by
  intro j
  induction j with
  | zero =>
    intro _
    rw [List.take_zero, Nat.sub_zero, Nat.div_eq_of_lt (wid_ub hn)]; rfl
  | succ j ih =>
    intro h
    have hl : j < (beB n).length := by rw [beB_len]; omega
    rw [num_succ hl, ih (by omega), beB_at hl, div_pow256 n (wid n - j) (wid n - (j + 1)) (by omega), show wid n - j - (wid n - (j + 1)) = 1 by omega, show wid n - 1 - j = wid n - (j + 1) by omega, Nat.pow_one, UInt8.toNat_ofNat']
    omega
theorem beB_all {n : Nat} (hn : n < 18446744073709551616) : num (beB n) = n := by
  have h := beB_num hn (wid n) (Nat.le_refl _)
  rwa [List.take_of_length_le (by rw [beB_len]; exact Nat.le_refl _), Nat.sub_self, Nat.pow_zero, Nat.div_one] at h
theorem wid8 (n : Nat) : (UInt8.ofNat (wid n)).toNat = wid n := by
  have := wid_le n
  rw [UInt8.toNat_ofNat']
  omega
theorem getD_mid (a b : List UInt8) (x : UInt8) : (a ++ x :: b).getD a.length 0 = x := by
  rw [List.getD_eq_getElem?_getD, List.getElem?_append_right (Nat.le_refl _), Nat.sub_self]; rfl
theorem getN_put {n : Nat} (hn : n < 18446744073709551616) (a b : List UInt8) : getN (a ++ (numB n ++ b)) a.length = (n, a.length + (numB n).length, 0) := by
  have hw := wid_le n
  have hd : (a ++ (numB n ++ b)).getD a.length 0 = UInt8.ofNat (wid n) := by rw [numB_eq, List.cons_append]; exact getD_mid _ _ _
  have hk : ((a ++ (numB n ++ b)).getD a.length 0).toNat = wid n := by rw [hd, wid8]
  have hl : (a ++ (numB n ++ b)).length = a.length + (1 + wid n) + b.length := by rw [List.length_append, List.length_append, numB_len]; omega
  have hdr : ((a ++ (numB n ++ b)).drop (a.length + 1)).take (wid n) = beB n := by
    rw [← List.drop_drop, List.drop_left, numB_eq, List.cons_append, List.drop_succ_cons, List.drop_zero, ← beB_len n, List.take_left]
  unfold getN
  rw [if_neg (by omega), if_neg (by omega), hk, if_neg (by omega), if_neg (by omega), if_neg ?_, hdr, beB_all hn, numB_len]
  · congr 2; omega
  · rintro ⟨h1, h2⟩
    have e : (a ++ (numB n ++ b)).getD (a.length + 1) 0 = (beB n)[0]'(by rw [beB_len]; exact h1) := by
      rw [List.getD_eq_getElem?_getD, List.getElem?_append_right (by omega), numB_eq, List.cons_append, show a.length + 1 - a.length = 0 + 1 by omega, List.getElem?_cons_succ, List.getElem?_append_left (by rw [beB_len]; exact h1), List.getElem?_eq_getElem (by rw [beB_len]; exact h1)]
      rfl
    rw [e, beB_at, UInt8.toNat_ofNat', Nat.sub_zero] at h2
    have h3 := (wid_lt (n := n) (k := wid n - 1) (by omega)).1 (by omega)
    rw [Nat.pow_mul] at h3
    have h4 := wid_ub hn
    have h5 : n / 256 ^ (wid n - 1) < 256 := by
      rw [Nat.div_lt_iff_lt_mul (Nat.pow_pos (by omega)), ← Nat.pow_succ']
      rw [show (wid n - 1).succ = wid n by omega]
      exact h4
    have h6 : (2 : Nat) ^ 8 = 256 := by decide
    rw [h6] at h3
    omega
theorem getI_put (k : IDV) (a b : List UInt8) : getI (a ++ (bI k ++ b)) a.length = (k, a.length + 16, 0) := by
  have hl : (a ++ (bI k ++ b)).length = a.length + 16 + b.length := by rw [List.length_append, List.length_append, bI_len]; omega
  unfold getI
  rw [if_neg (by omega), if_neg (by omega), List.drop_left, show (bI k ++ b).take 16 = bI k from List.take_left (l₁ := bI k), idB_bI]
theorem getT_put {t : List UInt8} {most : Nat} (ht : t.length ≤ most) (hm : most < 18446744073709551616) (a b : List UInt8) : getT (a ++ (textB t ++ b)) a.length most = (t, a.length + (textB t).length, 0) := by
  have hN : getN (a ++ (textB t ++ b)) a.length = (t.length, a.length + (numB t.length).length, 0) := by
    unfold textB
    rw [List.append_assoc]
    exact getN_put (by omega) a (t ++ b)
  have hl : (a ++ (textB t ++ b)).length = a.length + (numB t.length).length + t.length + b.length := by
    unfold textB
    simp only [List.length_append]; omega
  unfold getT
  rw [hN]
  simp only
  rw [if_neg (by simp), if_neg (by omega), if_neg (by omega)]
  have hd : ((a ++ (textB t ++ b)).drop (a.length + (numB t.length).length)).take t.length = t := by
    unfold textB
    rw [← List.drop_drop, List.drop_left, List.append_assoc, List.drop_left, List.take_left]
  rw [hd]
  have e : (textB t).length = (numB t.length).length + t.length := by unfold textB; rw [List.length_append]
  rw [e, Nat.add_assoc]
theorem readP_incB {inc m : Nat} (h1 : inc < m) (h2 : m ≤ 1048576) : readP inc (incB m) = some (.inl m) := by
  have hN0 : getN (incB m) 0 = (1, (numB 1).length, 0) := by
    have := getN_put (n := 1) (by omega) [] (numB m)
    rw [List.nil_append, List.length_nil, Nat.zero_add] at this
    exact this
  have hN1 : getN (incB m) (numB 1).length = (m, (numB 1).length + (numB m).length, 0) := by
    have := getN_put (n := m) (by omega) (numB 1) []
    rw [List.append_nil] at this
    exact this
  exact readP_inc hN0 hN1 rfl (by unfold incB; rw [List.length_append]; omega) (by omega) (by omega)
/-- an item that may be kept -/
def okIt (x : ItV) : Prop := 1 ≤ x.ver.n ∧ x.ver.n < 4611686018427387904 ∧ x.bs.length ≤ 64
theorem readP_formB {inc : Nat} {x : ItV} (h : okIt x) : readP inc (formB x) = some (.inr x) := by
  obtain ⟨key, ⟨vn, who⟩, bs⟩ := x
  obtain ⟨h1, h2, h3⟩ := h
  simp only at h1 h2 h3
  obtain ⟨v, rfl⟩ : ∃ v : Nat, vn = (v : Int) := ⟨vn.toNat, by omega⟩
  have hv : ((v : Nat) : Int).toNat = v := Int.toNat_natCast v
  have e : formB ⟨key, ⟨(v : Int), who⟩, bs⟩ = numB 2 ++ (bI key ++ (numB v ++ (bI who ++ (textB bs ++ [])))) := by
    unfold formB
    simp only [hv, List.append_assoc, List.append_nil]
  rw [e]
  have hN0 : getN (numB 2 ++ (bI key ++ (numB v ++ (bI who ++ (textB bs ++ []))))) 0 = (2, (numB 2).length, 0) := by
    have := getN_put (n := 2) (by omega) [] (bI key ++ (numB v ++ (bI who ++ (textB bs ++ []))))
    rw [List.nil_append, List.length_nil, Nat.zero_add] at this
    exact this
  have hK1 := getI_put key (numB 2) (numB v ++ (bI who ++ (textB bs ++ [])))
  have hN2 := getN_put (n := v) (by omega) (numB 2 ++ bI key) (bI who ++ (textB bs ++ []))
  rw [List.append_assoc, List.length_append, bI_len] at hN2
  have hK3 := getI_put who (numB 2 ++ (bI key ++ numB v)) (textB bs ++ [])
  have hT4 := getT_put h3 (by omega) (numB 2 ++ (bI key ++ (numB v ++ bI who))) []
  simp only [List.append_assoc, List.length_append, bI_len, Nat.add_assoc] at hK1 hN2 hK3 hT4 ⊢
  exact readP_item hN0 hK1 rfl hN2 (by omega) (by omega) hK3 rfl hT4 rfl (by simp only [List.length_append, bI_len, List.length_nil]; omega)
/-- with endless power all is written -/
theorem dws_endless : ∀ (xs : List (Nat × List UInt8)) (σ : DS), σ.p < 0 → ∃ σ', dws σ xs = (σ', true) ∧ σ'.p = σ.p
  | [], σ, _ => ⟨σ, rfl, rfl⟩
  | x :: xs, σ, h => by
    have h1 : (dw σ x.1 x.2).p = σ.p := by
      show (if 0 < σ.p then σ.p - 1 else σ.p) = σ.p
      rw [if_neg (by omega)]
    obtain ⟨σ', h2, h3⟩ := dws_endless xs (dw σ x.1 x.2) (by rw [h1]; exact h)
    exact ⟨σ', by rw [dws_cons (by omega)]; exact h2, by rw [h3, h1]⟩
theorem append_ok {n : Nat} {q : LogP} {σ : DS} {rec_ : List UInt8} (hp : σ.p < 0) (hl : rec_.length ≤ 1024) (hr : needN rec_.length ≤ n - 2 - q.used) :
    ∃ σ', appendP n q false σ rec_ = (0, ⟨q.gen + 1, q.used + needN rec_.length, q.cnt + 1, q.recs ++ [rec_]⟩, false, σ') ∧ σ'.p = σ.p := by
  obtain ⟨σ', h1, h2⟩ := dws_endless (planP q.gen q.used q.cnt rec_) σ hp
  exact ⟨σ', appendP_ok (by omega) (by omega) h1, h2⟩
/-- a log that was appended to -/
theorem append_used {n : Nat} {q q' : LogP} {σ σ' : DS} {down dn : Bool} {rec_ : List UInt8} {e : Int} (h : appendP n q down σ rec_ = (e, q', dn, σ')) : (e = 0 ∧ q' = ⟨q.gen + 1, q.used + needN rec_.length, q.cnt + 1, q.recs ++ [rec_]⟩) ∨ (e ≠ 0 ∧ q' = q) := by
  unfold appendP at h
  split at h
  · cases h; exact .inr ⟨by decide, rfl⟩
  · split at h
    · cases h; exact .inr ⟨by decide, rfl⟩
    · split at h
      · cases h; exact .inr ⟨by decide, rfl⟩
      · split at h
        · cases h; exact .inl ⟨rfl, rfl⟩
        · cases h; exact .inr ⟨by decide, rfl⟩
/-- what holds between a vault's log, its disk, and its items -/
structure VaI (n : Nat) (q : LogP) (σ : DS) (inc : Nat) (L : List ItV) : Prop where
  log : LogI n q σ
  held : heldV q.recs = some (inc, L)
  inc : inc ≤ 1048576
theorem needN_1 {k : Nat} (h : k ≤ 62) : needN k = 1 := by unfold needN; omega
theorem incB_len (m : Nat) : (incB m).length ≤ 18 := by
  unfold incB
  have h1 := numB_le 1
  have h2 := numB_le m
  rw [List.length_append]; omega

end Go.Proofs.Ytoaenmlhehcjfaa
/-
  The chapter's example of layer 18: contract.
-/
namespace Go.Proofs.Ytoaenmlhehcjfaa
open Go.J Go.RowKit
set_option linter.unusedVariables false
set_option linter.unusedSimpArgs false
set_option maxRecDepth 8000
def nI (k : UInt8) : IDV := fun i => if i = 15 then k else 0
theorem vopen_ok {n inc : Nat} {q : LogP} {σ : DS} {L : List ItV} (hn : n ≤ 4096) (hI : LogI n q σ) (hh : heldV q.recs = some (inc, L)) (hi : inc < 1048576) (hp : σ.p < 0) (hg : q.gen + 1 < 9223372036854775808) (hr : 1 ≤ n - 2 - q.used) :
    ∃ σ', vopenP n σ = (0, some (⟨q.gen + 1, q.used + 1, q.cnt + 1, q.recs ++ [incB (inc + 1)]⟩, inc + 1, L), σ') ∧ LogI n ⟨q.gen + 1, q.used + 1, q.cnt + 1, q.recs ++ [incB (inc + 1)]⟩ σ' ∧ σ'.p = σ.p ∧ σ.k ≤ σ'.k ∧ σ'.k ≤ σ.k + 19 := by
  have hl := incB_len (inc + 1)
  have hn1 : needN (incB (inc + 1)).length = 1 := needN_1 (by omega)
  obtain ⟨σ', h1, h2⟩ := append_ok (n := n) (q := q) (σ := σ) (rec_ := incB (inc + 1)) hp (by omega) (by rw [hn1]; exact hr)
  rw [hn1] at h1
  obtain ⟨e, q', dn, σ2, h3, h4, h5, h6, _⟩ := append_law (down := false) (rec_ := incB (inc + 1)) hn hI hg
  rw [h1] at h3
  simp only [Prod.mk.injEq] at h3
  obtain ⟨rfl, rfl, rfl, rfl⟩ := h3
  exact ⟨σ', vopenP_ok hI.open_ hh (by omega) h1 rfl, h4, h2, h5, h6⟩
theorem put_ok {n : Nat} {q : LogP} {σ : DS} {x : ItV} (hn : n ≤ 4096) (hI : LogI n q σ) (hx : x.bs.length ≤ 64) (hp : σ.p < 0) (hg : q.gen + 1 < 9223372036854775808) (hr : needN (formB x).length ≤ n - 2 - q.used) :
    ∃ σ', appendP n q false σ (formB x) = (0, ⟨q.gen + 1, q.used + needN (formB x).length, q.cnt + 1, q.recs ++ [formB x]⟩, false, σ') ∧ LogI n ⟨q.gen + 1, q.used + needN (formB x).length, q.cnt + 1, q.recs ++ [formB x]⟩ σ' ∧ σ'.p = σ.p ∧ σ.k ≤ σ'.k ∧ σ'.k ≤ σ.k + 19 := by
  have hl := formB_le x
  obtain ⟨σ', h1, h2⟩ := append_ok (n := n) (q := q) (σ := σ) (rec_ := formB x) hp (by omega) hr
  obtain ⟨e, q', dn, σ2, h3, h4, h5, h6, _⟩ := append_law (down := false) (rec_ := formB x) hn hI hg
  rw [h1] at h3
  simp only [Prod.mk.injEq] at h3
  obtain ⟨rfl, rfl, rfl, rfl⟩ := h3
  exact ⟨σ', h1, h4, h2, h5, h6⟩
theorem held_inc {rs : List (List UInt8)} {inc : Nat} {L : List ItV} (h : heldV rs = some (inc, L)) (hi : inc < 1048576) : heldV (rs ++ [incB (inc + 1)]) = some (inc + 1, L) := by
  rw [heldV_snoc, h]
  simp only [Option.bind_some, stepV, readP_incB (show inc < inc + 1 by omega) (show inc + 1 ≤ 1048576 by omega)]
theorem held_item {rs : List (List UInt8)} {inc : Nat} {L : List ItV} {x : ItV} (h : heldV rs = some (inc, L)) (hx : okIt x) : heldV (rs ++ [formB x]) = some (inc, takeV L x) := by
  rw [heldV_snoc, h]
  simp only [Option.bind_some, stepV, readP_formB hx]
def itF : ItV := ⟨nI 3, ⟨1, nI 7⟩, [97]⟩
def QF1 : LogP := ⟨1, 1, 1, [incB 1]⟩
def QF2 : LogP := ⟨2, 2, 2, [incB 1, formB itF]⟩
def QF3 : LogP := ⟨3, 3, 3, [incB 1, formB itF, incB 2]⟩
theorem itF_need : needN (formB itF).length = 1 := by decide +kernel
theorem itG_need : needN (formB ⟨nI 3, ⟨1, nI 8⟩, []⟩).length = 1 := by decide +kernel
theorem logI_zero {n : Nat} (h : 3 ≤ n) (hn : n ≤ 4096) (p k : Int) (hp : p < 9223372036854775808) : LogI n ⟨0, 0, 0, []⟩ ⟨List.replicate (64 * n) 0, p, k⟩ := ⟨by simp, openP_zero h hn, hp⟩
theorem fx_all : ∃ σ1 σ2 σ3 : DS, ∃ q4 σ4, (vopenP 20 ⟨List.replicate (64 * 20) 0, -1, 0⟩ = (0, some (QF1, 1, []), σ1) ∧ LogI 20 QF1 σ1 ∧ 0 ≤ σ1.k ∧ σ1.k ≤ 100) ∧
    (vputP 20 QF1 false σ1 [] (nI 3) [97] (nI 7) = (0, some itF, QF2, false, σ2) ∧ LogI 20 QF2 σ2 ∧ 0 ≤ σ2.k ∧ σ2.k ≤ 200) ∧
    (vopenP 20 σ2 = (0, some (QF3, 2, [itF]), σ3) ∧ LogI 20 QF3 σ3 ∧ 0 ≤ σ3.k ∧ σ3.k ≤ 300) ∧
    vmergeP 20 QF3 false σ3 [itF] ⟨nI 3, ⟨1, nI 6⟩, []⟩ = (false, 0, QF3, false, σ3) ∧
    vmergeP 20 QF3 false σ3 [itF] ⟨nI 3, ⟨1, nI 8⟩, []⟩ = (true, 0, q4, false, σ4) := by
  have h0 : heldV [] = some (0, []) := rfl
  have hh1 : heldV [incB 1] = some (1, []) := held_inc (rs := []) h0 (by omega)
  have hh2 : heldV [incB 1, formB itF] = some (1, [itF]) := held_item (rs := [incB 1]) hh1 ⟨by decide, by decide, by decide⟩
  obtain ⟨σ1, a1, a2, a3, a4, a5⟩ := vopen_ok (n := 20) (q := ⟨0, 0, 0, []⟩) (σ := ⟨List.replicate (64 * 20) 0, -1, 0⟩) (by omega) (logI_zero (by omega) (by omega) _ _ (by omega)) h0 (by omega) (by show (-1 : Int) < 0; omega) (by simp) (by simp)
  simp only at a3 a4 a5
  obtain ⟨σ2, b1, b2, b3, b4, b5⟩ := put_ok (n := 20) (q := QF1) (σ := σ1) (x := itF) (by omega) a2 (by decide) (by omega) (by decide) (by rw [itF_need]; decide)
  rw [itF_need] at b1 b2
  obtain ⟨σ3, c1, c2, c3, c4, c5⟩ := vopen_ok (n := 20) (q := QF2) (σ := σ2) (by omega) b2 hh2 (by omega) (by omega) (by decide) (by decide)
  obtain ⟨σ4, d1, _⟩ := put_ok (n := 20) (q := QF3) (σ := σ3) (x := ⟨nI 3, ⟨1, nI 8⟩, []⟩) (by omega) c2 (by decide) (by omega) (by decide) (by rw [itG_need]; decide)
  obtain ⟨q4, d2⟩ : ∃ q, appendP 20 QF3 false σ3 (formB ⟨nI 3, ⟨1, nI 8⟩, []⟩) = (0, q, false, σ4) := ⟨_, d1⟩
  refine ⟨σ1, σ2, σ3, q4, σ4, ⟨a1, a2, by omega, by omega⟩, ⟨?_, b2, by omega, by omega⟩, ⟨c1, c2, by omega, by omega⟩, ?_, ?_⟩
  · unfold vputP
    rw [if_neg (by decide), if_neg (by decide +kernel), show (⟨nI 3, ⟨verN [] (nI 3) + 1, nI 7⟩, [97]⟩ : ItV) = itF by decide +kernel, b1]
    rfl
  · unfold vmergeP
    rw [if_neg (by decide), if_neg (by decide), if_pos (by decide +kernel)]
  · unfold vmergeP
    rw [if_neg (by decide), if_neg (by decide), if_neg (by decide +kernel), d2]
    rfl

theorem n18_spec (k : UInt8) (w : World) :
    Calls Try.prog 38 [u8 k].toArray w fun r w' => r = .returned (.agg (cI (nI k)).toArray) ∧ Bel w w' := by
  refine calls_of_J (args := [u8 k]) (e := [(0, u8 k)]) Try.func38 rfl rfl ⟨rfl, trivial⟩ (St.start w) ?_
  refine JC.seq (fun K0 hK0 => ?_)
  refine JC.region ?_
  refine J.alloc Ty.zID rfl rfl (fun b2 => ?_)
  refine J.nil ?_
  refine JX.thenN (hK0 _ _ ?_)
  refine JC.seq (fun K1 hK1 => ?_)
  refine JC.region ?_
  refine J.move rfl rfl ?_
  refine J.buildA (cs := cI (nI k)) Ty.ar23 Ty.s5 Ty.z23 rfl (by kernel_rfl) rfl ?_
  refine J.storeW (cs := cI zI) (vs := cI (nI k)) Ty.s23 rfl rfl rfl rfl rfl (one_cI _) .here ?_
  refine J.nil ?_
  refine JX.thenN (hK1 _ _ ?_)
  refine JC.ret ?_
  refine JX.retC rfl rfl Ty.a23 Ty.s23 (vs := cI (nI k)) rfl (fun w1 hw => Cells.of_block (hw.own _ (.head _)) rfl) (fun w1 hw => ?_)
  exact ⟨rfl, (hw.drop (List.nil_sublist _)).below⟩

set_option maxHeartbeats 2000000 in
theorem fixed18_spec (w : World) :
    Calls Try.prog 10 [].toArray w fun r w' => r = .returned (.bool true) ∧ Bel w w' := by
  obtain ⟨σ1, σ2, σ3, q4, σ4, ⟨hO1, hI1, hk1, hkb1⟩, ⟨hO2, hI2, hk2, hkb2⟩, ⟨hO3, hI3, hk3, hkb3⟩, hM6, hM8⟩ := fx_all
  refine calls_of_J (args := []) (e := []) Try.func10 rfl rfl trivial (St.start w) ?_
  refine JC.seq (fun K0 hK0 => ?_)
  refine JC.region ?_
  refine J.assign rfl rfl ?_
  refine J.nil ?_
  refine JX.thenN (hK0 _ _ ?_)
  refine JC.seq (fun K1 hK1 => ?_)
  refine JC.region ?_
  refine J.callS (α := Nat × Nat) (l1 := []) (L := fun x => [(x.1, dkO x.2 (min (max (20 : Int) 0) 4096).toNat (-1) 0), (x.2, dkS (List.replicate (64 * (min (max (20 : Int) 0) 4096).toNat) 0))]) (V := fun x => .pointer (some ⟨x.1, 0, none⟩)) (Pr := fun _ => True) Ty.bd15 rfl rfl (fun w1 hw => new_spec 20 w1) (fun x _ => ?_)
  obtain ⟨d, s⟩ := x
  have hN : (min (max (20 : Int) 0) 4096).toNat = 20 := by decide
  simp only [hN, List.append_nil]
  refine J.assign rfl rfl ?_
  refine J.nil ?_
  refine JX.thenN (hK1 _ _ ?_)
  refine JC.seq (fun K2 hK2 => ?_)
  refine JC.region ?_
  refine J.move rfl rfl ?_
  refine J.perm ([(d, dkO s 20 (-1) 0), (s, dkS (List.replicate (64 * 20) 0))] ++ []) (.refl _) ?_
  refine J.callS (α := VO) (V := VO.val) (Pr := fun z => z.Pr 20 (⟨(List.replicate (64 * 20) 0), -1, 0⟩ : DS)) (L := fun z => z.lst d s 20) Ty.bd17 rfl rfl (fun w1 hw => vopen_spec d s 20 (List.replicate (64 * 20) 0) (-1) 0 w1 (St.owns hw) (by simp) (by omega) (by omega) (by omega) (by omega)) (fun z hz => ?_)
  rcases z with ⟨ez, sz⟩ | ⟨v1, m1, l1, q1, inc1, L1, es1, ck1, sz⟩
  · exact absurd (congrArg (fun x => x.1) (hz.1.symm.trans hO1)) hz.2
  obtain ⟨hz1, hT1, hV1⟩ := hz
  rw [hO1] at hz1
  simp only [Prod.mk.injEq, Option.some.injEq, true_and] at hz1
  obtain ⟨⟨rfl, rfl, hL1⟩, rfl⟩ := hz1
  obtain rfl := List.map_eq_nil_iff.1 hL1.symm
  refine J.name 16 rfl (show _ = Value.tuple #[.pointer (some ⟨v1, 0, none⟩), .int .i64 0] from rfl) ?_
  refine J.perm ((v1, vaO (.pointer (some ⟨l1, 0, none⟩)) m1 ((1 : Nat) : Int)) :: (m1, .map es1 ck1) :: (l1, lgO d QF1 false) :: (d, dkO s 20 σ1.p σ1.k) :: (s, dkS σ1.B) :: []) (by simp only [VO.lst, lpsH, List.flatMap_nil, List.append_nil]; exact (by (refine perm_cnt (fun _ => ?_)); simp only [cntB_append, cntB_cons, cntB_nil, Nat.add_zero, Nat.zero_add]; try ac_rfl)) ?_
  refine J.move rfl rfl ?_
  refine J.extract rfl rfl rfl ?_
  refine J.extract rfl rfl rfl ?_
  refine J.assign rfl rfl ?_
  refine J.assign rfl rfl ?_
  refine J.nil ?_
  refine JX.thenN (hK2 _ _ ?_)
  refine JC.seq (fun K3 hK3 => ?_)
  refine JC.seq (fun K4 hK4 => ?_)
  refine JC.region ?_
  refine J.move rfl rfl ?_
  refine J.eqNil Ty.u34 rfl rfl rfl ?_
  refine J.move rfl rfl ?_
  first | refine J.skip rfl rfl rfl rfl rfl ?_ | refine J.skipU rfl rfl rfl rfl ?_ | (refine J.unguard rfl rfl rfl ?_; refine J.move rfl rfl ?_)
  first | refine J.skip rfl rfl rfl rfl rfl ?_ | refine J.skipU rfl rfl rfl rfl ?_ | (refine J.unguard rfl rfl rfl ?_; refine J.eqNil Ty.u38 rfl rfl rfl ?_)
  (first | refine J.pickT rfl rfl rfl ?_ | refine J.pickF rfl rfl rfl ?_)
  refine J.move rfl rfl ?_
  first | refine J.skip rfl rfl rfl rfl rfl ?_ | refine J.skipU rfl rfl rfl rfl ?_ | (refine J.unguard rfl rfl rfl ?_; refine J.move rfl rfl ?_)
  refine J.unguard rfl rfl rfl ?_
  refine J.bin rfl rfl rfl rfl ?_
  refine J.name 27 rfl (show _ = Value.bool false by simp) ?_
  (first | refine J.pickT rfl rfl rfl ?_ | refine J.pickF rfl rfl rfl ?_)
  refine J.move rfl rfl ?_
  first | refine J.skip rfl rfl rfl rfl rfl ?_ | refine J.skipU rfl rfl rfl rfl ?_ | (refine J.unguard rfl rfl rfl ?_; refine J.move rfl rfl ?_)
  refine J.unguard rfl rfl rfl ?_
  refine J.callB (v := .int .i64 1) (fun w1 w2 hw hb => hw.step hb) Ty.bd18 rfl rfl (fun w1 hw => inc_spec v1 m1 _ 1 w1 (St.owns' hw)) ?_
  refine J.unguard rfl rfl rfl ?_
  refine J.bin rfl rfl rfl rfl ?_
  refine J.name 32 rfl (show _ = Value.bool false by simp) ?_
  (first | refine J.pickT rfl rfl rfl ?_ | refine J.pickF rfl rfl rfl ?_)
  refine J.nil ?_
  refine JX.thenN (hK4 _ _ ?_)
  first | refine JC.condF rfl ?_ | refine JC.cond rfl (fun h => by first | (exfalso; simp at h; omega) | (simp at h)) (fun _ => ?_)
  refine JC.skip ?_
  refine JX.thenN (hK3 _ _ ?_)
  refine JC.seq (fun K5 hK5 => ?_)
  refine JC.region ?_
  refine J.move rfl rfl ?_
  refine J.callB (v := .agg (cI (nI 3)).toArray) (fun w1 w2 hw hb => hw.step hb) Ty.bd38 rfl rfl (fun w1 hw => n18_spec 3 w1) ?_
  refine J.buildSl (cs := ([97].map u8 : List Value)) Ty.el26 Ty.s5 Ty.z5 rfl rfl rfl rfl rfl rfl rfl (fun b37 => ?_)
  refine J.convBytes Ty.u26 Ty.u5 rfl .here rfl ?_
  refine J.perm ((b37, Obj.cells (([97].map u8) : List Value).toArray 5 (1, 2)) :: (v1, vaO (.pointer (some ⟨l1, 0, none⟩)) m1 ((1 : Nat) : Int)) :: (m1, .map es1 ck1) :: (l1, lgO d QF1 false) :: (d, dkO s 20 σ1.p σ1.k) :: (s, dkS σ1.B) :: []) (.refl _) ?_
  refine J.callB (v := .agg (cI (nI 7)).toArray) (fun w1 w2 hw hb => hw.step hb) Ty.bd38 rfl rfl (fun w1 hw => n18_spec 7 w1) ?_
  refine J.perm (vltB v1 m1 l1 d s 20 QF1 false 1 es1 ck1 ⟨σ1.B, σ1.p, σ1.k⟩ ++ [(b37, Obj.cells (([97].map u8) : List Value).toArray 5 (1, 2))]) (by (refine perm_cnt (fun _ => ?_)); simp only [cntB_append, cntB_cons, cntB_nil, Nat.add_zero, Nat.zero_add]; try ac_rfl) ?_
  refine J.callS (α := PutR) (V := PutR.val) (Pr := fun z => z.Pr 20 QF1 false σ1 [] (nI 3) [97] (nI 7)) (L := fun z => z.lst v1 m1 l1 d s 20 1 es1 ck1) Ty.bd24 rfl rfl (fun w1 hw => vput_spec v1 m1 l1 d s 20 1 QF1 false σ1.B σ1.p σ1.k [] es1 ck1 hT1 hV1 hI1 (by omega) hk1 (by omega) (nI 3) (nI 7) [97] (.slice (some ⟨b37, 0, none⟩) 1 1) w1 (St.owns hw) (Row.own (cs := [97].map u8) (tb := 5) (fr := (1, 2)) hw (List.mem_append_right _ (.head _)) rfl (Nat.le_refl _)) (.inr fun b o k c e => by
    simp only [Value.slice.injEq, Option.some.injEq, Addr.mk.injEq] at e
    rw [← e.1.1]
    exact St.off (l1 := vltB v1 m1 l1 d s 20 QF1 false 1 es1 ck1 ⟨σ1.B, σ1.p, σ1.k⟩) hw (o := (b37, Obj.cells (([97].map u8) : List Value).toArray 5 (1, 2)).2) (.head _)) (by decide)) (fun z hz => ?_)
  rcases z with ⟨ez, qz, dz, sz⟩ | ⟨hp9, y, ly, es2, ck2, qz, dz, sz⟩
  · exact absurd (congrArg (fun x => x.1) (hz.1.symm.trans hO2)) hz.2
  obtain ⟨hz1, hz2, hy, hT2⟩ := hz
  have hz3 := hO2.symm.trans hz1
  simp only [Prod.mk.injEq, Option.some.injEq, true_and] at hz3
  obtain ⟨hit, rfl, rfl, rfl⟩ := hz3
  obtain ⟨kh, vh, bh, sh, lh⟩ := hp9
  simp only [HI.it, itF, ItV.mk.injEq] at hit
  obtain ⟨rfl, rfl, rfl⟩ := hit
  simp only at hy
  obtain ⟨ay, cy, rfl, hcy⟩ := hy.form
  refine J.name 40 rfl (show _ = Value.tuple #[.agg (cT (nI 3) ⟨1, nI 7⟩ (.slice ay 1 cy)).toArray, .int .i64 0] from rfl) ?_
  refine J.perm ((v1, vaO (.pointer (some ⟨l1, 0, none⟩)) m1 ((1 : Nat) : Int)) :: (m1, .map es2 ck2) :: (l1, lgO d QF2 false) :: (d, dkO s 20 σ2.p σ2.k) :: (s, dkS σ2.B) :: (lh ++ (ly ++ [(b37, Obj.cells (([97].map u8) : List Value).toArray 5 (1, 2))]))) (by simp only [PutR.lst]; exact (by (refine perm_cnt (fun _ => ?_)); simp only [cntB_append, cntB_cons, cntB_nil, Nat.add_zero, Nat.zero_add]; try ac_rfl)) ?_
  refine J.move rfl rfl ?_
  refine J.extract rfl rfl rfl ?_
  refine J.extract rfl rfl rfl ?_
  refine J.alloc Ty.zIt rfl rfl (fun b4 => ?_)
  refine J.storeW (cs := cH zH) (vs := cT (nI 3) ⟨1, nI 7⟩ (.slice ay 1 cy)) Ty.s28 rfl rfl rfl rfl rfl one_cT .here ?_
  refine J.assign rfl rfl ?_
  refine J.nil ?_
  refine JX.thenN (hK5 _ _ ?_)
  refine JC.seq (fun K6 hK6 => ?_)
  refine JC.region ?_
  refine J.move rfl rfl ?_
  refine J.perm ([(d, dkO s 20 σ2.p σ2.k), (s, dkS σ2.B)] ++ ((v1, vaO (.pointer (some ⟨l1, 0, none⟩)) m1 ((1 : Nat) : Int)) :: (m1, .map es2 ck2) :: (l1, lgO d QF2 false) :: (lh ++ (ly ++ [(b4, cb (cT (nI 3) ⟨1, nI 7⟩ (.slice ay 1 cy)) 28), (b37, Obj.cells (([97].map u8) : List Value).toArray 5 (1, 2))])))) (by (refine perm_cnt (fun _ => ?_)); simp only [cntB_append, cntB_cons, cntB_nil, Nat.add_zero, Nat.zero_add]; try ac_rfl) ?_
  refine J.callS (α := VO) (V := VO.val) (Pr := fun z => z.Pr 20 σ2) (L := fun z => z.lst d s 20) Ty.bd17 rfl rfl (fun w1 hw => vopen_spec d s 20 σ2.B σ2.p σ2.k w1 (St.owns hw) hI2.len (by omega) hk2 (by omega) hI2.p) (fun z hz => ?_)
  rcases z with ⟨ez, sz⟩ | ⟨v2, m2, l2, q1, inc1, L3, es3, ck3, sz⟩
  · exact absurd (congrArg (fun x => x.1) (hz.1.symm.trans hO3)) hz.2
  obtain ⟨hz1, hT3, hV3⟩ := hz
  rw [hO3] at hz1
  simp only [Prod.mk.injEq, Option.some.injEq, true_and] at hz1
  obtain ⟨⟨rfl, rfl, hL3⟩, rfl⟩ := hz1
  obtain ⟨h2, rfl, hit2⟩ := List.map_eq_singleton_iff.1 hL3.symm
  obtain ⟨kh2, vh2, bh2, sv2, lp2⟩ := h2
  simp only [HI.it, itF, ItV.mk.injEq] at hit2
  obtain ⟨rfl, rfl, rfl⟩ := hit2
  refine J.name 45 rfl (show _ = Value.tuple #[.pointer (some ⟨v2, 0, none⟩), .int .i64 0] from rfl) ?_
  refine J.perm ((v2, vaO (.pointer (some ⟨l2, 0, none⟩)) m2 ((2 : Nat) : Int)) :: (m2, .map es3 ck3) :: (l2, lgO d QF3 false) :: (d, dkO s 20 σ3.p σ3.k) :: (s, dkS σ3.B) :: (lp2 ++ ((v1, vaO (.pointer (some ⟨l1, 0, none⟩)) m1 ((1 : Nat) : Int)) :: (m1, .map es2 ck2) :: (l1, lgO d QF2 false) :: (lh ++ (ly ++ [(b4, cb (cT (nI 3) ⟨1, nI 7⟩ (.slice ay 1 cy)) 28), (b37, Obj.cells (([97].map u8) : List Value).toArray 5 (1, 2))]))))) (by simp only [VO.lst, lpsH, List.flatMap_cons, List.flatMap_nil, List.append_nil]; exact (by (refine perm_cnt (fun _ => ?_)); simp only [cntB_append, cntB_cons, cntB_nil, Nat.add_zero, Nat.zero_add]; try ac_rfl)) ?_
  refine J.move rfl rfl ?_
  refine J.extract rfl rfl rfl ?_
  refine J.extract rfl rfl rfl ?_
  refine J.assign rfl rfl ?_
  refine J.assign rfl rfl ?_
  refine J.nil ?_
  refine JX.thenN (hK6 _ _ ?_)
  refine JC.seq (fun K7 hK7 => ?_)
  refine JC.seq (fun K8 hK8 => ?_)
  apply JC.drawX (α := Nat × Unit) 22 (fun x => match x with | ⟨xu, uu⟩ => [.int .i64 0, .bool false, .bool false, .int .i64 0, .bool false, .bool false, .bool false, .pointer (some ⟨v2, 0, none⟩), .bool false, .bool false, .bool false, .pointer (some ⟨v2, 0, none⟩), .int .i64 2, .bool false, .bool false, .bool false, .pointer (some ⟨b4, 0 + 16, none⟩), .agg (cV (⟨1, nI 7⟩ : WV)).toArray, .agg (cI (nI 7)).toArray, .agg (cV (⟨1, nI 7⟩ : WV)).toArray, .bool false, .bool false]) (fun m x => match x with | ⟨xu, uu⟩ => fun w1 => (True) ∧ St w [] ((v2, vaO (.pointer (some ⟨l2, 0, none⟩)) m2 ((2 : Nat) : Int)) :: (m2, .map es3 ck3) :: (l2, lgO d QF3 false) :: (d, dkO s 20 σ3.p σ3.k) :: (s, dkS σ3.B) :: (lp2 ++ ((v1, vaO (.pointer (some ⟨l1, 0, none⟩)) m1 ((1 : Nat) : Int)) :: (m1, .map es2 ck2) :: (l1, lgO d QF2 false) :: (lh ++ (ly ++ [(b4, cb (cT (nI 3) ⟨1, nI 7⟩ (.slice ay 1 cy)) 28), (b37, Obj.cells (([97].map u8) : List Value).toArray 5 (1, 2))]))))) w1) Ty.mixed rfl rfl rfl (by kernel_rfl) rfl rfl ?hinit ?hstep ?htail
  case hinit => exact fun w1 hw => ⟨(0, ()), trivial, hw.drew⟩
  case hstep =>
    refine ⟨fun m x hm hp => ?_, fun m x hm hp => ?_, fun m x hm hp => ?_, fun m x hm hp => ?_, fun m x hm hp => ?_, fun m x hm hp => ?_, fun m x hm hp => ?_, fun m x hm hp => ?_, fun m x hm hp => ?_, fun m x hm hp => ?_, fun m x hm hp => ?_, fun m x hm hp => ?_, fun m x hm hp => ?_, fun m x hm hp => ?_, fun m x hm hp => ?_, fun m x hm hp => ?_, fun m x hm hp => ?_, fun m x hm hp => ?_, fun m x hm hp => ?_, fun m x hm hp => ?_, fun m x hm hp => ?_, fun m x hm hp => ?_, trivial⟩
    · skip
      obtain ⟨xu, uu⟩ := x
      show J _ _ _ _ _ (_) _
      refine J.pr (fun hF => ?_)
      refine J.move rfl rfl ?_
      exact J.finX rfl (fun _ hw => ⟨⟨xu, uu⟩, rfl, fun _ _ _ => rfl, hF, hw⟩)
    · skip
      obtain ⟨xu, uu⟩ := x
      show J _ _ _ _ _ ((48, .int .i64 0) :: _) _
      refine J.pr (fun hF => ?_)
      refine J.bin rfl rfl rfl rfl ?_
      exact J.finX rfl (fun _ hw => ⟨⟨xu, uu⟩, rfl, fun _ _ _ => rfl, hF, hw⟩)
    · skip
      obtain ⟨xu, uu⟩ := x
      show J _ _ _ _ _ ((49, .bool false) :: _) _
      refine J.pr (fun hF => ?_)
      refine J.move rfl rfl ?_
      exact J.finX rfl (fun _ hw => ⟨⟨xu, uu⟩, rfl, fun _ _ _ => rfl, hF, hw⟩)
    · skip
      obtain ⟨xu, uu⟩ := x
      show J _ _ _ _ _ ((50, .bool false) :: _) _
      refine J.pr (fun hF => ?_)
      first | refine J.skip rfl rfl rfl rfl rfl ?_ | refine J.skipU rfl rfl rfl rfl ?_ | (refine J.unguard rfl rfl rfl ?_; refine J.move rfl rfl ?_)
      exact J.finX rfl (fun _ hw => ⟨⟨xu, uu⟩, rfl, fun _ _ _ => rfl, hF, hw⟩)
    · skip
      obtain ⟨xu, uu⟩ := x
      show J _ _ _ _ _ ((50, .bool false) :: (51, .int .i64 0) :: _) _
      refine J.pr (fun hF => ?_)
      first | refine J.skip rfl rfl rfl rfl rfl ?_ | refine J.skipU rfl rfl rfl rfl ?_ | (refine J.unguard rfl rfl rfl ?_; refine J.bin rfl rfl rfl rfl ?_)
      exact J.finX rfl (fun _ hw => ⟨⟨xu, uu⟩, rfl, fun _ _ _ => rfl, hF, hw⟩)
    · skip
      obtain ⟨xu, uu⟩ := x
      show J _ _ _ _ _ ((52, .bool false) :: (50, .bool false) :: _) _
      refine J.pr (fun hF => ?_)
      (first | refine J.pickT rfl rfl rfl ?_ | refine J.pickF rfl rfl rfl ?_)
      exact J.finX rfl (fun _ hw => ⟨⟨xu, uu⟩, rfl, fun _ _ _ => rfl, hF, hw⟩)
    · skip
      obtain ⟨xu, uu⟩ := x
      show J _ _ _ _ _ ((50, .bool false) :: (53, .bool false) :: _) _
      refine J.pr (fun hF => ?_)
      refine J.move rfl rfl ?_
      exact J.finX rfl (fun _ hw => ⟨⟨xu, uu⟩, rfl, fun _ _ _ => rfl, hF, hw⟩)
    · skip
      obtain ⟨xu, uu⟩ := x
      show J _ _ _ _ _ ((54, .bool false) :: _) _
      refine J.pr (fun hF => ?_)
      first | refine J.skip rfl rfl rfl rfl rfl ?_ | refine J.skipU rfl rfl rfl rfl ?_ | (refine J.unguard rfl rfl rfl ?_; refine J.move rfl rfl ?_)
      exact J.finX rfl (fun _ hw => ⟨⟨xu, uu⟩, rfl, fun _ _ _ => rfl, hF, hw⟩)
    · skip
      obtain ⟨xu, uu⟩ := x
      show J _ _ _ _ _ ((54, .bool false) :: (55, .pointer (some ⟨v2, 0, none⟩)) :: _) _
      refine J.pr (fun hF => ?_)
      first | refine J.skip rfl rfl rfl rfl rfl ?_ | refine J.skipU rfl rfl rfl rfl ?_ | (refine J.unguard rfl rfl rfl ?_; refine J.eqNil Ty.u38 rfl rfl rfl ?_)
      exact J.finX rfl (fun _ hw => ⟨⟨xu, uu⟩, rfl, fun _ _ _ => rfl, hF, hw⟩)
    · skip
      obtain ⟨xu, uu⟩ := x
      show J _ _ _ _ _ ((56, .bool false) :: (54, .bool false) :: _) _
      refine J.pr (fun hF => ?_)
      (first | refine J.pickT rfl rfl rfl ?_ | refine J.pickF rfl rfl rfl ?_)
      exact J.finX rfl (fun _ hw => ⟨⟨xu, uu⟩, rfl, fun _ _ _ => rfl, hF, hw⟩)
    · skip
      obtain ⟨xu, uu⟩ := x
      show J _ _ _ _ _ ((54, .bool false) :: (57, .bool false) :: _) _
      refine J.pr (fun hF => ?_)
      refine J.move rfl rfl ?_
      exact J.finX rfl (fun _ hw => ⟨⟨xu, uu⟩, rfl, fun _ _ _ => rfl, hF, hw⟩)
    · skip
      obtain ⟨xu, uu⟩ := x
      show J _ _ _ _ _ ((58, .bool false) :: _) _
      refine J.pr (fun hF => ?_)
      first | refine J.skip rfl rfl rfl rfl rfl ?_ | refine J.skipU rfl rfl rfl rfl ?_ | (refine J.unguard rfl rfl rfl ?_; refine J.move rfl rfl ?_)
      exact J.finX rfl (fun _ hw => ⟨⟨xu, uu⟩, rfl, fun _ _ _ => rfl, hF, hw⟩)
    · skip
      obtain ⟨xu, uu⟩ := x
      show J _ _ _ _ _ ((58, .bool false) :: (58, .bool false) :: (59, .pointer (some ⟨v2, 0, none⟩)) :: _) _
      refine J.pr (fun hF => ?_)
      refine J.unguard rfl rfl rfl ?_
      refine J.callB (v := .int .i64 2) (fun w1 w2 hw hb => hw.step hb) Ty.bd18 rfl rfl (fun w1 hw => inc_spec v2 m2 _ 2 w1 (St.owns' hw)) ?_
      exact J.finX rfl (fun _ hw => ⟨⟨xu, uu⟩, rfl, fun _ _ _ => rfl, hF, hw⟩)
    · skip
      obtain ⟨xu, uu⟩ := x
      show J _ _ _ _ _ ((58, .bool false) :: (60, .int .i64 2) :: _) _
      refine J.pr (fun hF => ?_)
      first | refine J.skip rfl rfl rfl rfl rfl ?_ | refine J.skipU rfl rfl rfl rfl ?_ | (refine J.unguard rfl rfl rfl ?_; refine J.bin rfl rfl rfl rfl ?_)
      exact J.finX rfl (fun _ hw => ⟨⟨xu, uu⟩, rfl, fun _ _ _ => rfl, hF, hw⟩)
    · skip
      obtain ⟨xu, uu⟩ := x
      show J _ _ _ _ _ ((61, .bool false) :: (58, .bool false) :: _) _
      refine J.pr (fun hF => ?_)
      (first | refine J.pickT rfl rfl rfl ?_ | refine J.pickF rfl rfl rfl ?_)
      exact J.finX rfl (fun _ hw => ⟨⟨xu, uu⟩, rfl, fun _ _ _ => rfl, hF, hw⟩)
    · skip
      obtain ⟨xu, uu⟩ := x
      show J _ _ _ _ _ ((60, .int .i64 2) :: (62, .bool false) :: _) _
      refine J.pr (fun hF => ?_)
      refine J.move rfl rfl ?_
      exact J.finX rfl (fun _ hw => ⟨⟨xu, uu⟩, rfl, fun _ _ _ => rfl, hF, hw⟩)
    · skip
      obtain ⟨xu, uu⟩ := x
      show J _ _ _ _ _ ((63, .bool false) :: _) _
      refine J.pr (fun hF => ?_)
      first | refine J.skip rfl rfl rfl rfl rfl ?_ | refine J.skipU rfl rfl rfl rfl ?_ | (refine J.unguard rfl rfl rfl ?_; refine J.fieldAddr Ty.fd28_1 rfl rfl ?_)
      exact J.finX rfl (fun _ hw => ⟨⟨xu, uu⟩, rfl, fun _ _ _ => rfl, hF, hw⟩)
    · skip
      obtain ⟨xu, uu⟩ := x
      show J _ _ _ _ _ ((63, .bool false) :: (64, .pointer (some ⟨b4, 0 + 16, none⟩)) :: _) _
      refine J.pr (fun hF => ?_)
      refine J.unguard rfl rfl rfl ?_
      refine J.loadA (vs := cV ⟨1, nI 7⟩) Ty.a25 Ty.s25 rfl rfl (fun w1 hw => Cells.of_block (hw.own ((b4, cb (cT (nI 3) ⟨1, nI 7⟩ (.slice ay 1 cy)) 28)) (by repeat first | exact .head _ | apply List.Mem.tail | apply List.mem_append_right)) rfl) rfl ?_
      exact J.finX rfl (fun _ hw => ⟨⟨xu, uu⟩, rfl, fun _ _ _ => rfl, hF, hw⟩)
    · skip
      obtain ⟨xu, uu⟩ := x
      show J _ _ _ _ _ ((63, .bool false) :: (63, .bool false) :: _) _
      refine J.pr (fun hF => ?_)
      refine J.unguard rfl rfl rfl ?_
      refine J.callB (v := .agg (cI (nI 7)).toArray) (fun w1 w2 hw hb => hw.step hb) Ty.bd38 rfl rfl (fun w1 hw => n18_spec 7 w1) ?_
      exact J.finX rfl (fun _ hw => ⟨⟨xu, uu⟩, rfl, fun _ _ _ => rfl, hF, hw⟩)
    · skip
      obtain ⟨xu, uu⟩ := x
      show J _ _ _ _ _ ((63, .bool false) :: (66, .agg (cI (nI 7)).toArray) :: _) _
      refine J.pr (fun hF => ?_)
      refine J.unguard rfl rfl rfl ?_
      refine J.buildS (cs := cV ⟨1, nI 7⟩) Ty.pl25 Ty.zVr rfl (by kernel_rfl) rfl ?_
      exact J.finX rfl (fun _ hw => ⟨⟨xu, uu⟩, rfl, fun _ _ _ => rfl, hF, hw⟩)
    · skip
      obtain ⟨xu, uu⟩ := x
      show J _ _ _ _ _ ((63, .bool false) :: (67, .agg (cV (⟨1, nI 7⟩ : WV)).toArray) :: (65, .agg (cV (⟨1, nI 7⟩ : WV)).toArray) :: _) _
      refine J.pr (fun hF => ?_)
      refine J.unguard rfl rfl rfl ?_
      refine J.neV rfl rfl (by decide) (by decide) rfl ?_
      refine J.name 68 rfl (show _ = Value.bool false by simp) ?_
      exact J.finX rfl (fun _ hw => ⟨⟨xu, uu⟩, rfl, fun _ _ _ => rfl, hF, hw⟩)
    · skip
      obtain ⟨xu, uu⟩ := x
      show J _ _ _ _ _ ((68, .bool false) :: (63, .bool false) :: _) _
      refine J.pr (fun hF => ?_)
      (first | refine J.pickT rfl rfl rfl ?_ | refine J.pickF rfl rfl rfl ?_)
      exact J.finX rfl (fun _ hw => ⟨⟨xu, uu⟩, rfl, fun _ _ _ => rfl, hF, hw⟩)
  case htail =>
    intro x
    obtain ⟨xu, uu⟩ := x
    show J _ _ _ _ _ ((69, .bool false) :: (68, .bool false) :: (67, .agg (cV (⟨1, nI 7⟩ : WV)).toArray) :: (66, .agg (cI (nI 7)).toArray) :: (65, .agg (cV (⟨1, nI 7⟩ : WV)).toArray) :: (64, .pointer (some ⟨b4, 0 + 16, none⟩)) :: (63, .bool false) :: (62, .bool false) :: (61, .bool false) :: (60, .int .i64 2) :: (59, .pointer (some ⟨v2, 0, none⟩)) :: (58, .bool false) :: (57, .bool false) :: (56, .bool false) :: (55, .pointer (some ⟨v2, 0, none⟩)) :: (54, .bool false) :: (53, .bool false) :: (52, .bool false) :: (51, .int .i64 0) :: (50, .bool false) :: (49, .bool false) :: (48, .int .i64 0) :: _) (fun w1 => (True) ∧ St w [] ((v2, vaO (.pointer (some ⟨l2, 0, none⟩)) m2 ((2 : Nat) : Int)) :: (m2, .map es3 ck3) :: (l2, lgO d QF3 false) :: (d, dkO s 20 σ3.p σ3.k) :: (s, dkS σ3.B) :: (lp2 ++ ((v1, vaO (.pointer (some ⟨l1, 0, none⟩)) m1 ((1 : Nat) : Int)) :: (m1, .map es2 ck2) :: (l1, lgO d QF2 false) :: (lh ++ (ly ++ [(b4, cb (cT (nI 3) ⟨1, nI 7⟩ (.slice ay 1 cy)) 28), (b37, Obj.cells (([97].map u8) : List Value).toArray 5 (1, 2))]))))) w1)
    refine J.pr (fun hF => ?_)
    refine J.nil ?_
    refine JX.thenN (hK8 _ _ ?_)
    first | refine JC.condF rfl ?_ | refine JC.cond rfl (fun h => by first | (exfalso; simp at h; omega) | (simp at h)) (fun _ => ?_)
    refine JC.skip ?_
    refine JX.thenN (hK7 _ _ ?_)
    refine JC.seq (fun K9 hK9 => ?_)
    refine JC.region ?_
    refine J.move rfl rfl ?_
    refine J.callB (v := .agg (cI (nI 3)).toArray) (fun w1 w2 hw hb => hw.step hb) Ty.bd38 rfl rfl (fun w1 hw => n18_spec 3 w1) ?_
    have hv3 := (hV3 _ (.head _)).2
    simp only at hv3
    refine J.perm ([(v2, vaO (.pointer (some ⟨l2, 0, none⟩)) m2 ((2 : Nat) : Int)), (m2, .map es3 ck3)] ++ ((l2, lgO d QF3 false) :: (d, dkO s 20 σ3.p σ3.k) :: (s, dkS σ3.B) :: (lp2 ++ ((v1, vaO (.pointer (some ⟨l1, 0, none⟩)) m1 ((1 : Nat) : Int)) :: (m1, .map es2 ck2) :: (l1, lgO d QF2 false) :: (lh ++ (ly ++ [(b4, cb (cT (nI 3) ⟨1, nI 7⟩ (.slice ay 1 cy)) 28), (b37, Obj.cells (([97].map u8) : List Value).toArray 5 (1, 2))])))))) (by (refine perm_cnt (fun _ => ?_)); simp only [cntB_append, cntB_cons, cntB_nil, Nat.add_zero, Nat.zero_add]; try ac_rfl) ?_
    refine J.callS (α := Value × List (Nat × Obj)) (V := fun y => .tuple #[.agg (cT (nI 3) ⟨1, nI 7⟩ y.1).toArray, .bool true]) (Pr := fun y => Vec 5 1 y.1 ([97]).length (([97]).map u8) y.2) (L := fun y => y.2 ++ [(v2, vaO (.pointer (some ⟨l2, 0, none⟩)) m2 ((2 : Nat) : Int)), (m2, .map es3 ck3)]) Ty.bd22 rfl rfl (fun w1 hw => vget_spec v2 m2 _ _ _ es3 ck3 hT3 hV3 (nI 3) ⟨nI 3, ⟨1, nI 7⟩, [97], sv2, lp2⟩ true w1 (St.owns hw) (by simp [hget]) (by simp [hget]) (vec_rowM hv3 hw (fun q hq => by simp [hq])) (vec_offM hv3 (fun p0 hp0 => St.off (l1 := [(v2, vaO (.pointer (some ⟨l2, 0, none⟩)) m2 ((2 : Nat) : Int)), (m2, .map es3 ck3)]) hw (o := p0.2) (by simp [hp0]))) (by show 1 ≤ 140737488351232; omega)) (fun y hyg => ?_)
    obtain ⟨vg, lg⟩ := y
    try simp only at hyg ⊢
    obtain ⟨ag, cg, rfl, hcg⟩ := hyg.form
    refine J.move rfl rfl ?_
    refine J.extract rfl rfl rfl ?_
    refine J.extract rfl rfl rfl ?_
    refine J.alloc Ty.zIt rfl rfl (fun b7 => ?_)
    refine J.storeW (cs := cH zH) (vs := cT (nI 3) ⟨1, nI 7⟩ (.slice ag 1 cg)) Ty.s28 rfl rfl rfl rfl rfl one_cT .here ?_
    refine J.perm ((b7, cb (cT (nI 3) ⟨1, nI 7⟩ (.slice ag 1 cg)) 28) :: (lg ++ ((v2, vaO (.pointer (some ⟨l2, 0, none⟩)) m2 ((2 : Nat) : Int)) :: (m2, .map es3 ck3) :: (l2, lgO d QF3 false) :: (d, dkO s 20 σ3.p σ3.k) :: (s, dkS σ3.B) :: (lp2 ++ ((v1, vaO (.pointer (some ⟨l1, 0, none⟩)) m1 ((1 : Nat) : Int)) :: (m1, .map es2 ck2) :: (l1, lgO d QF2 false) :: (lh ++ (ly ++ [(b4, cb (cT (nI 3) ⟨1, nI 7⟩ (.slice ay 1 cy)) 28), (b37, Obj.cells (([97].map u8) : List Value).toArray 5 (1, 2))]))))))) (by (refine perm_cnt (fun _ => ?_)); simp only [cntB_append, cntB_cons, cntB_nil, Nat.add_zero, Nat.zero_add]; try ac_rfl) ?_
    refine J.assign rfl rfl ?_
    refine J.nil ?_
    refine JX.thenN (hK9 _ _ ?_)
    refine JC.seq (fun K10 hK10 => ?_)
    refine JC.region ?_
    refine J.move rfl rfl ?_
    refine J.callB (v := .agg (cI (nI 3)).toArray) (fun w1 w2 hw hb => hw.step hb) Ty.bd38 rfl rfl (fun w1 hw => n18_spec 3 w1) ?_
    refine J.callB (v := .agg (cI (nI 6)).toArray) (fun w1 w2 hw hb => hw.step hb) Ty.bd38 rfl rfl (fun w1 hw => n18_spec 6 w1) ?_
    refine J.buildS (cs := cV ⟨1, nI 6⟩) Ty.pl25 Ty.zVr rfl (by kernel_rfl) rfl ?_
    refine J.buildS (cs := cT (nI 3) ⟨1, nI 6⟩ (.slice none 0 0)) Ty.pl28 Ty.zIt rfl (by kernel_rfl) rfl ?_
    refine J.perm (vltB v2 m2 l2 d s 20 QF3 false 2 es3 ck3 ⟨σ3.B, σ3.p, σ3.k⟩ ++ ((b7, cb (cT (nI 3) ⟨1, nI 7⟩ (.slice ag 1 cg)) 28) :: (lg ++ (lp2 ++ ((v1, vaO (.pointer (some ⟨l1, 0, none⟩)) m1 ((1 : Nat) : Int)) :: (m1, .map es2 ck2) :: (l1, lgO d QF2 false) :: (lh ++ (ly ++ [(b4, cb (cT (nI 3) ⟨1, nI 7⟩ (.slice ay 1 cy)) 28), (b37, Obj.cells (([97].map u8) : List Value).toArray 5 (1, 2))]))))))) (by (refine perm_cnt (fun _ => ?_)); simp only [cntB_append, cntB_cons, cntB_nil, Nat.add_zero, Nat.zero_add]; try ac_rfl) ?_
    refine J.callS (α := MerR) (V := MerR.val) (Pr := fun z => z.Pr 20 QF3 false σ3 [⟨nI 3, ⟨1, nI 7⟩, [97], sv2, lp2⟩] ⟨nI 3, ⟨1, nI 6⟩, []⟩) (L := fun z => z.lst v2 m2 l2 d s 20 2 es3 ck3) Ty.bd19 rfl rfl (fun w1 hw => vmerge_spec v2 m2 l2 d s 20 2 QF3 false σ3.B σ3.p σ3.k _ es3 ck3 hT3 hV3 hI3 (by omega) hk3 (by omega) (cT (nI 3) ⟨1, nI 6⟩ (.slice none 0 0)) (nI 3) ⟨1, nI 6⟩ [] (.slice none 0 0) w1 rfl (St.owns hw) ⟨none, 0, rfl, Nat.le_refl _, .inl rfl⟩ (.inl rfl) (by decide)) (fun z hz => ?_)
    rcases z with ⟨ez, qz, dz, sz⟩ | ⟨hz9, esz, ckz, qz, dz, sz⟩
    rotate_left
    · exact absurd (congrArg (fun x => x.1) (hM6.symm.trans hz.1)) (by simp)
    have hz1 := hM6.symm.trans hz
    simp only [Prod.mk.injEq, true_and] at hz1
    obtain ⟨rfl, rfl, rfl, rfl⟩ := hz1
    refine J.name 82 rfl (show _ = Value.tuple #[.bool false, .int .i64 0] from rfl) ?_
    refine J.perm ((b7, cb (cT (nI 3) ⟨1, nI 7⟩ (.slice ag 1 cg)) 28) :: (lg ++ ((v2, vaO (.pointer (some ⟨l2, 0, none⟩)) m2 ((2 : Nat) : Int)) :: (m2, .map es3 ck3) :: (l2, lgO d QF3 false) :: (d, dkO s 20 σ3.p σ3.k) :: (s, dkS σ3.B) :: (lp2 ++ ((v1, vaO (.pointer (some ⟨l1, 0, none⟩)) m1 ((1 : Nat) : Int)) :: (m1, .map es2 ck2) :: (l1, lgO d QF2 false) :: (lh ++ (ly ++ [(b4, cb (cT (nI 3) ⟨1, nI 7⟩ (.slice ay 1 cy)) 28), (b37, Obj.cells (([97].map u8) : List Value).toArray 5 (1, 2))]))))))) (by simp only [MerR.lst]; exact (by (refine perm_cnt (fun _ => ?_)); simp only [cntB_append, cntB_cons, cntB_nil, Nat.add_zero, Nat.zero_add]; try ac_rfl)) ?_
    refine J.move rfl rfl ?_
    refine J.extract rfl rfl rfl ?_
    refine J.extract rfl rfl rfl ?_
    refine J.assign rfl rfl ?_
    refine J.assign rfl rfl ?_
    refine J.nil ?_
    refine JX.thenN (hK10 _ _ ?_)
    refine JC.seq (fun K11 hK11 => ?_)
    refine JC.region ?_
    refine J.move rfl rfl ?_
    refine J.callB (v := .agg (cI (nI 3)).toArray) (fun w1 w2 hw hb => hw.step hb) Ty.bd38 rfl rfl (fun w1 hw => n18_spec 3 w1) ?_
    refine J.callB (v := .agg (cI (nI 8)).toArray) (fun w1 w2 hw hb => hw.step hb) Ty.bd38 rfl rfl (fun w1 hw => n18_spec 8 w1) ?_
    refine J.buildS (cs := cV ⟨1, nI 8⟩) Ty.pl25 Ty.zVr rfl (by kernel_rfl) rfl ?_
    refine J.buildS (cs := cT (nI 3) ⟨1, nI 8⟩ (.slice none 0 0)) Ty.pl28 Ty.zIt rfl (by kernel_rfl) rfl ?_
    refine J.perm (vltB v2 m2 l2 d s 20 QF3 false 2 es3 ck3 ⟨σ3.B, σ3.p, σ3.k⟩ ++ ((b7, cb (cT (nI 3) ⟨1, nI 7⟩ (.slice ag 1 cg)) 28) :: (lg ++ (lp2 ++ ((v1, vaO (.pointer (some ⟨l1, 0, none⟩)) m1 ((1 : Nat) : Int)) :: (m1, .map es2 ck2) :: (l1, lgO d QF2 false) :: (lh ++ (ly ++ [(b4, cb (cT (nI 3) ⟨1, nI 7⟩ (.slice ay 1 cy)) 28), (b37, Obj.cells (([97].map u8) : List Value).toArray 5 (1, 2))]))))))) (by (refine perm_cnt (fun _ => ?_)); simp only [cntB_append, cntB_cons, cntB_nil, Nat.add_zero, Nat.zero_add]; try ac_rfl) ?_
    refine J.callS (α := MerR) (V := MerR.val) (Pr := fun z => z.Pr 20 QF3 false σ3 [⟨nI 3, ⟨1, nI 7⟩, [97], sv2, lp2⟩] ⟨nI 3, ⟨1, nI 8⟩, []⟩) (L := fun z => z.lst v2 m2 l2 d s 20 2 es3 ck3) Ty.bd19 rfl rfl (fun w1 hw => vmerge_spec v2 m2 l2 d s 20 2 QF3 false σ3.B σ3.p σ3.k _ es3 ck3 hT3 hV3 hI3 (by omega) hk3 (by omega) (cT (nI 3) ⟨1, nI 8⟩ (.slice none 0 0)) (nI 3) ⟨1, nI 8⟩ [] (.slice none 0 0) w1 rfl (St.owns hw) ⟨none, 0, rfl, Nat.le_refl _, .inl rfl⟩ (.inl rfl) (by decide)) (fun z hz => ?_)
    rcases z with ⟨ez, qz, dz, sz⟩ | ⟨hz9, esz, ckz, qz, dz, sz⟩
    · exact absurd (congrArg (fun x => x.1) (hM8.symm.trans hz)) (by simp)
    obtain ⟨hz1, -, -, -⟩ := hz
    have hz2 := hM8.symm.trans hz1
    simp only [Prod.mk.injEq, true_and] at hz2
    obtain ⟨rfl, rfl, rfl⟩ := hz2
    refine J.name 91 rfl (show _ = Value.tuple #[.bool true, .int .i64 0] from rfl) ?_
    refine J.perm ((v2, vaO (.pointer (some ⟨l2, 0, none⟩)) m2 ((2 : Nat) : Int)) :: (m2, .map esz ckz) :: (l2, lgO d q4 false) :: (d, dkO s 20 σ4.p σ4.k) :: (s, dkS σ4.B) :: (b7, cb (cT (nI 3) ⟨1, nI 7⟩ (.slice ag 1 cg)) 28) :: (hz9.lp ++ (lg ++ (lp2 ++ ((v1, vaO (.pointer (some ⟨l1, 0, none⟩)) m1 ((1 : Nat) : Int)) :: (m1, .map es2 ck2) :: (l1, lgO d QF2 false) :: (lh ++ (ly ++ [(b4, cb (cT (nI 3) ⟨1, nI 7⟩ (.slice ay 1 cy)) 28), (b37, Obj.cells (([97].map u8) : List Value).toArray 5 (1, 2))]))))))) (by simp only [MerR.lst]; exact (by (refine perm_cnt (fun _ => ?_)); simp only [cntB_append, cntB_cons, cntB_nil, Nat.add_zero, Nat.zero_add]; try ac_rfl)) ?_
    refine J.move rfl rfl ?_
    refine J.extract rfl rfl rfl ?_
    refine J.extract rfl rfl rfl ?_
    refine J.assign rfl rfl ?_
    refine J.assign rfl rfl ?_
    refine J.nil ?_
    refine JX.thenN (hK11 _ _ ?_)
    refine JC.seq (fun K12 hK12 => ?_)
    refine JC.region ?_
    refine J.move rfl rfl ?_
    refine J.move rfl rfl ?_
    first | refine J.skip rfl rfl rfl rfl rfl ?_ | refine J.skipU rfl rfl rfl rfl ?_ | (refine J.unguard rfl rfl rfl ?_; refine J.fieldAddr Ty.fd28_2 rfl rfl ?_)
    refine J.unguard rfl rfl rfl ?_
    refine J.load1 (v := .slice ag 1 cg) Ty.a26 rfl (fun w1 hw => by rw [cell_of (hw.own ((b7, cb (cT (nI 3) ⟨1, nI 7⟩ (.slice ag 1 cg)) 28)) (by repeat first | exact .head _ | apply List.Mem.tail | apply List.mem_append_right))]; rfl) rfl ?_
    refine J.unguard rfl rfl rfl ?_
    refine J.toStr (m := 1) (bs := [97]) Ty.el26 Ty.u5 Ty.u9 rfl (fun w1 hw => vec_rowM hyg hw (fun q hq => by simp [hq])) rfl rfl ?_
    refine J.unguard rfl rfl rfl ?_
    refine J.strEq (xs := [97]) (ys := [97]) rfl rfl rfl ?_
    refine J.name 99 rfl (show _ = Value.bool true from rfl) ?_
    (first | refine J.pickT rfl rfl rfl ?_ | refine J.pickF rfl rfl rfl ?_)
    refine J.move rfl rfl ?_
    first | refine J.skip rfl rfl rfl rfl rfl ?_ | refine J.skipU rfl rfl rfl rfl ?_ | (refine J.unguard rfl rfl rfl ?_; refine J.move rfl rfl ?_)
    first | refine J.skip rfl rfl rfl rfl rfl ?_ | refine J.skipU rfl rfl rfl rfl ?_ | (refine J.unguard rfl rfl rfl ?_; refine J.not rfl rfl ?_)
    (first | refine J.pickT rfl rfl rfl ?_ | refine J.pickF rfl rfl rfl ?_)
    refine J.move rfl rfl ?_
    first | refine J.skip rfl rfl rfl rfl rfl ?_ | refine J.skipU rfl rfl rfl rfl ?_ | (refine J.unguard rfl rfl rfl ?_; refine J.move rfl rfl ?_)
    (first | refine J.pickT rfl rfl rfl ?_ | refine J.pickF rfl rfl rfl ?_)
    refine J.move rfl rfl ?_
    first | refine J.skip rfl rfl rfl rfl rfl ?_ | refine J.skipU rfl rfl rfl rfl ?_ | (refine J.unguard rfl rfl rfl ?_; refine J.move rfl rfl ?_)
    refine J.unguard rfl rfl rfl ?_
    refine J.callB (v := .bool false) (fun w1 w2 hw hb => hw.step hb) Ty.bd25 rfl rfl (fun w1 hw => vdown_spec v2 m2 l2 d q4 false _ w1 (l := []) (St.owns (l1 := [_, _]) (hw.perm (by (refine perm_cnt (fun _ => ?_)); simp only [cntB_append, cntB_cons, cntB_nil, Nat.add_zero, Nat.zero_add]; try ac_rfl : List.Perm _ ([(v2, vaO (.pointer (some ⟨l2, 0, none⟩)) m2 ((2 : Nat) : Int)), (l2, lgO d q4 false)] ++ ((m2, .map esz ckz) :: (d, dkO s 20 σ4.p σ4.k) :: (s, dkS σ4.B) :: (b7, cb (cT (nI 3) ⟨1, nI 7⟩ (.slice ag 1 cg)) 28) :: (hz9.lp ++ (lg ++ (lp2 ++ ((v1, vaO (.pointer (some ⟨l1, 0, none⟩)) m1 ((1 : Nat) : Int)) :: (m1, .map es2 ck2) :: (l1, lgO d QF2 false) :: (lh ++ (ly ++ [(b4, cb (cT (nI 3) ⟨1, nI 7⟩ (.slice ay 1 cy)) 28), (b37, Obj.cells (([97].map u8) : List Value).toArray 5 (1, 2))])))))))))))) ?_
    first | refine J.skip rfl rfl rfl rfl rfl ?_ | refine J.skipU rfl rfl rfl rfl ?_ | (refine J.unguard rfl rfl rfl ?_; refine J.not rfl rfl ?_)
    (first | refine J.pickT rfl rfl rfl ?_ | refine J.pickF rfl rfl rfl ?_)
    refine J.assign rfl rfl ?_
    refine J.nil ?_
    refine JX.thenN (hK12 _ _ ?_)
    refine JC.ret ?_
    refine JX.ret1 rfl rfl (fun w hw => ?_)
    exact ⟨rfl, (hw.drop (List.nil_sublist _)).below⟩

end Go.Proofs.Ytoaenmlhehcjfaa
/-
  Arguments: arrays of what can be decoded. Proved over any program.
-/
namespace Go.J
open Go.ChangeShapes Go.WideShapes Go.ChangeAt Go.RowKit
set_option linter.unusedVariables false
set_option linter.unusedSimpArgs false
def RArr {α : Type} (k sz : Nat) (R : World → List Value → α → Prop) : World → List Value → List α → Prop := fun w cs xs =>
  cs.length = k * sz ∧ xs.length = k ∧ ∀ i x, xs[i]? = some x → R w ((cs.drop (i * sz)).take sz) x
/-- an array of two -/
theorem RArr.two {α : Type} {sz : Nat} {R : World → List Value → α → Prop} {w : World} {cs : List Value} {xs : List α} (h : RArr 2 sz R w cs xs) : ∃ a b c1 c2, cs = c1 ++ c2 ∧ R w c1 a ∧ R w c2 b := by
  obtain ⟨h1, h2, h3⟩ := h
  match xs, h2 with
  | [a, b], _ =>
    refine ⟨a, b, cs.take sz, cs.drop sz, (List.take_append_drop _ _).symm, ?_, ?_⟩
    · have := h3 0 a rfl
      simpa using this
    · have := h3 1 b rfl
      rw [Nat.one_mul, List.take_of_length_le (by rw [List.length_drop]; omega)] at this
      exact this
end Go.J
/-
  The calculus: slices whose capacity may end ahead of their block; s[lo:hi:max]; rows of anything. Proved over any program.
-/
namespace Go.J
open Go.RowKit
set_option linter.unusedVariables false
set_option linter.unusedSimpArgs false
/-- a slice of the call's own of which the block may hold more than its capacity -/
def VecW (t sz : Nat) (v : Value) (k : Nat) (xs : List Value) (lp : List (Nat × Obj)) : Prop :=
  xs.length = k * sz ∧ ((v = .slice none 0 0 ∧ k = 0 ∧ lp = []) ∨ ∃ b c sp, v = .slice (some ⟨b, 0, none⟩) k c ∧ lp = [(b, cb (xs ++ sp) t)] ∧ c * sz ≤ (xs ++ sp).length ∧ k ≤ c)
theorem Vec.weak {t sz : Nat} {v : Value} {k : Nat} {xs : List Value} {lp : List (Nat × Obj)} (h : Vec t sz v k xs lp) : VecW t sz v k xs lp := by
  refine ⟨h.1, ?_⟩
  rcases h.2 with h | ⟨b, c, sp, h1, h2, h3, h4⟩
  · exact .inl h
  · exact .inr ⟨b, c, sp, h1, h2, Nat.le_of_eq h3.symm, h4⟩
theorem VecW.nil (t sz : Nat) : VecW t sz (.slice none 0 0) 0 [] [] := (Vec.nil t sz).weak
theorem VecW.row {w0 w : World} {S : List Nat} {l lp : List (Nat × Obj)} {t sz : Nat} {v : Value} {k : Nat} {xs : List Value} (h : VecW t sz v k xs lp) (hw : St w0 S (lp ++ l) w) : Row w v k xs := by
  obtain ⟨hl, h⟩ := h
  rcases h with ⟨rfl, rfl, rfl⟩ | ⟨b, c, sp, rfl, rfl, _, hk⟩
  · exact ⟨none, 0, rfl, Nat.le_refl _, .inl (List.eq_nil_of_length_eq_zero (by simpa using hl))⟩
  · exact Row.own (cs := xs ++ sp) (tb := t) (fr := (0, 0)) hw (.head _) (by simp) hk
theorem VecW.form {t sz : Nat} {v : Value} {k : Nat} {xs : List Value} {lp : List (Nat × Obj)} (h : VecW t sz v k xs lp) : ∃ a c, v = .slice a k c ∧ k ≤ c := by
  rcases h.2 with ⟨rfl, rfl, rfl⟩ | ⟨b, c, sp, rfl, rfl, _, hk⟩
  · exact ⟨none, 0, rfl, Nat.le_refl _⟩
  · exact ⟨_, c, rfl, hk⟩
/-- its first j elements, with no more room than that -/
theorem VecW.cut {t sz : Nat} {a : Option Addr} {k c j : Nat} {xs : List Value} {lp : List (Nat × Obj)} (h : VecW t sz (.slice a k c) k xs lp) (hj : j ≤ k) : VecW t sz (.slice a j j) j (xs.take (j * sz)) lp := by
  have hl := h.1
  have hle : j * sz ≤ xs.length := by rw [hl]; exact Nat.mul_le_mul_right _ hj
  refine ⟨by rw [List.length_take]; omega, ?_⟩
  rcases h.2 with ⟨h1, h2, h3⟩ | ⟨b, c', sp, h1, h2, h3, h4⟩
  · simp only [Value.slice.injEq] at h1
    obtain ⟨rfl, _, _⟩ := h1
    obtain rfl : j = 0 := by omega
    exact .inl ⟨rfl, rfl, h3⟩
  · simp only [Value.slice.injEq] at h1
    obtain ⟨rfl, _, _⟩ := h1
    refine .inr ⟨b, j, xs.drop (j * sz) ++ sp, rfl, ?_, ?_, Nat.le_refl _⟩
    · rw [h2, ← List.append_assoc, List.take_append_drop]
    · rw [← List.append_assoc, List.take_append_drop, List.length_append]; omega
section
variable {P : Program} {ops : Array Oper} {Q : Exit → Act → World → Prop} {n : Nat} {e : Env} {I I' : World → Prop} {rest : List Oper}
variable {d t : Nat} {p : String} {af : Array Edge} {x y z : Operand} {v v1 v2 : Value} {w0 : World} {S : List Nat} {l l' lp : List (Nat × Obj)}
end
/-- rows of anything -/
theorem fG_length {α : Type} {c : α → List Value} {sz : Nat} (hc : ∀ x, (c x).length = sz) : ∀ xs : List α, (xs.flatMap c).length = xs.length * sz
  | [] => by simp
  | x :: xs => by
    have := fG_length hc xs
    simp only [List.flatMap_cons, List.length_append, List.length_cons, this, hc, Nat.add_mul]
    omega
theorem fG_at {α : Type} {c : α → List Value} {sz : Nat} (hc : ∀ x, (c x).length = sz) : ∀ {xs : List α} {i : Nat} {a : α}, xs[i]? = some a → ((xs.flatMap c).drop (i * sz)).take sz = c a
  | [], i, a, h => by simp at h
  | x :: xs, 0, a, h => by
    simp only [List.getElem?_cons_zero, Option.some.injEq] at h
    subst h
    rw [Nat.zero_mul, List.drop_zero, List.flatMap_cons, ← hc x, List.take_left]
  | x :: xs, i + 1, a, h => by
    have ih := fG_at hc (xs := xs) (i := i) (by simpa using h)
    rw [Nat.add_mul, Nat.one_mul, Nat.add_comm, ← List.drop_drop, List.flatMap_cons]
    have : (c x ++ List.flatMap c xs).drop sz = List.flatMap c xs := by rw [← hc x, List.drop_left]
    rw [this]
    exact ih
theorem rowG_at {α : Type} {c : α → List Value} {sz : Nat} (hc : ∀ x, (c x).length = sz) {w : World} {b o k cc q i : Nat} {xs : List α} {a : α} (h : Row w (.slice (some ⟨b, o, none⟩) k cc) k (xs.flatMap c)) (hi : xs[i]? = some a) (hq : q = o + i * sz) : Cells w b q (c a) := by
  have hl : i < xs.length := (List.getElem?_eq_some_iff.1 hi).1
  have hlen := fG_length hc xs
  intro j hj
  rw [hc a] at hj
  have h1 : (i + 1) * sz ≤ xs.length * sz := Nat.mul_le_mul_right _ hl
  rw [Nat.add_mul, Nat.one_mul] at h1
  obtain ⟨b', o', c', hv, _, hcc⟩ := Row.some h (by omega)
  simp only [Value.slice.injEq, Option.some.injEq, Addr.mk.injEq] at hv
  obtain ⟨⟨rfl, rfl, _⟩, _, rfl⟩ := hv
  subst hq
  rw [Nat.add_assoc, hcc (i * sz + j) (by omega)]
  have e := fG_at hc hi
  have : (c a)[j]? = (((xs.flatMap c).drop (i * sz)).take sz)[j]? := by rw [e]
  rw [this, List.getElem?_take_of_lt hj, List.getElem?_drop]
theorem fG_cell {α : Type} {c : α → List Value} {sz : Nat} (hc : ∀ x, (c x).length = sz) {xs : List α} {i r : Nat} {a : α} (h : xs[i]? = some a) (hr : r < sz) : (xs.flatMap c)[i * sz + r]? = (c a)[r]? := by
  rw [← fG_at hc h, List.getElem?_take_of_lt hr, List.getElem?_drop]
end Go.J
/-
  Arguments: slices of what has fixed cells, as rows. Proved over any program.
-/
namespace Go.J
open Go.ChangeShapes Go.WideShapes Go.ChangeAt Go.RowKit
set_option linter.unusedVariables false
set_option linter.unusedSimpArgs false
theorem rslG {α : Type} {c : α → List Value} {sz by_ : Nat} (hc : ∀ x, (c x).length = sz) (hz : 0 < sz) {R : World → List Value → α → Prop} (hR : ∀ W cs x, R W cs x → cs = c x) {W : World} {s : Sl α} {cs : List Value} (h : RSl sz by_ R W cs s) : Row W s.v s.xs.length (s.xs.flatMap c) := by
  obtain ⟨_, h1, _, h2⟩ := h
  refine ⟨s.a, s.c, rfl, h1, ?_⟩
  rcases h2 with h2 | ⟨b, o, ha, h2⟩
  · left; rw [h2]; rfl
  · right
    refine ⟨b, o, ha, fun j hj => ?_⟩
    rw [fG_length hc] at hj
    have hi : j / sz < s.xs.length := Nat.div_lt_of_lt_mul (by rw [Nat.mul_comm]; exact hj)
    obtain ⟨cs', hl, hcc, hr⟩ := h2 (j / sz) s.xs[j / sz] (List.getElem?_eq_getElem hi)
    have hr' : cs' = c s.xs[j / sz] := hR _ _ _ hr
    subst hr'
    have hm := Nat.mod_lt j hz
    have := hcc (j % sz) (by rw [hc]; exact hm)
    have hdm : j / sz * sz + j % sz = j := by rw [Nat.mul_comm]; exact Nat.div_add_mod j sz
    rw [show o + j = o + j / sz * sz + j % sz by omega, this, ← fG_cell hc (List.getElem?_eq_getElem hi) hm, hdm]
end Go.J
/-
  A nil vault; items that come in; VaultNil: the walk.
-/
namespace Go.Proofs.Ytoaenmlhehcjfaa
open Go.J Go.RowKit
set_option linter.unusedVariables false
set_option linter.unusedSimpArgs false
set_option maxRecDepth 8000
def RId : World → List Value → IDV → Prop := fun _ cs a => cs = cI a
theorem dec_id : Decodes Try.prog 23 RId := by
  intro H enc w fuel cs x h hn
  obtain ⟨bs, hl, rfl⟩ := dec_bytes Ty.ar23 Ty.u5 Ty.s5 Ty.s23 H enc w fuel cs x h hn
  exact ⟨idB bs, (cI_idB hl).symm⟩
/-- an item that comes in -/
structure ItX where
  key : IDV
  ver : WV
  v : Sl UInt8
def RVr : World → List Value → WV → Prop := fun _ cs x => cs = cV x ∧ okN x.n
def RIt : World → List Value → ItX → Prop := fun W cs x => cs = cT x.key x.ver x.v.v ∧ okN x.ver.n ∧ RSl 1 1 RU8 W [x.v.v] x.v
theorem fsVx : fieldsT Try.prog 25 = some [(2, 0, 1), (23, 1, 16)] := by kernel_rfl
theorem fsIx : fieldsT Try.prog 28 = some [(23, 0, 16), (25, 16, 17), (26, 33, 1)] := by kernel_rfl
theorem split2s {cs a b : List Value} {k m : Nat} (h1 : (cs.drop 0).take k = a) (h2 : (cs.drop k).take m = b) (hl : cs.length = k + m) : cs = a ++ b := by
  rw [List.drop_zero] at h1
  have h3 : (cs.drop k).take m = cs.drop k := List.take_of_length_le (by rw [List.length_drop]; omega)
  rw [← h1, ← h2, h3, List.take_append_drop]
theorem dec_ver : Decodes Try.prog 25 RVr := by
  intro H enc w fuel cs x h hn
  have hl := dec_len Ty.a25 Ty.s25 h
  obtain ⟨n, hi, wi⟩ := dec_field fsVx h hn 0 _ rfl (dec_int Ty.u2)
  obtain ⟨a, ha⟩ := dec_field fsVx h hn 1 _ rfl dec_id
  exact ⟨⟨n, a⟩, split2s (k := 1) (m := 16) hi ha hl, wi⟩
theorem dec_itx : Decodes Try.prog 28 RIt := by
  intro H enc w fuel cs x h hn
  have hl := dec_len Ty.a28 Ty.s28 h
  obtain ⟨a, ha⟩ := dec_field fsIx h hn 0 _ rfl dec_id
  obtain ⟨v, hv, wv⟩ := dec_field fsIx h hn 1 _ rfl dec_ver
  obtain ⟨s, hs⟩ := dec_field fsIx h hn 2 _ rfl (dec_slice Ty.el26 Ty.s5 Ty.b5 (by omega) (dec_u8 Ty.u5))
  have hd : ∀ (k j : Nat), (cs.drop k).drop j = cs.drop (k + j) := fun k j => by rw [List.drop_drop]
  have e1 : (cs.drop 33).take 1 = [s.v] := hs.1
  have q1 : cs.drop 16 = cV v ++ [s.v] := split2s (k := 17) (m := 1) (by simpa using hv) (by rw [hd]; exact e1) (by simp; omega)
  have q0 : cs = cI a ++ cs.drop 16 := split2s (k := 16) (m := 18) ha (List.take_of_length_le (by simp; omega)) hl
  refine ⟨⟨a, v, s⟩, ?_, wv, ?_⟩
  · show cs = cI a ++ cV v ++ [s.v]
    rw [q0, q1, List.append_assoc]
  · have := hs; rw [show ((cs.drop (_ : Nat)).take _) = [s.v] from e1] at this; exact this
theorem reach_len1 {W : World} {s : Sl UInt8} {cs : List Value} (h : RSl 1 1 RU8 W cs s) : s.xs.length ≤ 140737488351232 := by
  have h1 := h.2.1
  have h2 := h.2.2.1
  have h3 : reachBytes = 140737488351232 := rfl
  omega

end Go.Proofs.Ytoaenmlhehcjfaa
/-
  DERIVED: THE SHELF's CONTRACTS AT THIS DUMP, IN PLAIN WORDS (tools/lay-plain.mjs out of 'YtoaenmlhehcjfaaUstmp.lean', which tools/lay-shelf.mjs wrote): THE SAME DECLARATIONS UNDER THE SAME NAMES: 'import', 'namespace', 'open', 'def', 'theorem' AND NOTHING ELSE: no command of the shelf's: FOR A HAND-IN. Each laying: the table of numbers ('.._ren') and one theorem, a field a fact of the dump's own or the kernel's comparison; each contract: ONE APPLICATION.
-/

namespace Go.Proofs
open Go.Shelf
def Try.sortI_ren : Go.Shelf.Ren := ⟨fun | 6 => 71 | 15 => 79 | 14 => 78 | 28 => 91 | 29 => 92 | 20 => 83 | 21 => 84 | 22 => 85 | 23 => 86 | 24 => 87 | 25 => 88 | 26 => 89 | 27 => 90 | 46 => 93 | 47 => 94 | 48 => 95 | 49 => 96 | 50 => 97 | 57 => 98 | n => n, fun | 22 => 101 | 24 => 23 | 25 => 90 | 3 => 3 | 39 => 37 | 0 => 0 | 53 => 151 | 55 => 81 | 4 => 4 | 46 => 144 | 45 => 143 | 50 => 148 | 5 => 5 | 9 => 9 | 66 => 153 | 70 => 157 | 76 => 159 | 77 => 160 | n => n, fun | n => n⟩
theorem Try.sortI : Go.Proofs.SlLaysF0.n6 Try.prog Try.sortI_ren := {
  mixed := by kernel_rfl
  f6 := ⟨Try.f71.name, by decide, Try.func71.trans (congrArg some (by kernel_rfl))⟩
  f14 := ⟨Try.f78.name, by decide, Try.func78.trans (congrArg some (by kernel_rfl))⟩
  f15 := Try.func79.trans (congrArg some (by kernel_rfl))
  f20 := ⟨Try.f83.name, by decide, Try.func83.trans (congrArg some (by kernel_rfl))⟩
  f21 := ⟨Try.f84.name, by decide, Try.func84.trans (congrArg some (by kernel_rfl))⟩
  f22 := ⟨Try.f85.name, by decide, Try.func85.trans (congrArg some (by kernel_rfl))⟩
  f23 := ⟨Try.f86.name, by decide, Try.func86.trans (congrArg some (by kernel_rfl))⟩
  f24 := ⟨Try.f87.name, by decide, Try.func87.trans (congrArg some (by kernel_rfl))⟩
  f25 := ⟨Try.f88.name, by decide, Try.func88.trans (congrArg some (by kernel_rfl))⟩
  f26 := ⟨Try.f89.name, by decide, Try.func89.trans (congrArg some (by kernel_rfl))⟩
  f27 := ⟨Try.f90.name, by decide, Try.func90.trans (congrArg some (by kernel_rfl))⟩
  f28 := Try.func91.trans (congrArg some (by kernel_rfl))
  f29 := Try.func92.trans (congrArg some (by kernel_rfl))
  f46 := ⟨Try.f93.name, by decide, Try.func93.trans (congrArg some (by kernel_rfl))⟩
  f47 := Try.func94.trans (congrArg some (by kernel_rfl))
  f48 := Try.func95.trans (congrArg some (by kernel_rfl))
  f49 := ⟨Try.f96.name, by decide, Try.func96.trans (congrArg some (by kernel_rfl))⟩
  f50 := ⟨Try.f97.name, by decide, Try.func97.trans (congrArg some (by kernel_rfl))⟩
  f57 := ⟨Try.f98.name, by decide, Try.func98.trans (congrArg some (by kernel_rfl))⟩
  t0 := Try.underlying0
  a0 := Try.isAgg0
  z0 := Try.sizeOf0
  v0 := Try.zeroValue0
  t3 := Try.underlying3
  a3 := Try.isAgg3
  z3 := Try.sizeOf3
  v3 := Try.zeroValue3
  t4 := Try.underlying4
  a4 := Try.isAgg4
  z4 := Try.sizeOf4
  v4 := Try.zeroValue4
  t5 := Try.underlying5
  a5 := Try.isAgg5
  z5 := Try.sizeOf5
  v5 := Try.zeroValue5
  t9 := Try.underlying9
  a9 := Try.isAgg9
  z9 := Try.sizeOf9
  v9 := Try.zeroValue9
  t22 := Try.underlying101
  a22 := Try.isAgg101
  z22 := Try.sizeOf101
  v22 := Try.zeroValue101
  t25 := Try.underlying90
  a25 := Try.isAgg90
  z25 := Try.sizeOf90
  v25 := Try.zeroValue90
  t39 := Try.underlying37
  a39 := Try.isAgg37
  z39 := Try.sizeOf37
  v39 := Try.zeroValue37
  t45 := Try.underlying143
  a45 := Try.isAgg143
  z45 := Try.sizeOf143
  v45 := Try.zeroValue143
  t46 := Try.underlying144
  a46 := Try.isAgg144
  z46 := Try.sizeOf144
  v46 := Try.zeroValue144
  t50 := Try.underlying148
  a50 := Try.isAgg148
  z50 := Try.sizeOf148
  v50 := Try.zeroValue148
  t53 := Try.underlying151
  a53 := Try.isAgg151
  z53 := Try.sizeOf151
  v53 := Try.zeroValue151
  t55 := Try.underlying81
  a55 := Try.isAgg81
  z55 := Try.sizeOf81
  v55 := Try.zeroValue81
  t66 := Try.underlying153
  a66 := Try.isAgg153
  z66 := Try.sizeOf153
  v66 := Try.zeroValue153
  t70 := Try.underlying157
  a70 := Try.isAgg157
  z70 := Try.sizeOf157
  v70 := Try.zeroValue157
  t76 := Try.underlying159
  a76 := Try.isAgg159
  z76 := Try.sizeOf159
  v76 := Try.zeroValue159
  t77 := Try.underlying160
  a77 := Try.isAgg160
  z77 := Try.sizeOf160
  v77 := Try.zeroValue160 }
end Go.Proofs
/-
  slices.SortFunc at identities.
-/
namespace Go.Proofs.Ytoaenmlhehcjfaa
open Go.J Go.RowKit
set_option linter.unusedVariables false
set_option linter.unusedSimpArgs false
open Go.Sort Go.Shelf
set_option maxRecDepth 4000
def ltI (a b : IDV) : Bool := decide (valI a < valI b)
theorem ltOf_cmpI (a b : IDV) : ltOf cmpI a b = ltI a b := by
  unfold ltOf cmpI ltI
  by_cases h1 : valI a < valI b
  · simp [h1]
  · by_cases h2 : valI b < valI a <;> simp [h1, h2]
theorem ltI_iff {a b : IDV} : ltI a b = true ↔ valI a < valI b := decide_eq_true_iff
theorem swo_cmpI : SWO (ltOf cmpI) where
  irrefl x := by rw [ltOf_cmpI]; exact decide_eq_false (Nat.lt_irrefl _)
  trans x y z h1 h2 := by rw [ltOf_cmpI, ltI_iff] at *; omega
  ntrans x y z h1 h2 := by
    rw [ltOf_cmpI] at *
    rw [Bool.eq_false_iff, ne_eq, ltI_iff] at *
    omega
theorem leI_trans (a b c : IDV) (h1 : (!(ltOf cmpI) b a) = true) (h2 : (!(ltOf cmpI) c b) = true) : (!(ltOf cmpI) c a) = true := by
  rw [Bool.not_eq_true', ltOf_cmpI, Bool.eq_false_iff, ne_eq, ltI_iff] at *
  omega
theorem leI_total (a b : IDV) : ((!(ltOf cmpI) b a) || !(ltOf cmpI) a b) = true := by
  rw [ltOf_cmpI, ltOf_cmpI, Bool.or_eq_true, Bool.not_eq_true', Bool.not_eq_true', Bool.eq_false_iff, Bool.eq_false_iff, ne_eq, ne_eq, ltI_iff, ltI_iff]
  omega
theorem ltI_total {a b : IDV} (h1 : ltI a b = false) (h2 : ltI b a = false) : a = b := by
  rw [Bool.eq_false_iff, ne_eq, ltI_iff] at h1 h2
  exact valI_inj (by omega)
theorem flat_fI (xs : List IDV) : flatK cI 16 xs.toArray = (fI xs).toArray := by
  have hl := fI_length xs
  apply Array.ext
  · simp [hl]
  · intro t h1 h2
    have ht : t < xs.length * 16 := by simpa using h1
    have hi : t / 16 < xs.length := by omega
    have e := get_flatK cI 16 xs.toArray t (by simpa using ht)
    rw [getElem!_pos _ t h1] at e
    rw [e]
    have hx : xs.toArray[t / 16]! = xs[t / 16] := by rw [getElem!_pos xs.toArray (t / 16) (by simpa using hi)]; simp
    rw [hx]
    have hr : t % 16 < (cI xs[t / 16]).length := by show t % 16 < 16; omega
    rw [getElem!_pos (cI xs[t / 16]) (t % 16) hr]
    have e2 := fI_at (List.getElem?_eq_getElem hi)
    have e3 : (cI xs[t / 16])[t % 16]? = (fI xs)[t]? := by
      rw [← e2, List.getElem?_take_of_lt (by omega), List.getElem?_drop, show t / 16 * 16 + t % 16 = t by omega]
    rw [List.getElem?_eq_getElem hr, List.getElem?_eq_getElem (by omega)] at e3
    simpa using Option.some.inj e3
theorem holds_fI {w : World} {q : Nat} {xs : List IDV} {sp : List Value} {t : TypeId} (h : w.heap[q]? = some (cb (fI xs ++ sp) t)) : HoldsK cI 16 w q 0 xs.toArray := by
  intro j hj
  rw [flat_fI] at hj ⊢
  have hj' : j < (fI xs).length := by simpa using hj
  refine ⟨?_, frozen_of h⟩
  rw [cell_of h, Nat.zero_add, List.getElem?_append_left hj', List.getElem?_eq_getElem hj']
  rw [getElem!_pos (fI xs).toArray j hj]
  rfl
theorem sortWorldI_st {w : World} {q : Nat} {xs ys : List IDV} {sp : List Value} {t : TypeId} (h : w.heap[q]? = some (cb (fI xs ++ sp) t)) (hl : ys.length = xs.length) (n : Nat) (os : Array Obj) :
    St w [q] [(q, cb (fI ys ++ sp) t)] (sortWorldK cI 16 w q 0 n ys.toArray os) := by
  have hq := lt_of_some h
  have hlx := fI_length xs
  have hly := fI_length ys
  have hheap : (sortWorldK cI 16 w q 0 n ys.toArray os).heap = (w.heap.modify q (onCells (putCells id 0 (flatK cI 16 ys.toArray)))) ++ os := rfl
  refine ⟨rfl, rfl, rfl, by rw [hheap]; simp, Nat.le_add_right _ _, fun b hb hS => ?_, fun p hp => ?_, fun p hp => ?_, by simp⟩
  · rw [hheap, Array.getElem?_append_left (by simpa using hb), Array.getElem?_modify, if_neg (by simp at hS; exact fun e => hS e.symm)]
  · simp only [List.mem_singleton] at hp
    subst hp
    rw [hheap, Array.getElem?_append_left (by simpa using hq), Array.getElem?_modify, if_pos rfl, h]
    simp only [Option.map_some, onCells, flat_fI]
    congr 2
    apply Array.ext
    · simp [putCells, hlx, hly, hl]
    · intro i h1 h2
      have hi : i < (fI ys ++ sp).length := by simpa using h2
      simp only [putCells, Array.getElem_mapIdx, Nat.zero_le, true_and, Nat.zero_add, Nat.sub_zero, id]
      by_cases hin : i < (fI ys).length
      · rw [if_pos (by simpa using hin), getElem!_pos _ i (by simpa using hin)]
        simp [List.getElem_append_left hin]
      · rw [if_neg (by simpa using hin)]
        simp only [List.getElem_toArray]
        rw [List.getElem_append_right (by omega), List.getElem_append_right (by omega)]
        congr 1
        omega
  · simp only [List.mem_singleton] at hp
    subst hp
    left; simp
theorem sortI_spec (q : Nat) (xs : List IDV) (sp : List Value) (cap : Nat) (w : World) (hb : w.heap[q]? = some (cb (fI xs ++ sp) 23)) (hlen : xs.length < 4611686018427387904) :
    Calls Try.prog 71 [.slice (some ⟨q, 0, none⟩) xs.length cap, .func (.func 43) #[] #[]].toArray w fun r w' => ∃ ys : List IDV, r = .returned (.tuple #[]) ∧ (ys.Perm xs ∧ ys.Pairwise (fun a b => ltI b a = false)) ∧ St w [q] [(q, cb (fI ys ++ sp) 23)] w' := by
  have hcmp : CmpLays Try.prog 43 #[] cI 16 cmpI q 0 xs.toArray.size w := by
    intro m os dk hd x y
    have h := compare_spec x y (sortWorldK cI 16 w q 0 m dk os)
    exact Calls.mono h fun r w' ⟨h1, h2⟩ => ⟨h1, h2.grown⟩
  have hcon := AnyQ.slices_SortFunc_total Try.sortI 16 (fun w => Go.J.run_isAgg Ty.a23 w) (fun w => Go.J.run_sizeOf Ty.s23 w) cI (fun _ => rfl) (fun x v hv => one_cI x v hv) cmpI swo_cmpI 43 #[] q 0 cap xs.toArray w
    (fun args w => run_callFunc Ty.bd43 w) hcmp (holds_fI hb) (lt_of_some hb) (by simpa using hlen) (fun x y h1 h2 => by rw [ltOf_cmpI] at h1 h2; exact ltI_total h1 h2)
  change Calls Try.prog 71 _ _ _ at hcon
  rw [List.size_toArray] at hcon
  refine hcon.mono fun r w' ⟨h1, n, os, h2⟩ => ?_
  refine ⟨xs.mergeSort (fun x y => !(ltOf cmpI) y x), h1, ⟨List.mergeSort_perm _ _, ?_⟩, ?_⟩
  · have := List.pairwise_mergeSort (le := fun x y => !(ltOf cmpI) y x) leI_trans leI_total xs
    refine this.imp fun {a b} h => ?_
    simpa [ltOf_cmpI] using h
  · rw [h2]
    exact sortWorldI_st hb (by simp) n os

end Go.Proofs.Ytoaenmlhehcjfaa
/-
  maps.Keys at paths: its iterator; slices.AppendSeq, Collect, SortedFunc: contracts.
-/
namespace Go.Proofs.Ytoaenmlhehcjfaa
open Go.J Go.RowKit
set_option linter.unusedVariables false
set_option linter.unusedSimpArgs false
set_option maxRecDepth 4000
theorem nodup_len : ∀ {l m : List Nat}, l.Nodup → (∀ x, x ∈ l → x ∈ m) → l.length ≤ m.length
  | [], m, _, _ => Nat.zero_le _
  | a :: l, m, h, hs => by
    have h' := List.nodup_cons.1 h
    have ha := hs a (.head _)
    have := nodup_len (l := l) (m := m.erase a) h'.2 (fun x hx => (List.mem_erase_of_ne (fun e => h'.1 (by rw [← e]; exact hx))).2 (hs x (.tail _ hx)))
    rw [List.length_erase_of_mem ha] at this
    have : 0 < m.length := List.length_pos_of_mem ha
    simp only [List.length_cons]
    omega
theorem done_perm {es done : List MapEntry} (hn : (es.map (·.born)).Nodup) (hd : (done.map (·.born)).Nodup) (h1 : ∀ x, x ∈ done → x ∈ es) (h2 : ∀ x, x ∈ es → x.born ∈ done.map (·.born)) : done.Perm es := by
  have nd : ∀ {l : List MapEntry}, (l.map (·.born)).Nodup → l.Nodup := fun h => (List.pairwise_map.1 h).imp fun h e => h (by rw [e])
  refine (List.perm_ext_iff_of_nodup (nd hd) (nd hn)).2 fun x => ⟨h1 x, fun hx => ?_⟩
  obtain ⟨y, hy, he⟩ := List.mem_map.1 (h2 x hx)
  have : y = x := by
    apply Classical.byContradiction
    intro hne
    have hp := List.pairwise_map.1 hn
    obtain ⟨i, hi, rfl⟩ := List.getElem_of_mem (h1 y hy)
    obtain ⟨j, hj, rfl⟩ := List.getElem_of_mem hx
    rw [List.pairwise_iff_getElem] at hp
    rcases Nat.lt_trichotomy i j with h | h | h
    · exact hp i j hi hj h he
    · subst h; exact hne rfl
    · exact hp j i hj hi h he.symm
  rw [← this]
  exact hy
structure KS where
  done : List MapEntry
  o : Obj
  lst : List (Nat × Obj)
open Classical in
/-- the path that is an entry's key -/
noncomputable def kpv (en : MapEntry) : IDV := if h : ∃ p : IDV, en.key = .agg (cI p).toArray then h.choose else zI
theorem kpv_spec {en : MapEntry} (h : ∃ p : IDV, en.key = .agg (cI p).toArray) : en.key = .agg (cI (kpv en)).toArray := by
  unfold kpv
  rw [dif_pos h]
  exact h.choose_spec

theorem keys1_spec (lb Bm b clock : Nat) (es : Array MapEntry) (Inv : List MapEntry → List (Nat × Obj) → Prop) (lst0 : List (Nat × Obj)) (w : World)
    (hst : MapKept.Stamped es clock) (hkey : ∀ en, en ∈ es.toList → ∃ p : IDV, en.key = .agg (cI p).toArray)
    (hm : w.heap[Bm]? = some (cb [.map (some b)] 97)) (hb : w.heap[b]? = some (.map es clock)) (hBm : Bm ∉ lst0.map (·.1)) (hbm : b ∉ lst0.map (·.1)) (h0 : Own w lst0) (hI0 : Inv [] lst0)
    (hY : ∀ pre en lst W1, en ∈ es.toList → pre.length < es.size → Inv pre lst → Own W1 lst → YieldTo (FW none) 0 Try.prog lb #[en.key] W1 fun r w' => r = .returned (.bool true) ∧ ∃ lst', Inv (pre ++ [en]) lst' ∧ St W1 (lst.map (·.1)) lst' w') :
    Calls Try.prog 72 [.func (.yield lb) #[] #[], .pointer (some ⟨Bm, 0, none⟩)].toArray w fun r w' => ∃ v done lst', r = .returned v ∧ done.Perm es.toList ∧ Inv done lst' ∧ St w (lst0.map (·.1)) lst' w' := by
  have hstamp := (MapKept.stamped_iff es clock).1 hst
  have hh0 := h0
  clear h0
  refine calls_of_J (args := [.func (.yield lb) #[] #[], .pointer (some ⟨Bm, 0, none⟩)]) (e := [(0, .func (.yield lb) #[] #[]), (1, .pointer (some ⟨Bm, 0, none⟩))]) Try.func72 rfl rfl ⟨rfl, rfl, trivial⟩ (hh0.st) ?_
  refine JC.seq (fun K0 hK0 => ?_)
  refine JC.region ?_
  refine J.load1 (v := .map (some b)) Ty.a97 rfl (fun w1 hw => by rw [cell_of (by rw [hw.keep Bm (lt_of_some hm) hBm]; exact hm)]; rfl) rfl ?_
  refine J.range Ty.u97 rfl (fun w1 hw => by rw [hw.keep b (lt_of_some hb) hbm]; exact hb) hstamp.1 rfl (fun r0 o0 ho0 => ?_)
  refine J.nil ?_
  refine JX.thenN (hK0 _ _ ?_)
  refine JC.block ?_
  refine JC.conseq (JC.cov (f := (fun st => [(0, .func (.yield lb) #[] #[]), (1, .pointer (some ⟨Bm, 0, none⟩)), (5, .pointer (some ⟨r0, 0, none⟩))]) (⟨[], o0, lst0⟩ : KS)) ⟨rfl, rfl, rfl, trivial⟩ (JC.loop (α := KS) (fun st => [(0, .func (.yield lb) #[] #[]), (1, .pointer (some ⟨Bm, 0, none⟩)), (5, .pointer (some ⟨r0, 0, none⟩))]) (fun st w' => (IterAt b es clock (st.done.map (·.born)) st.o ∧ (∀ x, x ∈ st.done → x ∈ es.toList) ∧ (st.done.map (·.born)).Nodup ∧ Inv st.done st.lst) ∧ St w (lst0.map (·.1)) ((r0, st.o) :: st.lst) w') (fun st => es.size - st.done.length) (⟨[], o0, lst0⟩ : KS) (fun st => ?_))) (fun w hw => ⟨⟨ho0, by simp, .nil, hI0⟩, hw⟩)
  obtain ⟨done, o, lst⟩ := st
  simp only
  refine JC.pr (fun hx => ?_)
  obtain ⟨hit, hsub, hnd, hInv⟩ := hx
  refine JC.seq (fun K1 hK1 => ?_)
  refine JC.region ?_
  refine J.next (l' := fun o1 => (r0, o1) :: lst) rfl (fun _ => .here) hit (fun w1 hw => by rw [hw.keep b (lt_of_some hb) hbm]; exact hb) rfl (fun eo o1 hN => ?_)
  refine J.extract rfl (nextA_0 eo) rfl ?_
  refine J.nil ?_
  refine JX.thenN (hK1 _ _ ?_)
  refine JC.seq (fun K2 hK2 => ?_)
  refine JC.cond rfl (fun h0 => ?_) (fun h0 => ?_)
  · skip
    obtain ⟨en, rfl⟩ := Option.isSome_iff_exists.1 h0
    obtain ⟨hem, hnb, hon⟩ := hN
    obtain ⟨p, hp⟩ := hkey en hem
    have hlen : done.length + 1 ≤ es.size := by
      have h := nodup_len (l := (done ++ [en]).map (·.born)) (m := es.toList.map (·.born)) (by rw [List.map_append]; exact List.nodup_append.2 ⟨hnd, by simp, fun a ha b hb e => hnb (by simp at hb; rw [← hb, ← e]; exact ha)⟩) (fun x hx => by
        obtain ⟨y, hy, rfl⟩ := List.mem_map.1 hx
        refine List.mem_map.2 ⟨y, ?_, rfl⟩
        exact (List.mem_append.1 hy).elim (hsub y) (fun h => by rw [List.mem_singleton.1 h]; exact hem))
      simpa using h
    refine JC.skip ?_
    refine JX.thenN (hK2 _ _ ?_)
    refine JC.block ?_
    refine JC.seq (fun K3 hK3 => ?_)
    refine JC.region ?_
    refine J.entry rfl (.head _) hon hem hstamp.2.1 (fun w1 hw => by rw [hw.keep b (lt_of_some hb) hbm]; exact hb) rfl ?_
    refine J.extract rfl rfl rfl ?_
    refine J.name 9 rfl hp ?_
    refine J.alloc Ty.z23 rfl rfl (fun b3 => ?_)
    refine J.storeW (cs := cI zI) (vs := cI p) Ty.s23 rfl rfl rfl rfl rfl (one_cI p) .here ?_
    refine J.nil ?_
    refine JX.thenN (hK3 _ _ ?_)
    refine JC.seq (fun K4 hK4 => ?_)
    refine JC.regionI ?_
    refine JI.steps (α := Unit) (os := [_, _]) (rest := [_, _]) (fun _ => [(0, .func (.yield lb) #[] #[]), (1, .pointer (some ⟨Bm, 0, none⟩)), (5, .pointer (some ⟨r0, 0, none⟩)), (10, .func (.yield lb) #[] #[]), (11, .agg (cI p).toArray)]) (fun _ => St w (lst0.map (·.1)) ((b3, cb (cI p) 23) :: (r0, o1) :: lst)) rfl ?_ (fun _ => ?_)
    · refine J.move rfl rfl ?_
      refine J.loadOA (vs := cI p) Ty.a23 Ty.s23 rfl (.head _) rfl rfl rfl ?_
      exact J.nil (JX.qx () ⟨rfl, rfl, rfl, rfl, rfl, trivial⟩ (fun w1 hw => hw))
    refine JI.yield (vs := [.agg (cI p).toArray]) (R := fun v w' => ∃ lst', (v = .bool true ∧ Inv (done ++ [en]) lst') ∧ St w (lst0.map (·.1)) ((b3, cb (cI p) 23) :: (r0, o1) :: lst') w') rfl rfl rfl (fun w2 hw => ?_) (fun v => ?_)
    · have hw' : St w (lst0.map (·.1)) (lst ++ [(b3, cb (cI p) 23), (r0, o1)]) w2 := hw.perm (by (refine perm_cnt (fun _ => ?_)); simp only [cntB_append, cntB_cons, cntB_nil, Nat.add_zero, Nat.zero_add]; try ac_rfl)
      obtain ⟨fn1, T1, as1, bd1, hy1, hy2⟩ := hY done en lst w2 hem (by omega) hInv hw'.owns
      rw [hp] at hy1
      refine ⟨fn1, T1, as1, bd1, hy1, hy2.mono ?_⟩
      rintro e1 w1 ⟨rfl, lst', hi', hst'⟩
      exact ⟨_, rfl, lst', ⟨rfl, hi'⟩, (hw'.call hst').perm (by (refine perm_cnt (fun _ => ?_)); simp only [cntB_append, cntB_cons, cntB_nil, Nat.add_zero, Nat.zero_add]; try ac_rfl)⟩
    refine JI.steps (α := List (Nat × Obj)) (os := [_]) (rest := []) (fun _ => [(0, .func (.yield lb) #[] #[]), (1, .pointer (some ⟨Bm, 0, none⟩)), (5, .pointer (some ⟨r0, 0, none⟩)), (13, .bool false)]) (fun lst' w' => Inv (done ++ [en]) lst' ∧ St w (lst0.map (·.1)) ((b3, cb (cI p) 23) :: (r0, o1) :: lst') w') rfl ?_ (fun lst' => JI.nil ?_)
    · refine J.ex fun lst' => J.pr fun hv => ?_
      obtain ⟨rfl, hi'⟩ := hv
      refine J.not rfl rfl ?_
      exact J.nil (JX.qx lst' ⟨rfl, rfl, rfl, rfl, trivial⟩ (fun w1 hw => ⟨hi', hw⟩))
    refine JX.pr fun hi' => ?_
    refine JX.thenN (hK4 _ _ ?_)
    first | refine JC.condF rfl ?_ | refine JC.cond rfl (fun h => by first | (exfalso; simp at h; omega) | (simp at h)) (fun _ => ?_)
    refine JC.skip ?_
    refine JX.blockN ?_
    refine JX.thenN ?_
    refine JX.again (⟨done ++ [en], o1, lst'⟩ : KS) ?_ ?_ ?_
    · simp only [List.length_append, List.length_singleton]; omega
    · exact ⟨rfl, rfl, rfl, trivial⟩
    · exact fun w1 hw => ⟨⟨by rw [List.map_append]; exact hon.at, fun x hx => (List.mem_append.1 hx).elim (hsub x) (fun h => by rw [List.mem_singleton.1 h]; exact hem), by rw [List.map_append]; exact List.nodup_append.2 ⟨hnd, by simp, fun a ha b hb e => hnb (by simp at hb; rw [← hb, ← e]; exact ha)⟩, hi'⟩, hw.drop (List.sublist_cons_self _ _)⟩
  · skip
    have hnone : eo = none := by cases eo with | none => rfl | some e => cases h0
    subst hnone
    obtain ⟨rfl, hall⟩ := hN
    have hperm := done_perm hstamp.2.1 hnd hsub hall
    refine JC.exit ?_
    refine JX.thenE ?_
    refine JX.thenE ?_
    refine JX.blockE ?_
    refine JX.end0 rfl (fun w1 hw => ?_)
    exact ⟨_, done, lst, rfl, hperm, hInv, hw.drop (List.sublist_cons_self _ _)⟩

end Go.Proofs.Ytoaenmlhehcjfaa
/-
  slices.AppendSeq and Collect of maps.Keys at paths; slices.SortedFunc: contracts.
-/
namespace Go.Proofs.Ytoaenmlhehcjfaa
open Go.J Go.RowKit
set_option linter.unusedVariables false
set_option linter.unusedSimpArgs false
open Go.Sort Go.Shelf
set_option maxRecDepth 4000
theorem vecI9 {v : Value} {xs : List IDV} {lp : List (Nat × Obj)} (h : Vec 23 16 v xs.length (fI xs) lp) : (v = .slice none 0 0 ∧ xs = [] ∧ lp = []) ∨ ∃ b c sp, v = .slice (some ⟨b, 0, none⟩) xs.length c ∧ lp = [(b, cb (fI xs ++ sp) 23)] ∧ (fI xs ++ sp).length = c * 16 ∧ xs.length ≤ c := by
  rcases h.2 with ⟨h1, h2, h3⟩ | h
  · exact .inl ⟨h1, List.eq_nil_of_length_eq_zero h2, h3⟩
  · exact .inr h
theorem vecI_mk {xs : List IDV} {b c : Nat} {sp : List Value} (h1 : (fI xs ++ sp).length = c * 16) : Vec 23 16 (.slice (some ⟨b, 0, none⟩) xs.length c) xs.length (fI xs) [(b, cb (fI xs ++ sp) 23)] := by
  refine ⟨fI_length xs, .inr ⟨b, c, sp, rfl, rfl, h1, ?_⟩⟩
  rw [List.length_append, fI_length] at h1
  omega
theorem fI_append9 (xs ys : List IDV) : fI (xs ++ ys) = fI xs ++ fI ys := by simp [fI]
/-- what the rounds keep: the box, the loop's record, the block for deferred calls, the row -/
def AppInv (Bs l D : Nat) (rec : Loop) (ss : List MapEntry) (lst : List (Nat × Obj)) : Prop :=
  ∃ v lp, Vec 23 16 v (ss.map kpv).length (fI (ss.map kpv)) lp ∧ lst = (Bs, cb [v] 101) :: (l, .loop rec) :: (D, .deferred (some [])) :: lp

theorem St.notin {w0 w : World} {l : List (Nat × Obj)} (h : St w0 [] l w) {b : Nat} (hb : b < w0.heap.size) : b ∉ l.map (·.1) := fun hm => by
  obtain ⟨q, hq, he⟩ := List.mem_map.1 hm
  rcases h.apart q hq with h1 | h1
  · cases h1
  · omega
theorem rec_back {rec : Loop} (h1 : rec.state = .ready) (h2 : rec.pending = none) : ({ ({ rec with state := .busy } : Loop) with state := .ready, pending := none } : Loop) = rec := by
  cases rec
  simp only at h1 h2
  subst h1
  subst h2
  rfl

theorem appendSeq_spec (Bm b clock : Nat) (es : Array MapEntry) (w : World) (hst : MapKept.Stamped es clock) (hkey : ∀ en, en ∈ es.toList → ∃ p : IDV, en.key = .agg (cI p).toArray) (hm : w.heap[Bm]? = some (cb [.map (some b)] 97)) (hb : w.heap[b]? = some (.map es clock)) (hn : es.size ≤ 1099511627776) :
    Calls Try.prog 77 [.slice none 0 0, .func (.func 72) #[] #[.pointer (some ⟨Bm, 0, none⟩)]].toArray w fun r w' => ∃ x : List MapEntry × Value × List (Nat × Obj), r = .returned x.2.1 ∧ (x.1.Perm es.toList ∧ Vec 23 16 x.2.1 x.1.length (fI (x.1.map kpv)) x.2.2) ∧ St w [] x.2.2 w' := by
  refine calls_of_JM (args := [.slice none 0 0, .func (.func 72) #[] #[.pointer (some ⟨Bm, 0, none⟩)]]) (e := [(0, .slice none 0 0), (1, .func (.func 72) #[] #[.pointer (some ⟨Bm, 0, none⟩)])]) Try.func77 rfl rfl ⟨rfl, rfl, trivial⟩ (St.start w) ?_
  refine JC.seq (fun K0 hK0 => ?_)
  refine JC.region ?_
  refine J.box rfl rfl rfl (fun b2 => ?_)
  refine J.assign rfl rfl ?_
  refine J.nil ?_
  refine JX.thenN (hK0 _ _ ?_)
  refine JC.seqRaw ?_
  refine JC.seq (fun K2 hK2 => ?_)
  refine JC.region ?_
  refine J.move rfl rfl ?_
  refine J.nil ?_
  refine JX.thenN (hK2 _ _ ?_)
  refine JC.block ?_
  refine JC.rangeFS rfl Ty.bd72 ?_
  intro fn T lb Dd rec W1 hT hrec hW1
  have hst1 : St w [] ([(b2, cb [.slice none 0 0] 101), (lb, .loop rec), (Dd, .deferred (some []))] ++ []) W1 := hW1.perm (by (refine perm_cnt (fun _ => ?_)); simp only [cntB_append, cntB_cons, cntB_nil, Nat.add_zero, Nat.zero_add]; try ac_rfl)
  refine Calls.mono (keys1_spec lb Bm b clock es (AppInv b2 lb Dd rec) [(b2, cb [.slice none 0 0] 101), (lb, .loop rec), (Dd, .deferred (some []))] W1 hst hkey (by rw [hst1.keep Bm (lt_of_some hm) (by simp)]; exact hm) (by rw [hst1.keep b (lt_of_some hb) (by simp)]; exact hb) (St.notin (l := [(b2, cb [.slice none 0 0] 101), (lb, .loop rec), (Dd, .deferred (some []))]) hst1 (lt_of_some hm)) (St.notin (l := [(b2, cb [.slice none 0 0] 101), (lb, .loop rec), (Dd, .deferred (some []))]) hst1 (lt_of_some hb)) hst1.owns ⟨.slice none 0 0, [], Vec.nil _ _, rfl⟩ ?_) ?_
  · intro pre en lst W2 hem hlen hInv hown
    obtain ⟨v, lp, hv, rfl⟩ := hInv
    have hpk := kpv_spec (hkey en hem)
    obtain ⟨p, hp⟩ : ∃ p, kpv en = p := ⟨_, rfl⟩
    rw [hp] at hpk
    refine ⟨rec.fn, _, rec.assign, rec.body, run_yield (hown.own _ (.tail _ (.head _))) (by rw [hrec.params]; rfl), ?_⟩
    rw [hrec.assign, hrec.body, hrec.params, hrec.tmps, hpk]
    refine round1 ?_
    have hT7 := (hT.put (d := 7) rfl (.agg (cI p).toArray)).cov (f := [(7, .agg (cI p).toArray), (2, .pointer (some ⟨b2, 0, none⟩))]) ⟨rfl, rfl, trivial⟩
    refine roundIn_of_J (α := Nat) (β := Value × List (Nat × Obj)) (I := St W2 (((b2, cb [v] 101) :: (lb, .loop rec) :: (Dd, .deferred (some [])) :: lp).map (·.1)) ((b2, cb [v] 101) :: (lb, .loop rec) :: (Dd, .deferred (some [])) :: lp)) (fun b5 => [(2, .pointer (some ⟨b2, 0, none⟩)), (5, .pointer (some ⟨b5, 0, none⟩))])
      (fun b5 => St W2 (((b2, cb [v] 101) :: (lb, .loop rec) :: (Dd, .deferred (some [])) :: lp).map (·.1)) ((b5, cb (cI p) 23) :: (b2, cb [v] 101) :: (lb, .loop rec) :: (Dd, .deferred (some [])) :: lp)) (fun b5 => St W2 (((b2, cb [v] 101) :: (lb, .loop rec) :: (Dd, .deferred (some [])) :: lp).map (·.1)) ((b5, cb (cI p) 23) :: (b2, cb [v] 101) :: (lb, .loop { rec with state := .busy }) :: (Dd, .deferred (some [])) :: lp))
      (fun z w1 => Vec 23 16 z.1 ((pre ++ [en]).map kpv).length (fI ((pre ++ [en]).map kpv)) z.2 ∧ St W2 (((b2, cb [v] 101) :: (lb, .loop rec) :: (Dd, .deferred (some [])) :: lp).map (·.1)) ((b2, cb [z.1] 101) :: (lb, .loop { rec with state := .busy }) :: (Dd, .deferred (some [])) :: z.2) w1) rfl rfl ?_ ?_ ?_ ?_ hT7 hown.st
    · refine J.alloc Ty.z23 rfl rfl (fun b5 => ?_)
      refine J.storeW (cs := cI zI) (vs := cI p) Ty.s23 rfl rfl rfl rfl rfl (one_cI p) .here ?_
      exact J.nil (JX.qx b5 ⟨rfl, rfl, trivial⟩ (fun w1 hw => hw))
    · intro b5 w1 hw
      exact ⟨rec, hw.own _ (.tail _ (.tail _ (.head _))), hrec.state, hw.wrote (.there (.there .here)) (wrote_put (hw.own _ (.tail _ (.tail _ (.head _)))))⟩
    · intro b5
      refine J.loadO (v := v) Ty.a101 rfl (.tail _ (.head _)) rfl rfl ?_
      refine J.loadOA (vs := cI p) Ty.a23 Ty.s23 rfl (.head _) rfl rfl rfl ?_
      refine J.buildSl (cs := cI p) Ty.el101 Ty.s23 Ty.z23 rfl rfl rfl rfl (by kernel_rfl) rfl rfl (fun b10 => ?_)
      refine J.perm (lp ++ [(b10, cb (cI p) 23), (b5, cb (cI p) 23), (b2, cb [v] 101), (lb, .loop { rec with state := .busy }), (Dd, .deferred (some []))]) (by (refine perm_cnt (fun _ => ?_)); simp only [cntB_append, cntB_cons, cntB_nil, Nat.add_zero, Nat.zero_add]; try ac_rfl) ?_
      have hpl : (pre.map kpv).length < es.size := by rw [List.length_map]; exact hlen
      refine J.append (lp := lp) (xs := fI (pre.map kpv)) (ys := cI p) (k := (pre.map kpv).length) (m := 1) Ty.el101 Ty.s23 Ty.b23 Ty.z23 rfl (.inl ⟨23, Ty.u101⟩) rfl rfl hv (fun w3 hw3 => .inl (Row.own hw3 (List.mem_append_right _ (.head _)) rfl (Nat.le_refl _))) rfl (one_cI p) (by omega) (by omega) rfl (fun v2 lp2 hv2 => ?_)
      obtain ⟨a2, c2, rfl, hc2⟩ := hv2.form
      refine J.perm ((b2, cb [v] 101) :: (lb, .loop { rec with state := .busy }) :: (Dd, .deferred (some [])) :: (lp2 ++ [(b10, cb (cI p) 23), (b5, cb (cI p) 23)])) (by (refine perm_cnt (fun _ => ?_)); simp only [cntB_append, cntB_cons, cntB_nil, Nat.add_zero, Nat.zero_add]; try ac_rfl) ?_
      refine J.storeO (cs := [v]) (vs := [.slice a2 ((pre.map kpv).length + 1) c2]) Ty.s101 rfl rfl rfl rfl (by simp [Value.oneCell']) .here (by simp) ?_
      refine J.nil (JX.qx (.slice a2 ((pre.map kpv).length + 1) c2, lp2) trivial (fun w1 hw => ⟨?_, hw.drop (.cons_cons _ (.cons_cons _ (.cons_cons _ (List.sublist_append_left _ _))))⟩))
      rw [List.map_append, List.length_append, fI_append9, List.map_cons, List.map_nil, hp]
      simpa [fI] using hv2
    · rintro ⟨v2, lp2⟩ w1 ⟨hv2, hw⟩
      refine ⟨{ rec with state := .busy }, hw.own _ (.tail _ (.head _)), rfl, _, ⟨v2, lp2, hv2, rfl⟩, ?_⟩
      have h := hw.wrote (.there .here) (wrote_put (o' := .loop { ({ rec with state := .busy } : Loop) with state := .ready, pending := none }) (hw.own _ (.tail _ (.head _))))
      rw [rec_back hrec.state hrec.pending] at h ⊢
      exact h
  · rintro r w3 ⟨v0, done, lst', rfl, hperm, ⟨v, lp, hv, rfl⟩, hst3⟩
    have hst4 := hst1.call hst3
    rw [List.append_nil] at hst4
    refine ⟨v0, rfl, hst4.own _ (.tail _ (.head _)), ?_⟩
    have hst5 := hst4.wrote (.there .here) (wrote_put (o' := .loop { rec with state := .exhausted }) (hst4.own _ (.tail _ (.head _))))
    show (Code.seq _ _).wp _ _ _ _
    refine wp_seq (wp_region_more (α := Unit) (e := [(2, .pointer (some ⟨b2, 0, none⟩))]) (I := St w [] ((b2, cb [v] 101) :: (lb, .loop { rec with state := .exhausted }) :: (Dd, .deferred (some [])) :: lp)) (E := fun _ => [(4, v)]) (I' := fun _ => St w [] ((b2, cb [v] 101) :: (lb, .loop { rec with state := .exhausted }) :: (Dd, .deferred (some [])) :: lp)) ?_ (hT.cov ⟨rfl, trivial⟩) hst5 (fun _ T2 w5 hT2 hw5 => wp_ret ?_))
    · refine J.loadO (v := v) Ty.a101 rfl (.head _) rfl rfl ?_
      refine J.assign rfl rfl ?_
      exact J.nil (JX.qx () ⟨rfl, trivial⟩ (fun w1 hw => hw))
    · refine ⟨by simp, .inl ⟨Dd, _, rfl, run_takeDeferred (hw5.own _ (.tail _ (.tail _ (.head _)))), ?_⟩⟩
      have hst6 := hw5.wrote (.there (.there .here)) (wrote_put (o' := .deferred none) (hw5.own _ (.tail _ (.tail _ (.head _)))))
      refine ⟨v, ?_, (done, v, lp), rfl, ⟨hperm, ?_⟩, hst6.drop (.cons _ (.cons _ (.cons _ (List.Sublist.refl _))))⟩
      · rw [results_tmp rfl, Array.getD_eq_getD_getElem?, hT2.2 4 v rfl]; rfl
      · rw [List.length_map] at hv
        exact hv

theorem collect_spec (Bm b clock : Nat) (es : Array MapEntry) (w : World) (hst : MapKept.Stamped es clock) (hkey : ∀ en, en ∈ es.toList → ∃ p : IDV, en.key = .agg (cI p).toArray) (hm : w.heap[Bm]? = some (cb [.map (some b)] 97)) (hb : w.heap[b]? = some (.map es clock)) (hn : es.size ≤ 1099511627776) :
    Calls Try.prog 70 [.func (.func 72) #[] #[.pointer (some ⟨Bm, 0, none⟩)]].toArray w fun r w' => ∃ x : List MapEntry × Value × List (Nat × Obj), r = .returned x.2.1 ∧ (x.1.Perm es.toList ∧ Vec 23 16 x.2.1 x.1.length (fI (x.1.map kpv)) x.2.2) ∧ St w [] x.2.2 w' := by
  refine calls_of_J (args := [.func (.func 72) #[] #[.pointer (some ⟨Bm, 0, none⟩)]]) (e := [(0, .func (.func 72) #[] #[.pointer (some ⟨Bm, 0, none⟩)])]) Try.func70 rfl rfl ⟨rfl, trivial⟩ (St.start w) ?_
  refine JC.seq (fun K0 hK0 => ?_)
  refine JC.region ?_
  refine J.assign rfl rfl ?_
  refine J.nil ?_
  refine JX.thenN (hK0 _ _ ?_)
  refine JC.seq (fun K1 hK1 => ?_)
  refine JC.region ?_
  refine J.move rfl rfl ?_
  refine J.perm ([] ++ []) (.refl _) ?_
  refine J.callS (α := List MapEntry × Value × List (Nat × Obj)) (V := (·.2.1)) (Pr := fun x => x.1.Perm es.toList ∧ Vec 23 16 x.2.1 x.1.length (fI (x.1.map kpv)) x.2.2) (L := (·.2.2)) (l1 := []) Ty.bd77 rfl rfl (fun w1 hw => appendSeq_spec Bm b clock es w1 hst hkey (by rw [hw.keep Bm (lt_of_some hm) (by simp)]; exact hm) (by rw [hw.keep b (lt_of_some hb) (by simp)]; exact hb) hn) (fun x hx => ?_)
  obtain ⟨ss, vs, ls⟩ := x
  simp only [List.append_nil] at hx ⊢
  refine J.assign rfl rfl ?_
  refine J.nil ?_
  refine JX.thenN (hK1 _ _ ?_)
  refine JC.ret ?_
  refine JX.ret1 rfl rfl (fun w hw => ?_)
  exact ⟨(ss, vs, ls), rfl, hx, hw⟩

theorem sortI_vec (v : Value) (xs : List IDV) (lp : List (Nat × Obj)) (w : World) (hv : Vec 23 16 v xs.length (fI xs) lp) (hw0 : Own w lp) (hlen : xs.length < 4611686018427387904) :
    Calls Try.prog 71 [v, .func (.func 43) #[] #[]].toArray w fun r w' => ∃ x : List IDV × List (Nat × Obj), r = .returned (.tuple #[]) ∧ (x.1.Perm xs ∧ x.1.Pairwise (fun a b => ltI b a = false) ∧ Vec 23 16 v x.1.length (fI x.1) x.2) ∧ St w (lp.map (·.1)) x.2 w' := by
  rcases vecI9 hv with ⟨rfl, rfl, rfl⟩ | ⟨b, c, sp, rfl, rfl, h1, h2⟩
  · exact (AnyF.slices_SortFunc_none Try.sortI none 0 _ w).mono fun r w' ⟨h1, h2⟩ => ⟨([], []), h1, ⟨.refl _, .nil, Vec.nil _ _⟩, by rw [h2]; exact St.start w⟩
  · refine (sortI_spec b xs sp c w (hw0.own _ (.head _)) hlen).mono fun r w' ⟨ys, h3, h4, h5⟩ => ?_
    have hl := h4.1.length_eq
    refine ⟨(ys, [_]), h3, ⟨h4.1, h4.2, ?_⟩, h5⟩
    have := vecI_mk (xs := ys) (b := b) (c := c) (sp := sp) (by rw [List.length_append, fI_length, hl, ← fI_length, ← List.length_append]; exact h1)
    rw [hl] at this ⊢
    exact this

theorem sortedFunc_spec (Bm b clock : Nat) (es : Array MapEntry) (w : World) (hst : MapKept.Stamped es clock) (hkey : ∀ en, en ∈ es.toList → ∃ p : IDV, en.key = .agg (cI p).toArray) (hm : w.heap[Bm]? = some (cb [.map (some b)] 97)) (hb : w.heap[b]? = some (.map es clock)) (hn : es.size ≤ 1099511627776) :
    Calls Try.prog 48 [.func (.func 72) #[] #[.pointer (some ⟨Bm, 0, none⟩)], .func (.func 43) #[] #[]].toArray w fun r w' => ∃ x : List IDV × Value × List (Nat × Obj), r = .returned x.2.1 ∧ (x.1.Perm (es.toList.map kpv) ∧ x.1.Pairwise (fun a b => ltI b a = false) ∧ Vec 23 16 x.2.1 x.1.length (fI x.1) x.2.2) ∧ St w [] x.2.2 w' := by
  refine calls_of_J (args := [.func (.func 72) #[] #[.pointer (some ⟨Bm, 0, none⟩)], .func (.func 43) #[] #[]]) (e := [(0, .func (.func 72) #[] #[.pointer (some ⟨Bm, 0, none⟩)]), (1, .func (.func 43) #[] #[])]) Try.func48 rfl rfl ⟨rfl, rfl, trivial⟩ (St.start w) ?_
  refine JC.seq (fun K0 hK0 => ?_)
  refine JC.region ?_
  refine J.assign rfl rfl ?_
  refine J.nil ?_
  refine JX.thenN (hK0 _ _ ?_)
  refine JC.seq (fun K1 hK1 => ?_)
  refine JC.region ?_
  refine J.move rfl rfl ?_
  refine J.perm ([] ++ []) (.refl _) ?_
  refine J.callS (α := List MapEntry × Value × List (Nat × Obj)) (V := (·.2.1)) (Pr := fun x => x.1.Perm es.toList ∧ Vec 23 16 x.2.1 x.1.length (fI (x.1.map kpv)) x.2.2) (L := (·.2.2)) (l1 := []) Ty.bd70 rfl rfl (fun w1 hw => collect_spec Bm b clock es w1 hst hkey (by rw [hw.keep Bm (lt_of_some hm) (by simp)]; exact hm) (by rw [hw.keep b (lt_of_some hb) (by simp)]; exact hb) hn) (fun x hx => ?_)
  obtain ⟨ss, vs, ls⟩ := x
  simp only [List.append_nil] at hx ⊢
  refine J.assign rfl rfl ?_
  refine J.nil ?_
  refine JX.thenN (hK1 _ _ ?_)
  refine JC.seq (fun K2 hK2 => ?_)
  refine JC.region ?_
  refine J.move rfl rfl ?_
  refine J.move rfl rfl ?_
  have hl2 := hx.1.length_eq
  refine J.perm (ls ++ []) (by simp) ?_
  refine J.callS (α := List IDV × List (Nat × Obj)) (V := fun _ => .tuple #[]) (Pr := fun x => x.1.Perm (ss.map kpv) ∧ x.1.Pairwise (fun a b => ltI b a = false) ∧ Vec 23 16 vs x.1.length (fI x.1) x.2) (L := (·.2)) (l1 := ls) Ty.bd71 rfl rfl (fun w1 hw => sortI_vec vs (ss.map kpv) ls w1 (by rw [List.length_map]; exact hx.2) hw.owns (by rw [List.length_map]; simp at hl2; omega)) (fun x hs => ?_)
  obtain ⟨ks, lk⟩ := x
  simp only [List.append_nil] at hs ⊢
  refine J.nil ?_
  refine JX.thenN (hK2 _ _ ?_)
  refine JC.seq (fun K3 hK3 => ?_)
  refine JC.region ?_
  refine J.move rfl rfl ?_
  refine J.assign rfl rfl ?_
  refine J.nil ?_
  refine JX.thenN (hK3 _ _ ?_)
  refine JC.ret ?_
  refine JX.ret1 rfl rfl (fun w hw => ?_)
  exact ⟨(ks, vs, lk), rfl, ⟨hs.1.trans (hx.1.map _), hs.2⟩, hw⟩

theorem keys_spec (b : Nat) (w : World) :
    Calls Try.prog 49 [.map (some b)].toArray w fun r w' => ∃ Bm : Nat, r = .returned (.func (.func 72) #[] #[.pointer (some ⟨Bm, 0, none⟩)]) ∧ St w [] [(Bm, cb [.map (some b)] 97)] w' := by
  refine calls_of_J (args := [.map (some b)]) (e := [(0, .map (some b))]) Try.func49 rfl rfl ⟨rfl, trivial⟩ (St.start w) ?_
  refine JC.seq (fun K0 hK0 => ?_)
  refine JC.region ?_
  refine J.box rfl rfl rfl (fun b1 => ?_)
  refine J.assign rfl rfl ?_
  refine J.nil ?_
  refine JX.thenN (hK0 _ _ ?_)
  refine JC.seq (fun K1 hK1 => ?_)
  refine JC.region ?_
  refine J.makeFn rfl rfl ?_
  refine J.assign rfl rfl ?_
  refine J.nil ?_
  refine JX.thenN (hK1 _ _ ?_)
  refine JC.ret ?_
  refine JX.ret1 rfl rfl (fun w hw => ?_)
  exact ⟨b1, rfl, hw⟩

end Go.Proofs.Ytoaenmlhehcjfaa
/-
  The vault's All: contract.
-/
namespace Go.Proofs.Ytoaenmlhehcjfaa
open Go.J Go.RowKit
set_option linter.unusedVariables false
set_option linter.unusedSimpArgs false
set_option maxRecDepth 8000
/-- items by their keys -/
def SrtOf (A B : List ItV) : Prop := B.Perm A ∧ B.Pairwise (fun a b => valI a.key < valI b.key)
theorem Vm.kpv {L : List HI} {es : Array MapEntry} {ck : Nat} (h : Vm L es ck) : es.toList.map kpv = L.map (·.key) := by
  refine List.ext_getElem? fun i => ?_
  rw [List.getElem?_map, List.getElem?_map]
  cases he : es.toList[i]? with
  | none =>
    have h1 := congrArg (fun l => l[i]?) h.eq
    simp only [List.getElem?_map, he, Option.map_none] at h1
    cases hL : L[i]? with
    | none => rfl
    | some x => rw [hL] at h1; cases h1
  | some e =>
    obtain ⟨x, hx, h1, _⟩ := h.get' he
    rw [hx]
    have h2 := kpv_spec ⟨x.key, h1⟩
    rw [h1] at h2
    simp only [Option.map_some, cI_eq.1 (agg_inj.1 h2)]
theorem Vm.size {L : List HI} {es : Array MapEntry} {ck : Nat} (h : Vm L es ck) : es.size = L.length := by
  have := congrArg List.length h.eq
  simpa using this
theorem keyed {L : List HI} (hd : L.Pairwise (fun x y => x.key ≠ y.key)) : (L.map (·.key)).map (fun k => ((hget L k).getD zH).it) = L.map HI.it := by
  rw [List.map_map]
  refine List.map_congr_left fun x hx => ?_
  obtain ⟨i, hi⟩ := List.mem_iff_getElem?.1 hx
  show ((hget L x.key).getD zH).it = x.it
  rw [hget_at hd hi]; rfl
theorem hget_in {L : List HI} {k : IDV} (h : k ∈ L.map (·.key)) : ∃ x, hget L k = some x ∧ x ∈ L ∧ x.key = k := by
  obtain ⟨x, hx, rfl⟩ := List.mem_map.1 h
  cases hg : hget L x.key with
  | none => exact absurd rfl (hget_none.1 hg x hx)
  | some y => exact ⟨y, rfl, (hget_some hg).1, (hget_some hg).2⟩
theorem all_srt {L : List HI} (hd : L.Pairwise (fun x y => x.key ≠ y.key)) {ks : List IDV} (hp : ks.Perm (L.map (·.key))) (hs : ks.Pairwise (fun a b => ltI b a = false)) : SrtOf (L.map HI.it) (ks.map (fun k => ((hget L k).getD zH).it)) := by
  refine ⟨(hp.map _).trans (by rw [keyed hd]), ?_⟩
  rw [List.pairwise_map]
  have hn : ks.Nodup := hp.nodup_iff.2 (by rw [List.Nodup, List.pairwise_map]; exact hd)
  refine (hs.and hn).imp_of_mem fun {a b} ha hb h => ?_
  obtain ⟨x, hx, _, hxk⟩ := hget_in (hp.mem_iff.1 ha)
  obtain ⟨y, hy, _, hyk⟩ := hget_in (hp.mem_iff.1 hb)
  rw [hx, hy]
  show valI x.key < valI y.key
  rw [hxk, hyk]
  have h1 := h.1
  rw [Bool.eq_false_iff, ne_eq, ltI_iff] at h1
  have h2 : valI a ≠ valI b := fun e => h.2 (valI_inj e)
  omega
structure AlS where
  i : Nat
  ys : List HI
  v : Value
  lv : List (Nat × Obj)
theorem cHs_len (ys : List HI) : (ys.flatMap cH).length = ys.length * 34 := by
  induction ys with
  | nil => rfl
  | cons y ys ih =>
    rw [List.flatMap_cons, List.length_append, ih, List.length_cons]
    show 34 + _ = _
    omega

set_option maxHeartbeats 1000000 in
theorem vall_spec (vb mb : Nat) (lv : Value) (inc : Int) (L : List HI) (es : Array MapEntry) (ck : Nat) (hT : Vm L es ck) (hV : VOK L) (hLn : L.length ≤ 1000) (w : World) (hw0 : Own w [(vb, vaO lv mb inc), (mb, .map es ck)]) (hrows : ∀ x, x ∈ L → Row w x.sv x.bs.length (x.bs.map u8) ∧ Off [vb, mb] x.sv (x.bs.map u8) ∧ x.bs.length ≤ 1000) :
    Calls Try.prog 20 [.pointer (some ⟨vb, 0, none⟩)].toArray w fun r w' => ∃ x : List HI × Value × List (Nat × Obj), r = .returned x.2.1 ∧ (SrtOf (L.map HI.it) (x.1.map HI.it) ∧ VOK x.1 ∧ Vec 28 34 x.2.1 (x.1).length ((x.1).flatMap cH) x.2.2) ∧ St w [vb, mb] (x.2.2 ++ (lpsH x.1 ++ [(vb, vaO lv mb inc), (mb, .map es ck)])) w' := by
  refine calls_of_J (args := [.pointer (some ⟨vb, 0, none⟩)]) (e := [(0, .pointer (some ⟨vb, 0, none⟩))]) Try.func20 rfl rfl ⟨rfl, trivial⟩ (hw0.st) ?_
  refine JC.seq (fun K0 hK0 => ?_)
  refine JC.region ?_
  refine J.assign rfl rfl ?_
  refine J.nil ?_
  refine JX.thenN (hK0 _ _ ?_)
  refine JC.seq (fun K1 hK1 => ?_)
  refine JC.seq (fun K2 hK2 => ?_)
  refine JC.region ?_
  refine J.move rfl rfl ?_
  refine J.eqNil Ty.u38 rfl rfl rfl ?_
  refine J.nil ?_
  refine JX.thenN (hK2 _ _ ?_)
  first | refine JC.condF rfl ?_ | refine JC.cond rfl (fun h => by first | (exfalso; simp at h; omega) | (simp at h)) (fun _ => ?_)
  refine JC.skip ?_
  refine JX.thenN (hK1 _ _ ?_)
  refine JC.seq (fun K3 hK3 => ?_)
  refine JC.region ?_
  refine J.assign rfl rfl ?_
  refine J.nil ?_
  refine JX.thenN (hK3 _ _ ?_)
  refine JC.seq (fun K4 hK4 => ?_)
  refine JC.seq (fun K5 hK5 => ?_)
  refine JC.region ?_
  refine J.move rfl rfl ?_
  refine J.nilCheck rfl rfl ?_
  refine J.fieldAddr Ty.fd99_1 rfl rfl ?_
  refine J.load1 (v := .map (some mb)) Ty.a97 rfl (fun w1 hw => by rw [cell_of (hw.own ((vb, vaO lv mb inc)) (by repeat first | exact .head _ | apply List.Mem.tail | apply List.mem_append_right))]; rfl) rfl ?_
  refine J.perm ([] ++ ((vb, vaO lv mb inc) :: (mb, .map es ck) :: [])) (.refl _) ?_
  refine J.callS (α := Nat) (V := fun Bm => .func (.func 72) #[] #[.pointer (some ⟨Bm, 0, none⟩)]) (Pr := fun _ => True) (L := fun Bm => [(Bm, cb [.map (some mb)] 97)]) (l1 := []) Ty.bd49 rfl rfl (fun w1 hw => (keys_spec mb w1).mono fun _ _ ⟨Bm, h1, h2⟩ => ⟨Bm, h1, trivial, h2⟩) (fun Bm _ => ?_)
  refine J.perm ([] ++ ((Bm, cb [.map (some mb)] 97) :: (vb, vaO lv mb inc) :: (mb, .map es ck) :: [])) (.refl _) ?_
  refine J.callS (α := List IDV × Value × List (Nat × Obj)) (V := (·.2.1)) (Pr := fun x => x.1.Perm (es.toList.map kpv) ∧ x.1.Pairwise (fun a b => ltI b a = false) ∧ Vec 23 16 x.2.1 x.1.length (fI x.1) x.2.2) (L := (·.2.2)) (l1 := []) Ty.bd48 rfl rfl (fun w1 hw => sortedFunc_spec Bm mb ck es w1 hT.st (fun en hen => by
    obtain ⟨i, hi⟩ := List.mem_iff_getElem?.1 hen
    obtain ⟨x, _, h1, _⟩ := hT.get' hi
    exact ⟨x.key, h1⟩) (hw.own ((Bm, cb [.map (some mb)] 97)) (by repeat first | exact .head _ | apply List.Mem.tail | apply List.mem_append_right)) (hw.own ((mb, .map es ck)) (by repeat first | exact .head _ | apply List.Mem.tail | apply List.mem_append_right)) (by rw [hT.size]; omega)) (fun x hx => ?_)
  obtain ⟨ks, vk, lk⟩ := x
  obtain ⟨hkp, hks, hvk⟩ := hx
  try simp only at hkp hks hvk ⊢
  rw [hT.kpv] at hkp
  have hkl : ks.length = L.length := by have := hkp.length_eq; rwa [List.length_map] at this
  obtain ⟨ak, ckk, rfl, hckk⟩ := hvk.form
  refine J.lenS rfl Ty.u101 rfl rfl ?_
  refine J.move rfl rfl ?_
  refine J.nil ?_
  refine JX.thenN (hK5 _ _ ?_)
  refine JC.block ?_
  refine JC.conseq (JC.cov (f := (fun st => [(0, .pointer (some ⟨vb, 0, none⟩)), (3, st.v), (13, .slice ak ks.length ckk), (14, .int .i64 ((ks.length : Nat) : Int)), (15, .int .i64 ((st.i : Nat) : Int))]) (⟨0, [], .slice none 0 0, []⟩ : AlS)) ⟨rfl, rfl, rfl, rfl, rfl, trivial⟩ (JC.loop (α := AlS) (fun st => [(0, .pointer (some ⟨vb, 0, none⟩)), (3, st.v), (13, .slice ak ks.length ckk), (14, .int .i64 ((ks.length : Nat) : Int)), (15, .int .i64 ((st.i : Nat) : Int))]) (fun st w' => (st.i ≤ ks.length ∧ st.ys.map HI.it = (ks.take st.i).map (fun k => ((hget L k).getD zH).it) ∧ VOK st.ys ∧ Vec 28 34 st.v (st.ys).length ((st.ys).flatMap cH) st.lv) ∧ St w [vb, mb] (st.lv ++ (lpsH st.ys ++ (lk ++ ((Bm, cb [.map (some mb)] 97) :: (vb, vaO lv mb inc) :: (mb, .map es ck) :: [])))) w') (fun st => ks.length - st.i) (⟨0, [], .slice none 0 0, []⟩ : AlS) (fun st => ?_))) (fun w hw => ⟨⟨Nat.zero_le _, rfl, VOK.nil, Vec.nil _ _⟩, hw⟩)
  obtain ⟨i, ys, v10, l10⟩ := st
  refine JC.pr (fun hI => ?_)
  obtain ⟨hi, hys, hok, hv10⟩ := hI
  try simp only at hi hys hok hv10 ⊢
  have hyl : ys.length = i := by
    have := congrArg List.length hys
    rw [List.length_map, List.length_map, List.length_take] at this
    omega
  refine JC.seq (fun K6 hK6 => ?_)
  refine JC.region ?_
  refine J.bin rfl rfl rfl rfl ?_
  refine J.nil ?_
  refine JX.thenN (hK6 _ _ ?_)
  refine JC.seq (fun K7 hK7 => ?_)
  refine JC.cond rfl (fun h1 => ?_) (fun h1 => ?_)
  · skip
    have hlt : i < ks.length := by simp at h1; omega
    obtain ⟨kk, hkk⟩ : ∃ x, ks[i]? = some x := ⟨_, List.getElem?_eq_getElem hlt⟩
    obtain ⟨O, hOg, hOm, hOk⟩ := hget_in (hkp.mem_iff.1 (List.mem_of_getElem? hkk))
    have hO : (hget L kk).getD zH = O := by rw [hOg]; rfl
    obtain ⟨hOr, hOf, hOl⟩ := hrows O hOm
    have hon := (hV O hOm).1
    obtain ⟨qk, hqk⟩ : ∃ q, ak = some ⟨q, 0, none⟩ := by
      rcases hvk.2 with ⟨_, h9, _⟩ | ⟨q, c9, sp, h9, _⟩
      · omega
      · simp only [Value.slice.injEq] at h9; exact ⟨q, h9.1⟩
    subst hqk
    refine JC.skip ?_
    refine JX.thenN (hK7 _ _ ?_)
    refine JC.seq (fun K8 hK8 => ?_)
    refine JC.block ?_
    refine JC.seq (fun K9 hK9 => ?_)
    refine JC.region ?_
    refine J.indexAddrS Ty.el101 Ty.s23 rfl rfl (by omega) (by omega) rfl ?_
    refine J.loadA (vs := cI kk) Ty.a23 Ty.s23 rfl rfl (fun w1 hw => rowF_at (o := 0) (vec_rowM hvk hw (fun q hq => by first | (simp [hq]; done) | (simp at hq; simp [hq]; done) | (simp at hq; subst hq; simp))) hkk (by simp)) rfl ?_
    refine J.alloc Ty.zID rfl rfl (fun b5 => ?_)
    refine J.storeW (cs := cI zI) (vs := cI kk) Ty.s23 rfl rfl rfl rfl rfl (one_cI _) .here ?_
    refine J.nil ?_
    refine JX.thenN (hK9 _ _ ?_)
    apply JC.drawX (α := Option Addr × Nat × List (Nat × Obj) × Nat) 9 (fun x => match x with | ⟨a26, c26, l26, x27⟩ => [v10, .pointer (some ⟨vb, 0, none⟩), .pointer (some ⟨vb, 0, none⟩), .pointer (some ⟨vb, 0 + 1, none⟩), .map (some mb), .agg (cI kk).toArray, .agg (cH O).toArray, .agg (cT O.key O.ver (.slice a26 O.bs.length c26)).toArray, .slice (some ⟨x27, 0, none⟩) 1 1]) (fun m x => match x with | ⟨a26, c26, l26, x27⟩ => fun w1 => ((m 7 = true → Vec 5 1 (.slice a26 O.bs.length c26) (O.bs).length ((O.bs).map u8) l26) ∧ (m 8 = true → m 7 = true)) ∧ St w [vb, mb] ((bif m 7 then l26 else []) ++ ((bif m 8 then [(x27, cb (cT O.key O.ver (.slice a26 O.bs.length c26)) 28)] else []) ++ ((b5, cb (cI kk) 23) :: (l10 ++ (lpsH ys ++ (lk ++ ((Bm, cb [.map (some mb)] 97) :: (vb, vaO lv mb inc) :: (mb, .map es ck) :: []))))))) w1) Ty.mixed rfl rfl rfl (by kernel_rfl) rfl rfl ?hinit ?hstep ?htail
    case hinit => exact fun w1 hw => ⟨(none, 0, [], 0), ⟨fun h => (by cases h), fun h => (by cases h)⟩, hw.drew⟩
    case hstep =>
      refine ⟨fun m x hm hp => ?_, fun m x hm hp => ?_, fun m x hm hp => ?_, fun m x hm hp => ?_, fun m x hm hp => ?_, fun m x hm hp => ?_, fun m x hm hp => ?_, fun m x hm hp => ?_, fun m x hm hp => ?_, trivial⟩
      · skip
        obtain ⟨a26, c26, l26, x27⟩ := x
        show J _ _ _ _ _ (_) _
        refine J.pr (fun hF => ?_)
        refine J.move rfl rfl ?_
        exact J.finX rfl (fun _ hw => ⟨⟨a26, c26, l26, x27⟩, rfl, fun _ _ _ => rfl, hF, hw⟩)
      · skip
        obtain ⟨a26, c26, l26, x27⟩ := x
        show J _ _ _ _ _ (_) _
        refine J.pr (fun hF => ?_)
        refine J.move rfl rfl ?_
        exact J.finX rfl (fun _ hw => ⟨⟨a26, c26, l26, x27⟩, rfl, fun _ _ _ => rfl, hF, hw⟩)
      · skip
        obtain ⟨a26, c26, l26, x27⟩ := x
        show J _ _ _ _ _ ((20, .pointer (some ⟨vb, 0, none⟩)) :: _) _
        refine J.pr (fun hF => ?_)
        refine J.nilCheck rfl rfl ?_
        exact J.finX rfl (fun _ hw => ⟨⟨a26, c26, l26, x27⟩, rfl, fun _ _ _ => rfl, hF, hw⟩)
      · skip
        obtain ⟨a26, c26, l26, x27⟩ := x
        show J _ _ _ _ _ ((21, .pointer (some ⟨vb, 0, none⟩)) :: _) _
        refine J.pr (fun hF => ?_)
        refine J.fieldAddr Ty.fd99_1 rfl rfl ?_
        exact J.finX rfl (fun _ hw => ⟨⟨a26, c26, l26, x27⟩, rfl, fun _ _ _ => rfl, hF, hw⟩)
      · skip
        obtain ⟨a26, c26, l26, x27⟩ := x
        show J _ _ _ _ _ ((22, .pointer (some ⟨vb, 0 + 1, none⟩)) :: _) _
        refine J.pr (fun hF => ?_)
        refine J.load1 (v := .map (some mb)) Ty.a97 rfl (fun w1 hw => by rw [cell_of (hw.own ((vb, vaO lv mb inc)) (by repeat first | exact .head _ | apply List.Mem.tail | apply List.mem_append_right))]; rfl) rfl ?_
        exact J.finX rfl (fun _ hw => ⟨⟨a26, c26, l26, x27⟩, rfl, fun _ _ _ => rfl, hF, hw⟩)
      · skip
        obtain ⟨a26, c26, l26, x27⟩ := x
        show J _ _ _ _ _ (_) _
        refine J.pr (fun hF => ?_)
        refine J.loadA (vs := cI kk) Ty.a23 Ty.s23 rfl rfl (fun w1 hw => Cells.of_block (hw.own ((b5, cb (cI kk) 23)) (by repeat first | exact .head _ | apply List.Mem.tail | apply List.mem_append_right)) rfl) rfl ?_
        exact J.finX rfl (fun _ hw => ⟨⟨a26, c26, l26, x27⟩, rfl, fun _ _ _ => rfl, hF, hw⟩)
      · skip
        obtain ⟨a26, c26, l26, x27⟩ := x
        show J _ _ _ _ _ ((24, .agg (cI kk).toArray) :: (23, .map (some mb)) :: _) _
        refine J.pr (fun hF => ?_)
        refine J.lookV1 Ty.u97 Ty.KI Ty.keyI Ty.zIt rfl rfl hT (fun w1 hw => hw.own ((mb, .map es ck)) (by repeat first | exact .head _ | apply List.Mem.tail | apply List.mem_append_right)) rfl ?_
        refine J.name 25 rfl (show _ = Value.agg (cH O).toArray by rw [hO]) ?_
        exact J.finX rfl (fun _ hw => ⟨⟨a26, c26, l26, x27⟩, rfl, fun _ _ _ => rfl, hF, hw⟩)
      · skip
        obtain ⟨a26, c26, l26, x27⟩ := x
        show J _ _ _ _ _ ((25, .agg (cH O).toArray) :: _) _
        refine J.pr (fun hF => ?_)
        have h8 : m 8 = false := by cases h : m 8 with
          | false => rfl
          | true => rw [hF.2 h] at hm; cases hm
        refine J.conseq (I' := St w [vb, mb] ((b5, cb (cI kk) 23) :: (l10 ++ (lpsH ys ++ (lk ++ ((Bm, cb [.map (some mb)] 97) :: (vb, vaO lv mb inc) :: (mb, .map es ck) :: [])))))) ?_ (fun w1 hw => by simp only [hm, h8, cond_false, List.nil_append] at hw; exact hw)
        refine J.perm ([] ++ ((b5, cb (cI kk) 23) :: (l10 ++ (lpsH ys ++ (lk ++ ((Bm, cb [.map (some mb)] 97) :: (vb, vaO lv mb inc) :: (mb, .map es ck) :: [])))))) (.refl _) ?_
        refine J.callS (α := Value × List (Nat × Obj)) (V := fun y => .agg (cT O.key O.ver y.1).toArray) (Pr := fun y => Vec 5 1 y.1 (O.bs).length ((O.bs).map u8) y.2) (L := (·.2)) (l1 := []) Ty.bd47 rfl rfl (fun w1 hw => copied_spec (cH O) O.key O.ver O.bs O.sv w1 rfl (hOr.st hOf hw) (by omega)) (fun y hyn => ?_)
        obtain ⟨vn, ln⟩ := y
        try simp only at hyn ⊢
        obtain ⟨an, cn, rfl, hcn9⟩ := hyn.form
        refine J.nil (JX.finB rfl (fun w1 hw => ⟨⟨⟨an, cn, ln, x27⟩, rfl, fun j h1 h2 => ?_, ?_⟩, trivial⟩))
        · match j, h1 with
          | 0, _ => (first | rfl | trivial)
          | 1, _ => (first | rfl | trivial)
          | 2, _ => (first | rfl | trivial)
          | 3, _ => (first | rfl | trivial)
          | 4, _ => (first | rfl | trivial)
          | 5, _ => (first | rfl | trivial)
          | 6, _ => (first | rfl | trivial)
          | 7, _ => exact absurd (h2.symm.trans hm) (by decide)
          | 8, _ => (first | rfl | trivial)
          | j + 9, h1 => omega
        show ((true = true → Vec 5 1 (.slice an O.bs.length cn) (O.bs).length ((O.bs).map u8) ln) ∧ (m 8 = true → true = true)) ∧ St w [vb, mb] ((bif true then ln else []) ++ ((bif m 8 then [(x27, cb (cT O.key O.ver (.slice an O.bs.length cn)) 28)] else []) ++ ((b5, cb (cI kk) 23) :: (l10 ++ (lpsH ys ++ (lk ++ ((Bm, cb [.map (some mb)] 97) :: (vb, vaO lv mb inc) :: (mb, .map es ck) :: []))))))) w1
        simp only [hm, h8, cond_true, cond_false, List.nil_append] at hw ⊢
        exact ⟨⟨fun _ => hyn, fun h => (by cases h)⟩, hw.perm (by (refine perm_cnt (fun _ => ?_)); simp only [cntB_append, cntB_cons, cntB_nil, Nat.add_zero, Nat.zero_add]; try ac_rfl)⟩
      · skip
        obtain ⟨a26, c26, l26, x27⟩ := x
        show J _ _ _ _ _ ((26, .agg (cT O.key O.ver (.slice a26 O.bs.length c26)).toArray) :: _) _
        have hp7 : m 7 = true := predsT hp (by kernel_rfl)
        refine J.pr (fun hF => ?_)
        refine J.conseq (I' := St w [vb, mb] (l26 ++ ((b5, cb (cI kk) 23) :: (l10 ++ (lpsH ys ++ (lk ++ ((Bm, cb [.map (some mb)] 97) :: (vb, vaO lv mb inc) :: (mb, .map es ck) :: []))))))) ?_ (fun w1 hw => by simp only [hm, hp7, cond_true, cond_false, List.nil_append] at hw; exact hw)
        refine J.buildSl (cs := cT O.key O.ver (.slice a26 O.bs.length c26)) Ty.el44 Ty.s28 Ty.zIt rfl rfl rfl rfl (by kernel_rfl) rfl rfl (fun b27 => ?_)
        refine J.nil (JX.finB rfl (fun w1 hw => ⟨⟨⟨a26, c26, l26, b27⟩, rfl, fun j h1 h2 => ?_, ?_⟩, trivial⟩))
        · match j, h1 with
          | 0, _ => (first | rfl | trivial)
          | 1, _ => (first | rfl | trivial)
          | 2, _ => (first | rfl | trivial)
          | 3, _ => (first | rfl | trivial)
          | 4, _ => (first | rfl | trivial)
          | 5, _ => (first | rfl | trivial)
          | 6, _ => (first | rfl | trivial)
          | 7, _ => (first | rfl | trivial)
          | 8, _ => exact absurd (h2.symm.trans hm) (by decide)
          | j + 9, h1 => omega
        show ((m 7 = true → Vec 5 1 (.slice a26 O.bs.length c26) (O.bs).length ((O.bs).map u8) l26) ∧ (true = true → m 7 = true)) ∧ St w [vb, mb] ((bif m 7 then l26 else []) ++ ((bif true then [(b27, cb (cT O.key O.ver (.slice a26 O.bs.length c26)) 28)] else []) ++ ((b5, cb (cI kk) 23) :: (l10 ++ (lpsH ys ++ (lk ++ ((Bm, cb [.map (some mb)] 97) :: (vb, vaO lv mb inc) :: (mb, .map es ck) :: []))))))) w1
        simp only [hm, hp7, cond_true, cond_false] at hw ⊢
        exact ⟨⟨fun _ => hF.1 hp7, fun _ => (by first | trivial | rfl)⟩, hw.perm (by (refine perm_cnt (fun _ => ?_)); simp only [cntB_append, cntB_cons, cntB_nil, Nat.add_zero, Nat.zero_add]; try ac_rfl)⟩
    case htail =>
      intro x
      obtain ⟨a26, c26, l26, x27⟩ := x
      show J _ _ _ _ _ ((27, .slice (some ⟨x27, 0, none⟩) 1 1) :: (26, .agg (cT O.key O.ver (.slice a26 O.bs.length c26)).toArray) :: (25, .agg (cH O).toArray) :: (24, .agg (cI kk).toArray) :: (23, .map (some mb)) :: (22, .pointer (some ⟨vb, 0 + 1, none⟩)) :: (21, .pointer (some ⟨vb, 0, none⟩)) :: (20, .pointer (some ⟨vb, 0, none⟩)) :: (19, v10) :: _) (fun w1 => ((true = true → Vec 5 1 (.slice a26 O.bs.length c26) (O.bs).length ((O.bs).map u8) l26) ∧ (true = true → true = true)) ∧ St w [vb, mb] ((bif true then l26 else []) ++ ((bif true then [(x27, cb (cT O.key O.ver (.slice a26 O.bs.length c26)) 28)] else []) ++ ((b5, cb (cI kk) 23) :: (l10 ++ (lpsH ys ++ (lk ++ ((Bm, cb [.map (some mb)] 97) :: (vb, vaO lv mb inc) :: (mb, .map es ck) :: []))))))) w1)
      refine J.pr (fun hF => ?_)
      have hv26 := hF.1 rfl
      refine J.conseq (I' := St w [vb, mb] (l10 ++ ((x27, cb (cT O.key O.ver (.slice a26 O.bs.length c26)) 28) :: (l26 ++ ((b5, cb (cI kk) 23) :: (lpsH ys ++ (lk ++ ((Bm, cb [.map (some mb)] 97) :: (vb, vaO lv mb inc) :: (mb, .map es ck) :: [])))))))) ?_ (fun w1 hw => (by simp only [cond_true] at hw; exact hw.perm (by (refine perm_cnt (fun _ => ?_)); simp only [cntB_append, cntB_cons, cntB_nil, Nat.add_zero, Nat.zero_add]; try ac_rfl)))
      refine J.append (lp := l10) (xs := ys.flatMap cH) (ys := cT O.key O.ver (.slice a26 O.bs.length c26)) (k := ys.length) (m := 1) Ty.el44 Ty.s28 Ty.b28 Ty.zIt rfl (.inl ⟨28, Ty.u44⟩) rfl rfl hv10 (fun w1 hw => .inl (Row.own (cs := cT O.key O.ver (.slice a26 O.bs.length c26)) (tb := 28) (fr := (0, 0)) hw (List.mem_append_right _ (.head _)) (List.take_of_length_le (Nat.le_refl _)) (Nat.le_refl _))) rfl one_cT (by omega) (by omega) rfl (fun v28 l28 hv28 => ?_)
      rw [show ys.flatMap cH ++ cT O.key O.ver (.slice a26 O.bs.length c26) = (ys ++ [(⟨O.key, O.ver, O.bs, .slice a26 O.bs.length c26, l26⟩ : HI)]).flatMap cH by rw [List.flatMap_append]; rfl, show ys.length + 1 = (ys ++ [(⟨O.key, O.ver, O.bs, .slice a26 O.bs.length c26, l26⟩ : HI)]).length by rw [List.length_append]; rfl] at hv28
      refine J.assign rfl rfl ?_
      refine J.nil ?_
      refine JX.blockN ?_
      refine JX.thenN (hK8 _ _ ?_)
      refine JC.region ?_
      (first | refine J.addN rfl rfl (by omega) (by omega) rfl ?_ | refine J.bin rfl rfl rfl rfl ?_)
      refine J.move rfl rfl ?_
      refine J.nil ?_
      refine JX.thenN ?_
      refine JX.again (⟨i + 1, ys ++ [⟨O.key, O.ver, O.bs, .slice a26 O.bs.length c26, l26⟩], v28, l28⟩ : AlS) ?_ ?_ ?_
      · simp only; omega
      · exact ⟨rfl, rfl, rfl, rfl, rfl, trivial⟩
      · exact fun w1 hw => ⟨⟨hlt, by simp only; rw [List.map_append, hys, List.take_add_one, hkk, List.map_append]; simp only [Option.toList_some, List.map_cons, List.map_nil, hO, HI.it], fun y hy => by
          rcases List.mem_append.1 hy with hy | hy
          · exact hok y hy
          · rw [List.mem_singleton.1 hy]; exact ⟨hon, hv26⟩, hv28⟩, (hw.perm (by simp only [lpsH, List.flatMap_append, List.flatMap_cons, List.flatMap_nil, List.append_nil]; exact (by (refine perm_cnt (fun _ => ?_)); simp only [cntB_append, cntB_cons, cntB_nil, Nat.add_zero, Nat.zero_add]; try ac_rfl) : List.Perm _ ([(x27, cb (cT O.key O.ver (.slice a26 O.bs.length c26)) 28), (b5, cb (cI kk) 23)] ++ (l28 ++ (lpsH (ys ++ [⟨O.key, O.ver, O.bs, .slice a26 O.bs.length c26, l26⟩]) ++ (lk ++ ((Bm, cb [.map (some mb)] 97) :: (vb, vaO lv mb inc) :: (mb, .map es ck) :: []))))))).drop (List.sublist_append_right _ _)⟩
  · skip
    have hge : i = ks.length := by simp at h1; omega
    rw [hge, List.take_of_length_le (Nat.le_refl _)] at hys
    refine JC.exit ?_
    refine JX.thenE ?_
    refine JX.thenE ?_
    refine JX.blockE ?_
    refine JX.thenN (hK4 _ _ ?_)
    refine JC.seq (fun K10 hK10 => ?_)
    refine JC.region ?_
    refine J.move rfl rfl ?_
    refine J.assign rfl rfl ?_
    refine J.nil ?_
    refine JX.thenN (hK10 _ _ ?_)
    refine JC.ret ?_
    refine JX.ret1 rfl rfl (fun w hw => ?_)
    exact ⟨(ys, v10, l10), rfl, ⟨by simp only; rw [hys]; exact all_srt hT.nodup hkp hks, hok, hv10⟩, (hw.perm (by (refine perm_cnt (fun _ => ?_)); simp only [cntB_append, cntB_cons, cntB_nil, Nat.add_zero, Nat.zero_add]; try ac_rfl : List.Perm _ ((lk ++ [(Bm, cb [.map (some mb)] 97)]) ++ (l10 ++ (lpsH ys ++ [(vb, vaO lv mb inc), (mb, .map es ck)]))))).drop (List.sublist_append_right _ _)⟩

end Go.Proofs.Ytoaenmlhehcjfaa
/-
  The document's Num, Text, Newer, Form: contracts; VaultForms: the walk.
-/
namespace Go.Proofs.Ytoaenmlhehcjfaa
open Go.J Go.RowKit
set_option linter.unusedVariables false
set_option linter.unusedSimpArgs false
set_option maxRecDepth 8000
section
variable {P : Program} {ops : Array Oper} {Q : Exit → Act → World → Prop} {n : Nat} {e : Env} {I I' : World → Prop} {rest : List Oper}
variable {d t yt : Nat} {p : String} {af : Array Edge} {x y z : Operand}
end
structure ByM where
  i : Nat
  m : Nat
  v : Value
  lp : List (Nat × Obj)
/-- a number's bytes, the lowest first -/
def lowB (n k : Nat) : List UInt8 := (List.range k).map (fun i => UInt8.ofNat (n / 256 ^ i))
theorem newB_ne {a b : WV} (h : a.n ≠ b.n) : newB a b = decide (b.n < a.n) := by
  unfold newB
  rw [decide_eq_false h, Bool.false_and, Bool.or_false]
theorem newB_eq {a b : WV} (h : a.n = b.n) : newB a b = decide (valI b.who < valI a.who) := by
  unfold newB
  rw [decide_eq_true h, Bool.true_and, decide_eq_false (by omega), Bool.false_or]
theorem rnewer_spec (a b : WV) (w : World) :
    Calls Try.prog 14 [.agg (cV a).toArray, .agg (cV b).toArray].toArray w fun r w' => r = .returned (.bool (newB a b)) ∧ Bel w w' := by
  refine calls_of_J (args := [.agg (cV a).toArray, .agg (cV b).toArray]) (e := [(0, .agg (cV a).toArray), (1, .agg (cV b).toArray)]) Try.func14 rfl rfl ⟨rfl, rfl, trivial⟩ (St.start w) ?_
  refine JC.seq (fun K0 hK0 => ?_)
  refine JC.region ?_
  refine J.box rfl rfl rfl (fun b2 => ?_)
  refine J.box rfl rfl rfl (fun b3 => ?_)
  refine J.assign rfl rfl ?_
  refine J.nil ?_
  refine JX.thenN (hK0 _ _ ?_)
  refine JC.seq (fun K1 hK1 => ?_)
  refine JC.seq (fun K2 hK2 => ?_)
  refine JC.region ?_
  refine J.fieldAddr Ty.fd25_0 rfl rfl ?_
  refine J.load1 (v := .int .i64 a.n) Ty.a2 rfl (fun w1 hw => by rw [cell_of (hw.own ((b2, cb (cV a) 25)) (by repeat first | exact .head _ | apply List.Mem.tail | apply List.mem_append_right))]; rfl) rfl ?_
  refine J.fieldAddr Ty.fd25_0 rfl rfl ?_
  refine J.load1 (v := .int .i64 b.n) Ty.a2 rfl (fun w1 hw => by rw [cell_of (hw.own ((b3, cb (cV b) 25)) (by repeat first | exact .head _ | apply List.Mem.tail | apply List.mem_append_right))]; rfl) rfl ?_
  refine J.bin rfl rfl rfl rfl ?_
  refine J.nil ?_
  refine JX.thenN (hK2 _ _ ?_)
  refine JC.cond rfl (fun h0 => ?_) (fun h0 => ?_)
  · skip
    have hne : a.n ≠ b.n := by simpa using h0
    refine JC.seq (fun K3 hK3 => ?_)
    refine JC.region ?_
    refine J.fieldAddr Ty.fd25_0 rfl rfl ?_
    refine J.load1 (v := .int .i64 a.n) Ty.a2 rfl (fun w1 hw => by rw [cell_of (hw.own ((b2, cb (cV a) 25)) (by repeat first | exact .head _ | apply List.Mem.tail | apply List.mem_append_right))]; rfl) rfl ?_
    refine J.fieldAddr Ty.fd25_0 rfl rfl ?_
    refine J.load1 (v := .int .i64 b.n) Ty.a2 rfl (fun w1 hw => by rw [cell_of (hw.own ((b3, cb (cV b) 25)) (by repeat first | exact .head _ | apply List.Mem.tail | apply List.mem_append_right))]; rfl) rfl ?_
    refine J.bin rfl rfl rfl rfl ?_
    refine J.name 14 rfl (show _ = Value.bool (newB a b) from congrArg Value.bool (by rw [newB_ne hne])) ?_
    refine J.assign rfl rfl ?_
    refine J.nil ?_
    refine JX.thenN (hK3 _ _ ?_)
    refine JC.ret ?_
    refine JX.thenR ?_
    refine JX.ret1 rfl rfl (fun w hw => ?_)
    exact ⟨rfl, (hw.drop (List.nil_sublist _)).below⟩
  · skip
    have heq : a.n = b.n := by simpa using h0
    refine JC.skip ?_
    refine JX.thenN (hK1 _ _ ?_)
    refine JC.seq (fun K4 hK4 => ?_)
    refine JC.region ?_
    refine J.fieldAddr Ty.fd25_1 rfl rfl ?_
    refine J.loadA (vs := cI b.who) Ty.a23 Ty.s23 rfl rfl (fun w1 hw => Cells.of_block (hw.own ((b3, cb (cV b) 25)) (by repeat first | exact .head _ | apply List.Mem.tail | apply List.mem_append_right)) rfl) rfl ?_
    refine J.fieldAddr Ty.fd25_1 rfl rfl ?_
    refine J.loadA (vs := cI a.who) Ty.a23 Ty.s23 rfl rfl (fun w1 hw => Cells.of_block (hw.own ((b2, cb (cV a) 25)) (by repeat first | exact .head _ | apply List.Mem.tail | apply List.mem_append_right)) rfl) rfl ?_
    refine J.callB (v := .bool (newB a b)) (fun w1 w2 hw hb => hw.step hb) Ty.bd21 rfl rfl (fun w1 hw => by rw [newB_eq heq]; exact less_spec b.who a.who w1) ?_
    refine J.assign rfl rfl ?_
    refine J.nil ?_
    refine JX.thenN (hK4 _ _ ?_)
    refine JC.ret ?_
    refine JX.ret1 rfl rfl (fun w hw => ?_)
    exact ⟨rfl, (hw.drop (List.nil_sublist _)).below⟩

end Go.Proofs.Ytoaenmlhehcjfaa
