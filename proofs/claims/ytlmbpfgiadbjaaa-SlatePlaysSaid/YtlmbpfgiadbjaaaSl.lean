/-
  The laws of layer 6 (slate): walks, fifth part: SlatePlays.
-/
import Derived.Test.YtlmbpfgiadbjaaaSi
import Derived.Test.YtlmbpfgiadbjaaaRg
namespace Go.Proofs.Ytlmbpfgiadbjaaa
open Go.J Go.RowKit
set_option linter.unusedVariables false
set_option linter.unusedSimpArgs false
set_option maxRecDepth 8000
structure PlD where
  again : Bool
  n : Int
  rec_ : Sl UInt8
def RPl : World → List Value → PlD → Prop := fun W cs x => cs = [.bool x.again, .int .i64 x.n, x.rec_.v] ∧ (Lit.int .i64 x.n).wf = true ∧ RSl 1 1 RU8 W [x.rec_.v] x.rec_
theorem fs70 : fieldsT Try.prog 70 = some [(4, 0, 1), (3, 1, 1), (28, 2, 1)] := by kernel_rfl
theorem dec_pl : Decodes Try.prog 70 RPl := by
  intro H enc w fuel cs x h hn
  have hl := dec_len Ty.a70 Ty.s70 h
  obtain ⟨k, hk⟩ := dec_field fs70 h hn 0 _ rfl (dec_bool Ty.u4)
  obtain ⟨i, hi, wi⟩ := dec_field fs70 h hn 1 _ rfl (dec_int Ty.u3)
  obtain ⟨b, hb⟩ := dec_field fs70 h hn 2 _ rfl (dec_slice Ty.el28 Ty.s5 Ty.b5 (by omega) (dec_u8 Ty.u5))
  have h0 := one_of hk
  have h1 := one_of hi
  have h2 := one_of hb.1
  refine ⟨⟨k, i, b⟩, ?_, wi, rfl, hb.2⟩
  apply List.ext_getElem?
  intro j
  match j with
  | 0 => exact h0
  | 1 => exact h1
  | 2 => exact h2
  | j + 3 => rw [List.getElem?_eq_none (by omega), List.getElem?_eq_none (by simp)]
section
variable {P : Program} {ops : Array Oper} {Q : Exit → Act → World → Prop} {n : Nat} {e : Env} {rest : List Oper} {wi : World}
theorem exw {α : Type} {I : α → World → Prop} (h : ∀ x, J P ops Q n rest e (fun w => w = wi ∧ I x w)) : J P ops Q n rest e (fun w => w = wi ∧ ∃ x, I x w) :=
  (J.ex h).conseq fun _ hw => hw.2.elim fun x hx => ⟨x, hw.1, hx⟩
theorem prw {p : Prop} {I : World → Prop} (h : p → J P ops Q n rest e (fun w => w = wi ∧ I w)) : J P ops Q n rest e (fun w => w = wi ∧ (p ∧ I w)) :=
  (J.pr h).conseq fun _ hw => ⟨hw.2.1, hw.1, hw.2.2⟩
end
structure PSt where
  i : Nat
  q : LogP
  down : Bool
  σ : DS
  lb : Nat
  rb : Nat
  lpR : List (Nat × Obj)

theorem slatePlays_small (w : World) (x : Int) (_w1 : (Lit.int .i64 x).wf = true) (o : Sl PlD) (ho : RSl 3 40 RPl w [o.v] o) (hs : (x % 18446744073709551616 % ((40 : Nat) : Int)).toNat < 3) :
    Calls Try.prog 13 [.int .i64 x, o.v].toArray w fun r w' => r = .returned (.bool true) ∧ Below w.heap.size w w' := by
  have hol0 := reach_len6 ho
  obtain ⟨V, hV⟩ : ∃ V : Nat, (x % 18446744073709551616 % ((40 : Nat) : Int)).toNat = V := ⟨_, rfl⟩
  have hV2 := umod_lt x 40 (by omega)
  rw [hV] at hV2
  have hs3 : V < 3 := by omega
  refine calls_of_J (args := [.int .i64 x, o.v]) (e := [(0, .int .i64 x), (1, o.v)]) Try.func13 rfl rfl ⟨rfl, rfl, trivial⟩ (St.start w) ?_
  refine JC.seq (fun K0 hK0 => ?_)
  refine JC.region ?_
  refine J.assign rfl rfl ?_
  refine J.nil ?_
  refine JX.thenN (hK0 _ _ ?_)
  refine JC.seq (fun K1 hK1 => ?_)
  refine JC.region ?_
  refine J.move rfl rfl ?_
  refine J.convInt Ty.u3 Ty.u54 rfl rfl ?_
  refine J.bin rfl rfl rfl rfl ?_
  refine J.convInt Ty.u54 Ty.u3 rfl rfl ?_
  refine J.name 23 rfl (umod x 40 (by omega) (by omega)) ?_
  rw [hV]
  refine J.mulN rfl rfl (by omega) (by omega) rfl ?_
  refine J.name 24 rfl (congrArg (Value.int .i64) (show _ = ((64 * V : Nat) : Int) by omega)) ?_
  refine J.make Ty.el28 Ty.s5 Ty.b5 Ty.z5 rfl rfl rfl rfl (by omega) (by omega) (by omega) rfl (fun b25 => ?_)
  refine J.perm ([] ++ [(b25, cb ((List.replicate (64 * V) (0 : UInt8)).map u8) 5)]) (by rw [← flat1]; exact .refl _) ?_
  refine J.callS (l1 := []) Ty.bd34 rfl rfl (fun w1 hw => pair_spec (some ⟨b25, 0, none⟩) (64 * V) (64 * V) V (List.replicate (64 * V) (0 : UInt8)) w1 (Row.own (cs := (List.replicate (64 * V) (0 : UInt8)).map u8) (tb := 5) (fr := (0, 0)) hw (.head _) (List.take_of_length_le (Nat.le_refl _)) (Nat.le_refl _)) List.length_replicate rfl (by omega)) (fun y hvR => ?_)
  obtain ⟨d, s, r, vR, lpR⟩ := y
  simp only at hvR ⊢
  obtain ⟨a1, c1, rfl, hc1⟩ := hvR.form
  obtain ⟨σ0, hσ0⟩ : ∃ σ0 : DS, σ0 = ⟨(List.replicate (64 * V) (0 : UInt8)), -1, 0⟩ := ⟨_, rfl⟩
  have hk00 : σ0.k = 0 := by rw [hσ0]
  have hvR : Vec 5 1 (.slice a1 (64 * V) c1) (64 * V) (σ0.B.map u8) lpR := by subst hσ0; exact hvR
  refine J.conseq (I' := St w [] ((d, dkO s V σ0.p σ0.k) :: (s, dkS σ0.B) :: (r, rfO (.slice a1 (64 * V) c1) σ0.p σ0.k) :: lpR)) ?_ (fun w1 hw => by subst hσ0; exact hw.drop (List.sublist_append_left _ _))
  refine J.move rfl rfl ?_
  refine J.extract rfl rfl rfl ?_
  refine J.extract rfl rfl rfl ?_
  refine J.assign rfl rfl ?_
  refine J.assign rfl rfl ?_
  refine J.nil ?_
  refine JX.thenN (hK1 _ _ ?_)
  refine JC.seq (fun K2 hK2 => ?_)
  refine JC.seq (fun K3 hK3 => ?_)
  refine JC.region ?_
  refine J.move rfl rfl ?_
  refine J.eqNil Ty.u23 rfl rfl rfl ?_
  refine J.move rfl rfl ?_
  first
    | (refine J.skip rfl rfl rfl rfl rfl ?_)
    | (refine J.skipU rfl rfl rfl rfl ?_)
    | (refine J.unguard rfl rfl rfl ?_; refine J.callB (fun w1 w2 hw hb => hw.step hb) Ty.bd27 rfl rfl (fun w1 hw => fixed6 w1) ?_)
  first
    | (refine J.skip rfl rfl rfl rfl rfl ?_)
    | (refine J.skipU rfl rfl rfl rfl ?_)
    | (refine J.unguard rfl rfl rfl ?_; refine J.not rfl rfl ?_)
  (first | refine J.pickT rfl rfl rfl ?_ | refine J.pickF rfl rfl rfl ?_)
  refine J.nil ?_
  refine JX.thenN (hK3 _ _ ?_)
  first | refine JC.condF rfl ?_ | refine JC.cond rfl (fun h => by first | (exfalso; simp at h; omega) | (simp at h)) (fun _ => ?_)
  refine JC.skip ?_
  refine JX.thenN (hK2 _ _ ?_)
  refine JC.seq (fun K4 hK4 => ?_)
  refine JC.region ?_
  refine J.move rfl rfl ?_
  refine J.callB (v := .tuple #[.pointer none, .slice none 0 0, .int .i64 1]) (fun w1 w2 hw hb => hw.step hb) Ty.bd26 rfl rfl (fun w1 hw => open_small d s V σ0.B σ0.p σ0.k w1 (St.owns (l1 := [(d, dkO s V σ0.p σ0.k), (s, dkS σ0.B)]) hw) (by subst hσ0; exact List.length_replicate) hs3) ?_
  refine J.move rfl rfl ?_
  refine J.extract rfl rfl rfl ?_
  refine J.extract rfl rfl rfl ?_
  refine J.extract rfl rfl rfl ?_
  refine J.assign rfl rfl ?_
  refine J.assign rfl rfl ?_
  refine J.assign rfl rfl ?_
  refine J.nil ?_
  refine JX.thenN (hK4 _ _ ?_)
  refine JC.seq (fun K5 hK5 => ?_)
  refine JC.region ?_
  refine J.move rfl rfl ?_
  refine J.callB (v := .tuple #[.pointer none, .slice none 0 0, .int .i64 1]) (fun w1 w2 hw hb => hw.step hb) Ty.bd35 rfl rfl (fun w1 hw => by
    have h := ropen_spec r V _ lpR σ0.B σ0.p σ0.k w1 (St.owns (l1 := (r, rfO (.slice a1 (64 * V) c1) σ0.p σ0.k) :: lpR) (l := [(d, dkO s V σ0.p σ0.k), (s, dkS σ0.B)]) (hw.perm (by (refine perm_cnt (fun _ => ?_)); simp only [cntB_append, cntB_cons, cntB_nil, Nat.add_zero, Nat.zero_add]; try ac_rfl))) hvR (by subst hσ0; exact List.length_replicate) (by omega)
    rw [openP_small hs3] at h
    exact h) ?_
  refine J.move rfl rfl ?_
  refine J.extract rfl rfl rfl ?_
  refine J.extract rfl rfl rfl ?_
  refine J.extract rfl rfl rfl ?_
  refine J.assign rfl rfl ?_
  refine J.assign rfl rfl ?_
  refine J.assign rfl rfl ?_
  refine J.nil ?_
  refine JX.thenN (hK5 _ _ ?_)
  refine JC.seq (fun K6 hK6 => ?_)
  refine JC.seq (fun K7 hK7 => ?_)
  refine JC.region ?_
  refine J.move rfl rfl ?_
  refine J.move rfl rfl ?_
  refine J.bin rfl rfl rfl rfl ?_
  refine J.nil ?_
  refine JX.thenN (hK7 _ _ ?_)
  first | refine JC.condF rfl ?_ | refine JC.cond rfl (fun h => by first | (exfalso; simp at h; omega) | (simp at h)) (fun _ => ?_)
  refine JC.skip ?_
  refine JX.thenN (hK6 _ _ ?_)
  refine JC.seq (fun K8 hK8 => ?_)
  refine JC.seq (fun K9 hK9 => ?_)
  refine JC.region ?_
  refine J.move rfl rfl ?_
  refine J.lenS rfl Ty.u68 rfl rfl ?_
  refine J.move rfl rfl ?_
  refine J.nil ?_
  refine JX.thenN (hK9 _ _ ?_)
  refine JC.block ?_
  refine JC.conseq (JC.cov (f := (fun _ => [(7, .pointer none), (10, .pointer none), (50, o.v), (51, .int .i64 ((o.xs.length : Nat) : Int)), (52, .int .i64 0)]) ()) ⟨rfl, rfl, rfl, rfl, rfl, trivial⟩ (JC.loop (α := Unit) (fun _ => [(7, .pointer none), (10, .pointer none), (50, o.v), (51, .int .i64 ((o.xs.length : Nat) : Int)), (52, .int .i64 0)]) (fun _ w' => St w [] [] w') (fun _ => 0) () (fun _ => ?_))) (fun w hw => hw.drop (List.nil_sublist _))
  skip
  refine JC.seq (fun K10 hK10 => ?_)
  refine JC.region ?_
  refine J.bin rfl rfl rfl rfl ?_
  refine J.nil ?_
  refine JX.thenN (hK10 _ _ ?_)
  refine JC.seq (fun K11 hK11 => ?_)
  refine JC.cond rfl (fun h2 => ?_) (fun h2 => ?_)
  · skip
    have hlt : 0 < o.xs.length := by simp at h2; omega
    obtain ⟨ob, oo, oc, hoa, hol, hocc, hor⟩ := ho.at hlt
    generalize o.xs[0] = z at hor
    obtain ⟨rfl, hzn, hzb⟩ := hor
    refine JC.skip ?_
    refine JX.thenN (hK11 _ _ ?_)
    refine JC.seq (fun K12 hK12 => ?_)
    refine JC.block ?_
    refine JC.seq (fun K13 hK13 => ?_)
    refine JC.region ?_
    refine J.move rfl rfl ?_
    refine J.name 50 rfl (show o.v = Value.slice (some ⟨ob, oo, none⟩) o.xs.length o.c by simp only [Sl.v, hoa]) ?_
    refine J.indexAddrS Ty.el68 Ty.s70 rfl rfl (by omega) (by omega) rfl ?_
    refine J.name 50 rfl (show Value.slice (some ⟨ob, oo, none⟩) o.xs.length o.c = o.v by simp only [Sl.v, hoa]) ?_
    refine J.loadRA Ty.a70 Ty.s70 rfl hol (by omega) hocc (by simp) rfl ?_
    refine J.alloc Ty.z70 rfl rfl (fun b14 => ?_)
    refine J.assign rfl rfl ?_
    refine J.storeO (vs := [.bool z.again, .int .i64 z.n, z.rec_.v]) Ty.s70 rfl rfl rfl rfl (by simp [Value.oneCell']) .here (by simp) ?_
    refine J.nil ?_
    refine JX.thenN (hK13 _ _ ?_)
    refine JC.seq (fun K14 hK14 => ?_)
    refine JC.seq (fun K15 hK15 => ?_)
    refine JC.region ?_
    refine J.move rfl rfl ?_
    refine J.eqNil Ty.u48 rfl rfl rfl ?_
    refine J.move rfl rfl ?_
    first
      | (refine J.skip rfl rfl rfl rfl rfl ?_)
      | (refine J.skipU rfl rfl rfl rfl ?_)
      | (refine J.unguard rfl rfl rfl ?_; refine J.move rfl rfl ?_)
    first
      | (refine J.skip rfl rfl rfl rfl rfl ?_)
      | (refine J.skipU rfl rfl rfl rfl ?_)
      | (refine J.unguard rfl rfl rfl ?_; refine J.eqNil Ty.u62 rfl rfl rfl ?_)
    (first | refine J.pickT rfl rfl rfl ?_ | refine J.pickF rfl rfl rfl ?_)
    refine J.move rfl rfl ?_
    first
      | (refine J.skip rfl rfl rfl rfl rfl ?_)
      | (refine J.skipU rfl rfl rfl rfl ?_)
      | (refine J.unguard rfl rfl rfl ?_; refine J.move rfl rfl ?_)
    first
      | (refine J.skip rfl rfl rfl rfl rfl ?_)
      | (refine J.skipU rfl rfl rfl rfl ?_)
      | (refine J.unguard rfl rfl rfl ?_; refine J.bin rfl rfl rfl rfl ?_)
    (first | refine J.pickT rfl rfl rfl ?_ | refine J.pickF rfl rfl rfl ?_)
    refine J.nil ?_
    refine JX.thenN (hK15 _ _ ?_)
    first | refine JC.condT rfl ?_ | refine JC.cond rfl (fun _ => ?_) (fun h => by first | (exfalso; simp at h; omega) | (simp at h))
    refine JC.exit ?_
    refine JX.thenE ?_
    refine JX.blockO rfl ?_
    refine JX.thenE ?_
    refine JX.thenE ?_
    refine JX.blockE ?_
    refine JX.thenN (hK8 _ _ ?_)
    refine JC.seq (fun K16 hK16 => ?_)
    refine JC.region ?_
    refine J.move rfl rfl ?_
    refine J.eqNil Ty.u48 rfl rfl rfl ?_
    refine J.move rfl rfl ?_
    refine J.eqNil Ty.u62 rfl rfl rfl ?_
    refine J.eqBool (.inl rfl) Ty.u4 rfl rfl rfl ?_
    refine J.assign rfl rfl ?_
    refine J.nil ?_
    refine JX.thenN (hK16 _ _ ?_)
    refine JC.ret ?_
    refine JX.ret1 rfl rfl (fun w hw => ?_)
    exact ⟨rfl, hw.below⟩
  · skip
    try simp only [decide_eq_true_eq, decide_eq_false_iff_not, beq_iff_eq, bne_iff_ne, bne_eq_false_iff_eq, ne_eq, beq_eq_false_iff_ne, Bool.not_eq_true, Bool.not_eq_false, Int.not_lt, Int.not_le] at h2
    refine JC.exit ?_
    refine JX.thenE ?_
    refine JX.thenE ?_
    refine JX.blockE ?_
    refine JX.thenN (hK8 _ _ ?_)
    refine JC.seq (fun K17 hK17 => ?_)
    refine JC.region ?_
    refine J.move rfl rfl ?_
    refine J.eqNil Ty.u48 rfl rfl rfl ?_
    refine J.move rfl rfl ?_
    refine J.eqNil Ty.u62 rfl rfl rfl ?_
    refine J.eqBool (.inl rfl) Ty.u4 rfl rfl rfl ?_
    refine J.assign rfl rfl ?_
    refine J.nil ?_
    refine JX.thenN (hK17 _ _ ?_)
    refine JC.ret ?_
    refine JX.ret1 rfl rfl (fun w hw => ?_)
    exact ⟨rfl, hw.below⟩

theorem ropen_good (r n : Nat) (v : Value) (lp : List (Nat × Obj)) (q : LogP) (σ : DS) (w : World) (hw0 : Own w ((r, rfO v σ.p σ.k) :: lp)) (hv : Vec 5 1 v (64 * n) (σ.B.map u8) lp) (h : LogI n q σ) (hn : n ≤ 4096) :
    Calls Try.prog 35 [.pointer (some ⟨r, 0, none⟩)].toArray w fun ρ w' => ∃ x : Nat × Value × List Value × List (Nat × Obj) × List (Nat × Obj), ρ = .returned (.tuple #[.pointer (some ⟨x.1, 0, none⟩), x.2.1, .int .i64 0]) ∧ (Vec 28 1 x.2.1 q.recs.length x.2.2.1 x.2.2.2.1 ∧ Recs 5 x.2.2.1 q.recs x.2.2.2.2) ∧ St w [] ((x.1, rlO r q false) :: (x.2.2.2.1 ++ x.2.2.2.2)) w' := by
  have h1 := ropen_spec r n v lp σ.B σ.p σ.k w hw0 hv h.len hn
  rw [h.open_] at h1
  exact h1.mono fun _ _ ⟨b, v, vs, lv, lps, e1, e2, e3, e4⟩ => ⟨(b, v, vs, lv, lps), e1, ⟨e2, e3⟩, e4⟩
theorem rappend_all (lb r n : Nat) (q : LogP) (down : Bool) (v : Value) (lp : List (Nat × Obj)) (B rec_ : List UInt8) (p k : Int) (a : Option Addr) (m c : Nat) (w : World) (hw0 : Own w ((lb, rlO r q down) :: (r, rfO v p k) :: lp)) (hv : Vec 5 1 v (64 * n) (B.map u8) lp) (hB : B.length = 64 * n) (hn : n ≤ 4096) (hn3 : 3 ≤ n) (hg : q.gen < 9223372036854775808) (hu : q.used ≤ n - 2) (hcn : q.cnt ≤ q.used) (hk : 0 ≤ k) (hk2 : k < 4611686018427380000) (hp : p < 9223372036854775808) (hml : rec_.length = m) (hm47 : m ≤ 140737488351232) (hr : Row w (.slice a m c) m (rec_.map u8)) (hoff : Off (lb :: r :: lp.map (·.1)) (.slice a m c) (rec_.map u8)) {x : Int × LogP × Bool × DS} (hx : appendP n q down ⟨B, p, k⟩ rec_ = x) :
    Calls Try.prog 37 [.pointer (some ⟨lb, 0, none⟩), .slice a m c].toArray w fun ρ w' => ∃ lp', ρ = .returned (.int .i64 x.1) ∧ Vec 5 1 v (64 * n) (x.2.2.2.B.map u8) lp' ∧ St w (lb :: r :: lp.map (·.1)) ((lb, rlO r x.2.1 x.2.2.1) :: (r, rfO v x.2.2.2.p x.2.2.2.k) :: lp') w' := by
  subst hx
  exact rappend_spec lb r n q down v lp B rec_ p k a m c w hw0 hv hB hn hn3 hg hu hcn hk hk2 hp hml hm47 hr hoff

theorem slatePlays_big (w : World) (x : Int) (_w1 : (Lit.int .i64 x).wf = true) (o : Sl PlD) (ho : RSl 3 40 RPl w [o.v] o) (hs : 3 ≤ (x % 18446744073709551616 % ((40 : Nat) : Int)).toNat) :
    Calls Try.prog 13 [.int .i64 x, o.v].toArray w fun r w' => r = .returned (.bool true) ∧ Below w.heap.size w w' := by
  have hol0 := reach_len6 ho
  obtain ⟨V, hV⟩ : ∃ V : Nat, (x % 18446744073709551616 % ((40 : Nat) : Int)).toNat = V := ⟨_, rfl⟩
  have hV2 := umod_lt x 40 (by omega)
  rw [hV] at hV2
  have hs3 : 3 ≤ V := by omega
  refine calls_of_J (args := [.int .i64 x, o.v]) (e := [(0, .int .i64 x), (1, o.v)]) Try.func13 rfl rfl ⟨rfl, rfl, trivial⟩ (St.start w) ?_
  refine JC.seq (fun K0 hK0 => ?_)
  refine JC.region ?_
  refine J.assign rfl rfl ?_
  refine J.nil ?_
  refine JX.thenN (hK0 _ _ ?_)
  refine JC.seq (fun K1 hK1 => ?_)
  refine JC.region ?_
  refine J.move rfl rfl ?_
  refine J.convInt Ty.u3 Ty.u54 rfl rfl ?_
  refine J.bin rfl rfl rfl rfl ?_
  refine J.convInt Ty.u54 Ty.u3 rfl rfl ?_
  refine J.name 23 rfl (umod x 40 (by omega) (by omega)) ?_
  rw [hV]
  refine J.mulN rfl rfl (by omega) (by omega) rfl ?_
  refine J.name 24 rfl (congrArg (Value.int .i64) (show _ = ((64 * V : Nat) : Int) by omega)) ?_
  refine J.make Ty.el28 Ty.s5 Ty.b5 Ty.z5 rfl rfl rfl rfl (by omega) (by omega) (by omega) rfl (fun b25 => ?_)
  refine J.perm ([] ++ [(b25, cb ((List.replicate (64 * V) (0 : UInt8)).map u8) 5)]) (by rw [← flat1]; exact .refl _) ?_
  refine J.callS (l1 := []) Ty.bd34 rfl rfl (fun w1 hw => pair_spec (some ⟨b25, 0, none⟩) (64 * V) (64 * V) V (List.replicate (64 * V) (0 : UInt8)) w1 (Row.own (cs := (List.replicate (64 * V) (0 : UInt8)).map u8) (tb := 5) (fr := (0, 0)) hw (.head _) (List.take_of_length_le (Nat.le_refl _)) (Nat.le_refl _)) List.length_replicate rfl (by omega)) (fun y hvR => ?_)
  obtain ⟨d, s, r, vR, lpR⟩ := y
  simp only at hvR ⊢
  obtain ⟨a1, c1, rfl, hc1⟩ := hvR.form
  obtain ⟨σ0, hσ0⟩ : ∃ σ0 : DS, σ0 = ⟨(List.replicate (64 * V) (0 : UInt8)), -1, 0⟩ := ⟨_, rfl⟩
  have hk00 : σ0.k = 0 := by rw [hσ0]
  have hvR : Vec 5 1 (.slice a1 (64 * V) c1) (64 * V) (σ0.B.map u8) lpR := by subst hσ0; exact hvR
  refine J.conseq (I' := St w [] ((d, dkO s V σ0.p σ0.k) :: (s, dkS σ0.B) :: (r, rfO (.slice a1 (64 * V) c1) σ0.p σ0.k) :: lpR)) ?_ (fun w1 hw => by subst hσ0; exact hw.drop (List.sublist_append_left _ _))
  refine J.move rfl rfl ?_
  refine J.extract rfl rfl rfl ?_
  refine J.extract rfl rfl rfl ?_
  refine J.assign rfl rfl ?_
  refine J.assign rfl rfl ?_
  refine J.nil ?_
  refine JX.thenN (hK1 _ _ ?_)
  refine JC.seq (fun K2 hK2 => ?_)
  refine JC.seq (fun K3 hK3 => ?_)
  refine JC.region ?_
  refine J.move rfl rfl ?_
  refine J.eqNil Ty.u23 rfl rfl rfl ?_
  refine J.move rfl rfl ?_
  first
    | (refine J.skip rfl rfl rfl rfl rfl ?_)
    | (refine J.skipU rfl rfl rfl rfl ?_)
    | (refine J.unguard rfl rfl rfl ?_; refine J.callB (fun w1 w2 hw hb => hw.step hb) Ty.bd27 rfl rfl (fun w1 hw => fixed6 w1) ?_)
  first
    | (refine J.skip rfl rfl rfl rfl rfl ?_)
    | (refine J.skipU rfl rfl rfl rfl ?_)
    | (refine J.unguard rfl rfl rfl ?_; refine J.not rfl rfl ?_)
  (first | refine J.pickT rfl rfl rfl ?_ | refine J.pickF rfl rfl rfl ?_)
  refine J.nil ?_
  refine JX.thenN (hK3 _ _ ?_)
  first | refine JC.condF rfl ?_ | refine JC.cond rfl (fun h => by first | (exfalso; simp at h; omega) | (simp at h)) (fun _ => ?_)
  refine JC.skip ?_
  refine JX.thenN (hK2 _ _ ?_)
  refine JC.seq (fun K4 hK4 => ?_)
  refine JC.region ?_
  refine J.move rfl rfl ?_
  have hI0 : LogI V ⟨0, 0, 0, []⟩ σ0 := by subst hσ0; exact ⟨List.length_replicate, openP_zero hs3 (by omega), by simp only; omega⟩
  refine J.perm ([] ++ ((d, dkO s V σ0.p σ0.k) :: (s, dkS σ0.B) :: (r, rfO (.slice a1 (64 * V) c1) σ0.p σ0.k) :: lpR)) (by (refine perm_cnt (fun _ => ?_)); simp only [cntB_append, cntB_cons, cntB_nil, Nat.add_zero, Nat.zero_add]; try ac_rfl) ?_
  refine J.callS (l1 := []) Ty.bd26 rfl rfl (fun w1 hw => open_good d s V ⟨0, 0, 0, []⟩ σ0 w1 (St.owns (l1 := [(d, dkO s V σ0.p σ0.k), (s, dkS σ0.B)]) (l := (r, rfO (.slice a1 (64 * V) c1) σ0.p σ0.k) :: lpR) (hw.perm (by (refine perm_cnt (fun _ => ?_)); simp only [cntB_append, cntB_cons, cntB_nil, Nat.add_zero, Nat.zero_add]; try ac_rfl))) hI0 (by omega)) (fun x hx1 => ?_)
  obtain ⟨lb, va, vsa, lva, lpa⟩ := x
  obtain ⟨hvA, hrA⟩ := hx1
  simp only at hvA hrA ⊢
  refine J.perm ((lb, lgO d ⟨0, 0, 0, []⟩ false) :: (d, dkO s V σ0.p σ0.k) :: (s, dkS σ0.B) :: (r, rfO (.slice a1 (64 * V) c1) σ0.p σ0.k) :: (lpR ++ (lva ++ lpa))) (by (refine perm_cnt (fun _ => ?_)); simp only [cntB_append, cntB_cons, cntB_nil, Nat.add_zero, Nat.zero_add]; try ac_rfl) ?_
  refine J.move rfl rfl ?_
  refine J.extract rfl rfl rfl ?_
  refine J.extract rfl rfl rfl ?_
  refine J.extract rfl rfl rfl ?_
  refine J.assign rfl rfl ?_
  refine J.assign rfl rfl ?_
  refine J.assign rfl rfl ?_
  refine J.nil ?_
  refine JX.thenN (hK4 _ _ ?_)
  refine JC.seq (fun K5 hK5 => ?_)
  refine JC.region ?_
  refine J.move rfl rfl ?_
  refine J.perm ([] ++ ((lb, lgO d ⟨0, 0, 0, []⟩ false) :: (d, dkO s V σ0.p σ0.k) :: (s, dkS σ0.B) :: (r, rfO (.slice a1 (64 * V) c1) σ0.p σ0.k) :: (lpR ++ (lva ++ lpa)))) (by (refine perm_cnt (fun _ => ?_)); simp only [cntB_append, cntB_cons, cntB_nil, Nat.add_zero, Nat.zero_add]; try ac_rfl) ?_
  refine J.callS (l1 := []) Ty.bd35 rfl rfl (fun w1 hw => ropen_good r V _ lpR ⟨0, 0, 0, []⟩ σ0 w1 (St.owns (l1 := (r, rfO (.slice a1 (64 * V) c1) σ0.p σ0.k) :: lpR) (l := (lb, lgO d ⟨0, 0, 0, []⟩ false) :: (d, dkO s V σ0.p σ0.k) :: (s, dkS σ0.B) :: (lva ++ lpa)) (hw.perm (by (refine perm_cnt (fun _ => ?_)); simp only [cntB_append, cntB_cons, cntB_nil, Nat.add_zero, Nat.zero_add]; try ac_rfl))) hvR hI0 (by omega)) (fun x hx1 => ?_)
  obtain ⟨rb, vb, vsb, lvb, lpb⟩ := x
  obtain ⟨hvB, hrB⟩ := hx1
  simp only at hvB hrB ⊢
  refine J.perm ((lb, lgO d ⟨0, 0, 0, []⟩ false) :: (d, dkO s V σ0.p σ0.k) :: (s, dkS σ0.B) :: (rb, rlO r ⟨0, 0, 0, []⟩ false) :: (r, rfO (.slice a1 (64 * V) c1) σ0.p σ0.k) :: (lpR ++ (lva ++ (lpa ++ (lvb ++ lpb))))) (by (refine perm_cnt (fun _ => ?_)); simp only [cntB_append, cntB_cons, cntB_nil, Nat.add_zero, Nat.zero_add]; try ac_rfl) ?_
  refine J.conseq (I' := St w [] ((lb, lgO d ⟨0, 0, 0, []⟩ false) :: (d, dkO s V σ0.p σ0.k) :: (s, dkS σ0.B) :: (rb, rlO r ⟨0, 0, 0, []⟩ false) :: (r, rfO (.slice a1 (64 * V) c1) σ0.p σ0.k) :: lpR)) ?_ (fun w1 hw => (hw.perm (l' := (lva ++ (lpa ++ (lvb ++ lpb))) ++ ((lb, lgO d ⟨0, 0, 0, []⟩ false) :: (d, dkO s V σ0.p σ0.k) :: (s, dkS σ0.B) :: (rb, rlO r ⟨0, 0, 0, []⟩ false) :: (r, rfO (.slice a1 (64 * V) c1) σ0.p σ0.k) :: lpR)) (by (refine perm_cnt (fun _ => ?_)); simp only [cntB_append, cntB_cons, cntB_nil, Nat.add_zero, Nat.zero_add]; try ac_rfl)).drop (List.sublist_append_right _ _))
  refine J.move rfl rfl ?_
  refine J.extract rfl rfl rfl ?_
  refine J.extract rfl rfl rfl ?_
  refine J.extract rfl rfl rfl ?_
  refine J.assign rfl rfl ?_
  refine J.assign rfl rfl ?_
  refine J.assign rfl rfl ?_
  refine J.nil ?_
  refine JX.thenN (hK5 _ _ ?_)
  refine JC.seq (fun K6 hK6 => ?_)
  refine JC.seq (fun K7 hK7 => ?_)
  refine JC.region ?_
  refine J.move rfl rfl ?_
  refine J.move rfl rfl ?_
  refine J.bin rfl rfl rfl rfl ?_
  refine J.nil ?_
  refine JX.thenN (hK7 _ _ ?_)
  first | refine JC.condF rfl ?_ | refine JC.cond rfl (fun h => by first | (exfalso; simp at h; omega) | (simp at h)) (fun _ => ?_)
  refine JC.skip ?_
  refine JX.thenN (hK6 _ _ ?_)
  refine JC.seq (fun K8 hK8 => ?_)
  refine JC.seq (fun K9 hK9 => ?_)
  refine JC.region ?_
  refine J.move rfl rfl ?_
  refine J.lenS rfl Ty.u68 rfl rfl ?_
  refine J.move rfl rfl ?_
  refine J.nil ?_
  refine JX.thenN (hK9 _ _ ?_)
  refine JC.block ?_
  refine JC.conseq (JC.cov (f := (fun st => [(5, .pointer (some ⟨d, 0, none⟩)), (6, .pointer (some ⟨r, 0, none⟩)), (7, .pointer (some ⟨st.lb, 0, none⟩)), (10, .pointer (some ⟨st.rb, 0, none⟩)), (50, o.v), (51, .int .i64 ((o.xs.length : Nat) : Int)), (52, .int .i64 ((st.i : Nat) : Int))]) (⟨0, ⟨0, 0, 0, []⟩, false, σ0, lb, rb, lpR⟩ : PSt)) ⟨rfl, rfl, rfl, rfl, rfl, rfl, rfl, trivial⟩ (JC.loop (α := PSt) (fun st => [(5, .pointer (some ⟨d, 0, none⟩)), (6, .pointer (some ⟨r, 0, none⟩)), (7, .pointer (some ⟨st.lb, 0, none⟩)), (10, .pointer (some ⟨st.rb, 0, none⟩)), (50, o.v), (51, .int .i64 ((o.xs.length : Nat) : Int)), (52, .int .i64 ((st.i : Nat) : Int))]) (fun st w' => (st.i ≤ o.xs.length ∧ st.i ≤ 101 ∧ LogI V st.q st.σ ∧ st.q.gen ≤ st.i ∧ 0 ≤ st.σ.k ∧ st.σ.k ≤ 19 * ((st.i : Nat) : Int) ∧ Vec 5 1 (.slice a1 (64 * V) c1) (64 * V) (st.σ.B.map u8) st.lpR) ∧ St w [] ((st.lb, lgO d st.q st.down) :: (d, dkO s V st.σ.p st.σ.k) :: (s, dkS st.σ.B) :: (st.rb, rlO r st.q st.down) :: (r, rfO (.slice a1 (64 * V) c1) st.σ.p st.σ.k) :: st.lpR) w') (fun st => o.xs.length - st.i) (⟨0, ⟨0, 0, 0, []⟩, false, σ0, lb, rb, lpR⟩ : PSt) (fun st => ?_))) (fun w hw => ⟨⟨Nat.zero_le _, by show 0 ≤ 101; omega, hI0, Nat.le_refl _, by show 0 ≤ σ0.k; omega, by show σ0.k ≤ 19 * ((0 : Nat) : Int); omega, hvR⟩, hw⟩)
  obtain ⟨i, q, down, σ, lb, rb, lpR⟩ := st
  refine JC.pr (fun hx => ?_)
  obtain ⟨hi, hi2, hI, hg, hk, hk3, hv⟩ := hx
  simp only at hi hi2 hI hg hk hk3 hv ⊢
  refine JC.seq (fun K10 hK10 => ?_)
  refine JC.region ?_
  refine J.bin rfl rfl rfl rfl ?_
  refine J.nil ?_
  refine JX.thenN (hK10 _ _ ?_)
  refine JC.seq (fun K11 hK11 => ?_)
  refine JC.cond rfl (fun h2 => ?_) (fun h2 => ?_)
  · skip
    have hlt : i < o.xs.length := by simp at h2; omega
    obtain ⟨ob, oo, oc, hoa, hol, hocc, hor⟩ := ho.at hlt
    generalize o.xs[i] = z at hor
    obtain ⟨rfl, hzn, hzb⟩ := hor
    have hzr := hzb.row
    have hzl := reach_len6 hzb
    have hzn2 := bounds_i64 hzn
    refine JC.skip ?_
    refine JX.thenN (hK11 _ _ ?_)
    refine JC.seq (fun K12 hK12 => ?_)
    refine JC.block ?_
    refine JC.seq (fun K13 hK13 => ?_)
    refine JC.region ?_
    refine J.move rfl rfl ?_
    refine J.name 50 rfl (show o.v = Value.slice (some ⟨ob, oo, none⟩) o.xs.length o.c by simp only [Sl.v, hoa]) ?_
    refine J.indexAddrS Ty.el68 Ty.s70 rfl rfl (by omega) (by omega) rfl ?_
    refine J.name 50 rfl (show Value.slice (some ⟨ob, oo, none⟩) o.xs.length o.c = o.v by simp only [Sl.v, hoa]) ?_
    refine J.loadRA Ty.a70 Ty.s70 rfl hol (by omega) hocc (by simp) rfl ?_
    refine J.alloc Ty.z70 rfl rfl (fun b14 => ?_)
    refine J.assign rfl rfl ?_
    refine J.storeO (vs := [.bool z.again, .int .i64 z.n, z.rec_.v]) Ty.s70 rfl rfl rfl rfl (by simp [Value.oneCell']) .here (by simp) ?_
    refine J.perm ((b14, cb [.bool z.again, .int .i64 z.n, z.rec_.v] 70) :: (lb, lgO d q down) :: (d, dkO s V σ.p σ.k) :: (s, dkS σ.B) :: (rb, rlO r q down) :: (r, rfO (.slice a1 (64 * V) c1) σ.p σ.k) :: lpR) (.refl _) ?_
    refine J.nil ?_
    refine JX.thenN (hK13 _ _ ?_)
    refine JC.seq (fun K14 hK14 => ?_)
    refine JC.seq (fun K15 hK15 => ?_)
    refine JC.region ?_
    refine J.move rfl rfl ?_
    refine J.eqNil Ty.u48 rfl rfl rfl ?_
    refine J.move rfl rfl ?_
    first
      | (refine J.skip rfl rfl rfl rfl rfl ?_)
      | (refine J.skipU rfl rfl rfl rfl ?_)
      | (refine J.unguard rfl rfl rfl ?_; refine J.move rfl rfl ?_)
    first
      | (refine J.skip rfl rfl rfl rfl rfl ?_)
      | (refine J.skipU rfl rfl rfl rfl ?_)
      | (refine J.unguard rfl rfl rfl ?_; refine J.eqNil Ty.u62 rfl rfl rfl ?_)
    (first | refine J.pickT rfl rfl rfl ?_ | refine J.pickF rfl rfl rfl ?_)
    refine J.move rfl rfl ?_
    first
      | (refine J.skip rfl rfl rfl rfl rfl ?_)
      | (refine J.skipU rfl rfl rfl rfl ?_)
      | (refine J.unguard rfl rfl rfl ?_; refine J.move rfl rfl ?_)
    first
      | (refine J.skip rfl rfl rfl rfl rfl ?_)
      | (refine J.skipU rfl rfl rfl rfl ?_)
      | (refine J.unguard rfl rfl rfl ?_; refine J.bin rfl rfl rfl rfl ?_)
    (first | refine J.pickT rfl rfl rfl ?_ | refine J.pickF rfl rfl rfl ?_)
    refine J.nil ?_
    refine JX.thenN (hK15 _ _ ?_)
    refine JC.cond rfl (fun h3 => ?_) (fun h3 => ?_)
    · skip
      refine JC.conseq (I' := St w [] ((lb, lgO d q down) :: (d, dkO s V σ.p σ.k) :: (s, dkS σ.B) :: (rb, rlO r q down) :: (r, rfO (.slice a1 (64 * V) c1) σ.p σ.k) :: lpR)) ?_ (fun w1 hw => hw.drop (List.sublist_cons_self _ _))
      refine JC.exit ?_
      refine JX.thenE ?_
      refine JX.blockO rfl ?_
      refine JX.thenE ?_
      refine JX.thenE ?_
      refine JX.blockE ?_
      refine JX.thenN (hK8 _ _ ?_)
      refine JC.seq (fun K16 hK16 => ?_)
      refine JC.region ?_
      refine J.move rfl rfl ?_
      refine J.eqNil Ty.u48 rfl rfl rfl ?_
      refine J.move rfl rfl ?_
      refine J.eqNil Ty.u62 rfl rfl rfl ?_
      refine J.eqBool (.inl rfl) Ty.u4 rfl rfl rfl ?_
      refine J.assign rfl rfl ?_
      refine J.nil ?_
      refine JX.thenN (hK16 _ _ ?_)
      refine JC.ret ?_
      refine JX.ret1 rfl rfl (fun w hw => ?_)
      exact ⟨rfl, hw.below⟩
    · skip
      have hi4 : i ≤ 100 := by simp at h3; omega
      refine JC.skip ?_
      refine JX.thenN (hK14 _ _ ?_)
      refine JC.seq (fun K17 hK17 => ?_)
      refine JC.seq (fun K18 hK18 => ?_)
      refine JC.region ?_
      refine J.fieldAddr Ty.fd70_0 rfl rfl ?_
      (first | refine J.loadO Ty.a4 rfl (.head _) rfl rfl ?_ | refine J.loadO Ty.a4 rfl (.tail _ (.head _)) rfl rfl ?_ | refine J.loadO Ty.a4 rfl (.tail _ (.tail _ (.head _))) rfl rfl ?_ | refine J.loadO Ty.a4 rfl (.tail _ (.tail _ (.tail _ (.head _)))) rfl rfl ?_ | refine J.loadO Ty.a4 rfl (.tail _ (.tail _ (.tail _ (.tail _ (.head _))))) rfl rfl ?_ | refine J.loadO Ty.a4 rfl (List.mem_append_right _ (.head _)) rfl rfl ?_ | refine J.loadO Ty.a4 rfl (List.mem_append_right _ (.tail _ (.head _))) rfl rfl ?_ | refine J.loadO Ty.a4 rfl (List.mem_append_right _ (.tail _ (.tail _ (.head _)))) rfl rfl ?_ | refine J.loadO Ty.a4 rfl (List.mem_append_right _ (.tail _ (.tail _ (.tail _ (.head _))))) rfl rfl ?_ | refine J.loadO Ty.a4 rfl (List.mem_append_right _ (.tail _ (.tail _ (.tail _ (.tail _ (.head _)))))) rfl rfl ?_)
      refine J.nil ?_
      refine JX.thenN (hK18 _ _ ?_)
      refine JC.cond rfl (fun h4 => ?_) (fun h4 => ?_)
      · skip
        have hIp : LogI V q (⟨σ.B, max z.n (-1), σ.k⟩ : DS) := ⟨hI.len, hI.open_, by simp only; omega⟩
        refine JC.seq (fun K19 hK19 => ?_)
        refine JC.region ?_
        refine J.move rfl rfl ?_
        refine J.fieldAddr Ty.fd70_1 rfl rfl ?_
        (first | refine J.loadO Ty.a3 rfl (.head _) rfl rfl ?_ | refine J.loadO Ty.a3 rfl (.tail _ (.head _)) rfl rfl ?_ | refine J.loadO Ty.a3 rfl (.tail _ (.tail _ (.head _))) rfl rfl ?_ | refine J.loadO Ty.a3 rfl (.tail _ (.tail _ (.tail _ (.head _)))) rfl rfl ?_ | refine J.loadO Ty.a3 rfl (.tail _ (.tail _ (.tail _ (.tail _ (.head _))))) rfl rfl ?_ | refine J.loadO Ty.a3 rfl (List.mem_append_right _ (.head _)) rfl rfl ?_ | refine J.loadO Ty.a3 rfl (List.mem_append_right _ (.tail _ (.head _))) rfl rfl ?_ | refine J.loadO Ty.a3 rfl (List.mem_append_right _ (.tail _ (.tail _ (.head _)))) rfl rfl ?_ | refine J.loadO Ty.a3 rfl (List.mem_append_right _ (.tail _ (.tail _ (.tail _ (.head _))))) rfl rfl ?_ | refine J.loadO Ty.a3 rfl (List.mem_append_right _ (.tail _ (.tail _ (.tail _ (.tail _ (.head _)))))) rfl rfl ?_)
        refine J.perm ([(d, dkO s V σ.p σ.k)] ++ ((b14, cb [.bool z.again, .int .i64 z.n, z.rec_.v] 70) :: (lb, lgO d q down) :: (s, dkS σ.B) :: (rb, rlO r q down) :: (r, rfO (.slice a1 (64 * V) c1) σ.p σ.k) :: lpR)) (by (refine perm_cnt (fun _ => ?_)); simp only [cntB_append, cntB_cons, cntB_nil, Nat.add_zero, Nat.zero_add]; try ac_rfl) ?_
        refine J.callT (l1 := [(d, dkO s V σ.p σ.k)]) (L := [(d, dkO s V (max z.n (-1)) σ.k)]) Ty.bd19 rfl rfl (fun w1 hw => power_spec d s V σ.p σ.k z.n w1 hw.owns) ?_
        refine J.perm ((d, dkO s V (max z.n (-1)) σ.k) :: (b14, cb [.bool z.again, .int .i64 z.n, z.rec_.v] 70) :: (lb, lgO d q down) :: (s, dkS σ.B) :: (rb, rlO r q down) :: (r, rfO (.slice a1 (64 * V) c1) σ.p σ.k) :: lpR) (.refl _) ?_
        refine J.perm ((b14, cb [.bool z.again, .int .i64 z.n, z.rec_.v] 70) :: (r, rfO (.slice a1 (64 * V) c1) σ.p σ.k) :: (lb, lgO d q down) :: (d, dkO s V (max z.n (-1)) σ.k) :: (s, dkS σ.B) :: (rb, rlO r q down) :: lpR) (by (refine perm_cnt (fun _ => ?_)); simp only [cntB_append, cntB_cons, cntB_nil, Nat.add_zero, Nat.zero_add]; try ac_rfl) ?_
        refine J.nil ?_
        refine JX.thenN (hK19 _ _ ?_)
        refine JC.seq (fun K20 hK20 => ?_)
        refine JC.region ?_
        refine J.move rfl rfl ?_
        refine J.fieldAddr Ty.fd70_1 rfl rfl ?_
        (first | refine J.loadO Ty.a3 rfl (.head _) rfl rfl ?_ | refine J.loadO Ty.a3 rfl (.tail _ (.head _)) rfl rfl ?_ | refine J.loadO Ty.a3 rfl (.tail _ (.tail _ (.head _))) rfl rfl ?_ | refine J.loadO Ty.a3 rfl (.tail _ (.tail _ (.tail _ (.head _)))) rfl rfl ?_ | refine J.loadO Ty.a3 rfl (.tail _ (.tail _ (.tail _ (.tail _ (.head _))))) rfl rfl ?_ | refine J.loadO Ty.a3 rfl (List.mem_append_right _ (.head _)) rfl rfl ?_ | refine J.loadO Ty.a3 rfl (List.mem_append_right _ (.tail _ (.head _))) rfl rfl ?_ | refine J.loadO Ty.a3 rfl (List.mem_append_right _ (.tail _ (.tail _ (.head _)))) rfl rfl ?_ | refine J.loadO Ty.a3 rfl (List.mem_append_right _ (.tail _ (.tail _ (.tail _ (.head _))))) rfl rfl ?_ | refine J.loadO Ty.a3 rfl (List.mem_append_right _ (.tail _ (.tail _ (.tail _ (.tail _ (.head _)))))) rfl rfl ?_)
        refine J.max2 rfl rfl rfl ?_
        refine J.nilCheck rfl rfl ?_
        refine J.fieldAddr Ty.fd35_1 rfl rfl ?_
        refine J.storeO (vs := [.int .i64 (max z.n (-1))]) Ty.s3 rfl rfl rfl rfl (by simp [Value.oneCell']) (.there .here) (by simp) ?_
        refine J.perm ((b14, cb [.bool z.again, .int .i64 z.n, z.rec_.v] 70) :: (r, rfO (.slice a1 (64 * V) c1) (max z.n (-1)) σ.k) :: (lb, lgO d q down) :: (d, dkO s V (max z.n (-1)) σ.k) :: (s, dkS σ.B) :: (rb, rlO r q down) :: lpR) (.refl _) ?_
        refine J.perm ((b14, cb [.bool z.again, .int .i64 z.n, z.rec_.v] 70) :: (lb, lgO d q down) :: (d, dkO s V (⟨σ.B, max z.n (-1), σ.k⟩ : DS).p (⟨σ.B, max z.n (-1), σ.k⟩ : DS).k) :: (s, dkS (⟨σ.B, max z.n (-1), σ.k⟩ : DS).B) :: (rb, rlO r q down) :: (r, rfO (.slice a1 (64 * V) c1) (⟨σ.B, max z.n (-1), σ.k⟩ : DS).p (⟨σ.B, max z.n (-1), σ.k⟩ : DS).k) :: lpR) (by (refine perm_cnt (fun _ => ?_)); simp only [cntB_append, cntB_cons, cntB_nil, Nat.add_zero, Nat.zero_add]; try ac_rfl) ?_
        refine J.nil ?_
        refine JX.thenN (hK20 _ _ ?_)
        refine JC.seq (fun K21 hK21 => ?_)
        refine JC.seq (fun K22 hK22 => ?_)
        refine JC.region ?_
        refine J.move rfl rfl ?_
        refine J.nilCheck rfl rfl ?_
        refine J.fieldAddr Ty.fd67_4 rfl rfl ?_
        (first | refine J.loadO Ty.a4 rfl (.head _) rfl rfl ?_ | refine J.loadO Ty.a4 rfl (.tail _ (.head _)) rfl rfl ?_ | refine J.loadO Ty.a4 rfl (.tail _ (.tail _ (.head _))) rfl rfl ?_ | refine J.loadO Ty.a4 rfl (.tail _ (.tail _ (.tail _ (.head _)))) rfl rfl ?_ | refine J.loadO Ty.a4 rfl (.tail _ (.tail _ (.tail _ (.tail _ (.head _))))) rfl rfl ?_ | refine J.loadO Ty.a4 rfl (List.mem_append_right _ (.head _)) rfl rfl ?_ | refine J.loadO Ty.a4 rfl (List.mem_append_right _ (.tail _ (.head _))) rfl rfl ?_ | refine J.loadO Ty.a4 rfl (List.mem_append_right _ (.tail _ (.tail _ (.head _)))) rfl rfl ?_ | refine J.loadO Ty.a4 rfl (List.mem_append_right _ (.tail _ (.tail _ (.tail _ (.head _))))) rfl rfl ?_ | refine J.loadO Ty.a4 rfl (List.mem_append_right _ (.tail _ (.tail _ (.tail _ (.tail _ (.head _)))))) rfl rfl ?_)
        refine J.nil ?_
        refine JX.thenN (hK22 _ _ ?_)
        refine JC.cond rfl (fun h5 => ?_) (fun h5 => ?_)
        · skip
          subst h5
          refine JC.seq (fun K23 hK23 => ?_)
          refine JC.region ?_
          refine J.assign rfl rfl ?_
          refine J.assign rfl rfl ?_
          refine J.nil ?_
          refine JX.thenN (hK23 _ _ ?_)
          refine JC.seq (fun K24 hK24 => ?_)
          refine JC.region ?_
          refine J.move rfl rfl ?_
          refine J.perm ([] ++ ((b14, cb [.bool z.again, .int .i64 z.n, z.rec_.v] 70) :: (lb, lgO d q true) :: (d, dkO s V (⟨σ.B, max z.n (-1), σ.k⟩ : DS).p (⟨σ.B, max z.n (-1), σ.k⟩ : DS).k) :: (s, dkS (⟨σ.B, max z.n (-1), σ.k⟩ : DS).B) :: (rb, rlO r q true) :: (r, rfO (.slice a1 (64 * V) c1) (⟨σ.B, max z.n (-1), σ.k⟩ : DS).p (⟨σ.B, max z.n (-1), σ.k⟩ : DS).k) :: lpR)) (by (refine perm_cnt (fun _ => ?_)); simp only [cntB_append, cntB_cons, cntB_nil, Nat.add_zero, Nat.zero_add]; try ac_rfl) ?_
          refine J.callS (l1 := []) Ty.bd26 rfl rfl (fun w1 hw => open_good d s V q (⟨σ.B, max z.n (-1), σ.k⟩ : DS) w1 (St.owns (l1 := [(d, dkO s V (⟨σ.B, max z.n (-1), σ.k⟩ : DS).p (⟨σ.B, max z.n (-1), σ.k⟩ : DS).k), (s, dkS (⟨σ.B, max z.n (-1), σ.k⟩ : DS).B)]) (l := (b14, cb [.bool z.again, .int .i64 z.n, z.rec_.v] 70) :: (lb, lgO d q true) :: (rb, rlO r q true) :: (r, rfO (.slice a1 (64 * V) c1) (⟨σ.B, max z.n (-1), σ.k⟩ : DS).p (⟨σ.B, max z.n (-1), σ.k⟩ : DS).k) :: lpR) (hw.perm (by (refine perm_cnt (fun _ => ?_)); simp only [cntB_append, cntB_cons, cntB_nil, Nat.add_zero, Nat.zero_add]; try ac_rfl))) hIp (by omega)) (fun x hx1 => ?_)
          obtain ⟨lb2, va, vsa, lva, lpa⟩ := x
          obtain ⟨hvA, hrA⟩ := hx1
          simp only at hvA hrA ⊢
          refine J.perm ((b14, cb [.bool z.again, .int .i64 z.n, z.rec_.v] 70) :: (lb2, lgO d q false) :: (lb, lgO d q true) :: (d, dkO s V (⟨σ.B, max z.n (-1), σ.k⟩ : DS).p (⟨σ.B, max z.n (-1), σ.k⟩ : DS).k) :: (s, dkS (⟨σ.B, max z.n (-1), σ.k⟩ : DS).B) :: (rb, rlO r q true) :: (r, rfO (.slice a1 (64 * V) c1) (⟨σ.B, max z.n (-1), σ.k⟩ : DS).p (⟨σ.B, max z.n (-1), σ.k⟩ : DS).k) :: (lpR ++ (lva ++ lpa))) (by (refine perm_cnt (fun _ => ?_)); simp only [cntB_append, cntB_cons, cntB_nil, Nat.add_zero, Nat.zero_add]; try ac_rfl) ?_
          refine J.move rfl rfl ?_
          refine J.extract rfl rfl rfl ?_
          refine J.extract rfl rfl rfl ?_
          refine J.extract rfl rfl rfl ?_
          refine J.assign rfl rfl ?_
          refine J.assign rfl rfl ?_
          refine J.assign rfl rfl ?_
          refine J.nil ?_
          refine JX.thenN (hK24 _ _ ?_)
          refine JC.seq (fun K25 hK25 => ?_)
          refine JC.region ?_
          refine J.move rfl rfl ?_
          refine J.perm ([] ++ ((b14, cb [.bool z.again, .int .i64 z.n, z.rec_.v] 70) :: (lb2, lgO d q false) :: (lb, lgO d q true) :: (d, dkO s V (⟨σ.B, max z.n (-1), σ.k⟩ : DS).p (⟨σ.B, max z.n (-1), σ.k⟩ : DS).k) :: (s, dkS (⟨σ.B, max z.n (-1), σ.k⟩ : DS).B) :: (rb, rlO r q true) :: (r, rfO (.slice a1 (64 * V) c1) (⟨σ.B, max z.n (-1), σ.k⟩ : DS).p (⟨σ.B, max z.n (-1), σ.k⟩ : DS).k) :: (lpR ++ (lva ++ lpa)))) (by (refine perm_cnt (fun _ => ?_)); simp only [cntB_append, cntB_cons, cntB_nil, Nat.add_zero, Nat.zero_add]; try ac_rfl) ?_
          refine J.callS (l1 := []) Ty.bd35 rfl rfl (fun w1 hw => ropen_good r V _ lpR q (⟨σ.B, max z.n (-1), σ.k⟩ : DS) w1 (St.owns (l1 := (r, rfO (.slice a1 (64 * V) c1) (⟨σ.B, max z.n (-1), σ.k⟩ : DS).p (⟨σ.B, max z.n (-1), σ.k⟩ : DS).k) :: lpR) (l := (b14, cb [.bool z.again, .int .i64 z.n, z.rec_.v] 70) :: (lb2, lgO d q false) :: (lb, lgO d q true) :: (d, dkO s V (⟨σ.B, max z.n (-1), σ.k⟩ : DS).p (⟨σ.B, max z.n (-1), σ.k⟩ : DS).k) :: (s, dkS (⟨σ.B, max z.n (-1), σ.k⟩ : DS).B) :: (rb, rlO r q true) :: (lva ++ lpa)) (hw.perm (by (refine perm_cnt (fun _ => ?_)); simp only [cntB_append, cntB_cons, cntB_nil, Nat.add_zero, Nat.zero_add]; try ac_rfl))) hv hIp (by omega)) (fun x hx1 => ?_)
          obtain ⟨rb2, vb, vsb, lvb, lpb⟩ := x
          obtain ⟨hvB, hrB⟩ := hx1
          simp only at hvB hrB ⊢
          refine J.perm ((b14, cb [.bool z.again, .int .i64 z.n, z.rec_.v] 70) :: (lb2, lgO d q false) :: (rb2, rlO r q false) :: (lb, lgO d q true) :: (d, dkO s V (⟨σ.B, max z.n (-1), σ.k⟩ : DS).p (⟨σ.B, max z.n (-1), σ.k⟩ : DS).k) :: (s, dkS (⟨σ.B, max z.n (-1), σ.k⟩ : DS).B) :: (rb, rlO r q true) :: (r, rfO (.slice a1 (64 * V) c1) (⟨σ.B, max z.n (-1), σ.k⟩ : DS).p (⟨σ.B, max z.n (-1), σ.k⟩ : DS).k) :: (lpR ++ (lva ++ (lpa ++ (lvb ++ lpb))))) (by (refine perm_cnt (fun _ => ?_)); simp only [cntB_append, cntB_cons, cntB_nil, Nat.add_zero, Nat.zero_add]; try ac_rfl) ?_
          refine J.move rfl rfl ?_
          refine J.extract rfl rfl rfl ?_
          refine J.extract rfl rfl rfl ?_
          refine J.extract rfl rfl rfl ?_
          refine J.assign rfl rfl ?_
          refine J.assign rfl rfl ?_
          refine J.assign rfl rfl ?_
          refine J.nil ?_
          refine JX.thenN (hK25 _ _ ?_)
          refine JC.seq (fun K26 hK26 => ?_)
          refine JC.region ?_
          refine J.move rfl rfl ?_
          refine J.move rfl rfl ?_
          refine J.bin rfl rfl rfl rfl ?_
          refine J.move rfl rfl ?_
          first
            | (refine J.skip rfl rfl rfl rfl rfl ?_)
            | (refine J.skipU rfl rfl rfl rfl ?_)
            | (refine J.unguard rfl rfl rfl ?_; refine J.move rfl rfl ?_)
          first
            | (refine J.skip rfl rfl rfl rfl rfl ?_)
            | (refine J.skipU rfl rfl rfl rfl ?_)
            | (refine J.unguard rfl rfl rfl ?_; refine J.move rfl rfl ?_)
          refine J.unguard rfl rfl rfl ?_
          refine J.callB (v := .bool true) (fun w1 w2 hw hb => hw.step hb) Ty.bd30 rfl rfl (fun w1 hw => by
            have h := sameAll_spec _ _ q.recs q.recs w1 (RowRecs.of (l := (b14, cb [.bool z.again, .int .i64 z.n, z.rec_.v] 70) :: (lb2, lgO d q false) :: (rb2, rlO r q false) :: (lb, lgO d q true) :: (d, dkO s V (⟨σ.B, max z.n (-1), σ.k⟩ : DS).p (⟨σ.B, max z.n (-1), σ.k⟩ : DS).k) :: (s, dkS (⟨σ.B, max z.n (-1), σ.k⟩ : DS).B) :: (rb, rlO r q true) :: (r, rfO (.slice a1 (64 * V) c1) (⟨σ.B, max z.n (-1), σ.k⟩ : DS).p (⟨σ.B, max z.n (-1), σ.k⟩ : DS).k) :: (lpR ++ (lvb ++ lpb))) hvA hrA (hw.perm (by (refine perm_cnt (fun _ => ?_)); simp only [cntB_append, cntB_cons, cntB_nil, Nat.add_zero, Nat.zero_add]; try ac_rfl))) (RowRecs.of (l := (b14, cb [.bool z.again, .int .i64 z.n, z.rec_.v] 70) :: (lb2, lgO d q false) :: (rb2, rlO r q false) :: (lb, lgO d q true) :: (d, dkO s V (⟨σ.B, max z.n (-1), σ.k⟩ : DS).p (⟨σ.B, max z.n (-1), σ.k⟩ : DS).k) :: (s, dkS (⟨σ.B, max z.n (-1), σ.k⟩ : DS).B) :: (rb, rlO r q true) :: (r, rfO (.slice a1 (64 * V) c1) (⟨σ.B, max z.n (-1), σ.k⟩ : DS).p (⟨σ.B, max z.n (-1), σ.k⟩ : DS).k) :: (lpR ++ (lva ++ lpa))) hvB hrB (hw.perm (by (refine perm_cnt (fun _ => ?_)); simp only [cntB_append, cntB_cons, cntB_nil, Nat.add_zero, Nat.zero_add]; try ac_rfl))) (by have := hI.bounds (by omega); omega)
            rw [decide_eq_true rfl] at h
            exact h) ?_
          first
            | (refine J.skip rfl rfl rfl rfl rfl ?_)
            | (refine J.skipU rfl rfl rfl rfl ?_)
            | (refine J.unguard rfl rfl rfl ?_; refine J.not rfl rfl ?_)
          (first | refine J.pickT rfl rfl rfl ?_ | refine J.pickF rfl rfl rfl ?_)
          refine J.nil ?_
          refine JX.thenN (hK26 _ _ ?_)
          first | refine JC.condF rfl ?_ | refine JC.cond rfl (fun h => by first | (exfalso; simp at h; omega) | (simp at h)) (fun _ => ?_)
          refine JC.skip ?_
          refine JX.thenN (hK21 _ _ ?_)
          refine JC.exit ?_
          refine JX.thenE ?_
          refine JX.blockE ?_
          refine JX.thenN (hK12 _ _ ?_)
          refine JC.region ?_
          (first | refine J.addN rfl rfl (by omega) (by omega) rfl ?_ | refine J.bin rfl rfl rfl rfl ?_)
          refine J.move rfl rfl ?_
          refine J.nil ?_
          refine JX.thenN ?_
          refine JX.again (⟨i + 1, q, false, (⟨σ.B, max z.n (-1), σ.k⟩ : DS), lb2, rb2, lpR⟩ : PSt) ?_ ?_ ?_
          · simp only; omega
          · exact ⟨rfl, rfl, rfl, rfl, rfl, rfl, rfl, trivial⟩
          · exact fun w1 hw => ⟨⟨hlt, by simp only; omega, hIp, by simp only; omega, hk, by simp only; omega, hv⟩, (hw.perm (l' := (lva ++ (lpa ++ (lvb ++ (lpb ++ [(b14, cb [.bool z.again, .int .i64 z.n, z.rec_.v] 70), (lb, lgO d q true), (rb, rlO r q true)])))) ++ ((lb2, lgO d q false) :: (d, dkO s V (⟨σ.B, max z.n (-1), σ.k⟩ : DS).p (⟨σ.B, max z.n (-1), σ.k⟩ : DS).k) :: (s, dkS (⟨σ.B, max z.n (-1), σ.k⟩ : DS).B) :: (rb2, rlO r q false) :: (r, rfO (.slice a1 (64 * V) c1) (⟨σ.B, max z.n (-1), σ.k⟩ : DS).p (⟨σ.B, max z.n (-1), σ.k⟩ : DS).k) :: lpR)) (by (refine perm_cnt (fun _ => ?_)); simp only [cntB_append, cntB_cons, cntB_nil, Nat.add_zero, Nat.zero_add]; try ac_rfl)).drop (List.sublist_append_right _ _)⟩
        · skip
          try simp only [decide_eq_true_eq, decide_eq_false_iff_not, beq_iff_eq, bne_iff_ne, bne_eq_false_iff_eq, ne_eq, beq_eq_false_iff_ne, Bool.not_eq_true, Bool.not_eq_false, Int.not_lt, Int.not_le] at h5
          refine JC.skip ?_
          refine JX.thenN (hK21 _ _ ?_)
          refine JC.exit ?_
          refine JX.thenE ?_
          refine JX.blockE ?_
          refine JX.thenN (hK12 _ _ ?_)
          refine JC.region ?_
          (first | refine J.addN rfl rfl (by omega) (by omega) rfl ?_ | refine J.bin rfl rfl rfl rfl ?_)
          refine J.move rfl rfl ?_
          refine J.nil ?_
          refine JX.thenN ?_
          refine JX.again (⟨i + 1, q, down, (⟨σ.B, max z.n (-1), σ.k⟩ : DS), lb, rb, lpR⟩ : PSt) ?_ ?_ ?_
          · simp only; omega
          · exact ⟨rfl, rfl, rfl, rfl, rfl, rfl, rfl, trivial⟩
          · exact fun w1 hw => ⟨⟨hlt, by simp only; omega, hIp, by simp only; omega, hk, by simp only; omega, hv⟩, (hw.perm (l' := [(b14, cb [.bool z.again, .int .i64 z.n, z.rec_.v] 70)] ++ ((lb, lgO d q down) :: (d, dkO s V (⟨σ.B, max z.n (-1), σ.k⟩ : DS).p (⟨σ.B, max z.n (-1), σ.k⟩ : DS).k) :: (s, dkS (⟨σ.B, max z.n (-1), σ.k⟩ : DS).B) :: (rb, rlO r q down) :: (r, rfO (.slice a1 (64 * V) c1) (⟨σ.B, max z.n (-1), σ.k⟩ : DS).p (⟨σ.B, max z.n (-1), σ.k⟩ : DS).k) :: lpR)) (by (refine perm_cnt (fun _ => ?_)); simp only [cntB_append, cntB_cons, cntB_nil, Nat.add_zero, Nat.zero_add]; try ac_rfl)).drop (List.sublist_append_right _ _)⟩
      · skip
        try simp only [decide_eq_true_eq, decide_eq_false_iff_not, beq_iff_eq, bne_iff_ne, bne_eq_false_iff_eq, ne_eq, beq_eq_false_iff_ne, Bool.not_eq_true, Bool.not_eq_false, Int.not_lt, Int.not_le] at h4
        refine JC.skip ?_
        refine JX.thenN (hK17 _ _ ?_)
        refine JC.seq (fun K27 hK27 => ?_)
        refine JC.region ?_
        refine J.buildSl Ty.el28 Ty.s5 Ty.z5 rfl rfl rfl rfl rfl rfl rfl (fun b104 => ?_)
        refine J.fieldAddr Ty.fd70_2 rfl rfl ?_
        (first | refine J.loadO Ty.a28 rfl (.head _) rfl rfl ?_ | refine J.loadO Ty.a28 rfl (.tail _ (.head _)) rfl rfl ?_ | refine J.loadO Ty.a28 rfl (.tail _ (.tail _ (.head _))) rfl rfl ?_ | refine J.loadO Ty.a28 rfl (.tail _ (.tail _ (.tail _ (.head _)))) rfl rfl ?_ | refine J.loadO Ty.a28 rfl (.tail _ (.tail _ (.tail _ (.tail _ (.head _))))) rfl rfl ?_ | refine J.loadO Ty.a28 rfl (List.mem_append_right _ (.head _)) rfl rfl ?_ | refine J.loadO Ty.a28 rfl (List.mem_append_right _ (.tail _ (.head _))) rfl rfl ?_ | refine J.loadO Ty.a28 rfl (List.mem_append_right _ (.tail _ (.tail _ (.head _)))) rfl rfl ?_ | refine J.loadO Ty.a28 rfl (List.mem_append_right _ (.tail _ (.tail _ (.tail _ (.head _))))) rfl rfl ?_ | refine J.loadO Ty.a28 rfl (List.mem_append_right _ (.tail _ (.tail _ (.tail _ (.tail _ (.head _)))))) rfl rfl ?_)
        refine J.append (lp := [(b104, cb [] 5)]) (xs := []) (ys := z.rec_.xs.map u8) (k := 0) (m := z.rec_.xs.length) Ty.el28 Ty.s5 Ty.b5 Ty.z5 rfl (.inl ⟨5, Ty.u28⟩) rfl rfl ⟨rfl, .inr ⟨b104, 0, [], rfl, rfl, rfl, Nat.le_refl _⟩⟩ (fun w1 hw => .inl (hzr.st (.inr (by simp)) hw)) (by simp) (one_u8 _) (by omega) (by omega) rfl (fun v107 lp107 hv107 => ?_)
        rw [Nat.zero_add, List.nil_append] at hv107
        obtain ⟨a107, c107, rfl, hc107⟩ := hv107.form
        refine J.assign rfl rfl ?_
        refine J.nil ?_
        refine JX.thenN (hK27 _ _ ?_)
        refine JC.seq (fun K28 hK28 => ?_)
        refine JC.region ?_
        refine J.move rfl rfl ?_
        refine J.move rfl rfl ?_
        obtain ⟨e, q2, down2, σ2, happ, hI2, hk1, hk2, hg2, hg3, hcase, hdn⟩ := append_law (n := V) (down := down) (rec_ := z.rec_.xs) (by omega) hI (by omega)
        have hb := hI.bounds (by omega)
        have hb2 := hI2.bounds (by omega)
        refine J.perm ([(lb, lgO d q down), (d, dkO s V σ.p σ.k), (s, dkS σ.B)] ++ (lp107 ++ ((b14, cb [.bool z.again, .int .i64 z.n, z.rec_.v] 70) :: (rb, rlO r q down) :: (r, rfO (.slice a1 (64 * V) c1) σ.p σ.k) :: lpR))) (by (refine perm_cnt (fun _ => ?_)); simp only [cntB_append, cntB_cons, cntB_nil, Nat.add_zero, Nat.zero_add]; try ac_rfl) ?_
        refine J.callT (l1 := [(lb, lgO d q down), (d, dkO s V σ.p σ.k), (s, dkS σ.B)]) (L := [(lb, lgO d q2 down2), (d, dkO s V σ2.p σ2.k), (s, dkS σ2.B)]) Ty.bd28 rfl rfl (fun w1 hw => append_all lb d s V q down σ.B z.rec_.xs σ.p σ.k a107 z.rec_.xs.length c107 w1 hw.owns hI.len (by omega) (by omega) (by omega) hb.2.2.1 hb.2.2.2.1 hk (by omega) hI.p rfl (by omega) (hv107.row (hw.perm (l' := lp107 ++ ([(lb, lgO d q down), (d, dkO s V σ.p σ.k), (s, dkS σ.B)] ++ ((b14, cb [.bool z.again, .int .i64 z.n, z.rec_.v] 70) :: (rb, rlO r q down) :: (r, rfO (.slice a1 (64 * V) c1) σ.p σ.k) :: lpR))) (by (refine perm_cnt (fun _ => ?_)); simp only [cntB_append, cntB_cons, cntB_nil, Nat.add_zero, Nat.zero_add]; try ac_rfl))) (hv107.off (l1 := [(lb, lgO d q down), (d, dkO s V σ.p σ.k), (s, dkS σ.B)]) hw) happ) ?_
        refine J.perm ((b14, cb [.bool z.again, .int .i64 z.n, z.rec_.v] 70) :: (lp107 ++ ((lb, lgO d q2 down2) :: (d, dkO s V σ2.p σ2.k) :: (s, dkS σ2.B) :: (rb, rlO r q down) :: (r, rfO (.slice a1 (64 * V) c1) σ.p σ.k) :: lpR))) (by (refine perm_cnt (fun _ => ?_)); simp only [cntB_append, cntB_cons, cntB_nil, Nat.add_zero, Nat.zero_add]; try ac_rfl) ?_
        refine J.assign rfl rfl ?_
        refine J.nil ?_
        refine JX.thenN (hK28 _ _ ?_)
        refine JC.seq (fun K29 hK29 => ?_)
        apply JC.drawL2 (fun w1 => ∃ lp2, Vec 5 1 (.slice a1 (64 * V) c1) (64 * V) (σ2.B.map u8) lp2 ∧ St w [] ((b14, cb [.bool z.again, .int .i64 z.n, z.rec_.v] 70) :: (lp107 ++ ((lb, lgO d q2 down2) :: (d, dkO s V σ2.p σ2.k) :: (s, dkS σ2.B) :: (rb, rlO r q2 down2) :: (r, rfO (.slice a1 (64 * V) c1) σ2.p σ2.k) :: lp2))) w1) 50 4 [Eqv (.int .i64 e), Eqv (.pointer (some ⟨rb, 0, none⟩)), Eqv (.pointer (some ⟨b14, 0 + 2, none⟩)), Eqv (z.rec_.v), Eqv (.int .i64 e), Eqv (.bool false), Eqv (.bool false), Eqv (.slice a107 z.rec_.xs.length c107), Eqv (.string (str z.rec_.xs)), Eqv (.pointer (some ⟨b14, 0 + 2, none⟩)), Eqv (z.rec_.v), Eqv (.string (str z.rec_.xs)), Eqv (.bool false), Eqv (.bool false), Eqv (.bool false), Eqv (.pointer (some ⟨lb, 0, none⟩)), Eqv (.int .i64 ((q2.cnt : Nat) : Int)), Eqv (.pointer (some ⟨rb, 0, none⟩)), Eqv (.pointer (some ⟨rb, 0, none⟩)), Eqv (.pointer (some ⟨rb, 0 + 3, none⟩)), Eqv (.int .i64 ((q2.cnt : Nat) : Int)), Eqv (.bool false), Eqv (.bool false), Eqv (.bool false), Eqv (.pointer (some ⟨lb, 0, none⟩)), Eqv (.int .i64 ((V : Int) - 2 - ((q2.used : Nat) : Int))), Eqv (.pointer (some ⟨rb, 0, none⟩)), Eqv (.int .i64 ((V : Int) - 2 - ((q2.used : Nat) : Int))), Eqv (.bool false), Eqv (.bool false), Eqv (.bool false), Eqv (.pointer (some ⟨lb, 0, none⟩)), Eqv (.bool down2), Eqv (.pointer (some ⟨rb, 0, none⟩)), Eqv (.pointer (some ⟨rb, 0, none⟩)), Eqv (.pointer (some ⟨rb, 0 + 4, none⟩)), Eqv (.bool down2), Eqv (.bool false), Eqv (.bool false), Eqv (.bool false), Eqv (.pointer (some ⟨d, 0, none⟩)), RowP (64 * V) (σ2.B.map u8), Eqv (.string (str σ2.B)), Eqv (.pointer (some ⟨r, 0, none⟩)), Eqv (.pointer (some ⟨r, 0, none⟩)), Eqv (.pointer (some ⟨r, 0 + 0, none⟩)), Eqv (.slice a1 (64 * V) c1), Eqv (.string (str σ2.B)), Eqv (.bool false), Eqv (.bool false)] Ty.mixed rfl rfl rfl (by kernel_rfl) rfl rfl rfl (by kernel_rfl) (fun w w' hw hb => hw.step hb) (fun w w' hw hb => let ⟨x, h1, h2⟩ := hw; ⟨x, h1, h2.step hb⟩) ⟨fun _ _ _ h => h, fun _ _ _ h => h, fun _ _ _ h => h, fun _ _ _ h => h, trivial⟩ ⟨fun _ _ _ h _ => h, fun _ _ _ h _ => h, fun _ _ _ h _ => h, fun _ _ _ h _ => h, fun _ _ _ h _ => h, fun _ _ _ h _ => h, fun _ _ _ h _ => h, fun _ _ _ h _ => h, fun _ _ _ h _ => h, fun _ _ _ h _ => h, fun _ _ _ h _ => h, fun _ _ _ h _ => h, fun _ _ _ h _ => h, fun _ _ _ h _ => h, fun _ _ _ h _ => h, fun _ _ _ h _ => h, fun _ _ _ h _ => h, fun _ _ _ h _ => h, fun _ _ _ h _ => h, fun _ _ _ h _ => h, fun _ _ _ h _ => h, fun _ _ _ h _ => h, fun _ _ _ h _ => h, fun _ _ _ h _ => h, fun _ _ _ h _ => h, fun _ _ _ h _ => h, fun _ _ _ h _ => h, fun _ _ _ h _ => h, fun _ _ _ h _ => h, fun _ _ _ h _ => h, fun _ _ _ h _ => h, fun _ _ _ h _ => h, fun _ _ _ h _ => h, fun _ _ _ h _ => h, fun _ _ _ h _ => h, fun _ _ _ h _ => h, fun _ _ _ h _ => h, fun _ _ _ h _ => h, fun _ _ _ h _ => h, fun _ _ _ h _ => h, fun _ _ _ h _ => h, RowP.st _ _, fun _ _ _ h _ => h, fun _ _ _ h _ => h, fun _ _ _ h _ => h, fun _ _ _ h _ => h, fun _ _ _ h _ => h, fun _ _ _ h _ => h, fun _ _ _ h _ => h, fun _ _ _ h _ => h, trivial⟩ ?hA0 ?hA1 rfl ?hb ?hC ?htail
        case hA0 =>
          refine ⟨fun wi => ?_, fun wi => ?_, fun wi => ?_, fun wi => ?_, trivial⟩
          · skip
            refine Fin.nil ?_
            refine J.move rfl rfl ?_
            refine J.nil (JX.fin rfl (fun w hw => ⟨rfl, (by rw [hw.1]; exact Below.refl _ _)⟩))
          · skip
            refine Fin.nil ?_
            refine J.move rfl rfl ?_
            refine J.nil (JX.fin rfl (fun w hw => ⟨rfl, (by rw [hw.1]; exact Below.refl _ _)⟩))
          · skip
            refine Fin.nil ?_
            refine J.fieldAddr Ty.fd70_2 rfl rfl ?_
            refine J.nil (JX.fin rfl (fun w hw => ⟨rfl, (by rw [hw.1]; exact Below.refl _ _)⟩))
          · skip
            refine Fin.cons (fun v23_2 => ?_)
            refine Fin.nil ?_
            refine J.prE (fun h => ?_); subst h
            (first | refine J.load1 Ty.a28 rfl (fun w hw => (cell_of (hw.2.own _ (.head _))).trans rfl) rfl ?_ | refine J.load1 Ty.a28 rfl (fun w hw => (cell_of (hw.2.own _ (.tail _ (.head _)))).trans rfl) rfl ?_ | refine J.load1 Ty.a28 rfl (fun w hw => (cell_of (hw.2.own _ (.tail _ (.tail _ (.head _))))).trans rfl) rfl ?_ | refine J.load1 Ty.a28 rfl (fun w hw => (cell_of (hw.2.own _ (.tail _ (.tail _ (.tail _ (.head _)))))).trans rfl) rfl ?_ | refine J.load1 Ty.a28 rfl (fun w hw => (cell_of (hw.2.own _ (.tail _ (.tail _ (.tail _ (.tail _ (.head _))))))).trans rfl) rfl ?_ | refine J.load1 Ty.a28 rfl (fun w hw => (cell_of (hw.2.own _ (List.mem_append_right _ (.head _)))).trans rfl) rfl ?_ | refine J.load1 Ty.a28 rfl (fun w hw => (cell_of (hw.2.own _ (List.mem_append_right _ (.tail _ (.head _))))).trans rfl) rfl ?_ | refine J.load1 Ty.a28 rfl (fun w hw => (cell_of (hw.2.own _ (List.mem_append_right _ (.tail _ (.tail _ (.head _)))))).trans rfl) rfl ?_ | refine J.load1 Ty.a28 rfl (fun w hw => (cell_of (hw.2.own _ (List.mem_append_right _ (.tail _ (.tail _ (.tail _ (.head _))))))).trans rfl) rfl ?_ | refine J.load1 Ty.a28 rfl (fun w hw => (cell_of (hw.2.own _ (List.mem_append_right _ (.tail _ (.tail _ (.tail _ (.tail _ (.head _)))))))).trans rfl) rfl ?_)
            refine J.nil (JX.fin rfl (fun w hw => ⟨rfl, (by rw [hw.1]; exact Below.refl _ _)⟩))
        case hA1 =>
          refine ⟨fun wi => ?_, fun wi => ?_, fun wi => ?_, fun wi => ?_, trivial⟩
          · skip
            refine Fin.nil ?_
            refine exw (fun lp2 => prw (fun hv2 => ?_))
            refine J.move rfl rfl ?_
            refine J.nil (JX.fin rfl (fun w hw => ⟨rfl, (by rw [hw.1]; exact Below.refl _ _)⟩))
          · skip
            refine Fin.nil ?_
            refine exw (fun lp2 => prw (fun hv2 => ?_))
            refine J.move rfl rfl ?_
            refine J.nil (JX.fin rfl (fun w hw => ⟨rfl, (by rw [hw.1]; exact Below.refl _ _)⟩))
          · skip
            refine Fin.nil ?_
            refine exw (fun lp2 => prw (fun hv2 => ?_))
            refine J.fieldAddr Ty.fd70_2 rfl rfl ?_
            refine J.nil (JX.fin rfl (fun w hw => ⟨rfl, (by rw [hw.1]; exact Below.refl _ _)⟩))
          · skip
            refine Fin.cons (fun v23_2 => ?_)
            refine Fin.nil ?_
            refine J.prE (fun h => ?_); subst h
            refine exw (fun lp2 => prw (fun hv2 => ?_))
            (first | refine J.load1 Ty.a28 rfl (fun w hw => (cell_of (hw.2.own _ (.head _))).trans rfl) rfl ?_ | refine J.load1 Ty.a28 rfl (fun w hw => (cell_of (hw.2.own _ (.tail _ (.head _)))).trans rfl) rfl ?_ | refine J.load1 Ty.a28 rfl (fun w hw => (cell_of (hw.2.own _ (.tail _ (.tail _ (.head _))))).trans rfl) rfl ?_ | refine J.load1 Ty.a28 rfl (fun w hw => (cell_of (hw.2.own _ (.tail _ (.tail _ (.tail _ (.head _)))))).trans rfl) rfl ?_ | refine J.load1 Ty.a28 rfl (fun w hw => (cell_of (hw.2.own _ (.tail _ (.tail _ (.tail _ (.tail _ (.head _))))))).trans rfl) rfl ?_ | refine J.load1 Ty.a28 rfl (fun w hw => (cell_of (hw.2.own _ (List.mem_append_right _ (.head _)))).trans rfl) rfl ?_ | refine J.load1 Ty.a28 rfl (fun w hw => (cell_of (hw.2.own _ (List.mem_append_right _ (.tail _ (.head _))))).trans rfl) rfl ?_ | refine J.load1 Ty.a28 rfl (fun w hw => (cell_of (hw.2.own _ (List.mem_append_right _ (.tail _ (.tail _ (.head _)))))).trans rfl) rfl ?_ | refine J.load1 Ty.a28 rfl (fun w hw => (cell_of (hw.2.own _ (List.mem_append_right _ (.tail _ (.tail _ (.tail _ (.head _))))))).trans rfl) rfl ?_ | refine J.load1 Ty.a28 rfl (fun w hw => (cell_of (hw.2.own _ (List.mem_append_right _ (.tail _ (.tail _ (.tail _ (.tail _ (.head _)))))))).trans rfl) rfl ?_)
            refine J.nil (JX.fin rfl (fun w hw => ⟨rfl, (by rw [hw.1]; exact Below.refl _ _)⟩))
        case hb =>
          · skip
            refine Fin.cons (fun v23_1 => ?_)
            refine Fin.cons (fun v23_3 => ?_)
            refine Fin.nil ?_
            refine J.prE (fun h => ?_); subst h
            refine J.prE (fun h => ?_); subst h
            refine J.perm (((rb, rlO r q down) :: (r, rfO (.slice a1 (64 * V) c1) σ.p σ.k) :: lpR) ++ ((b14, cb [.bool z.again, .int .i64 z.n, z.rec_.v] 70) :: (lp107 ++ ((lb, lgO d q2 down2) :: (d, dkO s V σ2.p σ2.k) :: (s, dkS σ2.B) :: [])))) (by (refine perm_cnt (fun _ => ?_)); simp only [cntB_append, cntB_cons, cntB_nil, Nat.add_zero, Nat.zero_add]; try ac_rfl) ?_
            refine J.callS (α := List (Nat × Obj)) (V := fun _ => .int .i64 e) (Pr := fun x => Vec 5 1 (.slice a1 (64 * V) c1) (64 * V) (σ2.B.map u8) x) (L := fun x => (rb, rlO r q2 down2) :: (r, rfO (.slice a1 (64 * V) c1) σ2.p σ2.k) :: x) (l1 := (rb, rlO r q down) :: (r, rfO (.slice a1 (64 * V) c1) σ.p σ.k) :: lpR) Ty.bd37 rfl rfl (fun w1 hw => rappend_all rb r V q down _ lpR σ.B z.rec_.xs σ.p σ.k z.rec_.a z.rec_.xs.length z.rec_.c w1 hw.owns hv hI.len (by omega) (by omega) (by omega) hb.2.2.1 hb.2.2.2.1 hk (by omega) hI.p rfl (by omega) (hzr.st (.inr (by simp)) hw) (hzr.offNew hw (fun p hp => List.mem_append_left _ hp)) happ) (fun lp2 hv2 => ?_)
            refine J.nil (JX.finB rfl (fun w hw => ⟨rfl, lp2, hv2, hw.perm (by (refine perm_cnt (fun _ => ?_)); simp only [cntB_append, cntB_cons, cntB_nil, Nat.add_zero, Nat.zero_add]; try ac_rfl)⟩))
        case hC =>
          refine ⟨fun wi => ?_, fun wi => ?_, fun wi => ?_, fun wi => ?_, fun wi => ?_, fun wi => ?_, fun wi => ?_, fun wi => ?_, fun wi => ?_, fun wi => ?_, fun wi => ?_, fun wi => ?_, fun wi => ?_, fun wi => ?_, fun wi => ?_, fun wi => ?_, fun wi => ?_, fun wi => ?_, fun wi => ?_, fun wi => ?_, fun wi => ?_, fun wi => ?_, fun wi => ?_, fun wi => ?_, fun wi => ?_, fun wi => ?_, fun wi => ?_, fun wi => ?_, fun wi => ?_, fun wi => ?_, fun wi => ?_, fun wi => ?_, fun wi => ?_, fun wi => ?_, fun wi => ?_, fun wi => ?_, fun wi => ?_, fun wi => ?_, fun wi => ?_, fun wi => ?_, fun wi => ?_, fun wi => ?_, fun wi => ?_, fun wi => ?_, fun wi => ?_, trivial⟩
          · skip
            refine Fin.cons (fun v23_0 => ?_)
            refine Fin.cons (fun v23_4 => ?_)
            refine Fin.nil ?_
            refine J.prE (fun h => ?_); subst h
            refine J.prE (fun h => ?_); subst h
            refine exw (fun lp2 => prw (fun hv2 => ?_))
            refine J.bin rfl rfl rfl rfl ?_
            refine J.name 116 rfl (show Value.bool _ = .bool false by simp) ?_
            refine J.nil (JX.fin rfl (fun w hw => ⟨rfl, (by rw [hw.1]; exact Below.refl _ _)⟩))
          · skip
            refine Fin.cons (fun v23_5 => ?_)
            refine Fin.cons (fun v23_4 => ?_)
            refine Fin.nil ?_
            refine J.prE (fun h => ?_); subst h
            refine J.prE (fun h => ?_); subst h
            refine exw (fun lp2 => prw (fun hv2 => ?_))
            refine J.move rfl rfl ?_
            refine J.nil (JX.fin rfl (fun w hw => ⟨rfl, (by rw [hw.1]; exact Below.refl _ _)⟩))
          · skip
            refine Fin.cons (fun v23_6 => ?_)
            refine Fin.nil ?_
            refine J.prE (fun h => ?_); subst h
            refine exw (fun lp2 => prw (fun hv2 => ?_))
            first
              | (refine J.skip rfl rfl rfl rfl rfl ?_)
              | (refine J.skipU rfl rfl rfl rfl ?_)
              | (refine J.unguard rfl rfl rfl ?_; refine J.move rfl rfl ?_)
            refine J.nil (JX.fin rfl (fun w hw => ⟨rfl, (by rw [hw.1]; exact Below.refl _ _)⟩))
          · skip
            refine Fin.cons (fun v23_7 => ?_)
            refine Fin.cons (fun v23_6 => ?_)
            refine Fin.nil ?_
            refine J.prE (fun h => ?_); subst h
            refine J.prE (fun h => ?_); subst h
            refine exw (fun lp2 => prw (fun hv2 => ?_))
            refine J.unguard rfl rfl rfl ?_
            refine J.toStr (m := z.rec_.xs.length) (bs := z.rec_.xs) Ty.el28 Ty.u5 Ty.u9 rfl (fun w1 hw => hv107.row (l := (b14, cb [.bool z.again, .int .i64 z.n, z.rec_.v] 70) :: (lb, lgO d q2 down2) :: (d, dkO s V σ2.p σ2.k) :: (s, dkS σ2.B) :: (rb, rlO r q2 down2) :: (r, rfO (.slice a1 (64 * V) c1) σ2.p σ2.k) :: lp2) (hw.2.perm (by (refine perm_cnt (fun _ => ?_)); simp only [cntB_append, cntB_cons, cntB_nil, Nat.add_zero, Nat.zero_add]; try ac_rfl))) rfl rfl ?_
            refine J.nil (JX.fin rfl (fun w hw => ⟨rfl, (by rw [hw.1]; exact Below.refl _ _)⟩))
          · skip
            refine Fin.cons (fun v23_6 => ?_)
            refine Fin.nil ?_
            refine J.prE (fun h => ?_); subst h
            refine exw (fun lp2 => prw (fun hv2 => ?_))
            first
              | (refine J.skip rfl rfl rfl rfl rfl ?_)
              | (refine J.skipU rfl rfl rfl rfl ?_)
              | (refine J.unguard rfl rfl rfl ?_; refine J.fieldAddr Ty.fd70_2 rfl rfl ?_)
            refine J.nil (JX.fin rfl (fun w hw => ⟨rfl, (by rw [hw.1]; exact Below.refl _ _)⟩))
          · skip
            refine Fin.cons (fun v23_9 => ?_)
            refine Fin.cons (fun v23_6 => ?_)
            refine Fin.nil ?_
            refine J.prE (fun h => ?_); subst h
            refine J.prE (fun h => ?_); subst h
            refine exw (fun lp2 => prw (fun hv2 => ?_))
            first
              | (refine J.skip rfl rfl rfl rfl rfl ?_)
              | (refine J.skipU rfl rfl rfl rfl ?_)
              | (refine J.unguard rfl rfl rfl ?_; (first | refine J.load1 Ty.a28 rfl (fun w hw => (cell_of (hw.2.own _ (.head _))).trans rfl) rfl ?_ | refine J.load1 Ty.a28 rfl (fun w hw => (cell_of (hw.2.own _ (.tail _ (.head _)))).trans rfl) rfl ?_ | refine J.load1 Ty.a28 rfl (fun w hw => (cell_of (hw.2.own _ (.tail _ (.tail _ (.head _))))).trans rfl) rfl ?_ | refine J.load1 Ty.a28 rfl (fun w hw => (cell_of (hw.2.own _ (.tail _ (.tail _ (.tail _ (.head _)))))).trans rfl) rfl ?_ | refine J.load1 Ty.a28 rfl (fun w hw => (cell_of (hw.2.own _ (.tail _ (.tail _ (.tail _ (.tail _ (.head _))))))).trans rfl) rfl ?_ | refine J.load1 Ty.a28 rfl (fun w hw => (cell_of (hw.2.own _ (List.mem_append_right _ (.head _)))).trans rfl) rfl ?_ | refine J.load1 Ty.a28 rfl (fun w hw => (cell_of (hw.2.own _ (List.mem_append_right _ (.tail _ (.head _))))).trans rfl) rfl ?_ | refine J.load1 Ty.a28 rfl (fun w hw => (cell_of (hw.2.own _ (List.mem_append_right _ (.tail _ (.tail _ (.head _)))))).trans rfl) rfl ?_ | refine J.load1 Ty.a28 rfl (fun w hw => (cell_of (hw.2.own _ (List.mem_append_right _ (.tail _ (.tail _ (.tail _ (.head _))))))).trans rfl) rfl ?_ | refine J.load1 Ty.a28 rfl (fun w hw => (cell_of (hw.2.own _ (List.mem_append_right _ (.tail _ (.tail _ (.tail _ (.tail _ (.head _)))))))).trans rfl) rfl ?_))
            refine J.nil (JX.fin rfl (fun w hw => ⟨rfl, (by rw [hw.1]; exact Below.refl _ _)⟩))
          · skip
            refine Fin.cons (fun v23_10 => ?_)
            refine Fin.cons (fun v23_6 => ?_)
            refine Fin.nil ?_
            refine J.prE (fun h => ?_); subst h
            refine J.prE (fun h => ?_); subst h
            refine exw (fun lp2 => prw (fun hv2 => ?_))
            refine J.unguard rfl rfl rfl ?_
            refine J.toStr (m := z.rec_.xs.length) (bs := z.rec_.xs) Ty.el28 Ty.u5 Ty.u9 rfl (fun w1 hw => hzr.st (.inr (by simp)) hw.2) rfl rfl ?_
            refine J.nil (JX.fin rfl (fun w hw => ⟨rfl, (by rw [hw.1]; exact Below.refl _ _)⟩))
          · skip
            refine Fin.cons (fun v23_8 => ?_)
            refine Fin.cons (fun v23_11 => ?_)
            refine Fin.cons (fun v23_6 => ?_)
            refine Fin.nil ?_
            refine J.prE (fun h => ?_); subst h
            refine J.prE (fun h => ?_); subst h
            refine J.prE (fun h => ?_); subst h
            refine exw (fun lp2 => prw (fun hv2 => ?_))
            refine J.unguard rfl rfl rfl ?_
            refine J.strNe rfl rfl rfl ?_
            refine J.name 123 rfl (show Value.bool _ = .bool false by simp) ?_
            refine J.nil (JX.fin rfl (fun w hw => ⟨rfl, (by rw [hw.1]; exact Below.refl _ _)⟩))
          · skip
            refine Fin.cons (fun v23_6 => ?_)
            refine Fin.cons (fun v23_12 => ?_)
            refine Fin.nil ?_
            refine J.prE (fun h => ?_); subst h
            refine J.prE (fun h => ?_); subst h
            refine exw (fun lp2 => prw (fun hv2 => ?_))
            (first | refine J.pickT rfl rfl rfl ?_ | refine J.pickF rfl rfl rfl ?_)
            refine J.nil (JX.fin rfl (fun w hw => ⟨rfl, (by rw [hw.1]; exact Below.refl _ _)⟩))
          · skip
            refine Fin.cons (fun v23_13 => ?_)
            refine Fin.cons (fun v23_6 => ?_)
            refine Fin.nil ?_
            refine J.prE (fun h => ?_); subst h
            refine J.prE (fun h => ?_); subst h
            refine exw (fun lp2 => prw (fun hv2 => ?_))
            refine J.move rfl rfl ?_
            refine J.nil (JX.fin rfl (fun w hw => ⟨rfl, (by rw [hw.1]; exact Below.refl _ _)⟩))
          · skip
            refine Fin.cons (fun v23_14 => ?_)
            refine Fin.nil ?_
            refine J.prE (fun h => ?_); subst h
            refine exw (fun lp2 => prw (fun hv2 => ?_))
            first
              | (refine J.skip rfl rfl rfl rfl rfl ?_)
              | (refine J.skipU rfl rfl rfl rfl ?_)
              | (refine J.unguard rfl rfl rfl ?_; refine J.move rfl rfl ?_)
            refine J.nil (JX.fin rfl (fun w hw => ⟨rfl, (by rw [hw.1]; exact Below.refl _ _)⟩))
          · skip
            refine Fin.cons (fun v23_15 => ?_)
            refine Fin.cons (fun v23_14 => ?_)
            refine Fin.cons (fun v23_14 => ?_)
            refine Fin.nil ?_
            refine J.prE (fun h => ?_); subst h
            refine J.prE (fun h => ?_); subst h
            refine J.prE (fun h => ?_); subst h
            refine exw (fun lp2 => prw (fun hv2 => ?_))
            refine J.unguard rfl rfl rfl ?_
            refine J.callD Ty.bd29 rfl rfl (fun w1 hw => len_spec lb d q2 down2 w1 (St.owns' (l := (lb, lgO d q2 down2) :: (b14, cb [.bool z.again, .int .i64 z.n, z.rec_.v] 70) :: (lp107 ++ ((d, dkO s V σ2.p σ2.k) :: (s, dkS σ2.B) :: (rb, rlO r q2 down2) :: (r, rfO (.slice a1 (64 * V) c1) σ2.p σ2.k) :: lp2))) (hw.perm (by (refine perm_cnt (fun _ => ?_)); simp only [cntB_append, cntB_cons, cntB_nil, Nat.add_zero, Nat.zero_add]; try ac_rfl)))) ?_
            refine J.nil (JX.fin rfl (fun w hw => ⟨rfl, hw⟩))
          · skip
            refine Fin.cons (fun v23_14 => ?_)
            refine Fin.nil ?_
            refine J.prE (fun h => ?_); subst h
            refine exw (fun lp2 => prw (fun hv2 => ?_))
            first
              | (refine J.skip rfl rfl rfl rfl rfl ?_)
              | (refine J.skipU rfl rfl rfl rfl ?_)
              | (refine J.unguard rfl rfl rfl ?_; refine J.move rfl rfl ?_)
            refine J.nil (JX.fin rfl (fun w hw => ⟨rfl, (by rw [hw.1]; exact Below.refl _ _)⟩))
          · skip
            refine Fin.cons (fun v23_17 => ?_)
            refine Fin.cons (fun v23_14 => ?_)
            refine Fin.nil ?_
            refine J.prE (fun h => ?_); subst h
            refine J.prE (fun h => ?_); subst h
            refine exw (fun lp2 => prw (fun hv2 => ?_))
            first
              | (refine J.skip rfl rfl rfl rfl rfl ?_)
              | (refine J.skipU rfl rfl rfl rfl ?_)
              | (refine J.unguard rfl rfl rfl ?_; refine J.nilCheck rfl rfl ?_)
            refine J.nil (JX.fin rfl (fun w hw => ⟨rfl, (by rw [hw.1]; exact Below.refl _ _)⟩))
          · skip
            refine Fin.cons (fun v23_18 => ?_)
            refine Fin.cons (fun v23_14 => ?_)
            refine Fin.nil ?_
            refine J.prE (fun h => ?_); subst h
            refine J.prE (fun h => ?_); subst h
            refine exw (fun lp2 => prw (fun hv2 => ?_))
            first
              | (refine J.skip rfl rfl rfl rfl rfl ?_)
              | (refine J.skipU rfl rfl rfl rfl ?_)
              | (refine J.unguard rfl rfl rfl ?_; refine J.fieldAddr Ty.fd67_3 rfl rfl ?_)
            refine J.nil (JX.fin rfl (fun w hw => ⟨rfl, (by rw [hw.1]; exact Below.refl _ _)⟩))
          · skip
            refine Fin.cons (fun v23_19 => ?_)
            refine Fin.cons (fun v23_14 => ?_)
            refine Fin.nil ?_
            refine J.prE (fun h => ?_); subst h
            refine J.prE (fun h => ?_); subst h
            refine exw (fun lp2 => prw (fun hv2 => ?_))
            refine J.unguard rfl rfl rfl ?_
            refine J.load1 Ty.a3 rfl (fun w hw => (cell_of (hw.2.own _ (.tail _ (List.mem_append_right _ (.tail _ (.tail _ (.tail _ (.head _)))))))).trans rfl) rfl ?_
            refine J.nil (JX.fin rfl (fun w hw => ⟨rfl, (by rw [hw.1]; exact Below.refl _ _)⟩))
          · skip
            refine Fin.cons (fun v23_16 => ?_)
            refine Fin.cons (fun v23_20 => ?_)
            refine Fin.cons (fun v23_14 => ?_)
            refine Fin.nil ?_
            refine J.prE (fun h => ?_); subst h
            refine J.prE (fun h => ?_); subst h
            refine J.prE (fun h => ?_); subst h
            refine exw (fun lp2 => prw (fun hv2 => ?_))
            refine J.unguard rfl rfl rfl ?_
            refine J.bin rfl rfl rfl rfl ?_
            refine J.name 132 rfl (show Value.bool _ = .bool false by simp) ?_
            refine J.nil (JX.fin rfl (fun w hw => ⟨rfl, (by rw [hw.1]; exact Below.refl _ _)⟩))
          · skip
            refine Fin.cons (fun v23_14 => ?_)
            refine Fin.cons (fun v23_21 => ?_)
            refine Fin.nil ?_
            refine J.prE (fun h => ?_); subst h
            refine J.prE (fun h => ?_); subst h
            refine exw (fun lp2 => prw (fun hv2 => ?_))
            (first | refine J.pickT rfl rfl rfl ?_ | refine J.pickF rfl rfl rfl ?_)
            refine J.nil (JX.fin rfl (fun w hw => ⟨rfl, (by rw [hw.1]; exact Below.refl _ _)⟩))
          · skip
            refine Fin.cons (fun v23_22 => ?_)
            refine Fin.cons (fun v23_16 => ?_)
            refine Fin.nil ?_
            refine J.prE (fun h => ?_); subst h
            refine J.prE (fun h => ?_); subst h
            refine exw (fun lp2 => prw (fun hv2 => ?_))
            refine J.move rfl rfl ?_
            refine J.nil (JX.fin rfl (fun w hw => ⟨rfl, (by rw [hw.1]; exact Below.refl _ _)⟩))
          · skip
            refine Fin.cons (fun v23_23 => ?_)
            refine Fin.nil ?_
            refine J.prE (fun h => ?_); subst h
            refine exw (fun lp2 => prw (fun hv2 => ?_))
            first
              | (refine J.skip rfl rfl rfl rfl rfl ?_)
              | (refine J.skipU rfl rfl rfl rfl ?_)
              | (refine J.unguard rfl rfl rfl ?_; refine J.move rfl rfl ?_)
            refine J.nil (JX.fin rfl (fun w hw => ⟨rfl, (by rw [hw.1]; exact Below.refl _ _)⟩))
          · skip
            refine Fin.cons (fun v23_24 => ?_)
            refine Fin.cons (fun v23_23 => ?_)
            refine Fin.cons (fun v23_23 => ?_)
            refine Fin.nil ?_
            refine J.prE (fun h => ?_); subst h
            refine J.prE (fun h => ?_); subst h
            refine J.prE (fun h => ?_); subst h
            refine exw (fun lp2 => prw (fun hv2 => ?_))
            refine J.unguard rfl rfl rfl ?_
            refine J.callD Ty.bd31 rfl rfl (fun w1 hw => room_spec lb d s V q2 down2 σ2.p σ2.k w1 (St.owns' (l := (lb, lgO d q2 down2) :: (d, dkO s V σ2.p σ2.k) :: (b14, cb [.bool z.again, .int .i64 z.n, z.rec_.v] 70) :: (lp107 ++ ((s, dkS σ2.B) :: (rb, rlO r q2 down2) :: (r, rfO (.slice a1 (64 * V) c1) σ2.p σ2.k) :: lp2))) (hw.perm (by (refine perm_cnt (fun _ => ?_)); simp only [cntB_append, cntB_cons, cntB_nil, Nat.add_zero, Nat.zero_add]; try ac_rfl))) (by omega) (by omega)) ?_
            refine J.nil (JX.fin rfl (fun w hw => ⟨rfl, hw⟩))
          · skip
            refine Fin.cons (fun v23_23 => ?_)
            refine Fin.nil ?_
            refine J.prE (fun h => ?_); subst h
            refine exw (fun lp2 => prw (fun hv2 => ?_))
            first
              | (refine J.skip rfl rfl rfl rfl rfl ?_)
              | (refine J.skipU rfl rfl rfl rfl ?_)
              | (refine J.unguard rfl rfl rfl ?_; refine J.move rfl rfl ?_)
            refine J.nil (JX.fin rfl (fun w hw => ⟨rfl, (by rw [hw.1]; exact Below.refl _ _)⟩))
          · skip
            refine Fin.cons (fun v23_26 => ?_)
            refine Fin.cons (fun v23_25 => ?_)
            refine Fin.cons (fun v23_23 => ?_)
            refine Fin.nil ?_
            refine J.prE (fun h => ?_); subst h
            refine J.prE (fun h => ?_); subst h
            refine J.prE (fun h => ?_); subst h
            refine exw (fun lp2 => prw (fun hv2 => ?_))
            refine J.unguard rfl rfl rfl ?_
            refine J.callD Ty.bd36 rfl rfl (fun w1 hw => rroom_spec rb r V q2 down2 a1 c1 σ2.p σ2.k w1 (St.owns' (l := (rb, rlO r q2 down2) :: (r, rfO (.slice a1 (64 * V) c1) σ2.p σ2.k) :: (b14, cb [.bool z.again, .int .i64 z.n, z.rec_.v] 70) :: (lp107 ++ ((lb, lgO d q2 down2) :: (d, dkO s V σ2.p σ2.k) :: (s, dkS σ2.B) :: lp2))) (hw.perm (by (refine perm_cnt (fun _ => ?_)); simp only [cntB_append, cntB_cons, cntB_nil, Nat.add_zero, Nat.zero_add]; try ac_rfl))) (by omega) (by omega)) ?_
            refine J.nil (JX.fin rfl (fun w hw => ⟨rfl, hw⟩))
          · skip
            refine Fin.cons (fun v23_25 => ?_)
            refine Fin.cons (fun v23_27 => ?_)
            refine Fin.cons (fun v23_23 => ?_)
            refine Fin.nil ?_
            refine J.prE (fun h => ?_); subst h
            refine J.prE (fun h => ?_); subst h
            refine J.prE (fun h => ?_); subst h
            refine exw (fun lp2 => prw (fun hv2 => ?_))
            refine J.unguard rfl rfl rfl ?_
            refine J.bin rfl rfl rfl rfl ?_
            refine J.name 139 rfl (show Value.bool _ = .bool false by simp) ?_
            refine J.nil (JX.fin rfl (fun w hw => ⟨rfl, (by rw [hw.1]; exact Below.refl _ _)⟩))
          · skip
            refine Fin.cons (fun v23_23 => ?_)
            refine Fin.cons (fun v23_28 => ?_)
            refine Fin.nil ?_
            refine J.prE (fun h => ?_); subst h
            refine J.prE (fun h => ?_); subst h
            refine exw (fun lp2 => prw (fun hv2 => ?_))
            (first | refine J.pickT rfl rfl rfl ?_ | refine J.pickF rfl rfl rfl ?_)
            refine J.nil (JX.fin rfl (fun w hw => ⟨rfl, (by rw [hw.1]; exact Below.refl _ _)⟩))
          · skip
            refine Fin.cons (fun v23_29 => ?_)
            refine Fin.cons (fun v23_27 => ?_)
            refine Fin.nil ?_
            refine J.prE (fun h => ?_); subst h
            refine J.prE (fun h => ?_); subst h
            refine exw (fun lp2 => prw (fun hv2 => ?_))
            refine J.move rfl rfl ?_
            refine J.nil (JX.fin rfl (fun w hw => ⟨rfl, (by rw [hw.1]; exact Below.refl _ _)⟩))
          · skip
            refine Fin.cons (fun v23_30 => ?_)
            refine Fin.nil ?_
            refine J.prE (fun h => ?_); subst h
            refine exw (fun lp2 => prw (fun hv2 => ?_))
            first
              | (refine J.skip rfl rfl rfl rfl rfl ?_)
              | (refine J.skipU rfl rfl rfl rfl ?_)
              | (refine J.unguard rfl rfl rfl ?_; refine J.move rfl rfl ?_)
            refine J.nil (JX.fin rfl (fun w hw => ⟨rfl, (by rw [hw.1]; exact Below.refl _ _)⟩))
          · skip
            refine Fin.cons (fun v23_31 => ?_)
            refine Fin.cons (fun v23_30 => ?_)
            refine Fin.cons (fun v23_30 => ?_)
            refine Fin.nil ?_
            refine J.prE (fun h => ?_); subst h
            refine J.prE (fun h => ?_); subst h
            refine J.prE (fun h => ?_); subst h
            refine exw (fun lp2 => prw (fun hv2 => ?_))
            refine J.unguard rfl rfl rfl ?_
            refine J.callD Ty.bd32 rfl rfl (fun w1 hw => down_spec lb d q2 down2 w1 (St.owns' (l := (lb, lgO d q2 down2) :: (b14, cb [.bool z.again, .int .i64 z.n, z.rec_.v] 70) :: (lp107 ++ ((d, dkO s V σ2.p σ2.k) :: (s, dkS σ2.B) :: (rb, rlO r q2 down2) :: (r, rfO (.slice a1 (64 * V) c1) σ2.p σ2.k) :: lp2))) (hw.perm (by (refine perm_cnt (fun _ => ?_)); simp only [cntB_append, cntB_cons, cntB_nil, Nat.add_zero, Nat.zero_add]; try ac_rfl)))) ?_
            refine J.nil (JX.fin rfl (fun w hw => ⟨rfl, hw⟩))
          · skip
            refine Fin.cons (fun v23_30 => ?_)
            refine Fin.nil ?_
            refine J.prE (fun h => ?_); subst h
            refine exw (fun lp2 => prw (fun hv2 => ?_))
            first
              | (refine J.skip rfl rfl rfl rfl rfl ?_)
              | (refine J.skipU rfl rfl rfl rfl ?_)
              | (refine J.unguard rfl rfl rfl ?_; refine J.move rfl rfl ?_)
            refine J.nil (JX.fin rfl (fun w hw => ⟨rfl, (by rw [hw.1]; exact Below.refl _ _)⟩))
          · skip
            refine Fin.cons (fun v23_33 => ?_)
            refine Fin.cons (fun v23_30 => ?_)
            refine Fin.nil ?_
            refine J.prE (fun h => ?_); subst h
            refine J.prE (fun h => ?_); subst h
            refine exw (fun lp2 => prw (fun hv2 => ?_))
            first
              | (refine J.skip rfl rfl rfl rfl rfl ?_)
              | (refine J.skipU rfl rfl rfl rfl ?_)
              | (refine J.unguard rfl rfl rfl ?_; refine J.nilCheck rfl rfl ?_)
            refine J.nil (JX.fin rfl (fun w hw => ⟨rfl, (by rw [hw.1]; exact Below.refl _ _)⟩))
          · skip
            refine Fin.cons (fun v23_34 => ?_)
            refine Fin.cons (fun v23_30 => ?_)
            refine Fin.nil ?_
            refine J.prE (fun h => ?_); subst h
            refine J.prE (fun h => ?_); subst h
            refine exw (fun lp2 => prw (fun hv2 => ?_))
            first
              | (refine J.skip rfl rfl rfl rfl rfl ?_)
              | (refine J.skipU rfl rfl rfl rfl ?_)
              | (refine J.unguard rfl rfl rfl ?_; refine J.fieldAddr Ty.fd67_4 rfl rfl ?_)
            refine J.nil (JX.fin rfl (fun w hw => ⟨rfl, (by rw [hw.1]; exact Below.refl _ _)⟩))
          · skip
            refine Fin.cons (fun v23_35 => ?_)
            refine Fin.cons (fun v23_30 => ?_)
            refine Fin.nil ?_
            refine J.prE (fun h => ?_); subst h
            refine J.prE (fun h => ?_); subst h
            refine exw (fun lp2 => prw (fun hv2 => ?_))
            refine J.unguard rfl rfl rfl ?_
            refine J.load1 Ty.a4 rfl (fun w hw => (cell_of (hw.2.own _ (.tail _ (List.mem_append_right _ (.tail _ (.tail _ (.tail _ (.head _)))))))).trans rfl) rfl ?_
            refine J.nil (JX.fin rfl (fun w hw => ⟨rfl, (by rw [hw.1]; exact Below.refl _ _)⟩))
          · skip
            refine Fin.cons (fun v23_32 => ?_)
            refine Fin.cons (fun v23_36 => ?_)
            refine Fin.cons (fun v23_30 => ?_)
            refine Fin.nil ?_
            refine J.prE (fun h => ?_); subst h
            refine J.prE (fun h => ?_); subst h
            refine J.prE (fun h => ?_); subst h
            refine exw (fun lp2 => prw (fun hv2 => ?_))
            refine J.unguard rfl rfl rfl ?_
            refine J.eqBool (.inr rfl) Ty.u4 rfl rfl rfl ?_
            refine J.name 148 rfl (show Value.bool _ = .bool false by simp) ?_
            refine J.nil (JX.fin rfl (fun w hw => ⟨rfl, (by rw [hw.1]; exact Below.refl _ _)⟩))
          · skip
            refine Fin.cons (fun v23_30 => ?_)
            refine Fin.cons (fun v23_37 => ?_)
            refine Fin.nil ?_
            refine J.prE (fun h => ?_); subst h
            refine J.prE (fun h => ?_); subst h
            refine exw (fun lp2 => prw (fun hv2 => ?_))
            (first | refine J.pickT rfl rfl rfl ?_ | refine J.pickF rfl rfl rfl ?_)
            refine J.nil (JX.fin rfl (fun w hw => ⟨rfl, (by rw [hw.1]; exact Below.refl _ _)⟩))
          · skip
            refine Fin.cons (fun v23_38 => ?_)
            refine Fin.cons (fun v23_32 => ?_)
            refine Fin.nil ?_
            refine J.prE (fun h => ?_); subst h
            refine J.prE (fun h => ?_); subst h
            refine exw (fun lp2 => prw (fun hv2 => ?_))
            refine J.move rfl rfl ?_
            refine J.nil (JX.fin rfl (fun w hw => ⟨rfl, (by rw [hw.1]; exact Below.refl _ _)⟩))
          · skip
            refine Fin.cons (fun v23_39 => ?_)
            refine Fin.nil ?_
            refine J.prE (fun h => ?_); subst h
            refine exw (fun lp2 => prw (fun hv2 => ?_))
            first
              | (refine J.skip rfl rfl rfl rfl rfl ?_)
              | (refine J.skipU rfl rfl rfl rfl ?_)
              | (refine J.unguard rfl rfl rfl ?_; refine J.move rfl rfl ?_)
            refine J.nil (JX.fin rfl (fun w hw => ⟨rfl, (by rw [hw.1]; exact Below.refl _ _)⟩))
          · skip
            refine Fin.cons (fun v23_40 => ?_)
            refine Fin.cons (fun v23_39 => ?_)
            refine Fin.cons (fun v23_39 => ?_)
            refine Fin.nil ?_
            refine J.prE (fun h => ?_); subst h
            refine J.prE (fun h => ?_); subst h
            refine J.prE (fun h => ?_); subst h
            refine exw (fun lp2 => prw (fun hv2 => ?_))
            refine J.unguard rfl rfl rfl ?_
            refine J.callR (k := 64 * V) (ys := σ2.B.map u8) Ty.bd24 rfl rfl (fun w1 hw => (bytes_spec d s V σ2.B σ2.p σ2.k w1 (St.owns (l1 := [(d, dkO s V σ2.p σ2.k), (s, dkS σ2.B)]) (l := (b14, cb [.bool z.again, .int .i64 z.n, z.rec_.v] 70) :: (lp107 ++ ((lb, lgO d q2 down2) :: (rb, rlO r q2 down2) :: (r, rfO (.slice a1 (64 * V) c1) σ2.p σ2.k) :: lp2))) (hw.perm (by (refine perm_cnt (fun _ => ?_)); simp only [cntB_append, cntB_cons, cntB_nil, Nat.add_zero, Nat.zero_add]; try ac_rfl))) hI2.len (by omega)).mono fun _ w2 ⟨x, h1, h2, h3⟩ => ⟨x.1, h1, h2.row (l := [(d, dkO s V σ2.p σ2.k), (s, dkS σ2.B)]) h3, h3.same (St.owns (l1 := [(d, dkO s V σ2.p σ2.k), (s, dkS σ2.B)]) (l := (b14, cb [.bool z.again, .int .i64 z.n, z.rec_.v] 70) :: (lp107 ++ ((lb, lgO d q2 down2) :: (rb, rlO r q2 down2) :: (r, rfO (.slice a1 (64 * V) c1) σ2.p σ2.k) :: lp2))) (hw.perm (by (refine perm_cnt (fun _ => ?_)); simp only [cntB_append, cntB_cons, cntB_nil, Nat.add_zero, Nat.zero_add]; try ac_rfl))) (fun p hp => List.mem_append_right _ hp)⟩) (fun v126 => ?_)
            refine J.nil (JX.fin rfl (fun w hw => ⟨hw.1, hw.2⟩))
          · skip
            refine Fin.cons (fun v23_41 => ?_)
            refine Fin.cons (fun v23_39 => ?_)
            refine Fin.nil ?_
            refine J.prE (fun h => ?_); subst h
            refine J.prR ?_
            refine J.unguard rfl rfl rfl ?_
            refine J.toStr (m := 64 * V) (bs := σ2.B) Ty.el28 Ty.u5 Ty.u9 rfl (fun w1 hw => hw.2.1) hI2.len rfl ?_
            refine J.nil (JX.fin rfl (fun w hw => ⟨rfl, (by rw [hw.1]; exact Below.refl _ _)⟩))
          · skip
            refine Fin.cons (fun v23_39 => ?_)
            refine Fin.nil ?_
            refine J.prE (fun h => ?_); subst h
            refine exw (fun lp2 => prw (fun hv2 => ?_))
            first
              | (refine J.skip rfl rfl rfl rfl rfl ?_)
              | (refine J.skipU rfl rfl rfl rfl ?_)
              | (refine J.unguard rfl rfl rfl ?_; refine J.move rfl rfl ?_)
            refine J.nil (JX.fin rfl (fun w hw => ⟨rfl, (by rw [hw.1]; exact Below.refl _ _)⟩))
          · skip
            refine Fin.cons (fun v23_43 => ?_)
            refine Fin.cons (fun v23_39 => ?_)
            refine Fin.nil ?_
            refine J.prE (fun h => ?_); subst h
            refine J.prE (fun h => ?_); subst h
            refine exw (fun lp2 => prw (fun hv2 => ?_))
            first
              | (refine J.skip rfl rfl rfl rfl rfl ?_)
              | (refine J.skipU rfl rfl rfl rfl ?_)
              | (refine J.unguard rfl rfl rfl ?_; refine J.nilCheck rfl rfl ?_)
            refine J.nil (JX.fin rfl (fun w hw => ⟨rfl, (by rw [hw.1]; exact Below.refl _ _)⟩))
          · skip
            refine Fin.cons (fun v23_44 => ?_)
            refine Fin.cons (fun v23_39 => ?_)
            refine Fin.nil ?_
            refine J.prE (fun h => ?_); subst h
            refine J.prE (fun h => ?_); subst h
            refine exw (fun lp2 => prw (fun hv2 => ?_))
            first
              | (refine J.skip rfl rfl rfl rfl rfl ?_)
              | (refine J.skipU rfl rfl rfl rfl ?_)
              | (refine J.unguard rfl rfl rfl ?_; refine J.fieldAddr Ty.fd35_0 rfl rfl ?_)
            refine J.nil (JX.fin rfl (fun w hw => ⟨rfl, (by rw [hw.1]; exact Below.refl _ _)⟩))
          · skip
            refine Fin.cons (fun v23_45 => ?_)
            refine Fin.cons (fun v23_39 => ?_)
            refine Fin.nil ?_
            refine J.prE (fun h => ?_); subst h
            refine J.prE (fun h => ?_); subst h
            refine exw (fun lp2 => prw (fun hv2 => ?_))
            refine J.unguard rfl rfl rfl ?_
            refine J.load1 Ty.a28 rfl (fun w hw => (cell_of (hw.2.own _ (.tail _ (List.mem_append_right _ (.tail _ (.tail _ (.tail _ (.tail _ (.head _))))))))).trans rfl) rfl ?_
            refine J.nil (JX.fin rfl (fun w hw => ⟨rfl, (by rw [hw.1]; exact Below.refl _ _)⟩))
          · skip
            refine Fin.cons (fun v23_46 => ?_)
            refine Fin.cons (fun v23_39 => ?_)
            refine Fin.nil ?_
            refine J.prE (fun h => ?_); subst h
            refine J.prE (fun h => ?_); subst h
            refine exw (fun lp2 => prw (fun hv2 => ?_))
            refine J.unguard rfl rfl rfl ?_
            refine J.toStr (m := 64 * V) (bs := σ2.B) Ty.el28 Ty.u5 Ty.u9 rfl (fun w1 hw => hv2.row (l := (b14, cb [.bool z.again, .int .i64 z.n, z.rec_.v] 70) :: (lp107 ++ ((lb, lgO d q2 down2) :: (d, dkO s V σ2.p σ2.k) :: (s, dkS σ2.B) :: (rb, rlO r q2 down2) :: (r, rfO (.slice a1 (64 * V) c1) σ2.p σ2.k) :: []))) (hw.2.perm (by (refine perm_cnt (fun _ => ?_)); simp only [cntB_append, cntB_cons, cntB_nil, Nat.add_zero, Nat.zero_add]; try ac_rfl))) hI2.len rfl ?_
            refine J.nil (JX.fin rfl (fun w hw => ⟨rfl, (by rw [hw.1]; exact Below.refl _ _)⟩))
          · skip
            refine Fin.cons (fun v23_42 => ?_)
            refine Fin.cons (fun v23_47 => ?_)
            refine Fin.cons (fun v23_39 => ?_)
            refine Fin.nil ?_
            refine J.prE (fun h => ?_); subst h
            refine J.prE (fun h => ?_); subst h
            refine J.prE (fun h => ?_); subst h
            refine exw (fun lp2 => prw (fun hv2 => ?_))
            refine J.unguard rfl rfl rfl ?_
            refine J.strNe rfl rfl rfl ?_
            refine J.name 159 rfl (show Value.bool _ = .bool false by simp) ?_
            refine J.nil (JX.fin rfl (fun w hw => ⟨rfl, (by rw [hw.1]; exact Below.refl _ _)⟩))
          · skip
            refine Fin.cons (fun v23_39 => ?_)
            refine Fin.cons (fun v23_48 => ?_)
            refine Fin.nil ?_
            refine J.prE (fun h => ?_); subst h
            refine J.prE (fun h => ?_); subst h
            refine exw (fun lp2 => prw (fun hv2 => ?_))
            (first | refine J.pickT rfl rfl rfl ?_ | refine J.pickF rfl rfl rfl ?_)
            refine J.nil (JX.fin rfl (fun w hw => ⟨rfl, (by rw [hw.1]; exact Below.refl _ _)⟩))
        case htail =>
          refine Fin.cons (fun v23_0 => ?_)
          refine Fin.cons (fun v23_1 => ?_)
          refine Fin.cons (fun v23_2 => ?_)
          refine Fin.cons (fun v23_3 => ?_)
          refine Fin.cons (fun v23_4 => ?_)
          refine Fin.cons (fun v23_5 => ?_)
          refine Fin.cons (fun v23_6 => ?_)
          refine Fin.cons (fun v23_7 => ?_)
          refine Fin.cons (fun v23_8 => ?_)
          refine Fin.cons (fun v23_9 => ?_)
          refine Fin.cons (fun v23_10 => ?_)
          refine Fin.cons (fun v23_11 => ?_)
          refine Fin.cons (fun v23_12 => ?_)
          refine Fin.cons (fun v23_13 => ?_)
          refine Fin.cons (fun v23_14 => ?_)
          refine Fin.cons (fun v23_15 => ?_)
          refine Fin.cons (fun v23_16 => ?_)
          refine Fin.cons (fun v23_17 => ?_)
          refine Fin.cons (fun v23_18 => ?_)
          refine Fin.cons (fun v23_19 => ?_)
          refine Fin.cons (fun v23_20 => ?_)
          refine Fin.cons (fun v23_21 => ?_)
          refine Fin.cons (fun v23_22 => ?_)
          refine Fin.cons (fun v23_23 => ?_)
          refine Fin.cons (fun v23_24 => ?_)
          refine Fin.cons (fun v23_25 => ?_)
          refine Fin.cons (fun v23_26 => ?_)
          refine Fin.cons (fun v23_27 => ?_)
          refine Fin.cons (fun v23_28 => ?_)
          refine Fin.cons (fun v23_29 => ?_)
          refine Fin.cons (fun v23_30 => ?_)
          refine Fin.cons (fun v23_31 => ?_)
          refine Fin.cons (fun v23_32 => ?_)
          refine Fin.cons (fun v23_33 => ?_)
          refine Fin.cons (fun v23_34 => ?_)
          refine Fin.cons (fun v23_35 => ?_)
          refine Fin.cons (fun v23_36 => ?_)
          refine Fin.cons (fun v23_37 => ?_)
          refine Fin.cons (fun v23_38 => ?_)
          refine Fin.cons (fun v23_39 => ?_)
          refine Fin.cons (fun v23_40 => ?_)
          refine Fin.cons (fun v23_41 => ?_)
          refine Fin.cons (fun v23_42 => ?_)
          refine Fin.cons (fun v23_43 => ?_)
          refine Fin.cons (fun v23_44 => ?_)
          refine Fin.cons (fun v23_45 => ?_)
          refine Fin.cons (fun v23_46 => ?_)
          refine Fin.cons (fun v23_47 => ?_)
          refine Fin.cons (fun v23_48 => ?_)
          refine Fin.cons (fun v23_49 => ?_)
          refine Fin.nil ?_
          refine J.prE (fun h => ?_); subst h
          refine J.prE (fun h => ?_); subst h
          refine J.prE (fun h => ?_); subst h
          refine J.prE (fun h => ?_); subst h
          refine J.prE (fun h => ?_); subst h
          refine J.prE (fun h => ?_); subst h
          refine J.prE (fun h => ?_); subst h
          refine J.prE (fun h => ?_); subst h
          refine J.drop ?_
          refine J.prE (fun h => ?_); subst h
          refine J.prE (fun h => ?_); subst h
          refine J.prE (fun h => ?_); subst h
          refine J.prE (fun h => ?_); subst h
          refine J.prE (fun h => ?_); subst h
          refine J.prE (fun h => ?_); subst h
          refine J.prE (fun h => ?_); subst h
          refine J.prE (fun h => ?_); subst h
          refine J.prE (fun h => ?_); subst h
          refine J.prE (fun h => ?_); subst h
          refine J.prE (fun h => ?_); subst h
          refine J.prE (fun h => ?_); subst h
          refine J.prE (fun h => ?_); subst h
          refine J.prE (fun h => ?_); subst h
          refine J.prE (fun h => ?_); subst h
          refine J.prE (fun h => ?_); subst h
          refine J.prE (fun h => ?_); subst h
          refine J.prE (fun h => ?_); subst h
          refine J.prE (fun h => ?_); subst h
          refine J.prE (fun h => ?_); subst h
          refine J.prE (fun h => ?_); subst h
          refine J.prE (fun h => ?_); subst h
          refine J.prE (fun h => ?_); subst h
          refine J.prE (fun h => ?_); subst h
          refine J.prE (fun h => ?_); subst h
          refine J.prE (fun h => ?_); subst h
          refine J.prE (fun h => ?_); subst h
          refine J.prE (fun h => ?_); subst h
          refine J.prE (fun h => ?_); subst h
          refine J.prE (fun h => ?_); subst h
          refine J.prE (fun h => ?_); subst h
          refine J.prE (fun h => ?_); subst h
          refine J.prE (fun h => ?_); subst h
          refine J.prE (fun h => ?_); subst h
          refine J.prE (fun h => ?_); subst h
          refine J.prE (fun h => ?_); subst h
          refine J.prE (fun h => ?_); subst h
          refine J.prE (fun h => ?_); subst h
          refine J.prE (fun h => ?_); subst h
          refine J.prE (fun h => ?_); subst h
          refine J.prE (fun h => ?_); subst h
          refine J.nil ?_
          refine JX.thenN (hK29 _ _ ?_)
          first | refine JC.condF rfl ?_ | refine JC.cond rfl (fun h => by first | (exfalso; simp at h; omega) | (simp at h)) (fun _ => ?_)
          refine JC.skip ?_
          refine JX.blockN ?_
          refine JX.thenN (hK12 _ _ ?_)
          refine JC.region ?_
          (first | refine J.addN rfl rfl (by omega) (by omega) rfl ?_ | refine J.bin rfl rfl rfl rfl ?_)
          refine J.move rfl rfl ?_
          refine J.nil ?_
          refine JX.conseq (I' := fun w1 => ∃ lp2, Vec 5 1 (.slice a1 (64 * V) c1) (64 * V) (σ2.B.map u8) lp2 ∧ St w [] ((b14, cb [.bool z.again, .int .i64 z.n, z.rec_.v] 70) :: (lp107 ++ ((lb, lgO d q2 down2) :: (d, dkO s V σ2.p σ2.k) :: (s, dkS σ2.B) :: (rb, rlO r q2 down2) :: (r, rfO (.slice a1 (64 * V) c1) σ2.p σ2.k) :: lp2))) w1) (JX.ex fun lp2 => JX.pr fun hv2 => ?_) (fun w1 hw => hw)
          refine JX.thenN ?_
          refine JX.again (⟨i + 1, q2, down2, σ2, lb, rb, lp2⟩ : PSt) ?_ ?_ ?_
          · simp only; omega
          · exact ⟨rfl, rfl, rfl, rfl, rfl, rfl, rfl, trivial⟩
          · exact fun w1 hw => ⟨⟨hlt, by simp only; omega, hI2, by simp only; omega, by simp only; omega, by simp only; omega, hv2⟩, (hw.perm (l' := ([(b14, cb [.bool z.again, .int .i64 z.n, z.rec_.v] 70)] ++ lp107) ++ ((lb, lgO d q2 down2) :: (d, dkO s V σ2.p σ2.k) :: (s, dkS σ2.B) :: (rb, rlO r q2 down2) :: (r, rfO (.slice a1 (64 * V) c1) σ2.p σ2.k) :: lp2)) (by (refine perm_cnt (fun _ => ?_)); simp only [cntB_append, cntB_cons, cntB_nil, Nat.add_zero, Nat.zero_add]; try ac_rfl)).drop (List.sublist_append_right _ _)⟩
  · skip
    have hge : i = o.xs.length := by simp at h2; omega
    refine JC.exit ?_
    refine JX.thenE ?_
    refine JX.thenE ?_
    refine JX.blockE ?_
    refine JX.thenN (hK8 _ _ ?_)
    refine JC.seq (fun K30 hK30 => ?_)
    refine JC.region ?_
    refine J.move rfl rfl ?_
    refine J.eqNil Ty.u48 rfl rfl rfl ?_
    refine J.move rfl rfl ?_
    refine J.eqNil Ty.u62 rfl rfl rfl ?_
    refine J.eqBool (.inl rfl) Ty.u4 rfl rfl rfl ?_
    refine J.assign rfl rfl ?_
    refine J.nil ?_
    refine JX.thenN (hK30 _ _ ?_)
    refine JC.ret ?_
    refine JX.ret1 rfl rfl (fun w hw => ?_)
    exact ⟨rfl, hw.below⟩

theorem slatePlays_walk (w : World) (x : Int) (_w1 : (Lit.int .i64 x).wf = true) (o : Sl PlD) (ho : RSl 3 40 RPl w [o.v] o) :
    Calls Try.prog 13 [.int .i64 x, o.v].toArray w fun r w' => r = .returned (.bool true) ∧ Below w.heap.size w w' := by
  by_cases hs : (x % 18446744073709551616 % ((40 : Nat) : Int)).toNat < 3
  · exact slatePlays_small w x _w1 o ho hs
  · exact slatePlays_big w x _w1 o ho (by omega)
end Go.Proofs.Ytlmbpfgiadbjaaa
