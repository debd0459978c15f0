/-
  Choices, neighbours and places that come in.
-/
import Derived.Test.YtohldionclgljaaNf
import Derived.Test.YtohldionclgljaaTd
import Derived.Test.YtohldionclgljaaRc
import Derived.Test.YtohldionclgljaaRows
namespace Go.Proofs.Ytohldionclgljaa
open Go.J Go.RowKit
set_option linter.unusedVariables false
set_option linter.unusedSimpArgs false
set_option maxRecDepth 8000
structure PlV where
  me : IDV
  n : Sl NV
  e : Sl EV
abbrev cPl (x : PlV) : List Value := cI x.me ++ [x.n.v] ++ [x.e.v]
def RNr : World → List Value → NV → Prop := fun _ cs x => cs = cN x ∧ okN x.n
def RCh : World → List Value → CV → Prop := fun _ cs x => cs = cC x ∧ okC x
structure RPl (W : World) (cs : List Value) (x : PlV) : Prop where
  cells : cs = cPl x
  n : RSl 17 24 RNr W [x.n.v] x.n
  e : RSl 51 72 REnt W [x.e.v] x.e
theorem fsNr : fieldsT Try.prog 53 = some [(3, 0, 1), (23, 1, 16)] := by kernel_rfl
theorem dec_near : Decodes Try.prog 53 RNr := by
  intro H enc w fuel cs x h hn
  have hl := dec_len Ty.a53 Ty.s53 h
  obtain ⟨n, hi, wi⟩ := dec_field fsNr h hn 0 _ rfl (dec_int Ty.u3)
  obtain ⟨a, ha⟩ := dec_field fsNr h hn 1 _ rfl dec_id
  exact ⟨⟨n, a⟩, split2 (k := 1) (m := 16) hi ha hl, wi⟩
theorem fsCh : fieldsT Try.prog 40 = some [(23, 0, 16), (4, 16, 1), (38, 17, 17), (3, 34, 1)] := by kernel_rfl
theorem dec_choice : Decodes Try.prog 40 RCh := by
  intro H enc w fuel cs x h hn
  have hl := dec_len Ty.a40 Ty.s40 h
  obtain ⟨a, ha⟩ := dec_field fsCh h hn 0 _ rfl dec_id
  obtain ⟨b, hb⟩ := dec_field fsCh h hn 1 _ rfl (dec_bool Ty.u4)
  obtain ⟨p, hp, wp⟩ := dec_field fsCh h hn 2 _ rfl dec_path
  obtain ⟨n, hi, wi⟩ := dec_field fsCh h hn 3 _ rfl (dec_int Ty.u3)
  have hd : ∀ (k j : Nat), (cs.drop k).drop j = cs.drop (k + j) := fun k j => by rw [List.drop_drop]
  have e3 : cs.drop 17 = cP p ++ [.int .i64 n] := split2 (k := 17) (m := 1) (by simpa using hp) (by rw [hd]; exact hi) (by simp; omega)
  have e2 : cs.drop 16 = [.bool b] ++ cs.drop 17 := split2 (k := 1) (m := 18) (by simpa [RBool] using hb) (by rw [hd]; exact List.take_of_length_le (by simp; omega)) (by simp; omega)
  have e1 : cs = cI a ++ cs.drop 16 := split2 (k := 16) (m := 19) ha (List.take_of_length_le (by simp; omega)) hl
  refine ⟨⟨a, b, p, n⟩, ?_, wp, wi⟩
  show cs = cI a ++ [.bool b] ++ cP p ++ [.int .i64 n]
  rw [e1, e2, e3]
  simp only [List.append_assoc, List.cons_append, List.nil_append]
theorem fsPl : fieldsT Try.prog 27 = some [(23, 0, 16), (24, 16, 1), (25, 17, 1)] := by kernel_rfl
theorem dec_place : Decodes Try.prog 27 RPl := by
  intro H enc w fuel cs x h hn
  have hl := dec_len Ty.a27 Ty.s27 h
  obtain ⟨a, ha⟩ := dec_field fsPl h hn 0 _ rfl dec_id
  obtain ⟨n, hnn⟩ := dec_field fsPl h hn 1 _ rfl (dec_slice Ty.el24 Ty.s53 Ty.b53 (by omega) dec_near)
  obtain ⟨e, he⟩ := dec_field fsPl h hn 2 _ rfl (dec_slice Ty.el25 Ty.s55 Ty.b55 (by omega) dec_ent)
  have hd : ∀ (k j : Nat), (cs.drop k).drop j = cs.drop (k + j) := fun k j => by rw [List.drop_drop]
  have e1 : (cs.drop 16).take 1 = [n.v] := hnn.1
  have e2 : (cs.drop 17).take 1 = [e.v] := he.1
  have e3 : cs.drop 16 = [n.v] ++ [e.v] := split2 (k := 1) (m := 1) (by simpa using e1) (by rw [hd]; exact e2) (by simp; omega)
  have e0 : cs = cI a ++ cs.drop 16 := split2 (k := 16) (m := 2) ha (List.take_of_length_le (by simp; omega)) hl
  refine ⟨⟨a, n, e⟩, ?_, ?_, ?_⟩
  · show cs = cI a ++ [n.v] ++ [e.v]
    rw [e0, e3]; exact (List.append_assoc _ _ _).symm
  · have := hnn; rw [show ((cs.drop (_ : Nat)).take _) = [n.v] from e1] at this; exact this
  · have := he; rw [show ((cs.drop (_ : Nat)).take _) = [e.v] from e2] at this; exact this
theorem RPl.row {W : World} {cs : List Value} {x : PlV} (h : RPl W cs x) : Row W x.n.v x.n.xs.length (fN x.n.xs) := rslG (c := cN) (sz := 17) cN_length (by omega) (fun _ _ _ h => h.1) h.n
theorem RPl.ok {W : World} {cs : List Value} {x : PlV} (h : RPl W cs x) : ∀ y, y ∈ x.n.xs → okN y.n := rslG_all (fun _ _ _ h => h.2) h.n
/- how many values come in -/
theorem bulk_part {H : Type} {d : DataW H} {l : List (DataW H)} (h : d ∈ l) : Rows.uptoBulk d ≤ Rows.uptoBulkAll l := by
  induction l with
  | nil => cases h
  | cons x r ih =>
    simp only [Rows.uptoBulkAll]
    cases List.mem_cons.1 h with
    | inl e => subst e; omega
    | inr e => have := ih e; omega
theorem bulk_one {H : Type} (d : DataW H) : 1 ≤ Rows.uptoBulk d := by
  cases d with
  | lit l => cases l <;> simp [Rows.uptoBulk]
  | nil => simp [Rows.uptoBulk]
  | ptr d => simp [Rows.uptoBulk]
  | slice elems spare => simp [Rows.uptoBulk]
  | agg parts => simp [Rows.uptoBulk]
  | iface t d => simp [Rows.uptoBulk]
  | map entries => simp [Rows.uptoBulk]
  | held h => simp [Rows.uptoBulk]
theorem bulk_len {H : Type} (l : List (DataW H)) : l.length ≤ Rows.uptoBulkAll l := by
  induction l with
  | nil => simp
  | cons x r ih => have := bulk_one x; simp only [Rows.uptoBulkAll, List.length_cons]; omega
theorem bulk_slice {H : Type} {enc : TypeId × Value → H} {w : World} {fuel t e : Nat} {a : Option Addr} {k c : Nat} {cs : List Value} {x : DataW H × List MemPlace} (he : elemT Try.prog t = some e) (hc : cs = [.slice a k c])
    (h : DataW.trod enc Try.prog w 0 (fun _ => true) true fuel t cs = some x) : k ≤ Rows.uptoBulk x.1 := by
  rcases Deep.open_slice (elem_u he) h with ⟨rfl, rfl⟩ | ⟨a', len, cap, m, n, Dd, Pl, rfl, _, hl, _, hm, rfl, hel⟩
  · simp only [List.cons.injEq, Value.slice.injEq, and_true] at hc
    omega
  · simp only [List.cons.injEq, Value.slice.injEq, and_true] at hc
    obtain ⟨_, rfl, _⟩ := hc
    simp only [Rows.uptoBulk]
    have := bulk_len ((List.range len).map Dd)
    simp only [List.length_map, List.length_range] at this
    omega
theorem bulk_field {H : Type} {enc : TypeId × Value → H} {w : World} {fuel t : Nat} {l : List (TypeId × Nat × Nat)} {cs : List Value} {x : DataW H × List MemPlace} (hf : fieldsT Try.prog t = some l)
    (h : DataW.trod enc Try.prog w 0 (fun _ => true) true fuel t cs = some x) (j : Nat) (q : TypeId × Nat × Nat) (hq : l[j]? = some q) :
    ∃ y n, DataW.trod enc Try.prog w 0 (fun _ => true) true n q.1 ((cs.drop q.2.1).take q.2.2) = some y ∧ Rows.uptoBulk y.1 ≤ Rows.uptoBulk x.1 := by
  unfold fieldsT at hf
  split at hf
  · rename_i fs hu
    obtain ⟨xs, n, _, rfl, hlen, hxl, hfl⟩ := DataW.trod_struct hu h
    obtain ⟨f, hfj, h1, h2, h3⟩ := fieldsL_get hf j q hq
    have hfj' : fs[j]? = some f := by simpa using hfj
    have := hfl j f hfj'
    have hcz : Try.prog.cellsOf f.type = q.2.2 := by
      unfold Program.cellsOf; unfold sizeT at h3; rw [h3]; rfl
    rw [hcz, ← h2] at this
    have hj : j < xs.length := by rw [hxl]; exact (Array.getElem?_eq_some_iff.1 hfj').1
    rw [List.getElem?_eq_getElem hj] at this
    refine ⟨xs[j], n, h1 ▸ this, ?_⟩
    simp only [Rows.uptoBulk]
    have := bulk_part (d := xs[j].1) (l := xs.map (·.1)) (List.mem_map.2 ⟨xs[j], List.getElem_mem hj, rfl⟩)
    omega
  · cases hf
theorem bulk_place {H : Type} {enc : TypeId × Value → H} {W : World} {cs : List Value} {x : PlV} {d : DataW H} {ps : List MemPlace} (hx : RPl W cs x) (h : DataW.Trod enc Try.prog W 0 (fun _ => true) true 27 (.agg cs.toArray) d ps) : x.n.xs.length ≤ Rows.uptoBulk d := by
  obtain ⟨fuel, hf⟩ := h
  obtain ⟨y, n, h1, h2⟩ := bulk_field fsPl hf 1 _ rfl
  refine Nat.le_trans (bulk_slice (a := x.n.a) (c := x.n.c) Ty.el24 ?_ h1) h2
  have := hx.cells
  subst this
  rfl
end Go.Proofs.Ytohldionclgljaa
