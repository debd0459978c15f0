/-
  Identities, paths and entries that come in; rows of integers.
-/
import Derived.Test.YtohldionclgljaaGreatTb
import Derived.Test.YtohldionclgljaaGreatRa
import Derived.Test.YtohldionclgljaaGreatTt
namespace Go.Proofs.YtohldionclgljaaGreat
open Go.J Go.RowKit
set_option linter.unusedVariables false
set_option linter.unusedSimpArgs false
set_option maxRecDepth 4000
theorem idOf16 : ∀ (bs : List UInt8), bs.length = 16 → ∃ a : IDV, bs.map u8 = cI a
  | [b0, b1, b2, b3, b4, b5, b6, b7, b8, b9, b10, b11, b12, b13, b14, b15], _ => ⟨fun i => [b0, b1, b2, b3, b4, b5, b6, b7, b8, b9, b10, b11, b12, b13, b14, b15].get i, rfl⟩
def RId : World → List Value → IDV → Prop := fun _ cs a => cs = cI a
theorem dec_id : Decodes Tryz.prog 24 RId := by
  intro H enc w fuel cs x h hn
  obtain ⟨bs, hl, rfl⟩ := dec_bytes Ty.ar24 Ty.u5 Ty.s5 Ty.s24 H enc w fuel cs x h hn
  obtain ⟨a, ha⟩ := idOf16 bs hl
  exact ⟨a, ha⟩
def RPath : World → List Value → PV → Prop := fun _ cs p => cs = cP p ∧ okN p.n
theorem fs31 : fieldsT Tryz.prog 31 = some [(24, 0, 16), (2, 16, 1)] := by kernel_rfl
theorem split2 {cs x y : List Value} {k m : Nat} (h0 : (cs.drop 0).take k = x) (h1 : (cs.drop k).take m = y) (hl : cs.length = k + m) : cs = x ++ y := by
  rw [← h0, ← h1, List.drop_zero, List.take_of_length_le (l := cs.drop k) (by simp; omega), List.take_append_drop]
theorem dec_path : Decodes Tryz.prog 31 RPath := by
  intro H enc w fuel cs x h hn
  have hl := dec_len Ty.a31 Ty.s31 h
  obtain ⟨a, ha⟩ := dec_field fs31 h hn 0 _ rfl dec_id
  obtain ⟨n, hi, wi⟩ := dec_field fs31 h hn 1 _ rfl (dec_int Ty.u2)
  exact ⟨⟨a, n⟩, split2 (k := 16) (m := 1) ha hi hl, wi⟩
def REnt : World → List Value → EV → Prop := fun _ cs x => cs = cE x ∧ okE x
theorem fs33 : fieldsT Tryz.prog 33 = some [(31, 0, 17), (24, 17, 16), (24, 33, 16), (3, 49, 1), (3, 50, 1)] := by kernel_rfl
theorem dec_ent : Decodes Tryz.prog 33 REnt := by
  intro H enc w fuel cs x h hn
  have hl := dec_len Ty.a33 Ty.s33 h
  obtain ⟨p, hp, wp⟩ := dec_field fs33 h hn 0 _ rfl dec_path
  obtain ⟨a, ha⟩ := dec_field fs33 h hn 1 _ rfl dec_id
  obtain ⟨b, hb⟩ := dec_field fs33 h hn 2 _ rfl dec_id
  obtain ⟨n, hi, wi⟩ := dec_field fs33 h hn 3 _ rfl (dec_int Ty.u3)
  obtain ⟨m, hj, wj⟩ := dec_field fs33 h hn 4 _ rfl (dec_int Ty.u3)
  have hd : ∀ (k j : Nat), (cs.drop k).drop j = cs.drop (k + j) := fun k j => by rw [List.drop_drop]
  have e4 : cs.drop 49 = [.int .i64 n] ++ [.int .i64 m] := split2 (k := 1) (m := 1) (by simpa using hi) (by rw [hd]; exact hj) (by simp; omega)
  have e3 : cs.drop 33 = cI b ++ cs.drop 49 := split2 (k := 16) (m := 2) (by simpa [RId] using hb) (by rw [hd]; exact List.take_of_length_le (by simp; omega)) (by simp; omega)
  have e2 : cs.drop 17 = cI a ++ cs.drop 33 := split2 (k := 16) (m := 18) (by simpa [RId] using ha) (by rw [hd]; exact List.take_of_length_le (by simp; omega)) (by simp; omega)
  have e1 : cs = cP p ++ cs.drop 17 := split2 (k := 17) (m := 34) hp (List.take_of_length_le (by simp; omega)) hl
  refine ⟨⟨p, a, b, n, m⟩, ?_, wp, wi, wj⟩
  show cs = cP p ++ cI a ++ cI b ++ [.int .i64 n, .int .i64 m]
  rw [e1, e2, e3, e4]
  simp only [List.append_assoc, List.cons_append, List.nil_append]
/-- integers that came in -/
theorem RSl.rowI {W : World} {by_ : Nat} {s : Sl Int} {cs : List Value} (h : RSl 1 by_ (RInt .i64) W cs s) : Row W s.v s.xs.length (s.xs.map iV) := by
  obtain ⟨_, h1, _, h2⟩ := h
  refine ⟨s.a, s.c, rfl, h1, ?_⟩
  rcases h2 with h2 | ⟨b, o, ha, h2⟩
  · left; rw [h2]; rfl
  · right
    refine ⟨b, o, ha, fun j hj => ?_⟩
    simp only [List.length_map] at hj
    obtain ⟨cs', hl, hc, hr⟩ := h2 j s.xs[j] (List.getElem?_eq_getElem hj)
    obtain ⟨hr', _⟩ := hr
    subst hr'
    have := hc 0 (by simp)
    rw [show o + j = o + j * 1 + 0 by omega, this]
    simp [List.getElem?_eq_getElem hj]
theorem RSl.okI {W : World} {by_ : Nat} {s : Sl Int} {cs : List Value} (h : RSl 1 by_ (RInt .i64) W cs s) : ∀ n, n ∈ s.xs → okN n := by
  intro n hn
  obtain ⟨i, hi, rfl⟩ := List.getElem_of_mem hn
  obtain ⟨_, _, _, _, _, _, hr⟩ := RSl.at h hi
  exact hr.2
theorem RSl.len {W : World} {sz by_ : Nat} {α : Type} {R : World → List Value → α → Prop} {s : Sl α} {cs : List Value} (h : RSl sz by_ R W cs s) (hb : 0 < by_) : s.xs.length ≤ reachBytes := by
  obtain ⟨_, h1, h2, _⟩ := h
  have := Nat.le_mul_of_pos_right s.c hb
  omega
theorem RSl.len8 {W : World} {sz : Nat} {α : Type} {R : World → List Value → α → Prop} {s : Sl α} {cs : List Value} (h : RSl sz 8 R W cs s) : s.xs.length ≤ 17592186043904 := by
  obtain ⟨_, h1, h2, _⟩ := h
  have h3 : reachBytes = 140737488351232 := rfl
  omega
end Go.Proofs.YtohldionclgljaaGreat
