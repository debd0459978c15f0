/-
  A node's case and a way that come in.
-/
import Derived.Test.YtpldpkdlloolkaaVf
import Derived.Test.YtpldpkdlloolkaaVa
import Derived.Test.YtpldpkdlloolkaaRc
namespace Go.Proofs.Ytpldpkdlloolkaa
open Go.J Go.RowKit
set_option linter.unusedVariables false
set_option linter.unusedSimpArgs false
set_option maxRecDepth 8000
structure CaseV where
  e : Sl EV
  most : Int
  n : Int
  me : IDV
  o : Sl Bool
structure WayV where
  p : PV
  b : IDV
  t : Sl Int
abbrev cCase (c : CaseV) : List Value := [c.e.v, iV c.most] ++ cW c.n c.me ++ [c.o.v]
abbrev cWay (x : WayV) : List Value := cP x.p ++ cI x.b ++ [x.t.v]
structure RCase (W : World) (cs : List Value) (c : CaseV) : Prop where
  cells : cs = cCase c
  e : RSl 51 72 REnt W [c.e.v] c.e
  most : okN c.most
  n : okN c.n
  o : RSl 1 1 RBool W [c.o.v] c.o
structure RWay (W : World) (cs : List Value) (x : WayV) : Prop where
  cells : cs = cWay x
  p : okN x.p.n
  t : RSl 1 8 (RInt .i64) W [x.t.v] x.t
theorem fsSelf : fieldsT Try.prog 41 = some [(3, 0, 1), (23, 1, 16)] := by kernel_rfl
def RSelf : World → List Value → Int × IDV → Prop := fun _ cs s => cs = cW s.1 s.2 ∧ okN s.1
theorem dec_self : Decodes Try.prog 41 RSelf := by
  intro H enc w fuel cs x h hn
  have hl := dec_len Ty.a41 Ty.s41 h
  obtain ⟨n, hi, wi⟩ := dec_field fsSelf h hn 0 _ rfl (dec_int Ty.u3)
  obtain ⟨a, ha⟩ := dec_field fsSelf h hn 1 _ rfl dec_id
  exact ⟨(n, a), split2 (k := 1) (m := 16) hi ha hl, wi⟩
theorem fsCase : fieldsT Try.prog 85 = some [(62, 0, 1), (3, 1, 1), (41, 2, 17), (28, 19, 1)] := by kernel_rfl
theorem dec_case : Decodes Try.prog 85 RCase := by
  intro H enc w fuel cs x h hn
  have hl := dec_len Ty.a85 Ty.s85 h
  obtain ⟨e, he⟩ := dec_field fsCase h hn 0 _ rfl (dec_slice Ty.el62 Ty.s34 Ty.b34 (by omega) dec_ent)
  obtain ⟨m, hm, wm⟩ := dec_field fsCase h hn 1 _ rfl (dec_int Ty.u3)
  obtain ⟨s, hs, ws⟩ := dec_field fsCase h hn 2 _ rfl dec_self
  obtain ⟨o, ho⟩ := dec_field fsCase h hn 3 _ rfl (dec_slice Ty.el28 Ty.s4 Ty.b4 (by omega) (dec_bool Ty.u4))
  have hd : ∀ (k j : Nat), (cs.drop k).drop j = cs.drop (k + j) := fun k j => by rw [List.drop_drop]
  have e1 : (cs.drop 0).take 1 = [e.v] := he.1
  have e4 : (cs.drop 19).take 1 = [o.v] := ho.1
  have e3 : cs.drop 2 = cW s.1 s.2 ++ [o.v] := split2 (k := 17) (m := 1) (by simpa using hs) (by rw [hd]; exact e4) (by simp; omega)
  have e2 : cs.drop 1 = [iV m] ++ cs.drop 2 := split2 (k := 1) (m := 18) (by simpa using hm) (by rw [hd]; exact List.take_of_length_le (by simp; omega)) (by simp; omega)
  have e0 : cs = [e.v] ++ cs.drop 1 := split2 (k := 1) (m := 19) e1 (List.take_of_length_le (by simp; omega)) hl
  refine ⟨⟨e, m, s.1, s.2, o⟩, ?_, ?_, wm, ws, ?_⟩
  · show cs = [e.v, iV m] ++ cW s.1 s.2 ++ [o.v]
    rw [e0, e2, e3]; rfl
  · have := he; rw [show ((cs.drop (_ : Nat)).take _) = [e.v] from e1] at this; exact this
  · have := ho; rw [show ((cs.drop (_ : Nat)).take _) = [o.v] from e4] at this; exact this
theorem fsWay : fieldsT Try.prog 87 = some [(25, 0, 17), (23, 17, 16), (26, 33, 1)] := by kernel_rfl
theorem dec_way : Decodes Try.prog 87 RWay := by
  intro H enc w fuel cs x h hn
  have hl := dec_len Ty.a87 Ty.s87 h
  obtain ⟨p, hp, wp⟩ := dec_field fsWay h hn 0 _ rfl dec_path
  obtain ⟨b, hb⟩ := dec_field fsWay h hn 1 _ rfl dec_id
  obtain ⟨t, ht⟩ := dec_field fsWay h hn 2 _ rfl (dec_slice Ty.el26 Ty.s3 Ty.b3 (by omega) (dec_int Ty.u3))
  have hd : ∀ (k j : Nat), (cs.drop k).drop j = cs.drop (k + j) := fun k j => by rw [List.drop_drop]
  have e4 : (cs.drop 33).take 1 = [t.v] := ht.1
  have e3 : cs.drop 17 = cI b ++ [t.v] := split2 (k := 16) (m := 1) (by simpa [RId] using hb) (by rw [hd]; exact e4) (by simp; omega)
  have e0 : cs = cP p ++ cs.drop 17 := split2 (k := 17) (m := 17) hp (List.take_of_length_le (by simp; omega)) hl
  refine ⟨⟨p, b, t⟩, ?_, wp, ?_⟩
  · show cs = cP p ++ cI b ++ [t.v]
    rw [e0, e3]; exact (List.append_assoc _ _ _).symm
  · have := ht; rw [show ((cs.drop (_ : Nat)).take _) = [t.v] from e4] at this; exact this
theorem rslB {W : World} {s : Sl Bool} {cs : List Value} (h : RSl 1 1 RBool W cs s) : Row W s.v s.xs.length (s.xs.map bV) := by
  have := rslG (c := fun b => [bV b]) (sz := 1) (fun _ => rfl) (by omega) (fun _ _ _ h => h) h
  rwa [show s.xs.flatMap (fun b => [bV b]) = s.xs.map bV from by induction s.xs with | nil => rfl | cons a l ih => simp [ih]] at this
theorem rslI {W : World} {s : Sl Int} {cs : List Value} (h : RSl 1 8 (RInt .i64) W cs s) : Row W s.v s.xs.length (s.xs.map iV) := by
  have := rslG (c := fun b => [iV b]) (sz := 1) (fun _ => rfl) (by omega) (fun _ _ _ h => h.1) h
  rwa [show s.xs.flatMap (fun b => [iV b]) = s.xs.map iV from by induction s.xs with | nil => rfl | cons a l ih => simp [ih]] at this
end Go.Proofs.Ytpldpkdlloolkaa
