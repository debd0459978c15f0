/-
  VaultPlays: texts that its proof needs, part 1.
-/
import Derived.WalkKit
import Derived.StillTail
import Derived.Test.YtoaenmlhehcjfaaProg
import Derived.ProofKit
import Derived.OpenShut
import Derived.ShutString
import Derived.ChangeOld
import Derived.Deep.Slices
import Derived.SizedLaws
import Derived.DeepKeys3
import Derived.MapKept
import Derived.Sort.Grow
import Derived.Deep.Draws
import Derived.RangeFuncRecord
import Derived.TacticsIn
import Derived.Maps.RangeRun
import Derived.Shelf.SlSortCmp.NoneTotal
import Derived.Shelf.SlGeneric
namespace Go.J
open Go.RowKit
set_option linter.unusedVariables false
set_option linter.unusedSimpArgs false
abbrev Env:=List (Nat × Value)
def get:Env→Nat→Option Value
 | [],_=>none
 | (k,v)::e,t=>match Nat.beq k t with
  | true=>some v
  | false=>get e t
def Rep (n:Nat) (T:Array Value) (e:Env):Prop:=T.size=n∧∀t v,get e t=some v→T[t]? = some v
def ev (e:Env):Operand→Option Value
 | .tmp t=>get e t
 | .const v=>some v
 | .global g=>some (.pointer (some ⟨g,0,none⟩))
 | .func f=>some (.func (.func f) #[] #[])
abbrev act (T:Array Value):Act:=⟨T,[]⟩
theorem Rep.eval {n:Nat} {T:Array Value} {e:Env} {x:Operand} {v:Value} (h:Rep n T e) (hx:ev e x=some v):(act T).eval x=v:=by
 cases x with
 | tmp t=>
  have:=h.2 t v hx
  show T.getD t undef=v
  rw [Array.getD_eq_getD_getElem?,this];rfl
 | const c=>simpa [ev,Act.eval] using hx
 | global g=>simpa [ev,Act.eval] using hx
 | func f=>simpa [ev,Act.eval] using hx
theorem Rep.put {n:Nat} {T:Array Value} {e:Env} (h:Rep n T e) {d:Nat} (hd:Nat.blt d n=true) (v:Value) :
  Rep n (T.setIfInBounds d v) ((d,v)::e):=by
 have hd':d<n:=by simpa [Nat.blt_eq] using hd
 refine ⟨by simpa using h.1,fun t u hu=>?_⟩
 simp only [get] at hu
 by_cases hdt:d=t
 ·subst hdt
  simp at hu
  subst hu
  simp [h.1,hd']
 ·have hb:Nat.beq d t=false:=Bool.eq_false_iff.2 fun h=>hdt (Nat.eq_of_beq_eq_true h)
  rw [hb] at hu
  simp only at hu
  rw [Array.getElem?_setIfInBounds]
  rw [if_neg hdt]
  exact h.2 t u hu
def Cov (e:Env):Env→Prop
 | []=>True
 | (t,v)::f=>get e t=some v∧Cov e f
theorem Cov.get {e f:Env} (h:Cov e f):∀t v,get f t=some v→get e t=some v:=by
 induction f with
 | nil=>intro t v h;simp [J.get] at h
 | cons p f ih=>
  obtain ⟨k,u⟩:=p
  intro t v hv
  simp only [J.get] at hv
  cases hb:Nat.beq k t with
  | true=>
   rw [hb] at hv
   simp only [Option.some.injEq] at hv
   subst hv
   have:k=t:=by simpa using hb
   subst this
   exact h.1
  | false=>rw [hb] at hv;exact ih h.2 t v hv
theorem Rep.cov {n:Nat} {T:Array Value} {e f:Env} (h:Rep n T e) (hc:Cov e f):Rep n T f:=
 ⟨h.1,fun t v hv=>h.2 t v (hc.get t v hv)⟩
section
variable (P:Program) (ops:Array Oper) (Q:Exit→Act→World→Prop) (n:Nat)
def J (rest:List Oper) (e:Env) (I:World→Prop):Prop:=∀T w,Rep n T e→I w→wpList P ops Q rest (act T) w
def JC (c:Code) (e:Env) (I:World→Prop):Prop:=∀T w,Rep n T e→I w→c.wp P Q (act T) w
def JX (x:Exit) (e:Env) (I:World→Prop):Prop:=∀T w,Rep n T e→I w→Q x (act T) w
end
section
variable {P:Program} {ops:Array Oper} {Q:Exit→Act→World→Prop} {n:Nat} {e:Env} {I I':World→Prop} {rest:List Oper}
theorem J.conseq (h:J P ops Q n rest e I') (hi:∀w,I w→I' w):J P ops Q n rest e I:=fun T w ht hw=>h T w ht (hi w hw)
theorem J.cov {f:Env} (hc:Cov e f) (h:J P ops Q n rest f I):J P ops Q n rest e I:=fun T w ht hw=>h T w (ht.cov hc) hw
theorem JC.conseq {c:Code} (h:JC P Q n c e I') (hi:∀w,I w→I' w):JC P Q n c e I:=fun T w ht hw=>h T w ht (hi w hw)
theorem JC.cov {c:Code} {f:Env} (hc:Cov e f) (h:JC P Q n c f I):JC P Q n c e I:=fun T w ht hw=>h T w (ht.cov hc) hw
theorem J.ex {α:Type} {I:α→World→Prop} (h:∀x,J P ops Q n rest e (I x)):J P ops Q n rest e (fun w=>∃x,I x w):=
 fun T w ht ⟨x,hw⟩=>h x T w ht hw
theorem J.pr {p:Prop} (h:p→J P ops Q n rest e I):J P ops Q n rest e (fun w=>p∧I w):=fun T w ht ⟨hp,hw⟩=>h hp T w ht hw
theorem J.at (h:∀w0,I w0→J P ops Q n rest e (fun w=>I w∧w=w0)):J P ops Q n rest e I:=fun T w ht hw=>h w hw T w ht ⟨hw,rfl⟩
theorem JC.ex {α:Type} {c:Code} {I:α→World→Prop} (h:∀x,JC P Q n c e (I x)):JC P Q n c e (fun w=>∃x,I x w):=
 fun T w ht ⟨x,hw⟩=>h x T w ht hw
theorem JC.pr {c:Code} {p:Prop} (h:p→JC P Q n c e I):JC P Q n c e (fun w=>p∧I w):=fun T w ht ⟨hp,hw⟩=>h hp T w ht hw
theorem JX.ex {α:Type} {x:Exit} {I:α→World→Prop} (h:∀y,JX Q n x e (I y)):JX Q n x e (fun w=>∃y,I y w):=
 fun T w ht ⟨y,hw⟩=>h y T w ht hw
theorem JX.pr {x:Exit} {p:Prop} (h:p→JX Q n x e I):JX Q n x e (fun w=>p∧I w):=fun T w ht ⟨hp,hw⟩=>h hp T w ht hw
theorem JX.conseq {x:Exit} (h:JX Q n x e I') (hi:∀w,I w→I' w):JX Q n x e I:=fun T w ht hw=>h T w ht (hi w hw)
theorem JX.cov {x:Exit} {f:Env} (hc:Cov e f) (h:JX Q n x f I):JX Q n x e I:=fun T w ht hw=>h T w (ht.cov hc) hw
theorem JC.seq {x y:Code} (h:∀K:Act→World→Prop,(∀e' I',JC P Q n y e' I'→JX (fun _=>K) n .normal e' I')→JC P (Exit.then K Q) n x e I):JC P Q n (.seq x y) e I:=
 fun T w ht hw=>wp_seq (h (fun a w=>y.wp P Q a w) (fun _ _ hy T w ht hw=>hy T w ht hw) T w ht hw)
theorem JC.zy {α:Type} {x y:Code} (E:α→Env) (I2:α→World→Prop) (hy:∀z,JC P Q n y (E z) (I2 z))
  (hx:∀K:Act→World→Prop,(∀z,JX (fun _=>K) n .normal (E z) (I2 z))→JC P (Exit.then K Q) n x e I):JC P Q n (.seq x y) e I:=
 fun T w ht hw=>wp_seq (hx (fun a w=>y.wp P Q a w) (fun z T w ht hw=>hy z T w ht hw) T w ht hw)
theorem JX.cut {x:Exit} {f:Env} (h:JX Q n x f I') (hc:Cov e f) (hi:∀w,I w→I' w):JX Q n x e I:=fun T w ht hw=>h T w (ht.cov hc) (hi w hw)
theorem JC.skip (h:JX Q n .normal e I):JC P Q n .skip e I:=fun T w ht hw=>wp_skip (h T w ht hw)
theorem JC.qX {i:Nat} (h:JX Q n (.exit i) e I):JC P Q n (.exit i) e I:=fun T w ht hw=>wp_exit (h T w ht hw)
theorem JC.qA (h:JX Q n .ret e I):JC P Q n .ret e I:=fun T w ht hw=>wp_ret (h T w ht hw)
theorem JC.block {i:Nat} {c:Code} (h:JC P (Exit.inBlock i Q) n c e I):JC P Q n (.block i c) e I:=fun T w ht hw=>wp_block (h T w ht hw)
theorem JC.qP {c:Operand} {x y:Code} (hc:ev e c=some (.bool true)) (h:JC P Q n x e I):JC P Q n (.cond c x y) e I:=
 fun T w ht hw=>wp_cond_true (ht.eval hc) (h T w ht hw)
theorem JC.qI {c:Operand} {x y:Code} (hc:ev e c=some (.bool false)) (h:JC P Q n y e I):JC P Q n (.cond c x y) e I:=
 fun T w ht hw=>wp_cond_false (ht.eval hc) (h T w ht hw)
theorem JC.qn {c:Operand} {x y:Code} {b:Bool} (hc:ev e c=some (.bool b)) (h1:b=true→JC P Q n x e I) (h2:b=false→JC P Q n y e I):JC P Q n (.cond c x y) e I:=
 fun T w ht hw=>wp_cond_split (ht.eval hc) (fun h=>h1 h T w ht hw) (fun h=>h2 h T w ht hw)
theorem JC.region {id:Nat} {l:List Oper} (h:J P l.toArray Q n l e I):JC P Q n (.region id l.toArray false) e I:=
 fun T w ht hw=>wp_region_lit (h T w ht hw)
theorem J.nil (h:JX Q n .normal e I):J P ops Q n [] e I:=fun T w ht hw=>wpList_nil (h T w ht hw)
theorem JX.qd {K:Act→World→Prop} (h:JX (fun _=>K) n .normal e I):JX (Exit.then K Q) n .normal e I:=h
theorem JX.qE {K:Act→World→Prop} {i:Nat} (h:JX Q n (.exit i) e I):JX (Exit.then K Q) n (.exit i) e I:=h
theorem JX.qt {K:Act→World→Prop} (h:JX Q n .ret e I):JX (Exit.then K Q) n .ret e I:=h
theorem JX.qJ {i:Nat} (h:JX Q n .normal e I):JX (Exit.inBlock i Q) n .normal e I:=h
theorem JX.qH {i:Nat} (h:JX Q n .ret e I):JX (Exit.inBlock i Q) n .ret e I:=h
theorem JX.qT {i:Nat} (h:JX Q n .normal e I):JX (Exit.inBlock i Q) n (.exit i) e I:=
 fun T w ht hw=>by simpa [Exit.inBlock] using h T w ht hw
theorem JX.blockO {i j:Nat} (hj:Nat.beq j i=false) (h:JX Q n (.exit j) e I):JX (Exit.inBlock i Q) n (.exit j) e I:=
 fun T w ht hw=>by
  have:j≠i:=fun h=>by subst h;simp at hj
  simpa [Exit.inBlock,this] using h T w ht hw
theorem JC.loop {α:Type} {c:Code} (E:α→Env) (I:α→World→Prop) (μ:α→Nat) (x0:α)
  (round:∀x,JC P (Exit.then (fun a w=>∃y,μ y<μ x∧a.defers=[]∧Rep n a.tmps (E y)∧I y w) Q) n c (E x) (I x)):JC P Q n (.loop c) (E x0) (I x0):=by
 intro T0 w0 ht0 hw0
 have key:∀m,∀x,μ x=m→∀T w,Rep n T (E x)→I x w→∀(b:Frame) (k:List Item) (cs:List Frame),
   ∃e a' w',Q e a' w'∧Arrives P (lone (b.at (act T) (.code c::.inLoop c::k)) cs w) b k cs e a' w':=by
  intro m
  induction m using Nat.strongRecOn with
  | _ m ih=>
   intro x hx T w ht hw b k cs
   obtain ⟨e,a₁,w₁,hq,harr⟩:=round x T w ht hw b (.inLoop c::k) cs
   cases e with
   | normal=>
    obtain ⟨y,hlt,hd,hr,hI⟩:=hq
    obtain ⟨t1,d1⟩:=a₁
    simp only at hd hr
    subst hd
    obtain ⟨e₂,a₂,w₂,hq₂,harr₂⟩:=ih (μ y) (hx ▸ hlt) y rfl t1 w₁ hr hI b k cs
    exact ⟨e₂,a₂,w₂,hq₂,.of_steps (Steps.trans harr (.one step_inLoop)) harr₂⟩
   | exit id=>exact ⟨_,a₁,w₁,hq,.pass (x:=.inLoop c) rfl (fun _ _=>.inl (by simp)) harr⟩
   | goto l=>exact ⟨_,a₁,w₁,hq,.pass (x:=.inLoop c) rfl (fun _ _=>.inl (by simp)) harr⟩
   | ret=>exact ⟨_,a₁,w₁,hq,.pass (x:=.inLoop c) rfl (fun _ _=>.inl (by simp)) harr⟩
   | panic ch=>exact ⟨_,a₁,w₁,hq,.pass (x:=.inLoop c) rfl (fun _ _=>.inl (by simp)) harr⟩
   | outgrown=>exact ⟨_,a₁,w₁,hq,.pass (x:=.inLoop c) rfl (fun _ _=>.inl (by simp)) harr⟩
 intro b k cs
 obtain ⟨e,a',w',hq,harr⟩:=key _ x0 rfl T0 w0 ht0 hw0 b k cs
 exact ⟨e,a',w',hq,.of_steps (.one step_loop) harr⟩
theorem JX.qS {α:Type} {E:α→Env} {I:α→World→Prop} {μ:α→Nat} {m:Nat} (y:α) (hμ:μ y<m) (hc:Cov e (E y)) {I₀:World→Prop} (hi:∀w,I₀ w→I y w) :
  JX (fun _ a w=>∃y,μ y<m∧a.defers=[]∧Rep n a.tmps (E y)∧I y w) n .normal e I₀:=
 fun _ w ht hw=>⟨y,hμ,rfl,ht.cov hc,hi w hw⟩
theorem J.qf {d:Option Nat} {o:Op} {t:Nat} {p:String} {af:Array Edge} {j:Nat} {want:Bool} {oj:Oper} {dj:Nat}
  (hj:ops[j]? = some oj) (hdj:oj.dst=some dj) (hv:get e dj=some (.bool want))
  (h:J P ops Q n (⟨d,o,t,p,af,none⟩::rest) e I):J P ops Q n (⟨d,o,t,p,af,some (j,want)⟩::rest) e I:=by
 intro T w ht hw
 have hy:yielded ops T j=some want:=by
  have:=ht.2 dj _ hv
  simp [yielded,hj,hdj,this]
 have h1:=h T w ht hw
 unfold wpList at h1 ⊢
 have e1:Region.wanted ⟨d,o,t,p,af,some (j,want)⟩ (yielded ops T)=true:=by simp [Region.wanted,hy]
 have e2:Region.wanted ⟨d,o,t,p,af,none⟩ (yielded ops T)=true:=by simp [Region.wanted]
 rw [if_pos e1]
 rw [if_pos e2] at h1
 exact h1
theorem J.skip {d:Nat} {o:Op} {t:Nat} {p:String} {af:Array Edge} {j:Nat} {want b:Bool} {oj:Oper} {dj:Nat}
  (hj:ops[j]? = some oj) (hdj:oj.dst=some dj) (hv:get e dj=some (.bool b)) (hb:(b==want)=false) (hd:Nat.blt d n=true)
  (h:J P ops Q n rest ((d,undef)::e) I):J P ops Q n (⟨some d,o,t,p,af,some (j,want)⟩::rest) e I:=by
 intro T w ht hw
 have hy:yielded ops T j=some b:=by
  have:=ht.2 dj _ hv
  simp [yielded,hj,hdj,this]
 refine wpList_skip (by simpa [Region.wanted,hy] using hb) ?_
 exact h _ w (ht.put hd undef) hw
theorem J.qh {d:Nat} {o:Op} {t:Nat} {p:String} {af:Array Edge} {j:Nat} {want:Bool} {oj:Oper} {dj:Nat}
  (hj:ops[j]? = some oj) (hdj:oj.dst=some dj) (hv:get e dj=some undef) (hd:Nat.blt d n=true)
  (h:J P ops Q n rest ((d,undef)::e) I):J P ops Q n (⟨some d,o,t,p,af,some (j,want)⟩::rest) e I:=by
 intro T w ht hw
 have hy:yielded ops T j=none:=by
  have:=ht.2 dj _ hv
  simp [yielded,hj,hdj,this,undef]
 refine wpList_skip (by simp [Region.wanted,hy]) ?_
 exact h _ w (ht.put hd undef) hw
theorem J.z6 {b:Bool} (t:Nat) (hv:get e t=some (.bool b)) (h1:b=true→J P ops Q n rest ((t,.bool true)::e) I) (h2:b=false→J P ops Q n rest ((t,.bool false)::e) I) :
  J P ops Q n rest e I:=by
 intro T w ht hw
 have key:∀c:Bool,b=c→Rep n T ((t,.bool c)::e):=by
  intro c hc
  subst hc
  refine ⟨ht.1,fun u x hx=>?_⟩
  simp only [J.get] at hx
  cases hb:Nat.beq t u with
  | true=>
   rw [hb] at hx
   have:t=u:=by simpa using hb
   subst this
   simp only at hx
   exact ht.2 t x (hv.trans hx)
  | false=>rw [hb] at hx;exact ht.2 u x hx
 cases hb:b with
 | true=>exact h1 hb T w (key true hb) hw
 | false=>exact h2 hb T w (key false hb) hw
theorem J.name {v v':Value} (t:Nat) (hv:get e t=some v) (hvv:v=v') (h:J P ops Q n rest ((t,v')::e) I):J P ops Q n rest e I:=by
 subst hvv
 intro T w ht hw
 refine h T w ⟨ht.1,fun u x hx=>?_⟩ hw
 simp only [J.get] at hx
 cases hb:Nat.beq t u with
 | true=>
  rw [hb] at hx
  have:t=u:=by simpa using hb
  subst this
  simp only at hx
  exact ht.2 t x (hv.trans hx)
 | false=>rw [hb] at hx;exact ht.2 u x hx
theorem J.zf {d:Nat} {o:Op} {t:Nat} {p:String} {af:Array Edge} {v:Value} (hd:Nat.blt d n=true)
  (hrun:∀T w,Rep n T e→I w→∃w',(execOp (act T).eval ⟨some d,o,t,p,af,none⟩).run P w=.ok (.value v) w'∧I' w')
  (h:J P ops Q n rest ((d,v)::e) I'):J P ops Q n (⟨some d,o,t,p,af,none⟩::rest) e I:=by
 intro T w ht hw
 obtain ⟨w',hr,hi⟩:=hrun T w ht hw
 refine wpList_plain rfl fun K hK=>?_
 simp only [Oper.wp,hr,Oper.upon]
 exact hK _ _ (h _ w' (ht.put hd v) hi)
theorem J.yq {α:Type} {V:α→Value} {I':α→World→Prop} {d:Nat} {o:Op} {t:Nat} {p:String} {af:Array Edge} (hd:Nat.blt d n=true)
  (hrun:∀T w,Rep n T e→I w→∃x w',(execOp (act T).eval ⟨some d,o,t,p,af,none⟩).run P w=.ok (.value (V x)) w'∧I' x w')
  (h:∀x,J P ops Q n rest ((d,V x)::e) (I' x)):J P ops Q n (⟨some d,o,t,p,af,none⟩::rest) e I:=by
 intro T w ht hw
 obtain ⟨x,w',hr,hi⟩:=hrun T w ht hw
 refine wpList_plain rfl fun K hK=>?_
 simp only [Oper.wp,hr,Oper.upon]
 exact hK _ _ (h x _ w' (ht.put hd _) hi)
theorem J.valueN {o:Op} {t:Nat} {p:String} {af:Array Edge}
  (hrun:∀T w,Rep n T e→I w→∃v w',(execOp (act T).eval ⟨none,o,t,p,af,none⟩).run P w=.ok (.value v) w'∧I' w')
  (h:J P ops Q n rest e I'):J P ops Q n (⟨none,o,t,p,af,none⟩::rest) e I:=by
 intro T w ht hw
 obtain ⟨v,w',hr,hi⟩:=hrun T w ht hw
 refine wpList_plain rfl fun K hK=>?_
 simp only [Oper.wp,hr,Oper.upon]
 exact hK _ _ (h _ w' ht hi)
theorem J.skipN {o:Op} {t:Nat} {p:String} {af:Array Edge}
  (hrun:∀T w,Rep n T e→I w→∃w',(execOp (act T).eval ⟨none,o,t,p,af,none⟩).run P w=.ok .skip w'∧I' w')
  (h:J P ops Q n rest e I'):J P ops Q n (⟨none,o,t,p,af,none⟩::rest) e I:=by
 intro T w ht hw
 obtain ⟨w',hr,hi⟩:=hrun T w ht hw
 refine wpList_plain rfl fun K hK=>?_
 simp only [Oper.wp,hr,Oper.upon]
 exact hK _ _ (h _ w' ht hi)
end
end Go.J
namespace Go.J
open Go.RowKit
set_option linter.unusedVariables false
set_option linter.unusedSimpArgs false
def aggT (P:Program) (t:TypeId):Option Bool:=match P.underlying t with
 | some (.struct _)=>some true
 | some (.array _ _)=>some true
 | some _=>some false
 | none=>none
def sizeT (P:Program) (t:TypeId):Option Nat:=(P.info? t).map (·.size)
def bytesT (P:Program) (t:TypeId):Option Nat:=(P.info? t).map (·.bytes)
def zeroT (P:Program) (t:TypeId):Option Value:=(P.info? t).bind (·.zero)
def fieldT (P:Program) (s f:Nat):Option Nat:=match P.underlying s with
 | some (.struct fs)=>match fs[f]? with
  | some fd=>match sizeT P fd.type with
   | some (_+1)=>some fd.offset
   | _=>none
  | none=>none
 | _=>none
def elemT (P:Program) (t:TypeId):Option TypeId:=match P.underlying t with
 | some (.slice e)=>some e
 | _=>none
def arrT (P:Program) (t:TypeId):Option (Nat × TypeId):=match P.underlying t with
 | some (.array n e)=>some (n,e)
 | _=>none
theorem run_isAgg {P:Program} {t:TypeId} {b:Bool} (h:aggT P t=some b) (w:World):(isAgg t).run P w=.ok b w:=by
 unfold aggT at h
 simp only [isAgg,underlying,Sem.run_bind,run_program,Result.andThen_ok]
 cases hu:P.underlying t with
 | none=>rw [hu] at h;cases h
 | some d=>
  rw [hu] at h
  simp only [Sem.run_pure,Result.andThen_ok]
  cases d <;> simp at h <;> subst h <;> rfl
theorem run_sizeOf {P:Program} {t:TypeId} {k:Nat} (h:sizeT P t=some k) (w:World):(sizeOf t).run P w=.ok k w:=by
 unfold sizeT at h
 simp only [sizeOf,typeInfo,Sem.run_bind,run_program,Result.andThen_ok]
 cases hu:P.info? t with
 | none=>rw [hu] at h;cases h
 | some i=>rw [hu] at h;simp at h;subst h;rfl
theorem qM {P:Program} {t:TypeId} {d:TypeDesc} (h:P.underlying t=some d) (w:World):(underlying t).run P w=.ok d w:=by
 simp only [underlying,Sem.run_bind,run_program,Result.andThen_ok,h,Sem.run_pure]
theorem zz {P:Program} {t:TypeId} {v:Value} (h:zeroT P t=some v) (w:World):(zeroValue t).run P w=.ok v w:=by
 unfold zeroT at h
 simp only [zeroValue,typeInfo,Sem.run_bind,run_program,Result.andThen_ok]
 cases hu:P.info? t with
 | none=>rw [hu] at h;cases h
 | some i=>rw [hu] at h;simp at h;simp [h]
theorem zJ (b o k:Nat):(⟨b,o,none⟩:Addr).add k=⟨b,o+k,none⟩:=by
 unfold Addr.add
 split
 ·rename_i h;subst h;rfl
 ·rfl
def binI (op:BinOp):Value→Value→Option Value
 | .int k a,.int k' b=>
  match op with
  | .shl=>if b<0 then none else some (.int k (k.wrap (a*2 ^ (min b.toNat k.bits))))
  | .shr=>if b<0 then none else some (.int k (a.fdiv (2 ^ (min b.toNat k.bits))))
  | .add=>if k=k' then some (.int k (k.wrap (a+b))) else none
  | .sub=>if k=k' then some (.int k (k.wrap (a - b))) else none
  | .mul=>if k=k' then some (.int k (k.wrap (a*b))) else none
  | .quo=>if k=k' then if b=0 then none else some (.int k (k.wrap (a.tdiv b))) else none
  | .rem=>if k=k' then if b=0 then none else some (.int k (a.tmod b)) else none
  | .eql=>if k=k' then some (.bool (a==b)) else none
  | .neq=>if k=k' then some (.bool (a != b)) else none
  | .lss=>if k=k' then some (.bool (decide (a<b))) else none
  | .leq=>if k=k' then some (.bool (decide (a≤b))) else none
  | .gtr=>if k=k' then some (.bool (decide (a>b))) else none
  | .geq=>if k=k' then some (.bool (decide (a≥b))) else none
  | .and=>if k=k' then some (.int k (k.wrap (BitVec.ofInt k.bits a&&& BitVec.ofInt k.bits b).toNat)) else none
  | .or=>if k=k' then some (.int k (k.wrap (BitVec.ofInt k.bits a ||| BitVec.ofInt k.bits b).toNat)) else none
  | .xor=>if k=k' then some (.int k (k.wrap (BitVec.ofInt k.bits a ^^^ BitVec.ofInt k.bits b).toNat)) else none
  | .andNot=>none
 | .string a,.string b=>
  match op with
  | .eql=>some (.bool (a.toList==b.toList))
  | .neq=>some (.bool (!(a.toList==b.toList)))
  | _=>none
 | _,_=>none
theorem binI_ok {P:Program} {op:BinOp} {x y v:Value} (h:binI op x y=some v) (t:TypeId) (w:World) :
  (binOp op t x y).run P w=.ok v w:=by
 unfold binI at h
 split at h
 ·rename_i k a k' b
  cases op <;> simp only [] at h <;> (repeat' split at h) <;> simp only [Option.some.injEq,reduceCtorEq] at h <;> subst h <;>
   (first | (simp_all [binOp,Op.shift,Op.intArith,Op.intDiv,Op.intCmp,Op.intBits];done) | (simp_all [binOp,Op.shift];intro;omega))
 ·rename_i a b
  cases op <;> simp only [Option.some.injEq,reduceCtorEq] at h <;> subst h <;> simp [binOp,Op.stringOp]
 ·cases h
theorem run_eqGuard {P:Program} {op:BinOp} {t:TypeId} {x y:Operand} {a b:Value} (w:World)
  (h:match a with | .nilIface=>False | .agg _=>False | _=>True):(eqGuard op t x y a b).run P w=.ok () w:=by
 unfold eqGuard
 cases op <;> simp <;> cases a <;> simp_all
theorem yS {P:Program} {t:TypeId} {x y:Value} {r:Result Bool} {w:World} (h:∀d,(Op.equalIn (d+1) t x y).run P w=r):(Op.equal t x y).run P w=r:=h 9999
theorem equalIn_ptrNil {P:Program} {t el:TypeId} (hu:P.underlying t=some (.pointer el)) (a:Option Addr) (w:World) (d:Nat) :
  (Op.equalIn (d+1) t (.pointer a) (.pointer none)).run P w=.ok a.isNone w:=by
 cases a <;> simp [Op.equalIn,qM hu]
theorem equalIn_bool {P:Program} {t:TypeId} (hu:P.underlying t=some .bool) (a b:Bool) (w:World) (d:Nat) :
  (Op.equalIn (d+1) t (.bool a) (.bool b)).run P w=.ok (a==b) w:=by
 simp [Op.equalIn,qM hu]
theorem binOp_eql_ptr (P:Program) (t:TypeId) (a b:Option Addr) (w:World):(binOp .eql t (.pointer a) (.pointer b)).run P w=((Op.equal t (.pointer a) (.pointer b)).run P w).andThen fun r w'=>.ok (.bool r) w':=by
 simp only [binOp,Sem.run_bind,Sem.run_pure]
theorem binOp_neq_ptr (P:Program) (t:TypeId) (a b:Option Addr) (w:World):(binOp .neq t (.pointer a) (.pointer b)).run P w=((Op.equal t (.pointer a) (.pointer b)).run P w).andThen fun r w'=>.ok (.bool !r) w':=by
 simp only [binOp,Sem.run_bind,Sem.run_pure]
theorem binOp_eql_bool (P:Program) (t:TypeId) (a b:Bool) (w:World):(binOp .eql t (.bool a) (.bool b)).run P w=((Op.equal t (.bool a) (.bool b)).run P w).andThen fun r w'=>.ok (.bool r) w':=by
 simp only [binOp,Sem.run_bind,Sem.run_pure]
theorem binOp_neq_bool (P:Program) (t:TypeId) (a b:Bool) (w:World):(binOp .neq t (.bool a) (.bool b)).run P w=((Op.equal t (.bool a) (.bool b)).run P w).andThen fun r w'=>.ok (.bool !r) w':=by
 simp only [binOp,Sem.run_bind,Sem.run_pure]
section
variable {P:Program} {ops:Array Oper} {Q:Exit→Act→World→Prop} {n:Nat} {e:Env} {I I':World→Prop} {rest:List Oper}
variable {d t yt:Nat} {p:String} {af:Array Edge} {x y z:Operand} {v v1 v2:Value}
theorem J.qe (hx:ev e x=some v) (hd:Nat.blt d n=true) (h:J P ops Q n rest ((d,v)::e) I):J P ops Q n (⟨some d,.move x,t,p,af,none⟩::rest) e I:=
 J.zf hd (fun T w ht hw=>⟨w,by simp [execOp,ht.eval hx],hw⟩) h
theorem J.assign (hx:ev e x=some v) (hd:Nat.blt d n=true) (h:J P ops Q n rest ((d,v)::e) I):J P ops Q n (⟨some d,.assign x,t,p,af,none⟩::rest) e I:=
 J.zf hd (fun T w ht hw=>⟨w,by simp [execOp,ht.eval hx],hw⟩) h
theorem J.qr (hx:ev e x=some (.bool true)) (hy:ev e y=some v) (hd:Nat.blt d n=true) (h:J P ops Q n rest ((d,v)::e) I):J P ops Q n (⟨some d,.pick x y z,t,p,af,none⟩::rest) e I:=
 J.zf hd (fun T w ht hw=>⟨w,by simp [execOp,ht.eval hx,ht.eval hy,asBool],hw⟩) h
theorem J.qs (hx:ev e x=some (.bool false)) (hz:ev e z=some v) (hd:Nat.blt d n=true) (h:J P ops Q n rest ((d,v)::e) I):J P ops Q n (⟨some d,.pick x y z,t,p,af,none⟩::rest) e I:=
 J.zf hd (fun T w ht hw=>⟨w,by simp [execOp,ht.eval hx,ht.eval hz,asBool],hw⟩) h
theorem J.qj {op:BinOp} {ty:TypeId} (hx:ev e x=some v1) (hy:ev e y=some v2) (hv:binI op v1 v2=some v) (hd:Nat.blt d n=true)
  (h:J P ops Q n rest ((d,v)::e) I):J P ops Q n (⟨some d,.binOp op ty x y yt,t,p,af,none⟩::rest) e I:=by
 refine J.zf hd (fun T w ht hw=>⟨w,?_,hw⟩) h
 simp only [execOp,ht.eval hx,ht.eval hy,Sem.run_bind,Sem.run_pure]
 rw [run_eqGuard w (by unfold binI at hv;split at hv <;> first | trivial | cases hv),Result.andThen_ok,binI_ok hv,Result.andThen_ok]
theorem J.zh {ty el:TypeId} {a:Option Addr} (hu:P.underlying ty=some (.pointer el)) (hx:ev e x=some (.pointer a)) (hy:ev e y=some (.pointer none)) (hd:Nat.blt d n=true)
  (h:J P ops Q n rest ((d,.bool a.isNone)::e) I):J P ops Q n (⟨some d,.binOp .eql ty x y yt,t,p,af,none⟩::rest) e I:=by
 refine J.zf hd (fun T w ht hw=>⟨w,?_,hw⟩) h
 simp only [execOp,ht.eval hx,ht.eval hy,Sem.run_bind,Sem.run_pure]
 rw [run_eqGuard w trivial,Result.andThen_ok]
 rw [binOp_eql_ptr,yS (equalIn_ptrNil hu a w)];rfl
theorem J.neNil {ty el:TypeId} {a:Option Addr} (hu:P.underlying ty=some (.pointer el)) (hx:ev e x=some (.pointer a)) (hy:ev e y=some (.pointer none)) (hd:Nat.blt d n=true)
  (h:J P ops Q n rest ((d,.bool a.isSome)::e) I):J P ops Q n (⟨some d,.binOp .neq ty x y yt,t,p,af,none⟩::rest) e I:=by
 refine J.zf hd (fun T w ht hw=>⟨w,?_,hw⟩) h
 simp only [execOp,ht.eval hx,ht.eval hy,Sem.run_bind,Sem.run_pure]
 rw [run_eqGuard w trivial,Result.andThen_ok]
 rw [binOp_neq_ptr,yS (equalIn_ptrNil hu a w)];cases a <;> rfl
theorem J.yH {op:BinOp} {ty:TypeId} {a b:Bool} (hop:op=.eql∨op=.neq) (hu:P.underlying ty=some .bool) (hx:ev e x=some (.bool a)) (hy:ev e y=some (.bool b)) (hd:Nat.blt d n=true)
  (h:J P ops Q n rest ((d,.bool (match op with | .eql=>a==b | _=>a != b))::e) I):J P ops Q n (⟨some d,.binOp op ty x y yt,t,p,af,none⟩::rest) e I:=by
 refine J.zf hd (fun T w ht hw=>⟨w,?_,hw⟩) h
 simp only [execOp,ht.eval hx,ht.eval hy,Sem.run_bind,Sem.run_pure]
 rw [run_eqGuard w trivial,Result.andThen_ok]
 rcases hop with rfl | rfl
 ·rw [binOp_eql_bool,yS (equalIn_bool hu a b w)];rfl
 ·rw [binOp_neq_bool,yS (equalIn_bool hu a b w)];rfl
theorem J.zC {ty:TypeId} {b:Bool} (hx:ev e x=some (.bool b)) (hd:Nat.blt d n=true)
  (h:J P ops Q n rest ((d,.bool (!b))::e) I):J P ops Q n (⟨some d,.unOp .not ty x,t,p,af,none⟩::rest) e I:=
 J.zf hd (fun T w ht hw=>⟨w,by simp [execOp,ht.eval hx,Op.unary],hw⟩) h
theorem J.extract {vs:Array Value} {i:Nat} (hx:ev e x=some (.tuple vs)) (hi:vs[i]? = some v) (hd:Nat.blt d n=true)
  (h:J P ops Q n rest ((d,v)::e) I):J P ops Q n (⟨some d,.extract x i,t,p,af,none⟩::rest) e I:=
 J.zf hd (fun T w ht hw=>⟨w,by simp [execOp,ht.eval hx,Instr.extract,hi],hw⟩) h
theorem J.qq {a:Addr} (hx:ev e x=some (.pointer (some a))) (hd:Nat.blt d n=true)
  (h:J P ops Q n rest ((d,.pointer (some a))::e) I):J P ops Q n (⟨some d,.nilCheck x,t,p,af,none⟩::rest) e I:=
 J.zf hd (fun T w ht hw=>⟨w,by simp [execOp,ht.eval hx],hw⟩) h
theorem J.qF {s ty:TypeId} {ds:TypeDesc} {k k':IntKind} {a:Int} (hs:P.underlying s=some ds) (hu:P.underlying ty=some (.int k)) (hx:ev e x=some (.int k' a)) (hd:Nat.blt d n=true)
  (h:J P ops Q n rest ((d,.int k (k.wrap a))::e) I):J P ops Q n (⟨some d,.convert s ty x,t,p,af,none⟩::rest) e I:=
 J.zf hd (fun T w ht hw=>⟨w,by simp [execOp,ht.eval hx,convert,qM hs,qM hu,Conv.intToInt],hw⟩) h
theorem J.qK {ty el:TypeId} {a:Option Addr} {k c:Nat} {ats:Array TypeId} (ha:ats[0]? = some ty) (hu:P.underlying ty=some (.slice el)) (hx:ev e x=some (.slice a k c)) (hd:Nat.blt d n=true)
  (h:J P ops Q n rest ((d,.int .i64 k)::e) I):J P ops Q n (⟨some d,.call ⟨.builtin .len,#[x],ats⟩,t,p,af,none⟩::rest) e I:=
 J.zf hd (fun T w ht hw=>⟨w,by simp [execOp,resolve,invoke,builtin,Builtin.len_,ht.eval hx,qM hu,ha,goInt],hw⟩) h
theorem J.max2 {k:IntKind} {a b:Int} {ats:Array TypeId} (hx:ev e x=some (.int k a)) (hy:ev e y=some (.int k b)) (hd:Nat.blt d n=true)
  (h:J P ops Q n rest ((d,.int k (max a b))::e) I):J P ops Q n (⟨some d,.call ⟨.builtin .max,#[x,y],ats⟩,t,p,af,none⟩::rest) e I:=
 J.zf hd (fun T w ht hw=>⟨w,by
  have:(if b>a then b else a)=max a b:=by split <;> omega
  simp [execOp,resolve,invoke,builtin,Builtin.max_,Builtin.max2,ht.eval hx,ht.eval hy,this],hw⟩) h
theorem J.min2 {k:IntKind} {a b:Int} {ats:Array TypeId} (hx:ev e x=some (.int k a)) (hy:ev e y=some (.int k b)) (hd:Nat.blt d n=true)
  (h:J P ops Q n rest ((d,.int k (min a b))::e) I):J P ops Q n (⟨some d,.call ⟨.builtin .min,#[x,y],ats⟩,t,p,af,none⟩::rest) e I:=
 J.zf hd (fun T w ht hw=>⟨w,by
  have:(if b<a then b else a)=min a b:=by split <;> omega
  simp [execOp,resolve,invoke,builtin,Builtin.min_,Builtin.min2,ht.eval hx,ht.eval hy,this],hw⟩) h
theorem J.qi {s f off b o:Nat} (hf:fieldT P s f=some off) (hx:ev e x=some (.pointer (some ⟨b,o,none⟩))) (hd:Nat.blt d n=true)
  (h:J P ops Q n rest ((d,.pointer (some ⟨b,o+off,none⟩))::e) I):J P ops Q n (⟨some d,.fieldAddr s x f,t,p,af,none⟩::rest) e I:=by
 refine J.zf hd (fun T w ht hw=>⟨w,?_,hw⟩) h
 unfold fieldT at hf
 split at hf
 ·rename_i fs hu
  split at hf
  ·rename_i fd hfd
   split at hf
   ·rename_i k hk
    simp only [Option.some.injEq] at hf
    subst hf
    simp [execOp,ht.eval hx,Instr.fieldAt,qM hu,hfd,Instr.sureAddr,fieldPlace,run_sizeOf hk,zJ]
   ·cases hf
  ·cases hf
 ·cases hf
theorem J.qu {ty el:TypeId} {sz b o k c:Nat} {i:Int} {ik:IntKind} (he:elemT P ty=some el) (hs:sizeT P el=some sz) (hx:ev e x=some (.slice (some ⟨b,o,none⟩) k c)) (hy:ev e y=some (.int ik i))
  (h0:0≤i) (h1:i<k) (hd:Nat.blt d n=true)
  (h:J P ops Q n rest ((d,.pointer (some ⟨b,o+i.toNat*sz,none⟩))::e) I):J P ops Q n (⟨some d,.indexAddr ty x y,t,p,af,none⟩::rest) e I:=by
 refine J.zf hd (fun T w ht hw=>⟨w,?_,hw⟩) h
 unfold elemT at he
 split at he
 ·rename_i e' hu
  simp only [Option.some.injEq] at he
  subst he
  simp [execOp,ht.eval hx,ht.eval hy,Instr.indexAt,asIntOf,qM hu,run_sizeOf hs,h0,h1,zJ]
 ·cases he
theorem J.zL {ty el:TypeId} {len sz b o:Nat} {i:Int} {ik:IntKind} (he:arrT P ty=some (len,el)) (hs:sizeT P el=some sz) (hx:ev e x=some (.pointer (some ⟨b,o,none⟩))) (hy:ev e y=some (.int ik i))
  (h0:0≤i) (h1:i<len) (hd:Nat.blt d n=true)
  (h:J P ops Q n rest ((d,.pointer (some ⟨b,o+i.toNat*sz,none⟩))::e) I):J P ops Q n (⟨some d,.indexAddr ty x y,t,p,af,none⟩::rest) e I:=by
 refine J.zf hd (fun T w ht hw=>⟨w,?_,hw⟩) h
 unfold arrT at he
 split at he
 ·rename_i l' e' hu
  simp only [Option.some.injEq,Prod.mk.injEq] at he
  obtain ⟨rfl,rfl⟩:=he
  simp [execOp,ht.eval hx,ht.eval hy,Instr.indexAt,asIntOf,qM hu,run_sizeOf hs,h0,h1,zJ,Instr.sureAddr]
 ·cases he
end
end Go.J
namespace Go.J
open Go.RowKit
set_option linter.unusedVariables false
set_option linter.unusedSimpArgs false
structure Bel (w w':World):Prop extends Below w.heap.size w w' where
 drawn:w.drawn≤w'.drawn
theorem Bel.refl (w:World):Bel w w:=⟨Below.refl _ w,Nat.le_refl _⟩
theorem Bel.alloc {w w':World} (h:Bel w w') (o:Obj):Bel w (w'.alloc o):=⟨h.toBelow.alloc h.size o,h.drawn⟩
theorem Bel.drew {w w':World} (h:Bel w w'):Bel w w'.drew:=⟨h.toBelow.drew,Nat.le_trans h.drawn (Nat.le_succ _)⟩
theorem Bel.trans {a b c:World} (h:Bel a b) (k:Bel b c):Bel a c:=
 ⟨⟨k.os.trans h.os,k.tape.trans h.tape,k.output.trans h.output,Nat.le_trans h.size k.size,fun i hi=>(k.block i (Nat.lt_of_lt_of_le hi h.size)).trans (h.block i hi)⟩,Nat.le_trans h.drawn k.drawn⟩
structure St (w0:World) (S:List Nat) (l:List (Nat × Obj)) (w:World):Prop where
 os:w.os=w0.os
 tape:w.tape=w0.tape
 output:w.output=w0.output
 size:w0.heap.size≤w.heap.size
 drawn:w0.drawn≤w.drawn
 keep:∀b,b<w0.heap.size→b ∉ S→w.heap[b]? = w0.heap[b]?
 own:∀p,p∈l→w.heap[p.1]? = some p.2
 apart:∀p,p∈l→p.1∈S∨w0.heap.size≤p.1
 dist:l.Pairwise (fun p q=>p.1≠q.1)
theorem zj {w:World} {b:Nat} {o:Obj} (h:w.heap[b]? = some o):b<w.heap.size:=(Array.getElem?_eq_some_iff.1 h).1
theorem St.start (w0:World):St w0 [] [] w0:=
 ⟨rfl,rfl,rfl,Nat.le_refl _,Nat.le_refl _,fun _ _ _=>rfl,(fun _ h=>by cases h),(fun _ h=>by cases h),.nil⟩
theorem St.startS {w0:World} {l:List (Nat × Obj)} (hl:∀p,p∈l→w0.heap[p.1]? = some p.2) (hd:l.Pairwise (fun p q=>p.1≠q.1)):St w0 (l.map (·.1)) l w0:=
 ⟨rfl,rfl,rfl,Nat.le_refl _,Nat.le_refl _,fun _ _ _=>rfl,hl,fun p h=>.inl (List.mem_map.2 ⟨p,h,rfl⟩),hd⟩
theorem St.below {w0 w:World} {l:List (Nat × Obj)} (h:St w0 [] l w):Bel w0 w:=
 ⟨⟨h.os,h.tape,h.output,h.size,fun k hk=>h.keep k hk (by simp)⟩,h.drawn⟩
theorem St.step {w0 w w':World} {S:List Nat} {l:List (Nat × Obj)} (h:St w0 S l w) (hb:Bel w w'):St w0 S l w':=
  ⟨hb.os.trans h.os,hb.tape.trans h.tape,hb.output.trans h.output,Nat.le_trans h.size hb.size,Nat.le_trans h.drawn hb.drawn,
   fun b hb1 hb2=>(hb.block b (Nat.lt_of_lt_of_le hb1 h.size)).trans (h.keep b hb1 hb2),
   fun p hp=>(hb.block p.1 (zj (h.own p hp))).trans (h.own p hp),h.apart,h.dist⟩
theorem St.new {w0 w w':World} {S:List Nat} {l:List (Nat × Obj)} {b:Nat} {o:Obj} (h:St w0 S l w) (hb:Bel w w') (h1:w.heap.size≤b) (h2:w'.heap[b]? = some o):St w0 S ((b,o)::l) w':=by
 have h':=h.step hb
 refine ⟨h'.os,h'.tape,h'.output,h'.size,h'.drawn,h'.keep,fun p hp=>?_,fun p hp=>?_,?_⟩
 ·cases hp with
  | head=>exact h2
  | tail _ hp=>exact h'.own p hp
 ·cases hp with
  | head=>exact .inr (Nat.le_trans h.size h1)
  | tail _ hp=>exact h.apart p hp
 ·refine List.Pairwise.cons (fun q hq=>?_) h.dist
  have:=zj (h.own q hq)
  show b≠q.1
  omega
theorem St.drop {w0 w:World} {S:List Nat} {l l':List (Nat × Obj)} (h:St w0 S l w) (hs:l'.Sublist l):St w0 S l' w:=
 ⟨h.os,h.tape,h.output,h.size,h.drawn,h.keep,fun p hp=>h.own p (hs.subset hp),fun p hp=>h.apart p (hs.subset hp),h.dist.sublist hs⟩
inductive Up:List (Nat × Obj)→Nat→Obj→Obj→List (Nat × Obj)→Prop
 | here {l:List (Nat × Obj)} {b:Nat} {o o':Obj}:Up ((b,o)::l) b o o' ((b,o')::l)
 | there {l l':List (Nat × Obj)} {b:Nat} {o o':Obj} {p:Nat × Obj} (h:Up l b o o' l'):Up (p::l) b o o' (p::l')
theorem Up.mem {l l':List (Nat × Obj)} {b:Nat} {o o':Obj} (h:Up l b o o' l'):(b,o)∈l:=by
 induction h with
 | here=>exact .head _
 | there _ ih=>exact .tail _ ih
theorem Up.keys {l l':List (Nat × Obj)} {b:Nat} {o o':Obj} (h:Up l b o o' l'):l'.map (·.1)=l.map (·.1):=by
 induction h with
 | here=>rfl
 | there _ ih=>simp [ih]
theorem Up.mem' {l l' : List (Nat × Obj)} {b : Nat} {o o' : Obj} (h : Up l b o o' l') (hd : l.Pairwise (fun p q => p.1 ≠ q.1)) : ∀ p, p ∈ l' → p = (b, o') ∨ (p ∈ l ∧ p.1 ≠ b) := by
  induction h with
  | here =>
    intro p hp
    cases hp with
    | head => exact .inl rfl
    | tail _ hp => cases hd with | cons h1 _ => exact .inr ⟨.tail _ hp, fun e => h1 p hp e.symm⟩
  | there h ih =>
    intro p hp
    cases hd with
    | cons h1 h2 =>
      cases hp with
      | head => exact .inr ⟨.head _, h1 _ h.mem⟩
      | tail _ hp => rcases ih h2 p hp with h3 | ⟨h3, h4⟩
                     · exact .inl h3
                     · exact .inr ⟨.tail _ h3, h4⟩
theorem pairwise_keys {l:List (Nat × Obj)}:l.Pairwise (fun p q=>p.1≠q.1)↔(l.map (·.1)).Pairwise (·≠·):=by
 rw [List.pairwise_map]
theorem St.set {w0 w w':World} {S:List Nat} {l l':List (Nat × Obj)} {b:Nat} {o o':Obj} (h:St w0 S l w) (hu:Up l b o o' l')
  (hos:w'.os=w.os) (ht:w'.tape=w.tape) (hout:w'.output=w.output) (hsz:w.heap.size≤w'.heap.size) (hdr:w'.drawn=w.drawn)
  (hb:w'.heap[b]? = some o') (hne:∀k,k<w.heap.size→k≠b→w'.heap[k]? = w.heap[k]?):St w0 S l' w':=by
 refine ⟨hos.trans h.os,ht.trans h.tape,hout.trans h.output,Nat.le_trans h.size hsz,(by rw [hdr];exact h.drawn),fun k hk1 hk2=>?_,fun p hp=>?_,fun p hp=>?_,?_⟩
 ·rw [hne k (Nat.lt_of_lt_of_le hk1 h.size) ?_,h.keep k hk1 hk2]
  intro e
  subst e
  rcases h.apart _ hu.mem with h1 | h1
  ·exact hk2 h1
  ·have h1:w0.heap.size≤k:=h1
   omega
 ·rcases hu.mem' h.dist p hp with rfl | ⟨h1,h2⟩
  ·exact hb
  ·rw [hne p.1 (zj (h.own p h1)) h2];exact h.own p h1
 ·rcases hu.mem' h.dist p hp with rfl | ⟨h1,_⟩
  ·exact h.apart (b,o) hu.mem
  ·exact h.apart p h1
 ·rw [pairwise_keys,hu.keys,← pairwise_keys];exact h.dist
abbrev cb (cs:List Value) (t:TypeId):Obj:=.cells cs.toArray t (0,0)
theorem qB {w:World} {b o:Nat} {cs:List Value} {t:TypeId} {fr:Nat × Nat} (h:w.heap[b]? = some (.cells cs.toArray t fr)):w.cell? ⟨b,o,none⟩=cs[o]?:=by
 simp [World.cell?,h]
theorem frozen_of {w:World} {b o:Nat} {cs:List Value} {t:TypeId} (h:w.heap[b]? = some (cb cs t)):w.frozen? ⟨b,o,none⟩=false:=by
 simp [World.frozen?,h]
theorem run_loadCellsFrom {P:Program} {w:World} {b o:Nat}:∀(k i:Nat) (acc:Array Value) (vs:List Value),vs.length=k→(∀j,j<k→w.cell? ⟨b,o+(i+j),none⟩=vs[j]?)→
  (loadCellsFrom ⟨b,o,none⟩ i k acc).run P w=.ok (acc++vs.toArray) w:=by
 intro k
 induction k with
 | zero=>intro i acc vs hl _;simp [loadCellsFrom,List.length_eq_zero_iff.1 hl]
 | succ k ih=>
  intro i acc vs hl hc
  match vs,hl with
  | v::vs,hl=>
   have h0:=hc 0 (by omega)
   simp only [Nat.add_zero,List.getElem?_cons_zero] at h0
   simp only [loadCellsFrom,Sem.run_bind,zJ,run_load,h0,Result.andThen_ok]
   rw [ih (i+1) (acc.push v) vs (by simpa using hl) (fun j hj=>by
    have:=hc (j+1) (by omega)
    rw [show o+(i+1+j)=o+(i+(j+1)) by omega,this];simp)]
   simp
def Cells (w:World) (b o:Nat) (vs:List Value):Prop:=∀j,j<vs.length→w.cell? ⟨b,o+j,none⟩=vs[j]?
theorem Cells.of_block {w:World} {b o:Nat} {cs vs:List Value} {t:TypeId} {fr:Nat × Nat} (h:w.heap[b]? = some (.cells cs.toArray t fr)) (hv:(cs.drop o).take vs.length=vs):Cells w b o vs:=by
 intro j hj
 rw [qB h]
 have:vs[j]? = ((cs.drop o).take vs.length)[j]?:=by rw [hv]
 rw [this,List.getElem?_take_of_lt hj,List.getElem?_drop]
theorem yz {P:Program} {w:World} {t k b o:Nat} {vs:List Value} (ha:aggT P t=some true) (hs:sizeT P t=some k) (hl:vs.length=k) (hc:Cells w b o vs) :
  (loadVar t ⟨b,o,none⟩).run P w=.ok (.agg vs.toArray) w:=by
 simp only [loadVar,Sem.run_bind,run_isAgg ha,Result.andThen_ok,if_true,run_sizeOf hs,loadCells]
 rw [run_loadCellsFrom k 0 #[] vs hl (fun j hj=>by rw [Nat.zero_add];exact hc j (by omega))]
 simp
theorem run_loadVar_one {P:Program} {w:World} {t:TypeId} {a:Addr} {v:Value} (ha:aggT P t=some false) (hc:w.cell? a=some v):(loadVar t a).run P w=.ok v w:=by
 simp [loadVar,run_isAgg ha,run_load,hc]
def setMany (cs:List Value) (o:Nat):List Value→List Value
 | []=>cs
 | v::vs=>setMany (cs.set o v) (o+1) vs
@[simp] theorem setMany_length (vs : List Value) : ∀ (cs : List Value) (o : Nat), (setMany cs o vs).length = cs.length := by
 induction vs with
 | nil => intro _ _; rfl
 | cons v vs ih => intro cs o; simp [setMany, ih]
theorem setMany_get (vs:List Value):∀(cs:List Value) (o i:Nat),o+vs.length≤cs.length→(setMany cs o vs)[i]? = if i<o then cs[i]? else if i<o+vs.length then vs[i - o]? else cs[i]?:=by
 induction vs with
 | nil=>intro cs o i _;simp only [setMany,List.length_nil,Nat.add_zero];split <;> rfl
 | cons v vs ih=>
  intro cs o i h
  simp only [List.length_cons] at h
  rw [setMany,ih _ _ _ (by simp;omega),List.getElem?_set]
  simp only [List.length_cons]
  by_cases h1:i<o
  ·rw [if_pos (by omega),if_neg (by omega),if_pos h1]
  ·by_cases h2:o=i
   ·subst h2;rw [if_pos (by omega),if_pos rfl,if_neg h1,if_pos (by omega),if_pos (by omega)];simp
   ·rw [if_neg (by omega),if_neg h2,if_neg h1]
    by_cases h3:i<o+1+vs.length
    ·rw [if_pos h3,if_pos (by omega),show i - o=(i - (o+1))+1 by omega];simp
    ·rw [if_neg h3,if_neg (by omega)]
theorem yr (vs:List Value) (cs:List Value) (o:Nat) (h:o+vs.length≤cs.length):setMany cs o vs=cs.take o++vs++cs.drop (o+vs.length):=by
 apply List.ext_getElem?
 intro i
 rw [setMany_get vs cs o i h]
 by_cases h1:i<o
 ·rw [if_pos h1,List.append_assoc,List.getElem?_append_left (by simp;omega),List.getElem?_take_of_lt h1]
 ·rw [if_neg h1,List.append_assoc,List.getElem?_append_right (by simp;omega)]
  have m:(cs.take o).length=o:=by simp;omega
  rw [m]
  by_cases h3:i<o+vs.length
  ·rw [if_pos h3,List.getElem?_append_left (by omega)]
  ·rw [if_neg h3,List.getElem?_append_right (by omega),List.getElem?_drop]
   congr 1;omega
theorem setCell_block {w:World} {b o:Nat} {cs:List Value} {t:TypeId} (v:Value) (h:w.heap[b]? = some (cb cs t)):(w.setCell ⟨b,o,none⟩ v).heap[b]? = some (cb (cs.set o v) t):=by
 simp [World.setCell,Array.getElem?_modify,h]
theorem setCell_other {w:World} {a:Addr} {k:Nat} (v:Value) (h:k≠a.block):(w.setCell a v).heap[k]? = w.heap[k]?:=by
 simp only [World.setCell,Array.getElem?_modify]
 rw [if_neg (fun e=>h e.symm)]
structure Wrote (w w':World) (b:Nat) (o':Obj):Prop where
 os:w'.os=w.os
 tape:w'.tape=w.tape
 output:w'.output=w.output
 size:w'.heap.size=w.heap.size
 drawn:w'.drawn=w.drawn
 at_:w'.heap[b]? = some o'
 other:∀k,k≠b→w'.heap[k]? = w.heap[k]?
theorem yI {P:Program} {b:Nat} {t:TypeId} (vs:List Value):∀(w:World) (cs:List Value) (o i:Nat),w.heap[b]? = some (cb cs t)→o+i+vs.length≤cs.length→(∀v,v∈vs→v.oneCell'=true)→
  ∃w',(storeCells ⟨b,o,none⟩ vs i).run P w=.ok () w'∧Wrote w w' b (cb (setMany cs (o+i) vs) t):=by
 induction vs with
 | nil=>intro w cs o i h _ _;exact ⟨w,rfl,rfl,rfl,rfl,rfl,rfl,h,fun _ _=>rfl⟩
 | cons v vs ih=>
  intro w cs o i h hl hv
  simp only [List.length_cons] at hl
  have hc:w.cell? ⟨b,o+i,none⟩=some (cs[o+i]'(by omega)):=by rw [qB h,List.getElem?_eq_getElem]
  obtain ⟨w',hr,hw⟩:=ih (w.setCell ⟨b,o+i,none⟩ v) (cs.set (o+i) v) o (i+1) (setCell_block v h) (by simp;omega) (fun u hu=>hv u (.tail _ hu))
  refine ⟨w',?_,hw.os,hw.tape,hw.output,(by rw [hw.size];simp),(by rw [hw.drawn];rfl),hw.at_,fun k hk=>(hw.other k hk).trans (setCell_other v hk)⟩
  simp only [storeCells,Sem.run_bind,zJ,run_store P w _ v .plain (hv v (.head _)),hc,frozen_of h]
  simpa using hr
def ones (vs:List Value):Bool:=vs.all (·.oneCell')
theorem run_storeVar {P:Program} {w:World} {b o t k:Nat} {cs vs:List Value} {tb:TypeId} {v:Value} (hs:sizeT P t=some k) (hv:v.cells=vs.toArray) (hk:vs.length=k) (h1:∀v,v∈vs→v.oneCell'=true)
  (hb:w.heap[b]? = some (cb cs tb)) (hl:o+k≤cs.length) :
  ∃w',(storeVar t ⟨b,o,none⟩ v).run P w=.ok () w'∧Wrote w w' b (cb (setMany cs o vs) tb):=by
 obtain ⟨w',hr,hw⟩:=yI (P:=P) vs w cs o 0 hb (by omega) h1
 refine ⟨w',?_,by simpa using hw⟩
 simp only [storeVar,Sem.run_bind,run_sizeOf hs,Result.andThen_ok,hv]
 simp [hk,hr]
theorem St.wrote {w0 w w':World} {S:List Nat} {l l':List (Nat × Obj)} {b:Nat} {o o':Obj} (h:St w0 S l w) (hu:Up l b o o' l') (hw:Wrote w w' b o'):St w0 S l' w':=
 h.set hu hw.os hw.tape hw.output (Nat.le_of_eq hw.size.symm) hw.drawn hw.at_ (fun k _ hk=>hw.other k hk)
theorem zU (w:World) (o:Obj):Bel w (w.alloc o):=(Bel.refl w).alloc o
theorem yu (w:World) (o:Obj):(w.alloc o).heap[w.heap.size]? = some o:=by
 show (w.heap.push o)[w.heap.size]? = some o
 simp
section
variable {P:Program} {ops:Array Oper} {Q:Exit→Act→World→Prop} {n:Nat} {e:Env} {I I':World→Prop} {rest:List Oper}
variable {d t:Nat} {p:String} {af:Array Edge} {x y z:Operand} {v v1 v2:Value} {w0:World} {S:List Nat} {l l':List (Nat × Obj)}
theorem J.qw {ty:TypeId} {a:Addr} (ha:aggT P ty=some false) (hx:ev e x=some (.pointer (some a))) (hc:∀w,I w→w.cell? a=some v) (hd:Nat.blt d n=true)
  (h:J P ops Q n rest ((d,v)::e) I):J P ops Q n (⟨some d,.load ty x,t,p,af,none⟩::rest) e I:=
 J.zf hd (fun T w ht hw=>⟨w,by simp [execOp,ht.eval hx,Instr.loadAt,Instr.sureAddr,run_loadVar_one ha (hc w hw)],hw⟩) h
theorem J.qC {ty k b o:Nat} {vs:List Value} (ha:aggT P ty=some true) (hs:sizeT P ty=some k) (hx:ev e x=some (.pointer (some ⟨b,o,none⟩))) (hl:vs.length=k) (hc:∀w,I w→Cells w b o vs) (hd:Nat.blt d n=true)
  (h:J P ops Q n rest ((d,.agg vs.toArray)::e) I):J P ops Q n (⟨some d,.load ty x,t,p,af,none⟩::rest) e I:=
 J.zf hd (fun T w ht hw=>⟨w,by simp [execOp,ht.eval hx,Instr.loadAt,Instr.sureAddr,yz ha hs hl (hc w hw)],hw⟩) h
theorem J.qQ {ty:TypeId} {b o:Nat} {cs:List Value} {tb:TypeId} {fr:Nat × Nat} (ha:aggT P ty=some false) (hx:ev e x=some (.pointer (some ⟨b,o,none⟩))) (hm:(b,Obj.cells cs.toArray tb fr)∈l) (hv:cs[o]? = some v) (hd:Nat.blt d n=true)
  (h:J P ops Q n rest ((d,v)::e) (St w0 S l)):J P ops Q n (⟨some d,.load ty x,t,p,af,none⟩::rest) e (St w0 S l):=
 J.qw ha hx (fun w hw=>by rw [qB (hw.own _ hm)];exact hv) hd h
theorem J.zB {ty k b o:Nat} {cs vs:List Value} {tb:TypeId} {fr:Nat × Nat} (ha:aggT P ty=some true) (hs:sizeT P ty=some k) (hx:ev e x=some (.pointer (some ⟨b,o,none⟩))) (hm:(b,Obj.cells cs.toArray tb fr)∈l)
  (hv:(cs.drop o).take k=vs) (hl:vs.length=k) (hd:Nat.blt d n=true)
  (h:J P ops Q n rest ((d,.agg vs.toArray)::e) (St w0 S l)):J P ops Q n (⟨some d,.load ty x,t,p,af,none⟩::rest) e (St w0 S l):=
 J.qC ha hs hx hl (fun w hw=>Cells.of_block (hw.own _ hm) (by rw [hl];exact hv)) hd h
theorem J.zw {ty:TypeId} {b o:Nat} (ha:aggT P ty=some false) (hx:ev e x=some (.pointer (some ⟨b,o,none⟩))) (hc:w0.cell? ⟨b,o,none⟩=some v) (hS:b ∉ S) (hd:Nat.blt d n=true)
  (h:J P ops Q n rest ((d,v)::e) (St w0 S l)):J P ops Q n (⟨some d,.load ty x,t,p,af,none⟩::rest) e (St w0 S l):=
 J.qw ha hx (fun w hw=>by rw [World.cell?_of_block (w:=w0) (hw.keep b (World.block_lt_of_cell? _ _ hc) hS)];exact hc) hd h
theorem J.qU {ty k b o:Nat} {cs vs:List Value} {tb:TypeId} (hs:sizeT P ty=some k) (hx:ev e x=some (.pointer (some ⟨b,o,none⟩))) (hy:ev e y=some v) (hv:v.cells=vs.toArray) (hk:vs.length=k) (h1:∀v,v∈vs→v.oneCell'=true)
  (hu:Up l b (cb cs tb) (cb (setMany cs o vs) tb) l') (hl:o+k≤cs.length)
  (h:J P ops Q n rest e (St w0 S l')):J P ops Q n (⟨none,.store ty x y,t,p,af,none⟩::rest) e (St w0 S l):=by
 refine J.skipN (fun T w ht hw=>?_) h
 obtain ⟨w',hr,hw'⟩:=run_storeVar (P:=P) hs hv hk h1 (hw.own _ hu.mem) hl
 exact ⟨w',by simp [execOp,ht.eval hx,ht.eval hy,Instr.storeAt,Instr.sureAddr,hr],hw.wrote hu hw'⟩
theorem J.box {ty:TypeId} {vs:List Value} (hx:ev e x=some v) (hv:v.cells=vs.toArray) (hd:Nat.blt d n=true)
  (h:∀b,J P ops Q n rest ((d,.pointer (some ⟨b,0,none⟩))::e) (St w0 S ((b,cb vs ty)::l))):J P ops Q n (⟨some d,.box ty x,t,p,af,none⟩::rest) e (St w0 S l):=by
 refine J.yq (V:=fun b=>.pointer (some ⟨b,0,none⟩)) hd (fun T w ht hw=>⟨w.heap.size,w.alloc (cb vs ty),?_,?_⟩) h
 ·simp [execOp,ht.eval hx,Instr.box,newVar,newRow,run_newObj,hv,cb]
 ·exact hw.new (zU w _) (Nat.le_refl _) (yu w _)
theorem J.alloc {ty:TypeId} {vs:List Value} (hz:zeroT P ty=some v) (hv:v.cells=vs.toArray) (hd:Nat.blt d n=true)
  (h:∀b,J P ops Q n rest ((d,.pointer (some ⟨b,0,none⟩))::e) (St w0 S ((b,cb vs ty)::l))):J P ops Q n (⟨some d,.alloc ty,t,p,af,none⟩::rest) e (St w0 S l):=by
 refine J.yq (V:=fun b=>.pointer (some ⟨b,0,none⟩)) hd (fun T w ht hw=>⟨w.heap.size,w.alloc (cb vs ty),?_,?_⟩) h
 ·simp [execOp,Instr.alloc,newVar,newRow,run_newObj,hv,cb,zz hz]
 ·exact hw.new (zU w _) (Nat.le_refl _) (yu w _)
def evs (e:Env):List Operand→Option (List Value)
 | []=>some []
 | x::xs=>match ev e x with
  | some v=>match evs e xs with
   | some vs=>some (v::vs)
   | none=>none
  | none=>none
theorem Rep.evals {n:Nat} {T:Array Value} {e:Env} (h:Rep n T e):∀ {xs:List Operand} {vs:List Value},evs e xs=some vs→xs.map (act T).eval=vs:=by
 intro xs
 induction xs with
 | nil=>intro vs hv;simp [evs] at hv;simp [hv]
 | cons x xs ih=>
  intro vs hv
  simp only [evs] at hv
  split at hv
  ·rename_i v hx
   split at hv
   ·rename_i us hus
    simp only [Option.some.injEq] at hv
    subst hv
    simp [h.eval hx,ih hus]
   ·cases hv
  ·cases hv
def bodyT (P:Program) (f:FuncId):Bool:=match P.funcs[f]? with
 | some fn => fn.body.isSome && !(fn.name == "runtime.NumGoroutine")
 | none=>false
theorem run_callFunc {P:Program} {f:FuncId} {args:Array Value} (hb:bodyT P f=true) (w:World):(callFunc f args).run P w=.ok (.enter f args) w:=by
 unfold bodyT at hb
 split at hb
 ·rename_i fn hf
  simp only [Bool.and_eq_true,Bool.not_eq_true'] at hb
  obtain ⟨hb1,hb2⟩:=hb
  have h2:fn.body.isNone=false:=by cases hh:fn.body <;> simp_all
  simp only [callFunc,Sem.run_bind,run_program,Result.andThen_ok,hf,hb2,h2,Bool.false_eq_true,if_false,Sem.run_pure]
 ·cases hb
theorem J.call {f:FuncId} {xs:List Operand} {ats:Array TypeId} {vs:List Value} {R:Value→World→Prop} (hb:bodyT P f=true) (hx:evs e xs=some vs) (hd:Nat.blt d n=true)
  (hc:∀w,I w→Calls P f vs.toArray w fun r w'=>∃v,r=.returned v∧R v w')
  (h:∀v,J P ops Q n rest ((d,v)::e) (R v)):J P ops Q n (⟨some d,.call ⟨.value (.func f),xs.toArray,ats⟩,t,p,af,none⟩::rest) e I:=by
 intro T w ht hw
 refine wpList_plain rfl fun K hK=>?_
 have hr:(execOp (act T).eval ⟨some d,.call ⟨.value (.func f),xs.toArray,ats⟩,t,p,af,none⟩).run P w=.ok (.enter f vs.toArray) w:=by
  have:=ht.evals hx
  simp [execOp,resolve,Act.eval,Deferred.ofValue,invoke,this,run_callFunc hb]
 simp only [Oper.wp,hr,Oper.upon]
 refine (hc w hw).mono fun r w' ⟨v,hv,hR⟩=>?_
 subst hv
 exact hK _ _ (h v _ w' (ht.put hd v) hR)
end
theorem qD {P:Program} {f:FuncId} {fn:Func} {c:Code} {args:List Value} {w0 w:World} {S:List Nat} {l:List (Nat × Obj)} {R:Ending→World→Prop} {e:Env}
  (hf:P.funcs[f]? = some fn) (hb:fn.body=some c) (hn:Nat.ble args.length fn.ntmps=true) (he:Cov ((List.range args.length).zip args) e) (hst:St w0 S l w)
  (h:JC P (bodyPost P fn R) fn.ntmps c e (St w0 S l)):Calls P f args.toArray w R:=by
 refine calls_of_wp hf hb ?_
 have hn':args.length≤fn.ntmps:=Nat.le_of_ble_eq_true hn
 refine h _ w (Rep.cov ⟨by simp;omega,fun t v hv=>?_⟩ he) hst
 have key:∀(l:List Value) (k:Nat),get ((List.range' k l.length).zip l) t=some v→k≤t∧l[t - k]? = some v:=by
  intro l
  induction l with
  | nil=>intro k h;simp [J.get] at h
  | cons u l ih=>
   intro k h
   simp only [List.length_cons,List.range'_succ,List.zip_cons_cons,J.get] at h
   cases hk:Nat.beq k t with
   | true=>
    rw [hk] at h
    have:k=t:=by simpa using hk
    subst this
    simpa using h
   | false=>
    rw [hk] at h
    obtain ⟨h1,h2⟩:=ih (k+1) h
    refine ⟨by omega,?_⟩
    rw [show t - k=(t - (k+1))+1 by omega]
    simpa using h2
 rw [List.range_eq_range'] at hv
 obtain ⟨_,h2⟩:=key args 0 hv
 simp only [Nat.sub_zero] at h2
 have hlt:t<args.length:=(List.getElem?_eq_some_iff.1 h2).1
 rw [Array.getElem?_append_left (by simpa using hlt)]
 simpa using h2
theorem JX.qL {P:Program} {fn:Func} {R:Ending→World→Prop} {n:Nat} {e:Env} {I:World→Prop} {t:Nat} {v:Value} (hr:fn.results=#[.tmp t]) (hv:get e t=some v) (h:∀w,I w→R (.returned v) w) :
  JX (bodyPost P fn R) n .ret e I:=by
 intro T w ht hw
 refine ⟨rfl,v,?_,h w hw⟩
 rw [results_tmp hr,Array.getD_eq_getD_getElem?,ht.2 t v hv];rfl
theorem JX.zr {P:Program} {fn:Func} {R:Ending→World→Prop} {n:Nat} {e:Env} {I:World→Prop} {t u:Nat} {v v':Value} (hr:fn.results=#[.tmp t,.tmp u]) (hv:get e t=some v) (hv':get e u=some v') (h:∀w,I w→R (.returned (.tuple #[v,v'])) w) :
  JX (bodyPost P fn R) n .ret e I:=by
 intro T w ht hw
 refine ⟨rfl,.tuple #[v,v'],?_,h w hw⟩
 rw [results_tmp2 hr,Array.getD_eq_getD_getElem?,Array.getD_eq_getD_getElem?,ht.2 t v hv,ht.2 u v' hv'];rfl
theorem JX.end0 {P:Program} {fn:Func} {R:Ending→World→Prop} {n:Nat} {e:Env} {I:World→Prop} (hr:fn.results=#[]) (h:∀w,I w→R (.returned (.tuple #[])) w) :
  JX (bodyPost P fn R) n .normal e I:=by
 intro T w ht hw
 exact ⟨rfl,.tuple #[],results_none hr _ _ _,h w hw⟩
end Go.J
namespace Go.J
open Go.RowKit
set_option linter.unusedVariables false
set_option linter.unusedSimpArgs false
def Row (w:World) (v:Value) (k:Nat) (xs:List Value):Prop:=
 ∃a c,v=.slice a k c∧k≤c∧(xs=[]∨∃b o,a=some ⟨b,o,none⟩∧Cells w b o xs)
theorem Cells.blk {w w':World} {b o:Nat} {xs:List Value} (h:Cells w b o xs) (hb:w'.heap[b]? = w.heap[b]?):Cells w' b o xs:=by
 intro j hj
 have:=World.cell?_of_block (w:=w) (a:=⟨b,o+j,none⟩) hb
 rw [this];exact h j hj
theorem Cells.lt {w:World} {b o:Nat} {xs:List Value} (h:Cells w b o xs) (hx:xs≠[]):b<w.heap.size:=by
 match xs,hx with
 | x::xs,_=>
  have:=h 0 (by simp)
  exact World.block_lt_of_cell? w ⟨b,o+0,none⟩ (u:=x) (by simpa using this)
theorem Row.below {w w':World} {v:Value} {k:Nat} {xs:List Value} (h:Row w v k xs) (hb:Bel w w'):Row w' v k xs:=by
 obtain ⟨a,c,hv,hk,h⟩:=h
 refine ⟨a,c,hv,hk,?_⟩
 by_cases hx:xs=[]
 ·exact .inl hx
 ·rcases h with h | ⟨b,o,ha,hc⟩
  ·exact absurd h hx
  ·exact .inr ⟨b,o,ha,hc.blk (hb.block b (hc.lt hx))⟩
theorem Row.cap {w:World} {a:Option Addr} {k c:Nat} {xs:List Value} (h:Row w (.slice a k c) k xs):k≤c:=by
 obtain ⟨_,_,hv,hk,_⟩:=h
 simp only [Value.slice.injEq] at hv
 obtain ⟨_,_,rfl⟩:=hv
 exact hk
def Off (S:List Nat) (v:Value) (xs:List Value):Prop:=xs=[]∨∀b o k c,v=.slice (some ⟨b,o,none⟩) k c→b ∉ S
theorem Row.st {w0 w:World} {S:List Nat} {l:List (Nat × Obj)} {v:Value} {k:Nat} {xs:List Value} (h:Row w0 v k xs) (ho:Off S v xs) (hw:St w0 S l w):Row w v k xs:=by
 obtain ⟨a,c,hv,hk,h⟩:=h
 refine ⟨a,c,hv,hk,?_⟩
 by_cases hx:xs=[]
 ·exact .inl hx
 ·rcases h with h | ⟨b,o,ha,hc⟩
  ·exact absurd h hx
  ·refine .inr ⟨b,o,ha,hc.blk (hw.keep b (hc.lt hx) ?_)⟩
   rcases ho with h | h
   ·exact absurd h hx
   ·exact h b o k c (by rw [hv,ha])
theorem Row.own {w0 w:World} {S:List Nat} {l:List (Nat × Obj)} {b o k c:Nat} {cs xs:List Value} {tb:TypeId} {fr:Nat × Nat} (hw:St w0 S l w) (hm:(b,Obj.cells cs.toArray tb fr)∈l) (hx:(cs.drop o).take xs.length=xs) (hk:k≤c) :
  Row w (.slice (some ⟨b,o,none⟩) k c) k xs:=⟨_,c,rfl,hk,.inr ⟨b,o,rfl,Cells.of_block (hw.own _ hm) hx⟩⟩
def Vec (t sz:Nat) (v:Value) (k:Nat) (xs:List Value) (lp:List (Nat × Obj)):Prop:=
 xs.length=k*sz∧((v=.slice none 0 0∧k=0∧lp=[])∨∃b c sp,v=.slice (some ⟨b,0,none⟩) k c∧lp=[(b,cb (xs++sp) t)]∧(xs++sp).length=c*sz∧k≤c)
theorem Vec.row {w0 w:World} {S:List Nat} {l lp:List (Nat × Obj)} {t sz:Nat} {v:Value} {k:Nat} {xs:List Value} (h:Vec t sz v k xs lp) (hw:St w0 S (lp++l) w):Row w v k xs:=by
 obtain ⟨hl,h⟩:=h
 rcases h with ⟨rfl,rfl,rfl⟩ | ⟨b,c,sp,rfl,rfl,_,hk⟩
 ·exact ⟨none,0,rfl,Nat.le_refl _,.inl (List.eq_nil_of_length_eq_zero (by simpa using hl))⟩
 ·exact Row.own (cs:=xs++sp) (tb:=t) (fr:=(0,0)) hw (.head _) (by simp) hk
theorem Vec.nil (t sz:Nat):Vec t sz (.slice none 0 0) 0 [] []:=⟨by simp,.inl ⟨rfl,rfl,rfl⟩⟩
theorem yJ {P:Program} {w:World} {v:Value} {k sz:Nat} {xs:List Value} (h:Row w v k xs) (hl:xs.length=k*sz):(Builtin.firstCells sz k v).run P w=.ok xs.toArray w:=by
 obtain ⟨a,c,rfl,_,h⟩:=h
 cases a with
 | none=>
  have:xs=[]:=by
   rcases h with h | ⟨b,o,ha,_⟩
   ·exact h
   ·cases ha
  subst this
  simp [Builtin.firstCells]
 | some a=>
  rcases h with h | ⟨b,o,ha,hc⟩
  ·subst h
   simp only [List.length_nil] at hl
   simp [Builtin.firstCells,loadCells,← hl,loadCellsFrom]
  ·simp only [Option.some.injEq] at ha
   subst ha
   simp only [Builtin.firstCells,loadCells]
   rw [run_loadCellsFrom (k*sz) 0 #[] xs hl (fun j hj=>by rw [Nat.zero_add];exact hc j (by omega))]
   simp
theorem zeroCells_size (z:Array Value) (n:Nat):(Builtin.zeroCells z n).size=n*z.size:=by simp [Builtin.zeroCells]
theorem run_append {P : Program} {w0 w : World} {S : List Nat} {l lp : List (Nat × Obj)} {t sz ty tx tr : Nat} {by_ : Nat} {zv : Value} {v x : Value} {k m : Nat} {xs ys : List Value}
    (he : elemT P ty = some t) (hs : sizeT P t = some sz) (hbb : bytesT P t = some by_) (hz : zeroT P t = some zv) (hzc : zv.cells.size = sz) (hx : (∃ e', P.underlying tx = some (.slice e')) ∨ P.underlying tx = some .string)
    (hv : Vec t sz v k xs lp) (hw : St w0 S (lp ++ l) w) (hr : Row w x m ys ∨ ∃ s : ByteArray, x = .string s ∧ s.size = m ∧ sz = 1 ∧ ys = (s.data.toList.map fun b => .int .u8 b.toNat)) (hm : ys.length = m * sz) (hone : ∀ y, y ∈ ys → y.oneCell' = true)
    (hbound : (k + m) * by_ ≤ 140737488355328) (h63 : k + m ≤ 9223372036854775807) :
    ∃ v' w' lp', (Builtin.append_ #[ty, tx] tr #[v, x]).run P w = .ok v' w' ∧ Vec t sz v' (k + m) (xs ++ ys) lp' ∧ St w0 S (lp' ++ l) w' := by
  have hu : P.underlying ty = some (.slice t) := by
    unfold elemT at he
    split at he
    · rename_i e' hu; simp only [Option.some.injEq] at he; rw [hu, he]
    · cases he
  have hinfo : ∃ i, P.info? t = some i ∧ i.bytes = by_ := by
    unfold bytesT at hbb
    cases h : P.info? t with
    | none => rw [h] at hbb; cases hbb
    | some i => rw [h] at hbb; simp at hbb; exact ⟨i, rfl, hbb⟩
  obtain ⟨inf, hi1, hi2⟩ := hinfo
  have hti : ∀ w : World, (typeInfo t).run P w = .ok inf w := fun w => by simp [typeInfo, hi1]
  have hlen : (Builtin.lenOf x).run P w = .ok m w := by
    rcases hr with ⟨a, c, rfl, _⟩ | ⟨s, rfl, hs1, _⟩
    · rfl
    · simp [Builtin.lenOf, hs1]
  have hfirst : (Builtin.firstCells sz m x).run P w = .ok ys.toArray w := by
    rcases hr with hr | ⟨s, rfl, hs1, rfl, hys⟩
    · exact yJ hr hm
    · simp only [Builtin.firstCells, Sem.run_pure]
      congr 1
      subst hs1
      rw [hys]
      have hx : (Array.map (fun b : UInt8 => Value.int IntKind.u8 (b.toNat : Int)) s.data).extract 0 s.size = Array.map (fun b : UInt8 => Value.int IntKind.u8 (b.toNat : Int)) s.data := by
        have hs : s.size = (Array.map (fun b : UInt8 => Value.int IntKind.u8 (b.toNat : Int)) s.data).size := by rw [Array.size_map]; rfl
        rw [hs, Array.extract_size]
      have hy : (s.extract 0 s.size).data.map (fun b : UInt8 => Value.int IntKind.u8 (b.toNat : Int)) = Array.map (fun b : UInt8 => Value.int IntKind.u8 (b.toNat : Int)) s.data := by
        rw [ByteArray.extract_zero_size]
      rw [hy]
      apply Array.ext'
      simp
  obtain ⟨base, c, hvv, hlx, hbase⟩ : ∃ base c, v = .slice base k c ∧ xs.length = k * sz ∧ ((base = none ∧ k = 0 ∧ c = 0 ∧ lp = []) ∨ ∃ b sp, base = some ⟨b, 0, none⟩ ∧ lp = [(b, cb (xs ++ sp) t)] ∧ (xs ++ sp).length = c * sz ∧ k ≤ c) := by
    obtain ⟨hl, h⟩ := hv
    rcases h with ⟨rfl, rfl, rfl⟩ | ⟨b, c, sp, rfl, rfl, h2, hk⟩
    · exact ⟨none, 0, rfl, hl, .inl ⟨rfl, rfl, rfl, rfl⟩⟩
    · exact ⟨_, c, rfl, hl, .inr ⟨b, sp, rfl, rfl, h2, hk⟩⟩
  have hrowv : Row w v k xs := hv.row hw
  subst hvv
  have hti2 : ∀ w : World, (zeroValue t).run P w = .ok zv w := zz hz
  have hsz : ∀ w : World, (sizeOf t).run P w = .ok sz w := run_sizeOf hs
  have hin : k + m ≤ c → (Builtin.append_ #[ty, tx] tr #[.slice base k c, x]).run P w =
        (match base with
          | some a => ((storeCells (a.add (k * sz)) ys).run P w).andThen fun _ w' => Result.ok (Value.slice base (k + m) c) w'
          | none => Result.ok (Value.slice base (k + m) c) w) := by
    intro hc
    rcases hx with ⟨e', hdx⟩ | hdx <;> cases base <;>
      simp [Builtin.append_, qM hu, qM hdx, hsz, hlen, hc, hfirst]
  have hout : ¬ k + m ≤ c → ∀ (old new : Array Value), (Builtin.firstCells sz k (.slice base k c)).run P w.drew = .ok old w.drew → (Builtin.firstCells sz m x).run P w.drew = .ok new w.drew →
      (Builtin.append_ #[ty, tx] tr #[.slice base k c, x]).run P w = .ok (.slice (some ⟨w.heap.size, 0, none⟩) (k + m) (grownCap w (k + m) c t))
        (w.drew.alloc (.cells (old ++ (new ++ Builtin.zeroCells zv.cells (grownCap w (k + m) c t - (k + m)))) t)) := by
    intro hc old new ho hn
    have h63' : ¬ (9223372036854775807 < ((k : Int) + (m : Int))) := by omega
    have hfit : Builtin.nextslicecap (k + m) c * inf.bytes ≤ 281474976710656 := growslice_fits (by omega) (by rw [hi2]; exact hbound)
    have h48' : ¬ (281474976710656 < Builtin.nextslicecap (k + m) c * inf.bytes) := by omega
    rcases hx with ⟨e', hdx⟩ | hdx <;>
      simp [Builtin.append_, qM hu, qM hdx, hsz, hlen, hc, hti, h63', h48', Question.forced, ho, hn, hti2, newRow, grownCap]
  by_cases hc : k + m ≤ c
  · rcases hbase with ⟨rfl, rfl, rfl, rfl⟩ | ⟨b, sp, rfl, rfl, h2, hk⟩
    · obtain rfl : m = 0 := by omega
      have h1 : xs = [] := List.eq_nil_of_length_eq_zero (by simpa using hlx)
      have h3 : ys = [] := List.eq_nil_of_length_eq_zero (by simpa using hm)
      subst h1; subst h3
      exact ⟨_, w, [], hin (by omega), ⟨by simp, .inl ⟨rfl, rfl, rfl⟩⟩, hw⟩
    · have hle : k * sz + ys.length ≤ (xs ++ sp).length := by
        rw [h2, hm, ← Nat.add_mul]; exact Nat.mul_le_mul_right _ hc
      obtain ⟨w', hr', hw'⟩ := yI (P := P) (t := t) ys w (xs ++ sp) (k * sz) 0 (hw.own _ (.head _)) (by omega) hone
      have hset : setMany (xs ++ sp) (k * sz + 0) ys = xs ++ ys ++ sp.drop ys.length := by
        rw [Nat.add_zero, yr _ _ _ hle, ← hlx]
        simp [List.drop_append]
      refine ⟨.slice (some ⟨b, 0, none⟩) (k + m) c, w', [(b, cb (xs ++ ys ++ sp.drop ys.length) t)], ?_, ⟨?_, .inr ⟨b, c, sp.drop ys.length, rfl, rfl, ?_, hc⟩⟩, ?_⟩
      · rw [hin hc]
        simp only [zJ, Nat.zero_add]
        have : (storeCells ⟨b, k * sz, none⟩ ys).run P w = .ok () w' := hr'
        rw [this]; rfl
      · simp [hlx, hm, Nat.add_mul]
      · simp only [List.length_append, List.length_drop] at h2 hle ⊢; omega
      · rw [hset] at hw'
        exact hw.wrote (l' := (b, cb (xs ++ ys ++ sp.drop ys.length) t) :: l) .here hw'
  · have hrowx' : (Builtin.firstCells sz m x).run P w.drew = .ok ys.toArray w.drew := by
      rcases hr with hr | ⟨s, rfl, hs1, rfl, hys⟩
      · exact yJ (w := w.drew) hr hm
      · simp only [Builtin.firstCells, Sem.run_pure] at hfirst ⊢
        simp only [Result.ok.injEq, and_true] at hfirst
        rw [hfirst]
    have hrowv' : (Builtin.firstCells sz k (.slice base k c)).run P w.drew = .ok xs.toArray w.drew := yJ (w := w.drew) hrowv hlx
    have hncl := grownCap_ge w (k + m) c t
    have h1 : St w0 S l w := hw.drop (List.sublist_append_right lp l)
    have hrun := hout hc _ _ hrowv' hrowx'
    generalize grownCap w (k + m) c t = nc at hncl hrun
    have hz2 : (Builtin.zeroCells zv.cells (nc - (k + m))).size = (nc - (k + m)) * sz := by rw [zeroCells_size, hzc]
    have hobj : (Obj.cells (xs.toArray ++ (ys.toArray ++ Builtin.zeroCells zv.cells (nc - (k + m)))) t) = cb (xs ++ ys ++ (Builtin.zeroCells zv.cells (nc - (k + m))).toList) t := by
      simp [cb]
    rw [hobj] at hrun
    refine ⟨_, _, [(w.heap.size, cb (xs ++ ys ++ (Builtin.zeroCells zv.cells (nc - (k + m))).toList) t)], hrun, ⟨by simp [hlx, hm, Nat.add_mul], .inr ⟨_, nc, _, rfl, rfl, ?_, hncl⟩⟩, ?_⟩
    · simp only [List.length_append, Array.length_toList, hz2, hlx, hm]
      rw [← Nat.add_mul, ← Nat.add_mul]; congr 1; omega
    · have h2 : Bel w (w.drew.alloc (cb (xs ++ ys ++ (Builtin.zeroCells zv.cells (nc - (k + m))).toList) t)) := ((Bel.refl w).drew).alloc _
      exact h1.new h2 (Nat.le_refl _) (yu w.drew _)
end Go.J
namespace Go.J
open Go.RowKit
set_option linter.unusedVariables false
set_option linter.unusedSimpArgs false
theorem yk {P:Program} {ty t:TypeId} (he:elemT P ty=some t):P.underlying ty=some (.slice t):=by
 unfold elemT at he
 split at he
 ·rename_i e' hu;simp only [Option.some.injEq] at he;rw [hu,he]
 ·cases he
theorem arr_u {P:Program} {ty t n:Nat} (he:arrT P ty=some (n,t)):P.underlying ty=some (.array n t):=by
 unfold arrT at he
 split at he
 ·rename_i n' e' hu;simp only [Option.some.injEq,Prod.mk.injEq] at he;obtain ⟨rfl,rfl⟩:=he;exact hu
 ·cases he
abbrev u8 (b:UInt8):Value:=.int .u8 (b.toNat:Int)
theorem zk (bs:List UInt8):∀v,v∈bs.map u8→v.oneCell'=true:=by
 intro v hv
 obtain ⟨b,_,rfl⟩:=List.mem_map.1 hv
 rfl
def optI (e:Env):Option Operand→Option (Option Value)
 | none=>some none
 | some x=>match ev e x with
  | some v=>some (some v)
  | none=>none
theorem Rep.optI {n:Nat} {T:Array Value} {e:Env} (h:Rep n T e) {x:Option Operand} {v:Option Value} (hx:optI e x=some v):x.map (act T).eval=v:=by
 cases x with
 | none=>simp only [J.optI,Option.some.injEq] at hx;subst hx;rfl
 | some x=>
  simp only [J.optI] at hx
  split at hx
  ·rename_i u hu;simp only [Option.some.injEq] at hx;subst hx;simp [h.eval hu]
  ·cases hx
theorem qV {n:Int} (h1 : -9223372036854775808≤n) (h2:n<9223372036854775808):IntKind.i64.wrap n=n:=by
 have e1:((2:Int) ^ 64)=18446744073709551616:=by decide
 have e2:((2:Int) ^ (64 - 1))=9223372036854775808:=by decide
 simp only [IntKind.wrap,IntKind.bits,IntKind.signed,Bool.true_and,decide_eq_true_eq,e1,e2]
 split <;> omega
theorem ze {n:Int} (h1:0≤n) (h2:n<18446744073709551616):IntKind.u64.wrap n=n:=by
 have e1:((2:Int) ^ 64)=18446744073709551616:=by decide
 simp only [IntKind.wrap,IntKind.bits,IntKind.signed,Bool.false_and,e1]
 rw [if_neg (by simp)];omega
theorem ye (n:Int):IntKind.u64.wrap n=n%18446744073709551616:=by
 have e1:((2:Int) ^ 64)=18446744073709551616:=by decide
 simp only [IntKind.wrap,IntKind.bits,IntKind.signed,Bool.false_and,e1]
 rw [if_neg (by simp)]
theorem yM (n:Int):IntKind.u8.wrap n=n%256:=by
 have e1:((2:Int) ^ 8)=256:=by decide
 simp only [IntKind.wrap,IntKind.bits,IntKind.signed,Bool.false_and,e1]
 rw [if_neg (by simp)]
def bnd (d:Nat):Option Value→Option Nat
 | none=>some d
 | some (.int _ i)=>if 0≤i then some i.toNat else none
 | _=>none
theorem run_sliceBounds {P:Program} (isS:Bool) {len cap a b:Nat} {lo hi:Option Value} (hl:bnd 0 lo=some a) (hh:bnd len hi=some b) (h1:a≤b) (h2:b≤cap) (w:World) (h3:hi=none→len≤cap) :
  (Instr.sliceBounds isS len cap lo hi none).run P w=.ok (a,b,cap) w:=by
 have e1:∀(x:Value) (y c:Nat) (code:BoundsCode),bnd 0 (some x)=some c→c≤y→(Instr.sliceBound x y code).run P w=.ok c w:=by
  intro x y c code hb hle
  cases x <;> simp only [bnd,reduceCtorEq] at hb
  rename_i k i
  split at hb
  ·rename_i h0
   simp only [Option.some.injEq] at hb
   have:i≤(y:Int):=by omega
   simp [Instr.sliceBound,asIntOf,h0,this,hb]
  ·cases hb
 have hh':∀x,hi=some x→bnd 0 (some x)=some b:=by
  intro x hx;subst hx;cases x <;> exact hh
 have hl':∀x,lo=some x→bnd 0 (some x)=some a:=by
  intro x hx;subst hx;exact hl
 cases hi with
 | none=>
  simp only [bnd,Option.some.injEq] at hh
  subst hh
  cases lo with
  | none=>simp only [bnd,Option.some.injEq] at hl;subst hl;simp [Instr.sliceBounds]
  | some x=>simp [Instr.sliceBounds,e1 x len a .sliceB (hl' x rfl) h1]
 | some y=>
  have hy:=e1 y cap b (if isS then .sliceAcap else .sliceAlen) (hh' y rfl) h2
  cases lo with
  | none=>simp only [bnd,Option.some.injEq] at hl;subst hl;simp [Instr.sliceBounds,hy]
  | some x=>simp [Instr.sliceBounds,hy,e1 x b a .sliceB (hl' x rfl) h1]
section
variable {P:Program} {ops:Array Oper} {Q:Exit→Act→World→Prop} {n:Nat} {e:Env} {I I':World→Prop} {rest:List Oper}
variable {d t:Nat} {p:String} {af:Array Edge} {x y z:Operand} {v v1 v2:Value} {w0:World} {S:List Nat} {l l' lp:List (Nat × Obj)}
theorem J.sliceA {ty el:TypeId} {len sz b o i j:Nat} {lo hi:Option Operand} {vl vh:Option Value} (he:arrT P ty=some (len,el)) (hs:sizeT P el=some sz) (hx:ev e x=some (.pointer (some ⟨b,o,none⟩)))
  (hlo:optI e lo=some vl) (hhi:optI e hi=some vh) (h1:bnd 0 vl=some i) (h2:bnd len vh=some j) (h3:i≤j) (h4:j≤len) (hd:Nat.blt d n=true)
  (h:J P ops Q n rest ((d,.slice (some ⟨b,if len=i then o else o+i*sz,none⟩) (j - i) (len - i))::e) I):J P ops Q n (⟨some d,.slice ty x lo hi none,t,p,af,none⟩::rest) e I:=by
 refine J.zf hd (fun T w ht hw=>⟨w,?_,hw⟩) h
 have hb:=run_sliceBounds (P:=P) false h1 h2 h3 h4 w (fun _=>Nat.le_refl _)
 simp only [execOp,ht.eval hx,Instr.sliceAt,qM (arr_u he),Sem.run_bind,Result.andThen_ok,Instr.sureAddr,Sem.run_pure,ht.optI hlo,ht.optI hhi,Option.map_none,hb,run_sizeOf hs]
 congr 3
 split
 ·rfl
 ·rw [zJ]
theorem J.zx {ty el:TypeId} {sz k c i j:Nat} {a:Option Addr} {lo hi:Option Operand} {vl vh:Option Value} (he:elemT P ty=some el) (hs:sizeT P el=some sz) (hx:ev e x=some (.slice a k c))
  (hlo:optI e lo=some vl) (hhi:optI e hi=some vh) (h1:bnd 0 vl=some i) (h2:bnd k vh=some j) (h3:i≤j) (h4:j≤c) (h5:k≤c) (hd:Nat.blt d n=true)
  (h:J P ops Q n rest ((d,.slice (if c=i then a else a.map (·.add (i*sz))) (j - i) (c - i))::e) I):J P ops Q n (⟨some d,.slice ty x lo hi none,t,p,af,none⟩::rest) e I:=by
 refine J.zf hd (fun T w ht hw=>⟨w,?_,hw⟩) h
 have hb:=run_sliceBounds (P:=P) true h1 h2 h3 h4 w (fun _=>h5)
 simp only [execOp,ht.eval hx,Instr.sliceAt,Instr.slice,qM (yk he),Sem.run_bind,Result.andThen_ok,Sem.run_pure,ht.optI hlo,ht.optI hhi,Option.map_none,hb,run_sizeOf hs]
theorem J.qZ {ty tx el sz by_ k m:Nat} {zv:Value} {xs ys:List Value} (he:elemT P ty=some el) (hs:sizeT P el=some sz) (hbb:bytesT P el=some by_) (hz:zeroT P el=some zv) (hzc:zv.cells.size=sz)
  (htx:(∃e',P.underlying tx=some (.slice e'))∨P.underlying tx=some .string)
  (hx:ev e x=some v1) (hy:ev e y=some v2) (hv:Vec el sz v1 k xs lp)
  (hr:∀w,St w0 S (lp++l) w→Row w v2 m ys∨∃s:ByteArray,v2=.string s∧s.size=m∧sz=1∧ys=(s.data.toList.map fun b=>.int .u8 b.toNat)) (hm:ys.length=m*sz) (hone:∀y,y∈ys→y.oneCell'=true)
  (hbound:(k+m)*by_≤140737488355328) (h63:k+m≤9223372036854775807) (hd:Nat.blt d n=true)
  (h:∀v' lp',Vec el sz v' (k+m) (xs++ys) lp'→J P ops Q n rest ((d,v')::e) (St w0 S (lp'++l))) :
  J P ops Q n (⟨some d,.call ⟨.builtin .append,#[x,y],#[ty,tx]⟩,t,p,af,none⟩::rest) e (St w0 S (lp++l)):=by
 refine J.yq (α:=Value × List (Nat × Obj)) (V:=(·.1)) (I':=fun q w=>Vec el sz q.1 (k+m) (xs++ys) q.2∧St w0 S (q.2++l) w) hd (fun T w ht hw=>?_) (fun q=>J.pr fun hq=>h q.1 q.2 hq)
 obtain ⟨v',w',lp',hrun,hvec,hst⟩:=run_append (P:=P) (tr:=t) he hs hbb hz hzc htx hv hw (hr w hw) hm hone hbound h63
 exact ⟨(v',lp'),w',by simp [execOp,resolve,invoke,builtin,ht.eval hx,ht.eval hy,hrun],hvec,hst⟩
theorem J.copy {ty tx el b o k c m kb:Nat} {cs ys:List Value} {tb:TypeId} {dd:Option Nat} (he:elemT P ty=some el) (hs:sizeT P el=some 1)
  (hx:ev e x=some (.slice (some ⟨b,o,none⟩) k c)) (hy:ev e y=some v2) (hr:∀w,St w0 S l w→Row w v2 m ys∧∃a c,v2=.slice a m c) (hm:ys.length=m) (hone:∀y,y∈ys→y.oneCell'=true)
  (hk:min m k=kb) (hu:Up l b (cb cs tb) (cb (setMany cs o (ys.take kb)) tb) l') (hl:o+k≤cs.length)
  (hdd:dd=none∨∃d',dd=some d'∧Nat.blt d' n=true)
  (h:J P ops Q n rest (match dd with | some d'=>(d',.int .i64 kb)::e | none=>e) (St w0 S l')) :
  J P ops Q n (⟨dd,.call ⟨.builtin .copy,#[x,y],#[ty,tx]⟩,t,p,af,none⟩::rest) e (St w0 S l):=by
 have key:∀T w,Rep n T e→St w0 S l w→∃w',(execOp (act T).eval ⟨dd,.call ⟨.builtin .copy,#[x,y],#[ty,tx]⟩,t,p,af,none⟩).run P w=.ok (.value (.int .i64 kb)) w'∧St w0 S l' w':=by
  intro T w ht hw
  obtain ⟨hrow,a,c',rfl⟩:=hr w hw
  have hrow2:Row w (.slice a kb c') kb (ys.take kb):=by
   obtain ⟨a1,c1,hv,hk1,h1⟩:=hrow
   simp only [Value.slice.injEq] at hv
   obtain ⟨rfl,_,rfl⟩:=hv
   refine ⟨a,c',rfl,by omega,?_⟩
   rcases h1 with h1 | ⟨b1,o1,h1,h2⟩
   ·exact .inl (by rw [h1];simp)
   ·refine .inr ⟨b1,o1,h1,fun j hj=>?_⟩
    simp only [List.length_take] at hj
    rw [h2 j (by omega),List.getElem?_take_of_lt (by omega)]
  have hlt:(ys.take kb).length=kb*1:=by simp only [List.length_take];omega
  have hfc:(Builtin.firstCells 1 kb (.slice a m c')).run P w=.ok (ys.take kb).toArray w:=by
   have:=yJ (P:=P) hrow2 hlt
   cases a <;> simpa [Builtin.firstCells] using this
  obtain ⟨w',hr',hw'⟩:=yI (P:=P) (t:=tb) (ys.take kb) w cs o 0 (hw.own _ hu.mem) (by simp only [List.length_take];omega) (fun v hv=>hone v (List.mem_of_mem_take hv))
  refine ⟨w',?_,hw.wrote hu hw'⟩
  have hmin:Nat.min m k=kb:=hk
  simp [execOp,resolve,invoke,builtin,Builtin.copy_,ht.eval hx,ht.eval hy,qM (yk he),Builtin.lenOf,hmin,run_sizeOf hs,hfc,hr',goInt]
 rcases hdd with rfl | ⟨d',rfl,hd'⟩
 ·exact J.valueN (fun T w ht hw=>⟨_,key T w ht hw⟩) h
 ·exact J.zf hd' (fun T w ht hw=>key T w ht hw) h
theorem J.make {ty el sz by_:Nat} {zv:Value} {zs:List Value} {k:Int} {ik jk:IntKind} (he:elemT P ty=some el) (hs:sizeT P el=some sz) (hbb:bytesT P el=some by_) (hz:zeroT P el=some zv) (hzc:zv.cells=zs.toArray) (hzl:zs.length=sz)
  (hx:ev e x=some (.int ik k)) (hy:ev e y=some (.int jk k)) (h0:0≤k) (h48:(by_:Int)*k≤281474976710656) (h63:k<9223372036854775808) (hd:Nat.blt d n=true)
  (h:∀b,J P ops Q n rest ((d,.slice (some ⟨b,0,none⟩) k.toNat k.toNat)::e) (St w0 S ((b,cb (List.replicate k.toNat zs).flatten el)::l))) :
  J P ops Q n (⟨some d,.makeSlice ty x y,t,p,af,none⟩::rest) e (St w0 S l):=by
 have hinfo:∃i,P.info? el=some i∧i.bytes=by_:=by
  unfold bytesT at hbb
  cases h:P.info? el with
  | none=>rw [h] at hbb;cases hbb
  | some i=>rw [h] at hbb;simp at hbb;exact ⟨i,rfl,hbb⟩
 obtain ⟨inf,hi1,hi2⟩:=hinfo
 have hwrap:IntKind.i64.wrap k=k:=qV (by omega) h63
 have hnot:¬(k<0∨281474976710656<(by_:Int)*k):=by omega
 have hcells:(Array.range (k.toNat*sz)).map (zv.cells[·%zv.cells.size]!)=((List.replicate k.toNat zs).flatten).toArray:=by
  rw [hzc]
  apply Array.ext'
  simp only [Array.toList_map,Array.toList_range,List.size_toArray,hzl]
  apply List.ext_getElem?
  intro i
  have hfl:∀(m i:Nat),((List.replicate m zs).flatten)[i]? = if i<m*sz then zs[i%sz]? else none:=by
   intro m
   induction m with
   | zero=>intro i;simp
   | succ m ih=>
    intro i
    rw [List.replicate_succ,List.flatten_cons,List.getElem?_append,hzl,ih]
    by_cases h1:i<sz
    ·rw [if_pos h1,if_pos (by rw [Nat.add_mul];omega),Nat.mod_eq_of_lt h1]
    ·rw [if_neg h1]
     have:i%sz=(i - sz)%sz:=by
      rw [Nat.mod_eq_sub_mod (by omega)]
     by_cases h2:i - sz<m*sz
     ·rw [if_pos h2,if_pos (by rw [Nat.add_mul];omega),this]
     ·rw [if_neg h2,if_neg (by rw [Nat.add_mul];omega)]
  rw [hfl,List.getElem?_map]
  by_cases h1:i<k.toNat*sz
  ·rw [if_pos h1,List.getElem?_range h1]
   have h2:0<sz:=by
    rcases Nat.eq_zero_or_pos sz with h | h
    ·rw [h] at h1;omega
    ·exact h
   have h3:i%sz<zs.length:=by rw [hzl];exact Nat.mod_lt _ h2
   rw [Option.map_some,List.getElem?_eq_getElem h3]
   congr 1
   rw [getElem!_pos zs.toArray (i%sz) (by simpa using h3)]
   simp
  ·rw [if_neg h1,List.getElem?_eq_none (by simp;omega)];rfl
 refine J.yq (V:=fun b=>.slice (some ⟨b,0,none⟩) k.toNat k.toNat) hd (fun T w ht hw=>⟨w.heap.size,w.alloc (cb (List.replicate k.toNat zs).flatten el),?_,?_⟩) h
 ·have hti:(typeInfo el).run P w=.ok inf w:=by simp [typeInfo,hi1]
  have hnot':¬(281474976710656<(inf.bytes:Int)*k):=by rw [hi2];omega
  have hneg:¬(k<0):=by omega
  by_cases hz0:k.toNat*sz=0
  ·have he0:(List.replicate k.toNat zs).flatten=[]:=List.eq_nil_of_length_eq_zero (by simp [hzl,hz0])
   simp [execOp,ht.eval hx,ht.eval hy,Instr.makeSlice,qM (yk he),asInt,asIntOf,hti,hwrap,run_sizeOf hs,hneg,hnot',hz0,newRow,cb,he0]
   rw [show (Array.range 0).map (fun _:Nat=>(default:Value))=#[] from Array.ext' (by simp)]
  ·simp [execOp,ht.eval hx,ht.eval hy,Instr.makeSlice,qM (yk he),asInt,asIntOf,hti,hwrap,run_sizeOf hs,hneg,hnot',hz0,newRow,cb,zz hz,hcells]
 ·exact hw.new (zU w _) (Nat.le_refl _) (yu w _)
end
end Go.J
namespace Go.J
open Go.RowKit
set_option linter.unusedVariables false
set_option linter.unusedSimpArgs false
def QF (d:Nat) (φ:Value→World→Prop) (wi:World) (x:Exit) (a:Act) (w:World):Prop:=
 x=.normal∧a.defers=[]∧(∃v,a.tmps[d]? = some v∧φ v w)∧Bel wi w
theorem JX.fin {n d:Nat} {φ:Value→World→Prop} {wi:World} {e:Env} {I:World→Prop} {v:Value} (hv:get e d=some v) (h:∀w,I w→φ v w∧Bel wi w):JX (QF d φ wi) n .normal e I:=
 fun _ w ht hw=>⟨rfl,rfl,⟨v,ht.2 d v hv,(h w hw).1⟩,(h w hw).2⟩
def Fin (ds:List Nat) (Φ:Nat→Value→World→Prop):List Nat→Env→(World→Prop)→(Env→(World→Prop)→Prop)→Prop
 | [],e,I,G=>G e I
 | j::js,e,I,G=>∀v,Fin ds Φ js ((ds.getD j 0,v)::e) (fun w=>Φ j v w∧I w) G
theorem Fin.use {ds:List Nat} {Φ:Nat→Value→World→Prop} {n:Nat} {C:Array Value→World→Prop}:∀(js:List Nat) (e:Env) (I:World→Prop),
  Fin ds Φ js e I (fun e' I'=>∀T w,Rep n T e'→I' w→C T w)→∀T w,Rep n T e→I w→(∀j,j∈js→∃v,T[ds.getD j 0]? = some v∧Φ j v w)→C T w
 | [],_,_,h,T,w,ht,hw,_=>h T w ht hw
 | j::js,e,I,h,T,w,ht,hw,hj=>by
  obtain ⟨v,hv,hφ⟩:=hj j (.head _)
  refine Fin.use js _ _ (h v) T w ⟨ht.1,fun t u hu=>?_⟩ ⟨hφ,hw⟩ (fun k hk=>hj k (.tail _ hk))
  simp only [J.get] at hu
  cases hb:Nat.beq (ds.getD j 0) t with
  | true=>
   rw [hb] at hu
   have:ds.getD j 0=t:=by simpa using hb
   subst this
   simp only [Option.some.injEq] at hu
   subst hu
   exact hv
  | false=>rw [hb] at hu;exact ht.2 t u hu
def preds (o:Oper):List Nat:=(o.after.toList.filter (Region.binds .any)).map (·.on)
def dsts:List Oper→Option (List Nat)
 | []=>some []
 | o::os=>match o.dst,dsts os with
  | some d,some ds=>some (d::ds)
  | _,_=>none
theorem dsts_spec:∀ {l:List Oper} {ds:List Nat},dsts l=some ds→ds.length=l.length∧∀(i:Nat) (o:Oper),l[i]? = some o→o.dst=some (ds.getD i 0)∧ds.getD i 0∈ds:=by
 intro l
 induction l with
 | nil=>intro ds h;simp only [dsts,Option.some.injEq] at h;subst h;exact ⟨rfl,fun i o ho=>by simp at ho⟩
 | cons o os ih=>
  intro ds h
  simp only [dsts] at h
  split at h
  ·rename_i d ds' hd hds
   simp only [Option.some.injEq] at h
   subst h
   obtain ⟨h1,h2⟩:=ih hds
   refine ⟨by simp [h1],fun i o' ho=>?_⟩
   cases i with
   | zero=>simp only [List.getElem?_cons_zero,Option.some.injEq] at ho;subst ho;exact ⟨by simpa using hd,by simp⟩
   | succ i=>
    simp only [List.getElem?_cons_succ] at ho
    obtain ⟨h3,h4⟩:=h2 i o' ho
    exact ⟨by simpa using h3,by simp only [List.getD_cons_succ];exact .tail _ h4⟩
  ·cases h
def nodupB:List Nat→Bool
 | []=>true
 | x::xs=>!(xs.any (Nat.beq x))&&nodupB xs
theorem nodupB_spec:∀ {l:List Nat},nodupB l=true→∀i j,i<l.length→j<l.length→l.getD i 0=l.getD j 0→i=j:=by
 intro l
 induction l with
 | nil=>intro _ i j hi;simp at hi
 | cons x xs ih=>
  intro h i j hi hj he
  simp only [nodupB,Bool.and_eq_true,Bool.not_eq_true',List.any_eq_false] at h
  have hx:∀k,k<xs.length→x≠xs.getD k 0:=by
   intro k hk e
   have hm:xs.getD k 0∈xs:=by
    rw [List.getD_eq_getElem?_getD,List.getElem?_eq_getElem hk];simp
   have:=h.1 _ hm
   rw [← e] at this
   simp at this
  cases i with
  | zero=>
   cases j with
   | zero=>rfl
   | succ j=>simp only [List.getD_cons_zero,List.getD_cons_succ,List.length_cons] at he hj;exact absurd he (hx j (by omega))
  | succ i=>
   cases j with
   | zero=>simp only [List.getD_cons_zero,List.getD_cons_succ,List.length_cons] at he hi;exact absurd he.symm (hx i (by omega))
   | succ j=>simp only [List.getD_cons_succ,List.length_cons] at he hi hj;rw [ih h.2 i j (by omega) (by omega) he]
def backB (l:List Oper) (N:Nat):Bool:=(l.take N).zipIdx.all fun (o,i)=>(preds o).all fun j=>Nat.blt j i
theorem backB_spec {l:List Oper} {N:Nat} (h:backB l N=true) {i:Nat} {o:Oper} (hi:i<N) (ho:l[i]? = some o):∀j,j∈preds o→j<i:=by
 intro j hj
 simp only [backB,List.all_eq_true] at h
 have hm:(o,i)∈(l.take N).zipIdx:=by
  rw [List.mem_zipIdx_iff_getElem?]
  simp [hi,ho]
 have:=h _ hm j hj
 exact Nat.blt_eq.mp this
def headB (l:List Oper) (N:Nat):Bool:=
 backB l N&&Region.seqB .any l.toArray (l.length - N) N ((List.replicate N true++List.replicate (l.length - N) false).toArray)&&
  (Nat.beq N l.length || (Nat.blt N l.length&&Region.sinkB .any l.toArray N&&Region.chainB .any l.toArray N))
theorem wpOp_of_list {P:Program} {ops:Array Oper} {Q:Exit→Act→World→Prop} {i d:Nat} {o:Oper} {T:Array Value} {w wi:World} {φ:Value→World→Prop} {K:Act→World→Prop}
  (ho:ops[i]? = some o) (hd:o.dst=some d) (h:wpList P ops (QF d φ wi) [o] (act T) w)
  (hk:∀v w',(act (T.setIfInBounds d v)).tmps[d]? = some v→φ v w'→Bel wi w'→K (act (T.setIfInBounds d v)) w') (hlt:d<T.size):wpOp P ops Q i K (act T) w:=by
 have hget:∀v,(T.setIfInBounds d v)[d]? = some v:=fun v=>by simp [hlt]
 have fin:∀v w',QF d φ wi .normal (act (T.setIfInBounds d v)) w'→K (act (T.setIfInBounds d v)) w':=by
  rintro v w' ⟨_,_,⟨u,hu,hφ⟩,hb⟩
  have:u=v:=by
   have h1:(T.setIfInBounds d v)[d]? = some u:=hu
   rw [hget v] at h1
   exact (Option.some.inj h1).symm
  subst this
  exact hk u w' (hget u) hφ hb
 unfold wpOp
 simp only [ho]
 simp only [wpList] at h
 split at h
 ·rename_i hw
  rw [if_pos hw]
  rcases h with h | ⟨_,⟨_,_,h,_⟩⟩
  ·left
   unfold Oper.wp at h ⊢
   generalize (execOp (act T).eval o).run P w=r at h
   cases r with
   | ok nx w'=>
    cases nx <;> simp only [Oper.upon,hd] at h ⊢
    case value v=>exact fin v w' h
    case skip=>exact fin undef w' h
    case defer dd=>exact absurd h.2.1 (by simp [Act.put])
    case enter f args=>
     refine h.mono fun r w'' hr=>?_
     cases r with
     | returned v=>exact fin v w'' hr
     | panicked c=>exact absurd hr.1 (by simp)
     | outgrown=>obtain ⟨_,_,h,_⟩:=hr;cases h
    case row row args=>exact Rows.mono h fun v w'' hr=>fin v w'' hr
   | halt x w'=>cases x <;> simp only [Oper.upon] at h;exact absurd h.1 (by simp)
  ·cases h
 ·rename_i hw
  rw [if_neg hw]
  simp only [hd] at h ⊢
  exact fin undef w h
theorem all_below (listed : Array Bool) (N : Nat) : (∃ i, i < N ∧ listed.getD i true = false ∧ ∀ j, j < i → listed.getD j true = true) ∨ ∀ i, i < N → listed.getD i true = true := by
  induction N with
  | zero => right; intro i hi; omega
  | succ N ih =>
    rcases ih with ⟨i, hi, h1, h2⟩ | h
    · left; exact ⟨i, by omega, h1, h2⟩
    · cases hN : listed.getD N true with
      | true => right; intro i hi; by_cases h1 : i = N
                · subst h1; exact hN
                · exact h i (by omega)
      | false => left; exact ⟨N, by omega, hN, h⟩
def cnt (listed:Array Bool):Nat→Nat
 | 0=>0
 | N+1=>(if listed.getD N true then 0 else 1)+cnt listed N
theorem cnt_set {listed:Array Bool} {i:Nat} (hsz:i<listed.size) (h:listed.getD i true=false):∀N,i<N→cnt (listed.setIfInBounds i true) N+1=cnt listed N:=by
 have hself:(listed.setIfInBounds i true).getD i true=true:=by simp [hsz]
 have hsame:∀N,N≤i→cnt (listed.setIfInBounds i true) N=cnt listed N:=by
  intro N
  induction N with
  | zero=>intro _;rfl
  | succ N ih=>intro hN;simp only [cnt];rw [getD_set_ne true (by omega),ih (by omega)]
 intro N
 induction N with
 | zero=>intro hi;omega
 | succ N ih=>
  intro hi
  simp only [cnt]
  by_cases h1:i=N
  ·subst h1
   rw [hself,h,hsame _ (Nat.le_refl _)]
   simp;omega
  ·rw [getD_set_ne true h1]
   have:=ih (by omega)
   omega
theorem cnt_zero {listed:Array Bool}:∀N,cnt listed N=0→∀i,i<N→listed.getD i true=true:=by
 intro N
 induction N with
 | zero=>intro _ i hi;omega
 | succ N ih=>
  intro h i hi
  simp only [cnt] at h
  by_cases h1:i=N
  ·subst h1
   cases hl:listed.getD i true with
   | true=>rfl
   | false=>rw [hl] at h;simp at h
  ·exact ih (by omega) i (by omega)
theorem Rep.other {n d:Nat} {T:Array Value} {e:Env} (h:Rep n T e) (hd:get e d=none) (v:Value):Rep n (T.setIfInBounds d v) e:=by
 refine ⟨by simpa using h.1,fun t u hu=>?_⟩
 have:d≠t:=by
  intro he
  subst he
  rw [hd] at hu;cases hu
 rw [Array.getElem?_setIfInBounds,if_neg this]
 exact h.2 t u hu
theorem JC.any {P:Program} {Q:Exit→Act→World→Prop} {n id:Nat} {l:List Oper} {e:Env} {I:World→Prop} (N:Nat) (Φ:Nat→Value→World→Prop) {ds:List Nat}
  (hm:P.follows .mixedOrders=true) (hds:dsts (l.take N)=some ds) (hnd:nodupB ds=true) (hN:Nat.ble N l.length=true) (hB:headB l N=true)
  (hlt:(ds.all fun d=>Nat.blt d n)=true) (hkeys:(ds.all fun d=>(get e d).isNone)=true)
  (hI:∀w w',I w→Bel w w'→I w') (hΦ:∀i v w w',Φ i v w→Bel w w'→Φ i v w')
  (hstep:∀(i:Nat) (o:Oper),i<N→l[i]? = some o→∀wi,Fin ds Φ (preds o) e (fun w=>w=wi∧I w) (fun e' I'=>J P l.toArray (QF (ds.getD i 0) (Φ i) wi) n [o] e' I'))
  (htail:Fin ds Φ (List.range N) e I (fun e' I'=>J P l.toArray Q n (l.drop N) e' I')):JC P Q n (.region id l.toArray true) e I:=by
 intro T w ht hw
 refine wp_region_any hm ?_
 obtain ⟨hlen,hspec⟩:=dsts_spec hds
 have hN':N≤l.length:=Nat.le_of_ble_eq_true hN
 have htk:(l.take N).length=N:=by simp;omega
 simp only [headB,Bool.and_eq_true,Bool.or_eq_true] at hB
 obtain ⟨⟨hback,hseq⟩,hsink⟩:=hB
 have hdst:∀i o,i<N→l[i]? = some o→o.dst=some (ds.getD i 0)∧ds.getD i 0∈ds:=by
  intro i o hi ho
  exact hspec i o (by rw [List.getElem?_take_of_lt hi];exact ho)
 have hd1:∀i,i<N→ds.getD i 0<n∧get e (ds.getD i 0)=none:=by
  intro i hi
  obtain ⟨o,ho⟩:∃o,l[i]? = some o:=⟨_,List.getElem?_eq_getElem (by omega)⟩
  have hmem:=(hdst i o hi ho).2
  have h1:=List.all_eq_true.1 hlt _ hmem
  have h2:=List.all_eq_true.1 hkeys _ hmem
  exact ⟨Nat.blt_eq.mp h1,by simpa using h2⟩
 have hinj:∀i j,i<N→j<N→ds.getD i 0=ds.getD j 0→i=j:=fun i j hi hj=>nodupB_spec hnd i j (by omega) (by omega)
 have key:∀(m:Nat) (listed:Array Bool) (T:Array Value) (w:World),cnt listed N=m→HeadInv .any l.toArray N listed→Rep n T e→I w→(∀i,i<N→listed.getD i true=true→∃v,T[ds.getD i 0]? = some v∧Φ i v w)→
   wpAny P .any l.toArray Q (m+(l.length - N)) listed (act T) w:=by
  intro m
  induction m with
  | zero=>
   intro listed T w hcnt inv ht hw hfacts
   have hall:=cnt_zero N hcnt
   have hlisted:listed=(List.replicate N true++List.replicate (l.length - N) false).toArray:=by
    have hs:=inv.size
    simp only [List.size_toArray] at hs
    apply Array.ext
    ·simp [hs];omega
    ·intro i hi1 hi2
     by_cases hiN:i<N
     ·have:=hall i hiN
      simp only [Array.getD_eq_getD_getElem?,Array.getElem?_eq_getElem hi1,Option.getD_some] at this
      rw [this]
      simp [List.getElem_append,hiN]
     ·have:=inv.tail i (by omega) (by simp;omega)
      simp only [Array.getD_eq_getD_getElem?,Array.getElem?_eq_getElem hi1,Option.getD_some] at this
      rw [this]
      simp [List.getElem_append,hiN]
   rw [Nat.zero_add]
   have hdl:(l.drop N).length=l.length - N:=by simp
   have hwl:wpList P l.toArray Q (l.drop N) (act T) w:=by
    refine Fin.use (C:=fun T w=>wpList P l.toArray Q (l.drop N) (act T) w) (List.range N) e I htail T w ht hw (fun j hj=>?_)
    have hj':=List.mem_range.1 hj
    exact hfacts j hj' (hall j hj')
   have:=wpAny_of_seq (P:=P) (md:=.any) (Q':=Q) (ops:=l.toArray) (l.drop N) N listed (act T) w (fun j=>by simp [List.getElem?_drop]) (by rw [hdl,hlisted];exact hseq) hwl
   rwa [hdl] at this
  | succ m ih=>
   intro listed T w hcnt inv ht hw hfacts
   rw [show m+1+(l.length - N)=(m+(l.length - N))+1 by omega]
   have hsz:listed.size=l.length:=by simpa using inv.size
   obtain ⟨i0,hi0,hun0,hmin0⟩:∃i,i<N∧listed.getD i true=false∧∀j,j<i→listed.getD j true=true:=by
    rcases all_below listed N with h | h
    ·exact h
    ·exfalso
     have:cnt listed N=0:=by
      have:∀M,M≤N→cnt listed M=0:=by
       intro M
       induction M with
       | zero=>intro _;rfl
       | succ M ihM=>intro hM;simp only [cnt];rw [h M (by omega),ihM (by omega)];rfl
      exact this N (Nat.le_refl _)
     omega
   have hgd:∀j,j<l.length→listed.getD j true=true→listed.getD j false=true:=by
    intro j hj h
    have hj':j<listed.size:=by omega
    simp only [Array.getD_eq_getD_getElem?,Array.getElem?_eq_getElem hj',Option.getD_some] at h ⊢
    exact h
   have hready0:i0∈Region.ready .any l.toArray listed:=by
    refine mem_ready.2 ⟨hun0,l[i0]'(by omega),by simp,fun ed hed hbd=>?_⟩
    have hp:ed.on∈preds (l[i0]'(by omega)):=by
     simp only [preds,List.mem_map,List.mem_filter]
     exact ⟨ed,⟨by simpa using hed,hbd⟩,rfl⟩
    have:=backB_spec hback hi0 (List.getElem?_eq_getElem (by omega)) ed.on hp
    exact hgd _ (by omega) (hmin0 _ this)
   refine ⟨fun h0=>(by rw [h0] at hready0;cases hready0),fun i hi=>?_⟩
   have hiN:i<N:=by
    rcases Nat.lt_or_ge i N with h | h
    ·exact h
    ·exfalso
     rcases hsink with h1 | ⟨⟨h1,h2⟩,h3⟩
     ·have:N=l.length:=Nat.eq_of_beq_eq_true h1
      obtain ⟨_,o,ho,_⟩:=mem_ready.1 hi
      have:=(Array.getElem?_eq_some_iff.1 ho).1
      simp at this;omega
     ·exact tail_waits h2 h3 (by simpa using Nat.blt_eq.mp h1) inv _ i0 rfl hi0 hun0 i h hi
   obtain ⟨hun,o,ho,hall⟩:=mem_ready.1 hi
   have ho':l[i]? = some o:=by simpa using ho
   have hpre:∀j,j∈preds o→∃v,T[ds.getD j 0]? = some v∧Φ j v w:=by
    intro j hj
    have hjlt:=backB_spec hback hiN ho' j hj
    simp only [preds,List.mem_map,List.mem_filter] at hj
    obtain ⟨ed,⟨hed,hbd⟩,rfl⟩:=hj
    have h1:=hall ed (by simpa using hed) hbd
    have hj':ed.on<listed.size:=by omega
    refine hfacts ed.on (by omega) ?_
    simp only [Array.getD_eq_getD_getElem?,Array.getElem?_eq_getElem hj',Option.getD_some] at h1 ⊢
    exact h1
   have hwl:=Fin.use (C:=fun T w=>wpList P l.toArray (QF (ds.getD i 0) (Φ i) w) [o] (act T) w) (preds o) e (fun w'=>w'=w∧I w') (by
    have h1:=hstep i o hiN ho' w
    have conv:∀(js:List Nat) (e:Env) (I2:World→Prop),(∀w',I2 w'→w'=w)→Fin ds Φ js e I2 (fun e' I'=>J P l.toArray (QF (ds.getD i 0) (Φ i) w) n [o] e' I')→
      Fin ds Φ js e I2 (fun e' I'=>∀T w,Rep n T e'→I' w→wpList P l.toArray (QF (ds.getD i 0) (Φ i) w) [o] (act T) w):=by
     intro js
     induction js with
     | nil=>intro e I2 hI2 h T w2 ht2 hw2;have hh:=hI2 w2 hw2;subst hh;exact h T _ ht2 hw2
     | cons j js ihj=>intro e I2 hI2 h v;exact ihj _ _ (fun w' hw'=>hI2 w' hw'.2) (h v)
    exact conv _ _ _ (fun w' hw'=>hw'.1) h1) T w ht ⟨rfl,hw⟩ hpre
   refine wpOp_of_list ho (hdst i o hiN ho').1 hwl (fun v w' hv hφ hb=>?_) (by rw [ht.1];exact (hd1 i hiN).1)
   have hisz:i<listed.size:=by omega
   refine ih _ _ w' (by have:=cnt_set hisz hun N hiN;omega) (inv.set hi hiN) (ht.other (hd1 i hiN).2 v) (hI w w' hw hb) (fun j hj hlj=>?_)
   by_cases hji:j=i
   ·subst hji
    exact ⟨v,hv,hφ⟩
   ·rw [getD_set_ne true (Ne.symm hji)] at hlj
    obtain ⟨u,hu,hφu⟩:=hfacts j hj hlj
    refine ⟨u,?_,hΦ j u w w' hφu hb⟩
    rw [Array.getElem?_setIfInBounds,if_neg (fun he=>hji (hinj j i hj hiN he.symm))]
    exact hu
 have hcnt0:cnt (Array.replicate l.toArray.size false) N=N:=by
  have:∀M,M≤N→cnt (Array.replicate l.toArray.size false) M=M:=by
   intro M
   induction M with
   | zero=>intro _;rfl
   | succ M ihM=>
    intro hM
    simp only [cnt]
    rw [getD_in (by simp;omega) (getD_replicate_false _ _),ihM (by omega)]
    simp;omega
  exact this N (Nat.le_refl _)
 have hw':I { w with drawn:=w.drawn+1 }:=hI w _ hw ((Bel.refl w).drew)
 have:=key N (Array.replicate l.toArray.size false) T { w with drawn:=w.drawn+1 } hcnt0
  ⟨by simp,fun j oj _ hl=>(by rw [getD_replicate_false] at hl;cases hl),fun t _ ht=>getD_in (by simpa using ht) (getD_replicate_false _ _)⟩ ht hw'
  (fun i hi hl=>by rw [getD_in (by simp;omega) (getD_replicate_false _ _)] at hl;cases hl)
 rw [show N+(l.length - N)=l.toArray.size by simp;omega] at this
 exact this
theorem Fin.nil {ds:List Nat} {Φ:Nat→Value→World→Prop} {e:Env} {I:World→Prop} {G:Env→(World→Prop)→Prop} (h:G e I):Fin ds Φ [] e I G:=h
theorem Fin.cons {ds:List Nat} {Φ:Nat→Value→World→Prop} {j:Nat} {js:List Nat} {e:Env} {I:World→Prop} {G:Env→(World→Prop)→Prop} (h:∀v,Fin ds Φ js ((ds.getD j 0,v)::e) (fun w=>Φ j v w∧I w) G):Fin ds Φ (j::js) e I G:=h
def Steps (P:Program) (l:List Oper) (n:Nat) (ds:List Nat) (Φ:Nat→Value→World→Prop) (e:Env) (I:World→Prop):Nat→List Oper→Prop
 | _,[]=>True
 | i,o::os=>(∀wi,Fin ds Φ (preds o) e (fun w=>w=wi∧I w) (fun e' I'=>J P l.toArray (QF (ds.getD i 0) (Φ i) wi) n [o] e' I'))∧Steps P l n ds Φ e I (i+1) os
theorem Steps.all {P:Program} {l:List Oper} {n:Nat} {ds:List Nat} {Φ:Nat→Value→World→Prop} {e:Env} {I:World→Prop}:∀(k:List Oper) (i0:Nat),Steps P l n ds Φ e I i0 k→∀(i:Nat) (o:Oper),k[i]? = some o→
  ∀wi,Fin ds Φ (preds o) e (fun w=>w=wi∧I w) (fun e' I'=>J P l.toArray (QF (ds.getD (i0+i) 0) (Φ (i0+i)) wi) n [o] e' I'):=by
 intro k
 induction k with
 | nil=>intro i0 _ i o ho;simp at ho
 | cons p ps ih=>
  intro i0 h i o ho
  cases i with
  | zero=>simp only [List.getElem?_cons_zero,Option.some.injEq] at ho;subst ho;exact h.1
  | succ i=>
   simp only [List.getElem?_cons_succ] at ho
   have:=ih (i0+1) h.2 i o ho
   rwa [show i0+1+i=i0+(i+1) by omega] at this
theorem JC.draw {P:Program} {Q:Exit→Act→World→Prop} {n id:Nat} {l:List Oper} {e:Env} {I:World→Prop} (N:Nat) (Φ:Nat→Value→World→Prop) {ds:List Nat}
  (hm:P.follows .mixedOrders=true) (hds:dsts (l.take N)=some ds) (hnd:nodupB ds=true) (hN:Nat.ble N l.length=true) (hB:headB l N=true)
  (hlt:(ds.all fun d=>Nat.blt d n)=true) (hkeys:(ds.all fun d=>(get e d).isNone)=true)
  (hI:∀w w',I w→Bel w w'→I w') (hΦ:∀i v w w',Φ i v w→Bel w w'→Φ i v w')
  (hstep:Steps P l n ds Φ e I 0 (l.take N))
  (htail:Fin ds Φ (List.range N) e I (fun e' I'=>J P l.toArray Q n (l.drop N) e' I')):JC P Q n (.region id l.toArray true) e I:=
 JC.any N Φ hm hds hnd hN hB hlt hkeys hI hΦ (fun i o hi ho wi=>by
  have:=Steps.all (l.take N) 0 hstep i o (by rw [List.getElem?_take_of_lt hi];exact ho) wi
  rwa [Nat.zero_add] at this) htail
def QB (d:Nat) (φ:Value→World→Prop) (I1:World→Prop) (x:Exit) (a:Act) (w:World):Prop:=
 x=.normal∧a.defers=[]∧(∃v,a.tmps[d]? = some v∧φ v w)∧I1 w
theorem JX.zR {n d:Nat} {φ:Value→World→Prop} {I1:World→Prop} {e:Env} {I:World→Prop} {v:Value} (hv:get e d=some v) (h:∀w,I w→φ v w∧I1 w):JX (QB d φ I1) n .normal e I:=
 fun _ w ht hw=>⟨rfl,rfl,⟨v,ht.2 d v hv,(h w hw).1⟩,(h w hw).2⟩
theorem wpOp_of_listB {P:Program} {ops:Array Oper} {Q:Exit→Act→World→Prop} {i d:Nat} {o:Oper} {T:Array Value} {w:World} {φ:Value→World→Prop} {I1:World→Prop} {K:Act→World→Prop}
  (ho:ops[i]? = some o) (hd:o.dst=some d) (h:wpList P ops (QB d φ I1) [o] (act T) w)
  (hk:∀v w',(act (T.setIfInBounds d v)).tmps[d]? = some v→φ v w'→I1 w'→K (act (T.setIfInBounds d v)) w') (hlt:d<T.size):wpOp P ops Q i K (act T) w:=by
 have hget:∀v,(T.setIfInBounds d v)[d]? = some v:=fun v=>by simp [hlt]
 have fin:∀v w',QB d φ I1 .normal (act (T.setIfInBounds d v)) w'→K (act (T.setIfInBounds d v)) w':=by
  rintro v w' ⟨_,_,⟨u,hu,hφ⟩,hb⟩
  have:u=v:=by
   have h1:(T.setIfInBounds d v)[d]? = some u:=hu
   rw [hget v] at h1
   exact (Option.some.inj h1).symm
  subst this
  exact hk u w' (hget u) hφ hb
 unfold wpOp
 simp only [ho]
 simp only [wpList] at h
 split at h
 ·rename_i hw
  rw [if_pos hw]
  rcases h with h | ⟨_,⟨_,_,h,_⟩⟩
  ·left
   unfold Oper.wp at h ⊢
   generalize (execOp (act T).eval o).run P w=r at h
   cases r with
   | ok nx w'=>
    cases nx <;> simp only [Oper.upon,hd] at h ⊢
    case value v=>exact fin v w' h
    case skip=>exact fin undef w' h
    case defer dd=>exact absurd h.2.1 (by simp [Act.put])
    case enter f args=>
     refine h.mono fun r w'' hr=>?_
     cases r with
     | returned v=>exact fin v w'' hr
     | panicked c=>exact absurd hr.1 (by simp)
     | outgrown=>obtain ⟨_,_,h,_⟩:=hr;cases h
    case row row args=>exact Rows.mono h fun v w'' hr=>fin v w'' hr
   | halt x w'=>cases x <;> simp only [Oper.upon] at h;exact absurd h.1 (by simp)
  ·cases h
 ·rename_i hw
  rw [if_neg hw]
  simp only [hd] at h ⊢
  exact fin undef w h
def depB (l:List Oper) (N b:Nat):Bool:=(l.take N).zipIdx.all fun (o,i)=>Nat.ble i b || (preds o).any fun p=>Nat.ble b p
end Go.J
namespace Go.J
open Go.RowKit
set_option linter.unusedVariables false
set_option linter.unusedSimpArgs false
def str (bs:List UInt8):ByteArray:=⟨bs.toArray⟩
theorem str_size (bs:List UInt8):(str bs).size=bs.length:=by simp [str,ByteArray.size]
theorem str_beq (xs ys:List UInt8):((str xs).toList==(str ys).toList)=(xs==ys):=by
 rw [← beq_toListBytes]
 have:∀a b:ByteArray,(a==b)=(a.data.toList==b.data.toList):=by
  intro a b
  obtain ⟨a⟩:=a
  obtain ⟨b⟩:=b
  have h1:((⟨a⟩:ByteArray)==⟨b⟩)=(a==b):=rfl
  rw [h1,Bool.eq_iff_iff]
  simp only [beq_iff_eq]
  constructor
  ·rintro rfl;rfl
  ·intro h;exact Array.toList_inj.1 h
 rw [this];rfl
theorem strOfNums_u8 (bs:List UInt8):strOfNums (bs.map fun b=>(b.toNat:Int))=str bs:=by
 simp only [strOfNums,str,List.map_map]
 congr 2
 have:(fun n:Int=>UInt8.ofNat n.toNat) ∘ (fun b:UInt8=>(b.toNat:Int))=id:=by
  funext b;simp
 rw [this,List.map_id]
theorem run_toStr {P:Program} {w:World} {src dst el:TypeId} {v:Value} {m:Nat} {bs:List UInt8} (hs:elemT P src=some el) (he:P.underlying el=some (.int .u8)) (hd:P.underlying dst=some .string)
  (h:Row w v m (bs.map u8)) (hl:bs.length=m):(convert src dst v).run P w=.ok (.string (str bs)) w:=by
 obtain ⟨a,c,rfl,_,h⟩:=h
 cases a with
 | none=>
  have:bs=[]:=by
   rcases h with h | ⟨b,o,ha,_⟩
   ·exact List.map_eq_nil_iff.1 h
   ·cases ha
  subst this
  rw [run_convert_bytes_nil w src el (yk hs) he _ _ dst hd];rfl
 | some a=>
  rcases h with h | ⟨b,o,ha,hc⟩
  ·have:=List.map_eq_nil_iff.1 h
   subst this
   simp only [List.length_nil] at hl
   subst hl
   rw [run_convert_bytes_string w src dst el _ 0 c (yk hs) he hd,run_bytesToString (P:=P) w a 0 c [] rfl];rfl
  ·simp only [Option.some.injEq] at ha
   subst ha
   rw [run_convert_bytes_arg w src el (yk hs) he b o m c (bs.map fun b=>(b.toNat:Int)) (by simpa using hl) (fun i hi=>?_) dst hd,strOfNums_u8]
   rw [hc i (by simp;omega)]
   have hi':i<bs.length:=by omega
   simp [List.getElem?_eq_getElem hi']
section
variable {P:Program} {ops:Array Oper} {Q:Exit→Act→World→Prop} {n:Nat} {e:Env} {I I':World→Prop} {rest:List Oper}
variable {d t yt:Nat} {p:String} {af:Array Edge} {x y z:Operand} {v v1 v2:Value} {w0:World} {S:List Nat} {l l' lp:List (Nat × Obj)}
theorem J.z2 {src dst el m:Nat} {bs:List UInt8} (hs:elemT P src=some el) (he:P.underlying el=some (.int .u8)) (hdst:P.underlying dst=some .string) (hx:ev e x=some v)
  (hr:∀w,I w→Row w v m (bs.map u8)) (hl:bs.length=m) (hd:Nat.blt d n=true)
  (h:J P ops Q n rest ((d,.string (str bs))::e) I):J P ops Q n (⟨some d,.convert src dst x,t,p,af,none⟩::rest) e I:=
 J.zf hd (fun T w ht hw=>⟨w,by simp [execOp,ht.eval hx,run_toStr hs he hdst (hr w hw) hl],hw⟩) h
theorem J.strEq {ty:TypeId} {xs ys:List UInt8} (hx:ev e x=some (.string (str xs))) (hy:ev e y=some (.string (str ys))) (hd:Nat.blt d n=true)
  (h:J P ops Q n rest ((d,.bool (xs==ys))::e) I):J P ops Q n (⟨some d,.binOp .eql ty x y yt,t,p,af,none⟩::rest) e I:=
 J.qj hx hy rfl hd (by rw [str_beq];exact h)
theorem J.strNe {ty:TypeId} {xs ys:List UInt8} (hx:ev e x=some (.string (str xs))) (hy:ev e y=some (.string (str ys))) (hd:Nat.blt d n=true)
  (h:J P ops Q n rest ((d,.bool (!(xs==ys)))::e) I):J P ops Q n (⟨some d,.binOp .neq ty x y yt,t,p,af,none⟩::rest) e I:=
 J.qj hx hy rfl hd (by rw [str_beq];exact h)
end
end Go.J
namespace Go.J
open Go.RowKit
set_option linter.unusedVariables false
set_option linter.unusedSimpArgs false
def placesL (P:Program):List Field→Option (List (Nat × Nat))
 | []=>some []
 | f::fs=>match sizeT P f.type,placesL P fs with
  | some k,some r=>some ((f.offset,k)::r)
  | _,_=>none
def placesT (P:Program) (t:TypeId):Option (List (Nat × Nat)):=match P.underlying t with
 | some (.struct fs)=>placesL P fs.toList
 | _=>none
theorem run_places {P:Program} (w:World):∀(l:List Field) (r:List (Nat × Nat)),placesL P l=some r→(l.mapM (m:=Sem) fun f=>do pure (f.offset,← sizeOf f.type)).run P w=.ok r w:=by
 intro l
 induction l with
 | nil=>intro r h;simp only [placesL,Option.some.injEq] at h;subst h;simp
 | cons f fs ih=>
  intro r h
  simp only [placesL] at h
  split at h
  ·rename_i k r' hk hr
   simp only [Option.some.injEq] at h
   subst h
   simp only [List.mapM_cons,Sem.run_bind,run_sizeOf hk,Result.andThen_ok,Sem.run_pure,ih r' hr]
  ·cases h
def evps (e:Env):List (Nat × Operand)→Option (List (Nat × Value))
 | []=>some []
 | (i,x)::xs=>match ev e x,evps e xs with
  | some v,some vs=>some ((i,v)::vs)
  | _,_=>none
theorem Rep.evps {n:Nat} {T:Array Value} {e:Env} (h:Rep n T e):∀ {xs:List (Nat × Operand)} {vs:List (Nat × Value)},J.evps e xs=some vs→xs.map (fun q=>(q.1,(act T).eval q.2))=vs:=by
 intro xs
 induction xs with
 | nil=>intro vs hv;simp [J.evps] at hv;simp [hv]
 | cons q xs ih=>
  obtain ⟨i,x⟩:=q
  intro vs hv
  simp only [J.evps] at hv
  split at hv
  ·rename_i v us hx hus
   simp only [Option.some.injEq] at hv
   subst hv
   simp [h.eval hx,ih hus]
  ·cases hv
def fillL (pl:Nat→Option (Nat × Nat)) (cs:List Value):List (Nat × Value)→Option (List Value)
 | []=>some cs
 | (i,v)::rest=>match pl i with
  | none=>none
  | some (off,size)=>if v.cells.toList.length≠size || off+v.cells.toList.length>cs.length then none else fillL pl (setMany cs off v.cells.toList) rest
theorem fill_fillL {pl:Nat→Option (Nat × Nat)}:∀(parts:List (Nat × Value)) (cs r:List Value),fillL pl cs parts=some r→Instr.fill pl cs.toArray parts=some r.toArray:=by
 intro parts
 induction parts with
 | nil=>intro cs r h;simp only [fillL,Option.some.injEq] at h;subst h;rfl
 | cons q parts ih=>
  obtain ⟨i,v⟩:=q
  intro cs r h
  simp only [fillL] at h
  split at h
  ·cases h
  ·rename_i off size hp
   split at h
   ·cases h
   ·rename_i hc
    simp only [Instr.fill,hp]
    have hc':¬((decide (v.cells.size≠size) || decide (off+v.cells.size>cs.toArray.size))=true):=by simpa using hc
    rw [if_neg hc']
    have key:∀(vs:List Value) (k:Nat) (cs:List Value),(vs.zipIdx k).foldl (fun (a:Array Value) (x:Value × Nat)=>a.setIfInBounds (off+x.2) x.1) cs.toArray=(setMany cs (off+k) vs).toArray:=by
     intro vs
     induction vs with
     | nil=>intro k cs;rfl
     | cons u vs ihv=>
      intro k cs
      simp only [List.zipIdx_cons,List.foldl_cons,List.setIfInBounds_toArray,setMany]
      have:=ihv (k+1) (cs.set (off+k) u)
      rw [this,Nat.add_assoc]
    have h2:v.cells.zipIdx.foldl (fun cs (c,j)=>cs.setIfInBounds (off+j) c) cs.toArray=(setMany cs off v.cells.toList).toArray:=by
     have:=key v.cells.toList 0 cs
     rw [Nat.add_zero] at this
     rw [← this,← Array.foldl_toList,Array.toList_zipIdx]
    rw [h2]
    exact ih _ _ h
section
variable {P:Program} {ops:Array Oper} {Q:Exit→Act→World→Prop} {n:Nat} {e:Env} {I I':World→Prop} {rest:List Oper}
variable {d t yt:Nat} {p:String} {af:Array Edge} {x y z:Operand} {v v1 v2:Value} {w0:World} {S:List Nat} {l l' lp:List (Nat × Obj)}
theorem J.qY {ty:TypeId} {ps:List (Nat × Operand)} {pl:List (Nat × Nat)} {vs:List (Nat × Value)} {zs cs:List Value} (hp:placesT P ty=some pl) (hz:zeroT P ty=some (.agg zs.toArray)) (hx:evps e ps=some vs)
  (hf:fillL (fun i:Nat=>pl[i]?) zs vs=some cs) (hd:Nat.blt d n=true)
  (h:J P ops Q n rest ((d,.agg cs.toArray)::e) I):J P ops Q n (⟨some d,.build ty ps.toArray,t,p,af,none⟩::rest) e I:=by
 refine J.zf hd (fun T w ht hw=>⟨w,?_,hw⟩) h
 unfold placesT at hp
 split at hp
 ·rename_i fs hu
  have hr':(fs.mapM (m:=Sem) fun f=>do pure (f.offset,← sizeOf f.type)).run P w=.ok pl.toArray w:=by
   rw [← Array.toArray_toList (xs:=fs),List.mapM_toArray]
   simp only [Sem.run_map,run_places w fs.toList pl hp,Result.andThen_ok]
  have hpm:(ps.toArray.map fun q=>(q.1,(act T).eval q.2)).toList=vs:=by simp [ht.evps hx]
  have hfill:=fill_fillL vs zs cs hf
  have hpl:(fun i:Nat=>pl.toArray[i]?)=(fun i:Nat=>pl[i]?):=by funext i;simp
  have hpm':(ps.toArray.map fun (i,x)=>(i,(act T).eval x)).toList=vs:=hpm
  simp only [execOp,Instr.build,Sem.run_bind,zz hz,Result.andThen_ok,qM hu,hr',hpm',Value.cells,hpl,hfill,Sem.run_pure]
 ·cases hp
theorem J.buildA {ty el k sz:Nat} {ps:List (Nat × Operand)} {vs:List (Nat × Value)} {zs cs:List Value} (ha:arrT P ty=some (k,el)) (hs:sizeT P el=some sz) (hz:zeroT P ty=some (.agg zs.toArray)) (hx:evps e ps=some vs)
  (hf:fillL (fun i=>some (i*sz,sz)) zs vs=some cs) (hd:Nat.blt d n=true)
  (h:J P ops Q n rest ((d,.agg cs.toArray)::e) I):J P ops Q n (⟨some d,.build ty ps.toArray,t,p,af,none⟩::rest) e I:=by
 refine J.zf hd (fun T w ht hw=>⟨w,?_,hw⟩) h
 have hpm:(ps.toArray.map fun q=>(q.1,(act T).eval q.2)).toList=vs:=by simp [ht.evps hx]
 have hfill:=fill_fillL vs zs cs hf
 have hpm':(ps.toArray.map fun (i,x)=>(i,(act T).eval x)).toList=vs:=hpm
 simp only [execOp,Instr.build,Sem.run_bind,zz hz,Result.andThen_ok,qM (arr_u ha),run_sizeOf hs,hpm',Value.cells,hfill,Sem.run_pure]
theorem J.za {ty el sz len:Nat} {ps:List (Nat × Operand)} {vs:List (Nat × Value)} {zv:Value} {zs cs:List Value} (he:elemT P ty=some el) (hs:sizeT P el=some sz) (hz:zeroT P el=some zv) (hzc:zv.cells=zs.toArray) (hzl:zs.length=sz) (hx:evps e ps=some vs)
  (hlen:Nat.ble (len*sz) 16777216=true) (hf:fillL (fun i=>some (i*sz,sz)) (List.replicate len zs).flatten vs=some cs) (hcl:cs.length=len*sz) (hd:Nat.blt d n=true)
  (h:∀b,J P ops Q n rest ((d,.slice (some ⟨b,0,none⟩) len len)::e) (St w0 S ((b,cb cs el)::l))):J P ops Q n (⟨some d,.buildSlice ty len ps.toArray,t,p,af,none⟩::rest) e (St w0 S l):=by
 refine J.yq (V:=fun b=>.slice (some ⟨b,0,none⟩) len len) hd (fun T w ht hw=>⟨w.heap.size,w.alloc (cb cs el),?_,hw.new (zU w _) (Nat.le_refl _) (yu w _)⟩) h
 have hpm:(ps.toArray.map fun (i,x)=>(i,(act T).eval x)).toList=vs:=by simp [ht.evps hx]
 have hfill:=fill_fillL vs _ cs hf
 have hle:¬(len*sz>2 ^ 24):=by have:=Nat.le_of_ble_eq_true hlen;omega
 have hcells:len*sz≠0→(Array.range (len*sz)).map (zv.cells[·%zv.cells.size]!)=((List.replicate len zs).flatten).toArray:=by
  intro _
  rw [hzc]
  apply Array.ext'
  simp only [Array.toList_map,Array.toList_range,List.size_toArray,hzl]
  apply List.ext_getElem?
  intro i
  have hfl:∀(m i:Nat),((List.replicate m zs).flatten)[i]? = if i<m*sz then zs[i%sz]? else none:=by
   intro m
   induction m with
   | zero=>intro i;simp
   | succ m ih=>
    intro i
    rw [List.replicate_succ,List.flatten_cons,List.getElem?_append,hzl,ih]
    by_cases h1:i<sz
    ·rw [if_pos h1,if_pos (by rw [Nat.add_mul];omega),Nat.mod_eq_of_lt h1]
    ·rw [if_neg h1]
     have:i%sz=(i - sz)%sz:=by
      rw [Nat.mod_eq_sub_mod (by omega)]
     by_cases h2:i - sz<m*sz
     ·rw [if_pos h2,if_pos (by rw [Nat.add_mul];omega),this]
     ·rw [if_neg h2,if_neg (by rw [Nat.add_mul];omega)]
  rw [hfl,List.getElem?_map]
  by_cases h1:i<len*sz
  ·rw [if_pos h1,List.getElem?_range h1]
   have h2:0<sz:=by
    rcases Nat.eq_zero_or_pos sz with h | h
    ·rw [h] at h1;omega
    ·exact h
   have h3:i%sz<zs.length:=by rw [hzl];exact Nat.mod_lt _ h2
   rw [Option.map_some,List.getElem?_eq_getElem h3]
   congr 1
   rw [getElem!_pos zs.toArray (i%sz) (by simpa using h3)]
   simp
  ·rw [if_neg h1,List.getElem?_eq_none (by simp;omega)];rfl
 by_cases hz0:len*sz=0
 ·have he0:(List.replicate len zs).flatten=[]:=List.eq_nil_of_length_eq_zero (by simp [hzl,hz0])
  rw [he0] at hfill
  have h0:(Array.range 0).map (fun _:Nat=>(default:Value))=#[]:=Array.ext' (by simp)
  have hd0:∀f:Nat→Value,(Array.range 0).map f=#[]:=fun f=>Array.ext' (by simp)
  simp only [execOp,Instr.buildSlice,Sem.run_bind,qM (yk he),Result.andThen_ok,run_sizeOf hs,hz0,hpm]
  simp only [show ¬(0>2 ^ 24) by omega,if_false,Sem.run_pure,Result.andThen_ok,if_true,hd0]
  simp [hfill,newRow,cb]
 ·simp only [execOp,Instr.buildSlice,Sem.run_bind,qM (yk he),Result.andThen_ok,run_sizeOf hs,hle,hpm,if_false,Sem.run_pure,hz0,zz hz,hcells hz0,hfill]
  simp [newRow,cb]
end
end Go.J
namespace Go.J
open Go.RowKit
set_option linter.unusedVariables false
set_option linter.unusedSimpArgs false
structure Own (w:World) (l:List (Nat × Obj)):Prop where
 own:∀p,p∈l→w.heap[p.1]? = some p.2
 dist:l.Pairwise (fun p q=>p.1≠q.1)
theorem Own.st {w:World} {l:List (Nat × Obj)} (h:Own w l):St w (l.map (·.1)) l w:=St.startS h.own h.dist
theorem St.owns {w0 w:World} {S:List Nat} {l1 l:List (Nat × Obj)} (h:St w0 S (l1++l) w):Own w l1:=
 ⟨fun p hp=>h.own p (List.mem_append_left _ hp),(List.pairwise_append.1 h.dist).1⟩
theorem St.owns' {w0 w:World} {S:List Nat} {l:List (Nat × Obj)} (h:St w0 S l w):Own w l:=⟨h.own,h.dist⟩
theorem St.call {w0 w w':World} {S:List Nat} {l1 l1' l:List (Nat × Obj)} (h:St w0 S (l1++l) w) (h':St w (l1.map (·.1)) l1' w'):St w0 S (l1'++l) w':=by
 have hd:=List.pairwise_append.1 h.dist
 have hne:∀q,q∈l→q.1 ∉ l1.map (·.1):=by
  intro q hq hm
  obtain ⟨p,hp,he⟩:=List.mem_map.1 hm
  exact hd.2.2 p hp q hq he
 refine ⟨h'.os.trans h.os,h'.tape.trans h.tape,h'.output.trans h.output,Nat.le_trans h.size h'.size,Nat.le_trans h.drawn h'.drawn,fun b hb hS=>?_,fun p hp=>?_,fun p hp=>?_,?_⟩
 ·rw [h'.keep b (Nat.lt_of_lt_of_le hb h.size) ?_]
  ·exact h.keep b hb hS
  ·intro hm
   obtain ⟨p,hp,he⟩:=List.mem_map.1 hm
   rcases h.apart p (List.mem_append_left _ hp) with h1 | h1
   ·exact hS (he ▸ h1)
   ·have:p.1=b:=he
    omega
 ·rcases List.mem_append.1 hp with h1 | h1
  ·exact h'.own p h1
  ·rw [h'.keep p.1 (zj (h.own p (List.mem_append_right _ h1))) (hne p h1)]
   exact h.own p (List.mem_append_right _ h1)
 ·rcases List.mem_append.1 hp with h1 | h1
  ·rcases h'.apart p h1 with h2 | h2
   ·obtain ⟨q,hq,he⟩:=List.mem_map.1 h2
    have:q.1=p.1:=he
    rcases h.apart q (List.mem_append_left _ hq) with h3 | h3
    ·exact .inl (this ▸ h3)
    ·right;omega
   ·right;have:=h.size;omega
  ·exact h.apart p (List.mem_append_right _ h1)
 ·refine List.pairwise_append.2 ⟨h'.dist,hd.2.1,fun p hp q hq he=>?_⟩
  rcases h'.apart p hp with h2 | h2
  ·exact hne q hq (he ▸ h2)
  ·have:=zj (h.own q (List.mem_append_right _ hq))
   omega
theorem St.perm {w0 w:World} {S:List Nat} {l l':List (Nat × Obj)} (h:St w0 S l w) (hp:l.Perm l'):St w0 S l' w:=
 ⟨h.os,h.tape,h.output,h.size,h.drawn,h.keep,fun p hq=>h.own p (hp.mem_iff.2 hq),fun p hq=>h.apart p (hp.mem_iff.2 hq),(hp.pairwise_iff (fun hab=>Ne.symm hab)).1 h.dist⟩
theorem St.swap {w0 w:World} {S:List Nat} {p q:Nat × Obj} {l:List (Nat × Obj)} (h:St w0 S (p::q::l) w):St w0 S (q::p::l) w:=h.perm (.swap q p l)
theorem St.same {w w':World} {l l':List (Nat × Obj)} (h0:Own w l) (h:St w (l.map (·.1)) l' w') (hs:∀p,p∈l→p∈l'):Bel w w':=
 ⟨⟨h.os,h.tape,h.output,h.size,fun k hk=>by
  by_cases hm:k∈l.map (·.1)
  ·obtain ⟨p,hp,rfl⟩:=List.mem_map.1 hm
   rw [h.own p (hs p hp),h0.own p hp]
  ·exact h.keep k hk hm⟩,h.drawn⟩
theorem Own.keep {w w':World} {l:List (Nat × Obj)} (h0:Own w l) (hb:Bel w w'):St w (l.map (·.1)) l w':=h0.st.step hb
theorem Vec.form {t sz k:Nat} {v:Value} {xs:List Value} {lp:List (Nat × Obj)} (h:Vec t sz v k xs lp):∃a c,v=.slice a k c∧k≤c:=by
 obtain ⟨_,h⟩:=h
 rcases h with ⟨rfl,rfl,_⟩ | ⟨b,c,sp,rfl,_,_,hk⟩
 ·exact ⟨_,_,rfl,Nat.le_refl _⟩
 ·exact ⟨_,_,rfl,hk⟩
theorem Row.slice {w:World} {a:Option Addr} {k c sz i j:Nat} {xs:List Value} (h:Row w (.slice a k c) k xs) (hl:xs.length=k*sz) (hij:i≤j) (hj:j≤k) :
  Row w (.slice (if c=i then a else a.map (·.add (i*sz))) (j - i) (c - i)) (j - i) ((xs.drop (i*sz)).take ((j - i)*sz)):=by
 obtain ⟨a',c',hv,hk,h⟩:=h
 simp only [Value.slice.injEq] at hv
 obtain ⟨rfl,_,rfl⟩:=hv
 refine ⟨_,_,rfl,by omega,?_⟩
 by_cases hc:c=i
 ·left
  have:j - i=0:=by omega
  rw [this];simp
 ·rw [if_neg hc]
  rcases h with h | ⟨b,o,ha,h⟩
  ·left;rw [h];simp
  ·right
   refine ⟨b,o+i*sz,by rw [ha,Option.map_some,zJ],fun q hq=>?_⟩
   simp only [List.length_take,List.length_drop] at hq
   have h1:i*sz+q<xs.length:=by omega
   rw [List.getElem?_take_of_lt (by omega),List.getElem?_drop,Nat.add_assoc]
   exact h (i*sz+q) h1
section
variable {P:Program} {ops:Array Oper} {Q:Exit→Act→World→Prop} {n:Nat} {e:Env} {I I':World→Prop} {rest:List Oper}
variable {d t yt:Nat} {p:String} {af:Array Edge} {x y z:Operand} {v v1 v2:Value} {w0:World} {S:List Nat} {l l' l1 lp:List (Nat × Obj)}
theorem J.qO {f:FuncId} {xs:List Operand} {ats:Array TypeId} {vs:List Value} {α:Type} {V:α→Value} {Pr:α→Prop} {L:α→List (Nat × Obj)} (hb:bodyT P f=true) (hx:evs e xs=some vs) (hd:Nat.blt d n=true)
  (hc:∀w,St w0 S (l1++l) w→Calls P f vs.toArray w fun r w'=>∃x,r=.returned (V x)∧Pr x∧St w (l1.map (·.1)) (L x) w')
  (h:∀x,Pr x→J P ops Q n rest ((d,V x)::e) (St w0 S (L x++l))):J P ops Q n (⟨some d,.call ⟨.value (.func f),xs.toArray,ats⟩,t,p,af,none⟩::rest) e (St w0 S (l1++l)):=by
 refine J.call (R:=fun v w'=>∃x,v=V x∧Pr x∧St w0 S (L x++l) w') hb hx hd (fun w hw=>(hc w hw).mono fun r w' ⟨x,h1,h2,h3⟩=>⟨V x,h1,x,rfl,h2,hw.call h3⟩) (fun v=>J.ex fun x=>J.pr fun hv=>J.pr fun hp=>?_)
 subst hv
 exact h x hp
theorem J.qR {f:FuncId} {xs:List Operand} {ats:Array TypeId} {vs:List Value} (hI:∀w w',I w→Bel w w'→I w') (hb:bodyT P f=true) (hx:evs e xs=some vs) (hd:Nat.blt d n=true)
  (hc:∀w,I w→Calls P f vs.toArray w fun r w'=>r=.returned v∧Bel w w')
  (h:J P ops Q n rest ((d,v)::e) I):J P ops Q n (⟨some d,.call ⟨.value (.func f),xs.toArray,ats⟩,t,p,af,none⟩::rest) e I:=by
 refine J.call (R:=fun v' w'=>v'=v∧I w') hb hx hd (fun w hw=>(hc w hw).mono fun r w' ⟨h1,h2⟩=>⟨v,h1,rfl,hI w w' hw h2⟩) (fun v'=>J.pr fun hv=>?_)
 subst hv
 exact h
theorem J.zK {ty el:TypeId} {len b o:Nat} (he:arrT P ty=some (len,el)) (hs:(sizeT P el).isSome=true) (hx:ev e x=some (.pointer (some ⟨b,o,none⟩))) (hd:Nat.blt d n=true)
  (h:J P ops Q n rest ((d,.slice (some ⟨b,o,none⟩) len len)::e) I):J P ops Q n (⟨some d,.slice ty x none none none,t,p,af,none⟩::rest) e I:=by
 obtain ⟨sz,hs⟩:=Option.isSome_iff_exists.1 hs
 refine J.sliceA (i:=0) (j:=len) he hs hx rfl rfl rfl rfl (Nat.zero_le _) (Nat.le_refl _) hd ?_
 have:(if len=0 then o else o+0*sz)=o:=by split <;> omega
 rw [this]
 exact h
theorem J.qG {ty:TypeId} {a b:Int} (hx:ev e x=some (.int .i64 a)) (hy:ev e y=some (.int .i64 b)) (h1 : -9223372036854775808≤a+b) (h2:a+b<9223372036854775808) (hd:Nat.blt d n=true)
  (h:J P ops Q n rest ((d,.int .i64 (a+b))::e) I):J P ops Q n (⟨some d,.binOp .add ty x y yt,t,p,af,none⟩::rest) e I:=
 J.qj hx hy rfl hd (by rw [qV h1 h2];exact h)
theorem J.zn {ty:TypeId} {a b:Int} (hx:ev e x=some (.int .i64 a)) (hy:ev e y=some (.int .i64 b)) (h1 : -9223372036854775808≤a - b) (h2:a - b<9223372036854775808) (hd:Nat.blt d n=true)
  (h:J P ops Q n rest ((d,.int .i64 (a - b))::e) I):J P ops Q n (⟨some d,.binOp .sub ty x y yt,t,p,af,none⟩::rest) e I:=
 J.qj hx hy rfl hd (by rw [qV h1 h2];exact h)
theorem J.zO {ty:TypeId} {a b:Int} (hx:ev e x=some (.int .i64 a)) (hy:ev e y=some (.int .i64 b)) (h1 : -9223372036854775808≤a*b) (h2:a*b<9223372036854775808) (hd:Nat.blt d n=true)
  (h:J P ops Q n rest ((d,.int .i64 (a*b))::e) I):J P ops Q n (⟨some d,.binOp .mul ty x y yt,t,p,af,none⟩::rest) e I:=
 J.qj hx hy rfl hd (by rw [qV h1 h2];exact h)
theorem J.ym {ty:TypeId} {a b:Int} (hx:ev e x=some (.int .i64 a)) (hy:ev e y=some (.int .i64 b)) (h1:0≤a) (h2:a<9223372036854775808) (h3:0<b) (hd:Nat.blt d n=true)
  (h:J P ops Q n rest ((d,.int .i64 (a / b))::e) I):J P ops Q n (⟨some d,.binOp .quo ty x y yt,t,p,af,none⟩::rest) e I:=by
 refine J.qj (v:=.int .i64 (IntKind.i64.wrap (a.tdiv b))) hx hy ?_ hd ?_
 ·simp only [binI,if_true]
  rw [if_neg (by omega)]
 ·rw [Int.tdiv_eq_ediv_of_nonneg h1]
  have h4:0≤a / b:=Int.ediv_nonneg h1 (by omega)
  have h5:a / b≤a:=Int.ediv_le_self b h1
  rw [qV (by omega) (by omega)]
  exact h
theorem J.remN {ty:TypeId} {a b:Int} (hx:ev e x=some (.int .i64 a)) (hy:ev e y=some (.int .i64 b)) (h1:0≤a) (h3:0<b) (hd:Nat.blt d n=true)
  (h:J P ops Q n rest ((d,.int .i64 (a%b))::e) I):J P ops Q n (⟨some d,.binOp .rem ty x y yt,t,p,af,none⟩::rest) e I:=by
 refine J.qj (v:=.int .i64 (a.tmod b)) hx hy ?_ hd ?_
 ·simp only [binI,if_true]
  rw [if_neg (by omega)]
 ·rw [Int.tmod_eq_emod_of_nonneg h1];exact h
end
def Eqv (c:Value):Value→World→Prop:=fun v _=>v=c
def AllSt:List (Value→World→Prop)→Prop
 | []=>True
 | φ::r=>(∀v w w',φ v w→Bel w w'→φ v w')∧AllSt r
theorem AllSt.getD:∀ {l:List (Value→World→Prop)},AllSt l→∀i v w w',l.getD i (fun _ _=>True) v w→Bel w w'→l.getD i (fun _ _=>True) v w'
 | [],_,_,_,_,_,_,_=>by simp
 | φ::r,hl,i,v,w,w',h,hb=>by
  cases i with
  | zero=>exact hl.1 v w w' h hb
  | succ i=>simp only [List.getD_cons_succ] at h ⊢;exact AllSt.getD hl.2 i v w w' h hb
theorem JC.zc {P:Program} {Q:Exit→Act→World→Prop} {n id:Nat} {l:List Oper} {e:Env} {I:World→Prop} (N:Nat) (φs:List (Value→World→Prop)) {ds:List Nat}
  (hm:P.follows .mixedOrders=true) (hds:dsts (l.take N)=some ds) (hnd:nodupB ds=true) (hN:Nat.ble N l.length=true) (hB:headB l N=true)
  (hlt:(ds.all fun d=>Nat.blt d n)=true) (hkeys:(ds.all fun d=>(get e d).isNone)=true)
  (hI:∀w w',I w→Bel w w'→I w') (hφ:AllSt φs)
  (hstep:Steps P l n ds (fun i=>φs.getD i (fun _ _=>True)) e I 0 (l.take N))
  (htail:Fin ds (fun i=>φs.getD i (fun _ _=>True)) (List.range N) e I (fun e' I'=>J P l.toArray Q n (l.drop N) e' I')):JC P Q n (.region id l.toArray true) e I:=
 JC.draw N _ hm hds hnd hN hB hlt hkeys hI (fun i v w w' h hb=>hφ.getD i v w w' h hb) hstep htail
def AllInd:List (Value→World→Prop)→Prop
 | []=>True
 | φ::r=>(∀v w w',φ v w→φ v w')∧AllInd r
theorem AllInd.getD:∀ {l:List (Value→World→Prop)} {b:Nat},AllInd (l.take b)→∀i,i<b→∀v w w',l.getD i (fun _ _=>True) v w→l.getD i (fun _ _=>True) v w'
 | [],_,_,_,_,_,_,_=>by simp
 | φ::r,b,hl,i,hi,v,w,w'=>by
  cases b with
  | zero=>omega
  | succ b=>
   intro h
   cases i with
   | zero=>exact hl.1 v w w' h
   | succ i=>simp only [List.getD_cons_succ] at h ⊢;exact AllInd.getD (b:=b) hl.2 i (by omega) v w w' h
section
variable {P:Program} {ops:Array Oper} {Q:Exit→Act→World→Prop} {n:Nat} {e:Env} {I I':World→Prop} {rest:List Oper}
variable {d t yt:Nat} {p:String} {af:Array Edge} {x y z:Operand} {v v1 v2:Value}
theorem Fin.mono {ds:List Nat} {Φ:Nat→Value→World→Prop}:∀(js:List Nat) (e:Env) (I I':World→Prop),(∀w,I w→I' w)→Fin ds Φ js e I' (fun e' I'=>J P ops Q n rest e' I')→Fin ds Φ js e I (fun e' I'=>J P ops Q n rest e' I')
 | [],_,_,_,hi,h=>J.conseq h hi
 | _::js,_,_,_,hi,h=>fun v=>Fin.mono js _ _ _ (fun w hw=>⟨hw.1,hi w hw.2⟩) (h v)
theorem Fin.pr {p:Prop} {ds:List Nat} {Φ:Nat→Value→World→Prop}:∀(js:List Nat) (e:Env) (I:World→Prop),(p→Fin ds Φ js e I (fun e' I'=>J P ops Q n rest e' I'))→Fin ds Φ js e (fun w=>p∧I w) (fun e' I'=>J P ops Q n rest e' I')
 | [],_,_,h=>J.pr h
 | _::js,_,_,h=>fun v=>Fin.mono js _ _ _ (fun w hw=>⟨hw.2.1,hw.1,hw.2.2⟩) (Fin.pr js _ _ fun hp=>h hp v)
theorem Fin.qc {c:Value} {ds:List Nat} {Φ:Nat→Value→World→Prop} {j:Nat} {js:List Nat} {I:World→Prop} (hΦ:Φ j=Eqv c) (h:Fin ds Φ js ((ds.getD j 0,c)::e) I (fun e' I'=>J P ops Q n rest e' I')) :
  Fin ds Φ (j::js) e I (fun e' I'=>J P ops Q n rest e' I'):=by
 refine Fin.cons (fun v=>?_)
 rw [hΦ]
 exact Fin.pr js _ _ (fun hv=>by cases hv;exact h)
theorem J.qm {d:Nat} {c:Value} {wi:World} (hv:get e d=some c):J P ops (QF d (Eqv c) wi) n [] e (fun w=>w=wi∧I w):=
 J.nil (JX.fin hv fun w hw=>⟨rfl,by rw [hw.1];exact Bel.refl _⟩)
theorem J.zQ {d:Nat} {c:Value} {wi:World} (hv:get e d=some c):J P ops (QF d (Eqv c) wi) n [] e (fun w=>Bel wi w):=
 J.nil (JX.fin hv fun w hw=>⟨rfl,hw⟩)
theorem J.zD {f:FuncId} {xs:List Operand} {ats:Array TypeId} {vs:List Value} {wi:World} (hb:bodyT P f=true) (hx:evs e xs=some vs) (hd:Nat.blt d n=true)
  (hc:∀w,I w→Calls P f vs.toArray w fun r w'=>r=.returned v∧Bel w w')
  (h:J P ops Q n rest ((d,v)::e) (fun w=>Bel wi w)):J P ops Q n (⟨some d,.call ⟨.value (.func f),xs.toArray,ats⟩,t,p,af,none⟩::rest) e (fun w=>w=wi∧I w):=by
 refine J.call (R:=fun v' w'=>v'=v∧Bel wi w') hb hx hd (fun w hw=>?_) (fun v'=>J.pr fun hv=>?_)
 ·obtain ⟨rfl,hw⟩:=hw
  exact (hc w hw).mono fun r w' ⟨h1,h2⟩=>⟨v,h1,rfl,h2⟩
 ·subst hv
  exact h
theorem J.prR {A:World→Prop} {wi:World} (h:J P ops Q n rest e (fun w=>w=wi∧(A w∧I w))):J P ops Q n rest e (fun w=>A w∧(w=wi∧I w)):=
 h.conseq fun _ hw=>⟨hw.2.1,hw.1,hw.2.2⟩
theorem J.drop {A:World→Prop} (h:J P ops Q n rest e I):J P ops Q n rest e (fun w=>A w∧I w):=h.conseq fun _ hw=>hw.2
theorem J.fresh {wi:World} (h:J P ops Q n rest e (St wi [] [])):J P ops Q n rest e (fun w=>w=wi∧I w):=
 h.conseq fun w hw=>by rw [hw.1];exact St.start wi
def RowP (k:Nat) (xs:List Value):Value→World→Prop:=fun v w=>Row w v k xs
theorem RowP.st (k:Nat) (xs:List Value):∀v w w',RowP k xs v w→Bel w w'→RowP k xs v w':=fun _ _ _ h hb=>Row.below h hb
theorem J.callT {f:FuncId} {xs:List Operand} {ats:Array TypeId} {vs:List Value} {w0:World} {S:List Nat} {l l1 L:List (Nat × Obj)} (hb:bodyT P f=true) (hx:evs e xs=some vs) (hd:Nat.blt d n=true)
  (hc:∀w,St w0 S (l1++l) w→Calls P f vs.toArray w fun r w'=>r=.returned v∧St w (l1.map (·.1)) L w')
  (h:J P ops Q n rest ((d,v)::e) (St w0 S (L++l))):J P ops Q n (⟨some d,.call ⟨.value (.func f),xs.toArray,ats⟩,t,p,af,none⟩::rest) e (St w0 S (l1++l)):=
 J.qO (α:=Unit) (V:=fun _=>v) (Pr:=fun _=>True) (L:=fun _=>L) hb hx hd (fun w hw=>(hc w hw).mono fun _ _ hr=>⟨(),hr.1,trivial,hr.2⟩) (fun _ _=>h)
theorem J.sub {w0:World} {S:List Nat} {l l':List (Nat × Obj)} (hs:l'.Sublist l) (h:J P ops Q n rest e (St w0 S l')):J P ops Q n rest e (St w0 S l):=h.conseq fun _ hw=>hw.drop hs
end
theorem St.off {w0 w:World} {S:List Nat} {l1 l:List (Nat × Obj)} {b:Nat} {o:Obj} (h:St w0 S (l1++l) w) (hm:(b,o)∈l):b ∉ l1.map (·.1):=by
 intro hb
 obtain ⟨q,hq,he⟩:=List.mem_map.1 hb
 exact (List.pairwise_append.1 h.dist).2.2 q hq _ hm he
theorem Off.mk {S:List Nat} {b o k c:Nat} {xs:List Value} (h:b ∉ S):Off S (.slice (some ⟨b,o,none⟩) k c) xs:=
 .inr fun b' o' k' c' he=>by
  simp only [Value.slice.injEq,Option.some.injEq,Addr.mk.injEq] at he
  obtain ⟨⟨rfl,_⟩,_⟩:=he
  exact h
theorem Vec.off {w0 w:World} {S:List Nat} {l1 l lp:List (Nat × Obj)} {t sz k:Nat} {v:Value} {xs:List Value} (h:Vec t sz v k xs lp) (hw:St w0 S (l1++(lp++l)) w):Off (l1.map (·.1)) v xs:=by
 obtain ⟨hl,h⟩:=h
 rcases h with ⟨rfl,rfl,rfl⟩ | ⟨b,c,sp,rfl,rfl,_,_⟩
 ·left;exact List.eq_nil_of_length_eq_zero (by simpa using hl)
 ·exact Off.mk (hw.off (List.mem_append_left _ (.head _)))
theorem u8_succ (b:UInt8):Value.int .u8 (IntKind.u8.wrap ((b.toNat:Int)+1))=u8 (b+1):=by
 rw [yM]
 show Value.int .u8 _=Value.int .u8 _
 congr 1
section
variable {P:Program} {ops:Array Oper} {Q:Exit→Act→World→Prop} {n:Nat} {e:Env} {rest:List Oper}
variable {d t:Nat} {p:String} {af:Array Edge} {x y z:Operand} {v:Value} {w0:World} {S:List Nat} {l l':List (Nat × Obj)}
end
end Go.J
namespace Go.J
open Go.RowKit
set_option linter.unusedVariables false
set_option linter.unusedSimpArgs false
theorem JX.q5 {P:Program} {fn:Func} {R:Ending→World→Prop} {n:Nat} {e:Env} {I:World→Prop} {t u s:Nat} {v v' v'':Value} (hr:fn.results=#[.tmp t,.tmp u,.tmp s]) (hv:get e t=some v) (hv':get e u=some v') (hv'':get e s=some v'') (h:∀w,I w→R (.returned (.tuple #[v,v',v''])) w) :
  JX (bodyPost P fn R) n .ret e I:=by
 intro T w ht hw
 refine ⟨rfl,.tuple #[v,v',v''],?_,h w hw⟩
 rw [results_tmp3 hr,Array.getD_eq_getD_getElem?,Array.getD_eq_getD_getElem?,Array.getD_eq_getD_getElem?,ht.2 t v hv,ht.2 u v' hv',ht.2 s v'' hv''];rfl
noncomputable def cntB (a:Nat × Obj) (l:List (Nat × Obj)):Nat:=by classical exact l.count a
noncomputable def oneB (a x:Nat × Obj):Nat:=by classical exact if x==a then 1 else 0
theorem cntB_nil (a:Nat × Obj):cntB a []=0:=by simp [cntB]
theorem cntB_cons (a x:Nat × Obj) (l:List (Nat × Obj)):cntB a (x::l)=cntB a l+oneB a x:=by simp [cntB,oneB,List.count_cons]
theorem cntB_append (a:Nat × Obj) (l l':List (Nat × Obj)):cntB a (l++l')=cntB a l+cntB a l':=by simp [cntB,List.count_append]
theorem perm_cnt {l l':List (Nat × Obj)} (h:∀a,cntB a l=cntB a l'):l.Perm l':=by
 classical exact List.perm_iff_count.2 (fun a=>h a)
theorem Vec.at {t m c j:Nat} {a:Option Addr} {ys:List UInt8} {lp:List (Nat × Obj)} (h:Vec t 1 (.slice a m c) m (ys.map u8) lp) (hj:j<m) :
  ∃b sp,a=some ⟨b,0,none⟩∧lp=[(b,cb (ys.map u8++sp) t)]∧ys.length=m∧
   ∀x,Vec t 1 (.slice (some ⟨b,0,none⟩) m c) m ((ys.set j x).map u8) [(b,cb (setMany (ys.map u8++sp) (0+(j:Int).toNat*1) [u8 x]) t)]:=by
 obtain ⟨hl,h⟩:=h
 have hyl:ys.length=m:=by simpa using hl
 rcases h with ⟨_,h0,_⟩ | ⟨b,c',sp,hve,rfl,hcap,hk⟩
 ·omega
 ·simp only [Value.slice.injEq,true_and] at hve
  obtain ⟨rfl,rfl⟩:=hve
  refine ⟨b,sp,rfl,rfl,hyl,fun x=>⟨by simp [hyl],.inr ⟨b,c,sp,rfl,?_,by simp only [List.length_append,List.length_map,List.length_set] at hcap ⊢;exact hcap,hk⟩⟩⟩
  have:0+(j:Int).toNat*1=j:=by simp
  rw [this]
  simp only [setMany]
  rw [List.set_append_left _ _ (by simp;omega),← List.map_set]
theorem at_u8 {ys:List UInt8} {sp:List Value} {j:Nat} (h:j<ys.length):(ys.map u8++sp)[0+(j:Int).toNat*1]? = some (u8 ys[j]):=by
 have:0+(j:Int).toNat*1=j:=by simp
 rw [this,List.getElem?_append_left (by simpa using h)]
 simp [List.getElem?_eq_getElem h]
theorem Row.some {w:World} {v:Value} {k:Nat} {xs:List Value} (h:Row w v k xs) (hx:0<xs.length):∃b o c,v=.slice (some ⟨b,o,none⟩) k c∧k≤c∧Cells w b o xs:=by
 obtain ⟨a,c,rfl,hk,h⟩:=h
 rcases h with h | ⟨b,o,rfl,h⟩
 ·rw [h] at hx;simp at hx
 ·exact ⟨b,o,c,rfl,hk,h⟩
theorem Cells.at_u8 {w:World} {b o:Nat} {bs:List UInt8} (h:Cells w b o (bs.map u8)) {i:Nat} (hi:i<bs.length) {q:Nat} (hq:q=o+i):w.cell? ⟨b,q,none⟩=some (u8 bs[i]):=by
 have:=h i (by simpa using hi)
 rw [hq,this];simp [List.getElem?_eq_getElem hi]
theorem take_add_one {α:Type} {l:List α} {i:Nat} (h:i<l.length):l.take (i+1)=l.take i++[l[i]]:=by
 rw [List.take_add_one,List.getElem?_eq_getElem h];rfl
theorem St.free {w w':World} {l1 l:List (Nat × Obj)} (h0:Own w l1) (h:St w (l1.map (·.1)) (l++l1) w'):St w [] l w':=by
 have hd:=List.pairwise_append.1 h.dist
 refine ⟨h.os,h.tape,h.output,h.size,h.drawn,fun b hb _=>?_,fun p hp=>h.own p (List.mem_append_left _ hp),fun p hp=>?_,hd.1⟩
 ·by_cases hm:b∈l1.map (·.1)
  ·obtain ⟨q,hq,rfl⟩:=List.mem_map.1 hm
   rw [h.own q (List.mem_append_right _ hq),h0.own q hq]
  ·exact h.keep b hb hm
 ·rcases h.apart p (List.mem_append_left _ hp) with h1 | h1
  ·obtain ⟨q,hq,he⟩:=List.mem_map.1 h1
   exact absurd he.symm (hd.2.2 p hp q hq)
  ·exact .inr h1
theorem Own.at {w w':World} {l1 l:List (Nat × Obj)} (h0:Own w l1) (h:St w [] l w'):Own w' l1:=
 ⟨fun p hp=>by rw [h.keep p.1 (zj (h0.own p hp)) (by simp)];exact h0.own p hp,h0.dist⟩
theorem Own.cell {w:World} {l:List (Nat × Obj)} {b o:Nat} {cs:List Value} {t:TypeId} {fr:Nat × Nat} {v:Value} (h:Own w l) (hm:(b,Obj.cells cs.toArray t fr)∈l) (hv:cs[o]? = some v):w.cell? ⟨b,o,none⟩=some v:=by
 rw [qB (h.own _ hm)];exact hv
inductive Recs (t:Nat):List Value→List (List UInt8)→List (Nat × Obj)→Prop
 | nil:Recs t [] [] []
 | snoc {vs:List Value} {rs:List (List UInt8)} {lp l:List (Nat × Obj)} {v:Value} {r:List UInt8}:Recs t vs rs lp→Vec t 1 v r.length (r.map u8) l→Recs t (vs++[v]) (rs++[r]) (lp++l)
theorem Recs.length {t:Nat} {vs:List Value} {rs:List (List UInt8)} {lp:List (Nat × Obj)} (h:Recs t vs rs lp):vs.length=rs.length:=by
 induction h with
 | nil=>rfl
 | snoc _ _ ih=>simp [ih]
theorem Recs.row {t:Nat} {vs:List Value} {rs:List (List UInt8)} {lp:List (Nat × Obj)} (h:Recs t vs rs lp):∀ {w0 w:World} {S:List Nat} {l:List (Nat × Obj)},St w0 S (lp++l) w→∀(i:Nat) (v:Value) (r:List UInt8),vs[i]? = some v→rs[i]? = some r→Row w v r.length (r.map u8):=by
 induction h with
 | nil=>intro w0 w S l _ i v r h;simp at h
 | @snoc vs rs lp l' v r hr hv ih=>
  intro w0 w S l hw i v' r' h1 h2
  rw [List.append_assoc] at hw
  by_cases hi:i<vs.length
  ·rw [List.getElem?_append_left hi] at h1
   rw [List.getElem?_append_left (by rw [← hr.length];exact hi)] at h2
   exact ih hw i v' r' h1 h2
  ·rw [List.getElem?_append_right (by omega)] at h1
   rw [List.getElem?_append_right (by rw [← hr.length];omega)] at h2
   have:i - vs.length=0:=by
    have:=(List.getElem?_eq_some_iff.1 h1).1
    simp at this;omega
   have e2:i - rs.length=0:=by rw [← hr.length];exact this
   rw [this] at h1
   rw [e2] at h2
   simp only [List.getElem?_cons_zero,Option.some.injEq] at h1 h2
   subst h1;subst h2
   exact hv.row (l:=lp++l) (hw.perm (by
    rw [← List.append_assoc,← List.append_assoc]
    exact List.Perm.append_right _ List.perm_append_comm))
def RowRecs (w:World) (v:Value) (rs:List (List UInt8)):Prop:=∃vs,Row w v rs.length vs∧vs.length=rs.length∧∀(i:Nat) (u:Value) (r:List UInt8),vs[i]? = some u→rs[i]? = some r→Row w u r.length (r.map u8)
theorem RowRecs.nil (w:World):RowRecs w (.slice none 0 0) []:=⟨[],⟨none,0,rfl,Nat.le_refl _,.inl rfl⟩,rfl,fun i u r h=>by simp at h⟩
theorem RowRecs.of {t t':Nat} {v:Value} {vs:List Value} {rs:List (List UInt8)} {lv lp l:List (Nat × Obj)} {w0 w:World} {S:List Nat} (hv:Vec t 1 v rs.length vs lv) (hr:Recs t' vs rs lp) (hw:St w0 S (lv++lp++l) w):RowRecs w v rs:=
 ⟨vs,hv.row (l:=lp++l) (by rw [List.append_assoc] at hw;exact hw),hr.length,fun i u r h1 h2=>hr.row (l:=l) (hw.drop (by rw [List.append_assoc];exact List.sublist_append_right _ _)) i u r h1 h2⟩
theorem RowRecs.below {w w':World} {v:Value} {rs:List (List UInt8)} (h:RowRecs w v rs) (hb:Bel w w'):RowRecs w' v rs:=by
 obtain ⟨vs,h1,h2,h3⟩:=h
 exact ⟨vs,h1.below hb,h2,fun i u r e1 e2=>(h3 i u r e1 e2).below hb⟩
theorem Cells.st {w0 w:World} {b o:Nat} {xs:List Value} {l:List (Nat × Obj)} (h:Cells w0 b o xs) (hx:0<xs.length) (hw:St w0 [] l w):Cells w b o xs:=
 h.blk (hw.keep b (h.lt (by intro e;rw [e] at hx;simp at hx)) (by simp))
theorem Cells.get {w:World} {b o:Nat} {xs:List Value} (h:Cells w b o xs) {i:Nat} {v:Value} (hv:xs[i]? = some v) {q:Nat} (hq:q=o+i):w.cell? ⟨b,q,none⟩=some v:=by
 have hi:i<xs.length:=(List.getElem?_eq_some_iff.1 hv).1
 rw [hq,h i hi];exact hv
theorem run_convBytes {P:Program} {w:World} {t e b k c:Nat} {cs:List Value} (ht:P.underlying t=some (.slice e)) (he:P.underlying e=some (.int .u8)) (hb:w.heap[b]? = some (cb cs e)) :
  ∃w',(convert t t (.slice (some ⟨b,0,none⟩) k c)).run P w=.ok (.slice (some ⟨b,0,none⟩) k c) w'∧Wrote w w' b (.cells cs.toArray e (cs.length,cs.length+1)):=by
 refine ⟨w.freeze ⟨b,cs.length,none⟩ 1,?_,?_⟩
 ·simp [convert,qM ht,qM he,markStringish,World.shape?,hb]
 ·unfold World.freeze
  rw [if_neg (by decide)]
  refine ⟨rfl,rfl,rfl,by simp,rfl,?_,fun k hk=>?_⟩
  ·simp [Array.getElem?_modify,hb]
  ·simp only [Array.getElem?_modify]
   rw [if_neg (fun e=>hk e.symm)]
section
variable {P:Program} {ops:Array Oper} {Q:Exit→Act→World→Prop} {n:Nat} {e:Env} {I:World→Prop} {rest:List Oper}
variable {d t:Nat} {p:String} {af:Array Edge} {x y z:Operand} {v:Value} {w0:World} {S:List Nat} {l l':List (Nat × Obj)}
theorem J.shrN {ty:TypeId} {k k':IntKind} {a b:Int} {yt:Nat} (hx:ev e x=some (.int k a)) (hy:ev e y=some (.int k' b)) (hb:0≤b) (hd:Nat.blt d n=true)
  (h:J P ops Q n rest ((d,.int k (a.fdiv (2 ^ (min b.toNat k.bits))))::e) I):J P ops Q n (⟨some d,.binOp .shr ty x y yt,t,p,af,none⟩::rest) e I:=
 J.qj hx hy (by simp only [binI];rw [if_neg (by omega)]) hd h
theorem J.convBytes {ty el b k c:Nat} {cs:List Value} (hs:P.underlying ty=some (.slice el)) (he:P.underlying el=some (.int .u8)) (hx:ev e x=some (.slice (some ⟨b,0,none⟩) k c)) (hu:Up l b (cb cs el) (.cells cs.toArray el (cs.length,cs.length+1)) l') (hd:Nat.blt d n=true)
  (h:J P ops Q n rest ((d,.slice (some ⟨b,0,none⟩) k c)::e) (St w0 S l')):J P ops Q n (⟨some d,.convert ty ty x,t,p,af,none⟩::rest) e (St w0 S l):=by
 refine J.zf hd (fun T w ht hw=>?_) h
 obtain ⟨w',hr,hw'⟩:=run_convBytes (P:=P) (k:=k) (c:=c) hs he (hw.own _ hu.mem)
 exact ⟨w',by simp [execOp,ht.eval hx,hr],hw.wrote hu hw'⟩
theorem J.perm (l':List (Nat × Obj)) (hp:l.Perm l') (h:J P ops Q n rest e (St w0 S l')):J P ops Q n rest e (St w0 S l):=h.conseq fun _ hw=>hw.perm hp
theorem J.callR {f:FuncId} {xs:List Operand} {ats:Array TypeId} {vs:List Value} {k:Nat} {ys:List Value} {wi:World} (hb:bodyT P f=true) (hx:evs e xs=some vs) (hd:Nat.blt d n=true)
  (hc:∀w,I w→Calls P f vs.toArray w fun r w'=>∃v,r=.returned v∧Row w' v k ys∧Bel w w')
  (h:∀v,J P ops Q n rest ((d,v)::e) (fun w=>Row w v k ys∧Bel wi w)):J P ops Q n (⟨some d,.call ⟨.value (.func f),xs.toArray,ats⟩,t,p,af,none⟩::rest) e (fun w=>w=wi∧I w):=by
 refine J.call (R:=fun v' w'=>Row w' v' k ys∧Bel wi w') hb hx hd (fun w hw=>?_) h
 obtain ⟨rfl,hw⟩:=hw
 exact (hc w hw).mono fun r w' ⟨v,h1,h2,h3⟩=>⟨v,h1,h2,h3⟩
end
end Go.J
namespace Go.J
theorem zp {a b:List (Nat × Obj)} (h:a.Perm b:=by (refine perm_cnt (fun _=>?_));simp only [cntB_append,cntB_cons,cntB_nil,Nat.add_zero,Nat.zero_add];try ac_rfl):a.Perm b:=h
theorem zm {α:Type} {x:α} {l:List α} (h:x∈l:=by repeat first | exact .head _ | apply List.Mem.tail | apply List.mem_append_right):x∈l:=h
theorem zu {l:List (Nat × Obj)} {b:Nat} {o o':Obj} {l':List (Nat × Obj)} (h:Up l b o o' l':=by repeat first | exact .here | apply Up.there):Up l b o o' l':=h
theorem zq {α:Type} {l1 l2:List α} (h:∀q,q∈l1→q∈l2:=by intro q hq;first | (simp [hq];done) | (simp at hq;simp [hq];done) | (simp at hq;subst hq;simp)):∀q,q∈l1→q∈l2:=h
end Go.J
namespace Go.Proofs.Ytoaenmlhehcjfaa
namespace Ty
open Go.J
theorem mixed:Try.prog.follows .mixedOrders=true:=by kernel_rfl
theorem u2:Try.prog.underlying 2=some (.int .i64):=by kernel_rfl
theorem a2:aggT Try.prog 2=some false:=by kernel_rfl
theorem s2:sizeT Try.prog 2=some 1:=by kernel_rfl
theorem b2:bytesT Try.prog 2=some 8:=by kernel_rfl
theorem u3:Try.prog.underlying 3=some (.int .i64):=by kernel_rfl
theorem a3:aggT Try.prog 3=some false:=by kernel_rfl
theorem s3:sizeT Try.prog 3=some 1:=by kernel_rfl
theorem b3:bytesT Try.prog 3=some 8:=by kernel_rfl
theorem z3:zeroT Try.prog 3=some (.int .i64 0):=by kernel_rfl
theorem u4:Try.prog.underlying 4=some (.bool):=by kernel_rfl
theorem a4:aggT Try.prog 4=some false:=by kernel_rfl
theorem s4:sizeT Try.prog 4=some 1:=by kernel_rfl
theorem b4:bytesT Try.prog 4=some 1:=by kernel_rfl
theorem z4:zeroT Try.prog 4=some (.bool false):=by kernel_rfl
theorem u5:Try.prog.underlying 5=some (.int .u8):=by kernel_rfl
theorem a5:aggT Try.prog 5=some false:=by kernel_rfl
theorem s5:sizeT Try.prog 5=some 1:=by kernel_rfl
theorem b5:bytesT Try.prog 5=some 1:=by kernel_rfl
theorem z5:zeroT Try.prog 5=some (.int .u8 0):=by kernel_rfl
theorem a6:aggT Try.prog 6=some false:=by kernel_rfl
theorem b6:bytesT Try.prog 6=some 1:=by kernel_rfl
theorem a7:aggT Try.prog 7=some true:=by kernel_rfl
theorem b7:bytesT Try.prog 7=some 24:=by kernel_rfl
theorem b8:bytesT Try.prog 8=some 24:=by kernel_rfl
theorem u9:Try.prog.underlying 9=some (.string):=by kernel_rfl
theorem a9:aggT Try.prog 9=some false:=by kernel_rfl
theorem z9:zeroT Try.prog 9=some (.string ByteArray.empty):=by kernel_rfl
theorem zX:bytesT Try.prog 10=some 16:=by kernel_rfl
theorem q6:bytesT Try.prog 11=some 16:=by kernel_rfl
theorem zb:bytesT Try.prog 12=some 8:=by kernel_rfl
theorem zt:bytesT Try.prog 13=some 24:=by kernel_rfl
theorem b14:bytesT Try.prog 14=some 24:=by kernel_rfl
theorem b15:bytesT Try.prog 15=some 8:=by kernel_rfl
theorem b16:bytesT Try.prog 16=some 8:=by kernel_rfl
theorem a17:aggT Try.prog 17=some false:=by kernel_rfl
theorem b19:bytesT Try.prog 19=some 8:=by kernel_rfl
theorem zW:bytesT Try.prog 21=some 4:=by kernel_rfl
theorem a22:aggT Try.prog 22=some true:=by kernel_rfl
theorem z22:zeroT Try.prog 22=some (.agg (List.replicate 16 (.int .u8 0):List Value).toArray):=by kernel_rfl
theorem u23:Try.prog.underlying 23=some (.array 16 5):=by kernel_rfl
theorem a23:aggT Try.prog 23=some true:=by kernel_rfl
theorem s23:sizeT Try.prog 23=some 16:=by kernel_rfl
theorem b23:bytesT Try.prog 23=some 16:=by kernel_rfl
theorem z23:zeroT Try.prog 23=some (.agg (List.replicate 16 (.int .u8 0):List Value).toArray):=by kernel_rfl
theorem ar23:arrT Try.prog 23=some (16,5):=by kernel_rfl
theorem a25:aggT Try.prog 25=some true:=by kernel_rfl
theorem s25:sizeT Try.prog 25=some 17:=by kernel_rfl
theorem b25:bytesT Try.prog 25=some 24:=by kernel_rfl
theorem z25:zeroT Try.prog 25=some (.agg ([.int .i64 0]++List.replicate 16 (.int .u8 0):List Value).toArray):=by kernel_rfl
theorem pl25:placesT Try.prog 25=some [(0,1),(1,16)]:=by kernel_rfl
theorem fd25_0:fieldT Try.prog 25 0=some 0:=by kernel_rfl
theorem fd25_1:fieldT Try.prog 25 1=some 1:=by kernel_rfl
theorem u26:Try.prog.underlying 26=some (.slice 5):=by kernel_rfl
theorem a26:aggT Try.prog 26=some false:=by kernel_rfl
theorem s26:sizeT Try.prog 26=some 1:=by kernel_rfl
theorem b26:bytesT Try.prog 26=some 24:=by kernel_rfl
theorem z26:zeroT Try.prog 26=some (.slice none 0 0):=by kernel_rfl
theorem el26:elemT Try.prog 26=some 5:=by kernel_rfl
theorem b27:bytesT Try.prog 27=some 64:=by kernel_rfl
theorem a28:aggT Try.prog 28=some true:=by kernel_rfl
theorem s28:sizeT Try.prog 28=some 34:=by kernel_rfl
theorem b28:bytesT Try.prog 28=some 64:=by kernel_rfl
theorem pl28:placesT Try.prog 28=some [(0,16),(16,17),(33,1)]:=by kernel_rfl
theorem fd28_0:fieldT Try.prog 28 0=some 0:=by kernel_rfl
theorem fd28_1:fieldT Try.prog 28 1=some 16:=by kernel_rfl
theorem fd28_2:fieldT Try.prog 28 2=some 33:=by kernel_rfl
theorem u34:Try.prog.underlying 34=some (.pointer 93):=by kernel_rfl
theorem a34:aggT Try.prog 34=some false:=by kernel_rfl
theorem u37:Try.prog.underlying 37=some (.int .u64):=by kernel_rfl
theorem yQ:bytesT Try.prog 37=some 8:=by kernel_rfl
theorem u38:Try.prog.underlying 38=some (.pointer 99):=by kernel_rfl
theorem a39:aggT Try.prog 39=some false:=by kernel_rfl
theorem b39:bytesT Try.prog 39=some 8:=by kernel_rfl
theorem z39:zeroT Try.prog 39=some (.int .i64 0):=by kernel_rfl
theorem u44:Try.prog.underlying 44=some (.slice 28):=by kernel_rfl
theorem a44:aggT Try.prog 44=some false:=by kernel_rfl
theorem s44:sizeT Try.prog 44=some 1:=by kernel_rfl
theorem el44:elemT Try.prog 44=some 28:=by kernel_rfl
theorem u57:Try.prog.underlying 57=some (.slice 26):=by kernel_rfl
theorem el57:elemT Try.prog 57=some 26:=by kernel_rfl
theorem a58:aggT Try.prog 58=some false:=by kernel_rfl
theorem a60:aggT Try.prog 60=some false:=by kernel_rfl
theorem a66:aggT Try.prog 66=some true:=by kernel_rfl
theorem z66:zeroT Try.prog 66=some (.agg ([.slice none 0 0,.int .i64 0,.int .i64 0]:List Value).toArray):=by kernel_rfl
theorem z67:zeroT Try.prog 67=some (.agg ([.slice none 0 0,.int .i64 0,.int .i64 0]:List Value).toArray):=by kernel_rfl
theorem pl67:placesT Try.prog 67=some [(0,1),(1,1),(2,1)]:=by kernel_rfl
theorem fd67_0:fieldT Try.prog 67 0=some 0:=by kernel_rfl
theorem fd67_1:fieldT Try.prog 67 1=some 1:=by kernel_rfl
theorem fd67_2:fieldT Try.prog 67 2=some 2:=by kernel_rfl
theorem u68:Try.prog.underlying 68=some (.pointer 74):=by kernel_rfl
theorem b73:bytesT Try.prog 73=some 40:=by kernel_rfl
theorem z74:zeroT Try.prog 74=some (.agg ([.pointer none,.slice none 0 0,.int .i64 0]:List Value).toArray):=by kernel_rfl
theorem pl74:placesT Try.prog 74=some [(0,1),(1,1),(2,1)]:=by kernel_rfl
theorem fd74_0:fieldT Try.prog 74 0=some 0:=by kernel_rfl
theorem fd74_1:fieldT Try.prog 74 1=some 1:=by kernel_rfl
theorem fd74_2:fieldT Try.prog 74 2=some 2:=by kernel_rfl
theorem u76:Try.prog.underlying 76=some (.slice 78):=by kernel_rfl
theorem a76:aggT Try.prog 76=some false:=by kernel_rfl
theorem z76:zeroT Try.prog 76=some (.slice none 0 0):=by kernel_rfl
theorem el76:elemT Try.prog 76=some 78:=by kernel_rfl
theorem a77:aggT Try.prog 77=some true:=by kernel_rfl
theorem z77:zeroT Try.prog 77=some (.agg ([.int .i64 0,.int .i64 0]++List.replicate 16 (.int .u8 0)++[.int .i64 0]++List.replicate 16 (.int .u8 0)++[.slice none 0 0]:List Value).toArray):=by kernel_rfl
theorem a78:aggT Try.prog 78=some true:=by kernel_rfl
theorem s78:sizeT Try.prog 78=some 36:=by kernel_rfl
theorem b78:bytesT Try.prog 78=some 80:=by kernel_rfl
theorem fd78_0:fieldT Try.prog 78 0=some 0:=by kernel_rfl
theorem fd78_1:fieldT Try.prog 78 1=some 1:=by kernel_rfl
theorem fd78_2:fieldT Try.prog 78 2=some 2:=by kernel_rfl
theorem u81:Try.prog.underlying 81=some (.int .u64):=by kernel_rfl
theorem a81:aggT Try.prog 81=some false:=by kernel_rfl
theorem s81:sizeT Try.prog 81=some 1:=by kernel_rfl
theorem z81:zeroT Try.prog 81=some (.int .u64 0):=by kernel_rfl
theorem z83:zeroT Try.prog 83=some (.agg ([.pointer none,.int .u64 0,.int .i64 0,.int .i64 0,.bool false]:List Value).toArray):=by kernel_rfl
theorem pl83:placesT Try.prog 83=some [(0,1),(1,1),(2,1),(3,1),(4,1)]:=by kernel_rfl
theorem fd83_0:fieldT Try.prog 83 0=some 0:=by kernel_rfl
theorem fd83_1:fieldT Try.prog 83 1=some 1:=by kernel_rfl
theorem fd83_2:fieldT Try.prog 83 2=some 2:=by kernel_rfl
theorem fd83_3:fieldT Try.prog 83 3=some 3:=by kernel_rfl
theorem fd83_4:fieldT Try.prog 83 4=some 4:=by kernel_rfl
theorem u91:Try.prog.underlying 91=some (.slice 117):=by kernel_rfl
theorem a91:aggT Try.prog 91=some false:=by kernel_rfl
theorem el91:elemT Try.prog 91=some 117:=by kernel_rfl
theorem a92:aggT Try.prog 92=some true:=by kernel_rfl
theorem b93:bytesT Try.prog 93=some 40:=by kernel_rfl
theorem z93:zeroT Try.prog 93=some (.agg ([.slice none 0 0,.int .i64 0,.int .i64 0]:List Value).toArray):=by kernel_rfl
theorem pl93:placesT Try.prog 93=some [(0,1),(1,1),(2,1)]:=by kernel_rfl
theorem fd93_0:fieldT Try.prog 93 0=some 0:=by kernel_rfl
theorem fd93_1:fieldT Try.prog 93 1=some 1:=by kernel_rfl
theorem fd93_2:fieldT Try.prog 93 2=some 2:=by kernel_rfl
theorem u94:Try.prog.underlying 94=some (.pointer 124):=by kernel_rfl
theorem a94:aggT Try.prog 94=some false:=by kernel_rfl
theorem u97:Try.prog.underlying 97=some (.map 23 28):=by kernel_rfl
theorem a97:aggT Try.prog 97=some false:=by kernel_rfl
theorem z99:zeroT Try.prog 99=some (.agg ([.pointer none,.map none,.int .i64 0]:List Value).toArray):=by kernel_rfl
theorem pl99:placesT Try.prog 99=some [(0,1),(1,1),(2,1)]:=by kernel_rfl
theorem fd99_0:fieldT Try.prog 99 0=some 0:=by kernel_rfl
theorem fd99_1:fieldT Try.prog 99 1=some 1:=by kernel_rfl
theorem fd99_2:fieldT Try.prog 99 2=some 2:=by kernel_rfl
theorem u101:Try.prog.underlying 101=some (.slice 23):=by kernel_rfl
theorem a101:aggT Try.prog 101=some false:=by kernel_rfl
theorem s101:sizeT Try.prog 101=some 1:=by kernel_rfl
theorem el101:elemT Try.prog 101=some 23:=by kernel_rfl
theorem s117:sizeT Try.prog 117=some 64:=by kernel_rfl
theorem b117:bytesT Try.prog 117=some 64:=by kernel_rfl
theorem z117:zeroT Try.prog 117=some (.agg (List.replicate 64 (.int .u8 0):List Value).toArray):=by kernel_rfl
theorem ar117:arrT Try.prog 117=some (64,5):=by kernel_rfl
theorem u118:Try.prog.underlying 118=some (.slice 81):=by kernel_rfl
theorem el118:elemT Try.prog 118=some 81:=by kernel_rfl
theorem z124:zeroT Try.prog 124=some (.agg ([.pointer none,.int .u64 0,.int .i64 0,.int .i64 0,.bool false]:List Value).toArray):=by kernel_rfl
theorem pl124:placesT Try.prog 124=some [(0,1),(1,1),(2,1),(3,1),(4,1)]:=by kernel_rfl
theorem fd124_0:fieldT Try.prog 124 0=some 0:=by kernel_rfl
theorem fd124_1:fieldT Try.prog 124 1=some 1:=by kernel_rfl
theorem fd124_2:fieldT Try.prog 124 2=some 2:=by kernel_rfl
theorem fd124_3:fieldT Try.prog 124 3=some 3:=by kernel_rfl
theorem fd124_4:fieldT Try.prog 124 4=some 4:=by kernel_rfl
theorem s135:sizeT Try.prog 135=some 3:=by kernel_rfl
theorem z135:zeroT Try.prog 135=some (.agg ([.int .u64 0,.int .u64 0,.int .u64 0]:List Value).toArray):=by kernel_rfl
theorem ar135:arrT Try.prog 135=some (3,81):=by kernel_rfl
theorem b151:bytesT Try.prog 151=some 4:=by kernel_rfl
theorem bd10:bodyT Try.prog 10=true:=by kernel_rfl
theorem bd11:bodyT Try.prog 11=true:=by kernel_rfl
theorem bd12:bodyT Try.prog 12=true:=by kernel_rfl
theorem bd13:bodyT Try.prog 13=true:=by kernel_rfl
theorem bd14:bodyT Try.prog 14=true:=by kernel_rfl
theorem bd15:bodyT Try.prog 15=true:=by kernel_rfl
theorem bd16:bodyT Try.prog 16=true:=by kernel_rfl
theorem bd17:bodyT Try.prog 17=true:=by kernel_rfl
theorem bd18:bodyT Try.prog 18=true:=by kernel_rfl
theorem bd19:bodyT Try.prog 19=true:=by kernel_rfl
theorem bd20:bodyT Try.prog 20=true:=by kernel_rfl
theorem bd21:bodyT Try.prog 21=true:=by kernel_rfl
theorem bd22:bodyT Try.prog 22=true:=by kernel_rfl
theorem bd24:bodyT Try.prog 24=true:=by kernel_rfl
theorem bd25:bodyT Try.prog 25=true:=by kernel_rfl
theorem bd27:bodyT Try.prog 27=true:=by kernel_rfl
theorem bd28:bodyT Try.prog 28=true:=by kernel_rfl
theorem bd29:bodyT Try.prog 29=true:=by kernel_rfl
theorem bd30:bodyT Try.prog 30=true:=by kernel_rfl
theorem bd31:bodyT Try.prog 31=true:=by kernel_rfl
theorem bd32:bodyT Try.prog 32=true:=by kernel_rfl
theorem bd33:bodyT Try.prog 33=true:=by kernel_rfl
theorem bd34:bodyT Try.prog 34=true:=by kernel_rfl
theorem bd35:bodyT Try.prog 35=true:=by kernel_rfl
theorem bd36:bodyT Try.prog 36=true:=by kernel_rfl
theorem bd37:bodyT Try.prog 37=true:=by kernel_rfl
theorem bd38:bodyT Try.prog 38=true:=by kernel_rfl
theorem bd39:bodyT Try.prog 39=true:=by kernel_rfl
theorem bd40:bodyT Try.prog 40=true:=by kernel_rfl
theorem bd41:bodyT Try.prog 41=true:=by kernel_rfl
theorem bd42:bodyT Try.prog 42=true:=by kernel_rfl
theorem bd43:bodyT Try.prog 43=true:=by kernel_rfl
theorem bd44:bodyT Try.prog 44=true:=by kernel_rfl
theorem bd45:bodyT Try.prog 45=true:=by kernel_rfl
theorem bd46:bodyT Try.prog 46=true:=by kernel_rfl
theorem bd47:bodyT Try.prog 47=true:=by kernel_rfl
theorem bd48:bodyT Try.prog 48=true:=by kernel_rfl
theorem bd49:bodyT Try.prog 49=true:=by kernel_rfl
theorem bd50:bodyT Try.prog 50=true:=by kernel_rfl
theorem bd51:bodyT Try.prog 51=true:=by kernel_rfl
theorem bd52:bodyT Try.prog 52=true:=by kernel_rfl
theorem bd53:bodyT Try.prog 53=true:=by kernel_rfl
theorem bd54:bodyT Try.prog 54=true:=by kernel_rfl
theorem bd55:bodyT Try.prog 55=true:=by kernel_rfl
theorem bd56:bodyT Try.prog 56=true:=by kernel_rfl
theorem bd57:bodyT Try.prog 57=true:=by kernel_rfl
theorem bd58:bodyT Try.prog 58=true:=by kernel_rfl
theorem bd59:bodyT Try.prog 59=true:=by kernel_rfl
theorem bd60:bodyT Try.prog 60=true:=by kernel_rfl
theorem bd61:bodyT Try.prog 61=true:=by kernel_rfl
theorem bd62:bodyT Try.prog 62=true:=by kernel_rfl
theorem bd63:bodyT Try.prog 63=true:=by kernel_rfl
theorem bd64:bodyT Try.prog 64=true:=by kernel_rfl
theorem bd65:bodyT Try.prog 65=true:=by kernel_rfl
theorem bd66:bodyT Try.prog 66=true:=by kernel_rfl
theorem bd67:bodyT Try.prog 67=true:=by kernel_rfl
theorem bd68:bodyT Try.prog 68=true:=by kernel_rfl
theorem bd69:bodyT Try.prog 69=true:=by kernel_rfl
theorem bd70:bodyT Try.prog 70=true:=by kernel_rfl
theorem bd71:bodyT Try.prog 71=true:=by kernel_rfl
theorem bd72:bodyT Try.prog 72=true:=by kernel_rfl
theorem bd73:bodyT Try.prog 73=true:=by kernel_rfl
theorem bd74:bodyT Try.prog 74=true:=by kernel_rfl
theorem bd76:bodyT Try.prog 76=true:=by kernel_rfl
theorem bd77:bodyT Try.prog 77=true:=by kernel_rfl
theorem bd80:bodyT Try.prog 80=true:=by kernel_rfl
theorem bd81:bodyT Try.prog 81=true:=by kernel_rfl
theorem bd82:bodyT Try.prog 82=true:=by kernel_rfl
end Ty
open Go.J Go.RowKit
set_option linter.unusedVariables false
set_option linter.unusedSimpArgs false
set_option maxRecDepth 4000
abbrev dkO (s n:Nat) (p k:Int):Obj:=cb [.slice (some ⟨s,0,none⟩) n n,.int .i64 p,.int .i64 k] 93
abbrev dkS (B:List UInt8):Obj:=cb (B.map u8) 117
theorem flat64 (n:Nat):(List.replicate n (List.replicate 64 (Value.int .u8 0))).flatten=(List.replicate (64*n) (0:UInt8)).map u8:=by
 rw [List.flatten_replicate_replicate,List.map_replicate,Nat.mul_comm];rfl
def sec (B:List UInt8) (i:Nat):List UInt8:=(B.drop (64*i)).take 64
theorem sec_length {B:List UInt8} {n:Nat} (hB:B.length=64*n) (i:Int) (hi:0≤i) (hi2:i<(n:Int)):(sec B i.toNat).length=64:=by
 simp only [sec,List.length_take,List.length_drop];omega
theorem sec_cells {B:List UInt8} {n:Nat} (hB:B.length=64*n) (i:Int) (hi:0≤i) (hi2:i<(n:Int)) :
  ((B.map u8).drop (0+i.toNat*64)).take ((sec B i.toNat).map u8).length=(sec B i.toNat).map u8:=by
 rw [List.length_map,sec_length hB i hi hi2]
 simp only [sec,List.map_take,List.map_drop]
 congr 2;omega
def put (B:List UInt8) (i:Nat) (bs:List UInt8):List UInt8:=B.take (64*i)++(bs++List.replicate (64 - bs.length) 0)++B.drop (64*i+64)
theorem yf {B:List UInt8} {n:Nat} (hB:B.length=64*n) {i:Nat} (hi:i<n) {bs:List UInt8} (hb:bs.length≤64):(put B i bs).length=64*n:=by
 simp only [put,List.length_append,List.length_take,List.length_drop,List.length_replicate];omega
theorem put_cells {B:List UInt8} {n:Nat} (hB:B.length=64*n) {i:Nat} (hi:i<n) {bs:List UInt8} (hb:bs.length≤64) :
  setMany (setMany (B.map u8) (0+i*64) (List.replicate 64 (Value.int .u8 0))) (0+i*64) (bs.map u8)=(put B i bs).map u8:=by
 rw [yr _ _ _ (by simp;omega),yr _ _ _ (by simp;omega)]
 simp only [put,List.map_append,List.map_take,List.map_drop,List.length_map,List.length_replicate,List.map_replicate]
 have e1:(List.replicate 64 (Value.int .u8 0))=List.replicate bs.length (Value.int .u8 0)++List.replicate (64 - bs.length) (Value.int .u8 0):=by
  rw [List.replicate_append_replicate];congr 1;omega
 have m:((B.map u8).take (0+i*64)).length=0+i*64:=by simp;omega
 rw [e1]
 have t1:List.take (0+i*64) (List.take (0+i*64) (B.map u8)++(List.replicate bs.length (Value.int .u8 0)++List.replicate (64 - bs.length) (Value.int .u8 0))++(B.map u8).drop (0+i*64+64))=(B.map u8).take (0+i*64):=by
  rw [List.append_assoc,List.take_append_of_le_length (by omega),List.take_take,Nat.min_self]
 have t2:List.drop (0+i*64+bs.length) (List.take (0+i*64) (B.map u8)++(List.replicate bs.length (Value.int .u8 0)++List.replicate (64 - bs.length) (Value.int .u8 0))++(B.map u8).drop (0+i*64+64))=List.replicate (64 - bs.length) (Value.int .u8 0)++(B.map u8).drop (0+i*64+64):=by
  rw [show 0+i*64+bs.length=((B.map u8).take (0+i*64)).length+bs.length by omega,List.append_assoc,List.append_assoc,List.drop_append,List.drop_eq_nil_of_le (by omega),List.nil_append]
  rw [show ((B.map u8).take (0+i*64)).length+bs.length - ((B.map u8).take (0+i*64)).length=bs.length by omega]
  have:bs.length=(List.replicate bs.length (Value.int .u8 0)).length:=by simp
  conv=>lhs;arg 1;rw [this]
  rw [List.drop_left']
  rfl
 rw [t1,t2]
 have z:u8 0=Value.int .u8 0:=rfl
 simp only [List.append_assoc,z,Nat.zero_add,Nat.mul_comm]
theorem new_spec (k:Int) (w:World) :
  Calls Try.prog 15 [.int .i64 k].toArray w fun r w'=>∃x:Nat × Nat,r=.returned (.pointer (some ⟨x.1,0,none⟩))∧True∧St w [] [(x.1,dkO x.2 (min (max k 0) 4096).toNat (-1) 0),(x.2,dkS (List.replicate (64*(min (max k 0) 4096).toNat) 0))] w':=by
 refine qD (args:=[.int .i64 k]) (e:=[(0,.int .i64 k)]) Try.func15 rfl rfl ⟨rfl,trivial⟩ (St.start w) ?_;refine JC.seq (fun K0 hK0=>?_);refine JC.region<|J.assign rfl rfl<|J.nil ?_;refine JX.qd (hK0 _ _ ?_);refine JC.seq (fun K1 hK1=>?_);refine JC.region<|J.qe rfl rfl<|J.max2 rfl rfl rfl<|J.min2 rfl rfl rfl ?_;refine J.make Ty.el91 Ty.s117 Ty.b117 Ty.z117 rfl rfl rfl rfl (by omega) (by omega) (by omega) rfl (fun b6=>?_);refine J.qY Ty.pl93 Ty.z93 rfl rfl rfl ?_;refine J.box rfl rfl rfl (fun b8=>?_);refine J.assign rfl rfl<|J.nil ?_;refine JX.qd (hK1 _ _ ?_);refine JC.qA ?_;refine JX.qL rfl rfl (fun w hw=>?_)
 rw [flat64] at hw
 exact ⟨(b8,b6),rfl,trivial,hw⟩
theorem yA (d s n:Nat) (p k:Int) (w:World) {l:List (Nat × Obj)} (hw0:Own w ((d,dkO s n p k)::l)) :
  Calls Try.prog 60 [.pointer (some ⟨d,0,none⟩)].toArray w fun r w'=>r=.returned (.int .i64 n)∧Bel w w':=by
 refine qD (args:=[.pointer (some ⟨d,0,none⟩)]) (e:=[(0,.pointer (some ⟨d,0,none⟩))]) Try.func60 rfl rfl ⟨rfl,trivial⟩ (hw0.st) ?_;refine JC.seq (fun K0 hK0=>?_);refine JC.region<|J.assign rfl rfl<|J.nil ?_;refine JX.qd (hK0 _ _ ?_);refine JC.seq (fun K1 hK1=>?_);refine JC.seq (fun K2 hK2=>?_);refine JC.region<|J.qe rfl rfl<|J.zh Ty.u34 rfl rfl rfl<|J.nil ?_;refine JX.qd (hK2 _ _ ?_)
 first | refine JC.qI rfl ?_ | refine JC.qn rfl (fun h=>by first | (exfalso;simp at h;omega) | (simp at h)) (fun _=>?_)
 refine JC.skip ?_;refine JX.qd (hK1 _ _ ?_);refine JC.seq (fun K3 hK3=>?_);refine JC.region<|J.qe rfl rfl<|J.qq rfl rfl<|J.qi Ty.fd93_0 rfl rfl<|J.qQ Ty.a91 rfl zm (by exact rfl) rfl ?_;refine J.qK rfl Ty.u91 rfl rfl<|J.assign rfl rfl<|J.nil ?_;refine JX.qd (hK3 _ _ ?_);refine JC.qA ?_;refine JX.qL rfl rfl (fun w hw=>?_)
 exact ⟨rfl,hw.same hw0 (fun p hp=>hp)⟩
theorem power_spec (d s n:Nat) (p k q:Int) (w:World) (hw0:Own w [(d,dkO s n p k)]) :
  Calls Try.prog 16 [.pointer (some ⟨d,0,none⟩),.int .i64 q].toArray w fun r w'=>r=.returned (.tuple #[])∧St w [d] [(d,dkO s n (max q (-1)) k)] w':=by
 refine qD (args:=[.pointer (some ⟨d,0,none⟩),.int .i64 q]) (e:=[(0,.pointer (some ⟨d,0,none⟩)),(1,.int .i64 q)]) Try.func16 rfl rfl ⟨rfl,rfl,trivial⟩ (hw0.st) ?_;refine JC.seq (fun K0 hK0=>?_);refine JC.region<|J.qe rfl rfl<|J.neNil Ty.u34 rfl rfl rfl<|J.nil ?_;refine JX.qd (hK0 _ _ ?_)
 first | refine JC.qP rfl ?_ | refine JC.qn rfl (fun _=>?_) (fun h=>by first | (exfalso;simp at h;omega) | (simp at h))
 refine JC.region<|J.qe rfl rfl<|J.qe rfl rfl<|J.max2 rfl rfl rfl<|J.qq rfl rfl<|J.qi Ty.fd93_1 rfl rfl<|J.qU Ty.s3 rfl rfl rfl rfl (by simp [Value.oneCell']) zu (by simp) ?_;refine J.nil ?_;refine JX.end0 rfl (fun w hw=>?_)
 exact ⟨rfl,hw⟩
theorem read_spec (d s n:Nat) (B:List UInt8) (p k i:Int) (w:World) (hw0:Own w [(d,dkO s n p k),(s,dkS B)]) (hB:B.length=64*n) (hi:0≤i) (hi2:i<(n:Int)) :
  Calls Try.prog 61 [.pointer (some ⟨d,0,none⟩),.int .i64 i].toArray w fun r w'=>∃x:Value × List (Nat × Obj),r=.returned (.tuple #[x.1,.int .i64 0])∧Vec 5 1 x.1 64 ((sec B i.toNat).map u8) x.2∧St w [d,s] (x.2++[(d,dkO s n p k),(s,dkS B)]) w':=by
 refine qD (args:=[.pointer (some ⟨d,0,none⟩),.int .i64 i]) (e:=[(0,.pointer (some ⟨d,0,none⟩)),(1,.int .i64 i)]) Try.func61 rfl rfl ⟨rfl,rfl,trivial⟩ (hw0.st) ?_;refine JC.seq (fun K0 hK0=>?_);refine JC.region<|J.assign rfl rfl<|J.assign rfl rfl<|J.nil ?_;refine JX.qd (hK0 _ _ ?_);refine JC.seq (fun K1 hK1=>?_);refine JC.seq (fun K2 hK2=>?_);refine JC.region<|J.qe rfl rfl<|J.zh Ty.u34 rfl rfl rfl<|J.qe rfl rfl ?_
 first | refine J.skip rfl rfl rfl rfl rfl ?_ | refine J.qh rfl rfl rfl rfl ?_ | (refine J.qf rfl rfl rfl ?_;refine J.qe rfl rfl ?_)
 first | refine J.skip rfl rfl rfl rfl rfl ?_ | refine J.qh rfl rfl rfl rfl ?_ | (refine J.qf rfl rfl rfl ?_;refine J.qj rfl rfl rfl rfl ?_)
 (first | refine J.qr rfl rfl rfl ?_ | refine J.qs rfl rfl rfl ?_)
 refine J.qe rfl rfl ?_;refine J.z6 12 rfl (fun h=>by first | (exfalso;simp at h;omega) | (simp at h)) (fun _=>?_)
 first | refine J.skip rfl rfl rfl rfl rfl ?_ | refine J.qh rfl rfl rfl rfl ?_ | (refine J.qf rfl rfl rfl ?_;refine J.qe rfl rfl ?_)
 first | refine J.skip rfl rfl rfl rfl rfl ?_ | refine J.qh rfl rfl rfl rfl ?_ | (refine J.qf rfl rfl rfl ?_;refine J.qe rfl rfl ?_)
 first | refine J.skip rfl rfl rfl rfl rfl ?_ | refine J.qh rfl rfl rfl rfl ?_ | (refine J.qf rfl rfl rfl ?_;refine J.qq rfl rfl ?_)
 first | refine J.skip rfl rfl rfl rfl rfl ?_ | refine J.qh rfl rfl rfl rfl ?_ | (refine J.qf rfl rfl rfl ?_;refine J.qi Ty.fd93_0 rfl rfl ?_)
 first | refine J.skip rfl rfl rfl rfl rfl ?_ | refine J.qh rfl rfl rfl rfl ?_ | (refine J.qf rfl rfl rfl ?_;refine J.qQ Ty.a91 rfl zm (by exact rfl) rfl ?_)
 first | refine J.skip rfl rfl rfl rfl rfl ?_ | refine J.qh rfl rfl rfl rfl ?_ | (refine J.qf rfl rfl rfl ?_;refine J.qK rfl Ty.u91 rfl rfl ?_)
 first | refine J.skip rfl rfl rfl rfl rfl ?_ | refine J.qh rfl rfl rfl rfl ?_ | (refine J.qf rfl rfl rfl ?_;refine J.qj rfl rfl rfl rfl ?_)
 (first | refine J.qr rfl rfl rfl ?_ | refine J.qs rfl rfl rfl ?_)
 refine J.nil ?_;refine JX.qd (hK2 _ _ ?_)
 first | refine JC.qI rfl ?_ | refine JC.qn rfl (fun h=>by first | (exfalso;simp at h;omega) | (simp at h)) (fun _=>?_)
 refine JC.skip ?_;refine JX.qd (hK1 _ _ ?_);refine JC.seq (fun K3 hK3=>?_);refine JC.region ?_;refine J.za Ty.el26 Ty.s5 Ty.z5 rfl rfl rfl rfl rfl rfl rfl (fun zW=>?_);refine J.qe rfl rfl<|J.qq rfl rfl<|J.qi Ty.fd93_0 rfl rfl<|J.qQ Ty.a91 rfl zm (by exact rfl) rfl ?_;refine J.qe rfl rfl<|J.qu Ty.el91 Ty.s117 rfl rfl (by omega) (by omega) rfl ?_;refine J.zK Ty.ar117 (by rw [Ty.s5];rfl) rfl rfl ?_;refine J.qZ (lp:=[(zW,cb [] 5)]) (xs:=[]) (ys:=(sec B i.toNat).map u8) (k:=0) (m:=64) Ty.el26 Ty.s5 Ty.b5 Ty.z5 rfl (.inl ⟨5,Ty.u26⟩) rfl rfl ⟨rfl,.inr ⟨zW,0,[],rfl,rfl,rfl,Nat.le_refl _⟩⟩ (fun w hw=>.inl ?_) ?_ (zk _) (by omega) (by omega) rfl (fun v29 lp29 hv29=>?_)
 ·exact Row.own (cs:=B.map u8) (tb:=117) (fr:=(0,0)) hw (.tail _ (.tail _ (.head _))) (sec_cells hB i hi hi2) (Nat.le_refl _)
 ·rw [List.length_map,sec_length hB i hi hi2]
 refine J.assign rfl rfl<|J.assign rfl rfl<|J.nil ?_;refine JX.qd (hK3 _ _ ?_);refine JC.qA ?_;refine JX.zr rfl rfl rfl (fun w hw=>?_)
 exact ⟨(v29,lp29),rfl,by simpa using hv29,hw⟩
theorem write_long (d s n:Nat) (p k:Int) (w:World) {l:List (Nat × Obj)} (hw0:Own w ((d,dkO s n p k)::l)) (i:Int) (a:Option Addr) (m c:Nat) (hi:0≤i) (hi2:i<(n:Int)) (hm:64<m) :
  Calls Try.prog 68 [.pointer (some ⟨d,0,none⟩),.int .i64 i,.slice a m c].toArray w fun r w'=>r=.returned (.int .i64 4)∧Bel w w':=by
 refine qD (args:=[.pointer (some ⟨d,0,none⟩),.int .i64 i,.slice a m c]) (e:=[(0,.pointer (some ⟨d,0,none⟩)),(1,.int .i64 i),(2,.slice a m c)]) Try.func68 rfl rfl ⟨rfl,rfl,rfl,trivial⟩ (hw0.st) ?_;refine JC.seq (fun K0 hK0=>?_);refine JC.region<|J.assign rfl rfl<|J.nil ?_;refine JX.qd (hK0 _ _ ?_);refine JC.seq (fun K1 hK1=>?_);refine JC.block ?_;refine JC.seq (fun K2 hK2=>?_);refine JC.region<|J.qe rfl rfl<|J.zh Ty.u34 rfl rfl rfl<|J.qe rfl rfl ?_
 first | refine J.skip rfl rfl rfl rfl rfl ?_ | refine J.qh rfl rfl rfl rfl ?_ | (refine J.qf rfl rfl rfl ?_;refine J.qe rfl rfl ?_)
 first | refine J.skip rfl rfl rfl rfl rfl ?_ | refine J.qh rfl rfl rfl rfl ?_ | (refine J.qf rfl rfl rfl ?_;refine J.qj rfl rfl rfl rfl ?_)
 (first | refine J.qr rfl rfl rfl ?_ | refine J.qs rfl rfl rfl ?_)
 refine J.qe rfl rfl ?_;refine J.z6 14 rfl (fun h=>by first | (exfalso;simp at h;omega) | (simp at h)) (fun _=>?_)
 first | refine J.skip rfl rfl rfl rfl rfl ?_ | refine J.qh rfl rfl rfl rfl ?_ | (refine J.qf rfl rfl rfl ?_;refine J.qe rfl rfl ?_)
 first | refine J.skip rfl rfl rfl rfl rfl ?_ | refine J.qh rfl rfl rfl rfl ?_ | (refine J.qf rfl rfl rfl ?_;refine J.qe rfl rfl ?_)
 first | refine J.skip rfl rfl rfl rfl rfl ?_ | refine J.qh rfl rfl rfl rfl ?_ | (refine J.qf rfl rfl rfl ?_;refine J.qq rfl rfl ?_)
 first | refine J.skip rfl rfl rfl rfl rfl ?_ | refine J.qh rfl rfl rfl rfl ?_ | (refine J.qf rfl rfl rfl ?_;refine J.qi Ty.fd93_0 rfl rfl ?_)
 first | refine J.skip rfl rfl rfl rfl rfl ?_ | refine J.qh rfl rfl rfl rfl ?_ | (refine J.qf rfl rfl rfl ?_;refine J.qQ Ty.a91 rfl zm (by exact rfl) rfl ?_)
 first | refine J.skip rfl rfl rfl rfl rfl ?_ | refine J.qh rfl rfl rfl rfl ?_ | (refine J.qf rfl rfl rfl ?_;refine J.qK rfl Ty.u91 rfl rfl ?_)
 first | refine J.skip rfl rfl rfl rfl rfl ?_ | refine J.qh rfl rfl rfl rfl ?_ | (refine J.qf rfl rfl rfl ?_;refine J.qj rfl rfl rfl rfl ?_)
 (first | refine J.qr rfl rfl rfl ?_ | refine J.qs rfl rfl rfl ?_)
 refine J.assign rfl rfl<|J.nil ?_;refine JX.qd (hK2 _ _ ?_)
 first | refine JC.qI rfl ?_ | refine JC.qn rfl (fun h=>by first | (exfalso;simp at h;omega) | (simp at h)) (fun _=>?_)
 refine JC.seq (fun K3 hK3=>?_);refine JC.region<|J.qe rfl rfl<|J.qK rfl Ty.u26 rfl rfl<|J.qj rfl rfl rfl rfl<|J.assign rfl rfl<|J.nil ?_;refine JX.qd (hK3 _ _ ?_)
 first | refine JC.qP rfl ?_ | refine JC.qn rfl (fun _=>?_) (fun h=>by first | (exfalso;simp at h;omega) | (simp at h))
 refine JC.seq (fun K4 hK4=>?_);refine JC.region<|J.assign rfl rfl<|J.nil ?_;refine JX.qd (hK4 _ _ ?_);refine JC.qA<|JX.qH<|JX.qt ?_;refine JX.qL rfl rfl (fun w hw=>?_)
 exact ⟨rfl,hw.same hw0 (fun p hp=>hp)⟩
theorem write_down (d s n:Nat) (k:Int) (w:World) {l:List (Nat × Obj)} (hw0:Own w ((d,dkO s n 0 k)::l)) (i:Int) (a:Option Addr) (m c:Nat) (hi:0≤i) (hi2:i<(n:Int)) (hm:m≤64) :
  Calls Try.prog 68 [.pointer (some ⟨d,0,none⟩),.int .i64 i,.slice a m c].toArray w fun r w'=>r=.returned (.int .i64 8)∧Bel w w':=by
 refine qD (args:=[.pointer (some ⟨d,0,none⟩),.int .i64 i,.slice a m c]) (e:=[(0,.pointer (some ⟨d,0,none⟩)),(1,.int .i64 i),(2,.slice a m c)]) Try.func68 rfl rfl ⟨rfl,rfl,rfl,trivial⟩ (hw0.st) ?_;refine JC.seq (fun K0 hK0=>?_);refine JC.region<|J.assign rfl rfl<|J.nil ?_;refine JX.qd (hK0 _ _ ?_);refine JC.seq (fun K1 hK1=>?_);refine JC.block ?_;refine JC.seq (fun K2 hK2=>?_);refine JC.region<|J.qe rfl rfl<|J.zh Ty.u34 rfl rfl rfl<|J.qe rfl rfl ?_
 first | refine J.skip rfl rfl rfl rfl rfl ?_ | refine J.qh rfl rfl rfl rfl ?_ | (refine J.qf rfl rfl rfl ?_;refine J.qe rfl rfl ?_)
 first | refine J.skip rfl rfl rfl rfl rfl ?_ | refine J.qh rfl rfl rfl rfl ?_ | (refine J.qf rfl rfl rfl ?_;refine J.qj rfl rfl rfl rfl ?_)
 (first | refine J.qr rfl rfl rfl ?_ | refine J.qs rfl rfl rfl ?_)
 refine J.qe rfl rfl ?_;refine J.z6 14 rfl (fun h=>by first | (exfalso;simp at h;omega) | (simp at h)) (fun _=>?_)
 first | refine J.skip rfl rfl rfl rfl rfl ?_ | refine J.qh rfl rfl rfl rfl ?_ | (refine J.qf rfl rfl rfl ?_;refine J.qe rfl rfl ?_)
 first | refine J.skip rfl rfl rfl rfl rfl ?_ | refine J.qh rfl rfl rfl rfl ?_ | (refine J.qf rfl rfl rfl ?_;refine J.qe rfl rfl ?_)
 first | refine J.skip rfl rfl rfl rfl rfl ?_ | refine J.qh rfl rfl rfl rfl ?_ | (refine J.qf rfl rfl rfl ?_;refine J.qq rfl rfl ?_)
 first | refine J.skip rfl rfl rfl rfl rfl ?_ | refine J.qh rfl rfl rfl rfl ?_ | (refine J.qf rfl rfl rfl ?_;refine J.qi Ty.fd93_0 rfl rfl ?_)
 first | refine J.skip rfl rfl rfl rfl rfl ?_ | refine J.qh rfl rfl rfl rfl ?_ | (refine J.qf rfl rfl rfl ?_;refine J.qQ Ty.a91 rfl zm (by exact rfl) rfl ?_)
 first | refine J.skip rfl rfl rfl rfl rfl ?_ | refine J.qh rfl rfl rfl rfl ?_ | (refine J.qf rfl rfl rfl ?_;refine J.qK rfl Ty.u91 rfl rfl ?_)
 first | refine J.skip rfl rfl rfl rfl rfl ?_ | refine J.qh rfl rfl rfl rfl ?_ | (refine J.qf rfl rfl rfl ?_;refine J.qj rfl rfl rfl rfl ?_)
 (first | refine J.qr rfl rfl rfl ?_ | refine J.qs rfl rfl rfl ?_)
 refine J.assign rfl rfl<|J.nil ?_;refine JX.qd (hK2 _ _ ?_)
 first | refine JC.qI rfl ?_ | refine JC.qn rfl (fun h=>by first | (exfalso;simp at h;omega) | (simp at h)) (fun _=>?_)
 refine JC.seq (fun K3 hK3=>?_);refine JC.region<|J.qe rfl rfl<|J.qK rfl Ty.u26 rfl rfl<|J.qj rfl rfl rfl rfl<|J.assign rfl rfl<|J.nil ?_;refine JX.qd (hK3 _ _ ?_)
 first | refine JC.qI rfl ?_ | refine JC.qn rfl (fun h=>by first | (exfalso;simp at h;omega) | (simp at h)) (fun _=>?_)
 refine JC.seq (fun K4 hK4=>?_);refine JC.region<|J.qe rfl rfl<|J.qq rfl rfl<|J.qi Ty.fd93_1 rfl rfl<|J.qQ Ty.a3 rfl zm (by exact rfl) rfl ?_;refine J.qj rfl rfl rfl rfl<|J.assign rfl rfl<|J.nil ?_;refine JX.qd (hK4 _ _ ?_)
 first | refine JC.qP rfl ?_ | refine JC.qn rfl (fun _=>?_) (fun h=>by first | (exfalso;simp at h;omega) | (simp at h))
 refine JC.seq (fun K5 hK5=>?_);refine JC.region<|J.assign rfl rfl<|J.nil ?_;refine JX.qd (hK5 _ _ ?_);refine JC.qA<|JX.qH<|JX.qt ?_;refine JX.qL rfl rfl (fun w hw=>?_)
 exact ⟨rfl,hw.same hw0 (fun p hp=>hp)⟩
theorem write_endless (d s n:Nat) (B bs:List UInt8) (p k i:Int) (a:Option Addr) (m c:Nat) (w:World) (hw0:Own w [(d,dkO s n p k),(s,dkS B)]) (hB:B.length=64*n) (hi:0≤i) (hi2:i<(n:Int)) (hk:0≤k) (hk2:k<4611686018427387904) (hm:m≤64) (hbl:bs.length=m) (hbv:Row w (.slice a m c) m (bs.map u8)) (hoff:Off [d,s] (.slice a m c) (bs.map u8)) (hp:p<0) :
  Calls Try.prog 68 [.pointer (some ⟨d,0,none⟩),.int .i64 i,.slice a m c].toArray w fun r w'=>r=.returned (.int .i64 0)∧St w [d,s] [(d,dkO s n p (k+1)),(s,dkS (put B i.toNat bs))] w':=by
 refine qD (args:=[.pointer (some ⟨d,0,none⟩),.int .i64 i,.slice a m c]) (e:=[(0,.pointer (some ⟨d,0,none⟩)),(1,.int .i64 i),(2,.slice a m c)]) Try.func68 rfl rfl ⟨rfl,rfl,rfl,trivial⟩ (hw0.st) ?_;refine JC.seq (fun K0 hK0=>?_);refine JC.region<|J.assign rfl rfl<|J.nil ?_;refine JX.qd (hK0 _ _ ?_);refine JC.seq (fun K1 hK1=>?_);refine JC.block ?_;refine JC.seq (fun K2 hK2=>?_);refine JC.region<|J.qe rfl rfl<|J.zh Ty.u34 rfl rfl rfl<|J.qe rfl rfl ?_
 first | refine J.skip rfl rfl rfl rfl rfl ?_ | refine J.qh rfl rfl rfl rfl ?_ | (refine J.qf rfl rfl rfl ?_;refine J.qe rfl rfl ?_)
 first | refine J.skip rfl rfl rfl rfl rfl ?_ | refine J.qh rfl rfl rfl rfl ?_ | (refine J.qf rfl rfl rfl ?_;refine J.qj rfl rfl rfl rfl ?_)
 (first | refine J.qr rfl rfl rfl ?_ | refine J.qs rfl rfl rfl ?_)
 refine J.qe rfl rfl ?_;refine J.z6 14 rfl (fun h=>by first | (exfalso;simp at h;omega) | (simp at h)) (fun _=>?_)
 first | refine J.skip rfl rfl rfl rfl rfl ?_ | refine J.qh rfl rfl rfl rfl ?_ | (refine J.qf rfl rfl rfl ?_;refine J.qe rfl rfl ?_)
 first | refine J.skip rfl rfl rfl rfl rfl ?_ | refine J.qh rfl rfl rfl rfl ?_ | (refine J.qf rfl rfl rfl ?_;refine J.qe rfl rfl ?_)
 first | refine J.skip rfl rfl rfl rfl rfl ?_ | refine J.qh rfl rfl rfl rfl ?_ | (refine J.qf rfl rfl rfl ?_;refine J.qq rfl rfl ?_)
 first | refine J.skip rfl rfl rfl rfl rfl ?_ | refine J.qh rfl rfl rfl rfl ?_ | (refine J.qf rfl rfl rfl ?_;refine J.qi Ty.fd93_0 rfl rfl ?_)
 first | refine J.skip rfl rfl rfl rfl rfl ?_ | refine J.qh rfl rfl rfl rfl ?_ | (refine J.qf rfl rfl rfl ?_;refine J.qQ Ty.a91 rfl zm (by exact rfl) rfl ?_)
 first | refine J.skip rfl rfl rfl rfl rfl ?_ | refine J.qh rfl rfl rfl rfl ?_ | (refine J.qf rfl rfl rfl ?_;refine J.qK rfl Ty.u91 rfl rfl ?_)
 first | refine J.skip rfl rfl rfl rfl rfl ?_ | refine J.qh rfl rfl rfl rfl ?_ | (refine J.qf rfl rfl rfl ?_;refine J.qj rfl rfl rfl rfl ?_)
 (first | refine J.qr rfl rfl rfl ?_ | refine J.qs rfl rfl rfl ?_)
 refine J.assign rfl rfl<|J.nil ?_;refine JX.qd (hK2 _ _ ?_)
 first | refine JC.qI rfl ?_ | refine JC.qn rfl (fun h=>by first | (exfalso;simp at h;omega) | (simp at h)) (fun _=>?_)
 refine JC.seq (fun K3 hK3=>?_);refine JC.region<|J.qe rfl rfl<|J.qK rfl Ty.u26 rfl rfl<|J.qj rfl rfl rfl rfl<|J.assign rfl rfl<|J.nil ?_;refine JX.qd (hK3 _ _ ?_)
 first | refine JC.qI rfl ?_ | refine JC.qn rfl (fun h=>by first | (exfalso;simp at h;omega) | (simp at h)) (fun _=>?_)
 refine JC.seq (fun K4 hK4=>?_);refine JC.region<|J.qe rfl rfl<|J.qq rfl rfl<|J.qi Ty.fd93_1 rfl rfl<|J.qQ Ty.a3 rfl zm (by exact rfl) rfl ?_;refine J.qj rfl rfl rfl rfl<|J.assign rfl rfl<|J.nil ?_;refine JX.qd (hK4 _ _ ?_)
 first | refine JC.qI rfl ?_ | refine JC.qn rfl (fun h=>by first | (exfalso;simp at h;omega) | (simp at h)) (fun _=>?_)
 refine JC.seq (fun K5 hK5=>?_);refine JC.region<|J.qe rfl rfl<|J.qq rfl rfl<|J.qi Ty.fd93_1 rfl rfl<|J.qQ Ty.a3 rfl zm (by exact rfl) rfl ?_;refine J.qj rfl rfl rfl rfl<|J.assign rfl rfl<|J.nil ?_;refine JX.qd (hK5 _ _ ?_)
 first | refine JC.qI rfl ?_ | refine JC.qn rfl (fun h=>by first | (exfalso;simp at h;omega) | (simp at h)) (fun _=>?_)
 refine JC.skip<|JX.qJ ?_;refine JX.qd (hK1 _ _ ?_);refine JC.seq (fun K6 hK6=>?_);refine JC.region<|J.qe rfl rfl<|J.qq rfl rfl<|J.qi Ty.fd93_0 rfl rfl<|J.qQ Ty.a91 rfl zm (by exact rfl) rfl ?_;refine J.qe rfl rfl<|J.buildA Ty.ar117 Ty.s5 Ty.z117 rfl rfl rfl<|J.qu Ty.el91 Ty.s117 rfl rfl (by omega) (by omega) rfl ?_;refine J.qU (vs:=List.replicate 64 (Value.int .u8 0)) Ty.s117 rfl rfl rfl rfl (fun v hv=>by rw [List.eq_of_mem_replicate hv];rfl) (.there .here) (by simp;omega) ?_;refine J.nil ?_;refine JX.qd (hK6 _ _ ?_);refine JC.seq (fun K7 hK7=>?_);refine JC.region<|J.qe rfl rfl<|J.qq rfl rfl<|J.qi Ty.fd93_0 rfl rfl<|J.qQ Ty.a91 rfl zm (by exact rfl) rfl ?_;refine J.qe rfl rfl<|J.qu Ty.el91 Ty.s117 rfl rfl (by omega) (by omega) rfl ?_;refine J.zK Ty.ar117 (by rw [Ty.s5];rfl) rfl rfl ?_;refine J.qe rfl rfl<|J.copy (m:=m) (kb:=m) (cs:=setMany (B.map u8) (0+i.toNat*64) (List.replicate 64 (Value.int .u8 0))) (ys:=bs.map u8) (tb:=117) (o:=0+i.toNat*64) Ty.el26 Ty.s5 rfl rfl (fun w hw=>⟨hbv.st hoff hw,a,c,rfl⟩) (by simpa using hbl) (zk _) (by omega) (.there .here) (by simp [setMany_length];omega) (.inr ⟨_,rfl,rfl⟩) ?_;refine J.nil ?_;refine JX.qd (hK7 _ _ ?_);refine JC.seq (fun K8 hK8=>?_);refine JC.region<|J.qe rfl rfl<|J.qq rfl rfl<|J.qi Ty.fd93_2 rfl rfl<|J.qQ Ty.a3 rfl zm (by exact rfl) rfl ?_;refine J.qj rfl rfl rfl rfl<|J.name 66 rfl (congrArg (Value.int .i64) (qV (by omega) (by omega))) ?_;refine J.qq rfl rfl<|J.qi Ty.fd93_2 rfl rfl<|J.qU Ty.s3 rfl rfl rfl rfl (by simp [Value.oneCell']) zu (by simp) ?_;refine J.nil ?_;refine JX.qd (hK8 _ _ ?_);refine JC.seq (fun K9 hK9=>?_);refine JC.region<|J.assign rfl rfl<|J.nil ?_;refine JX.qd (hK9 _ _ ?_);refine JC.qA ?_;refine JX.qL rfl rfl (fun w hw=>?_)
 rw [show List.take m (bs.map u8)=bs.map u8 from List.take_of_length_le (by simp;omega),put_cells hB (by omega) (by omega)] at hw
 exact ⟨rfl,hw⟩
theorem write_power (d s n:Nat) (B bs:List UInt8) (p k i:Int) (a:Option Addr) (m c:Nat) (w:World) (hw0:Own w [(d,dkO s n p k),(s,dkS B)]) (hB:B.length=64*n) (hi:0≤i) (hi2:i<(n:Int)) (hk:0≤k) (hk2:k<4611686018427387904) (hm:m≤64) (hbl:bs.length=m) (hbv:Row w (.slice a m c) m (bs.map u8)) (hoff:Off [d,s] (.slice a m c) (bs.map u8)) (hp:0<p) (hp2:p<9223372036854775808) :
  Calls Try.prog 68 [.pointer (some ⟨d,0,none⟩),.int .i64 i,.slice a m c].toArray w fun r w'=>r=.returned (.int .i64 0)∧St w [d,s] [(d,dkO s n (p - 1) (k+1)),(s,dkS (put B i.toNat bs))] w':=by
 refine qD (args:=[.pointer (some ⟨d,0,none⟩),.int .i64 i,.slice a m c]) (e:=[(0,.pointer (some ⟨d,0,none⟩)),(1,.int .i64 i),(2,.slice a m c)]) Try.func68 rfl rfl ⟨rfl,rfl,rfl,trivial⟩ (hw0.st) ?_;refine JC.seq (fun K0 hK0=>?_);refine JC.region<|J.assign rfl rfl<|J.nil ?_;refine JX.qd (hK0 _ _ ?_);refine JC.seq (fun K1 hK1=>?_);refine JC.block ?_;refine JC.seq (fun K2 hK2=>?_);refine JC.region<|J.qe rfl rfl<|J.zh Ty.u34 rfl rfl rfl<|J.qe rfl rfl ?_
 first | refine J.skip rfl rfl rfl rfl rfl ?_ | refine J.qh rfl rfl rfl rfl ?_ | (refine J.qf rfl rfl rfl ?_;refine J.qe rfl rfl ?_)
 first | refine J.skip rfl rfl rfl rfl rfl ?_ | refine J.qh rfl rfl rfl rfl ?_ | (refine J.qf rfl rfl rfl ?_;refine J.qj rfl rfl rfl rfl ?_)
 (first | refine J.qr rfl rfl rfl ?_ | refine J.qs rfl rfl rfl ?_)
 refine J.qe rfl rfl ?_;refine J.z6 14 rfl (fun h=>by first | (exfalso;simp at h;omega) | (simp at h)) (fun _=>?_)
 first | refine J.skip rfl rfl rfl rfl rfl ?_ | refine J.qh rfl rfl rfl rfl ?_ | (refine J.qf rfl rfl rfl ?_;refine J.qe rfl rfl ?_)
 first | refine J.skip rfl rfl rfl rfl rfl ?_ | refine J.qh rfl rfl rfl rfl ?_ | (refine J.qf rfl rfl rfl ?_;refine J.qe rfl rfl ?_)
 first | refine J.skip rfl rfl rfl rfl rfl ?_ | refine J.qh rfl rfl rfl rfl ?_ | (refine J.qf rfl rfl rfl ?_;refine J.qq rfl rfl ?_)
 first | refine J.skip rfl rfl rfl rfl rfl ?_ | refine J.qh rfl rfl rfl rfl ?_ | (refine J.qf rfl rfl rfl ?_;refine J.qi Ty.fd93_0 rfl rfl ?_)
 first | refine J.skip rfl rfl rfl rfl rfl ?_ | refine J.qh rfl rfl rfl rfl ?_ | (refine J.qf rfl rfl rfl ?_;refine J.qQ Ty.a91 rfl zm (by exact rfl) rfl ?_)
 first | refine J.skip rfl rfl rfl rfl rfl ?_ | refine J.qh rfl rfl rfl rfl ?_ | (refine J.qf rfl rfl rfl ?_;refine J.qK rfl Ty.u91 rfl rfl ?_)
 first | refine J.skip rfl rfl rfl rfl rfl ?_ | refine J.qh rfl rfl rfl rfl ?_ | (refine J.qf rfl rfl rfl ?_;refine J.qj rfl rfl rfl rfl ?_)
 (first | refine J.qr rfl rfl rfl ?_ | refine J.qs rfl rfl rfl ?_)
 refine J.assign rfl rfl<|J.nil ?_;refine JX.qd (hK2 _ _ ?_)
 first | refine JC.qI rfl ?_ | refine JC.qn rfl (fun h=>by first | (exfalso;simp at h;omega) | (simp at h)) (fun _=>?_)
 refine JC.seq (fun K3 hK3=>?_);refine JC.region<|J.qe rfl rfl<|J.qK rfl Ty.u26 rfl rfl<|J.qj rfl rfl rfl rfl<|J.assign rfl rfl<|J.nil ?_;refine JX.qd (hK3 _ _ ?_)
 first | refine JC.qI rfl ?_ | refine JC.qn rfl (fun h=>by first | (exfalso;simp at h;omega) | (simp at h)) (fun _=>?_)
 refine JC.seq (fun K4 hK4=>?_);refine JC.region<|J.qe rfl rfl<|J.qq rfl rfl<|J.qi Ty.fd93_1 rfl rfl<|J.qQ Ty.a3 rfl zm (by exact rfl) rfl ?_;refine J.qj rfl rfl rfl rfl<|J.assign rfl rfl<|J.nil ?_;refine JX.qd (hK4 _ _ ?_)
 first | refine JC.qI rfl ?_ | refine JC.qn rfl (fun h=>by first | (exfalso;simp at h;omega) | (simp at h)) (fun _=>?_)
 refine JC.seq (fun K5 hK5=>?_);refine JC.region<|J.qe rfl rfl<|J.qq rfl rfl<|J.qi Ty.fd93_1 rfl rfl<|J.qQ Ty.a3 rfl zm (by exact rfl) rfl ?_;refine J.qj rfl rfl rfl rfl<|J.assign rfl rfl<|J.nil ?_;refine JX.qd (hK5 _ _ ?_)
 first | refine JC.qP rfl ?_ | refine JC.qn rfl (fun _=>?_) (fun h=>by first | (exfalso;simp at h;omega) | (simp at h))
 refine JC.region<|J.qe rfl rfl<|J.qq rfl rfl<|J.qi Ty.fd93_1 rfl rfl<|J.qQ Ty.a3 rfl zm (by exact rfl) rfl ?_;refine J.qj rfl rfl rfl rfl<|J.name 43 rfl (congrArg (Value.int .i64) (qV (by omega) (by omega))) ?_;refine J.qq rfl rfl<|J.qi Ty.fd93_1 rfl rfl<|J.qU Ty.s3 rfl rfl rfl rfl (by simp [Value.oneCell']) zu (by simp) ?_;refine J.nil<|JX.qJ ?_;refine JX.qd (hK1 _ _ ?_);refine JC.seq (fun K6 hK6=>?_);refine JC.region<|J.qe rfl rfl<|J.qq rfl rfl<|J.qi Ty.fd93_0 rfl rfl<|J.qQ Ty.a91 rfl zm (by exact rfl) rfl ?_;refine J.qe rfl rfl<|J.buildA Ty.ar117 Ty.s5 Ty.z117 rfl rfl rfl<|J.qu Ty.el91 Ty.s117 rfl rfl (by omega) (by omega) rfl ?_;refine J.qU (vs:=List.replicate 64 (Value.int .u8 0)) Ty.s117 rfl rfl rfl rfl (fun v hv=>by rw [List.eq_of_mem_replicate hv];rfl) (.there .here) (by simp;omega) ?_;refine J.nil ?_;refine JX.qd (hK6 _ _ ?_);refine JC.seq (fun K7 hK7=>?_);refine JC.region<|J.qe rfl rfl<|J.qq rfl rfl<|J.qi Ty.fd93_0 rfl rfl<|J.qQ Ty.a91 rfl zm (by exact rfl) rfl ?_;refine J.qe rfl rfl<|J.qu Ty.el91 Ty.s117 rfl rfl (by omega) (by omega) rfl ?_;refine J.zK Ty.ar117 (by rw [Ty.s5];rfl) rfl rfl ?_;refine J.qe rfl rfl<|J.copy (m:=m) (kb:=m) (cs:=setMany (B.map u8) (0+i.toNat*64) (List.replicate 64 (Value.int .u8 0))) (ys:=bs.map u8) (tb:=117) (o:=0+i.toNat*64) Ty.el26 Ty.s5 rfl rfl (fun w hw=>⟨hbv.st hoff hw,a,c,rfl⟩) (by simpa using hbl) (zk _) (by omega) (.there .here) (by simp [setMany_length];omega) (.inr ⟨_,rfl,rfl⟩) ?_;refine J.nil ?_;refine JX.qd (hK7 _ _ ?_);refine JC.seq (fun K8 hK8=>?_);refine JC.region<|J.qe rfl rfl<|J.qq rfl rfl<|J.qi Ty.fd93_2 rfl rfl<|J.qQ Ty.a3 rfl zm (by exact rfl) rfl ?_;refine J.qj rfl rfl rfl rfl<|J.name 66 rfl (congrArg (Value.int .i64) (qV (by omega) (by omega))) ?_;refine J.qq rfl rfl<|J.qi Ty.fd93_2 rfl rfl<|J.qU Ty.s3 rfl rfl rfl rfl (by simp [Value.oneCell']) zu (by simp) ?_;refine J.nil ?_;refine JX.qd (hK8 _ _ ?_);refine JC.seq (fun K9 hK9=>?_);refine JC.region<|J.assign rfl rfl<|J.nil ?_;refine JX.qd (hK9 _ _ ?_);refine JC.qA ?_;refine JX.qL rfl rfl (fun w hw=>?_)
 rw [show List.take m (bs.map u8)=bs.map u8 from List.take_of_length_le (by simp;omega),put_cells hB (by omega) (by omega)] at hw
 exact ⟨rfl,hw⟩
theorem take_sec (B:List UInt8) (i:Nat):(B.take (64*i)).map u8++(sec B i).map u8=(B.take (64*(i+1))).map u8:=by
 rw [← List.map_append,sec,← List.take_add];rfl
theorem bytes_spec (d s n:Nat) (B:List UInt8) (p k:Int) (w:World) (hw0:Own w [(d,dkO s n p k),(s,dkS B)]) (hB:B.length=64*n) (hn:n≤4096) :
  Calls Try.prog 31 [.pointer (some ⟨d,0,none⟩)].toArray w fun r w'=>∃x:Value × List (Nat × Obj),r=.returned x.1∧Vec 5 1 x.1 (64*n) (B.map u8) x.2∧St w [d,s] (x.2++[(d,dkO s n p k),(s,dkS B)]) w':=by
 refine qD (args:=[.pointer (some ⟨d,0,none⟩)]) (e:=[(0,.pointer (some ⟨d,0,none⟩))]) Try.func31 rfl rfl ⟨rfl,trivial⟩ (hw0.st) ?_;refine JC.seq (fun K0 hK0=>?_);refine JC.region<|J.assign rfl rfl<|J.nil ?_;refine JX.qd (hK0 _ _ ?_);refine JC.seq (fun K1 hK1=>?_);refine JC.seq (fun K2 hK2=>?_);refine JC.region<|J.qe rfl rfl<|J.zh Ty.u34 rfl rfl rfl<|J.nil ?_;refine JX.qd (hK2 _ _ ?_)
 first | refine JC.qI rfl ?_ | refine JC.qn rfl (fun h=>by first | (exfalso;simp at h;omega) | (simp at h)) (fun _=>?_)
 refine JC.skip ?_;refine JX.qd (hK1 _ _ ?_);refine JC.seq (fun K3 hK3=>?_);refine JC.region<|J.assign rfl rfl<|J.nil ?_;refine JX.qd (hK3 _ _ ?_);refine JC.seq (fun K4 hK4=>?_);refine JC.seq (fun K5 hK5=>?_);refine JC.region<|J.qe rfl rfl<|J.qq rfl rfl<|J.qi Ty.fd93_0 rfl rfl<|J.qQ Ty.a91 rfl zm (by exact rfl) rfl ?_;refine J.qK rfl Ty.u91 rfl rfl<|J.qe rfl rfl<|J.nil ?_;refine JX.qd (hK5 _ _ ?_);refine JC.block ?_
 refine JC.conseq (JC.cov (f:=(fun x=>[(0,.pointer (some ⟨d,0,none⟩)),(3,x.2.1),(11,.int .i64 n),(12,.int .i64 x.1)]) ((0,.slice none 0 0,[]):Nat × Value × List (Nat × Obj))) ⟨rfl,rfl,rfl,rfl,trivial⟩ (JC.loop (α:=Nat × Value × List (Nat × Obj)) (fun x=>[(0,.pointer (some ⟨d,0,none⟩)),(3,x.2.1),(11,.int .i64 n),(12,.int .i64 x.1)]) (fun x w'=>(x.1≤n∧Vec 5 1 x.2.1 (64*x.1) ((B.take (64*x.1)).map u8) x.2.2)∧St w [d,s] (x.2.2++[(d,dkO s n p k),(s,dkS B)]) w') (fun x=>n - x.1) ((0,.slice none 0 0,[]):Nat × Value × List (Nat × Obj)) (fun x=>?_))) (fun w hw=>⟨⟨Nat.zero_le _,Vec.nil _ _⟩,hw⟩)
 obtain ⟨i,v,lp⟩:=x
 refine JC.pr (fun hx=>?_)
 obtain ⟨hi,hv⟩:=hx
 simp only at hi hv
 refine JC.seq (fun K6 hK6=>?_);refine JC.region<|J.qj rfl rfl rfl rfl<|J.nil ?_;refine JX.qd (hK6 _ _ ?_);refine JC.seq (fun K7 hK7=>?_);refine JC.qn rfl (fun h1=>?_) (fun h1=>?_)
 ·have hlt:i<n:=by simp at h1;omega
  refine JC.skip ?_;refine JX.qd (hK7 _ _ ?_);refine JC.seq (fun K8 hK8=>?_);refine JC.block ?_;refine JC.seq (fun K9 hK9=>?_);refine JC.region<|J.qe rfl rfl<|J.assign rfl rfl<|J.nil ?_;refine JX.qd (hK9 _ _ ?_);refine JC.region<|J.qe rfl rfl<|J.qe rfl rfl<|J.qq rfl rfl<|J.qi Ty.fd93_0 rfl rfl<|J.qQ (l:=lp++[(d,dkO s n p k),(s,dkS B)]) Ty.a91 rfl (List.mem_append_right _ (.head _)) rfl rfl<|J.qe rfl rfl<|J.qu Ty.el91 Ty.s117 rfl rfl (by omega) (by omega) rfl ?_;refine J.zK Ty.ar117 (by rw [Ty.s5];rfl) rfl rfl ?_;refine J.qZ (lp:=lp) (l:=[(d,dkO s n p k),(s,dkS B)]) (xs:=(B.take (64*i)).map u8) (ys:=(sec B i).map u8) (k:=64*i) (m:=64) Ty.el26 Ty.s5 Ty.b5 Ty.z5 rfl (.inl ⟨5,Ty.u26⟩) rfl rfl hv (fun w hw=>.inl ?_) ?_ (zk _) (by omega) (by omega) rfl (fun v23 lp23 hv23=>?_)
  ·refine Row.own (cs:=B.map u8) (tb:=117) (fr:=(0,0)) hw (List.mem_append_right _ (.tail _ (.head _))) ?_ (Nat.le_refl _)
   have:=sec_cells hB (i:Int) (by omega) (by omega)
   simpa using this
  ·have:=sec_length hB (i:Int) (by omega) (by omega)
   rw [List.length_map];simpa using this
  refine J.assign rfl rfl<|J.nil<|JX.qJ ?_;refine JX.qd (hK8 _ _ ?_);refine JC.region ?_
  (first | refine J.qG rfl rfl (by omega) (by omega) rfl ?_ | refine J.qj rfl rfl rfl rfl ?_)
  refine J.qe rfl rfl<|J.nil ?_
  rw [take_sec,show 64*i+64=64*(i+1) by omega] at hv23
  refine JX.qd<|JX.qS (i+1,v23,lp23) ?_ ?_ ?_
  ·simp only;omega
  ·exact ⟨rfl,rfl,rfl,rfl,trivial⟩
  ·exact fun w hw=>⟨⟨hlt,hv23⟩,hw⟩
 ·have hge:i=n:=by simp at h1;omega
  subst hge
  refine JC.qX<|JX.qE<|JX.qE<|JX.qT ?_;refine JX.qd (hK4 _ _ ?_);refine JC.seq (fun K10 hK10=>?_);refine JC.region<|J.qe rfl rfl<|J.assign rfl rfl<|J.nil ?_;refine JX.qd (hK10 _ _ ?_);refine JC.qA ?_;refine JX.qL rfl rfl (fun w hw=>?_)
  rw [List.take_of_length_le (by omega)] at hv
  exact ⟨(v,lp),rfl,hv,hw⟩
def ofB (bs:List UInt8) (n i:Nat):List UInt8:=bs.take (64*i)++List.replicate (64*n - 64*i) 0
theorem ofB_zero (bs:List UInt8) (n:Nat):ofB bs n 0=List.replicate (64*n) 0:=by simp [ofB]
theorem ofB_all {bs:List UInt8} {n:Nat} (h:bs.length=64*n):ofB bs n n=bs:=by simp [ofB,List.take_of_length_le (Nat.le_of_eq h)]
theorem ofB_length {bs:List UInt8} {n i:Nat} (h:bs.length=64*n) (hi:i≤n):(ofB bs n i).length=64*n:=by simp [ofB];omega
theorem ofB_succ {bs:List UInt8} {n i:Nat} (h:bs.length=64*n) (hi:i<n) :
  setMany ((ofB bs n i).map u8) (0+i*64) (List.take 64 (((bs.map u8).drop (64*i*1)).take ((64*n - 64*i)*1)))=(ofB bs n (i+1)).map u8:=by
 rw [Nat.mul_one,Nat.mul_one,List.take_take,← List.map_drop,← List.map_take]
 have hm:min 64 (64*n - 64*i)=64:=by omega
 rw [hm,yr _ _ _ (by simp [ofB];omega)]
 simp only [List.length_map,← List.map_take,← List.map_drop,← List.map_append]
 congr 1
 have hl:(List.take 64 (bs.drop (64*i))).length=64:=by simp;omega
 rw [hl]
 simp only [ofB]
 have hlt:(bs.take (64*i)).length=64*i:=by simp;omega
 have e3:List.drop ((bs.take (64*i)).length+64) (bs.take (64*i)++List.replicate (64*n - 64*i) (0:UInt8))=List.replicate (64*n - 64*(i+1)) 0:=by
  rw [← List.drop_drop,List.drop_left,List.drop_replicate]
  congr 1
 rw [show 0+i*64=(bs.take (64*i)).length by omega,List.take_left,e3,← List.take_add]
 rfl
theorem of_spec (a:Option Addr) (m c n:Nat) (bs:List UInt8) (w:World) (hb:Row w (.slice a m c) m (bs.map u8)) (hbl:bs.length=m) (hm:m=64*n) (hn:n≤4096) :
  Calls Try.prog 56 [.slice a m c].toArray w fun r w'=>∃x:Nat × Nat,r=.returned (.tuple #[.pointer (some ⟨x.1,0,none⟩),.int .i64 0])∧True∧St w [] [(x.1,dkO x.2 n (-1) 0),(x.2,dkS bs)] w':=by
 refine qD (args:=[.slice a m c]) (e:=[(0,.slice a m c)]) Try.func56 rfl rfl ⟨rfl,trivial⟩ (St.start w) ?_;refine JC.seq (fun K0 hK0=>?_);refine JC.region<|J.assign rfl rfl<|J.assign rfl rfl<|J.nil ?_;refine JX.qd (hK0 _ _ ?_);refine JC.seq (fun K1 hK1=>?_);refine JC.seq (fun K2 hK2=>?_);refine JC.region<|J.qe rfl rfl<|J.qK rfl Ty.u26 rfl rfl ?_
 (first | refine J.remN rfl rfl (by omega) (by omega) rfl ?_ | refine J.qj rfl rfl rfl rfl ?_)
 refine J.qj rfl rfl rfl rfl<|J.qe rfl rfl ?_;refine J.z6 10 rfl (fun h=>by first | (exfalso;simp at h;omega) | (simp at h)) (fun _=>?_)
 first | refine J.skip rfl rfl rfl rfl rfl ?_ | refine J.qh rfl rfl rfl rfl ?_ | (refine J.qf rfl rfl rfl ?_;refine J.qe rfl rfl ?_)
 first | refine J.skip rfl rfl rfl rfl rfl ?_ | refine J.qh rfl rfl rfl rfl ?_ | (refine J.qf rfl rfl rfl ?_;refine J.qK rfl Ty.u26 rfl rfl ?_)
 first | refine J.skip rfl rfl rfl rfl rfl ?_ | refine J.qh rfl rfl rfl rfl ?_ | (refine J.qf rfl rfl rfl ?_;refine J.qj rfl rfl rfl rfl ?_)
 (first | refine J.qr rfl rfl rfl ?_ | refine J.qs rfl rfl rfl ?_)
 refine J.nil ?_;refine JX.qd (hK2 _ _ ?_)
 first | refine JC.qI rfl ?_ | refine JC.qn rfl (fun h=>by first | (exfalso;simp at h;omega) | (simp at h)) (fun _=>?_)
 refine JC.skip ?_;refine JX.qd (hK1 _ _ ?_);refine JC.seq (fun K3 hK3=>?_);refine JC.region<|J.qe rfl rfl<|J.qK rfl Ty.u26 rfl rfl ?_
 (first | refine J.ym rfl rfl (by omega) (by omega) (by omega) rfl ?_ | refine J.qj rfl rfl rfl rfl ?_)
 refine J.qO (l1:=[]) Ty.bd15 rfl rfl (fun w hw=>new_spec _ w) (fun x _=>?_)
 obtain ⟨d,s⟩:=x
 have hN:(min (max ((m:Int) / 64) 0) 4096).toNat=n:=by omega
 simp only [hN,List.append_nil]
 refine J.assign rfl rfl<|J.nil ?_;refine JX.qd (hK3 _ _ ?_);refine JC.seq (fun K4 hK4=>?_);refine JC.seq (fun K5 hK5=>?_);refine JC.region<|J.qe rfl rfl<|J.qq rfl rfl<|J.qi Ty.fd93_0 rfl rfl<|J.qQ Ty.a91 rfl zm (by exact rfl) rfl ?_;refine J.qK rfl Ty.u91 rfl rfl<|J.qe rfl rfl<|J.nil ?_;refine JX.qd (hK5 _ _ ?_);refine JC.block ?_
 refine JC.conseq (JC.cov (f:=(fun x=>[(0,.slice a m c),(4,.pointer (some ⟨d,0,none⟩)),(23,.int .i64 n),(24,.int .i64 x)]) (0:Nat)) ⟨rfl,rfl,rfl,rfl,trivial⟩ (JC.loop (α:=Nat) (fun x=>[(0,.slice a m c),(4,.pointer (some ⟨d,0,none⟩)),(23,.int .i64 n),(24,.int .i64 x)]) (fun x w'=>x≤n∧St w [] [(d,dkO s n (-1) 0),(s,dkS (ofB bs n x))] w') (fun x=>n - x) (0:Nat) (fun i=>?_))) (fun w hw=>⟨Nat.zero_le _,by rw [ofB_zero];exact hw⟩)
 refine JC.pr (fun hi=>?_);refine JC.seq (fun K6 hK6=>?_);refine JC.region<|J.qj rfl rfl rfl rfl<|J.nil ?_;refine JX.qd (hK6 _ _ ?_);refine JC.seq (fun K7 hK7=>?_);refine JC.qn rfl (fun h1=>?_) (fun h1=>?_)
 ·have hlt:i<n:=by simp at h1;omega
  refine JC.skip ?_;refine JX.qd (hK7 _ _ ?_);refine JC.seq (fun K8 hK8=>?_);refine JC.block ?_;refine JC.seq (fun K9 hK9=>?_);refine JC.region<|J.qe rfl rfl<|J.assign rfl rfl<|J.nil ?_;refine JX.qd (hK9 _ _ ?_)
  apply JC.zc 11 [Eqv (_),Eqv (_),Eqv (_),Eqv (_),Eqv (_),Eqv (_),Eqv (_),Eqv (_),Eqv (_),Eqv (_),Eqv (_)] Ty.mixed rfl rfl rfl (by kernel_rfl) rfl rfl (fun w w' hw hb=>hw.step hb) ⟨fun _ _ _ h _=>h,fun _ _ _ h _=>h,fun _ _ _ h _=>h,fun _ _ _ h _=>h,fun _ _ _ h _=>h,fun _ _ _ h _=>h,fun _ _ _ h _=>h,fun _ _ _ h _=>h,fun _ _ _ h _=>h,fun _ _ _ h _=>h,fun _ _ _ h _=>h,trivial⟩ ?hstep ?htail
  case hstep=>
   refine ⟨fun wi=>?_,fun wi=>?_,fun wi=>?_,fun wi=>?_,fun wi=>?_,fun wi=>?_,fun wi=>?_,fun wi=>?_,fun wi=>?_,fun wi=>?_,fun wi=>?_,trivial⟩
   ·refine Fin.nil<|J.qe rfl rfl ?_
    exact J.qm rfl
   ·refine Fin.qc rfl (Fin.nil ?_);refine J.qq rfl rfl ?_
    exact J.qm rfl
   ·refine Fin.qc rfl (Fin.nil ?_);refine J.qi Ty.fd93_0 rfl rfl ?_
    exact J.qm rfl
   ·refine Fin.qc rfl (Fin.nil ?_);refine J.qw Ty.a91 rfl (fun w hw=>(qB (hw.2.own (_,_) zm)).trans (by exact rfl)) rfl ?_
    exact J.qm rfl
   ·refine Fin.nil<|J.qe rfl rfl ?_
    exact J.qm rfl
   ·refine Fin.qc rfl (Fin.qc rfl (Fin.nil ?_))
    refine J.qu Ty.el91 Ty.s117 rfl rfl (by omega) (by omega) rfl ?_
    exact J.qm rfl
   ·refine Fin.qc rfl (Fin.nil ?_);refine J.zK Ty.ar117 (by rw [Ty.s5];rfl) rfl rfl ?_
    exact J.qm rfl
   ·refine Fin.nil<|J.qe rfl rfl ?_
    exact J.qm rfl
   ·refine Fin.nil<|J.qe rfl rfl ?_
    exact J.qm rfl
   ·refine Fin.qc rfl (Fin.nil ?_)
    (first | refine J.zO rfl rfl (by omega) (by omega) rfl ?_ | refine J.qj rfl rfl rfl rfl ?_)
    exact J.qm rfl
   ·refine Fin.qc rfl (Fin.qc rfl (Fin.nil ?_))
    refine J.zx (i:=64*i) (j:=m) Ty.el26 Ty.s5 rfl rfl rfl (by simp [bnd];omega) rfl (by omega) (by have:=hb.cap;omega) (by have:=hb.cap;omega) rfl ?_
    exact J.qm rfl
  case htail=>
   refine Fin.qc rfl (Fin.qc rfl (Fin.qc rfl (Fin.qc rfl (Fin.qc rfl (Fin.qc rfl (Fin.qc rfl (Fin.qc rfl (Fin.qc rfl (Fin.qc rfl (Fin.qc rfl (Fin.nil ?_)))))))))))
   refine J.copy (m:=m - 64*i) (kb:=64) (cs:=(ofB bs n i).map u8) (ys:=((bs.map u8).drop (64*i*1)).take ((m - 64*i)*1)) (tb:=117) (o:=0+i*64) Ty.el26 Ty.s5 rfl rfl (fun w hw=>⟨(hb.st (.inr (by simp)) hw).slice (by simpa using hbl) (by omega) (Nat.le_refl _),_,_,rfl⟩) (by simp;omega) (fun y hy=>zk bs y (List.mem_of_mem_drop (List.mem_of_mem_take hy))) (by omega) (.there .here) (by simp [ofB_length (hbl.trans hm) hi];omega) (.inr ⟨_,rfl,rfl⟩) ?_
   subst hm
   rw [ofB_succ hbl hlt]
   refine J.nil<|JX.qJ ?_;refine JX.qd (hK8 _ _ ?_);refine JC.region ?_
   (first | refine J.qG rfl rfl (by omega) (by omega) rfl ?_ | refine J.qj rfl rfl rfl rfl ?_)
   refine J.qe rfl rfl<|J.nil<|JX.qd<|JX.qS (i+1) ?_ ?_ ?_
   ·omega
   ·exact ⟨rfl,rfl,rfl,rfl,trivial⟩
   ·exact fun w hw=>⟨hlt,hw⟩
 ·have hge:i=n:=by simp at h1;omega
  subst hge
  refine JC.qX<|JX.qE<|JX.qE<|JX.qT ?_;refine JX.qd (hK4 _ _ ?_);refine JC.seq (fun K10 hK10=>?_);refine JC.region<|J.qe rfl rfl<|J.assign rfl rfl<|J.assign rfl rfl<|J.nil ?_;refine JX.qd (hK10 _ _ ?_);refine JC.qA ?_;refine JX.zr rfl rfl rfl (fun w hw=>?_)
  rw [ofB_all (hbl.trans hm)] at hw
  exact ⟨(d,s),rfl,trivial,hw⟩
def num (bs:List UInt8):Nat:=bs.foldl (fun n x=>n*256+x.toNat) 0
theorem yN {bs:List UInt8} {i:Nat} (h:i<bs.length):num (bs.take (i+1))=num (bs.take i)*256+bs[i].toNat:=by
 rw [take_add_one h,num,List.foldl_append];rfl
theorem num_lt (bs:List UInt8):∀i,i≤bs.length→num (bs.take i)<256 ^ i:=by
 intro i
 induction i with
 | zero=>intro _;simp [num]
 | succ i ih=>
  intro h
  rw [yN (by omega),Nat.pow_succ]
  have:=ih (by omega)
  have:=bs[i].toNat_lt
  omega
theorem or_byte (n x:Nat) (hx:x<256) (h:n*256+x<18446744073709551616):(BitVec.ofInt 64 ((n*256:Nat):Int) ||| BitVec.ofInt 64 ((x:Nat):Int)).toNat=n*256+x:=by
 rw [BitVec.ofInt_natCast,BitVec.ofInt_natCast,BitVec.toNat_or,BitVec.toNat_ofNat,BitVec.toNat_ofNat,Nat.mod_eq_of_lt (by omega),Nat.mod_eq_of_lt (by omega)]
 have h1:=Nat.shiftLeft_add_eq_or_of_lt (show x<2 ^ 8 by omega) n
 rw [Nat.shiftLeft_eq] at h1
 exact h1.symm
theorem or_u64 (n x:Nat) (hx:x<256) (h:n*256+x<18446744073709551616) :
  Value.int .u64 (IntKind.u64.wrap ((BitVec.ofInt 64 (IntKind.u64.wrap ((n:Int)*2 ^ 8)) ||| BitVec.ofInt 64 (IntKind.u64.wrap (x:Int))).toNat:Int))=.int .u64 ((n*256+x:Nat):Int):=by
 have e1:IntKind.u64.wrap ((n:Int)*2 ^ 8)=((n*256:Nat):Int):=by
  rw [ye];omega
 have e2:IntKind.u64.wrap (x:Int)=((x:Nat):Int):=ze (by omega) (by omega)
 rw [e1,e2,or_byte n x hx h,ze (by omega) (by omega)]
theorem muladdS_u64 (n x:Nat) (hx:x<256) (h:n*256+x<18446744073709551616) :
  Value.int .u64 (IntKind.u64.wrap (IntKind.u64.wrap ((n:Int)*256)+IntKind.u64.wrap (x:Int)))=.int .u64 ((n*256+x:Nat):Int):=by
 congr 1
 rw [ye,ye,ye];omega
theorem num_step {bs:List UInt8} {i:Nat} (h:i<bs.length) (h8:i<8):num (bs.take i)*256+bs[i].toNat<18446744073709551616:=by
 have h1:=num_lt bs i (by omega)
 have h2:256 ^ i≤256 ^ 7:=Nat.pow_le_pow_right (by omega) (by omega)
 have h3:(256:Nat) ^ 7=72057594037927936:=by decide
 have:=bs[i].toNat_lt
 omega
theorem num8_lt (bs:List UInt8):num (bs.take 8)<18446744073709551616:=by
 have h1:=num_lt (bs.take 8) (bs.take 8).length (Nat.le_refl _)
 rw [List.take_of_length_le (Nat.le_refl _)] at h1
 have h2:256 ^ (bs.take 8).length≤256 ^ 8:=Nat.pow_le_pow_right (by omega) (by simp;omega)
 have h3:(256:Nat) ^ 8=18446744073709551616:=by decide
 omega
def headP (bs : List UInt8) : Nat × Nat × Nat := if (bs.drop 24).all (· == 0) then (num (bs.take 8), num ((bs.drop 8).take 8), num ((bs.drop 16).take 8)) else (0, 0, 0)
theorem headP_lt (bs:List UInt8):(headP bs).1<18446744073709551616∧(headP bs).2.1<18446744073709551616∧(headP bs).2.2<18446744073709551616:=by
 unfold headP;split
 ·exact ⟨num8_lt _,num8_lt _,num8_lt _⟩
 ·simp
def needN (n:Nat):Nat:=(n+65) / 64
theorem number_spec (v:Value) (m:Nat) (bs:List UInt8) (w:World) (hr:Row w v m (bs.map u8)) (hl:bs.length=m) (h8:8≤m) :
  Calls Try.prog 76 [v].toArray w fun r w'=>r=.returned (.int .u64 ((num (bs.take 8):Nat):Int))∧Bel w w':=by
 obtain ⟨b,o,c,rfl,hc,hcl⟩:=Row.some hr (by simp;omega)
 refine qD (args:=[.slice (some ⟨b,o,none⟩) m c]) (e:=[(0,.slice (some ⟨b,o,none⟩) m c)]) Try.func76 rfl rfl ⟨rfl,trivial⟩ (St.start w) ?_;refine JC.seq (fun K0 hK0=>?_);refine JC.region<|J.assign rfl rfl<|J.nil ?_;refine JX.qd (hK0 _ _ ?_);refine JC.seq (fun K1 hK1=>?_);refine JC.region<|J.assign rfl rfl<|J.nil ?_;refine JX.qd (hK1 _ _ ?_);refine JC.seq (fun K2 hK2=>?_);refine JC.seq (fun K3 hK3=>?_);refine JC.region<|J.qe rfl rfl<|J.zx (i:=0) (j:=8) Ty.el26 Ty.s5 rfl rfl rfl rfl (by simp [bnd]) (by omega) (by omega) hc rfl ?_;refine J.name 7 rfl (show _=Value.slice (some ⟨b,o,none⟩) 8 c by simp [Addr.add]) ?_;refine J.qK rfl Ty.u26 rfl rfl<|J.qe rfl rfl<|J.nil ?_;refine JX.qd (hK3 _ _ ?_);refine JC.block ?_
 refine JC.conseq (JC.cov (f:=(fun i=>[(7,.slice (some ⟨b,o,none⟩) 8 c),(8,.int .i64 8),(9,.int .i64 ((i:Nat):Int)),(3,.int .u64 ((num (bs.take i):Nat):Int))]) 0) ⟨rfl,rfl,rfl,rfl,trivial⟩ (JC.loop (α:=Nat) (fun i=>[(7,.slice (some ⟨b,o,none⟩) 8 c),(8,.int .i64 8),(9,.int .i64 ((i:Nat):Int)),(3,.int .u64 ((num (bs.take i):Nat):Int))]) (fun i w'=>i≤8∧St w [] [] w') (fun i=>8 - i) 0 (fun i=>?_))) (fun w hw=>⟨Nat.zero_le _,hw⟩)
 refine JC.pr (fun hi=>?_);refine JC.seq (fun K4 hK4=>?_);refine JC.region<|J.qj rfl rfl rfl rfl<|J.nil ?_;refine JX.qd (hK4 _ _ ?_);refine JC.seq (fun K5 hK5=>?_);refine JC.qn rfl (fun h0=>?_) (fun h0=>?_)
 ·have hlt:i<8:=by simp at h0;omega
  refine JC.skip ?_;refine JX.qd (hK5 _ _ ?_);refine JC.seq (fun K6 hK6=>?_);refine JC.block ?_;refine JC.seq (fun K7 hK7=>?_);refine JC.region<|J.qu Ty.el26 Ty.s5 rfl rfl (by omega) (by omega) rfl ?_;refine J.zw (v:=u8 (bs[i]'(by omega))) Ty.a5 rfl (hcl.at_u8 (by omega) (by simp)) (by simp) rfl ?_;refine J.assign rfl rfl<|J.nil ?_;refine JX.qd (hK7 _ _ ?_);refine JC.region<|J.qe rfl rfl<|J.qj rfl rfl rfl rfl<|J.qe rfl rfl<|J.qF Ty.u5 Ty.u81 rfl rfl<|J.qj rfl rfl rfl rfl<|J.name 17 rfl (or_u64 _ _ (UInt8.toNat_lt _) (num_step (bs:=bs) (i:=i) (by omega) hlt)) ?_;refine J.name 17 rfl (show _=Value.int .u64 ((num (bs.take (i+1)):Nat):Int) by rw [yN (by omega)]) ?_;refine J.assign rfl rfl<|J.nil<|JX.qJ ?_;refine JX.qd (hK6 _ _ ?_);refine JC.region ?_
  (first | refine J.qG rfl rfl (by omega) (by omega) rfl ?_ | refine J.qj rfl rfl rfl rfl ?_)
  refine J.qe rfl rfl<|J.nil<|JX.qd<|JX.qS (i+1) ?_ ?_ ?_
  ·omega
  ·exact ⟨rfl,rfl,rfl,rfl,trivial⟩
  ·exact fun w1 hw=>⟨hlt,hw⟩
 ·obtain rfl:i=8:=by simp at h0;omega
  refine JC.qX<|JX.qE<|JX.qE<|JX.qT ?_;refine JX.qd (hK2 _ _ ?_);refine JC.seq (fun K8 hK8=>?_);refine JC.region<|J.qe rfl rfl<|J.assign rfl rfl<|J.nil ?_;refine JX.qd (hK8 _ _ ?_);refine JC.qA ?_;refine JX.qL rfl rfl (fun w hw=>?_)
  exact ⟨rfl,hw.below⟩
theorem yC (v:Value) (m:Nat) (bs:List UInt8) (w:World) (hr:Row w v m (bs.map u8)) (hl:bs.length=m) (h8:8≤m) :
  Calls Try.prog 73 [v].toArray w fun r w'=>r=.returned (.int .u64 ((num (bs.take 8):Nat):Int))∧Bel w w':=by
 obtain ⟨b,o,c,rfl,hc,hcl⟩:=Row.some hr (by simp;omega)
 refine qD (args:=[.slice (some ⟨b,o,none⟩) m c]) (e:=[(0,.slice (some ⟨b,o,none⟩) m c)]) Try.func73 rfl rfl ⟨rfl,trivial⟩ (St.start w) ?_;refine JC.seq (fun K0 hK0=>?_);refine JC.region<|J.assign rfl rfl<|J.nil ?_;refine JX.qd (hK0 _ _ ?_);refine JC.seq (fun K1 hK1=>?_);refine JC.region<|J.assign rfl rfl<|J.nil ?_;refine JX.qd (hK1 _ _ ?_);refine JC.seq (fun K2 hK2=>?_);refine JC.seq (fun K3 hK3=>?_);refine JC.region<|J.assign rfl rfl<|J.nil ?_;refine JX.qd (hK3 _ _ ?_);refine JC.block ?_
 refine JC.conseq (JC.cov (f:=(fun i=>[(0,.slice (some ⟨b,o,none⟩) m c),(4,.int .i64 ((i:Nat):Int)),(3,.int .u64 ((num (bs.take i):Nat):Int))]) 0) ⟨rfl,rfl,rfl,trivial⟩ (JC.loop (α:=Nat) (fun i=>[(0,.slice (some ⟨b,o,none⟩) m c),(4,.int .i64 ((i:Nat):Int)),(3,.int .u64 ((num (bs.take i):Nat):Int))]) (fun i w'=>i≤8∧St w [] [] w') (fun i=>8 - i) 0 (fun i=>?_))) (fun w hw=>⟨Nat.zero_le _,hw⟩)
 refine JC.pr (fun hi=>?_);refine JC.seq (fun K4 hK4=>?_);refine JC.seq (fun K5 hK5=>?_);refine JC.region<|J.qe rfl rfl<|J.qj rfl rfl rfl rfl<|J.nil ?_;refine JX.qd (hK5 _ _ ?_);refine JC.qn rfl (fun h0=>?_) (fun h0=>?_)
 ·have hlt:i<8:=by simp at h0;omega
  refine JC.skip ?_;refine JX.qd (hK4 _ _ ?_);refine JC.seq (fun K6 hK6=>?_);refine JC.block<|JC.region<|J.qe rfl rfl<|J.qj rfl rfl rfl rfl<|J.qe rfl rfl<|J.qe rfl rfl<|J.qu Ty.el26 Ty.s5 rfl rfl (by omega) (by omega) rfl ?_;refine J.zw (v:=u8 (bs[i]'(by omega))) Ty.a5 rfl (hcl.at_u8 (by omega) (by simp)) (by simp) rfl ?_;refine J.qF Ty.u5 Ty.u81 rfl rfl<|J.qj rfl rfl rfl rfl<|J.name 16 rfl (muladdS_u64 _ _ (UInt8.toNat_lt _) (num_step (bs:=bs) (i:=i) (by omega) hlt)) ?_;refine J.name 16 rfl (show _=Value.int .u64 ((num (bs.take (i+1)):Nat):Int) by rw [yN (by omega)]) ?_;refine J.assign rfl rfl<|J.nil<|JX.qJ ?_;refine JX.qd (hK6 _ _ ?_);refine JC.region<|J.qe rfl rfl ?_
  (first | refine J.qG rfl rfl (by omega) (by omega) rfl ?_ | refine J.qj rfl rfl rfl rfl ?_)
  refine J.assign rfl rfl<|J.nil<|JX.qd<|JX.qS (i+1) ?_ ?_ ?_
  ·omega
  ·exact ⟨rfl,rfl,rfl,trivial⟩
  ·exact fun w1 hw=>⟨hlt,hw⟩
 ·obtain rfl:i=8:=by simp at h0;omega
  refine JC.qX<|JX.qE<|JX.qE<|JX.qT ?_;refine JX.qd (hK2 _ _ ?_);refine JC.seq (fun K7 hK7=>?_);refine JC.region<|J.qe rfl rfl<|J.assign rfl rfl<|J.nil ?_;refine JX.qd (hK7 _ _ ?_);refine JC.qA ?_;refine JX.qL rfl rfl (fun w hw=>?_)
  exact ⟨rfl,hw.below⟩
theorem z1 (n:Nat) (w:World) (hn:n≤1125899906842624) :
  Calls Try.prog 63 [.int .i64 ((n:Nat):Int)].toArray w fun r w'=>r=.returned (.int .i64 ((needN n:Nat):Int))∧Bel w w':=by
 refine qD (args:=[.int .i64 ((n:Nat):Int)]) (e:=[(0,.int .i64 ((n:Nat):Int))]) Try.func63 rfl rfl ⟨rfl,trivial⟩ (St.start w) ?_;refine JC.seq (fun K0 hK0=>?_);refine JC.region<|J.assign rfl rfl<|J.nil ?_;refine JX.qd (hK0 _ _ ?_);refine JC.seq (fun K1 hK1=>?_);refine JC.region<|J.qe rfl rfl ?_
 (first | refine J.qG rfl rfl (by omega) (by omega) rfl ?_ | refine J.qj rfl rfl rfl rfl ?_)
 (first | refine J.qG rfl rfl (by omega) (by omega) rfl ?_ | refine J.qj rfl rfl rfl rfl ?_)
 (first | refine J.zn rfl rfl (by omega) (by omega) rfl ?_ | refine J.qj rfl rfl rfl rfl ?_)
 (first | refine J.ym rfl rfl (by omega) (by omega) (by omega) rfl ?_ | refine J.qj rfl rfl rfl rfl ?_)
 refine J.assign rfl rfl<|J.nil ?_;refine JX.qd (hK1 _ _ ?_);refine JC.qA ?_;refine JX.qL rfl rfl (fun w hw=>?_)
 refine ⟨congrArg (fun x=>Ending.returned (Value.int .i64 x)) ?_,hw.below⟩
 unfold needN;omega
theorem rsectors_spec (a:Option Addr) (n c:Nat) (w:World) (hn:n≤1125899906842624) :
  Calls Try.prog 53 [.slice a n c].toArray w fun r w'=>r=.returned (.int .i64 ((needN n:Nat):Int))∧Bel w w':=by
 refine qD (args:=[.slice a n c]) (e:=[(0,.slice a n c)]) Try.func53 rfl rfl ⟨rfl,trivial⟩ (St.start w) ?_;refine JC.seq (fun K0 hK0=>?_);refine JC.region<|J.assign rfl rfl<|J.nil ?_;refine JX.qd (hK0 _ _ ?_);refine JC.seq (fun K1 hK1=>?_);refine JC.region<|J.qe rfl rfl<|J.qK rfl Ty.u26 rfl rfl ?_
 (first | refine J.qG rfl rfl (by omega) (by omega) rfl ?_ | refine J.qj rfl rfl rfl rfl ?_)
 (first | refine J.qG rfl rfl (by omega) (by omega) rfl ?_ | refine J.qj rfl rfl rfl rfl ?_)
 (first | refine J.ym rfl rfl (by omega) (by omega) (by omega) rfl ?_ | refine J.qj rfl rfl rfl rfl ?_)
 refine J.assign rfl rfl<|J.nil ?_;refine JX.qd (hK1 _ _ ?_);refine JC.qA ?_;refine JX.qL rfl rfl (fun w hw=>?_)
 refine ⟨congrArg (fun x=>Ending.returned (Value.int .i64 x)) ?_,hw.below⟩
 unfold needN;omega
theorem headP_bad {bs:List UInt8} {i:Nat} (hl:bs.length=64) (hi:i<40) (h:bs.getD (24+i) 0≠0):headP bs=(0,0,0):=by
 unfold headP
 rw [if_neg]
 intro h1
 rw [List.all_eq_true] at h1
 have:=h1 bs[24+i] (by rw [List.mem_iff_getElem?];exact ⟨i,by rw [List.getElem?_drop,List.getElem?_eq_getElem]⟩)
 rw [List.getD_eq_getElem?_getD,List.getElem?_eq_getElem (by omega)] at h
 simp at this h
 exact h this
theorem headP_ok {bs:List UInt8} (hl:bs.length=64) (h:∀j,j<40→bs.getD (24+j) 0=0):headP bs=(num (bs.take 8),num ((bs.drop 8).take 8),num ((bs.drop 16).take 8)):=by
 unfold headP
 rw [if_pos]
 rw [List.all_eq_true]
 intro x hx
 obtain ⟨j,hj⟩:=List.mem_iff_getElem?.1 hx
 have hjl:j<40:=by have:=(List.getElem?_eq_some_iff.1 hj).1;simp at this;omega
 have:=h j hjl
 rw [List.getElem?_drop] at hj
 rw [List.getD_eq_getElem?_getD,hj] at this
 simpa using this
theorem head_spec (v:Value) (bs:List UInt8) (w:World) (hr:Row w v 64 (bs.map u8)) (hl:bs.length=64) :
  Calls Try.prog 62 [v].toArray w fun r w'=>r=.returned (.tuple #[.int .u64 (((headP bs).1:Nat):Int),.int .u64 (((headP bs).2.1:Nat):Int),.int .u64 (((headP bs).2.2:Nat):Int)])∧Bel w w':=by
 have hr0:=hr
 obtain ⟨b,o,c,rfl,hc,hcl⟩:=Row.some hr0 (by simp;omega)
 refine qD (args:=[.slice (some ⟨b,o,none⟩) 64 c]) (e:=[(0,.slice (some ⟨b,o,none⟩) 64 c)]) Try.func62 rfl rfl ⟨rfl,trivial⟩ (St.start w) ?_;refine JC.seq (fun K0 hK0=>?_);refine JC.region<|J.assign rfl rfl<|J.assign rfl rfl<|J.assign rfl rfl<|J.nil ?_;refine JX.qd (hK0 _ _ ?_);refine JC.seq (fun K1 hK1=>?_);refine JC.seq (fun K2 hK2=>?_);refine JC.region<|J.qe rfl rfl<|J.zx (i:=24) (j:=64) Ty.el26 Ty.s5 rfl rfl rfl (by simp [bnd]) rfl (by omega) (by omega) hc rfl ?_;refine J.name 8 rfl (show _=Value.slice (some ⟨b,o+24,none⟩) 40 (c - 24) by rw [if_neg (by omega)];rfl) ?_;refine J.qK rfl Ty.u26 rfl rfl<|J.qe rfl rfl<|J.nil ?_;refine JX.qd (hK2 _ _ ?_);refine JC.block ?_
 refine JC.conseq (JC.cov (f:=(fun i=>[(0,.slice (some ⟨b,o,none⟩) 64 c),(8,.slice (some ⟨b,o+24,none⟩) 40 (c - 24)),(9,.int .i64 40),(10,.int .i64 ((i:Nat):Int))]) 0) ⟨rfl,rfl,rfl,rfl,trivial⟩ (JC.loop (α:=Nat) (fun i=>[(0,.slice (some ⟨b,o,none⟩) 64 c),(8,.slice (some ⟨b,o+24,none⟩) 40 (c - 24)),(9,.int .i64 40),(10,.int .i64 ((i:Nat):Int))]) (fun i w'=>(i≤40∧∀j,j<i→bs.getD (24+j) 0=0)∧St w [] [] w') (fun i=>40 - i) 0 (fun i=>?_))) (fun w hw=>⟨⟨Nat.zero_le _,fun j hj=>by omega⟩,hw⟩)
 refine JC.pr (fun hi=>?_)
 obtain ⟨hi,hz⟩:=hi
 refine JC.seq (fun K3 hK3=>?_);refine JC.region<|J.qj rfl rfl rfl rfl<|J.nil ?_;refine JX.qd (hK3 _ _ ?_);refine JC.seq (fun K4 hK4=>?_);refine JC.qn rfl (fun h0=>?_) (fun h0=>?_)
 ·have hlt:i<40:=by simp at h0;omega
  refine JC.skip ?_;refine JX.qd (hK4 _ _ ?_);refine JC.seq (fun K5 hK5=>?_);refine JC.block ?_;refine JC.seq (fun K6 hK6=>?_);refine JC.region<|J.qu Ty.el26 Ty.s5 rfl rfl (by omega) (by omega) rfl ?_;refine J.zw (v:=u8 (bs[24+i]'(by omega))) Ty.a5 rfl (hcl.at_u8 (by omega) (by simp;omega)) (by simp) rfl ?_;refine J.assign rfl rfl<|J.nil ?_;refine JX.qd (hK6 _ _ ?_);refine JC.seq (fun K7 hK7=>?_);refine JC.region<|J.qe rfl rfl<|J.qj rfl rfl rfl rfl<|J.nil ?_;refine JX.qd (hK7 _ _ ?_);refine JC.qn rfl (fun h1=>?_) (fun h1=>?_)
  ·have hnz:bs.getD (24+i) 0≠0:=by
    rw [List.getD_eq_getElem?_getD,List.getElem?_eq_getElem (by omega)]
    intro e
    simp at e h1
    rw [e] at h1
    exact h1 rfl
   have hbad:=headP_bad hl hlt hnz
   refine JC.seq (fun K8 hK8=>?_);refine JC.region<|J.assign rfl rfl<|J.assign rfl rfl<|J.assign rfl rfl<|J.nil ?_;refine JX.qd (hK8 _ _ ?_);refine JC.qA<|JX.qH<|JX.qt<|JX.qt<|JX.qH<|JX.qt ?_;refine JX.q5 rfl rfl rfl rfl (fun w hw=>?_)
   first
   | (rw [hbad];exact ⟨rfl,hw.below⟩)
   | (rw [hok];exact ⟨rfl,hw.below⟩)
  ·have hzi:bs.getD (24+i) 0=0:=by
    rw [List.getD_eq_getElem?_getD,List.getElem?_eq_getElem (by omega)]
    simp at h1 ⊢
    exact UInt8.toNat_inj.1 (by simpa using h1)
   refine JC.skip<|JX.qJ ?_;refine JX.qd (hK5 _ _ ?_);refine JC.region ?_
   (first | refine J.qG rfl rfl (by omega) (by omega) rfl ?_ | refine J.qj rfl rfl rfl rfl ?_)
   refine J.qe rfl rfl<|J.nil<|JX.qd<|JX.qS (i+1) ?_ ?_ ?_
   ·omega
   ·exact ⟨rfl,rfl,rfl,rfl,trivial⟩
   ·exact fun w1 hw=>⟨⟨hlt,fun j hj=>by
     by_cases e:j=i
     ·subst e;exact hzi
     ·exact hz j (by omega)⟩,hw⟩
 ·obtain rfl:i=40:=by simp at h0;omega
  have hok:=headP_ok hl hz
  refine JC.qX<|JX.qE<|JX.qE<|JX.qT ?_;refine JX.qd (hK1 _ _ ?_);refine JC.seq (fun K9 hK9=>?_)
  apply JC.zc 8 [Eqv (_),Eqv (_),Eqv (_),Eqv (_),Eqv (_),Eqv (_),Eqv (_),Eqv (_)] Ty.mixed rfl rfl rfl (by kernel_rfl) rfl rfl (fun w w' hw hb=>hw.step hb) ⟨fun _ _ _ h _=>h,fun _ _ _ h _=>h,fun _ _ _ h _=>h,fun _ _ _ h _=>h,fun _ _ _ h _=>h,fun _ _ _ h _=>h,fun _ _ _ h _=>h,fun _ _ _ h _=>h,trivial⟩ ?hstep ?htail
  case hstep=>
   refine ⟨fun wi=>?_,fun wi=>?_,fun wi=>?_,fun wi=>?_,fun wi=>?_,fun wi=>?_,fun wi=>?_,fun wi=>?_,trivial⟩
   ·refine Fin.nil<|J.qe rfl rfl ?_
    exact J.qm rfl
   ·refine Fin.qc rfl (Fin.nil ?_);refine J.zD Ty.bd76 rfl rfl (fun w' hw=>number_spec _ 64 bs w' (hr.st (.inr (by simp)) hw) hl (by omega)) ?_
    exact J.zQ rfl
   ·refine Fin.nil<|J.qe rfl rfl ?_
    exact J.qm rfl
   ·refine Fin.qc rfl (Fin.nil ?_);refine J.zx (i:=8) (j:=64) Ty.el26 Ty.s5 rfl rfl rfl (by simp [bnd]) rfl (by omega) (by omega) hc rfl ?_
    exact J.qm rfl
   ·refine Fin.qc rfl (Fin.qc rfl (Fin.nil ?_))
    refine J.zD Ty.bd76 rfl rfl (fun w' hw=>number_spec _ (64 - 8) (bs.drop 8) w' (by
     have h1:=(hr.st (.inr (by simp)) hw).slice (sz:=1) (i:=8) (j:=64) (by simp [hl]) (by omega) (by omega)
     rw [show ((bs.map u8).drop (8*1)).take ((64 - 8)*1)=(bs.drop 8).map u8 from by rw [Nat.mul_one,Nat.mul_one,List.take_of_length_le (by simp;omega),List.map_drop]] at h1
     exact h1) (by simp [hl]) (by omega)) ?_
    exact J.zQ rfl
   ·refine Fin.nil<|J.qe rfl rfl ?_
    exact J.qm rfl
   ·refine Fin.qc rfl (Fin.nil ?_);refine J.zx (i:=16) (j:=64) Ty.el26 Ty.s5 rfl rfl rfl (by simp [bnd]) rfl (by omega) (by omega) hc rfl ?_
    exact J.qm rfl
   ·refine Fin.qc rfl (Fin.qc rfl (Fin.nil ?_))
    refine J.zD Ty.bd76 rfl rfl (fun w' hw=>number_spec _ (64 - 16) (bs.drop 16) w' (by
     have h1:=(hr.st (.inr (by simp)) hw).slice (sz:=1) (i:=16) (j:=64) (by simp [hl]) (by omega) (by omega)
     rw [show ((bs.map u8).drop (16*1)).take ((64 - 16)*1)=(bs.drop 16).map u8 from by rw [Nat.mul_one,Nat.mul_one,List.take_of_length_le (by simp;omega),List.map_drop]] at h1
     exact h1) (by simp [hl]) (by omega)) ?_
    exact J.zQ rfl
  case htail=>
   refine Fin.qc rfl (Fin.qc rfl (Fin.qc rfl (Fin.qc rfl (Fin.qc rfl (Fin.qc rfl (Fin.qc rfl (Fin.qc rfl (Fin.nil ?_))))))))
   refine J.assign rfl rfl<|J.assign rfl rfl<|J.assign rfl rfl<|J.nil ?_;refine JX.qd (hK9 _ _ ?_);refine JC.qA ?_;refine JX.q5 rfl rfl rfl rfl (fun w hw=>?_)
   first
   | (rw [hbad];exact ⟨rfl,hw.below⟩)
   | (rw [hok];exact ⟨rfl,hw.below⟩)
def be8 (n:Nat):List UInt8:=(List.range 8).map fun i=>UInt8.ofNat (n / 2 ^ (56 - 8*i))
theorem q8 (n:Nat):(be8 n).length=8:=by simp [be8]
theorem be8_get (n i:Nat) (h:i<8):(be8 n)[i]'(by rw [q8];exact h)=UInt8.ofNat (n / 2 ^ (56 - 8*i)):=by simp [be8]
theorem num_be8 (n:Nat) (h:n<18446744073709551616):num (be8 n)=n:=by
 simp only [num,be8,List.range,List.range.loop,List.map_cons,List.map_nil,List.foldl_cons,List.foldl_nil,UInt8.toNat_ofNat',Nat.reduceMul,Nat.reduceSub,Nat.reducePow]
 omega
theorem byte_be8 (n i:Nat) (h:i<8) {q:Int} (hq:q=56 - 8*(i:Int)):Value.int .u8 (IntKind.u8.wrap (Int.fdiv ((n:Nat):Int) (2 ^ (min q.toNat IntKind.u64.bits))))=u8 ((be8 n)[i]'(by rw [q8];exact h)):=by
 rw [be8_get n i h]
 have e1:min q.toNat IntKind.u64.bits=56 - 8*i:=by
  have:IntKind.u64.bits=64:=rfl
  omega
 have e2:((2:Int) ^ (56 - 8*i))=((2 ^ (56 - 8*i):Nat):Int):=by simp
 rw [e1,yM,e2,Int.fdiv_eq_ediv_of_nonneg _ (Int.natCast_nonneg _)]
 show Value.int .u8 _=Value.int .u8 _
 congr 1 <;> simp
theorem beq_u8 (x:UInt8):((x.toNat:Int)==0)=(x==0):=by
 by_cases h:x=0
 ·subst h;rfl
 ·have:x.toNat≠0:=fun e=>h (UInt8.toNat_inj.1 (by simpa using e))
  rw [beq_eq_false_iff_ne.2 h,beq_eq_false_iff_ne.2 (by omega)]
theorem flat_succ {ns:List Nat} {k:Nat} (h:k<ns.length):(ns.take (k+1)).flatMap be8=(ns.take k).flatMap be8++be8 ns[k]:=by
 rw [take_add_one h,List.flatMap_append];simp
theorem flat_length (ns:List Nat):(ns.flatMap be8).length=8*ns.length:=by
 induction ns with
 | nil=>rfl
 | cons n ns ih=>rw [List.flatMap_cons,List.length_append,ih,q8,List.length_cons];omega
theorem laid_spec (v:Value) (ns:List Nat) (w:World) (hr:Row w v ns.length (ns.map fun n=>.int .u64 ((n:Nat):Int))) (hn:ns.length≤1000) :
  Calls Try.prog 69 [v].toArray w fun r w'=>∃x:Value × List (Nat × Obj),r=.returned x.1∧Vec 5 1 x.1 (8*ns.length) ((ns.flatMap be8).map u8) x.2∧St w [] x.2 w':=by
 obtain ⟨a,c,rfl,hc,hra⟩:=hr
 refine qD (args:=[.slice a ns.length c]) (e:=[(0,.slice a ns.length c)]) Try.func69 rfl rfl ⟨rfl,trivial⟩ (St.start w) ?_;refine JC.seq (fun K0 hK0=>?_);refine JC.region<|J.assign rfl rfl<|J.nil ?_;refine JX.qd (hK0 _ _ ?_);refine JC.seq (fun K1 hK1=>?_);refine JC.region<|J.assign rfl rfl<|J.nil ?_;refine JX.qd (hK1 _ _ ?_);refine JC.seq (fun K2 hK2=>?_);refine JC.seq (fun K3 hK3=>?_);refine JC.region<|J.qe rfl rfl<|J.qK rfl Ty.u118 rfl rfl<|J.qe rfl rfl<|J.nil ?_;refine JX.qd (hK3 _ _ ?_);refine JC.block ?_
 refine JC.conseq (JC.cov (f:=(fun st=>[(7,.slice a ns.length c),(8,.int .i64 ((ns.length:Nat):Int)),(9,.int .i64 ((st.1:Nat):Int)),(3,st.2.1)]) ((0,.slice none 0 0,[]):Nat × Value × List (Nat × Obj))) ⟨rfl,rfl,rfl,rfl,trivial⟩ (JC.loop (α:=Nat × Value × List (Nat × Obj)) (fun st=>[(7,.slice a ns.length c),(8,.int .i64 ((ns.length:Nat):Int)),(9,.int .i64 ((st.1:Nat):Int)),(3,st.2.1)]) (fun st w'=>(st.1≤ns.length∧Vec 5 1 st.2.1 (8*st.1) (((ns.take st.1).flatMap be8).map u8) st.2.2)∧St w [] st.2.2 w') (fun st=>ns.length - st.1) ((0,.slice none 0 0,[]):Nat × Value × List (Nat × Obj)) (fun st=>?_))) (fun w hw=>⟨⟨Nat.zero_le _,Vec.nil _ _⟩,hw⟩)
 obtain ⟨k,v3,lp⟩:=st
 refine JC.pr (fun hx=>?_)
 obtain ⟨hk,hv⟩:=hx
 simp only at hk hv ⊢
 refine JC.seq (fun K4 hK4=>?_);refine JC.region<|J.qj rfl rfl rfl rfl<|J.nil ?_;refine JX.qd (hK4 _ _ ?_);refine JC.seq (fun K5 hK5=>?_);refine JC.qn rfl (fun h0=>?_) (fun h0=>?_)
 ·have hlt:k<ns.length:=by simp at h0;omega
  obtain ⟨nk,hnk⟩:∃nk,nk=ns[k]:=⟨_,rfl⟩
  obtain ⟨b,o,rfl,hcl⟩:∃b o,a=some ⟨b,o,none⟩∧Cells w b o (ns.map fun n=>.int .u64 ((n:Nat):Int)):=by
   rcases hra with h | h
   ·have h2:=congrArg List.length h;simp at h2;rw [h2] at hlt;simp at hlt
   ·exact h
  have hcell:w.cell? ⟨b,o+(k:Int).toNat*1,none⟩=some (.int .u64 ((nk:Nat):Int)):=by
   have:=hcl k (by simpa using hlt)
   rw [show o+(k:Int).toNat*1=o+k by simp,this];simp [List.getElem?_eq_getElem hlt,hnk]
  refine JC.skip ?_;refine JX.qd (hK5 _ _ ?_);refine JC.seq (fun K6 hK6=>?_);refine JC.block ?_;refine JC.seq (fun K7 hK7=>?_);refine JC.region<|J.qu Ty.el118 Ty.s81 rfl rfl (by omega) (by omega) rfl ?_;refine J.zw Ty.a81 rfl hcell (by simp) rfl ?_;refine J.assign rfl rfl<|J.nil ?_;refine JX.qd (hK7 _ _ ?_);refine JC.seq (fun K8 hK8=>?_);refine JC.region<|J.qe rfl rfl<|J.nil ?_;refine JX.qd (hK8 _ _ ?_);refine JC.block ?_
  refine JC.conseq (JC.cov (f:=(fun st=>[(7,.slice (some ⟨b,o,none⟩) ns.length c),(8,.int .i64 ((ns.length:Nat):Int)),(9,.int .i64 ((k:Nat):Int)),(5,.int .u64 ((nk:Nat):Int)),(13,.int .i64 ((st.1:Nat):Int)),(3,st.2.1)]) ((0,v3,lp):Nat × Value × List (Nat × Obj))) ⟨rfl,rfl,rfl,rfl,rfl,rfl,trivial⟩ (JC.loop (α:=Nat × Value × List (Nat × Obj)) (fun st=>[(7,.slice (some ⟨b,o,none⟩) ns.length c),(8,.int .i64 ((ns.length:Nat):Int)),(9,.int .i64 ((k:Nat):Int)),(5,.int .u64 ((nk:Nat):Int)),(13,.int .i64 ((st.1:Nat):Int)),(3,st.2.1)]) (fun st w'=>(st.1≤8∧Vec 5 1 st.2.1 (8*k+st.1) (((ns.take k).flatMap be8++(be8 nk).take st.1).map u8) st.2.2)∧St w [] st.2.2 w') (fun st=>8 - st.1) ((0,v3,lp):Nat × Value × List (Nat × Obj)) (fun st=>?_))) (fun w hw=>⟨⟨Nat.zero_le _,by simpa using hv⟩,hw⟩)
  obtain ⟨i,v4,lp4⟩:=st
  refine JC.pr (fun hx=>?_)
  obtain ⟨hi,hv4⟩:=hx
  simp only at hi hv4 ⊢
  refine JC.seq (fun K9 hK9=>?_);refine JC.region<|J.qj rfl rfl rfl rfl<|J.nil ?_;refine JX.qd (hK9 _ _ ?_);refine JC.seq (fun K10 hK10=>?_);refine JC.qn rfl (fun h1=>?_) (fun h1=>?_)
  ·have hlt2:i<8:=by simp at h1;omega
   refine JC.skip ?_;refine JX.qd (hK10 _ _ ?_);refine JC.seq (fun K11 hK11=>?_);refine JC.block ?_;refine JC.seq (fun K12 hK12=>?_);refine JC.region<|J.qe rfl rfl<|J.assign rfl rfl<|J.nil ?_;refine JX.qd (hK12 _ _ ?_);refine JC.region<|J.qe rfl rfl<|J.qe rfl rfl<|J.qe rfl rfl ?_
   (first | refine J.zO rfl rfl (by omega) (by omega) rfl ?_ | refine J.qj rfl rfl rfl rfl ?_)
   (first | refine J.zn rfl rfl (by omega) (by omega) rfl ?_ | refine J.qj rfl rfl rfl rfl ?_)
   refine J.shrN rfl rfl (by omega) rfl ?_;refine J.qF Ty.u81 Ty.u5 rfl rfl<|J.name 22 rfl (byte_be8 nk i hlt2 rfl) ?_;refine J.za Ty.el26 Ty.s5 Ty.z5 rfl rfl rfl rfl rfl rfl rfl (fun b23=>?_);refine J.perm (lp4++[(b23,cb [u8 ((be8 nk)[i]'(by rw [q8];exact hlt2))] 5)]) zp ?_;refine J.qZ (lp:=lp4) (ys:=[u8 ((be8 nk)[i]'(by rw [q8];exact hlt2))]) (m:=1) Ty.el26 Ty.s5 Ty.b5 Ty.z5 rfl (.inl ⟨5,Ty.u26⟩) rfl rfl hv4 (fun w' hw=>.inl (Row.own (cs:=[u8 ((be8 nk)[i]'(by rw [q8];exact hlt2))]) (tb:=5) (fr:=(0,0)) hw (List.mem_append_right _ (.head _)) rfl (Nat.le_refl _))) rfl (by simp [Value.oneCell']) (by omega) (by omega) rfl (fun v24 lp24 hv24=>?_);refine J.assign rfl rfl<|J.nil<|JX.qJ ?_;refine JX.qd (hK11 _ _ ?_);refine JC.region ?_
   (first | refine J.qG rfl rfl (by omega) (by omega) rfl ?_ | refine J.qj rfl rfl rfl rfl ?_)
   refine J.qe rfl rfl<|J.nil<|JX.qd<|JX.qS (i+1,v24,lp24) ?_ ?_ ?_
   ·simp only;omega
   ·exact ⟨rfl,rfl,rfl,rfl,rfl,rfl,trivial⟩
   ·exact fun w1 hw=>⟨⟨hlt2,by simp only;rw [take_add_one (by rw [q8];exact hlt2),← List.append_assoc,List.map_append (l₂:=[_])];exact hv24⟩,hw.drop (List.sublist_append_left _ _)⟩
  ·obtain rfl:i=8:=by simp at h1;omega
   rw [List.take_of_length_le (l:=be8 nk) (by rw [q8];omega)] at hv4
   refine JC.qX<|JX.qE<|JX.qE<|JX.qT<|JX.qJ ?_;refine JX.qd (hK6 _ _ ?_);refine JC.region ?_
   (first | refine J.qG rfl rfl (by omega) (by omega) rfl ?_ | refine J.qj rfl rfl rfl rfl ?_)
   refine J.qe rfl rfl<|J.nil<|JX.qd<|JX.qS (k+1,v4,lp4) ?_ ?_ ?_
   ·simp only;omega
   ·exact ⟨rfl,rfl,rfl,rfl,trivial⟩
   ·exact fun w1 hw=>⟨⟨hlt,by simp only;rw [flat_succ hlt,← hnk];exact hv4⟩,hw⟩
 ·obtain rfl:k=ns.length:=by simp at h0;omega
  refine JC.qX<|JX.qE<|JX.qE<|JX.qT ?_;refine JX.qd (hK2 _ _ ?_);refine JC.seq (fun K13 hK13=>?_);refine JC.region<|J.qe rfl rfl<|J.assign rfl rfl<|J.nil ?_;refine JX.qd (hK13 _ _ ?_);refine JC.qA ?_;refine JX.qL rfl rfl (fun w hw=>?_)
  rw [List.take_of_length_le (Nat.le_refl _)] at hv
  exact ⟨(v3,lp),rfl,hv,hw⟩
def bestP (B:List UInt8):Nat→Nat × Nat × Nat
 | 0=>(0,0,0)
 | k+1=>if (bestP B k).1<(headP (sec B k)).1 then headP (sec B k) else bestP B k
def okB (s : List UInt8) (i : Nat) : Bool := ((s.drop 24).take (i - 24)).all (· == 0)
theorem okB_succ {s:List UInt8} {i:Nat} (h1:24≤i) (h2:i<s.length):okB s (i+1)=(okB s i&&s[i]==0):=by
 unfold okB
 rw [show i+1 - 24=(i - 24)+1 by omega,take_add_one (by simp;omega),List.all_append]
 simp [show 24+(i - 24)=i by omega]
theorem okB_all {s : List UInt8} (h : s.length = 64) : okB s 64 = (s.drop 24).all (· == 0) := by
 unfold okB;rw [List.take_of_length_le (by simp;omega)]
theorem yB {B:List UInt8} {k:Nat} (h:64*k+64≤B.length):(sec B k).length=64:=by simp [sec];omega
theorem rhead_spec (v:Value) (m:Nat) (B:List UInt8) (w:World) (hr:Row w v m (B.map u8)) (hl:B.length=m) (hm:128≤m) :
  Calls Try.prog 52 [v].toArray w fun r w'=>r=.returned (.tuple #[.int .u64 (((bestP B 2).1:Nat):Int),.int .u64 (((bestP B 2).2.1:Nat):Int),.int .u64 (((bestP B 2).2.2:Nat):Int)])∧Bel w w':=by
 have hr0:=hr
 obtain ⟨b,o,c,rfl,hc,hcl⟩:=Row.some hr0 (by simp;omega)
 refine qD (args:=[.slice (some ⟨b,o,none⟩) m c]) (e:=[(0,.slice (some ⟨b,o,none⟩) m c)]) Try.func52 rfl rfl ⟨rfl,trivial⟩ (St.start w) ?_;refine JC.seq (fun K0 hK0=>?_);refine JC.region<|J.assign rfl rfl<|J.assign rfl rfl<|J.assign rfl rfl<|J.nil ?_;refine JX.qd (hK0 _ _ ?_);refine JC.seq (fun K1 hK1=>?_);refine JC.region ?_;refine J.alloc Ty.z135 rfl rfl (fun b5=>?_);refine J.nil ?_;refine JX.qd (hK1 _ _ ?_);refine JC.seq (fun K2 hK2=>?_);refine JC.seq (fun K3 hK3=>?_);refine JC.region<|J.assign rfl rfl<|J.nil ?_;refine JX.qd (hK3 _ _ ?_);refine JC.block ?_
 refine JC.conseq (JC.cov (f:=(fun k=>[(0,.slice (some ⟨b,o,none⟩) m c),(5,.pointer (some ⟨b5,0,none⟩)),(6,.int .i64 ((k:Nat):Int))]) 0) ⟨rfl,rfl,rfl,trivial⟩ (JC.loop (α:=Nat) (fun k=>[(0,.slice (some ⟨b,o,none⟩) m c),(5,.pointer (some ⟨b5,0,none⟩)),(6,.int .i64 ((k:Nat):Int))]) (fun k w'=>k≤2∧St w [] [(b5,cb [.int .u64 (((bestP B k).1:Nat):Int),.int .u64 (((bestP B k).2.1:Nat):Int),.int .u64 (((bestP B k).2.2:Nat):Int)] 135)] w') (fun k=>2 - k) 0 (fun k=>?_))) (fun w hw=>⟨Nat.zero_le _,hw⟩)
 refine JC.pr (fun hk=>?_);refine JC.seq (fun K4 hK4=>?_);refine JC.seq (fun K5 hK5=>?_);refine JC.region<|J.qe rfl rfl<|J.qj rfl rfl rfl rfl<|J.nil ?_;refine JX.qd (hK5 _ _ ?_);refine JC.qn rfl (fun h0=>?_) (fun h0=>?_)
 ·have hlt:k<2:=by simp at h0;omega
  have hsl:=yB (B:=B) (k:=k) (by omega)
  have hrs:Row w (.slice (some ⟨b,o+64*k,none⟩) 64 (c - 64*k)) 64 ((sec B k).map u8):=by
   have h1:=hr0.slice (sz:=1) (i:=64*k) (j:=64*k+64) (by simp [hl]) (by omega) (by omega)
   rw [if_neg (by omega),Option.map_some,zJ] at h1
   rw [show 64*k+64 - 64*k=64 by omega,Nat.mul_one,Nat.mul_one,← List.map_drop,← List.map_take] at h1
   exact h1
  obtain ⟨b',o',c',he,_,hscl⟩:=Row.some hrs (by simp [hsl])
  simp only [Value.slice.injEq,Option.some.injEq,Addr.mk.injEq] at he
  obtain ⟨⟨rfl,rfl,_⟩,_,_⟩:=he
  refine JC.skip ?_;refine JX.qd (hK4 _ _ ?_);refine JC.seq (fun K6 hK6=>?_);refine JC.block ?_;refine JC.seq (fun K7 hK7=>?_);refine JC.region<|J.qe rfl rfl<|J.qe rfl rfl ?_
  (first | refine J.zO rfl rfl (by omega) (by omega) rfl ?_ | refine J.qj rfl rfl rfl rfl ?_)
  refine J.qe rfl rfl ?_
  (first | refine J.zO rfl rfl (by omega) (by omega) rfl ?_ | refine J.qj rfl rfl rfl rfl ?_)
  (first | refine J.qG rfl rfl (by omega) (by omega) rfl ?_ | refine J.qj rfl rfl rfl rfl ?_)
  refine J.zx (i:=64*k) (j:=64*k+64) Ty.el26 Ty.s5 rfl rfl rfl (by simp only [bnd];rw [if_pos (by omega)];congr 1 <;> omega) (by simp only [bnd];rw [if_pos (by omega)];congr 1 <;> omega) (by omega) (by omega) (by omega) rfl ?_;refine J.name 20 rfl (show _=Value.slice (some ⟨b,o+64*k,none⟩) 64 (c - 64*k) by rw [if_neg (by omega),Option.map_some,zJ,Nat.mul_one,show 64*k+64 - 64*k=64 by omega]) ?_;refine J.assign rfl rfl<|J.nil ?_;refine JX.qd (hK7 _ _ ?_);refine JC.seq (fun K8 hK8=>?_);refine JC.region<|J.assign rfl rfl<|J.name 8 rfl (show Value.bool true=.bool (okB (sec B k) 24) by simp [okB]) ?_;refine J.nil ?_;refine JX.qd (hK8 _ _ ?_);refine JC.seq (fun K9 hK9=>?_);refine JC.seq (fun K10 hK10=>?_);refine JC.region<|J.assign rfl rfl<|J.nil ?_;refine JX.qd (hK10 _ _ ?_);refine JC.block ?_
  refine JC.conseq (JC.cov (f:=(fun i=>[(0,.slice (some ⟨b,o,none⟩) m c),(5,.pointer (some ⟨b5,0,none⟩)),(6,.int .i64 ((k:Nat):Int)),(7,.slice (some ⟨b,o+64*k,none⟩) 64 (c - 64*k)),(8,.bool (okB (sec B k) i)),(9,.int .i64 ((i:Nat):Int))]) 24) ⟨rfl,rfl,rfl,rfl,rfl,rfl,trivial⟩ (JC.loop (α:=Nat) (fun i=>[(0,.slice (some ⟨b,o,none⟩) m c),(5,.pointer (some ⟨b5,0,none⟩)),(6,.int .i64 ((k:Nat):Int)),(7,.slice (some ⟨b,o+64*k,none⟩) 64 (c - 64*k)),(8,.bool (okB (sec B k) i)),(9,.int .i64 ((i:Nat):Int))]) (fun i w'=>(24≤i∧i≤64)∧St w [] [(b5,cb [.int .u64 (((bestP B k).1:Nat):Int),.int .u64 (((bestP B k).2.1:Nat):Int),.int .u64 (((bestP B k).2.2:Nat):Int)] 135)] w') (fun i=>64 - i) 24 (fun i=>?_))) (fun w hw=>⟨⟨by omega,by omega⟩,hw⟩)
  refine JC.pr (fun hi=>?_);refine JC.seq (fun K11 hK11=>?_);refine JC.seq (fun K12 hK12=>?_);refine JC.region<|J.qe rfl rfl<|J.qj rfl rfl rfl rfl<|J.nil ?_;refine JX.qd (hK12 _ _ ?_);refine JC.qn rfl (fun h1=>?_) (fun h1=>?_)
  ·have hlt2:i<64:=by simp at h1;omega
   refine JC.skip ?_;refine JX.qd (hK11 _ _ ?_);refine JC.seq (fun K13 hK13=>?_);refine JC.block<|JC.region<|J.qe rfl rfl<|J.qe rfl rfl ?_;refine J.z6 26 rfl (fun hs26=>?_) (fun hs26=>?_)
   ·try simp only [decide_eq_true_eq,decide_eq_false_iff_not,beq_iff_eq,bne_iff_ne,bne_eq_false_iff_eq,ne_eq,beq_eq_false_iff_ne,Bool.not_eq_true,Bool.not_eq_false,Int.not_lt,Int.not_le] at hs26
    first
    | exact absurd hs26 (by decide)
    |skip
     first | refine J.skip rfl rfl rfl rfl rfl ?_ | refine J.qh rfl rfl rfl rfl ?_ | (refine J.qf rfl rfl rfl ?_;refine J.qe rfl rfl ?_)
     first | refine J.skip rfl rfl rfl rfl rfl ?_ | refine J.qh rfl rfl rfl rfl ?_ | (refine J.qf rfl rfl rfl ?_;refine J.qe rfl rfl ?_)
     first | refine J.skip rfl rfl rfl rfl rfl ?_ | refine J.qh rfl rfl rfl rfl ?_ | (refine J.qf rfl rfl rfl ?_;refine J.qu Ty.el26 Ty.s5 rfl rfl (by omega) (by omega) rfl ?_)
     first
     | (refine J.skip rfl rfl rfl rfl rfl ?_)
     | (refine J.qf rfl rfl rfl ?_;refine J.zw (v:=u8 ((sec B k)[i]'(by omega))) Ty.a5 rfl (hscl.at_u8 (by omega) (by simp)) (by simp) rfl ?_)
     first | refine J.skip rfl rfl rfl rfl rfl ?_ | refine J.qh rfl rfl rfl rfl ?_ | (refine J.qf rfl rfl rfl ?_;refine J.qj rfl rfl rfl rfl ?_)
     (first | refine J.qr rfl rfl rfl ?_ | refine J.qs rfl rfl rfl ?_)
     refine J.name 32 rfl (show Value.bool _=.bool (okB (sec B k) (i+1)) by
      rw [okB_succ (by omega) (by omega),hs26]
      first | rfl | (simp only [Bool.true_and];exact congrArg Value.bool (beq_u8 _))) ?_
     refine J.assign rfl rfl<|J.nil<|JX.qJ ?_;refine JX.qd (hK13 _ _ ?_);refine JC.region<|J.qe rfl rfl ?_
     (first | refine J.qG rfl rfl (by omega) (by omega) rfl ?_ | refine J.qj rfl rfl rfl rfl ?_)
     refine J.assign rfl rfl<|J.nil<|JX.qd<|JX.qS (i+1) ?_ ?_ ?_
     ·omega
     ·exact ⟨rfl,rfl,rfl,rfl,rfl,rfl,trivial⟩
     ·exact fun w1 hw=>⟨⟨by omega,by omega⟩,hw⟩
   ·try simp only [decide_eq_true_eq,decide_eq_false_iff_not,beq_iff_eq,bne_iff_ne,bne_eq_false_iff_eq,ne_eq,beq_eq_false_iff_ne,Bool.not_eq_true,Bool.not_eq_false,Int.not_lt,Int.not_le] at hs26
    first
    | exact absurd hs26 (by decide)
    |skip
     first | refine J.skip rfl rfl rfl rfl rfl ?_ | refine J.qh rfl rfl rfl rfl ?_ | (refine J.qf rfl rfl rfl ?_;refine J.qe rfl rfl ?_)
     first | refine J.skip rfl rfl rfl rfl rfl ?_ | refine J.qh rfl rfl rfl rfl ?_ | (refine J.qf rfl rfl rfl ?_;refine J.qe rfl rfl ?_)
     first | refine J.skip rfl rfl rfl rfl rfl ?_ | refine J.qh rfl rfl rfl rfl ?_ | (refine J.qf rfl rfl rfl ?_;refine J.qu Ty.el26 Ty.s5 rfl rfl (by omega) (by omega) rfl ?_)
     first
     | (refine J.skip rfl rfl rfl rfl rfl ?_)
     | (refine J.qf rfl rfl rfl ?_;refine J.zw (v:=u8 ((sec B k)[i]'(by omega))) Ty.a5 rfl (hscl.at_u8 (by omega) (by simp)) (by simp) rfl ?_)
     first | refine J.skip rfl rfl rfl rfl rfl ?_ | refine J.qh rfl rfl rfl rfl ?_ | (refine J.qf rfl rfl rfl ?_;refine J.qj rfl rfl rfl rfl ?_)
     (first | refine J.qr rfl rfl rfl ?_ | refine J.qs rfl rfl rfl ?_)
     refine J.name 32 rfl (show Value.bool _=.bool (okB (sec B k) (i+1)) by
      rw [okB_succ (by omega) (by omega),hs26]
      first | rfl | (simp only [Bool.true_and];exact congrArg Value.bool (beq_u8 _))) ?_
     refine J.assign rfl rfl<|J.nil<|JX.qJ ?_;refine JX.qd (hK13 _ _ ?_);refine JC.region<|J.qe rfl rfl ?_
     (first | refine J.qG rfl rfl (by omega) (by omega) rfl ?_ | refine J.qj rfl rfl rfl rfl ?_)
     refine J.assign rfl rfl<|J.nil<|JX.qd<|JX.qS (i+1) ?_ ?_ ?_
     ·omega
     ·exact ⟨rfl,rfl,rfl,rfl,rfl,rfl,trivial⟩
     ·exact fun w1 hw=>⟨⟨by omega,by omega⟩,hw⟩
  ·obtain rfl:i=64:=by simp at h1;omega
   refine JC.qX<|JX.qE<|JX.qE<|JX.qT ?_;refine JX.qd (hK9 _ _ ?_);refine JC.seq (fun K14 hK14=>?_)
   have hok64:=okB_all (s:=sec B k) hsl
   by_cases hok:okB (sec B k) 64=true
   rotate_left
   ·have hok2:okB (sec B k) 64=false:=by simpa using hok
    have hh:headP (sec B k)=(0,0,0):=by unfold headP;rw [← hok64,hok2];rfl
    rw [hok2]
    apply JC.zc 8 [Eqv (_),Eqv (_),Eqv (_),Eqv (_),Eqv (_),Eqv (_),Eqv (_),Eqv (_)] Ty.mixed rfl rfl rfl (by kernel_rfl) rfl rfl (fun w w' hw hb=>hw.step hb) ⟨fun _ _ _ h _=>h,fun _ _ _ h _=>h,fun _ _ _ h _=>h,fun _ _ _ h _=>h,fun _ _ _ h _=>h,fun _ _ _ h _=>h,fun _ _ _ h _=>h,fun _ _ _ h _=>h,trivial⟩ ?hstep ?htail
    case hstep=>
     refine ⟨fun wi=>?_,fun wi=>?_,fun wi=>?_,fun wi=>?_,fun wi=>?_,fun wi=>?_,fun wi=>?_,fun wi=>?_,trivial⟩
     ·refine Fin.nil<|J.qe rfl rfl ?_
      exact J.qm rfl
     ·refine Fin.qc rfl (Fin.nil ?_);refine J.qe rfl rfl ?_
      exact J.qm rfl
     ·refine Fin.qc rfl (Fin.nil ?_)
      first | refine J.skip rfl rfl rfl rfl rfl ?_ | refine J.qh rfl rfl rfl rfl ?_ | (refine J.qf rfl rfl rfl ?_;refine J.qe rfl rfl ?_)
      exact J.qm rfl
     ·refine Fin.qc rfl (Fin.qc rfl (Fin.qc rfl (Fin.nil ?_)))
      refine J.skip rfl rfl rfl rfl rfl ?_
      exact J.qm rfl
     ·refine Fin.qc rfl (Fin.nil ?_)
      first | refine J.skip rfl rfl rfl rfl rfl ?_ | refine J.qh rfl rfl rfl rfl ?_ | (refine J.qf rfl rfl rfl ?_;refine J.zL Ty.ar135 Ty.s81 rfl rfl (by omega) (by omega) rfl ?_)
      exact J.qm rfl
     ·refine Fin.qc rfl (Fin.qc rfl (Fin.nil ?_))
      first | refine J.skip rfl rfl rfl rfl rfl ?_ | refine J.qh rfl rfl rfl rfl ?_ | (refine J.qf rfl rfl rfl ?_;refine J.qw Ty.a81 rfl (fun w hw=>(qB (hw.2.own (_,_) zm)).trans (by exact rfl)) rfl ?_)
      exact J.qm rfl
     ·refine Fin.qc rfl (Fin.qc rfl (Fin.qc rfl (Fin.nil ?_)))
      first | refine J.skip rfl rfl rfl rfl rfl ?_ | refine J.qh rfl rfl rfl rfl ?_ | (refine J.qf rfl rfl rfl ?_;refine J.qj rfl rfl rfl rfl ?_)
      exact J.qm rfl
     ·refine Fin.qc rfl (Fin.qc rfl (Fin.nil ?_))
      (first | refine J.qr rfl rfl rfl ?_ | refine J.qs rfl rfl rfl ?_)
      exact J.qm rfl
    case htail=>
     refine Fin.qc rfl (Fin.qc rfl (Fin.qc rfl (Fin.qc rfl (Fin.qc rfl (Fin.qc rfl (Fin.qc rfl (Fin.qc rfl (Fin.nil ?_))))))))
     refine J.nil ?_;refine JX.qd (hK14 _ _ ?_)
     first | refine JC.qI rfl ?_ | refine JC.qn rfl (fun h=>by first | (exfalso;simp at h;omega) | (simp at h)) (fun _=>?_)
     refine JC.skip<|JX.qJ ?_;refine JX.qd (hK6 _ _ ?_);refine JC.region<|J.qe rfl rfl ?_
     (first | refine J.qG rfl rfl (by omega) (by omega) rfl ?_ | refine J.qj rfl rfl rfl rfl ?_)
     refine J.assign rfl rfl<|J.nil<|JX.qd<|JX.qS (k+1) ?_ ?_ ?_
     ·omega
     ·exact ⟨rfl,rfl,rfl,trivial⟩
     ·exact fun w1 hw=>⟨hlt,by simp only [bestP,hh,show ¬(bestP B k).1<0 by omega,if_false];exact hw⟩
   ·have hh:headP (sec B k)=(num ((sec B k).take 8),num (((sec B k).drop 8).take 8),num (((sec B k).drop 16).take 8)):=by unfold headP;rw [← hok64,hok];rfl
    rw [hok]
    by_cases hm:(bestP B k).1<num ((sec B k).take 8)
    rotate_left
    ·apply JC.zc 8 [Eqv (_),Eqv (_),Eqv (_),Eqv (_),Eqv (_),Eqv (_),Eqv (_),Eqv (_)] Ty.mixed rfl rfl rfl (by kernel_rfl) rfl rfl (fun w w' hw hb=>hw.step hb) ⟨fun _ _ _ h _=>h,fun _ _ _ h _=>h,fun _ _ _ h _=>h,fun _ _ _ h _=>h,fun _ _ _ h _=>h,fun _ _ _ h _=>h,fun _ _ _ h _=>h,fun _ _ _ h _=>h,trivial⟩ ?hstep ?htail
     case hstep=>
      refine ⟨fun wi=>?_,fun wi=>?_,fun wi=>?_,fun wi=>?_,fun wi=>?_,fun wi=>?_,fun wi=>?_,fun wi=>?_,trivial⟩
      ·refine Fin.nil<|J.qe rfl rfl ?_
       exact J.qm rfl
      ·refine Fin.qc rfl (Fin.nil ?_);refine J.qe rfl rfl ?_
       exact J.qm rfl
      ·refine Fin.qc rfl (Fin.nil ?_)
       first | refine J.skip rfl rfl rfl rfl rfl ?_ | refine J.qh rfl rfl rfl rfl ?_ | (refine J.qf rfl rfl rfl ?_;refine J.qe rfl rfl ?_)
       exact J.qm rfl
      ·refine Fin.qc rfl (Fin.qc rfl (Fin.qc rfl (Fin.nil ?_)))
       refine J.qf rfl rfl rfl<|J.zD Ty.bd73 rfl rfl (fun w' hw=>yC _ 64 (sec B k) w' (hrs.st (.inr (by simp)) hw) hsl (by omega)) ?_
       exact J.zQ rfl
      ·refine Fin.qc rfl (Fin.nil ?_)
       first | refine J.skip rfl rfl rfl rfl rfl ?_ | refine J.qh rfl rfl rfl rfl ?_ | (refine J.qf rfl rfl rfl ?_;refine J.zL Ty.ar135 Ty.s81 rfl rfl (by omega) (by omega) rfl ?_)
       exact J.qm rfl
      ·refine Fin.qc rfl (Fin.qc rfl (Fin.nil ?_))
       first | refine J.skip rfl rfl rfl rfl rfl ?_ | refine J.qh rfl rfl rfl rfl ?_ | (refine J.qf rfl rfl rfl ?_;refine J.qw Ty.a81 rfl (fun w hw=>(qB (hw.2.own (_,_) zm)).trans (by exact rfl)) rfl ?_)
       exact J.qm rfl
      ·refine Fin.qc rfl (Fin.qc rfl (Fin.qc rfl (Fin.nil ?_)))
       refine J.qf rfl rfl rfl<|J.qj rfl rfl rfl rfl<|J.name 39 rfl (show Value.bool _=.bool false by simp <;> omega) ?_
       exact J.qm rfl
      ·refine Fin.qc rfl (Fin.qc rfl (Fin.nil ?_))
       (first | refine J.qr rfl rfl rfl ?_ | refine J.qs rfl rfl rfl ?_)
       exact J.qm rfl
     case htail=>
      refine Fin.qc rfl (Fin.qc rfl (Fin.qc rfl (Fin.qc rfl (Fin.qc rfl (Fin.qc rfl (Fin.qc rfl (Fin.qc rfl (Fin.nil ?_))))))))
      refine J.nil ?_;refine JX.qd (hK14 _ _ ?_)
      first | refine JC.qI rfl ?_ | refine JC.qn rfl (fun h=>by first | (exfalso;simp at h;omega) | (simp at h)) (fun _=>?_)
      refine JC.skip<|JX.qJ ?_;refine JX.qd (hK6 _ _ ?_);refine JC.region<|J.qe rfl rfl ?_
      (first | refine J.qG rfl rfl (by omega) (by omega) rfl ?_ | refine J.qj rfl rfl rfl rfl ?_)
      refine J.assign rfl rfl<|J.nil<|JX.qd<|JX.qS (k+1) ?_ ?_ ?_
      ·omega
      ·exact ⟨rfl,rfl,rfl,trivial⟩
      ·exact fun w1 hw=>⟨hlt,by simp only [bestP,hh,hm,if_false];exact hw⟩
    ·apply JC.zc 8 [Eqv (_),Eqv (_),Eqv (_),Eqv (_),Eqv (_),Eqv (_),Eqv (_),Eqv (_)] Ty.mixed rfl rfl rfl (by kernel_rfl) rfl rfl (fun w w' hw hb=>hw.step hb) ⟨fun _ _ _ h _=>h,fun _ _ _ h _=>h,fun _ _ _ h _=>h,fun _ _ _ h _=>h,fun _ _ _ h _=>h,fun _ _ _ h _=>h,fun _ _ _ h _=>h,fun _ _ _ h _=>h,trivial⟩ ?hstep ?htail
     case hstep=>
      refine ⟨fun wi=>?_,fun wi=>?_,fun wi=>?_,fun wi=>?_,fun wi=>?_,fun wi=>?_,fun wi=>?_,fun wi=>?_,trivial⟩
      ·refine Fin.nil<|J.qe rfl rfl ?_
       exact J.qm rfl
      ·refine Fin.qc rfl (Fin.nil ?_);refine J.qe rfl rfl ?_
       exact J.qm rfl
      ·refine Fin.qc rfl (Fin.nil ?_)
       first | refine J.skip rfl rfl rfl rfl rfl ?_ | refine J.qh rfl rfl rfl rfl ?_ | (refine J.qf rfl rfl rfl ?_;refine J.qe rfl rfl ?_)
       exact J.qm rfl
      ·refine Fin.qc rfl (Fin.qc rfl (Fin.qc rfl (Fin.nil ?_)))
       refine J.qf rfl rfl rfl<|J.zD Ty.bd73 rfl rfl (fun w' hw=>yC _ 64 (sec B k) w' (hrs.st (.inr (by simp)) hw) hsl (by omega)) ?_
       exact J.zQ rfl
      ·refine Fin.qc rfl (Fin.nil ?_)
       first | refine J.skip rfl rfl rfl rfl rfl ?_ | refine J.qh rfl rfl rfl rfl ?_ | (refine J.qf rfl rfl rfl ?_;refine J.zL Ty.ar135 Ty.s81 rfl rfl (by omega) (by omega) rfl ?_)
       exact J.qm rfl
      ·refine Fin.qc rfl (Fin.qc rfl (Fin.nil ?_))
       first | refine J.skip rfl rfl rfl rfl rfl ?_ | refine J.qh rfl rfl rfl rfl ?_ | (refine J.qf rfl rfl rfl ?_;refine J.qw Ty.a81 rfl (fun w hw=>(qB (hw.2.own (_,_) zm)).trans (by exact rfl)) rfl ?_)
       exact J.qm rfl
      ·refine Fin.qc rfl (Fin.qc rfl (Fin.qc rfl (Fin.nil ?_)))
       refine J.qf rfl rfl rfl<|J.qj rfl rfl rfl rfl<|J.name 39 rfl (show Value.bool _=.bool true by simp <;> omega) ?_
       exact J.qm rfl
      ·refine Fin.qc rfl (Fin.qc rfl (Fin.nil ?_))
       (first | refine J.qr rfl rfl rfl ?_ | refine J.qs rfl rfl rfl ?_)
       exact J.qm rfl
     case htail=>
      refine Fin.qc rfl (Fin.qc rfl (Fin.qc rfl (Fin.qc rfl (Fin.qc rfl (Fin.qc rfl (Fin.qc rfl (Fin.qc rfl (Fin.nil ?_))))))))
      refine J.nil ?_;refine JX.qd (hK14 _ _ ?_)
      first | refine JC.qP rfl ?_ | refine JC.qn rfl (fun _=>?_) (fun h=>by first | (exfalso;simp at h;omega) | (simp at h))
      apply JC.zc 9 [Eqv (_),Eqv (_),Eqv (_),Eqv (_),Eqv (_),Eqv (_),Eqv (_),Eqv (_),Eqv (_)] Ty.mixed rfl rfl rfl (by kernel_rfl) rfl rfl (fun w w' hw hb=>hw.step hb) ⟨fun _ _ _ h _=>h,fun _ _ _ h _=>h,fun _ _ _ h _=>h,fun _ _ _ h _=>h,fun _ _ _ h _=>h,fun _ _ _ h _=>h,fun _ _ _ h _=>h,fun _ _ _ h _=>h,fun _ _ _ h _=>h,trivial⟩ ?hstep ?htail
      case hstep=>
       refine ⟨fun wi=>?_,fun wi=>?_,fun wi=>?_,fun wi=>?_,fun wi=>?_,fun wi=>?_,fun wi=>?_,fun wi=>?_,fun wi=>?_,trivial⟩
       ·refine Fin.nil<|J.qe rfl rfl ?_
        exact J.qm rfl
       ·refine Fin.qc rfl (Fin.nil ?_);refine J.zD Ty.bd73 rfl rfl (fun w' hw=>yC _ 64 (sec B k) w' (hrs.st (.inr (by simp)) hw) hsl (by omega)) ?_
        exact J.zQ rfl
       ·refine Fin.nil<|J.qe rfl rfl ?_
        exact J.qm rfl
       ·refine Fin.qc rfl (Fin.nil ?_);refine J.zx (i:=8) (j:=64) Ty.el26 Ty.s5 rfl rfl rfl (by simp [bnd]) rfl (by omega) (by omega) (by omega) rfl ?_
        exact J.qm rfl
       ·refine Fin.qc rfl (Fin.qc rfl (Fin.nil ?_))
        refine J.zD Ty.bd73 rfl rfl (fun w' hw=>yC _ (64 - 8) ((sec B k).drop 8) w' (by
         have h1:=(hrs.st (.inr (by simp)) hw).slice (sz:=1) (i:=8) (j:=64) (by simp [hsl]) (by omega) (by omega)
         rw [show (((sec B k).map u8).drop (8*1)).take ((64 - 8)*1)=((sec B k).drop 8).map u8 from by rw [Nat.mul_one,Nat.mul_one,List.take_of_length_le (by simp;omega),List.map_drop]] at h1
         exact h1) (by simp [hsl]) (by omega)) ?_
        exact J.zQ rfl
       ·refine Fin.nil<|J.qe rfl rfl ?_
        exact J.qm rfl
       ·refine Fin.qc rfl (Fin.nil ?_);refine J.zx (i:=16) (j:=64) Ty.el26 Ty.s5 rfl rfl rfl (by simp [bnd]) rfl (by omega) (by omega) (by omega) rfl ?_
        exact J.qm rfl
       ·refine Fin.qc rfl (Fin.qc rfl (Fin.nil ?_))
        refine J.zD Ty.bd73 rfl rfl (fun w' hw=>yC _ (64 - 16) ((sec B k).drop 16) w' (by
         have h1:=(hrs.st (.inr (by simp)) hw).slice (sz:=1) (i:=16) (j:=64) (by simp [hsl]) (by omega) (by omega)
         rw [show (((sec B k).map u8).drop (16*1)).take ((64 - 16)*1)=((sec B k).drop 16).map u8 from by rw [Nat.mul_one,Nat.mul_one,List.take_of_length_le (by simp;omega),List.map_drop]] at h1
         exact h1) (by simp [hsl]) (by omega)) ?_
        exact J.zQ rfl
       ·refine Fin.qc rfl (Fin.qc rfl (Fin.qc rfl (Fin.nil ?_)))
        refine J.buildA Ty.ar135 Ty.s81 Ty.z135 rfl rfl rfl ?_
        exact J.qm rfl
      case htail=>
       refine Fin.qc rfl (Fin.qc rfl (Fin.qc rfl (Fin.qc rfl (Fin.qc rfl (Fin.qc rfl (Fin.qc rfl (Fin.qc rfl (Fin.qc rfl (Fin.nil ?_)))))))))
       refine J.qU (vs:=[.int .u64 _,.int .u64 _,.int .u64 _]) Ty.s135 rfl rfl rfl rfl (by simp [Value.oneCell']) .here (by simp) ?_;refine J.nil<|JX.qJ ?_;refine JX.qd (hK6 _ _ ?_);refine JC.region<|J.qe rfl rfl ?_
       (first | refine J.qG rfl rfl (by omega) (by omega) rfl ?_ | refine J.qj rfl rfl rfl rfl ?_)
       refine J.assign rfl rfl<|J.nil<|JX.qd<|JX.qS (k+1) ?_ ?_ ?_
       ·omega
       ·exact ⟨rfl,rfl,rfl,trivial⟩
       ·exact fun w1 hw=>⟨hlt,by simp only [bestP,hh,hm,if_true];exact hw⟩
 ·obtain rfl:k=2:=by simp at h0;omega
  refine JC.qX<|JX.qE<|JX.qE<|JX.qT ?_;refine JX.qd (hK2 _ _ ?_);refine JC.seq (fun K15 hK15=>?_);refine JC.cov (f:=[(5,.pointer (some ⟨b5,0,none⟩))]) ⟨rfl,trivial⟩ ?_
  apply JC.zc 9 [Eqv (_),Eqv (_),Eqv (_),Eqv (_),Eqv (_),Eqv (_),Eqv (_),Eqv (_),Eqv (_)] Ty.mixed rfl rfl rfl (by kernel_rfl) rfl rfl (fun w w' hw hb=>hw.step hb) ⟨fun _ _ _ h _=>h,fun _ _ _ h _=>h,fun _ _ _ h _=>h,fun _ _ _ h _=>h,fun _ _ _ h _=>h,fun _ _ _ h _=>h,fun _ _ _ h _=>h,fun _ _ _ h _=>h,fun _ _ _ h _=>h,trivial⟩ ?hstep ?htail
  case hstep=>
   refine ⟨fun wi=>?_,fun wi=>?_,fun wi=>?_,fun wi=>?_,fun wi=>?_,fun wi=>?_,fun wi=>?_,fun wi=>?_,fun wi=>?_,trivial⟩
   ·refine Fin.nil<|J.zL Ty.ar135 Ty.s81 rfl rfl (by omega) (by omega) rfl ?_
    exact J.qm rfl
   ·refine Fin.qc rfl (Fin.nil ?_);refine J.qw Ty.a81 rfl (fun w hw=>(qB (hw.2.own (_,_) zm)).trans (by exact rfl)) rfl ?_
    exact J.qm rfl
   ·refine Fin.nil<|J.zL Ty.ar135 Ty.s81 rfl rfl (by omega) (by omega) rfl ?_
    exact J.qm rfl
   ·refine Fin.qc rfl (Fin.nil ?_);refine J.qw Ty.a81 rfl (fun w hw=>(qB (hw.2.own (_,_) zm)).trans (by exact rfl)) rfl ?_
    exact J.qm rfl
   ·refine Fin.nil<|J.zL Ty.ar135 Ty.s81 rfl rfl (by omega) (by omega) rfl ?_
    exact J.qm rfl
   ·refine Fin.qc rfl (Fin.nil ?_);refine J.qw Ty.a81 rfl (fun w hw=>(qB (hw.2.own (_,_) zm)).trans (by exact rfl)) rfl ?_
    exact J.qm rfl
   ·refine Fin.qc rfl (Fin.qc rfl (Fin.qc rfl (Fin.nil ?_)))
    refine J.assign rfl rfl ?_
    exact J.qm rfl
   ·refine Fin.qc rfl (Fin.qc rfl (Fin.qc rfl (Fin.qc rfl (Fin.qc rfl (Fin.qc rfl (Fin.qc rfl (Fin.nil ?_)))))))
    refine J.assign rfl rfl ?_
    exact J.qm rfl
   ·refine Fin.qc rfl (Fin.qc rfl (Fin.qc rfl (Fin.qc rfl (Fin.qc rfl (Fin.qc rfl (Fin.qc rfl (Fin.qc rfl (Fin.qc rfl (Fin.qc rfl (Fin.nil ?_))))))))))
    refine J.assign rfl rfl ?_
    exact J.qm rfl
  case htail=>
   refine Fin.qc rfl (Fin.qc rfl (Fin.qc rfl (Fin.qc rfl (Fin.qc rfl (Fin.qc rfl (Fin.qc rfl (Fin.qc rfl (Fin.qc rfl (Fin.nil ?_)))))))))
   refine J.nil ?_;refine JX.qd (hK15 _ _ ?_);refine JC.qA ?_;refine JX.q5 rfl rfl rfl rfl (fun w hw=>?_)
   exact ⟨rfl,hw.below⟩
def sizeAt (B:List UInt8) (at_:Nat):Nat:=(B.getD (64*at_) 0).toNat*256+(B.getD (64*at_+1) 0).toNat
def parseS (B:List UInt8) (top:Nat):Nat→Nat→Option (List (List UInt8))
 | 0,at_=>if at_=top then some [] else none
 | n+1,at_=>if top≤at_ then none else if 1024<sizeAt B at_∨top - at_<needN (sizeAt B at_) then none
   else (parseS B top n (at_+needN (sizeAt B at_))).map (((B.drop (64*at_+2)).take (sizeAt B at_))::·)
structure LogP where
 gen:Nat
 used:Nat
 cnt:Nat
 recs:List (List UInt8)
def badHead (n:Nat) (h:Nat × Nat × Nat):Prop:=9223372036854775808≤h.1∨n - 2<h.2.1∨h.2.1<h.2.2
instance (n : Nat) (h : Nat × Nat × Nat) : Decidable (badHead n h) := by unfold badHead; infer_instance
def openP (B:List UInt8) (n:Nat):Int × Option LogP:=
 if n<3 then (1,none) else
 if badHead n (bestP B 2) then (2,none) else
 match parseS B (2+(bestP B 2).2.1) (bestP B 2).2.2 2 with
 | none=>(2,none)
 | some rs=>(0,some ⟨(bestP B 2).1,(bestP B 2).2.1,(bestP B 2).2.2,rs⟩)
abbrev lgO (d:Nat) (q:LogP) (down:Bool):Obj:=cb [.pointer (some ⟨d,0,none⟩),.int .u64 ((q.gen:Nat):Int),.int .i64 ((q.used:Nat):Int),.int .i64 ((q.cnt:Nat):Int),.bool down] 124
theorem best_two (B:List UInt8) (h:Nat × Nat × Nat) (hh:(if (headP (sec B 0)).1<(headP (sec B 1)).1 then headP (sec B 1) else headP (sec B 0))=h):bestP B 2=if h.1=0 then (0,0,0) else h:=by
 subst hh
 simp only [bestP]
 by_cases h0:(headP (sec B 0)).1=0
 ·simp only [h0]
  by_cases h1:(headP (sec B 1)).1=0
  ·simp [h1,h0]
  ·simp [h1,show 0<(headP (sec B 1)).1 by omega]
 ·simp only [show 0<(headP (sec B 0)).1 by omega,if_true]
  by_cases h1:(headP (sec B 0)).1<(headP (sec B 1)).1
  ·simp only [h1,if_true];rw [if_neg (by omega)]
  ·simp only [h1,if_false];rw [if_neg h0]
theorem shr63 (g:Nat) (hg:g<18446744073709551616):(decide (Int.fdiv ((g:Nat):Int) (2 ^ (min (63:Int).toNat IntKind.u64.bits))>0))=decide (9223372036854775808≤g):=by
 have e:((2:Int) ^ (min (63:Int).toNat IntKind.u64.bits))=9223372036854775808:=by decide
 rw [e,Int.fdiv_eq_ediv_of_nonneg _ (by omega)]
 by_cases h:9223372036854775808≤g
 ·rw [decide_eq_true h,decide_eq_true (by omega)]
 ·rw [decide_eq_false h,decide_eq_false (by omega)]
theorem head_cases (n:Nat) (h:Nat × Nat × Nat):9223372036854775808≤h.1∨(¬9223372036854775808≤h.1∧n - 2<h.2.1)∨(¬9223372036854775808≤h.1∧h.2.1≤n - 2∧h.2.1<h.2.2)∨(¬9223372036854775808≤h.1∧h.2.1≤n - 2∧h.2.2≤h.2.1):=by omega
theorem openP_small {B:List UInt8} {n:Nat} (h:n<3):openP B n=(1,none):=by rw [openP,if_pos h]
theorem yE {B:List UInt8} {n:Nat} (h:¬n<3) (hb:badHead n (bestP B 2)):openP B n=(2,none):=by rw [openP,if_neg h,if_pos hb]
theorem zZ {B:List UInt8} {n:Nat} (h:¬n<3) {b:Nat × Nat × Nat} (hh:bestP B 2=b) (hp:parseS B (2+b.2.1) b.2.2 2=none):openP B n=(2,none):=by
 rw [openP,if_neg h]
 split
 ·rfl
 ·rw [hh,hp]
theorem openP_some {B:List UInt8} {n:Nat} (h:¬n<3) {b:Nat × Nat × Nat} (hh:bestP B 2=b) (hb:¬badHead n b) {rs:List (List UInt8)} (hp:parseS B (2+b.2.1) b.2.2 2=some rs):openP B n=(0,some ⟨b.1,b.2.1,b.2.2,rs⟩):=by
 rw [openP,if_neg h,hh,if_neg hb,hp]
theorem or_i64 (a x:Nat) (ha:a<256) (hx:x<256) :
  Value.int .i64 (IntKind.i64.wrap ((BitVec.ofInt 64 ((a*256:Nat):Int) ||| BitVec.ofInt 64 ((x:Nat):Int)).toNat:Int))=.int .i64 ((a*256+x:Nat):Int):=by
 rw [or_byte a x hx (by omega),qV (by omega) (by omega)]
theorem sec_getD {B:List UInt8} {at_ j:Nat} (hj:j<64) (h:64*at_+64≤B.length):(sec B at_)[j]'(by rw [yB h];exact hj)=B.getD (64*at_+j) 0:=by
 have e:(sec B at_)[j]? = B[64*at_+j]?:=by rw [sec,List.getElem?_take_of_lt hj,List.getElem?_drop]
 rw [List.getD_eq_getElem?_getD,← e,List.getElem?_eq_getElem (by rw [yB h];exact hj)];rfl
theorem size_cases (sz top at_:Nat):1024<sz∨(sz≤1024∧top - at_<needN sz)∨(sz≤1024∧needN sz≤top - at_):=by omega
theorem need_bounds {sz:Nat}:1≤needN sz∧sz+2≤64*needN sz∧64*needN sz≤sz+65:=by unfold needN;omega
theorem sec_more {B:List UInt8} {at_ i:Nat}:(B.drop (64*at_)).take (64*i)++sec B (at_+i)=(B.drop (64*at_)).take (64*(i+1)):=by
 rw [sec,show 64*(i+1)=64*i+64 by omega,List.take_add,List.drop_drop,show 64*at_+64*i=64*(at_+i) by omega]
theorem rec_of {B:List UInt8} {at_ m sz:Nat} (h:sz+2≤64*m):(((B.drop (64*at_)).take (64*m)).drop 2).take sz=(B.drop (64*at_+2)).take sz:=by
 rw [List.drop_take,List.take_take,List.drop_drop,show min sz (64*m - 2)=sz by omega]
structure OpSt where
 k:Nat
 at_:Nat
 out:List (List UInt8)
 vs:List Value
 v15:Value
 lv:List (Nat × Obj)
 lps:List (Nat × Obj)
theorem bestP_lt (B:List UInt8):∀k,(bestP B k).1<18446744073709551616:=by
 intro k
 induction k with
 | zero=>simp [bestP]
 | succ k ih=>unfold bestP;split;exact (headP_lt _).1;exact ih
theorem open_spec (d s n:Nat) (B:List UInt8) (p k:Int) (w:World) (hw0:Own w [(d,dkO s n p k),(s,dkS B)]) (hB:B.length=64*n) (hn:n≤4096) :
  Calls Try.prog 44 [.pointer (some ⟨d,0,none⟩)].toArray w fun r w'=>match openP B n with
   | (e,none)=>r=.returned (.tuple #[.pointer none,.slice none 0 0,.int .i64 e])∧Bel w w'
   | (_,some q)=>∃(b:Nat) (v:Value) (vs:List Value) (lv lps:List (Nat × Obj)),r=.returned (.tuple #[.pointer (some ⟨b,0,none⟩),v,.int .i64 0])∧Vec 26 1 v q.recs.length vs lv∧Recs 5 vs q.recs lps∧St w [] ((b,lgO d q false)::(lv++lps)) w':=by
 refine qD (args:=[.pointer (some ⟨d,0,none⟩)]) (e:=[(0,.pointer (some ⟨d,0,none⟩))]) Try.func44 rfl rfl ⟨rfl,trivial⟩ (St.start w) ?_;refine JC.seq (fun K0 hK0=>?_);refine JC.region<|J.assign rfl rfl<|J.assign rfl rfl<|J.assign rfl rfl<|J.nil ?_;refine JX.qd (hK0 _ _ ?_);refine JC.seq (fun K1 hK1=>?_);refine JC.seq (fun K2 hK2=>?_);refine JC.region<|J.qe rfl rfl<|J.qR (fun w1 w2 hw hb=>hw.step hb) Ty.bd60 rfl rfl (fun w1 hw=>yA d s n p k w1 (hw0.at hw)) ?_;refine J.qj rfl rfl rfl rfl<|J.nil ?_;refine JX.qd (hK2 _ _ ?_);refine JC.qn rfl (fun h0=>?_) (fun h0=>?_)
 ·have hopen:=openP_small (B:=B) (show n<3 by simp at h0;omega)
  refine JC.seq (fun K3 hK3=>?_);refine JC.region<|J.assign rfl rfl<|J.assign rfl rfl<|J.assign rfl rfl<|J.nil ?_;refine JX.qd (hK3 _ _ ?_);refine JC.qA<|JX.qt ?_;refine JX.q5 rfl rfl rfl rfl (fun w1 hw=>?_)
  rw [hopen]
  first
  | exact ⟨rfl,hw.below⟩
  | exact ⟨b151,v15,vs,lv,lps,rfl,hol ▸ hvo,hro,hw⟩
 ·have hn3:¬n<3:=by simp at h0;omega
  obtain ⟨h,hh⟩:∃h,(if (headP (sec B 0)).1<(headP (sec B 1)).1 then headP (sec B 1) else headP (sec B 0))=h:=⟨_,rfl⟩
  obtain ⟨⟨gen,used,cnt_⟩,hbest⟩:∃x,bestP B 2=x:=⟨_,rfl⟩
  have hgl:gen<18446744073709551616:=by
   have h1:=bestP_lt B 2
   rw [hbest] at h1
   exact h1
  refine JC.skip ?_;refine JX.qd (hK1 _ _ ?_);refine JC.seq (fun K4 hK4=>?_);refine JC.region<|J.qe rfl rfl<|J.perm ([]++([])) zp ?_;refine J.qO (l1:=[]) Ty.bd61 rfl rfl (fun w1 hw=>(read_spec d s n B p k 0 w1 (hw0.at hw) hB (by omega) (by omega)).mono fun _ w2 ⟨x,h1,h2,h3⟩=>⟨x,h1,h2,St.free (hw0.at hw) h3⟩) (fun x hva=>?_)
  obtain ⟨va,lpa⟩:=x
  simp only at hva ⊢
  refine J.qe rfl rfl<|J.extract rfl rfl rfl<|J.extract rfl rfl rfl<|J.assign rfl rfl<|J.assign rfl rfl<|J.nil ?_;refine JX.qd (hK4 _ _ ?_);refine JC.seq (fun K5 hK5=>?_);refine JC.region<|J.qe rfl rfl<|J.perm ([]++(lpa++[])) zp ?_;refine J.qO (l1:=[]) Ty.bd61 rfl rfl (fun w1 hw=>(read_spec d s n B p k 1 w1 (hw0.at hw) hB (by omega) (by omega)).mono fun _ w2 ⟨x,h1,h2,h3⟩=>⟨x,h1,h2,St.free (hw0.at hw) h3⟩) (fun x hvb=>?_)
  obtain ⟨vb,lpb⟩:=x
  simp only at hvb ⊢
  refine J.qe rfl rfl<|J.extract rfl rfl rfl<|J.extract rfl rfl rfl<|J.assign rfl rfl<|J.assign rfl rfl<|J.nil ?_;refine JX.qd (hK5 _ _ ?_);refine JC.seq (fun K6 hK6=>?_);refine JC.region<|J.qe rfl rfl<|J.qR (fun w1 w2 hw hb=>hw.step hb) Ty.bd62 rfl rfl (fun w1 hw=>head_spec _ (sec B 0) w1 (hva.row (l:=lpb) (hw.perm zp)) (yB (by omega))) ?_;refine J.qe rfl rfl<|J.extract rfl rfl rfl<|J.extract rfl rfl rfl<|J.extract rfl rfl rfl<|J.assign rfl rfl<|J.assign rfl rfl<|J.assign rfl rfl<|J.nil ?_;refine JX.qd (hK6 _ _ ?_);refine JC.zy (α:=Unit) (fun _=>[(0,.pointer (some ⟨d,0,none⟩)),(9,.int .u64 ((h.1:Nat):Int)),(10,.int .u64 ((h.2.1:Nat):Int)),(11,.int .u64 ((h.2.2:Nat):Int))]) (fun _ w'=>St w [] [] w') (fun _=>?_) (fun K7 hK7=>?_)
  ·refine JC.zy (α:=Unit) (fun _=>[(0,.pointer (some ⟨d,0,none⟩)),(9,.int .u64 ((gen:Nat):Int)),(10,.int .u64 ((used:Nat):Int)),(11,.int .u64 ((cnt_:Nat):Int))]) (fun _ w'=>St w [] [] w') (fun _=>?_) (fun K8 hK8=>?_)
   ·refine JC.seq (fun K9 hK9=>?_);refine JC.seq (fun K10 hK10=>?_);refine JC.region ?_
    rcases head_cases n (gen,used,cnt_) with hc | ⟨hc0,hc⟩ | ⟨hc0,hc1,hc⟩ | ⟨hc0,hc1,hc2⟩
    ·try simp only at hc
     try simp only at hc0
     try simp only at hc1
     try simp only at hc2
     have hopen:=yE (B:=B) hn3 (by rw [hbest];exact .inl hc)
     refine J.qe rfl rfl<|J.qj rfl rfl rfl rfl<|J.qj rfl rfl rfl rfl<|J.name 58 rfl (congrArg Value.bool ((shr63 gen hgl).trans (decide_eq_true hc)))<|J.qe rfl rfl ?_
     first | refine J.skip rfl rfl rfl rfl rfl ?_ | refine J.qh rfl rfl rfl rfl ?_ | (refine J.qf rfl rfl rfl ?_;refine J.qe rfl rfl ?_)
     first | refine J.skip rfl rfl rfl rfl rfl ?_ | refine J.qh rfl rfl rfl rfl ?_ | (refine J.qf rfl rfl rfl ?_;refine J.qe rfl rfl ?_)
     first | refine J.skip rfl rfl rfl rfl rfl ?_ | refine J.qh rfl rfl rfl rfl ?_ | (refine J.qf rfl rfl rfl ?_;refine J.qR (fun w1 w2 hw hb=>hw.step hb) Ty.bd60 rfl rfl (fun w1 hw=>yA d s n p k w1 (hw0.at hw)) ?_)
     first | refine J.skip rfl rfl rfl rfl rfl ?_ | refine J.qh rfl rfl rfl rfl ?_ | (refine J.qf rfl rfl rfl ?_;(first | refine J.zn rfl rfl (by omega) (by omega) rfl ?_ | refine J.qj rfl rfl rfl rfl ?_))
     first | refine J.skip rfl rfl rfl rfl rfl ?_ | refine J.qh rfl rfl rfl rfl ?_ | (refine J.qf rfl rfl rfl ?_;refine J.qF Ty.u3 Ty.u81 rfl rfl ?_)
     first | refine J.skip rfl rfl rfl rfl rfl ?_ | refine J.qh rfl rfl rfl rfl ?_ | (refine J.qf rfl rfl rfl ?_;refine J.qj rfl rfl rfl rfl ?_)
     (first | refine J.qr rfl rfl rfl ?_ | refine J.qs rfl rfl rfl ?_)
     refine J.qe rfl rfl ?_
     first | refine J.skip rfl rfl rfl rfl rfl ?_ | refine J.qh rfl rfl rfl rfl ?_ | (refine J.qf rfl rfl rfl ?_;refine J.qe rfl rfl ?_)
     first | refine J.skip rfl rfl rfl rfl rfl ?_ | refine J.qh rfl rfl rfl rfl ?_ | (refine J.qf rfl rfl rfl ?_;refine J.qe rfl rfl ?_)
     first | refine J.skip rfl rfl rfl rfl rfl ?_ | refine J.qh rfl rfl rfl rfl ?_ | (refine J.qf rfl rfl rfl ?_;refine J.qj rfl rfl rfl rfl ?_)
     (first | refine J.qr rfl rfl rfl ?_ | refine J.qs rfl rfl rfl ?_)
     refine J.nil ?_;refine JX.qd (hK10 _ _ ?_)
     first | refine JC.qP rfl ?_ | refine JC.qn rfl (fun _=>?_) (fun h=>by first | (exfalso;simp at h;omega) | (simp at h))
     refine JC.seq (fun K11 hK11=>?_);refine JC.region<|J.assign rfl rfl<|J.assign rfl rfl<|J.assign rfl rfl<|J.nil ?_;refine JX.qd (hK11 _ _ ?_);refine JC.qA<|JX.qt ?_;refine JX.q5 rfl rfl rfl rfl (fun w1 hw=>?_)
     rw [hopen]
     first
     | exact ⟨rfl,hw.below⟩
     | exact ⟨b151,v15,vs,lv,lps,rfl,hol ▸ hvo,hro,hw⟩
    ·try simp only at hc
     try simp only at hc0
     try simp only at hc1
     try simp only at hc2
     have hopen:=yE (B:=B) hn3 (by rw [hbest];exact .inr (.inl hc))
     refine J.qe rfl rfl<|J.qj rfl rfl rfl rfl<|J.qj rfl rfl rfl rfl<|J.name 58 rfl (congrArg Value.bool ((shr63 gen hgl).trans (decide_eq_false hc0)))<|J.qe rfl rfl ?_
     first | refine J.skip rfl rfl rfl rfl rfl ?_ | refine J.qh rfl rfl rfl rfl ?_ | (refine J.qf rfl rfl rfl ?_;refine J.qe rfl rfl ?_)
     first | refine J.skip rfl rfl rfl rfl rfl ?_ | refine J.qh rfl rfl rfl rfl ?_ | (refine J.qf rfl rfl rfl ?_;refine J.qe rfl rfl ?_)
     first | refine J.skip rfl rfl rfl rfl rfl ?_ | refine J.qh rfl rfl rfl rfl ?_ | (refine J.qf rfl rfl rfl ?_;refine J.qR (fun w1 w2 hw hb=>hw.step hb) Ty.bd60 rfl rfl (fun w1 hw=>yA d s n p k w1 (hw0.at hw)) ?_)
     first | refine J.skip rfl rfl rfl rfl rfl ?_ | refine J.qh rfl rfl rfl rfl ?_ | (refine J.qf rfl rfl rfl ?_;(first | refine J.zn rfl rfl (by omega) (by omega) rfl ?_ | refine J.qj rfl rfl rfl rfl ?_))
     refine J.qf rfl rfl rfl<|J.qF Ty.u3 Ty.u81 rfl rfl<|J.name 64 rfl (congrArg (Value.int .u64) (show _=((n - 2:Nat):Int) by rw [ze (by omega) (by omega)];omega)) ?_;refine J.qf rfl rfl rfl<|J.qj rfl rfl rfl rfl<|J.name 65 rfl (show Value.bool _=.bool true by simp <;> omega) ?_
     (first | refine J.qr rfl rfl rfl ?_ | refine J.qs rfl rfl rfl ?_)
     refine J.qe rfl rfl ?_
     first | refine J.skip rfl rfl rfl rfl rfl ?_ | refine J.qh rfl rfl rfl rfl ?_ | (refine J.qf rfl rfl rfl ?_;refine J.qe rfl rfl ?_)
     first | refine J.skip rfl rfl rfl rfl rfl ?_ | refine J.qh rfl rfl rfl rfl ?_ | (refine J.qf rfl rfl rfl ?_;refine J.qe rfl rfl ?_)
     first | refine J.skip rfl rfl rfl rfl rfl ?_ | refine J.qh rfl rfl rfl rfl ?_ | (refine J.qf rfl rfl rfl ?_;refine J.qj rfl rfl rfl rfl ?_)
     (first | refine J.qr rfl rfl rfl ?_ | refine J.qs rfl rfl rfl ?_)
     refine J.nil ?_;refine JX.qd (hK10 _ _ ?_)
     first | refine JC.qP rfl ?_ | refine JC.qn rfl (fun _=>?_) (fun h=>by first | (exfalso;simp at h;omega) | (simp at h))
     refine JC.seq (fun K12 hK12=>?_);refine JC.region<|J.assign rfl rfl<|J.assign rfl rfl<|J.assign rfl rfl<|J.nil ?_;refine JX.qd (hK12 _ _ ?_);refine JC.qA<|JX.qt ?_;refine JX.q5 rfl rfl rfl rfl (fun w1 hw=>?_)
     rw [hopen]
     first
     | exact ⟨rfl,hw.below⟩
     | exact ⟨b151,v15,vs,lv,lps,rfl,hol ▸ hvo,hro,hw⟩
    ·try simp only at hc
     try simp only at hc0
     try simp only at hc1
     try simp only at hc2
     have hopen:=yE (B:=B) hn3 (by rw [hbest];exact .inr (.inr hc))
     refine J.qe rfl rfl<|J.qj rfl rfl rfl rfl<|J.qj rfl rfl rfl rfl<|J.name 58 rfl (congrArg Value.bool ((shr63 gen hgl).trans (decide_eq_false hc0)))<|J.qe rfl rfl ?_
     first | refine J.skip rfl rfl rfl rfl rfl ?_ | refine J.qh rfl rfl rfl rfl ?_ | (refine J.qf rfl rfl rfl ?_;refine J.qe rfl rfl ?_)
     first | refine J.skip rfl rfl rfl rfl rfl ?_ | refine J.qh rfl rfl rfl rfl ?_ | (refine J.qf rfl rfl rfl ?_;refine J.qe rfl rfl ?_)
     first | refine J.skip rfl rfl rfl rfl rfl ?_ | refine J.qh rfl rfl rfl rfl ?_ | (refine J.qf rfl rfl rfl ?_;refine J.qR (fun w1 w2 hw hb=>hw.step hb) Ty.bd60 rfl rfl (fun w1 hw=>yA d s n p k w1 (hw0.at hw)) ?_)
     first | refine J.skip rfl rfl rfl rfl rfl ?_ | refine J.qh rfl rfl rfl rfl ?_ | (refine J.qf rfl rfl rfl ?_;(first | refine J.zn rfl rfl (by omega) (by omega) rfl ?_ | refine J.qj rfl rfl rfl rfl ?_))
     refine J.qf rfl rfl rfl<|J.qF Ty.u3 Ty.u81 rfl rfl<|J.name 64 rfl (congrArg (Value.int .u64) (show _=((n - 2:Nat):Int) by rw [ze (by omega) (by omega)];omega)) ?_;refine J.qf rfl rfl rfl<|J.qj rfl rfl rfl rfl<|J.name 65 rfl (show Value.bool _=.bool false by simp <;> omega) ?_
     (first | refine J.qr rfl rfl rfl ?_ | refine J.qs rfl rfl rfl ?_)
     refine J.qe rfl rfl ?_
     first | refine J.skip rfl rfl rfl rfl rfl ?_ | refine J.qh rfl rfl rfl rfl ?_ | (refine J.qf rfl rfl rfl ?_;refine J.qe rfl rfl ?_)
     first | refine J.skip rfl rfl rfl rfl rfl ?_ | refine J.qh rfl rfl rfl rfl ?_ | (refine J.qf rfl rfl rfl ?_;refine J.qe rfl rfl ?_)
     refine J.qf rfl rfl rfl<|J.qj rfl rfl rfl rfl<|J.name 70 rfl (show Value.bool _=.bool true by simp <;> omega) ?_
     (first | refine J.qr rfl rfl rfl ?_ | refine J.qs rfl rfl rfl ?_)
     refine J.nil ?_;refine JX.qd (hK10 _ _ ?_)
     first | refine JC.qP rfl ?_ | refine JC.qn rfl (fun _=>?_) (fun h=>by first | (exfalso;simp at h;omega) | (simp at h))
     refine JC.seq (fun K13 hK13=>?_);refine JC.region<|J.assign rfl rfl<|J.assign rfl rfl<|J.assign rfl rfl<|J.nil ?_;refine JX.qd (hK13 _ _ ?_);refine JC.qA<|JX.qt ?_;refine JX.q5 rfl rfl rfl rfl (fun w1 hw=>?_)
     rw [hopen]
     first
     | exact ⟨rfl,hw.below⟩
     | exact ⟨b151,v15,vs,lv,lps,rfl,hol ▸ hvo,hro,hw⟩
    ·try simp only at hc
     try simp only at hc0
     try simp only at hc1
     try simp only at hc2
     have hgood:¬badHead n (gen,used,cnt_):=by unfold badHead;simp only;omega
     have hul:used≤4096:=by omega
     refine J.qe rfl rfl<|J.qj rfl rfl rfl rfl<|J.qj rfl rfl rfl rfl<|J.name 58 rfl (congrArg Value.bool ((shr63 gen hgl).trans (decide_eq_false hc0)))<|J.qe rfl rfl ?_
     first | refine J.skip rfl rfl rfl rfl rfl ?_ | refine J.qh rfl rfl rfl rfl ?_ | (refine J.qf rfl rfl rfl ?_;refine J.qe rfl rfl ?_)
     first | refine J.skip rfl rfl rfl rfl rfl ?_ | refine J.qh rfl rfl rfl rfl ?_ | (refine J.qf rfl rfl rfl ?_;refine J.qe rfl rfl ?_)
     first | refine J.skip rfl rfl rfl rfl rfl ?_ | refine J.qh rfl rfl rfl rfl ?_ | (refine J.qf rfl rfl rfl ?_;refine J.qR (fun w1 w2 hw hb=>hw.step hb) Ty.bd60 rfl rfl (fun w1 hw=>yA d s n p k w1 (hw0.at hw)) ?_)
     first | refine J.skip rfl rfl rfl rfl rfl ?_ | refine J.qh rfl rfl rfl rfl ?_ | (refine J.qf rfl rfl rfl ?_;(first | refine J.zn rfl rfl (by omega) (by omega) rfl ?_ | refine J.qj rfl rfl rfl rfl ?_))
     refine J.qf rfl rfl rfl<|J.qF Ty.u3 Ty.u81 rfl rfl<|J.name 64 rfl (congrArg (Value.int .u64) (show _=((n - 2:Nat):Int) by rw [ze (by omega) (by omega)];omega)) ?_;refine J.qf rfl rfl rfl<|J.qj rfl rfl rfl rfl<|J.name 65 rfl (show Value.bool _=.bool false by simp <;> omega) ?_
     (first | refine J.qr rfl rfl rfl ?_ | refine J.qs rfl rfl rfl ?_)
     refine J.qe rfl rfl ?_
     first | refine J.skip rfl rfl rfl rfl rfl ?_ | refine J.qh rfl rfl rfl rfl ?_ | (refine J.qf rfl rfl rfl ?_;refine J.qe rfl rfl ?_)
     first | refine J.skip rfl rfl rfl rfl rfl ?_ | refine J.qh rfl rfl rfl rfl ?_ | (refine J.qf rfl rfl rfl ?_;refine J.qe rfl rfl ?_)
     refine J.qf rfl rfl rfl<|J.qj rfl rfl rfl rfl<|J.name 70 rfl (show Value.bool _=.bool false by simp <;> omega) ?_
     (first | refine J.qr rfl rfl rfl ?_ | refine J.qs rfl rfl rfl ?_)
     refine J.nil ?_;refine JX.qd (hK10 _ _ ?_)
     first | refine JC.qI rfl ?_ | refine JC.qn rfl (fun h=>by first | (exfalso;simp at h;omega) | (simp at h)) (fun _=>?_)
     refine JC.skip ?_;refine JX.qd (hK9 _ _ ?_);refine JC.seq (fun K14 hK14=>?_);refine JC.region<|J.assign rfl rfl<|J.nil ?_;refine JX.qd (hK14 _ _ ?_);refine JC.seq (fun K15 hK15=>?_);refine JC.region<|J.assign rfl rfl<|J.nil ?_;refine JX.qd (hK15 _ _ ?_);refine JC.seq (fun K16 hK16=>?_);refine JC.seq (fun K17 hK17=>?_);refine JC.region<|J.qe rfl rfl<|J.qe rfl rfl<|J.nil ?_;refine JX.qd (hK17 _ _ ?_);refine JC.block ?_
     refine JC.conseq (JC.cov (f:=(fun st=>[(0,.pointer (some ⟨d,0,none⟩)),(9,.int .u64 ((gen:Nat):Int)),(10,.int .u64 ((used:Nat):Int)),(11,.int .u64 ((cnt_:Nat):Int)),(15,st.v15),(16,.int .i64 ((st.at_:Nat):Int)),(72,.int .u64 ((cnt_:Nat):Int)),(73,.int .u64 ((st.k:Nat):Int))]) (⟨0,2,[],[],.slice none 0 0,[],[]⟩:OpSt)) ⟨rfl,rfl,rfl,rfl,rfl,rfl,rfl,rfl,trivial⟩ (JC.loop (α:=OpSt) (fun st=>[(0,.pointer (some ⟨d,0,none⟩)),(9,.int .u64 ((gen:Nat):Int)),(10,.int .u64 ((used:Nat):Int)),(11,.int .u64 ((cnt_:Nat):Int)),(15,st.v15),(16,.int .i64 ((st.at_:Nat):Int)),(72,.int .u64 ((cnt_:Nat):Int)),(73,.int .u64 ((st.k:Nat):Int))]) (fun st w'=>(st.k≤cnt_∧2≤st.at_∧st.at_≤2+used∧st.out.length=st.k∧Vec 26 1 st.v15 st.k st.vs st.lv∧Recs 5 st.vs st.out st.lps∧parseS B (2+used) cnt_ 2=(parseS B (2+used) (cnt_ - st.k) st.at_).map (st.out++·))∧St w [] (st.lv++st.lps) w') (fun st=>cnt_ - st.k) (⟨0,2,[],[],.slice none 0 0,[],[]⟩:OpSt) (fun st=>?_))) (fun w hw=>⟨⟨Nat.zero_le _,Nat.le_refl _,by show 2≤2+used;omega,rfl,Vec.nil _ _,.nil,by simp⟩,hw⟩)
     obtain ⟨k1,at_,out,vs,v15,lv,lps⟩:=st
     refine JC.pr (fun hx=>?_)
     obtain ⟨hk,hat,hat2,hol,hvo,hro,hpar⟩:=hx
     simp only at hk hat hat2 hol hvo hro hpar ⊢
     refine JC.seq (fun K18 hK18=>?_);refine JC.region<|J.qj rfl rfl rfl rfl<|J.nil ?_;refine JX.qd (hK18 _ _ ?_);refine JC.seq (fun K19 hK19=>?_);refine JC.qn rfl (fun h4=>?_) (fun h4=>?_)
     ·have hlt:k1<cnt_:=by simp at h4;omega
      have hsuc:cnt_ - k1=(cnt_ - (k1+1))+1:=by omega
      refine JC.skip ?_;refine JX.qd (hK19 _ _ ?_);refine JC.seq (fun K20 hK20=>?_);refine JC.block ?_;refine JC.seq (fun K21 hK21=>?_);refine JC.seq (fun K22 hK22=>?_);refine JC.region<|J.qe rfl rfl<|J.qe rfl rfl<|J.qF Ty.u81 Ty.u3 rfl rfl<|J.name 77 rfl (congrArg (Value.int .i64) (show _=((used:Nat):Int) from qV (by omega) (by omega))) ?_
      (first | refine J.qG rfl rfl (by omega) (by omega) rfl ?_ | refine J.qj rfl rfl rfl rfl ?_)
      refine J.qj rfl rfl rfl rfl<|J.nil ?_;refine JX.qd (hK22 _ _ ?_);refine JC.qn rfl (fun h5=>?_) (fun h5=>?_)
      ·have hopen:=zZ (B:=B) hn3 hbest (by rw [hpar,hsuc,parseS,if_pos (by simp at h5;omega)];rfl)
       refine JC.seq (fun K23 hK23=>?_);refine JC.region<|J.assign rfl rfl<|J.assign rfl rfl<|J.assign rfl rfl<|J.nil ?_;refine JX.qd (hK23 _ _ ?_);refine JC.qA<|JX.qt<|JX.qH<|JX.qt<|JX.qt<|JX.qH<|JX.qt ?_;refine JX.q5 rfl rfl rfl rfl (fun w1 hw=>?_)
       rw [hopen]
       first
       | exact ⟨rfl,hw.below⟩
       | exact ⟨b151,v15,vs,lv,lps,rfl,hol ▸ hvo,hro,hw⟩
      ·have hlt5:at_<2+used:=by simp at h5;omega
       refine JC.skip ?_;refine JX.qd (hK21 _ _ ?_);refine JC.seq (fun K24 hK24=>?_);refine JC.region<|J.qe rfl rfl<|J.qe rfl rfl<|J.perm ([]++(lv++lps)) zp ?_;refine J.qO (l1:=[]) Ty.bd61 rfl rfl (fun w1 hw=>(read_spec d s n B p k ((at_:Nat):Int) w1 (hw0.at hw) hB (by omega) (by omega)).mono fun _ w2 ⟨x,h1,h2,h3⟩=>⟨x,h1,h2,St.free (hw0.at hw) h3⟩) (fun x hv84=>?_)
       obtain ⟨v84,lp84⟩:=x
       simp only at hv84 ⊢
       obtain ⟨a84,c84,rfl,hc84⟩:=hv84.form
       have hsl:=yB (B:=B) (k:=at_) (by omega)
       obtain ⟨q84,sp84,hq84,rfl,_,_⟩:=hv84.at (j:=0) (by omega)
       subst hq84
       rw [show ((at_:Nat):Int).toNat=at_ from rfl] at hv84
       have hv84':Vec 5 1 (.slice (some ⟨q84,0,none⟩) 64 c84) (64*1) (((B.drop (64*at_)).take (64*1)).map u8) [(q84,cb ((sec B at_).map u8++sp84) 5)]:=hv84
       refine J.perm ((q84,cb ((sec B at_).map u8++sp84) 5)::(lv++lps)) zp<|J.qe rfl rfl<|J.extract rfl rfl rfl<|J.extract rfl rfl rfl<|J.assign rfl rfl<|J.assign rfl rfl<|J.nil ?_;refine JX.qd (hK24 _ _ ?_);refine JC.seq (fun K25 hK25=>?_)
       apply JC.zc 10 [Eqv (_),Eqv (_),Eqv (_),Eqv (_),Eqv (_),Eqv (_),Eqv (_),Eqv (_),Eqv (_),Eqv (_)] Ty.mixed rfl rfl rfl (by kernel_rfl) rfl rfl (fun w w' hw hb=>hw.step hb) ⟨fun _ _ _ h _=>h,fun _ _ _ h _=>h,fun _ _ _ h _=>h,fun _ _ _ h _=>h,fun _ _ _ h _=>h,fun _ _ _ h _=>h,fun _ _ _ h _=>h,fun _ _ _ h _=>h,fun _ _ _ h _=>h,fun _ _ _ h _=>h,trivial⟩ ?hstep ?htail
       case hstep=>
        refine ⟨fun wi=>?_,fun wi=>?_,fun wi=>?_,fun wi=>?_,fun wi=>?_,fun wi=>?_,fun wi=>?_,fun wi=>?_,fun wi=>?_,fun wi=>?_,trivial⟩
        ·refine Fin.nil<|J.qe rfl rfl ?_
         exact J.qm rfl
        ·refine Fin.qc rfl (Fin.nil ?_);refine J.qu Ty.el26 Ty.s5 rfl rfl (by omega) (by omega) rfl ?_
         exact J.qm rfl
        ·refine Fin.qc rfl (Fin.nil ?_);refine J.qw (v:=u8 ((sec B at_)[0]'(by omega))) Ty.a5 rfl (fun w1 hw=>(qB (hw.2.own _ (.head _))).trans (at_u8 (j:=0) (by omega))) rfl ?_
         exact J.qm rfl
        ·refine Fin.qc rfl (Fin.nil ?_);refine J.qF Ty.u5 Ty.u3 rfl rfl<|J.name 89 rfl (congrArg (Value.int .i64) (show _=(((B.getD (64*at_) 0).toNat:Nat):Int) by rw [sec_getD (by omega) (by omega),Nat.add_zero];exact qV (by omega) (by have:=UInt8.toNat_lt (B.getD (64*at_) 0);omega))) ?_
         exact J.qm rfl
        ·refine Fin.qc rfl (Fin.nil ?_);refine J.qj rfl rfl rfl rfl<|J.name 90 rfl (congrArg (Value.int .i64) (show _=(((B.getD (64*at_) 0).toNat*256:Nat):Int) by have:=UInt8.toNat_lt (B.getD (64*at_) 0);rw [show (2:Int) ^ (min (8:Int).toNat IntKind.i64.bits)=256 from rfl,qV (by omega) (by omega)];omega)) ?_
         exact J.qm rfl
        ·refine Fin.nil<|J.qe rfl rfl ?_
         exact J.qm rfl
        ·refine Fin.qc rfl (Fin.nil ?_);refine J.qu Ty.el26 Ty.s5 rfl rfl (by omega) (by omega) rfl ?_
         exact J.qm rfl
        ·refine Fin.qc rfl (Fin.nil ?_);refine J.qw (v:=u8 ((sec B at_)[1]'(by omega))) Ty.a5 rfl (fun w1 hw=>(qB (hw.2.own _ (.head _))).trans (at_u8 (j:=1) (by omega))) rfl ?_
         exact J.qm rfl
        ·refine Fin.qc rfl (Fin.nil ?_);refine J.qF Ty.u5 Ty.u3 rfl rfl<|J.name 94 rfl (congrArg (Value.int .i64) (show _=(((B.getD (64*at_+1) 0).toNat:Nat):Int) by rw [sec_getD (by omega) (by omega)];exact qV (by omega) (by have:=UInt8.toNat_lt (B.getD (64*at_+1) 0);omega))) ?_
         exact J.qm rfl
        ·refine Fin.qc rfl (Fin.qc rfl (Fin.nil ?_))
         refine J.qj rfl rfl rfl rfl<|J.name 95 rfl (show _=Value.int .i64 ((sizeAt B at_:Nat):Int) from or_i64 _ _ (UInt8.toNat_lt _) (UInt8.toNat_lt _)) ?_
         exact J.qm rfl
       case htail=>
        refine Fin.qc rfl (Fin.qc rfl (Fin.qc rfl (Fin.qc rfl (Fin.qc rfl (Fin.qc rfl (Fin.qc rfl (Fin.qc rfl (Fin.qc rfl (Fin.qc rfl (Fin.nil ?_))))))))))
        refine J.assign rfl rfl<|J.nil ?_;refine JX.qd (hK25 _ _ ?_);refine JC.seq (fun K26 hK26=>?_);refine JC.seq (fun K27 hK27=>?_);refine JC.region ?_
        rcases size_cases (sizeAt B at_) (2+used) at_ with hc | ⟨hz1,hc⟩ | ⟨hz1,hz2⟩
        ·have hopen:=zZ (B:=B) hn3 hbest (by rw [hpar,hsuc,parseS,if_neg (by omega),if_pos (.inl hc)];rfl)
         refine J.qe rfl rfl<|J.qj rfl rfl rfl rfl<|J.name 97 rfl (show Value.bool _=.bool true by simp <;> omega) ?_;refine J.qe rfl rfl ?_
         first | refine J.skip rfl rfl rfl rfl rfl ?_ | refine J.qh rfl rfl rfl rfl ?_ | (refine J.qf rfl rfl rfl ?_;refine J.qe rfl rfl ?_)
         first | refine J.skip rfl rfl rfl rfl rfl ?_ | refine J.qh rfl rfl rfl rfl ?_ | (refine J.qf rfl rfl rfl ?_;refine J.qR (fun w1 w2 hw hb=>hw.step hb) Ty.bd63 rfl rfl (fun w1 hw=>z1 (sizeAt B at_) w1 (by omega)) ?_)
         first | refine J.skip rfl rfl rfl rfl rfl ?_ | refine J.qh rfl rfl rfl rfl ?_ | (refine J.qf rfl rfl rfl ?_;refine J.qe rfl rfl ?_)
         first | refine J.skip rfl rfl rfl rfl rfl ?_ | refine J.qh rfl rfl rfl rfl ?_ | (refine J.qf rfl rfl rfl ?_;refine J.qF Ty.u81 Ty.u3 rfl rfl ?_)
         first | refine J.skip rfl rfl rfl rfl rfl ?_ | refine J.qh rfl rfl rfl rfl ?_ | (refine J.qf rfl rfl rfl ?_;(first | refine J.qG rfl rfl (by omega) (by omega) rfl ?_ | refine J.qj rfl rfl rfl rfl ?_))
         first | refine J.skip rfl rfl rfl rfl rfl ?_ | refine J.qh rfl rfl rfl rfl ?_ | (refine J.qf rfl rfl rfl ?_;refine J.qe rfl rfl ?_)
         first | refine J.skip rfl rfl rfl rfl rfl ?_ | refine J.qh rfl rfl rfl rfl ?_ | (refine J.qf rfl rfl rfl ?_;(first | refine J.zn rfl rfl (by omega) (by omega) rfl ?_ | refine J.qj rfl rfl rfl rfl ?_))
         first | refine J.skip rfl rfl rfl rfl rfl ?_ | refine J.qh rfl rfl rfl rfl ?_ | (refine J.qf rfl rfl rfl ?_;refine J.qj rfl rfl rfl rfl ?_)
         (first | refine J.qr rfl rfl rfl ?_ | refine J.qs rfl rfl rfl ?_)
         refine J.nil ?_;refine JX.qd (hK27 _ _ ?_)
         first | refine JC.qP rfl ?_ | refine JC.qn rfl (fun _=>?_) (fun h=>by first | (exfalso;simp at h;omega) | (simp at h))
         refine JC.seq (fun K28 hK28=>?_);refine JC.region<|J.assign rfl rfl<|J.assign rfl rfl<|J.assign rfl rfl<|J.nil ?_;refine JX.qd (hK28 _ _ ?_);refine JC.qA<|JX.qt<|JX.qH<|JX.qt<|JX.qt<|JX.qH<|JX.qt ?_;refine JX.q5 rfl rfl rfl rfl (fun w1 hw=>?_)
         rw [hopen]
         first
         | exact ⟨rfl,hw.below⟩
         | exact ⟨b151,v15,vs,lv,lps,rfl,hol ▸ hvo,hro,hw⟩
        ·have hopen:=zZ (B:=B) hn3 hbest (by rw [hpar,hsuc,parseS,if_neg (by omega),if_pos (.inr hc)];rfl)
         refine J.qe rfl rfl<|J.qj rfl rfl rfl rfl<|J.name 97 rfl (show Value.bool _=.bool false by simp <;> omega) ?_;refine J.qe rfl rfl ?_
         first | refine J.skip rfl rfl rfl rfl rfl ?_ | refine J.qh rfl rfl rfl rfl ?_ | (refine J.qf rfl rfl rfl ?_;refine J.qe rfl rfl ?_)
         first | refine J.skip rfl rfl rfl rfl rfl ?_ | refine J.qh rfl rfl rfl rfl ?_ | (refine J.qf rfl rfl rfl ?_;refine J.qR (fun w1 w2 hw hb=>hw.step hb) Ty.bd63 rfl rfl (fun w1 hw=>z1 (sizeAt B at_) w1 (by omega)) ?_)
         first | refine J.skip rfl rfl rfl rfl rfl ?_ | refine J.qh rfl rfl rfl rfl ?_ | (refine J.qf rfl rfl rfl ?_;refine J.qe rfl rfl ?_)
         refine J.qf rfl rfl rfl<|J.qF Ty.u81 Ty.u3 rfl rfl<|J.name 102 rfl (congrArg (Value.int .i64) (show _=((used:Nat):Int) from qV (by omega) (by omega))) ?_
         first | refine J.skip rfl rfl rfl rfl rfl ?_ | refine J.qh rfl rfl rfl rfl ?_ | (refine J.qf rfl rfl rfl ?_;(first | refine J.qG rfl rfl (by omega) (by omega) rfl ?_ | refine J.qj rfl rfl rfl rfl ?_))
         first | refine J.skip rfl rfl rfl rfl rfl ?_ | refine J.qh rfl rfl rfl rfl ?_ | (refine J.qf rfl rfl rfl ?_;refine J.qe rfl rfl ?_)
         first | refine J.skip rfl rfl rfl rfl rfl ?_ | refine J.qh rfl rfl rfl rfl ?_ | (refine J.qf rfl rfl rfl ?_;(first | refine J.zn rfl rfl (by omega) (by omega) rfl ?_ | refine J.qj rfl rfl rfl rfl ?_))
         refine J.qf rfl rfl rfl<|J.qj rfl rfl rfl rfl<|J.name 106 rfl (show Value.bool _=.bool true by simp <;> omega) ?_
         (first | refine J.qr rfl rfl rfl ?_ | refine J.qs rfl rfl rfl ?_)
         refine J.nil ?_;refine JX.qd (hK27 _ _ ?_)
         first | refine JC.qP rfl ?_ | refine JC.qn rfl (fun _=>?_) (fun h=>by first | (exfalso;simp at h;omega) | (simp at h))
         refine JC.seq (fun K29 hK29=>?_);refine JC.region<|J.assign rfl rfl<|J.assign rfl rfl<|J.assign rfl rfl<|J.nil ?_;refine JX.qd (hK29 _ _ ?_);refine JC.qA<|JX.qt<|JX.qH<|JX.qt<|JX.qt<|JX.qH<|JX.qt ?_;refine JX.q5 rfl rfl rfl rfl (fun w1 hw=>?_)
         rw [hopen]
         first
         | exact ⟨rfl,hw.below⟩
         | exact ⟨b151,v15,vs,lv,lps,rfl,hol ▸ hvo,hro,hw⟩
        ·have hnb:=@need_bounds (sizeAt B at_)
         have hrl:((B.drop (64*at_+2)).take (sizeAt B at_)).length=sizeAt B at_:=by simp;omega
         refine J.qe rfl rfl<|J.qj rfl rfl rfl rfl<|J.name 97 rfl (show Value.bool _=.bool false by simp <;> omega) ?_;refine J.qe rfl rfl ?_
         first | refine J.skip rfl rfl rfl rfl rfl ?_ | refine J.qh rfl rfl rfl rfl ?_ | (refine J.qf rfl rfl rfl ?_;refine J.qe rfl rfl ?_)
         first | refine J.skip rfl rfl rfl rfl rfl ?_ | refine J.qh rfl rfl rfl rfl ?_ | (refine J.qf rfl rfl rfl ?_;refine J.qR (fun w1 w2 hw hb=>hw.step hb) Ty.bd63 rfl rfl (fun w1 hw=>z1 (sizeAt B at_) w1 (by omega)) ?_)
         first | refine J.skip rfl rfl rfl rfl rfl ?_ | refine J.qh rfl rfl rfl rfl ?_ | (refine J.qf rfl rfl rfl ?_;refine J.qe rfl rfl ?_)
         refine J.qf rfl rfl rfl<|J.qF Ty.u81 Ty.u3 rfl rfl<|J.name 102 rfl (congrArg (Value.int .i64) (show _=((used:Nat):Int) from qV (by omega) (by omega))) ?_
         first | refine J.skip rfl rfl rfl rfl rfl ?_ | refine J.qh rfl rfl rfl rfl ?_ | (refine J.qf rfl rfl rfl ?_;(first | refine J.qG rfl rfl (by omega) (by omega) rfl ?_ | refine J.qj rfl rfl rfl rfl ?_))
         first | refine J.skip rfl rfl rfl rfl rfl ?_ | refine J.qh rfl rfl rfl rfl ?_ | (refine J.qf rfl rfl rfl ?_;refine J.qe rfl rfl ?_)
         first | refine J.skip rfl rfl rfl rfl rfl ?_ | refine J.qh rfl rfl rfl rfl ?_ | (refine J.qf rfl rfl rfl ?_;(first | refine J.zn rfl rfl (by omega) (by omega) rfl ?_ | refine J.qj rfl rfl rfl rfl ?_))
         refine J.qf rfl rfl rfl<|J.qj rfl rfl rfl rfl<|J.name 106 rfl (show Value.bool _=.bool false by simp <;> omega) ?_
         (first | refine J.qr rfl rfl rfl ?_ | refine J.qs rfl rfl rfl ?_)
         refine J.nil ?_;refine JX.qd (hK27 _ _ ?_)
         first | refine JC.qI rfl ?_ | refine JC.qn rfl (fun h=>by first | (exfalso;simp at h;omega) | (simp at h)) (fun _=>?_)
         refine JC.skip ?_;refine JX.qd (hK26 _ _ ?_);refine JC.seq (fun K30 hK30=>?_);refine JC.seq (fun K31 hK31=>?_);refine JC.region<|J.assign rfl rfl<|J.nil ?_;refine JX.qd (hK31 _ _ ?_);refine JC.block ?_
         refine JC.conseq (JC.cov (f:=(fun st=>[(0,.pointer (some ⟨d,0,none⟩)),(9,.int .u64 ((gen:Nat):Int)),(10,.int .u64 ((used:Nat):Int)),(11,.int .u64 ((cnt_:Nat):Int)),(15,v15),(16,.int .i64 ((at_:Nat):Int)),(72,.int .u64 ((cnt_:Nat):Int)),(73,.int .u64 ((k1:Nat):Int)),(19,.int .i64 ((sizeAt B at_:Nat):Int)),(17,st.2.1),(20,.int .i64 ((st.1:Nat):Int))]) ((1,_,_):Nat × Value × List (Nat × Obj))) ⟨rfl,rfl,rfl,rfl,rfl,rfl,rfl,rfl,rfl,rfl,rfl,trivial⟩ (JC.loop (α:=Nat × Value × List (Nat × Obj)) (fun st=>[(0,.pointer (some ⟨d,0,none⟩)),(9,.int .u64 ((gen:Nat):Int)),(10,.int .u64 ((used:Nat):Int)),(11,.int .u64 ((cnt_:Nat):Int)),(15,v15),(16,.int .i64 ((at_:Nat):Int)),(72,.int .u64 ((cnt_:Nat):Int)),(73,.int .u64 ((k1:Nat):Int)),(19,.int .i64 ((sizeAt B at_:Nat):Int)),(17,st.2.1),(20,.int .i64 ((st.1:Nat):Int))]) (fun st w'=>(1≤st.1∧st.1≤needN (sizeAt B at_)∧Vec 5 1 st.2.1 (64*st.1) (((B.drop (64*at_)).take (64*st.1)).map u8) st.2.2)∧St w [] (st.2.2++(lv++lps)) w') (fun st=>needN (sizeAt B at_) - st.1) ((1,_,_):Nat × Value × List (Nat × Obj)) (fun st=>?_))) (fun w hw=>⟨⟨Nat.le_refl _,need_bounds.1,hv84'⟩,hw⟩)
         obtain ⟨i,v17,lp17⟩:=st
         refine JC.pr (fun hx=>?_)
         obtain ⟨hi1,hi2,hv17⟩:=hx
         simp only at hi1 hi2 hv17 ⊢
         refine JC.seq (fun K32 hK32=>?_);refine JC.seq (fun K33 hK33=>?_);refine JC.region<|J.qe rfl rfl<|J.qe rfl rfl<|J.qR (fun w1 w2 hw hb=>hw.step hb) Ty.bd63 rfl rfl (fun w1 hw=>z1 (sizeAt B at_) w1 (by omega)) ?_;refine J.qj rfl rfl rfl rfl<|J.nil ?_;refine JX.qd (hK33 _ _ ?_);refine JC.qn rfl (fun h7=>?_) (fun h7=>?_)
         ·have hlt2:i<needN (sizeAt B at_):=by simp at h7;omega
          refine JC.skip ?_;refine JX.qd (hK32 _ _ ?_);refine JC.seq (fun K34 hK34=>?_);refine JC.block ?_;refine JC.seq (fun K35 hK35=>?_);refine JC.region<|J.qe rfl rfl<|J.qe rfl rfl<|J.qe rfl rfl ?_
          (first | refine J.qG rfl rfl (by omega) (by omega) rfl ?_ | refine J.qj rfl rfl rfl rfl ?_)
          refine J.perm ([]++(lp17++(lv++lps))) zp ?_;refine J.qO (l1:=[]) Ty.bd61 rfl rfl (fun w1 hw=>(read_spec d s n B p k ((at_+i:Nat):Int) w1 (hw0.at hw) hB (by omega) (by omega)).mono fun _ w2 ⟨x,h1,h2,h3⟩=>⟨x,h1,h2,St.free (hw0.at hw) h3⟩) (fun x hv119=>?_)
          obtain ⟨v119,lp119⟩:=x
          simp only at hv119 ⊢
          rw [show ((at_+i:Nat):Int).toNat=at_+i from rfl] at hv119
          refine J.qe rfl rfl<|J.extract rfl rfl rfl<|J.extract rfl rfl rfl<|J.assign rfl rfl<|J.assign rfl rfl<|J.nil ?_;refine JX.qd (hK35 _ _ ?_);refine JC.region<|J.qe rfl rfl<|J.qe rfl rfl<|J.perm (lp17++(lp119++(lv++lps))) zp ?_;refine J.qZ (lp:=lp17) (ys:=(sec B (at_+i)).map u8) (m:=64) Ty.el26 Ty.s5 Ty.b5 Ty.z5 rfl (.inl ⟨5,Ty.u26⟩) rfl rfl hv17 (fun w1 hw=>.inl (hv119.row (l:=lp17++(lv++lps)) (hw.perm zp))) (by rw [List.length_map,yB (by omega)]) (zk _) (by omega) (by omega) rfl (fun v124 lp124 hv124=>?_);refine J.assign rfl rfl<|J.nil<|JX.qJ ?_;refine JX.qd (hK34 _ _ ?_);refine JC.region<|J.qe rfl rfl ?_
          (first | refine J.qG rfl rfl (by omega) (by omega) rfl ?_ | refine J.qj rfl rfl rfl rfl ?_)
          refine J.assign rfl rfl<|J.nil<|JX.qd<|JX.qS (i+1,v124,lp124) ?_ ?_ ?_
          ·simp only;omega
          ·exact ⟨rfl,rfl,rfl,rfl,rfl,rfl,rfl,rfl,rfl,rfl,rfl,trivial⟩
          ·exact fun w1 hw=>⟨⟨by simp only;omega,hlt2,by simp only;rw [← sec_more,List.map_append];exact hv124⟩,St.drop (St.perm (l':=lp119++(lp124++(lv++lps))) hw zp) (List.sublist_append_right _ _)⟩
         ·obtain rfl:i=needN (sizeAt B at_):=by simp at h7;omega
          obtain ⟨a17,c17,rfl,hc17⟩:=hv17.form
          refine JC.qX<|JX.qE<|JX.qE<|JX.qT ?_;refine JX.qd (hK30 _ _ ?_);refine JC.seq (fun K36 hK36=>?_);refine JC.region<|J.qe rfl rfl ?_;refine J.za Ty.el26 Ty.s5 Ty.z5 rfl rfl rfl rfl rfl rfl rfl (fun b126=>?_);refine J.qe rfl rfl<|J.qe rfl rfl<|J.qG rfl rfl (by omega) (by omega) rfl ?_;refine J.name 129 rfl (show Value.int .i64 _=.int .i64 ((2+sizeAt B at_:Nat):Int) by congr 1) ?_;refine J.zx (i:=2) (j:=2+sizeAt B at_) Ty.el26 Ty.s5 rfl rfl rfl (by simp [bnd]) rfl (by omega) (by omega) (by omega) rfl ?_;refine J.qZ (lp:=[(b126,cb [] 5)]) (xs:=[]) (ys:=((B.drop (64*at_+2)).take (sizeAt B at_)).map u8) (k:=0) (m:=2+sizeAt B at_ - 2) Ty.el26 Ty.s5 Ty.b5 Ty.z5 rfl (.inl ⟨5,Ty.u26⟩) rfl rfl ⟨rfl,.inr ⟨b126,0,[],rfl,rfl,rfl,Nat.le_refl _⟩⟩ (fun w1 hw=>.inl ?_) (by rw [List.length_map,hrl];omega) (zk _) (by omega) (by omega) rfl (fun v131 lp131 hv131=>?_)
          ·have h1:=(hv17.row (l:=lv++lps) (hw.drop (List.sublist_append_right _ _))).slice (sz:=1) (i:=2) (j:=2+sizeAt B at_) (by simp;omega) (by omega) (by omega)
           rw [Nat.mul_one,Nat.mul_one,← List.map_drop,← List.map_take,show 2+sizeAt B at_ - 2=sizeAt B at_ by omega,rec_of hnb.2.1] at h1
           rw [show 2+sizeAt B at_ - 2=sizeAt B at_ by omega]
           exact h1
          rw [List.nil_append,show 0+(2+sizeAt B at_ - 2)=sizeAt B at_ by omega] at hv131
          obtain ⟨a131,c131,rfl,hc131⟩:=hv131.form
          refine J.za Ty.el57 Ty.s26 Ty.z26 rfl rfl rfl rfl rfl rfl rfl (fun b132=>?_);refine J.perm ((b132,cb [.slice a131 (sizeAt B at_) c131] 26)::(lp131++(lp17++(lv++lps)))) (.refl _)<|J.perm (lv++([(b132,cb [.slice a131 (sizeAt B at_) c131] 26)]++(lp131++(lp17++lps)))) zp ?_;refine J.qZ (lp:=lv) (ys:=[.slice a131 (sizeAt B at_) c131]) (m:=1) Ty.el57 Ty.s26 Ty.b26 Ty.z26 rfl (.inl ⟨26,Ty.u57⟩) rfl rfl hvo (fun w1 hw=>.inl (Row.own (cs:=[.slice a131 (sizeAt B at_) c131]) (tb:=26) (fr:=(0,0)) hw (List.mem_append_right _ (.head _)) rfl (Nat.le_refl _))) rfl (by simp [Value.oneCell']) (by omega) (by omega) rfl (fun v133 lv133 hv133=>?_)
          have hpar2:parseS B (2+used) cnt_ 2=(parseS B (2+used) (cnt_ - (k1+1)) (at_+needN (sizeAt B at_))).map (fun x=>(out++[(B.drop (64*at_+2)).take (sizeAt B at_)])++x):=by
           rw [hpar,hsuc,parseS,if_neg (by omega),if_neg (by omega),Option.map_map]
           congr 1
           funext x
           simp
          refine J.assign rfl rfl<|J.nil ?_;refine JX.qd (hK36 _ _ ?_);refine JC.region<|J.qe rfl rfl<|J.qe rfl rfl<|J.qR (fun w1 w2 hw hb=>hw.step hb) Ty.bd63 rfl rfl (fun w1 hw=>z1 (sizeAt B at_) w1 (by omega)) ?_
          (first | refine J.qG rfl rfl (by omega) (by omega) rfl ?_ | refine J.qj rfl rfl rfl rfl ?_)
          refine J.assign rfl rfl<|J.nil<|JX.qJ ?_;refine JX.qd (hK20 _ _ ?_);refine JC.region<|J.qj rfl rfl rfl rfl<|J.name 138 rfl (congrArg (Value.int .u64) (show _=((k1+1:Nat):Int) from ze (by omega) (by omega))) ?_;refine J.qe rfl rfl<|J.nil<|JX.qd<|JX.qS (⟨k1+1,at_+needN (sizeAt B at_),out++[(B.drop (64*at_+2)).take (sizeAt B at_)],vs++[.slice a131 (sizeAt B at_) c131],v133,lv133,lps++lp131⟩:OpSt) ?_ ?_ ?_
          ·simp only;omega
          ·exact ⟨rfl,rfl,rfl,rfl,rfl,rfl,rfl,rfl,trivial⟩
          ·exact fun w1 hw=>⟨⟨hlt,by simp only;omega,by simp only;omega,by simp [hol],hv133,.snoc hro (by rw [hrl];exact hv131),hpar2⟩,St.drop (St.perm (l':=(lp17++[(b132,cb [.slice a131 (sizeAt B at_) c131] 26)])++(lv133++(lps++lp131))) hw zp) (List.sublist_append_right _ _)⟩
     ·obtain rfl:cnt_=k1:=by simp at h4;omega
      rw [Nat.sub_self] at hpar
      refine JC.qX<|JX.qE<|JX.qE<|JX.qT ?_;refine JX.qd (hK16 _ _ ?_);refine JC.seq (fun K37 hK37=>?_);refine JC.seq (fun K38 hK38=>?_);refine JC.region<|J.qe rfl rfl<|J.qe rfl rfl<|J.qF Ty.u81 Ty.u3 rfl rfl<|J.name 141 rfl (congrArg (Value.int .i64) (show _=((used:Nat):Int) from qV (by omega) (by omega))) ?_
      (first | refine J.qG rfl rfl (by omega) (by omega) rfl ?_ | refine J.qj rfl rfl rfl rfl ?_)
      refine J.qj rfl rfl rfl rfl<|J.nil ?_;refine JX.qd (hK38 _ _ ?_);refine JC.qn rfl (fun h8=>?_) (fun h8=>?_)
      ·have hopen:=zZ (B:=B) hn3 hbest (by rw [hpar,parseS,if_neg (by simp at h8;omega)];rfl)
       refine JC.seq (fun K39 hK39=>?_);refine JC.region<|J.assign rfl rfl<|J.assign rfl rfl<|J.assign rfl rfl<|J.nil ?_;refine JX.qd (hK39 _ _ ?_);refine JC.qA<|JX.qt ?_;refine JX.q5 rfl rfl rfl rfl (fun w1 hw=>?_)
       rw [hopen]
       first
       | exact ⟨rfl,hw.below⟩
       | exact ⟨b151,v15,vs,lv,lps,rfl,hol ▸ hvo,hro,hw⟩
      ·have hopen:=openP_some (B:=B) hn3 hbest hgood (rs:=out) (by rw [hpar,parseS,if_pos (by simp at h8;omega)];simp)
       refine JC.skip ?_;refine JX.qd (hK37 _ _ ?_);refine JC.seq (fun K40 hK40=>?_);refine JC.region<|J.qe rfl rfl<|J.qe rfl rfl<|J.qe rfl rfl<|J.qF Ty.u81 Ty.u3 rfl rfl<|J.name 147 rfl (congrArg (Value.int .i64) (show _=((used:Nat):Int) from qV (by omega) (by omega))) ?_;refine J.qe rfl rfl<|J.qF Ty.u81 Ty.u3 rfl rfl<|J.name 149 rfl (congrArg (Value.int .i64) (show _=((cnt_:Nat):Int) from qV (by omega) (by omega))) ?_;refine J.qY Ty.pl124 Ty.z124 rfl rfl rfl ?_;refine J.box rfl rfl rfl (fun b151=>?_);refine J.qe rfl rfl<|J.assign rfl rfl<|J.assign rfl rfl<|J.assign rfl rfl<|J.nil ?_;refine JX.qd (hK40 _ _ ?_);refine JC.qA ?_;refine JX.q5 rfl rfl rfl rfl (fun w1 hw=>?_)
       rw [hopen]
       first
       | exact ⟨rfl,hw.below⟩
       | exact ⟨b151,v15,vs,lv,lps,rfl,hol ▸ hvo,hro,hw⟩
   ·refine JC.seq (fun K41 hK41=>?_);refine JC.region<|J.qe rfl rfl<|J.qj rfl rfl rfl rfl<|J.nil ?_;refine JX.qd (hK41 _ _ ?_);refine JC.qn rfl (fun h2=>?_) (fun h2=>?_)
    ·try simp only [decide_eq_true_eq,decide_eq_false_iff_not,beq_iff_eq,bne_iff_ne,bne_eq_false_iff_eq,ne_eq,beq_eq_false_iff_ne,Bool.not_eq_true,Bool.not_eq_false,Int.not_lt,Int.not_le] at h2
     refine JC.region<|J.assign rfl rfl<|J.assign rfl rfl<|J.nil<|JX.qd ?_
     have hz:h.1=0:=by simp at h2;exact h2
     have hbz:bestP B 2=(0,0,0):=by rw [best_two B h hh,if_pos hz]
     obtain ⟨rfl,rfl,rfl⟩:gen=0∧used=0∧cnt_=0:=by rw [hbest] at hbz;simpa using hbz
     exact JX.cut (hK8 ()) ⟨rfl,by simp only [hz];rfl,rfl,rfl,trivial⟩ (fun w1 hw=>hw)
    ·try simp only [decide_eq_true_eq,decide_eq_false_iff_not,beq_iff_eq,bne_iff_ne,bne_eq_false_iff_eq,ne_eq,beq_eq_false_iff_ne,Bool.not_eq_true,Bool.not_eq_false,Int.not_lt,Int.not_le] at h2
     refine JC.skip<|JX.qd ?_
     have hz:h.1≠0:=by simp at h2;exact h2
     have hbz:bestP B 2=h:=by rw [best_two B h hh,if_neg hz]
     obtain rfl:h=(gen,used,cnt_):=by rw [← hbz,hbest]
     exact JX.cut (hK8 ()) ⟨rfl,rfl,rfl,rfl,trivial⟩ (fun w1 hw=>hw)
  ·refine JC.seq (fun K42 hK42=>?_);refine JC.region<|J.qe rfl rfl<|J.qR (fun w1 w2 hw hb=>hw.step hb) Ty.bd62 rfl rfl (fun w1 hw=>head_spec _ (sec B 1) w1 (hvb.row (l:=lpa) (hw.perm zp)) (yB (by omega))) ?_;refine J.qe rfl rfl<|J.extract rfl rfl rfl<|J.extract rfl rfl rfl<|J.extract rfl rfl rfl<|J.assign rfl rfl<|J.assign rfl rfl<|J.assign rfl rfl<|J.nil ?_;refine JX.qd (hK42 _ _ ?_);refine JC.seq (fun K43 hK43=>?_);refine JC.region<|J.qe rfl rfl<|J.qe rfl rfl<|J.qj rfl rfl rfl rfl<|J.nil ?_;refine JX.qd (hK43 _ _ ?_);refine JC.qn rfl (fun h1=>?_) (fun h1=>?_)
   ·try simp only [decide_eq_true_eq,decide_eq_false_iff_not,beq_iff_eq,bne_iff_ne,bne_eq_false_iff_eq,ne_eq,beq_eq_false_iff_ne,Bool.not_eq_true,Bool.not_eq_false,Int.not_lt,Int.not_le] at h1
    refine JC.region<|J.qe rfl rfl<|J.qe rfl rfl<|J.qe rfl rfl<|J.assign rfl rfl<|J.assign rfl rfl<|J.assign rfl rfl<|J.nil<|JX.qd ?_
    exact JX.cut (hK7 ()) ⟨rfl,by rw [← hh,if_pos (by simp at h1;omega)];rfl,by rw [← hh,if_pos (by simp at h1;omega)];rfl,by rw [← hh,if_pos (by simp at h1;omega)];rfl,trivial⟩ (fun w1 hw=>hw.drop (List.nil_sublist _))
   ·try simp only [decide_eq_true_eq,decide_eq_false_iff_not,beq_iff_eq,bne_iff_ne,bne_eq_false_iff_eq,ne_eq,beq_eq_false_iff_ne,Bool.not_eq_true,Bool.not_eq_false,Int.not_lt,Int.not_le] at h1
    refine JC.skip<|JX.qd ?_
    exact JX.cut (hK7 ()) ⟨rfl,by rw [← hh,if_neg (by simp at h1;omega)];rfl,by rw [← hh,if_neg (by simp at h1;omega)];rfl,by rw [← hh,if_neg (by simp at h1;omega)];rfl,trivial⟩ (fun w1 hw=>hw.drop (List.nil_sublist _))
abbrev rfO (v:Value) (p k:Int):Obj:=cb [v,.int .i64 p,.int .i64 k] 67
def wE (n:Nat) (p i:Int) (m:Nat):Int:=if i<0∨(n:Int)≤i then 1 else if 64<m then 4 else if p=0 then 8 else 0
def wP (n:Nat) (p i:Int) (m:Nat):Int:=if wE n p i m=0 then (if 0<p then p - 1 else p) else p
def wK (n:Nat) (p i:Int) (m:Nat) (k:Int):Int:=if wE n p i m=0 then k+1 else k
def wB (n:Nat) (p i:Int) (B bs:List UInt8):List UInt8:=if wE n p i bs.length=0 then put B i.toNat bs else B
def wst (B:List UInt8) (i:Nat) (bs:List UInt8) (j:Nat):List UInt8:=B.take (64*i)++(bs++List.replicate (64 - bs.length) 0).take j++B.drop (64*i+j)
theorem wst_zero (B:List UInt8) (i:Nat) (bs:List UInt8):wst B i bs 0=B:=by simp [wst]
theorem wst_all {B bs:List UInt8} {i:Nat} (h:bs.length≤64):wst B i bs 64=put B i bs:=by
 have e:(bs++List.replicate (64 - bs.length) (0:UInt8)).take 64=bs++List.replicate (64 - bs.length) 0:=List.take_of_length_le (by simp;omega)
 rw [wst,put,e]
theorem wst_get {B bs:List UInt8} {n i:Nat} (hB:B.length=64*n) (hi:i<n) (hb:bs.length≤64) (j q:Nat) (hj:j≤64):(wst B i bs j)[q]? = if q<64*i then B[q]? else if q<64*i+j then (bs++List.replicate (64 - bs.length) 0)[q - 64*i]? else B[q]?:=by
 have l1:(B.take (64*i)).length=64*i:=by simp;omega
 have l2:((bs++List.replicate (64 - bs.length) (0:UInt8)).take j).length=j:=by simp;omega
 unfold wst
 by_cases h1:q<64*i
 ·rw [if_pos h1,List.append_assoc,List.getElem?_append_left (by omega),List.getElem?_take_of_lt h1]
 ·rw [if_neg h1]
  by_cases h2:q<64*i+j
  ·rw [if_pos h2,List.append_assoc,List.getElem?_append_right (by omega),List.getElem?_append_left (by omega),l1,List.getElem?_take_of_lt (by omega)]
  ·rw [if_neg h2,List.getElem?_append_right (by simp only [List.length_append];omega),List.length_append,l1,l2,List.getElem?_drop]
   congr 1;omega
theorem zo {B bs:List UInt8} {n i:Nat} (hB:B.length=64*n) (hi:i<n) (hb:bs.length≤64) (j:Nat) (hj:j≤64):(wst B i bs j).length=64*n:=by
 simp only [wst,List.length_append,List.length_take,List.length_drop,List.length_replicate];omega
theorem wst_pad {B bs:List UInt8} {n i:Nat} (hB:B.length=64*n) (hi:i<n) (hb:bs.length≤64) (j:Nat) (hj:j<64) (hjm:bs.length≤j):(wst B i bs j).set (64*i+j) 0=wst B i bs (j+1):=by
 apply List.ext_getElem?
 intro q
 rw [List.getElem?_set,wst_get hB hi hb j q (by omega),wst_get hB hi hb (j+1) q (by omega),zo hB hi hb j (by omega)]
 by_cases h:64*i+j=q
 ·subst h
  rw [if_pos rfl,if_pos (by omega),if_neg (by omega),if_pos (by omega),List.getElem?_append_right (by omega)]
  rw [List.getElem?_replicate,if_pos (by omega)]
 ·rw [if_neg h]
  by_cases h1:q<64*i
  ·rw [if_pos h1,if_pos h1]
  ·rw [if_neg h1,if_neg h1]
   by_cases h2:q<64*i+j
   ·rw [if_pos h2,if_pos (by omega)]
   ·rw [if_neg h2,if_neg (by omega)]
end Go.Proofs.Ytoaenmlhehcjfaa
