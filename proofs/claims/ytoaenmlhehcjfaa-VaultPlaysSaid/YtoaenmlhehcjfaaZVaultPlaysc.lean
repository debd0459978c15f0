/-
  VaultPlays: texts that its proof needs, part 3.
-/
import Derived.Test.YtoaenmlhehcjfaaZVaultPlaysb
namespace Go.Proofs.Ytoaenmlhehcjfaa
open Go.J Go.RowKit
set_option linter.unusedVariables false
set_option linter.unusedSimpArgs false
set_option maxRecDepth 8000
theorem getNum_spec (v:Value) (bs:List UInt8) (at_:Nat) (w:World) (hr:Row w v bs.length (bs.map u8)) (hl:bs.length≤100000) (hal:at_≤1000000) :
  Calls Try.prog 64 [v,.int .i64 ((at_:Nat):Int)].toArray w fun r w'=>r=.returned (.tuple #[.int .u64 (((getN bs at_).1:Nat):Int),.int .i64 (((getN bs at_).2.1:Nat):Int),.int .i64 (getN bs at_).2.2])∧Bel w w':=by
 obtain ⟨a,c,rfl,hc,hra⟩:=id hr
 refine qD (args:=[.slice a bs.length c,.int .i64 ((at_:Nat):Int)]) (e:=[(0,.slice a bs.length c),(1,.int .i64 ((at_:Nat):Int))]) Try.func64 rfl rfl ⟨rfl,rfl,trivial⟩ (St.start w) ?_;refine JC.seq (fun K0 hK0=>?_);refine JC.region<|J.assign rfl rfl<|J.assign rfl rfl<|J.assign rfl rfl<|J.nil ?_;refine JX.qd (hK0 _ _ ?_);refine JC.zy (α:=Unit) (fun _=>[(0,.slice a bs.length c),(1,.int .i64 ((at_:Nat):Int))]) (fun _ w'=>(at_<bs.length∧(bs.getD at_ 0).toNat≤8∧at_+1+(bs.getD at_ 0).toNat≤bs.length∧getN bs at_=(num ((bs.drop (at_+1)).take (bs.getD at_ 0).toNat),at_+1+(bs.getD at_ 0).toNat,0))∧St w [] [] w') (fun _=>?_) (fun K1 hK1=>?_)
 ·refine JC.pr (fun hP=>?_)
  obtain ⟨hat,hk8,hend,hg⟩:=hP
  obtain ⟨kk,hkk⟩:∃k,(bs.getD at_ 0).toNat=k:=⟨_,rfl⟩
  rw [hkk] at hk8 hend hg
  have hr1:=row_subB hr rfl (i:=at_+1) (j:=bs.length) (by omega) (Nat.le_refl _)
  obtain ⟨q1,hq1⟩:∃q,(if c=at_+1 then a else a.map (·.add ((at_+1)*1)))=q:=⟨_,rfl⟩
  rw [hq1] at hr1
  have hd1:((bs.drop (at_+1)).take (bs.length - (at_+1))).length=bs.length - (at_+1):=by simp
  have hr2:=row_subB hr1 hd1 (i:=0) (j:=kk) (by omega) (by omega)
  rw [List.drop_zero,List.take_take,Nat.min_eq_left (by omega),Nat.sub_zero,Nat.sub_zero] at hr2
  obtain ⟨q2,hq2⟩:∃q,(if c - (at_+1)=0 then q1 else q1.map (·.add (0*1)))=q:=⟨_,rfl⟩
  rw [hq2] at hr2
  obtain ⟨xs,hxs⟩:∃l,(bs.drop (at_+1)).take kk=l:=⟨_,rfl⟩
  rw [hxs] at hr2 hg
  have hxl:xs.length=kk:=by rw [← hxs,List.length_take,List.length_drop];omega
  obtain ⟨b,o,rfl,hcl⟩:∃b o,a=some ⟨b,o,none⟩∧Cells w b o (bs.map u8):=by
   rcases hra with h | h
   ·have h2:=congrArg List.length h;rw [List.length_map,List.length_nil] at h2;omega
   ·exact h
  have hcell:w.cell? ⟨b,o+((at_:Nat):Int).toNat*1,none⟩=some (u8 (bs[at_]'hat)):=by
   rw [Int.toNat_natCast,Nat.mul_one];exact hcl.at_u8 hat rfl
  obtain ⟨x0,hx0⟩:∃x,bs[at_]'hat=x:=⟨_,rfl⟩
  rw [hx0] at hcell
  have hxk:x0.toNat=kk:=by rw [← hkk,List.getD_eq_getElem?_getD,List.getElem?_eq_getElem hat,hx0];rfl
  refine JC.seq (fun K2 hK2=>?_);refine JC.region<|J.assign rfl rfl<|J.nil ?_;refine JX.qd (hK2 _ _ ?_);refine JC.seq (fun K3 hK3=>?_);refine JC.seq (fun K4 hK4=>?_)
  apply JC.zd (α:=Nat × Unit) 11 (fun x=>match x with | ⟨xu,uu⟩=>[.slice (some ⟨b,o,none⟩) bs.length c,.int .i64 ((at_:Nat):Int),.int .i64 ((at_+1:Nat):Int),.slice q1 (bs.length - (at_+1)) (c - (at_+1)),.slice (some ⟨b,o,none⟩) bs.length c,.int .i64 ((at_:Nat):Int),.pointer (some ⟨b,o+((at_:Nat):Int).toNat*1,none⟩),u8 x0,.slice q2 kk (c - (at_+1)),.int .i64 ((kk:Nat):Int),.int .i64 0]) (fun m x=>match x with | ⟨xu,uu⟩=>fun w1=>(True)∧St w [] ([]) w1) Ty.mixed rfl rfl rfl (by kernel_rfl) rfl rfl ?hinit ?hstep ?htail
  case hinit=>exact fun w1 hw=>⟨(0,()),trivial,hw.drew⟩
  case hstep=>
   refine ⟨fun m x hm hp=>?_,fun m x hm hp=>?_,fun m x hm hp=>?_,fun m x hm hp=>?_,fun m x hm hp=>?_,fun m x hm hp=>?_,fun m x hm hp=>?_,fun m x hm hp=>?_,fun m x hm hp=>?_,fun m x hm hp=>?_,fun m x hm hp=>?_,trivial⟩
   ·obtain ⟨xu,uu⟩:=x
    show J _ _ _ _ _ (_) _
    refine J.pr (fun hF=>?_);refine J.qe rfl rfl ?_
    exact J.ql rfl (fun _ hw=>⟨⟨xu,uu⟩,rfl,fun _ _ _=>rfl,hF,hw⟩)
   ·obtain ⟨xu,uu⟩:=x
    show J _ _ _ _ _ (_) _
    refine J.pr (fun hF=>?_);refine J.qe rfl rfl ?_
    exact J.ql rfl (fun _ hw=>⟨⟨xu,uu⟩,rfl,fun _ _ _=>rfl,hF,hw⟩)
   ·obtain ⟨xu,uu⟩:=x
    show J _ _ _ _ _ ((57,.int .i64 ((at_:Nat):Int))::_) _
    refine J.pr (fun hF=>?_);refine J.qG rfl rfl (by omega) (by omega) rfl ?_;refine J.name 58 rfl (show _=Value.int .i64 ((at_+1:Nat):Int) from congrArg (Value.int .i64) (by omega)) ?_
    exact J.ql rfl (fun _ hw=>⟨⟨xu,uu⟩,rfl,fun _ _ _=>rfl,hF,hw⟩)
   ·obtain ⟨xu,uu⟩:=x
    show J _ _ _ _ _ ((58,.int .i64 ((at_+1:Nat):Int))::(56,.slice (some ⟨b,o,none⟩) bs.length c)::_) _
    refine J.pr (fun hF=>?_);refine J.zx (i:=at_+1) (j:=bs.length) Ty.el26 Ty.s5 rfl rfl rfl (by simp [bnd];omega) rfl (by omega) (by omega) (by omega) rfl ?_;refine J.name 59 rfl (show _=Value.slice q1 (bs.length - (at_+1)) (c - (at_+1)) by rw [hq1]) ?_
    exact J.ql rfl (fun _ hw=>⟨⟨xu,uu⟩,rfl,fun _ _ _=>rfl,hF,hw⟩)
   ·obtain ⟨xu,uu⟩:=x
    show J _ _ _ _ _ (_) _
    refine J.pr (fun hF=>?_);refine J.qe rfl rfl ?_
    exact J.ql rfl (fun _ hw=>⟨⟨xu,uu⟩,rfl,fun _ _ _=>rfl,hF,hw⟩)
   ·obtain ⟨xu,uu⟩:=x
    show J _ _ _ _ _ (_) _
    refine J.pr (fun hF=>?_);refine J.qe rfl rfl ?_
    exact J.ql rfl (fun _ hw=>⟨⟨xu,uu⟩,rfl,fun _ _ _=>rfl,hF,hw⟩)
   ·obtain ⟨xu,uu⟩:=x
    show J _ _ _ _ _ ((61,.int .i64 ((at_:Nat):Int))::(60,.slice (some ⟨b,o,none⟩) bs.length c)::_) _
    refine J.pr (fun hF=>?_);refine J.qu Ty.el26 Ty.s5 rfl rfl (by omega) (by omega) rfl ?_
    exact J.ql rfl (fun _ hw=>⟨⟨xu,uu⟩,rfl,fun _ _ _=>rfl,hF,hw⟩)
   ·obtain ⟨xu,uu⟩:=x
    show J _ _ _ _ _ ((62,.pointer (some ⟨b,o+((at_:Nat):Int).toNat*1,none⟩))::_) _
    refine J.pr (fun hF=>?_);refine J.zw (v:=u8 x0) Ty.a5 rfl hcell (by simp) rfl ?_
    exact J.ql rfl (fun _ hw=>⟨⟨xu,uu⟩,rfl,fun _ _ _=>rfl,hF,hw⟩)
   ·obtain ⟨xu,uu⟩:=x
    show J _ _ _ _ _ ((63,u8 x0)::(59,.slice q1 (bs.length - (at_+1)) (c - (at_+1)))::_) _
    refine J.pr (fun hF=>?_);refine J.zx (i:=0) (j:=kk) Ty.el26 Ty.s5 rfl rfl rfl rfl (by simp [bnd];exact hxk) (by omega) (by omega) (by omega) rfl ?_;refine J.name 64 rfl (show _=Value.slice q2 kk (c - (at_+1)) by rw [hq2];rfl) ?_
    exact J.ql rfl (fun _ hw=>⟨⟨xu,uu⟩,rfl,fun _ _ _=>rfl,hF,hw⟩)
   ·obtain ⟨xu,uu⟩:=x
    show J _ _ _ _ _ ((64,.slice q2 kk (c - (at_+1)))::_) _
    refine J.pr (fun hF=>?_);refine J.qK rfl Ty.u26 rfl rfl ?_
    exact J.ql rfl (fun _ hw=>⟨⟨xu,uu⟩,rfl,fun _ _ _=>rfl,hF,hw⟩)
   ·obtain ⟨xu,uu⟩:=x
    show J _ _ _ _ _ (_) _
    refine J.pr (fun hF=>?_);refine J.qe rfl rfl ?_
    exact J.ql rfl (fun _ hw=>⟨⟨xu,uu⟩,rfl,fun _ _ _=>rfl,hF,hw⟩)
  case htail=>
   intro x
   obtain ⟨xu,uu⟩:=x
   show J _ _ _ _ _ ((66,.int .i64 0)::(65,.int .i64 ((kk:Nat):Int))::(64,.slice q2 kk (c - (at_+1)))::(63,u8 x0)::(62,.pointer (some ⟨b,o+((at_:Nat):Int).toNat*1,none⟩))::(61,.int .i64 ((at_:Nat):Int))::(60,.slice (some ⟨b,o,none⟩) bs.length c)::(59,.slice q1 (bs.length - (at_+1)) (c - (at_+1)))::(58,.int .i64 ((at_+1:Nat):Int))::(57,.int .i64 ((at_:Nat):Int))::(56,.slice (some ⟨b,o,none⟩) bs.length c)::_) (fun w1=>(True)∧St w [] ([]) w1)
   refine J.pr (fun hF=>?_);refine J.nil ?_;refine JX.qd (hK4 _ _ ?_);refine JC.block ?_
   refine JC.conseq (JC.cov (f:=(fun i=>[(0,.slice (some ⟨b,o,none⟩) bs.length c),(1,.int .i64 ((at_:Nat):Int)),(64,.slice q2 kk (c - (at_+1))),(65,.int .i64 ((kk:Nat):Int)),(66,.int .i64 ((i:Nat):Int)),(7,.int .u64 ((num (xs.take i):Nat):Int))]) 0) ⟨rfl,rfl,rfl,rfl,rfl,rfl,trivial⟩ (JC.loop (α:=Nat) (fun i=>[(0,.slice (some ⟨b,o,none⟩) bs.length c),(1,.int .i64 ((at_:Nat):Int)),(64,.slice q2 kk (c - (at_+1))),(65,.int .i64 ((kk:Nat):Int)),(66,.int .i64 ((i:Nat):Int)),(7,.int .u64 ((num (xs.take i):Nat):Int))]) (fun i w'=>(i≤kk)∧St w [] [] w') (fun i=>kk - i) 0 (fun i=>?_))) (fun w hw=>⟨Nat.zero_le _,hw⟩)
   refine JC.pr (fun hi=>?_);refine JC.seq (fun K5 hK5=>?_);refine JC.region<|J.qj rfl rfl rfl rfl<|J.nil ?_;refine JX.qd (hK5 _ _ ?_);refine JC.seq (fun K6 hK6=>?_);refine JC.qn rfl (fun h5=>?_) (fun h5=>?_)
   ·have hil:i<kk:=by simp at h5;omega
    obtain ⟨b2,o2,c2,hv2,hcc2,hcl2⟩:=hr2.some (by rw [List.length_map];omega)
    simp only [Value.slice.injEq] at hv2
    obtain ⟨rfl,-,rfl⟩:=hv2
    refine JC.skip ?_;refine JX.qd (hK6 _ _ ?_);refine JC.seq (fun K7 hK7=>?_);refine JC.block ?_;refine JC.seq (fun K8 hK8=>?_);refine JC.region<|J.qu Ty.el26 Ty.s5 rfl rfl (by omega) (by omega) rfl ?_;refine J.zw (v:=u8 (xs[i]'(by omega))) Ty.a5 rfl (hcl2.at_u8 (by omega) (by simp)) (by simp) rfl ?_;refine J.assign rfl rfl<|J.nil ?_;refine JX.qd (hK8 _ _ ?_);refine JC.region<|J.qe rfl rfl<|J.qj rfl rfl rfl rfl<|J.qe rfl rfl<|J.qF Ty.u5 Ty.u81 rfl rfl<|J.qj rfl rfl rfl rfl<|J.name 74 rfl (or_u64 _ _ (UInt8.toNat_lt _) (num_step (bs:=xs) (i:=i) (by omega) (by omega))) ?_;refine J.name 74 rfl (show _=Value.int .u64 ((num (xs.take (i+1)):Nat):Int) by rw [yN (by omega)]) ?_;refine J.assign rfl rfl<|J.nil<|JX.qJ ?_;refine JX.qd (hK7 _ _ ?_);refine JC.region ?_
    (first | refine J.qG rfl rfl (by omega) (by omega) rfl ?_ | refine J.qj rfl rfl rfl rfl ?_)
    refine J.qe rfl rfl<|J.nil<|JX.qd<|JX.qS (i+1) ?_ ?_ ?_
    ·omega
    ·exact ⟨rfl,rfl,rfl,rfl,rfl,rfl,trivial⟩
    ·exact fun w1 hw=>⟨hil,hw⟩
   ·have hie:i=kk:=by simp at h5;omega
    have hti:xs.take i=xs:=List.take_of_length_le (by omega)
    refine JC.qX<|JX.qE<|JX.qE<|JX.qT ?_;refine JX.qd (hK3 _ _ ?_);refine JC.seq (fun K9 hK9=>?_)
    apply JC.zd (α:=Nat × Unit) 10 (fun x=>match x with | ⟨xu,uu⟩=>[.int .u64 ((num (xs.take i):Nat):Int),.int .i64 ((at_:Nat):Int),.int .i64 ((at_+1:Nat):Int),.slice (some ⟨b,o,none⟩) bs.length c,.int .i64 ((at_:Nat):Int),.pointer (some ⟨b,o+((at_:Nat):Int).toNat*1,none⟩),u8 x0,.int .i64 ((kk:Nat):Int),.int .i64 ((at_+1+kk:Nat):Int),.int .u64 ((num (xs.take i):Nat):Int)]) (fun m x=>match x with | ⟨xu,uu⟩=>fun w1=>(True)∧St w [] ([]) w1) Ty.mixed rfl rfl rfl (by kernel_rfl) rfl rfl ?hinit ?hstep ?htail
    case hinit=>exact fun w1 hw=>⟨(0,()),trivial,hw.drew⟩
    case hstep=>
     refine ⟨fun m x hm hp=>?_,fun m x hm hp=>?_,fun m x hm hp=>?_,fun m x hm hp=>?_,fun m x hm hp=>?_,fun m x hm hp=>?_,fun m x hm hp=>?_,fun m x hm hp=>?_,fun m x hm hp=>?_,fun m x hm hp=>?_,trivial⟩
     ·obtain ⟨xu,uu⟩:=x
      show J _ _ _ _ _ (_) _
      refine J.pr (fun hF=>?_);refine J.qe rfl rfl ?_
      exact J.ql rfl (fun _ hw=>⟨⟨xu,uu⟩,rfl,fun _ _ _=>rfl,hF,hw⟩)
     ·obtain ⟨xu,uu⟩:=x
      show J _ _ _ _ _ (_) _
      refine J.pr (fun hF=>?_);refine J.qe rfl rfl ?_
      exact J.ql rfl (fun _ hw=>⟨⟨xu,uu⟩,rfl,fun _ _ _=>rfl,hF,hw⟩)
     ·obtain ⟨xu,uu⟩:=x
      show J _ _ _ _ _ ((77,.int .i64 ((at_:Nat):Int))::_) _
      refine J.pr (fun hF=>?_);refine J.qG rfl rfl (by omega) (by omega) rfl ?_;refine J.name 78 rfl (show _=Value.int .i64 ((at_+1:Nat):Int) from congrArg (Value.int .i64) (by omega)) ?_
      exact J.ql rfl (fun _ hw=>⟨⟨xu,uu⟩,rfl,fun _ _ _=>rfl,hF,hw⟩)
     ·obtain ⟨xu,uu⟩:=x
      show J _ _ _ _ _ (_) _
      refine J.pr (fun hF=>?_);refine J.qe rfl rfl ?_
      exact J.ql rfl (fun _ hw=>⟨⟨xu,uu⟩,rfl,fun _ _ _=>rfl,hF,hw⟩)
     ·obtain ⟨xu,uu⟩:=x
      show J _ _ _ _ _ (_) _
      refine J.pr (fun hF=>?_);refine J.qe rfl rfl ?_
      exact J.ql rfl (fun _ hw=>⟨⟨xu,uu⟩,rfl,fun _ _ _=>rfl,hF,hw⟩)
     ·obtain ⟨xu,uu⟩:=x
      show J _ _ _ _ _ ((80,.int .i64 ((at_:Nat):Int))::(79,.slice (some ⟨b,o,none⟩) bs.length c)::_) _
      refine J.pr (fun hF=>?_);refine J.qu Ty.el26 Ty.s5 rfl rfl (by omega) (by omega) rfl ?_
      exact J.ql rfl (fun _ hw=>⟨⟨xu,uu⟩,rfl,fun _ _ _=>rfl,hF,hw⟩)
     ·obtain ⟨xu,uu⟩:=x
      show J _ _ _ _ _ ((81,.pointer (some ⟨b,o+((at_:Nat):Int).toNat*1,none⟩))::_) _
      refine J.pr (fun hF=>?_);refine J.zw (v:=u8 x0) Ty.a5 rfl hcell (by simp) rfl ?_
      exact J.ql rfl (fun _ hw=>⟨⟨xu,uu⟩,rfl,fun _ _ _=>rfl,hF,hw⟩)
     ·obtain ⟨xu,uu⟩:=x
      show J _ _ _ _ _ ((82,u8 x0)::_) _
      refine J.pr (fun hF=>?_);refine J.qF Ty.u5 Ty.u3 rfl rfl<|J.name 83 rfl (congrArg (Value.int .i64) (show _=((kk:Nat):Int) by rw [← hxk];exact qV (by omega) (by omega))) ?_
      exact J.ql rfl (fun _ hw=>⟨⟨xu,uu⟩,rfl,fun _ _ _=>rfl,hF,hw⟩)
     ·obtain ⟨xu,uu⟩:=x
      show J _ _ _ _ _ ((83,.int .i64 ((kk:Nat):Int))::(78,.int .i64 ((at_+1:Nat):Int))::_) _
      refine J.pr (fun hF=>?_);refine J.qG rfl rfl (by omega) (by omega) rfl ?_;refine J.name 84 rfl (show _=Value.int .i64 ((at_+1+kk:Nat):Int) from congrArg (Value.int .i64) (by omega)) ?_
      exact J.ql rfl (fun _ hw=>⟨⟨xu,uu⟩,rfl,fun _ _ _=>rfl,hF,hw⟩)
     ·obtain ⟨xu,uu⟩:=x
      show J _ _ _ _ _ ((76,.int .u64 ((num (xs.take i):Nat):Int))::(76,.int .u64 ((num (xs.take i):Nat):Int))::_) _
      refine J.pr (fun hF=>?_);refine J.assign rfl rfl ?_
      exact J.ql rfl (fun _ hw=>⟨⟨xu,uu⟩,rfl,fun _ _ _=>rfl,hF,hw⟩)
    case htail=>
     intro x
     obtain ⟨xu,uu⟩:=x
     show J _ _ _ _ _ ((4,.int .u64 ((num (xs.take i):Nat):Int))::(84,.int .i64 ((at_+1+kk:Nat):Int))::(83,.int .i64 ((kk:Nat):Int))::(82,u8 x0)::(81,.pointer (some ⟨b,o+((at_:Nat):Int).toNat*1,none⟩))::(80,.int .i64 ((at_:Nat):Int))::(79,.slice (some ⟨b,o,none⟩) bs.length c)::(78,.int .i64 ((at_+1:Nat):Int))::(77,.int .i64 ((at_:Nat):Int))::(76,.int .u64 ((num (xs.take i):Nat):Int))::_) (fun w1=>(True)∧St w [] ([]) w1)
     refine J.pr (fun hF=>?_);refine J.assign rfl rfl<|J.assign rfl rfl<|J.nil ?_;refine JX.qd (hK9 _ _ ?_);refine JC.qA ?_;refine JX.q5 rfl rfl rfl rfl (fun w1 hw=>?_)
     first
     | exact ⟨by rw [hg,hti] <;> rfl,hw.below⟩
     | exact ⟨by rw [hg] <;> rfl,hw.below⟩
 ·refine JC.block ?_;refine JC.seq (fun K10 hK10=>?_);refine JC.region<|J.qe rfl rfl<|J.qj rfl rfl rfl rfl<|J.name 12 rfl (show _=Value.bool false by simp) ?_;refine J.qe rfl rfl ?_
  first | refine J.skip rfl rfl rfl rfl rfl ?_ | refine J.qh rfl rfl rfl rfl ?_ | (refine J.qf rfl rfl rfl ?_;refine J.qe rfl rfl ?_)
  first | refine J.skip rfl rfl rfl rfl rfl ?_ | refine J.qh rfl rfl rfl rfl ?_ | (refine J.qf rfl rfl rfl ?_;refine J.qe rfl rfl ?_)
  first | refine J.skip rfl rfl rfl rfl rfl ?_ | refine J.qh rfl rfl rfl rfl ?_ | (refine J.qf rfl rfl rfl ?_;refine J.qK rfl Ty.u26 rfl rfl ?_)
  first | refine J.skip rfl rfl rfl rfl rfl ?_ | refine J.qh rfl rfl rfl rfl ?_ | (refine J.qf rfl rfl rfl ?_;refine J.qj rfl rfl rfl rfl ?_)
  (first | refine J.qr rfl rfl rfl ?_ | refine J.qs rfl rfl rfl ?_)
  refine J.assign rfl rfl<|J.nil ?_;refine JX.qd (hK10 _ _ ?_);refine JC.qn rfl (fun h0=>?_) (fun h0=>?_)
  ·have hg:getN bs at_=(0,0,1):=by unfold getN;rw [if_pos (by simp at h0;omega)]
   refine JC.seq (fun K11 hK11=>?_);refine JC.region<|J.assign rfl rfl<|J.assign rfl rfl<|J.assign rfl rfl<|J.nil ?_;refine JX.qd (hK11 _ _ ?_);refine JC.qA<|JX.qH<|JX.qt ?_;refine JX.q5 rfl rfl rfl rfl (fun w1 hw=>?_)
   first
   | exact ⟨by rw [hg,hti] <;> rfl,hw.below⟩
   | exact ⟨by rw [hg] <;> rfl,hw.below⟩
  ·have hal2:at_≤bs.length:=by simp at h0;omega
   refine JC.seq (fun K12 hK12=>?_);refine JC.region<|J.qe rfl rfl<|J.qe rfl rfl<|J.qK rfl Ty.u26 rfl rfl<|J.qj rfl rfl rfl rfl<|J.assign rfl rfl<|J.nil ?_;refine JX.qd (hK12 _ _ ?_);refine JC.qn rfl (fun h1=>?_) (fun h1=>?_)
   ·have hg:getN bs at_=(0,0,3):=by unfold getN;rw [if_neg (by omega),if_pos (by simp at h1;omega)]
    refine JC.seq (fun K13 hK13=>?_);refine JC.region<|J.assign rfl rfl<|J.assign rfl rfl<|J.assign rfl rfl<|J.nil ?_;refine JX.qd (hK13 _ _ ?_);refine JC.qA<|JX.qH<|JX.qt ?_;refine JX.q5 rfl rfl rfl rfl (fun w1 hw=>?_)
    first
    | exact ⟨by rw [hg,hti] <;> rfl,hw.below⟩
    | exact ⟨by rw [hg] <;> rfl,hw.below⟩
   ·have hat:at_<bs.length:=by simp at h1;omega
    obtain ⟨b,o,rfl,hcl⟩:∃b o,a=some ⟨b,o,none⟩∧Cells w b o (bs.map u8):=by
     rcases hra with h | h
     ·have h2:=congrArg List.length h;rw [List.length_map,List.length_nil] at h2;omega
     ·exact h
    obtain ⟨x0,hx0⟩:∃x,bs[at_]'hat=x:=⟨_,rfl⟩
    have hcell:w.cell? ⟨b,o+((at_:Nat):Int).toNat*1,none⟩=some (u8 x0):=by
     rw [Int.toNat_natCast,Nat.mul_one,← hx0];exact hcl.at_u8 hat rfl
    have hkk:(bs.getD at_ 0).toNat=x0.toNat:=by rw [List.getD_eq_getElem?_getD,List.getElem?_eq_getElem hat,hx0];rfl
    have hx8:=UInt8.toNat_lt x0
    refine JC.seq (fun K14 hK14=>?_);refine JC.region<|J.qe rfl rfl<|J.qe rfl rfl<|J.qu Ty.el26 Ty.s5 rfl rfl (by omega) (by omega) rfl ?_;refine J.zw (v:=u8 x0) Ty.a5 rfl hcell (by simp) rfl ?_;refine J.qj rfl rfl rfl rfl<|J.assign rfl rfl<|J.nil ?_;refine JX.qd (hK14 _ _ ?_);refine JC.qn rfl (fun h2=>?_) (fun h2=>?_)
    ·have hg:getN bs at_=(0,0,2):=by unfold getN;rw [if_neg (by omega),if_neg (by omega),if_pos (by rw [hkk];simp at h2;omega)]
     refine JC.seq (fun K15 hK15=>?_);refine JC.region<|J.assign rfl rfl<|J.assign rfl rfl<|J.assign rfl rfl<|J.nil ?_;refine JX.qd (hK15 _ _ ?_);refine JC.qA<|JX.qH<|JX.qt ?_;refine JX.q5 rfl rfl rfl rfl (fun w1 hw=>?_)
     first
     | exact ⟨by rw [hg,hti] <;> rfl,hw.below⟩
     | exact ⟨by rw [hg] <;> rfl,hw.below⟩
    ·have h8:x0.toNat≤8:=by simp at h2;omega
     refine JC.seq (fun K16 hK16=>?_);refine JC.region<|J.qe rfl rfl<|J.qe rfl rfl<|J.qu Ty.el26 Ty.s5 rfl rfl (by omega) (by omega) rfl ?_;refine J.zw (v:=u8 x0) Ty.a5 rfl hcell (by simp) rfl ?_;refine J.qF Ty.u5 Ty.u3 rfl rfl<|J.name 35 rfl (congrArg (Value.int .i64) (show _=((x0.toNat:Nat):Int) from qV (by omega) (by omega))) ?_;refine J.qe rfl rfl<|J.qK rfl Ty.u26 rfl rfl<|J.qe rfl rfl<|J.zn rfl rfl (by omega) (by omega) rfl ?_;refine J.zn rfl rfl (by omega) (by omega) rfl ?_;refine J.qj rfl rfl rfl rfl<|J.assign rfl rfl<|J.nil ?_;refine JX.qd (hK16 _ _ ?_);refine JC.qn rfl (fun h3=>?_) (fun h3=>?_)
     ·have hg:getN bs at_=(0,0,3):=by unfold getN;rw [if_neg (by omega),if_neg (by omega),if_neg (by omega),if_pos (by rw [hkk];simp at h3;omega)]
      refine JC.seq (fun K17 hK17=>?_);refine JC.region<|J.assign rfl rfl<|J.assign rfl rfl<|J.assign rfl rfl<|J.nil ?_;refine JX.qd (hK17 _ _ ?_);refine JC.qA<|JX.qH<|JX.qt ?_;refine JX.q5 rfl rfl rfl rfl (fun w1 hw=>?_)
      first
      | exact ⟨by rw [hg,hti] <;> rfl,hw.below⟩
      | exact ⟨by rw [hg] <;> rfl,hw.below⟩
     ·have hsh:x0.toNat≤bs.length - at_ - 1:=by simp at h3;omega
      refine JC.seq (fun K18 hK18=>?_)
      by_cases hz:x0.toNat=0
      ·have hg:=getN_ok hat h8 hsh (.inl hz) hkk
       refine JC.region<|J.qe rfl rfl<|J.qe rfl rfl<|J.qu Ty.el26 Ty.s5 rfl rfl (by omega) (by omega) rfl ?_;refine J.zw (v:=u8 x0) Ty.a5 rfl hcell (by simp) rfl ?_;refine J.qj rfl rfl rfl rfl<|J.name 47 rfl (show _=Value.bool false by simp [hz]) ?_;refine J.qe rfl rfl ?_
       first | refine J.skip rfl rfl rfl rfl rfl ?_ | refine J.qh rfl rfl rfl rfl ?_ | (refine J.qf rfl rfl rfl ?_;refine J.qe rfl rfl ?_)
       first | refine J.skip rfl rfl rfl rfl rfl ?_ | refine J.qh rfl rfl rfl rfl ?_ | (refine J.qf rfl rfl rfl ?_;refine J.qe rfl rfl ?_)
       first | refine J.skip rfl rfl rfl rfl rfl ?_ | refine J.qh rfl rfl rfl rfl ?_ | (refine J.qf rfl rfl rfl ?_;(first | refine J.qG rfl rfl (by omega) (by omega) rfl ?_ | refine J.qj rfl rfl rfl rfl ?_))
       first | refine J.skip rfl rfl rfl rfl rfl ?_ | refine J.qh rfl rfl rfl rfl ?_ | (refine J.qf rfl rfl rfl ?_;refine J.qu Ty.el26 Ty.s5 rfl rfl (by omega) (by omega) rfl ?_)
       first | refine J.skip rfl rfl rfl rfl rfl ?_ | refine J.qh rfl rfl rfl rfl ?_ | (refine J.qf rfl rfl rfl ?_;refine J.qQ Ty.a5 rfl zm (by exact rfl) rfl ?_)
       first | refine J.skip rfl rfl rfl rfl rfl ?_ | refine J.qh rfl rfl rfl rfl ?_ | (refine J.qf rfl rfl rfl ?_;refine J.qj rfl rfl rfl rfl ?_)
       (first | refine J.qr rfl rfl rfl ?_ | refine J.qs rfl rfl rfl ?_)
       refine J.assign rfl rfl<|J.nil ?_;refine JX.qd (hK18 _ _ ?_)
       first | refine JC.qI rfl ?_ | refine JC.qn rfl (fun h=>by first | (exfalso;simp at h;omega) | (simp at h)) (fun _=>?_)
       refine JC.skip<|JX.qJ<|JX.qd ?_
       exact JX.cut (hK1 ()) ⟨rfl,rfl,trivial⟩ (fun w1 hw=>⟨⟨hat,by omega,by omega,hg⟩,hw⟩)
      ·have h1l:at_+1<bs.length:=by omega
       obtain ⟨x1,hx1⟩:∃x,bs[at_+1]'h1l=x:=⟨_,rfl⟩
       have hcell1:w.cell? ⟨b,o+((at_+1:Nat):Int).toNat*1,none⟩=some (u8 x1):=by
        rw [Int.toNat_natCast,Nat.mul_one,← hx1];exact hcl.at_u8 h1l rfl
       have hk1:(bs.getD (at_+1) 0).toNat=x1.toNat:=by rw [List.getD_eq_getElem?_getD,List.getElem?_eq_getElem h1l,hx1];rfl
       refine JC.region<|J.qe rfl rfl<|J.qe rfl rfl<|J.qu Ty.el26 Ty.s5 rfl rfl (by omega) (by omega) rfl ?_;refine J.zw (v:=u8 x0) Ty.a5 rfl hcell (by simp) rfl ?_;refine J.qj rfl rfl rfl rfl<|J.name 47 rfl (show _=Value.bool true by simp;omega) ?_;refine J.qe rfl rfl ?_
       first | refine J.skip rfl rfl rfl rfl rfl ?_ | refine J.qh rfl rfl rfl rfl ?_ | (refine J.qf rfl rfl rfl ?_;refine J.qe rfl rfl ?_)
       first | refine J.skip rfl rfl rfl rfl rfl ?_ | refine J.qh rfl rfl rfl rfl ?_ | (refine J.qf rfl rfl rfl ?_;refine J.qe rfl rfl ?_)
       refine J.qf rfl rfl rfl<|J.qG rfl rfl (by omega) (by omega) rfl ?_;refine J.name 51 rfl (show _=Value.int .i64 ((at_+1:Nat):Int) from congrArg (Value.int .i64) (by omega)) ?_;refine J.qf rfl rfl rfl<|J.qu Ty.el26 Ty.s5 rfl rfl (by omega) (by omega) rfl ?_;refine J.qf rfl rfl rfl<|J.zw (v:=u8 x1) Ty.a5 rfl hcell1 (by simp) rfl ?_;refine J.qf rfl rfl rfl<|J.qj rfl rfl rfl rfl<|J.name 54 rfl (show _=Value.bool (decide (x1.toNat=0)) from congrArg Value.bool (by rw [Bool.eq_iff_iff];simp <;> omega)) ?_
       (first | refine J.qr rfl rfl rfl ?_ | refine J.qs rfl rfl rfl ?_)
       refine J.assign rfl rfl<|J.nil ?_;refine JX.qd (hK18 _ _ ?_);refine JC.qn rfl (fun h4=>?_) (fun h4=>?_)
       ·have hg:=getN_bad hat h8 hsh (by omega) (hk1.trans (by simpa using h4)) hkk
        refine JC.seq (fun K19 hK19=>?_);refine JC.region<|J.assign rfl rfl<|J.assign rfl rfl<|J.assign rfl rfl<|J.nil ?_;refine JX.qd (hK19 _ _ ?_);refine JC.qA<|JX.qH<|JX.qt ?_;refine JX.q5 rfl rfl rfl rfl (fun w1 hw=>?_)
        first
        | exact ⟨by rw [hg,hti] <;> rfl,hw.below⟩
        | exact ⟨by rw [hg] <;> rfl,hw.below⟩
       ·have hg:=getN_ok hat h8 hsh (.inr (fun e=>by have e2:=hk1.symm.trans e;simp [e2] at h4)) hkk
        refine JC.skip<|JX.qJ<|JX.qd ?_
        exact JX.cut (hK1 ()) ⟨rfl,rfl,trivial⟩ (fun w1 hw=>⟨⟨hat,by omega,by omega,hg⟩,hw⟩)
theorem getID_spec (v:Value) (bs:List UInt8) (at_:Nat) (w:World) (hr:Row w v bs.length (bs.map u8)) (hl:bs.length≤100000) (hal:at_≤1000000) :
  Calls Try.prog 65 [v,.int .i64 ((at_:Nat):Int)].toArray w fun r w'=>r=.returned (.tuple #[.agg (cI (getI bs at_).1).toArray,.int .i64 (((getI bs at_).2.1:Nat):Int),.int .i64 (getI bs at_).2.2])∧Bel w w':=by
 obtain ⟨a,c,rfl,hc,hra⟩:=id hr
 refine qD (args:=[.slice a bs.length c,.int .i64 ((at_:Nat):Int)]) (e:=[(0,.slice a bs.length c),(1,.int .i64 ((at_:Nat):Int))]) Try.func65 rfl rfl ⟨rfl,rfl,trivial⟩ (St.start w) ?_;refine JC.seq (fun K0 hK0=>?_);refine JC.region ?_;refine J.alloc Ty.zID rfl rfl (fun b4=>?_);refine J.assign rfl rfl<|J.assign rfl rfl<|J.nil ?_;refine JX.qd (hK0 _ _ ?_);refine JC.seq (fun K1 hK1=>?_);refine JC.region ?_;refine J.alloc Ty.zID rfl rfl (fun b7=>?_);refine J.nil ?_;refine JX.qd (hK1 _ _ ?_);refine JC.seq (fun K2 hK2=>?_);refine JC.block ?_;refine JC.seq (fun K3 hK3=>?_);refine JC.region<|J.qe rfl rfl<|J.qj rfl rfl rfl rfl<|J.name 10 rfl (show _=Value.bool false by simp) ?_;refine J.qe rfl rfl ?_
 first | refine J.skip rfl rfl rfl rfl rfl ?_ | refine J.qh rfl rfl rfl rfl ?_ | (refine J.qf rfl rfl rfl ?_;refine J.qe rfl rfl ?_)
 first | refine J.skip rfl rfl rfl rfl rfl ?_ | refine J.qh rfl rfl rfl rfl ?_ | (refine J.qf rfl rfl rfl ?_;refine J.qe rfl rfl ?_)
 first | refine J.skip rfl rfl rfl rfl rfl ?_ | refine J.qh rfl rfl rfl rfl ?_ | (refine J.qf rfl rfl rfl ?_;refine J.qK rfl Ty.u26 rfl rfl ?_)
 first | refine J.skip rfl rfl rfl rfl rfl ?_ | refine J.qh rfl rfl rfl rfl ?_ | (refine J.qf rfl rfl rfl ?_;refine J.qj rfl rfl rfl rfl ?_)
 (first | refine J.qr rfl rfl rfl ?_ | refine J.qs rfl rfl rfl ?_)
 refine J.assign rfl rfl<|J.nil ?_;refine JX.qd (hK3 _ _ ?_);refine JC.qn rfl (fun h0=>?_) (fun h0=>?_)
 ·have hg:getI bs at_=(zI,0,1):=by unfold getI;rw [if_pos (by simp at h0;omega)]
  refine JC.seq (fun K4 hK4=>?_);refine JC.region<|J.qC (vs:=cI zI) Ty.a23 Ty.s23 rfl rfl (fun w1 hw=>Cells.of_block (hw.own (b7,cb (cI zI) 23) zm) rfl) rfl ?_;refine J.qN (cs:=cI zI) (vs:=cI zI) Ty.s23 rfl rfl rfl rfl rfl (zN _) (.there .here)<|J.assign rfl rfl<|J.assign rfl rfl<|J.nil ?_;refine JX.qd (hK4 _ _ ?_);refine JC.qA<|JX.qH<|JX.qt ?_;refine JX.zl (vs:=cI zI) rfl rfl rfl rfl Ty.a23 Ty.s23 rfl (fun w1 hw=>Cells.of_block (hw.own (b4,cb (cI zI) 23) zm) rfl) (fun w1 hw=>?_)
  exact ⟨by rw [hg] <;> rfl,(hw.drop (List.nil_sublist _)).below⟩
 ·have hal2:at_≤bs.length:=by simp at h0;omega
  refine JC.seq (fun K5 hK5=>?_);refine JC.region<|J.qe rfl rfl<|J.qK rfl Ty.u26 rfl rfl<|J.qe rfl rfl<|J.zn rfl rfl (by omega) (by omega) rfl ?_;refine J.qj rfl rfl rfl rfl<|J.assign rfl rfl<|J.nil ?_;refine JX.qd (hK5 _ _ ?_);refine JC.qn rfl (fun h1=>?_) (fun h1=>?_)
  ·have hg:getI bs at_=(zI,0,3):=by unfold getI;rw [if_neg (by omega),if_pos (by simp at h1;omega)]
   refine JC.seq (fun K6 hK6=>?_);refine JC.region<|J.qC (vs:=cI zI) Ty.a23 Ty.s23 rfl rfl (fun w1 hw=>Cells.of_block (hw.own (b7,cb (cI zI) 23) zm) rfl) rfl ?_;refine J.qN (cs:=cI zI) (vs:=cI zI) Ty.s23 rfl rfl rfl rfl rfl (zN _) (.there .here)<|J.assign rfl rfl<|J.assign rfl rfl<|J.nil ?_;refine JX.qd (hK6 _ _ ?_);refine JC.qA<|JX.qH<|JX.qt ?_;refine JX.zl (vs:=cI zI) rfl rfl rfl rfl Ty.a23 Ty.s23 rfl (fun w1 hw=>Cells.of_block (hw.own (b4,cb (cI zI) 23) zm) rfl) (fun w1 hw=>?_)
   exact ⟨by rw [hg] <;> rfl,(hw.drop (List.nil_sublist _)).below⟩
  ·have h16:16≤bs.length - at_:=by simp at h1;omega
   have hg:getI bs at_=((idB ((bs.drop at_).take 16)),at_+16,0):=by unfold getI;rw [if_neg (by omega),if_neg (by omega)]
   have hr1:=row_subB hr rfl (i:=at_) (j:=bs.length) (by omega) (Nat.le_refl _)
   obtain ⟨q1,hq1⟩:∃q,(if c=at_ then a else a.map (·.add (at_*1)))=q:=⟨_,rfl⟩
   rw [hq1] at hr1
   rw [show (bs.drop at_).take (bs.length - at_)=bs.drop at_ from List.take_of_length_le (by rw [List.length_drop];exact Nat.le_refl _)] at hr1
   have hx16:((bs.drop at_).take 16).length=16:=by rw [List.length_take,List.length_drop];omega
   refine JC.skip<|JX.qJ ?_;refine JX.qd (hK2 _ _ ?_);refine JC.seq (fun K7 hK7=>?_)
   apply JC.zd (α:=Nat × Unit) 4 (fun x=>match x with | ⟨xu,uu⟩=>[.slice (some ⟨b7,0,none⟩) 16 16,.slice a bs.length c,.int .i64 ((at_:Nat):Int),.slice q1 (bs.length - at_) (c - at_)]) (fun m x=>match x with | ⟨xu,uu⟩=>fun w1=>(True)∧St w [] ((b7,cb (cI zI) 23)::(b4,cb (cI zI) 23)::[]) w1) Ty.mixed rfl rfl rfl (by kernel_rfl) rfl rfl ?hinit ?hstep ?htail
   case hinit=>exact fun w1 hw=>⟨(0,()),trivial,hw.drew⟩
   case hstep=>
    refine ⟨fun m x hm hp=>?_,fun m x hm hp=>?_,fun m x hm hp=>?_,fun m x hm hp=>?_,trivial⟩
    ·obtain ⟨xu,uu⟩:=x
     show J _ _ _ _ _ (_) _
     refine J.pr (fun hF=>?_);refine J.sliceA (i:=0) (j:=16) Ty.ar23 Ty.s5 rfl rfl rfl rfl rfl (by omega) (by omega) rfl ?_
     exact J.ql rfl (fun _ hw=>⟨⟨xu,uu⟩,rfl,fun _ _ _=>rfl,hF,hw⟩)
    ·obtain ⟨xu,uu⟩:=x
     show J _ _ _ _ _ (_) _
     refine J.pr (fun hF=>?_);refine J.qe rfl rfl ?_
     exact J.ql rfl (fun _ hw=>⟨⟨xu,uu⟩,rfl,fun _ _ _=>rfl,hF,hw⟩)
    ·obtain ⟨xu,uu⟩:=x
     show J _ _ _ _ _ (_) _
     refine J.pr (fun hF=>?_);refine J.qe rfl rfl ?_
     exact J.ql rfl (fun _ hw=>⟨⟨xu,uu⟩,rfl,fun _ _ _=>rfl,hF,hw⟩)
    ·obtain ⟨xu,uu⟩:=x
     show J _ _ _ _ _ ((27,.int .i64 ((at_:Nat):Int))::(26,.slice a bs.length c)::_) _
     refine J.pr (fun hF=>?_);refine J.zx (i:=at_) (j:=bs.length) Ty.el26 Ty.s5 rfl rfl rfl (by simp [bnd]) rfl (by omega) (by omega) (by omega) rfl ?_;refine J.name 28 rfl (show _=Value.slice q1 (bs.length - at_) (c - at_) by rw [hq1]) ?_
     exact J.ql rfl (fun _ hw=>⟨⟨xu,uu⟩,rfl,fun _ _ _=>rfl,hF,hw⟩)
   case htail=>
    intro x
    obtain ⟨xu,uu⟩:=x
    show J _ _ _ _ _ ((28,.slice q1 (bs.length - at_) (c - at_))::(27,.int .i64 ((at_:Nat):Int))::(26,.slice a bs.length c)::(25,.slice (some ⟨b7,0,none⟩) 16 16)::_) (fun w1=>(True)∧St w [] ((b7,cb (cI zI) 23)::(b4,cb (cI zI) 23)::[]) w1)
    refine J.pr (fun hF=>?_);refine J.copy (m:=bs.length - at_) (kb:=16) (cs:=cI zI) (ys:=(bs.drop at_).map u8) (tb:=23) (o:=0) Ty.el26 Ty.s5 rfl rfl (fun w1 hw=>⟨hr1.below (hw.drop (List.nil_sublist _)).below,_,_,rfl⟩) (by rw [List.length_map,List.length_drop]) (zk _) (by omega) .here (by decide) (.inr ⟨_,rfl,rfl⟩) ?_
    rw [show setMany (cI zI) 0 (((bs.drop at_).map u8).take 16)=cI (idB ((bs.drop at_).take 16)) by rw [← List.map_take,cI_idB hx16];exact setMany_all (by rw [List.length_map,hx16];rfl)]
    refine J.nil ?_;refine JX.qd (hK7 _ _ ?_);refine JC.seq (fun K8 hK8=>?_);refine JC.region<|J.qC (vs:=cI (idB ((bs.drop at_).take 16))) Ty.a23 Ty.s23 rfl rfl (fun w1 hw=>Cells.of_block (hw.own (b7,cb (cI (idB ((bs.drop at_).take 16))) 23) zm) rfl) rfl ?_;refine J.qe rfl rfl<|J.qG rfl rfl (by omega) (by omega) rfl ?_;refine J.name 32 rfl (show _=Value.int .i64 ((at_+16:Nat):Int) from congrArg (Value.int .i64) (by omega)) ?_;refine J.qN (cs:=cI zI) (vs:=cI (idB ((bs.drop at_).take 16))) Ty.s23 rfl rfl rfl rfl rfl (zN _) (.there .here)<|J.assign rfl rfl<|J.assign rfl rfl<|J.nil ?_;refine JX.qd (hK8 _ _ ?_);refine JC.qA ?_;refine JX.zl (vs:=cI (idB ((bs.drop at_).take 16))) rfl rfl rfl rfl Ty.a23 Ty.s23 rfl (fun w1 hw=>Cells.of_block (hw.own (b4,cb (cI (idB ((bs.drop at_).take 16))) 23) zm) rfl) (fun w1 hw=>?_)
    exact ⟨by rw [hg] <;> rfl,(hw.drop (List.nil_sublist _)).below⟩
theorem getText_spec (v:Value) (bs:List UInt8) (at_ most:Nat) (w:World) (hr:Row w v bs.length (bs.map u8)) (hl:bs.length≤100000) (hal:at_≤1000000) (hmo:most≤100000) :
  Calls Try.prog 66 [v,.int .i64 ((at_:Nat):Int),.int .i64 ((most:Nat):Int)].toArray w fun r w'=>∃x:Value × List (Nat × Obj),r=.returned (.tuple #[x.1,.int .i64 (((getT bs at_ most).2.1:Nat):Int),.int .i64 (getT bs at_ most).2.2])∧Vec 5 1 x.1 ((getT bs at_ most).1).length (((getT bs at_ most).1).map u8) x.2∧St w [] x.2 w':=by
 obtain ⟨a,c,rfl,hc,hra⟩:=id hr
 obtain ⟨⟨n0,p0,e0⟩,hG⟩:∃x,getN bs at_=x:=⟨_,rfl⟩
 have hn0:=yG bs at_
 have hp0:=yi bs at_
 rw [hG] at hn0 hp0
 simp only at hn0 hp0
 refine qD (args:=[.slice a bs.length c,.int .i64 ((at_:Nat):Int),.int .i64 ((most:Nat):Int)]) (e:=[(0,.slice a bs.length c),(1,.int .i64 ((at_:Nat):Int)),(2,.int .i64 ((most:Nat):Int))]) Try.func66 rfl rfl ⟨rfl,rfl,rfl,trivial⟩ (St.start w) ?_;refine JC.seq (fun K0 hK0=>?_);refine JC.region<|J.assign rfl rfl<|J.assign rfl rfl<|J.assign rfl rfl<|J.nil ?_;refine JX.qd (hK0 _ _ ?_);refine JC.seq (fun K1 hK1=>?_);refine JC.region<|J.qe rfl rfl<|J.qe rfl rfl<|J.qR (v:=.tuple #[.int .u64 ((n0:Nat):Int),.int .i64 ((p0:Nat):Int),.int .i64 e0]) (fun w1 w2 hw hb=>hw.step hb) Ty.bd64 rfl rfl (fun w1 hw=>by have h9:=getNum_spec _ bs at_ w1 (hr.below (hw.drop (List.nil_sublist _)).below) hl hal;rw [hG] at h9;exact h9) ?_;refine J.qe rfl rfl<|J.extract rfl rfl rfl<|J.extract rfl rfl rfl<|J.extract rfl rfl rfl<|J.assign rfl rfl<|J.assign rfl rfl<|J.assign rfl rfl<|J.nil ?_;refine JX.qd (hK1 _ _ ?_);refine JC.seq (fun K2 hK2=>?_);refine JC.block ?_;refine JC.seq (fun K3 hK3=>?_);refine JC.region<|J.qe rfl rfl<|J.qj rfl rfl rfl rfl<|J.assign rfl rfl<|J.nil ?_;refine JX.qd (hK3 _ _ ?_);refine JC.qn rfl (fun h0=>?_) (fun h0=>?_)
 ·have hne:e0≠0:=by simpa using h0
  have hg:getT bs at_ most=([],0,e0):=by unfold getT;rw [hG];exact if_pos hne
  refine JC.seq (fun K4 hK4=>?_);refine JC.region<|J.qe rfl rfl<|J.assign rfl rfl<|J.assign rfl rfl<|J.assign rfl rfl<|J.nil ?_;refine JX.qd (hK4 _ _ ?_);refine JC.qA<|JX.qH<|JX.qt ?_;refine JX.q5 rfl rfl rfl rfl (fun w1 hw=>?_)
  rw [hg]
  first
  | exact ⟨(_,[]),rfl,Vec.nil _ _,hw⟩
  | exact ⟨(v47,l47),rfl,by rw [hxl];exact hv47,by simpa using hw⟩
 ·have hz:e0=0:=by simpa using h0
  subst hz
  refine JC.seq (fun K5 hK5=>?_);refine JC.region<|J.qe rfl rfl<|J.qj rfl rfl rfl rfl<|J.name 24 rfl (show _=Value.bool false by simp) ?_;refine J.qe rfl rfl ?_
  first | refine J.skip rfl rfl rfl rfl rfl ?_ | refine J.qh rfl rfl rfl rfl ?_ | (refine J.qf rfl rfl rfl ?_;refine J.qe rfl rfl ?_)
  first | refine J.skip rfl rfl rfl rfl rfl ?_ | refine J.qh rfl rfl rfl rfl ?_ | (refine J.qf rfl rfl rfl ?_;refine J.qe rfl rfl ?_)
  refine J.qf rfl rfl rfl<|J.qF Ty.u3 Ty.u81 rfl rfl<|J.name 28 rfl (show _=Value.int .u64 ((most:Nat):Int) from congrArg (Value.int .u64) (ze (by omega) (by omega))) ?_
  first | refine J.skip rfl rfl rfl rfl rfl ?_ | refine J.qh rfl rfl rfl rfl ?_ | (refine J.qf rfl rfl rfl ?_;refine J.qj rfl rfl rfl rfl ?_)
  (first | refine J.qr rfl rfl rfl ?_ | refine J.qs rfl rfl rfl ?_)
  refine J.assign rfl rfl<|J.nil ?_;refine JX.qd (hK5 _ _ ?_);refine JC.qn rfl (fun h1=>?_) (fun h1=>?_)
  ·have hg:getT bs at_ most=([],0,4):=by unfold getT;rw [hG];simp only;rw [if_neg (by simp),if_pos (by simp at h1;omega)]
   refine JC.seq (fun K6 hK6=>?_);refine JC.region<|J.assign rfl rfl<|J.assign rfl rfl<|J.assign rfl rfl<|J.nil ?_;refine JX.qd (hK6 _ _ ?_);refine JC.qA<|JX.qH<|JX.qt ?_;refine JX.q5 rfl rfl rfl rfl (fun w1 hw=>?_)
   rw [hg]
   first
   | exact ⟨(_,[]),rfl,Vec.nil _ _,hw⟩
   | exact ⟨(v47,l47),rfl,by rw [hxl];exact hv47,by simpa using hw⟩
  ·have hn1:n0≤most:=by simp at h1;omega
   refine JC.seq (fun K7 hK7=>?_);refine JC.region<|J.qe rfl rfl<|J.qe rfl rfl<|J.qK rfl Ty.u26 rfl rfl<|J.qe rfl rfl<|J.zn rfl rfl (by omega) (by omega) rfl ?_;refine J.qF Ty.u3 Ty.u81 rfl rfl<|J.name 37 rfl (show _=Value.int .u64 ((bs.length - p0:Nat):Int) from congrArg (Value.int .u64) ((ze (by omega) (by omega)).trans (by omega))) ?_;refine J.qj rfl rfl rfl rfl<|J.assign rfl rfl<|J.nil ?_;refine JX.qd (hK7 _ _ ?_);refine JC.qn rfl (fun h2=>?_) (fun h2=>?_)
   ·have hg:getT bs at_ most=([],0,3):=by unfold getT;rw [hG];simp only;rw [if_neg (by simp),if_neg (by omega),if_pos (by simp at h2;omega)]
    refine JC.seq (fun K8 hK8=>?_);refine JC.region<|J.assign rfl rfl<|J.assign rfl rfl<|J.assign rfl rfl<|J.nil ?_;refine JX.qd (hK8 _ _ ?_);refine JC.qA<|JX.qH<|JX.qt ?_;refine JX.q5 rfl rfl rfl rfl (fun w1 hw=>?_)
    rw [hg]
    first
    | exact ⟨(_,[]),rfl,Vec.nil _ _,hw⟩
    | exact ⟨(v47,l47),rfl,by rw [hxl];exact hv47,by simpa using hw⟩
   ·have hn2:n0≤bs.length - p0:=by simp at h2;omega
    have hg:getT bs at_ most=((bs.drop p0).take n0,p0+n0,0):=by unfold getT;rw [hG];simp only;rw [if_neg (by simp),if_neg (by omega),if_neg (by omega)]
    have hr1:=row_subB hr rfl (i:=p0) (j:=p0+n0) (by omega) (by omega)
    obtain ⟨q1,hq1⟩:∃q,(if c=p0 then a else a.map (·.add (p0*1)))=q:=⟨_,rfl⟩
    rw [hq1,Nat.add_sub_cancel_left] at hr1
    have hxl:((bs.drop p0).take n0).length=n0:=by rw [List.length_take,List.length_drop];omega
    refine JC.skip<|JX.qJ ?_;refine JX.qd (hK2 _ _ ?_);refine JC.seq (fun K9 hK9=>?_);refine JC.region ?_;refine J.za (cs:=[]) Ty.el26 Ty.s5 Ty.z5 rfl rfl rfl rfl rfl rfl rfl (fun b39=>?_);refine J.qe rfl rfl<|J.qe rfl rfl<|J.qe rfl rfl<|J.qe rfl rfl<|J.qF Ty.u81 Ty.u3 rfl rfl<|J.name 44 rfl (show _=Value.int .i64 ((n0:Nat):Int) from congrArg (Value.int .i64) (qV (by omega) (by omega))) ?_;refine J.qG rfl rfl (by omega) (by omega) rfl ?_;refine J.name 45 rfl (show _=Value.int .i64 ((p0+n0:Nat):Int) from congrArg (Value.int .i64) (by omega)) ?_;refine J.zx (i:=p0) (j:=p0+n0) Ty.el26 Ty.s5 rfl rfl rfl (by simp [bnd]) (by simp [bnd];omega) (by omega) (by omega) (by omega) rfl ?_;refine J.name 46 rfl (show _=Value.slice q1 n0 (c - p0) by rw [hq1,Nat.add_sub_cancel_left]) ?_;refine J.qZ (lp:=[(b39,cb [] 5)]) (xs:=[]) (ys:=((bs.drop p0).take n0).map u8) (k:=0) (m:=n0) Ty.el26 Ty.s5 Ty.b5 Ty.z5 rfl (.inl ⟨5,Ty.u26⟩) rfl rfl ⟨rfl,.inr ⟨b39,0,[],rfl,rfl,rfl,Nat.le_refl _⟩⟩ (fun w1 hw=>.inl (hr1.below (hw.drop (List.nil_sublist _)).below)) (by rw [List.length_map,hxl,Nat.mul_one]) (zk _) (by omega) (by omega) rfl (fun v47 l47 hv47=>?_)
    rw [Nat.zero_add,List.nil_append] at hv47
    refine J.qe rfl rfl<|J.qe rfl rfl<|J.qF Ty.u81 Ty.u3 rfl rfl<|J.name 50 rfl (show _=Value.int .i64 ((n0:Nat):Int) from congrArg (Value.int .i64) (qV (by omega) (by omega))) ?_;refine J.qG rfl rfl (by omega) (by omega) rfl ?_;refine J.name 51 rfl (show _=Value.int .i64 ((p0+n0:Nat):Int) from congrArg (Value.int .i64) (by omega)) ?_;refine J.assign rfl rfl<|J.assign rfl rfl<|J.assign rfl rfl<|J.nil ?_;refine JX.qd (hK9 _ _ ?_);refine JC.qA ?_;refine JX.q5 rfl rfl rfl rfl (fun w1 hw=>?_)
    rw [hg]
    first
    | exact ⟨(_,[]),rfl,Vec.nil _ _,hw⟩
    | exact ⟨(v47,l47),rfl,by rw [hxl];exact hv47,by simpa using hw⟩
end Go.Proofs.Ytoaenmlhehcjfaa
namespace Go.J
open Go.RowKit
open Go.ChangeMaps (setBlock)
set_option linter.unusedVariables false
set_option linter.unusedSimpArgs false
def IterAt (b:Nat) (es:Array MapEntry) (clock:Nat) (sn:List Nat) (o:Obj):Prop:=
 ∃since c0,o=.mapIter (some b) since sn.toArray c0∧since≤c0∧since≤clock∧∀x,x∈es.toList→x.born<since
def IterOn (b:Nat) (es:Array MapEntry) (clock:Nat) (sn:List Nat) (en:MapEntry) (o:Obj):Prop:=
 ∃since,o=.mapIter (some b) since (sn.toArray.push en.born) clock∧since≤clock∧∀x,x∈es.toList→x.born<since
theorem IterOn.at {b:Nat} {es:Array MapEntry} {clock:Nat} {sn:List Nat} {en:MapEntry} {o:Obj} (h:IterOn b es clock sn en o):IterAt b es clock (sn++[en.born]) o:=by
 obtain ⟨since,h1,h2,h3⟩:=h
 exact ⟨since,clock,by rw [h1];simp,h2,h2,h3⟩
def nextA:Option MapEntry→Array Value
 | none=>#[.bool false]
 | some e=>#[.bool true,e.key,e.val]
theorem nextA_0 (eo:Option MapEntry):(nextA eo)[0]? = some (.bool eo.isSome):=by cases eo <;> rfl
def NextTo (b:Nat) (es:Array MapEntry) (clock:Nat) (sn:List Nat) (o:Obj):Option MapEntry→Obj→Prop
 | none,o'=>o'=o∧∀x,x∈es.toList→x.born∈sn
 | some en,o'=>en∈es.toList∧en.born ∉ sn∧IterOn b es clock sn en o'
section
variable {P:Program} {ops:Array Oper} {Q:Exit→Act→World→Prop} {n:Nat} {e:Env} {I I':World→Prop} {rest:List Oper}
variable {d t:Nat} {p:String} {af:Array Edge} {x y z:Operand} {v v1 v2:Value} {w0:World} {S:List Nat} {l l':List (Nat × Obj)}
theorem J.range {ty kt et b clock:Nat} {es:Array MapEntry} (hu:P.underlying ty=some (.map kt et)) (hx:ev e x=some (.map (some b))) (hb:∀w,St w0 S l w→w.heap[b]? = some (.map es clock))
  (hst:∀x,x∈es.toList→x.born<clock) (hd:Nat.blt d n=true)
  (h:∀r o,IterAt b es clock [] o→J P ops Q n rest ((d,.pointer (some ⟨r,0,none⟩))::e) (St w0 S ((r,o)::l))) :
  J P ops Q n (⟨some d,.range ty x,t,p,af,none⟩::rest) e (St w0 S l):=by
 refine J.yq (V:=fun r=>.pointer (some ⟨r,0,none⟩)) (I':=fun r=>St w0 S ((r,.mapIter (some b) clock #[] clock)::l)) hd (fun T w ht hw=>⟨w.heap.size,w.alloc (.mapIter (some b) clock #[] clock),?_,?_⟩) (fun r=>h r _ ⟨clock,clock,rfl,Nat.le_refl _,Nat.le_refl _,hst⟩)
 ·simp [execOp,ht.eval hx,run_range_map w ty kt et b es clock hu (hb w hw)]
 ·exact hw.new (zU w _) (Nat.le_refl _) (yu w _)
theorem J.next {b r clock:Nat} {es:Array MapEntry} {sn:List Nat} {o:Obj} {l':Obj→List (Nat × Obj)} (hx:ev e x=some (.pointer (some ⟨r,0,none⟩))) (hu:∀o',Up l r o o' (l' o')) (hI:IterAt b es clock sn o)
  (hb:∀w,St w0 S l w→w.heap[b]? = some (.map es clock)) (hd:Nat.blt d n=true)
  (h:∀eo o',NextTo b es clock sn o eo o'→J P ops Q n rest ((d,.tuple (nextA eo))::e) (St w0 S (l' o'))) :
  J P ops Q n (⟨some d,.next x false,t,p,af,none⟩::rest) e (St w0 S l):=by
 refine J.yq (α:=Option MapEntry × Obj) (V:=fun q=>.tuple (nextA q.1)) (I':=fun q w=>NextTo b es clock sn o q.1 q.2∧St w0 S (l' q.2) w) hd (fun T w ht hw=>?_) (fun q=>J.pr fun hq=>h q.1 q.2 hq)
 obtain ⟨since,c0,rfl,h1,h2,h3⟩:=hI
 have hr:=hw.own _ (hu (.mapIter (some b) since sn.toArray c0)).mem
 rcases run_next_at (P:=P) w t r b since c0 sn.toArray es clock hr (hb w hw) h3 h1 with ⟨h0,hrun⟩ | ⟨en,he,w1,hal,hrun⟩
 ·refine ⟨(none,_),w,?_,⟨rfl,fun x hx=>?_⟩,hw.set (hu _) rfl rfl rfl (Nat.le_refl _) rfl hr (fun _ _ _=>rfl)⟩
  ·simp [execOp,ht.eval hx,hrun,nextA]
  ·have:=all_seen es sn.toArray h0 x hx
   simpa using this
 ·obtain ⟨hem,hes⟩:=mem_left he
  have hw1:St w0 S l w1:=by
   rcases hal with rfl | rfl
   ·exact hw
   ·exact hw.step ((Bel.refl w).drew)
  have hr1:=hw1.own _ (hu (.mapIter (some b) since sn.toArray c0)).mem
  refine ⟨(some en,.mapIter (some b) since (sn.toArray.push en.born) clock),setBlock w1 r (.mapIter (some b) since (sn.toArray.push en.born) clock),?_,⟨hem,by simpa using hes,since,rfl,h2,h3⟩,hw1.wrote (hu _) (wrote_set hr1)⟩
  simp [execOp,ht.eval hx,hrun,nextA]
theorem J.entry {b r clock:Nat} {es:Array MapEntry} {sn:List Nat} {en:MapEntry} {o:Obj} (hx:ev e x=some (.pointer (some ⟨r,0,none⟩))) (hm:(r,o)∈l) (hI:IterOn b es clock sn en o) (he:en∈es.toList) (hn:(es.toList.map (·.born)).Nodup)
  (hb:∀w,St w0 S l w→w.heap[b]? = some (.map es clock)) (hd:Nat.blt d n=true)
  (h:J P ops Q n rest ((d,.tuple #[en.key,en.val])::e) (St w0 S l)) :
  J P ops Q n (⟨some d,.entry x,t,p,af,none⟩::rest) e (St w0 S l):=by
 obtain ⟨since,rfl,h1,h2⟩:=hI
 refine J.zf hd (fun T w ht hw=>⟨w,?_,hw⟩) h
 have hrun:=run_entry_at (P:=P) w r b since sn.toArray es clock en (hw.own _ hm) (hb w hw) he hn
 simp [execOp,ht.eval hx,hrun]
end
section
variable {P:Program} {ops:Array Oper} {Q:Exit→Act→World→Prop} {n:Nat} {e:Env} {I I':World→Prop} {rest:List Oper}
variable {d t:Nat} {p:String} {af:Array Edge} {x y z:Operand} {v v1 v2:Value} {w0:World} {S:List Nat} {l l':List (Nat × Obj)}
def YieldTo (F:Fence) (m:Nat) (P:Program) (l:Nat) (args:Array Value) (W:World) (R:Ending→World→Prop):Prop:=
 ∃fn tmps assign body,(Instr.yield l args).run P W=.ok (.round l fn tmps assign body) W∧RoundIn F m P l fn tmps assign body W R
abbrev FW (r:Option Nat):Fence:={ fn:=fun _=>True,depth:=none,alive:=false,round:=r }
theorem calls_fw {r:Option Nat} {m:Nat} {f:FuncId} {args:Array Value} {w:World} {R:Ending→World→Prop}:CallsIn (FW r) m P f args w R↔Calls P f args w R:=
 (callsIn_wide (n:=m) (P:=P) (f:=f) (args:=args) (w:=w) (R:=R))
theorem rows_fw {r:Option Nat} {m:Nat} {row:String} {args:Array Value} {w:World} {R:Value→World→Prop} (h:Rows P row args w R):RowsIn (FW r) m P row args w R:=
 fun c cs _=>let ⟨v,w',r,s⟩:=h c cs;⟨v,w',r,stepsIn_wide.2 s⟩
def noDefB (o:Oper):Bool:=match o.op with
 | .defer _=>false
 | _=>true
theorem noDefB.ne {o:Oper} (h:noDefB o=true):∀c,o.op≠.defer c:=by
 intro c hc
 unfold noDefB at h
 rw [hc] at h
 cases h
theorem uponIn_of {r:Option Nat} {m:Nat} {o:Oper} {a:Act} {next next':Act→World→Prop} {Q Q':Exit→Act→World→Prop} {res:Result Next} (hn:∀a w,next a w→next' a w) (hQ:∀x a w,Q x a w→x=.normal)
  (h:o.upon P a next Q res):o.uponIn (FW r) m P a next' Q' res:=by
 match res,h with
 | .ok (.value v) w',h=>exact hn _ _ h
 | .ok .skip w',h=>exact hn _ _ h
 | .ok (.defer d) w',h=>exact hn _ _ h
 | .ok (.enter f args) w',h=>
  refine ⟨(fun h=>by cases h),calls_fw.2 (Calls.mono h fun r w'' hr=>?_)⟩
  match r,hr with
  | .returned v,hr=>exact hn _ _ hr
  | .panicked c,hr=>cases hQ _ _ _ hr
  | .outgrown,hr=>obtain ⟨_,_,hr⟩:=hr;cases hQ _ _ _ hr
 | .ok (.row row args) w',h=>exact ⟨(fun h=>by cases h),rows_fw (Rows.mono h fun v w'' hr=>hn _ _ hr)⟩
 | .halt (.panic v) w',h=>cases hQ _ _ _ h
theorem wpListIn_of {r:Option Nat} {Q Q':Exit→Act→World→Prop} (hQ:∀x a w,Q x a w→x=.normal) (hk:∀a w,Q .normal a w→wpListIn (FW r) 0 P ops Q' rest a w) :
  ∀ {os:List Oper},os.all noDefB=true→∀a w,wpList P ops Q os a w→wpListIn (FW r) 0 P ops Q' (os++rest) a w
 | [],_,a,w,h=>hk a w h
 | o::os,hnd,a,w,h=>by
  simp only [List.all_cons,Bool.and_eq_true] at hnd
  have ih:=wpListIn_of hQ hk hnd.2
  simp only [wpList] at h
  show (if Region.wanted o (yielded ops a.tmps) then o.wpIn (FW r) 0 P a w (wpListIn (FW r) 0 P ops Q' (os++rest)) Q' else (∀f,o.about P w a.eval=some f→(FW r).fn f)∧wpListIn (FW r) 0 P ops Q' (os++rest) (a.put o.dst undef) w)
  split
  ·rename_i hw
   rw [if_pos hw] at h
   rcases h with h | ⟨_,_,_,h⟩
   ·refine ⟨fun _ _=>trivial,?_⟩
    rw [Oper.semAt_eq _ _ _ (noDefB.ne hnd.1)]
    exact uponIn_of ih hQ h
   ·cases hQ _ _ _ h
  ·rename_i hw
   rw [if_neg hw] at h
   exact ⟨fun _ _=>trivial,ih _ _ h⟩
def QX {α:Type} (n:Nat) (E:α→Env) (I':α→World→Prop):Exit→Act→World→Prop:=fun x a w=>x=.normal∧∃z,a.defers=[]∧Rep n a.tmps (E z)∧I' z w
theorem QX.normal {α:Type} {n:Nat} {E:α→Env} {I':α→World→Prop}:∀x a w,QX n E I' x a w→x=.normal:=fun _ _ _ h=>h.1
def JI (P:Program) (r:Option Nat) (ops:Array Oper) (Q:Exit→Act→World→Prop) (n:Nat) (rest:List Oper) (e:Env) (I:World→Prop):Prop:=∀T w,Rep n T e→I w→wpListIn (FW r) 0 P ops Q rest (act T) w
theorem JI.steps {α:Type} {r:Option Nat} {os:List Oper} (E:α→Env) (I':α→World→Prop) (hnd:os.all noDefB=true) (h1:J P ops (QX n E I') n os e I) (h2:∀z,JI P r ops Q n rest (E z) (I' z)):JI P r ops Q n (os++rest) e I:=by
 intro T w ht hw
 refine wpListIn_of QX.normal (fun a w h=>?_) hnd (act T) w (h1 T w ht hw)
 obtain ⟨_,z,hd,hr,hi⟩:=h
 obtain ⟨t1,d1⟩:=a
 simp only at hd hr
 subst hd
 exact h2 z t1 w hr hi
theorem JI.nil {r:Option Nat} (h:JX Q n .normal e I):JI P r ops Q n [] e I:=fun T w ht hw=>h T w ht hw
theorem JX.qx {α:Type} {E:α→Env} {I':α→World→Prop} (z:α) (hc:Cov e (E z)) (hi:∀w,I w→I' z w):JX (QX n E I') n .normal e I:=fun T w ht hw=>⟨rfl,z,rfl,ht.cov hc,hi w hw⟩
theorem JC.regionI {id:Nat} {l:List Oper} (h:JI P none l.toArray Q n l e I):JC P Q n (.region id l.toArray false) e I:=
 fun T w ht hw=>(wpIn_wide (n:=0)).1 (wpIn_region_lit (h T w ht hw))
theorem JI.yield {lb:Nat} {xs:List Operand} {ats:Array TypeId} {vs:List Value} {R:Value→World→Prop} (hy:ev e y=some (.func (.yield lb) #[] #[])) (hx:evs e xs=some vs) (hd:Nat.blt d n=true)
  (hc:∀w,I w→YieldTo (FW none) 0 P lb vs.toArray w fun r w'=>∃v,r=.returned v∧R v w')
  (h:∀v,JI P none ops Q n rest ((d,v)::e) (R v)):JI P none ops Q n (⟨some d,.call ⟨.value y,xs.toArray,ats⟩,t,p,af,none⟩::rest) e I:=by
 intro T w ht hw
 obtain ⟨fn,tmps,assign,body,hyr,hR⟩:=hc w hw
 have hr:(execOp (act T).eval ⟨some d,.call ⟨.value y,xs.toArray,ats⟩,t,p,af,none⟩).run P w=.ok (.round lb fn tmps assign body) w:=by
  have:=ht.evals hx
  simp [execOp,resolve,ht.eval hy,Deferred.ofValue,invoke,this,hyr]
 show (if Region.wanted _ (yielded ops T) then Oper.wpIn (FW none) 0 P _ (act T) w (wpListIn (FW none) 0 P ops Q rest) Q else _)
 rw [if_pos (by simp [Region.wanted])]
 refine ⟨fun _ _=>trivial,?_⟩
 rw [Oper.semAt_eq _ _ _ (fun c hc=>by cases hc),hr]
 refine ⟨(fun h=>by cases h),hR.mono fun r w' ⟨v,hv,hRv⟩=>?_⟩
 subst hv
 exact h v _ w' (ht.put hd v) hRv
end
theorem wp_assign_of {α:Type} {P:Program} {r:Option Nat} {n id:Nat} {la:List Oper} {e:Env} {I:World→Prop} {E:α→Env} {I':α→World→Prop} {Q:Exit→Act→World→Prop} (hnd:la.all noDefB=true) (h1:J P la.toArray (QX n E I') n la e I)
  {T:Array Value} {w:World} (ht:Rep n T e) (hw:I w) (hk:∀z T w,Rep n T (E z)→I' z w→Q .normal (act T) w):(Code.region id la.toArray false).wpIn (FW r) 0 P Q (act T) w:=by
 have h:=wpListIn_of (P:=P) (ops:=la.toArray) (rest:=[]) (r:=r) (Q':=Q) QX.normal (fun a w h=>by
  obtain ⟨_,z,hd,hr,hi⟩:=h
  obtain ⟨t1,d1⟩:=a
  simp only at hd hr
  subst hd
  exact hk z t1 w hr hi) hnd (act T) w (h1 T w ht hw)
 rw [List.append_nil] at h
 exact wpIn_region_lit h
theorem roundIn_of_J {α β:Type} {P:Program} {l f n ida idb idc:Nat} {la lb:List Oper} {e:Env} {I:World→Prop} (E1:α→Env) (I1 I2:α→World→Prop) (I3:β→World→Prop) {R:Ending→World→Prop}
  (na:la.all noDefB=true) (nb:lb.all noDefB=true) (h1:J P la.toArray (QX n E1 I1) n la e I)
  (hb:∀z w,I1 z w→∃rec,w.heap[l]? = some (.loop rec)∧rec.state=.ready∧I2 z (w.putObj l (.loop { rec with state:=.busy })))
  (h2:∀z,J P lb.toArray (QX n (fun _:β=>[]) I3) n lb (E1 z) (I2 z))
  (h3:∀z w,I3 z w→∃rec,w.heap[l]? = some (.loop rec)∧R (.returned (.bool true)) (w.putObj l (.loop { rec with state:=.ready,pending:=none })))
  {T:Array Value} {w:World} (ht:Rep n T e) (hw:I w):RoundIn (FW none) 0 P l f T (.region ida la.toArray false) (.block idb (.region idc lb.toArray false)) w R:=by
 refine roundIn_of_wpIn (F:=FW none) trivial ?_
 refine wp_assign_of (r:=some l) na h1 ht hw fun z T w ht hw=>?_
 obtain ⟨rec,hr1,hr2,hi2⟩:=hb z w hw
 refine ⟨_,run_beginRound hr1 hr2,?_⟩
 refine wpIn_block (F:=FW (some l)) ?_
 refine wp_assign_of (r:=some l) nb (h2 z) ht hi2 fun z T w ht hw=>?_
 obtain ⟨rec,hr1,hR⟩:=h3 z w hw
 exact ⟨_,_,run_endRound none hr1,hR⟩
theorem JC.seqRaw {P:Program} {Q:Exit→Act→World→Prop} {n:Nat} {e:Env} {I:World→Prop} {x y:Code} (h:JC P (Exit.then (fun a w=>y.wp P Q a w) Q) n x e I):JC P Q n (.seq x y) e I:=fun T w ht hw=>wp_seq (h T w ht hw)
def markOf (D:Nat):List Deferred:=[{ target:=.collected D,args:=#[] }]
theorem JC.rangeF {P:Program} {Q:Exit→Act→World→Prop} {n:Nat} {e:Env} {I:World→Prop} {g:Operand} {f:FuncId} {cs:Array Value} {ps:Array Tmp} {assign body:Code} (hg:ev e g=some (.func (.func f) #[] cs)) (hb:bodyT P f=true)
  (h:∀fn T w,Rep n T e→I w→Calls P f (#[.func (.yield (w.heap.size+1)) #[] #[]]++cs) ((w.alloc (.deferred (some []))).alloc (.loop { state:=.ready,pending:=none,fn,tmps:=T,params:=ps,assign,body,defers:=w.heap.size }))
   (fun r w3=>∃v rec,r=.returned v∧w3.heap[w.heap.size+1]? = some (.loop rec)∧rec.state=.ready∧rec.pending=none∧Q .normal ⟨T,markOf w.heap.size⟩ (w3.putObj (w.heap.size+1) (.loop { rec with state:=.exhausted })))) :
  JC P Q n (.rangeFunc g ps assign body) e I:=by
 intro T w ht hw
 refine (wpIn_wide (n:=0)).1 (wpIn_rangeFunc (F:=Fence.wide) (n:=0) fun fn _=>?_)
 have hent:=run_enterLoop_outer (P:=P) (w:=w) fn T ps assign body
 have hcall:=h fn T w ht hw
 generalize (w.alloc (.deferred (some []))).alloc (.loop { state:=.ready,pending:=none,fn,tmps:=T,params:=ps,assign,body,defers:=w.heap.size })=W1 at hent hcall
 refine ⟨w.heap.size+1,markOf w.heap.size,W1,{ target:=.fn (.func f) cs,args:=#[.func (.yield (w.heap.size+1)) #[] #[]] },W1,f,#[.func (.yield (w.heap.size+1)) #[] #[]]++cs,W1,hent,?_,fun _ _=>trivial,?_,(fun h=>by cases h),?_⟩
 ·have he:=ht.eval hg
  have hc:(act T).eval (.const (.func (.yield (w.heap.size+1)) #[] #[]))=.func (.yield (w.heap.size+1)) #[] #[]:=rfl
  simp [rangeCall,resolve,he,hc,Deferred.ofValue]
 ·simp [invoke,run_callFunc hb]
 ·refine callsIn_wide.2 (hcall.mono ?_)
  rintro r w3 ⟨v,rec,rfl,hr,hs,hp,hq⟩
  refine ⟨none,_,?_,hq⟩
  have:=run_endLoop (P:=P) hr (by rw [hs];intro h;cases h)
  refine this.trans ?_
  rw [hp]
structure RecIs (rec:Loop) (fn:FuncId) (T:Array Value) (ps:Array Tmp) (assign body:Code) (D:Nat):Prop where
 state:rec.state=.ready
 pending:rec.pending=none
 fn:rec.fn=fn
 tmps:rec.tmps=T
 params:rec.params=ps
 assign:rec.assign=assign
 body:rec.body=body
theorem JC.rangeFS {P:Program} {Q:Exit→Act→World→Prop} {n:Nat} {e:Env} {w0:World} {S:List Nat} {l:List (Nat × Obj)} {g:Operand} {f:FuncId} {cs:Array Value} {ps:Array Tmp} {assign body:Code} (hg:ev e g=some (.func (.func f) #[] cs)) (hb:bodyT P f=true)
  (h:∀fn T lb D rec W1,Rep n T e→RecIs rec fn T ps assign body D→St w0 S ((lb,.loop rec)::(D,.deferred (some []))::l) W1→Calls P f (#[.func (.yield lb) #[] #[]]++cs) W1
   (fun r w3=>∃v,r=.returned v∧w3.heap[lb]? = some (.loop rec)∧Q .normal ⟨T,markOf D⟩ (w3.putObj lb (.loop { rec with state:=.exhausted })))) :
  JC P Q n (.rangeFunc g ps assign body) e (St w0 S l):=by
 refine JC.rangeF hg hb fun fn T w ht hw=>?_
 have h1:St w0 S ((w.heap.size,.deferred (some []))::l) (w.alloc (.deferred (some []))):=hw.new (zU w _) (Nat.le_refl _) (yu w _)
 have h2:=h1.new (o:=.loop { state:=.ready,pending:=none,fn:=fn,tmps:=T,params:=ps,assign:=assign,body:=body,defers:=w.heap.size }) (zU (w.alloc (.deferred (some []))) _) (Nat.le_refl _) (yu _ _)
 rw [show (w.alloc (.deferred (some []))).heap.size=w.heap.size+1 by simp] at h2
 refine (h fn T (w.heap.size+1) w.heap.size _ _ ht ⟨rfl,rfl,rfl,rfl,rfl,rfl,rfl⟩ h2).mono ?_
 rintro r w3 ⟨v,rfl,hr,hq⟩
 exact ⟨v,_,rfl,hr,rfl,rfl,hq⟩
theorem wrote_put {w:World} {b:Nat} {o o':Obj} (hb:w.heap[b]? = some o):Wrote w (w.putObj b o') b o':=wrote_set hb
theorem zip1 (t:Tmp) (v:Value) (T:Array Value):((#[t]:Array Tmp).zip #[v]).foldl (fun tmps (t,a)=>tmps.setIfInBounds t a) T=T.setIfInBounds t v:=by simp
theorem round1 {F:Fence} {m:Nat} {P:Program} {l f:Nat} {t:Tmp} {v:Value} {T:Array Value} {assign body:Code} {w:World} {R:Ending→World→Prop} (h:RoundIn F m P l f (T.setIfInBounds t v) assign body w R) :
  RoundIn F m P l f (((#[t]:Array Tmp).zip #[v]).foldl (fun tmps (t,a)=>tmps.setIfInBounds t a) T) assign body w R:=by
 rw [zip1];exact h
def Act.more (a:Act) (ds:List Deferred):Act:=⟨a.tmps,a.defers++ds⟩
theorem upon_more {P:Program} {o:Oper} {a:Act} {ds:List Deferred} {next next':Act→World→Prop} {Q Q':Exit→Act→World→Prop} {res:Result Next} (hn:∀a w,next a w→next' (Act.more a ds) w) (hQ:∀x a w,Q x a w→x=.normal)
  (h:o.upon P a next Q res):o.upon P (Act.more a ds) next' Q' res:=by
 have put:∀(dst:Option Tmp) (v:Value),(Act.more a ds).put dst v=Act.more (a.put dst v) ds:=fun dst v=>by cases dst <;> rfl
 match res,h with
 | .ok (.value v) w',h=>show next' _ _;rw [put];exact hn _ _ h
 | .ok .skip w',h=>show next' _ _;rw [put];exact hn _ _ h
 | .ok (.defer d) w',h=>
  show next' _ _
  have:(({ (Act.more a ds) with defers:=d::(Act.more a ds).defers }:Act).put o.dst undef)=Act.more (({ a with defers:=d::a.defers }:Act).put o.dst undef) ds:=by cases o.dst <;> rfl
  rw [this];exact hn _ _ h
 | .ok (.enter f args) w',h=>
  refine Calls.mono h fun r w'' hr=>?_
  match r,hr with
  | .returned v,hr=>show next' _ _;rw [put];exact hn _ _ hr
  | .panicked c,hr=>cases hQ _ _ _ hr
  | .outgrown,hr=>obtain ⟨_,_,hr⟩:=hr;cases hQ _ _ _ hr
 | .ok (.row row args) w',h=>exact Rows.mono h fun v w'' hr=>by show next' _ _;rw [put];exact hn _ _ hr
 | .halt (.panic v) w',h=>cases hQ _ _ _ h
theorem wpList_more {P:Program} {ops:Array Oper} {ds:List Deferred} {Q Q':Exit→Act→World→Prop} (hQ:∀x a w,Q x a w→x=.normal) (hk:∀a w,Q .normal a w→Q' .normal (Act.more a ds) w) :
  ∀ {os:List Oper} (a:Act) (w:World),wpList P ops Q os a w→wpList P ops Q' os (Act.more a ds) w
 | [],a,w,h=>hk a w h
 | o::os,a,w,h=>by
  have ih:=wpList_more (P:=P) (ops:=ops) hQ hk (os:=os)
  simp only [wpList] at h ⊢
  show (if Region.wanted o (yielded ops a.tmps) then o.wp P (Act.more a ds) w (wpList P ops Q' os) Q'∨_ else _)
  split
  ·rename_i hw
   rw [if_pos hw] at h
   rcases h with h | ⟨_,_,_,h⟩
   ·exact .inl (upon_more ih hQ h)
   ·cases hQ _ _ _ h
  ·rename_i hw
   rw [if_neg hw] at h
   have:(Act.more a ds).put o.dst undef=Act.more (a.put o.dst undef) ds:=by cases o.dst <;> rfl
   rw [this]
   exact ih _ _ h
theorem wp_region_more {α:Type} {P:Program} {n id:Nat} {la:List Oper} {e:Env} {I:World→Prop} {E:α→Env} {I':α→World→Prop} {ds:List Deferred} {Q:Exit→Act→World→Prop} (h1:J P la.toArray (QX n E I') n la e I)
  {T:Array Value} {w:World} (ht:Rep n T e) (hw:I w) (hk:∀z T w,Rep n T (E z)→I' z w→Q .normal ⟨T,ds⟩ w):(Code.region id la.toArray false).wp P Q ⟨T,ds⟩ w:=by
 refine wp_region_lit ?_
 have:=wpList_more (ds:=ds) (Q':=Q) QX.normal (fun a w h=>by
  obtain ⟨_,z,hd,hr,hi⟩:=h
  obtain ⟨t1,d1⟩:=a
  simp only at hd hr
  subst hd
  exact hk z t1 w hr hi) (act T) w (h1 T w ht hw)
 exact this
theorem calls_of_JM {P:Program} {f:FuncId} {fn:Func} {c:Code} {args:List Value} {w0 w:World} {S:List Nat} {l:List (Nat × Obj)} {R:Ending→World→Prop} {e:Env}
  (hf:P.funcs[f]? = some fn) (hb:fn.body=some c) (hn:Nat.ble args.length fn.ntmps=true) (he:Cov ((List.range args.length).zip args) e) (hst:St w0 S l w)
  (h:JC P (bodyPostM Fence.wide 0 P fn R) fn.ntmps c e (St w0 S l)):Calls P f args.toArray w R:=by
 refine callsIn_wide.1 (callsIn_of_wp_marks (F:=Fence.wide) (n:=0) hf hb trivial ((wpIn_wide (n:=0)).2 ?_))
 have hn':args.length≤fn.ntmps:=Nat.le_of_ble_eq_true hn
 refine h _ w (Rep.cov ⟨by simp;omega,fun t v hv=>?_⟩ he) hst
 have key:∀(l:List Value) (k:Nat),get ((List.range' k l.length).zip l) t=some v→k≤t∧l[t - k]? = some v:=by
  intro l
  induction l with
  | nil=>intro k h;simp [J.get] at h
  | cons u l ih=>
   intro k h
   simp only [List.length_cons,List.range'_succ,List.zip_cons_cons,J.get] at h
   cases hk:Nat.beq k t with
   | true=>
    rw [hk] at h
    have:k=t:=by simpa using hk
    subst this
    simpa using h
   | false=>
    rw [hk] at h
    obtain ⟨h1,h2⟩:=ih (k+1) h
    refine ⟨by omega,?_⟩
    rw [show t - k=(t - (k+1))+1 by omega]
    simpa using h2
 rw [List.range_eq_range'] at hv
 obtain ⟨_,h2⟩:=key args 0 hv
 simp only [Nat.sub_zero] at h2
 have hlt:t<args.length:=(List.getElem?_eq_some_iff.1 h2).1
 rw [Array.getElem?_append_left (by simpa using hlt)]
 simpa using h2
end Go.J
namespace Go.J
open Go.RowKit
set_option linter.unusedVariables false
set_option linter.unusedSimpArgs false
structure WV where
 n:Int
 who:IDV
deriving instance DecidableEq for WV
abbrev cV (x:WV):List Value:=Value.int .i64 x.n::cI x.who
abbrev cM (a k:IDV):List Value:=cI a++cI k
def zV:WV:=⟨0,fun _=>0⟩
theorem cM_eq {a k b j:IDV}:cM a k=cM b j↔a=b∧k=j:=by
 show cI a++cI k=cI b++cI j↔_
 rw [app_iff (by rfl),cI_eq,cI_eq]
theorem cV_eq {x y:WV}:cV x=cV y↔x=y:=by
 obtain ⟨n,a⟩:=x
 obtain ⟨m,b⟩:=y
 show Value.int .i64 n::cI a=Value.int .i64 m::cI b↔_
 rw [List.cons.injEq,cI_eq]
 simp
abbrev BF:=IDV→IDV→WV
def updF (F:BF) (a k:IDV) (x:WV):BF:=fun b j=>if b=a∧j=k then x else F b j
def retF (F:BF) (l:List IDV):BF:=fun b j=>if b∈l then F b j else zV
structure Bk (F:BF) (es:Array MapEntry) (clock:Nat):Prop where
 st:MapKept.Stamped es clock
 at_:∀e,e∈es.toList→∃a k,e.key=.agg (cM a k).toArray∧e.val=.agg (cV (F a k)).toArray
 no:∀a k,(∀e,e∈es.toList→e.key≠.agg (cM a k).toArray)→F a k=zV
 ok:∀a k,okN (F a k).n
theorem okZ:okN zV.n:=by decide
theorem Bk.nil:Bk (fun _ _=>zV) #[] 0:=⟨⟨by simp,by simp,by simp⟩,by simp,fun _ _ _=>rfl,fun _ _=>okZ⟩
theorem Bk.keys {P:Program} {kt:TypeId} {F:BF} {es:Array MapEntry} {clock:Nat} (h:Bk F es clock) (kp:∀a k:IDV,∃l,keyOf P kt (.agg (cM a k).toArray)=some l):∀e,e∈es.toList→∃l,keyOf P kt e.key=some l:=by
 intro e he
 obtain ⟨a,k,h1,_⟩:=h.at_ e he
 rw [h1]
 exact kp a k
theorem Bk.look {F:BF} {es:Array MapEntry} {clock:Nat} (h:Bk F es clock) {a k:IDV} {v:Value} {ok:Bool} (hl:Look es.toList (.agg (cM a k).toArray) (.agg (cV zV).toArray) v ok):v=.agg (cV (F a k)).toArray:=by
 generalize hk:Value.agg (cM a k).toArray=q at hl
 generalize hz:Value.agg (cV zV).toArray=z at hl
 cases hl with
 | no hno=>rw [h.no a k (fun e he=>by rw [hk];exact hno e he),hz]
 | yes j e h1 h2=>
  obtain ⟨b,i,h3,h4⟩:=h.at_ e (List.mem_of_getElem? h1)
  have h5:=h3.symm.trans (h2.trans hk.symm)
  obtain ⟨rfl,rfl⟩:=cM_eq.1 (agg_inj.1 h5)
  exact h4
theorem run_update_any {P:Program} {w:World} {mt kt et:TypeId} {b clock:Nat} {es:Array MapEntry} {k v:Value} {l:Lit} (hm:P.underlying mt=some (.map kt et)) (K:WideMaps.KeyLaw P kt)
  (hb:w.heap[b]? = some (.map es clock)) (hk:keyOf P kt k=some l) (hes:∀e,e∈es.toList→∃l,keyOf P kt e.key=some l) :
  ∃es' clock',(Instr.mapUpdate mt (.map (some b)) k v).run P w=.ok () { w with heap:=w.heap.setIfInBounds b (.map es' clock') }∧
   ((es'=es.push { key:=k,val:=v,born:=clock }∧clock'=clock+1∧∀e,e∈es.toList→e.key≠k)∨∃j e0,es.toList[j]? = some e0∧e0.key=k∧es'=es.modify j (fun e=>{ e with key:=k,val:=v })∧clock'=clock):=by
 rcases K.find w hk es.toList hes with ⟨h1,h2⟩ | ⟨j,e0,h1,h2,h3⟩
 ·exact ⟨_,_,by simp [Instr.mapUpdate,qM hm,run_key hb,K.check w _ hk,h1,run_keyset _ hb],.inl ⟨rfl,rfl,h2⟩⟩
 ·have hj:es[j]? = some e0:=by simpa using h2
  exact ⟨es.modify j (fun e=>{ e with key:=k,val:=v }),clock,by simp [Instr.mapUpdate,qM hm,run_key hb,K.check w _ hk,h1,hj,h3,K.stays w hk,run_keyset _ hb],.inr ⟨j,e0,h2,h3,rfl,rfl⟩⟩
theorem Bk.upd {F:BF} {es es':Array MapEntry} {clock clock':Nat} {a k:IDV} {x:WV} (h:Bk F es clock) (hx:okN x.n)
  (hc:(es'=es.push { key:=.agg (cM a k).toArray,val:=.agg (cV x).toArray,born:=clock }∧clock'=clock+1∧∀e,e∈es.toList→e.key≠.agg (cM a k).toArray)∨∃j e0,es.toList[j]? = some e0∧e0.key=.agg (cM a k).toArray∧es'=es.modify j (fun e=>{ e with key:=.agg (cM a k).toArray,val:=.agg (cV x).toArray })∧clock'=clock) :
  Bk (updF F a k x) es' clock':=by
 have hok:∀b j,okN (updF F a k x b j).n:=fun b j=>by
  unfold updF
  split
  ·exact hx
  ·exact h.ok b j
 rcases hc with ⟨rfl,rfl,hno⟩ | ⟨j,e0,h1,h2,rfl,rfl⟩
 ·refine ⟨MapKept.stamped_push h.st hno,fun e he=>?_,fun b j hn=>?_,hok⟩
  ·simp only [Array.toList_push,List.mem_append,List.mem_singleton] at he
   rcases he with he | rfl
   ·obtain ⟨b,j,h3,h4⟩:=h.at_ e he
    refine ⟨b,j,h3,?_⟩
    have:¬(b=a∧j=k):=fun hq=>hno e he (by rw [h3,hq.1,hq.2])
    unfold updF
    rw [if_neg this]
    exact h4
   ·exact ⟨a,k,rfl,by unfold updF;rw [if_pos ⟨rfl,rfl⟩]⟩
  ·have h5:¬(b=a∧j=k):=fun hq=>hn { key:=.agg (cM a k).toArray,val:=.agg (cV x).toArray,born:=clock } (by simp) (by rw [hq.1,hq.2])
   unfold updF
   rw [if_neg h5]
   exact h.no b j (fun e he=>hn e (by simp [he]))
 ·have hj:j<es.size:=by simpa using (List.getElem?_eq_some_iff.1 h1).1
  have hmem:∀e,e∈(es.modify j (fun e=>{ e with key:=.agg (cM a k).toArray,val:=.agg (cV x).toArray })).toList→(e∈es.toList∧e.key≠.agg (cM a k).toArray)∨(e.key=.agg (cM a k).toArray∧e.val=.agg (cV x).toArray):=by
   intro e he
   obtain ⟨i,hi⟩:=List.mem_iff_getElem?.1 he
   rw [Array.getElem?_toList,Array.getElem?_modify] at hi
   by_cases hij:j=i
   ·subst hij
    rw [if_pos rfl,← Array.getElem?_toList,h1] at hi
    simp only [Option.map_some,Option.some.injEq] at hi
    subst hi
    exact .inr ⟨rfl,rfl⟩
   ·rw [if_neg hij,← Array.getElem?_toList] at hi
    refine .inl ⟨List.mem_of_getElem? hi,fun hk=>hij ?_⟩
    have hnd:=h.st.2.2
    have hji:(es.toList.map (·.key))[j]? = (es.toList.map (·.key))[i]?:=by rw [List.getElem?_map,List.getElem?_map,h1,hi];simp [h2,hk]
    have hjl:j<(es.toList.map (·.key)).length:=by simpa using hj
    exact (List.getElem?_inj hjl hnd).1 hji
  refine ⟨MapKept.stamped_modify h.st j _ (fun _ _=>rfl) (fun e he hje=>by rw [← Array.getElem?_toList,h1] at hje;cases hje;exact h2.symm),fun e he=>?_,fun b i hn=>?_,hok⟩
  ·rcases hmem e he with ⟨he,hne⟩ | ⟨hk,hv⟩
   ·obtain ⟨b,i,h3,h4⟩:=h.at_ e he
    refine ⟨b,i,h3,?_⟩
    have:¬(b=a∧i=k):=fun hq=>hne (by rw [h3,hq.1,hq.2])
    unfold updF
    rw [if_neg this]
    exact h4
   ·exact ⟨a,k,hk,by unfold updF;rw [if_pos ⟨rfl,rfl⟩];exact hv⟩
  ·have hkeys:∀e,e∈es.toList→e.key≠.agg (cM b i).toArray:=by
    intro e he hk
    obtain ⟨q,hq⟩:=List.mem_iff_getElem?.1 he
    have hq2:(es.modify j (fun e=>{ e with key:=.agg (cM a k).toArray,val:=.agg (cV x).toArray })).toList[q]? = some (if j=q then { e with key:=.agg (cM a k).toArray,val:=.agg (cV x).toArray } else e):=by
     rw [Array.getElem?_toList,Array.getElem?_modify,← Array.getElem?_toList,hq]
     split <;> rfl
    refine hn _ (List.mem_of_getElem? hq2) ?_
    split
    ·rename_i hjq
     subst hjq
     rw [h1] at hq
     cases hq
     exact h2.symm.trans hk
    ·exact hk
   have h5:¬(b=a∧i=k):=fun hq=>hkeys e0 (List.mem_of_getElem? h1) (by rw [h2,hq.1,hq.2])
   unfold updF
   rw [if_neg h5]
   exact h.no b i hkeys
section
variable {P:Program} {ops:Array Oper} {Q:Exit→Act→World→Prop} {n:Nat} {e:Env} {I I':World→Prop} {rest:List Oper}
variable {d t yt:Nat} {p:String} {af:Array Edge} {x y z:Operand} {v v1 v2:Value} {w0:World} {S:List Nat} {l l':List (Nat × Obj)}
structure RetS where
 es:Array MapEntry
 F:BF
 sn:List Nat
 o:Obj
structure RetI (es0:Array MapEntry) (F:BF) (fs:List IDV) (b clock:Nat) (s:RetS):Prop where
 bk:Bk s.F s.es clock
 it:IterAt b s.es clock s.sn s.o
 sub:∀e,e∈s.es.toList→e∈es0.toList
 nd:s.sn.Nodup
 old:∀x,x∈s.sn→x∈es0.toList.map (·.born)
 same:∀a k,a∈fs→s.F a k=F a k
 seen:∀e,e∈s.es.toList→e.born∈s.sn→∀a k,e.key=.agg (cM a k).toArray→a∈fs
theorem born_inj {es:Array MapEntry} {clock:Nat} (h:MapKept.Stamped es clock) {x y:MapEntry} (hx:x∈es.toList) (hy:y∈es.toList) (he:x.born=y.born):x=y:=by
 obtain ⟨i,hi⟩:=List.mem_iff_getElem?.1 hx
 obtain ⟨j,hj⟩:=List.mem_iff_getElem?.1 hy
 have h1:(es.toList.map (·.born))[i]? = (es.toList.map (·.born))[j]?:=by rw [List.getElem?_map,List.getElem?_map,hi,hj];simp [he]
 have h2:=(List.getElem?_inj (by simpa using (List.getElem?_eq_some_iff.1 hi).1) h.2.1).1 h1
 subst h2
 rw [hi] at hj
 exact Option.some.inj hj
theorem nodup_le {l m:List Nat} (hl:l.Nodup) (hs:∀x,x∈l→x∈m):l.length≤m.length:=by
 induction l generalizing m with
 | nil=>simp
 | cons a l ih=>
  have h1:=List.nodup_cons.1 hl
  have h2:=ih (m:=m.erase a) h1.2 (fun x hx=>(List.mem_erase_of_ne (fun e=>h1.1 (by rw [← e];exact hx))).2 (hs x (.tail _ hx)))
  have h3:=List.length_erase_of_mem (hs a (.head _))
  have h4:=List.length_pos_of_mem (hs a (.head _))
  simp only [List.length_cons]
  omega
theorem IterOn.sub {b:Nat} {es es':Array MapEntry} {clock:Nat} {sn:List Nat} {en:MapEntry} {o:Obj} (h:IterOn b es clock sn en o) (hs:∀e,e∈es'.toList→e∈es.toList):IterOn b es' clock sn en o:=by
 obtain ⟨since,h1,h2,h3⟩:=h
 exact ⟨since,h1,h2,fun x hx=>h3 x (hs x hx)⟩
section
variable {es0:Array MapEntry} {F:BF} {fs:List IDV} {b clock:Nat} {s:RetS} {en:MapEntry} {o':Obj}
theorem RetI.more (h:RetI es0 F fs b clock s) (hm:en∈s.es.toList) (hn:en.born ∉ s.sn):(s.sn++[en.born]).Nodup∧(∀x,x∈s.sn++[en.born]→x∈es0.toList.map (·.born))∧s.sn.length+1≤es0.size:=by
 have h1:(s.sn++[en.born]).Nodup:=List.nodup_append.2 ⟨h.nd,by simp,fun x hx y hy e=>hn (by simp at hy;rw [← hy,← e];exact hx)⟩
 have h2:∀x,x∈s.sn++[en.born]→x∈es0.toList.map (·.born):=fun x hx=>(List.mem_append.1 hx).elim (h.old x) (fun hx=>by rw [List.mem_singleton.1 hx];exact List.mem_map.2 ⟨en,h.sub en hm,rfl⟩)
 have h3:=nodup_le h1 h2
 simp at h3
 exact ⟨h1,h2,h3⟩
theorem RetI.keep (h:RetI es0 F fs b clock s) (hm:en∈s.es.toList) (hn:en.born ∉ s.sn) (ho:IterOn b s.es clock s.sn en o') {a k:IDV} (hk:en.key=.agg (cM a k).toArray) (ha:a∈fs):RetI es0 F fs b clock ⟨s.es,s.F,s.sn++[en.born],o'⟩:=by
 obtain ⟨h1,h2,_⟩:=h.more hm hn
 refine ⟨h.bk,ho.at,h.sub,h1,h2,h.same,fun e he hb a' k' hk'=>?_⟩
 rcases List.mem_append.1 hb with hb | hb
 ·exact h.seen e he hb a' k' hk'
 ·have:e=en:=born_inj h.bk.st he hm (List.mem_singleton.1 hb)
  subst this
  have:=cM_eq.1 (agg_inj.1 (hk'.symm.trans hk))
  rw [this.1];exact ha
theorem RetI.done (h:RetI es0 F fs b clock s) (hall:∀x,x∈s.es.toList→x.born∈s.sn):Bk (retF F fs) s.es clock:=by
 have:s.F=retF F fs:=by
  funext a k
  unfold retF
  by_cases ha:a∈fs
  ·rw [if_pos ha];exact h.same a k ha
  ·rw [if_neg ha]
   exact h.bk.no a k (fun e he hk=>ha (h.seen e he (hall e he) a k hk))
 rw [← this]
 exact h.bk
theorem RetI.start {F:BF} {es:Array MapEntry} {o:Obj} (hb:Bk F es clock) (ho:IterAt b es clock [] o):RetI es F fs b clock ⟨es,F,[],o⟩:=
 ⟨hb,ho,fun _ h=>h,.nil,by simp,fun _ _ _=>rfl,by simp⟩
end
end
end Go.J
namespace Go.Proofs.Ytoaenmlhehcjfaa
open Go.J Go.RowKit
set_option linter.unusedVariables false
set_option linter.unusedSimpArgs false
set_option maxRecDepth 8000
structure HI where
 key:IDV
 ver:WV
 bs:List UInt8
 sv:Value
 lp:List (Nat × Obj)
structure ItV where
 key:IDV
 ver:WV
 bs:List UInt8
deriving DecidableEq
def HI.it (x:HI):ItV:=⟨x.key,x.ver,x.bs⟩
abbrev cH (x:HI):List Value:=cI x.key++cV x.ver++[x.sv]
def zH:HI:=⟨zI,zV,[],.slice none 0 0,[]⟩
namespace Ty
theorem cVr:Try.prog.cellsOf 25=17:=by kernel_rfl
theorem cLL:Try.prog.cellsOf 2=1:=by kernel_rfl
theorem fkVr:fieldsK Try.prog 25=some [(2,0),(23,1)]:=by kernel_rfl
theorem litsV (x:WV) (hx:okN x.n) (d:Nat):Try.prog.keyLits (d+3) 25 (cV x)=some [[.int .i64 x.n],(Go.J.lI x.who).flatten].flatten:=by
 refine lits_struct (d:=d+2) fkVr (by rw [cVr];rfl) ?_
 have h1:Try.prog.keyLits (d+2) 2 [.int .i64 x.n]=some [.int .i64 x.n]:=lits_int (d:=d+1) u2 hx
 have h2:=litsI x.who d
 simp only [List.mapM_cons,List.mapM_nil,cLL,cID]
 rw [show ((cV x).drop 0).take 1=[.int .i64 x.n] from rfl,show ((cV x).drop 1).take 16=cI x.who from rfl,h1,h2];rfl
theorem keyV (x:WV) (hx:okN x.n):∃l,keyOf Try.prog 25 (.agg (cV x).toArray)=some l:=key_of size_ (by kernel_rfl) (by kernel_rfl) (by rw [cVr];rfl) (litsV x hx _)
theorem QV:EqL Try.prog 25:=EqL.of (m:=5) (by kernel_rfl) (by omega) (by kernel_rfl) (by kernel_rfl) (by kernel_rfl)
theorem KI:WideMaps.KeyLaw Try.prog 23:=deep_law (m:=5) (by omega) (by kernel_rfl) (by kernel_rfl) (by kernel_rfl)
theorem zVr:zeroT Try.prog 25=some (.agg (cV zV).toArray):=by kernel_rfl
theorem zIt:zeroT Try.prog 28=some (.agg (cH zH).toArray):=by kernel_rfl
end Ty
theorem one_cV (x:WV):∀v,v∈cV x→v.oneCell'=true:=by
 intro v hv
 rcases List.mem_cons.1 hv with rfl | hv
 ·rfl
 ·exact zN _ v hv
theorem zi {x:HI} {a:Option Addr} {k c:Nat} (h:x.sv=.slice a k c):∀v,v∈cH x→v.oneCell'=true:=by
 intro v hv
 rcases List.mem_append.1 hv with hv | hv
 ·rcases List.mem_append.1 hv with hv | hv
  ·exact zN _ v hv
  ·exact one_cV _ v hv
 ·rw [List.mem_singleton.1 hv,h];rfl
theorem J.neV {ops:Array Oper} {Q:Exit→Act→World→Prop} {n:Nat} {e:Env} {I:World→Prop} {rest:List Oper} {d t yt:Nat} {p:String} {af:Array Edge} {x y:Operand} {a b:WV} (hx:ev e x=some (.agg (cV a).toArray)) (hy:ev e y=some (.agg (cV b).toArray)) (ha:okN a.n) (hb:okN b.n) (hd:Nat.blt d n=true)
  (h:J Try.prog ops Q n rest ((d,.bool (!decide (a=b)))::e) I):J Try.prog ops Q n (⟨some d,.binOp .neq 25 x y yt,t,p,af,none⟩::rest) e I:=by
 obtain ⟨_,k1⟩:=Ty.keyV a ha
 obtain ⟨_,k2⟩:=Ty.keyV b hb
 refine J.neA Ty.QV hx hy k1 k2 hd fun r hr=>?_
 rw [arr_inj,cV_eq] at hr
 rw [dec_of hr];exact h
def hget (L:List HI) (k:IDV):Option HI:=L.find? (fun h=>decide (h.key=k))
def hset (L:List HI) (x:HI):List HI:=if (hget L x.key).isSome then L.map (fun h=>if h.key=x.key then x else h) else L++[x]
def getV (L:List ItV) (k:IDV):Option ItV:=L.find? (fun h=>decide (h.key=k))
def setV (L:List ItV) (x:ItV):List ItV:=if (getV L x.key).isSome then L.map (fun h=>if h.key=x.key then x else h) else L++[x]
theorem z8 (L:List HI) (k:IDV):getV (L.map HI.it) k=(hget L k).map HI.it:=by
 unfold getV hget
 rw [List.find?_map]
 rfl
theorem hset_it (L:List HI) (x:HI):(hset L x).map HI.it=setV (L.map HI.it) x.it:=by
 unfold hset setV
 rw [z8,Option.isSome_map]
 have e:x.it.key=x.key:=rfl
 rw [e]
 split
 ·rw [List.map_map,List.map_map]
  refine List.map_congr_left fun h _=>?_
  show HI.it (if h.key=x.key then x else h)=if h.key=x.key then x.it else h.it
  split <;> rfl
 ·rw [List.map_append];rfl
structure Vm (L:List HI) (es:Array MapEntry) (clock:Nat):Prop where
 st:MapKept.Stamped es clock
 eq:es.toList.map (fun e=>(e.key,e.val))=L.map (fun h=>(Value.agg (cI h.key).toArray,Value.agg (cH h).toArray))
theorem Vm.nil:Vm [] #[] 0:=⟨⟨by simp,by simp,by simp⟩,rfl⟩
theorem Vm.keysEq {L:List HI} {es:Array MapEntry} {clock:Nat} (h:Vm L es clock):es.toList.map (·.key)=L.map (fun h=>Value.agg (cI h.key).toArray):=by
 have:=congrArg (List.map Prod.fst) h.eq
 rwa [List.map_map,List.map_map] at this
theorem Vm.nodup {L:List HI} {es:Array MapEntry} {clock:Nat} (h:Vm L es clock):L.Pairwise (fun x y=>x.key≠y.key):=by
 have h1:(es.toList.map (·.key)).Nodup:=h.st.2.2
 rw [h.keysEq] at h1
 rw [List.Nodup,List.pairwise_map] at h1
 exact h1.imp fun hne e=>hne (by rw [e])
theorem Vm.get {L:List HI} {es:Array MapEntry} {clock:Nat} (h:Vm L es clock) {i:Nat} {x:HI} (hx:L[i]? = some x):∃e,es.toList[i]? = some e∧e.key=.agg (cI x.key).toArray∧e.val=.agg (cH x).toArray:=by
 have h1:=congrArg (fun l=>l[i]?) h.eq
 simp only [List.getElem?_map,hx,Option.map_some] at h1
 obtain ⟨e,he,h2⟩:=Option.map_eq_some_iff.1 h1
 rw [Prod.mk.injEq] at h2
 exact ⟨e,he,h2.1,h2.2⟩
theorem Vm.get' {L:List HI} {es:Array MapEntry} {clock:Nat} (h:Vm L es clock) {i:Nat} {e:MapEntry} (he:es.toList[i]? = some e):∃x,L[i]? = some x∧e.key=.agg (cI x.key).toArray∧e.val=.agg (cH x).toArray:=by
 have h1:=congrArg (fun l=>l[i]?) h.eq
 simp only [List.getElem?_map,he,Option.map_some] at h1
 obtain ⟨x,hx,h2⟩:=Option.map_eq_some_iff.1 h1.symm
 rw [Prod.mk.injEq] at h2
 exact ⟨x,hx,h2.1.symm,h2.2.symm⟩
theorem Vm.keys {P:Program} {kt:TypeId} {L:List HI} {es:Array MapEntry} {clock:Nat} (h:Vm L es clock) (kp:∀a:IDV,∃l,keyOf P kt (.agg (cI a).toArray)=some l):∀e,e∈es.toList→∃l,keyOf P kt e.key=some l:=by
 intro e he
 obtain ⟨i,hi⟩:=List.mem_iff_getElem?.1 he
 obtain ⟨x,_,h1,_⟩:=h.get' hi
 rw [h1]
 exact kp x.key
theorem hget_none {L:List HI} {k:IDV}:hget L k=none↔∀x,x∈L→x.key≠k:=by
 unfold hget
 rw [List.find?_eq_none]
 simp
theorem hget_at {L:List HI} (hd:L.Pairwise (fun x y=>x.key≠y.key)) {i:Nat} {x:HI} (hx:L[i]? = some x):hget L x.key=some x:=by
 induction L generalizing i with
 | nil=>cases hx
 | cons y L ih=>
  unfold hget
  rw [List.find?_cons]
  obtain ⟨h1,h2⟩:=List.pairwise_cons.1 hd
  cases i with
  | zero=>
   simp only [List.getElem?_cons_zero,Option.some.injEq] at hx
   subst hx
   simp
  | succ i=>
   rw [List.getElem?_cons_succ] at hx
   have hne:y.key≠x.key:=h1 x (List.mem_of_getElem? hx)
   rw [decide_eq_false hne]
   exact ih h2 hx
theorem zT {L:List HI} {k:IDV} {x:HI} (h:hget L k=some x):x∈L∧x.key=k:=⟨List.mem_of_find?_eq_some h,by have:=List.find?_some h;simpa using this⟩
theorem Vm.look {L:List HI} {es:Array MapEntry} {clock:Nat} (h:Vm L es clock) {k:IDV} {v:Value} {ok:Bool} (hl:Look es.toList (.agg (cI k).toArray) (.agg (cH zH).toArray) v ok):v=.agg (cH ((hget L k).getD zH)).toArray∧ok=(hget L k).isSome:=by
 generalize hk:Value.agg (cI k).toArray=q at hl
 generalize hz:Value.agg (cH zH).toArray=z at hl
 cases hl with
 | no hno=>
  have hn:hget L k=none:=hget_none.2 fun x hx e=>by
   obtain ⟨i,hi⟩:=List.mem_iff_getElem?.1 hx
   obtain ⟨en,he,h1,_⟩:=h.get hi
   exact hno en (List.mem_of_getElem? he) (by rw [h1,e];exact hk)
  rw [hn]
  exact ⟨hz.symm,rfl⟩
 | yes j e h1 h2=>
  obtain ⟨x,hx,h3,h4⟩:=h.get' h1
  have h5:Value.agg (cI x.key).toArray=Value.agg (cI k).toArray:=h3.symm.trans (h2.trans hk.symm)
  have h6:x.key=k:=cI_eq.1 (agg_inj.1 h5)
  have h7:=hget_at h.nodup hx
  rw [h6] at h7
  rw [h7]
  exact ⟨h4,rfl⟩
theorem Vm.upd {L:List HI} {es es':Array MapEntry} {clock clock':Nat} {x:HI} (h:Vm L es clock)
  (hc:(es'=es.push { key:=.agg (cI x.key).toArray,val:=.agg (cH x).toArray,born:=clock }∧clock'=clock+1∧∀e,e∈es.toList→e.key≠.agg (cI x.key).toArray)∨∃j e0,es.toList[j]? = some e0∧e0.key=.agg (cI x.key).toArray∧es'=es.modify j (fun e=>{ e with key:=.agg (cI x.key).toArray,val:=.agg (cH x).toArray })∧clock'=clock) :
  Vm (hset L x) es' clock':=by
 rcases hc with ⟨rfl,rfl,hno⟩ | ⟨j,e0,h1,h2,rfl,rfl⟩
 ·have hn:hget L x.key=none:=hget_none.2 fun y hy e=>by
   obtain ⟨i,hi⟩:=List.mem_iff_getElem?.1 hy
   obtain ⟨en,he,h1,_⟩:=h.get hi
   exact hno en (List.mem_of_getElem? he) (by rw [h1,e])
  refine ⟨MapKept.stamped_push h.st hno,?_⟩
  unfold hset
  rw [hn]
  simp only [Array.toList_push,Option.isSome_none,Bool.false_eq_true,if_false,List.map_append,h.eq]
  rfl
 ·obtain ⟨y,hy,h3,h4⟩:=h.get' h1
  have hyk:y.key=x.key:=cI_eq.1 (agg_inj.1 (h3.symm.trans h2))
  have hs:hget L x.key=some y:=by rw [← hyk];exact hget_at h.nodup hy
  refine ⟨MapKept.stamped_modify h.st j _ (fun _ _=>rfl) (fun e he hje=>by rw [← Array.getElem?_toList,h1] at hje;cases hje;exact h2.symm),?_⟩
  unfold hset
  rw [hs]
  refine List.ext_getElem? fun i=>?_
  simp only [Option.isSome_some,if_true,List.getElem?_map,Array.getElem?_toList,Array.getElem?_modify]
  have hi:=congrArg (fun l=>l[i]?) h.eq
  simp only [List.getElem?_map,Array.getElem?_toList] at hi
  by_cases hij:j=i
  ·subst hij
   rw [if_pos rfl,← Array.getElem?_toList,h1,hy]
   simp [hyk]
  ·rw [if_neg hij,hi]
   cases hLi:L[i]? with
   | none=>rfl
   | some z=>
    have hzk:z.key≠x.key:=fun e=>by
     have hp:=List.pairwise_iff_getElem.1 h.nodup
     obtain ⟨l1,l2⟩:=List.getElem?_eq_some_iff.1 hy
     obtain ⟨l3,l4⟩:=List.getElem?_eq_some_iff.1 hLi
     rcases Nat.lt_or_gt_of_ne hij with hlt | hlt
     ·exact hp j i l1 l3 hlt (by rw [l2,l4,hyk,e])
     ·exact hp i j l3 l1 hlt (by rw [l2,l4,hyk,e])
    simp [hzk]
def SubP (a b:List (Nat × Obj)):Prop:=∃c,List.Perm b (a++c)
theorem SubP.trans {a b c:List (Nat × Obj)} (h1:SubP a b) (h2:SubP b c):SubP a c:=by
 obtain ⟨x,hx⟩:=h1
 obtain ⟨y,hy⟩:=h2
 exact ⟨x++y,hy.trans ((hx.append_right y).trans (by rw [List.append_assoc]))⟩
theorem SubP.app {a b:List (Nat × Obj)} (c:List (Nat × Obj)) (h:SubP a b):SubP (c++a) (c++b):=by
 obtain ⟨x,hx⟩:=h
 exact ⟨x,by rw [List.append_assoc];exact hx.append_left c⟩
theorem SubP.st {a b l:List (Nat × Obj)} {w0 w:World} {S:List Nat} (h:SubP a b) (hw:St w0 S (b++l) w):St w0 S (a++l) w:=by
 obtain ⟨x,hx⟩:=h
 have h1:List.Perm (b++l) (x++(a++l)):=(hx.append_right l).trans (by rw [List.append_assoc];exact List.perm_append_comm_assoc a x l)
 exact (hw.perm h1).drop (List.sublist_append_right _ _)
def lpsH (L:List HI):List (Nat × Obj):=L.flatMap (·.lp)
theorem hset_split {L:List HI} (hd:L.Pairwise (fun x y=>x.key≠y.key)) {x y:HI} (h:hget L x.key=some y):∃l1 l2,L=l1++y::l2∧hset L x=l1++x::l2:=by
 obtain ⟨hy,l1,l2,hL,h1⟩:=List.find?_eq_some_iff_append.1 h
 have hyk:y.key=x.key:=by simpa using hy
 refine ⟨l1,l2,hL,?_⟩
 unfold hset
 rw [h]
 simp only [Option.isSome_some,if_true]
 rw [hL] at hd ⊢
 have hd2:=(List.pairwise_append.1 hd).2.1
 rw [List.map_append,List.map_cons,if_pos hyk]
 have e1:l1.map (fun h=>if h.key=x.key then x else h)=l1:=by
  rw [List.map_congr_left (g:=id) fun z hz=>?_,List.map_id]
  have:=h1 z hz
  rw [if_neg (by simpa using this)];rfl
 have e2:l2.map (fun h=>if h.key=x.key then x else h)=l2:=by
  rw [List.map_congr_left (g:=id) fun z hz=>?_,List.map_id]
  have:=(List.pairwise_cons.1 hd2).1 z hz
  rw [if_neg (fun e=>this (hyk.trans e.symm))];rfl
 rw [e1,e2]
theorem hset_sub {L:List HI} (hd:L.Pairwise (fun x y=>x.key≠y.key)) (x:HI):SubP (lpsH (hset L x)) (x.lp++lpsH L):=by
 cases h:hget L x.key with
 | none=>
  refine ⟨[],?_⟩
  unfold hset lpsH
  rw [h,List.append_nil]
  simp only [Option.isSome_none,Bool.false_eq_true,if_false,List.flatMap_append,List.flatMap_cons,List.flatMap_nil,List.append_nil]
  exact List.perm_append_comm
 | some y=>
  obtain ⟨l1,l2,h1,h2⟩:=hset_split hd h
  refine ⟨y.lp,?_⟩
  rw [h2,h1]
  unfold lpsH
  simp only [List.flatMap_append,List.flatMap_cons]
  exact zp
theorem hset_mem {L:List HI} {x z:HI} (h:z∈hset L x):z=x∨z∈L:=by
 unfold hset at h
 split at h
 ·obtain ⟨y,hy,rfl⟩:=List.mem_map.1 h
  split
  ·exact .inl rfl
  ·exact .inr hy
 ·rcases List.mem_append.1 h with h | h
  ·exact .inr h
  ·exact .inl (List.mem_singleton.1 h)
theorem hset_len (L:List HI) (x:HI):(hset L x).length≤L.length+1:=by
 unfold hset
 split <;> simp
abbrev okV (n:Int):Prop:=0≤n∧n<4611686018427387904
def VOK (L:List HI):Prop:=∀x,x∈L→okV x.ver.n∧Vec 5 1 x.sv x.bs.length (x.bs.map u8) x.lp
theorem VOK.nil:VOK []:=fun _ h=>(by cases h)
theorem VOK.set {L:List HI} {x:HI} (h:VOK L) (hx:okV x.ver.n∧Vec 5 1 x.sv x.bs.length (x.bs.map u8) x.lp):VOK (hset L x):=fun z hz=>by
 rcases hset_mem hz with rfl | hz
 ·exact hx
 ·exact h z hz
section
variable {P:Program} {ops:Array Oper} {Q:Exit→Act→World→Prop} {n:Nat} {e:Env} {I I':World→Prop} {rest:List Oper}
variable {d t yt:Nat} {p:String} {af:Array Edge} {x y z:Operand} {v v1 v2:Value} {w0:World} {S:List Nat} {l l':List (Nat × Obj)}
theorem J.lookV1 {mt kt et:TypeId} {b clock:Nat} {es:Array MapEntry} {L:List HI} {k:IDV} (hm:P.underlying mt=some (.map kt et)) (K:WideMaps.KeyLaw P kt) (kp:∀a:IDV,∃l,keyOf P kt (.agg (cI a).toArray)=some l) (hz:zeroT P et=some (.agg (cH zH).toArray))
  (hx:ev e x=some (.map (some b))) (hy:ev e y=some (.agg (cI k).toArray)) (hT:Vm L es clock) (hb:∀w,I w→w.heap[b]? = some (.map es clock)) (hd:Nat.blt d n=true)
  (h:J P ops Q n rest ((d,.agg (cH ((hget L k).getD zH)).toArray)::e) I):J P ops Q n (⟨some d,.lookup mt x y false,t,p,af,none⟩::rest) e I:=by
 obtain ⟨_,k1⟩:=kp k
 refine J.lookup1 hm K hz hx hy hb k1 (hT.keys kp) hd fun u ok hl=>?_
 rw [(hT.look hl).1]
 exact h
theorem J.lookV2 {mt kt et:TypeId} {b clock:Nat} {es:Array MapEntry} {L:List HI} {k:IDV} (hm:P.underlying mt=some (.map kt et)) (K:WideMaps.KeyLaw P kt) (kp:∀a:IDV,∃l,keyOf P kt (.agg (cI a).toArray)=some l) (hz:zeroT P et=some (.agg (cH zH).toArray))
  (hx:ev e x=some (.map (some b))) (hy:ev e y=some (.agg (cI k).toArray)) (hT:Vm L es clock) (hb:∀w,I w→w.heap[b]? = some (.map es clock)) (hd:Nat.blt d n=true)
  (h:J P ops Q n rest ((d,.tuple #[.agg (cH ((hget L k).getD zH)).toArray,.bool (hget L k).isSome])::e) I):J P ops Q n (⟨some d,.lookup mt x y true,t,p,af,none⟩::rest) e I:=by
 obtain ⟨_,k1⟩:=kp k
 refine J.lookup2 hm K hz hx hy hb k1 (hT.keys kp) hd fun u ok hl=>?_
 rw [(hT.look hl).1,(hT.look hl).2]
 exact h
theorem J.updV {mt kt et:TypeId} {b clock:Nat} {es:Array MapEntry} {L:List HI} {xh:HI} {l':Array MapEntry→Nat→List (Nat × Obj)} (hm:P.underlying mt=some (.map kt et)) (K:WideMaps.KeyLaw P kt) (kp:∀a:IDV,∃l,keyOf P kt (.agg (cI a).toArray)=some l)
  (hx:ev e x=some (.map (some b))) (hy:ev e y=some (.agg (cI xh.key).toArray)) (hz:ev e z=some (.agg (cH xh).toArray)) (hT:Vm L es clock) (hu:∀es' c',Up l b (.map es clock) (.map es' c') (l' es' c'))
  (h:∀es' c',Vm (hset L xh) es' c'→J P ops Q n rest e (St w0 S (l' es' c'))):J P ops Q n (⟨none,.mapUpdate mt x y z,t,p,af,none⟩::rest) e (St w0 S l):=by
 obtain ⟨lk,hlk⟩:=kp xh.key
 obtain ⟨kv,hkv⟩:∃kv,kv=Value.agg (cI xh.key).toArray:=⟨_,rfl⟩
 obtain ⟨uv,huv⟩:∃uv,uv=Value.agg (cH xh).toArray:=⟨_,rfl⟩
 rw [← hkv] at hy hlk
 rw [← huv] at hz
 refine J.skipN (I':=fun w=>∃q:Array MapEntry × Nat,Vm (hset L xh) q.1 q.2∧St w0 S (l' q.1 q.2) w) (fun T w ht hw=>?_) (J.ex fun q=>J.pr fun hq=>h q.1 q.2 hq)
 have hb:=hw.own _ (hu es clock).mem
 obtain ⟨es',c',hrun,hcase⟩:=run_update_any (v:=uv) hm K hb hlk (hT.keys kp)
 rw [hkv,huv] at hcase
 exact ⟨_,by simp [execOp,ht.eval hx,ht.eval hy,ht.eval hz,hrun],(es',c'),hT.upd hcase,hw.wrote (hu es' c') (wrote_set hb)⟩
end
abbrev cT (key:IDV) (ver:WV) (sv:Value):List Value:=cI key++cV ver++[sv]
def newB (a b:WV):Bool:=decide (b.n<a.n) || (decide (a.n=b.n)&&decide (valI b.who<valI a.who))
def formB (x:ItV):List UInt8:=numB 2++bI x.key++numB x.ver.n.toNat++bI x.ver.who++textB x.bs
theorem set_sv (key:IDV) (ver:WV) (sv v:Value):setMany (cT key ver sv) 33 [v]=cT key ver v:=rfl
theorem zF {key:IDV} {ver:WV} {a:Option Addr} {k c:Nat}:∀v,v∈cT key ver (.slice a k c)→v.oneCell'=true:=zi (x:=⟨key,ver,[],.slice a k c,[]⟩) rfl
theorem textB_le (bs:List UInt8):(textB bs).length≤9+bs.length:=by
 unfold textB
 have:=zM bs.length
 rw [List.length_append];omega
theorem formB_le (x:ItV):(formB x).length≤80+x.bs.length:=by
 unfold formB
 have h1:=zM 2
 have h2:=zM x.ver.n.toNat
 have h3:=textB_le x.bs
 have h4:(bI x.key).length=16:=rfl
 have h5:(bI x.ver.who).length=16:=rfl
 simp only [List.length_append];omega
theorem zG (a:IDV):(bI a).length=16:=rfl
theorem cmp_pos (a b:IDV):cmpI a b>0↔valI b<valI a:=by
 unfold cmpI
 split
 ·constructor <;> intro h <;> omega
 ·split
  ·constructor <;> intro h <;> omega
  ·constructor <;> intro h <;> omega
set_option maxHeartbeats 1000000 in
theorem newer_spec (a b:WV) (w:World) :
  Calls Try.prog 13 [.agg (cV a).toArray,.agg (cV b).toArray].toArray w fun r w'=>r=.returned (.bool (newB a b))∧Bel w w':=by
 refine qD (args:=[.agg (cV a).toArray,.agg (cV b).toArray]) (e:=[(0,.agg (cV a).toArray),(1,.agg (cV b).toArray)]) Try.func13 rfl rfl ⟨rfl,rfl,trivial⟩ (St.start w) ?_;refine JC.seq (fun K0 hK0=>?_);refine JC.region ?_;refine J.box rfl rfl rfl (fun b2=>?_);refine J.box rfl rfl rfl (fun b3=>?_);refine J.assign rfl rfl<|J.nil ?_;refine JX.qd (hK0 _ _ ?_);refine JC.seq (fun K1 hK1=>?_)
 by_cases h1:b.n<a.n
 ·have hr:newB a b=true:=by unfold newB;rw [decide_eq_true h1,Bool.true_or]
  refine JC.region<|J.qi Ty.fd25_0 rfl rfl<|J.qw (v:=.int .i64 a.n) Ty.a2 rfl (fun w1 hw=>by rw [qB (hw.own ((b2,cb (cV a) 25)) zm)];rfl) rfl ?_;refine J.qi Ty.fd25_0 rfl rfl<|J.qw (v:=.int .i64 b.n) Ty.a2 rfl (fun w1 hw=>by rw [qB (hw.own ((b3,cb (cV b) 25)) zm)];rfl) rfl ?_;refine J.qj rfl rfl rfl rfl<|J.name 9 rfl (show _=Value.bool true by simp;omega) ?_;refine J.qe rfl rfl ?_
  first | refine J.skip rfl rfl rfl rfl rfl ?_ | refine J.qh rfl rfl rfl rfl ?_ | (refine J.qf rfl rfl rfl ?_;refine J.qi Ty.fd25_0 rfl rfl ?_)
  first | refine J.skip rfl rfl rfl rfl rfl ?_ | refine J.qh rfl rfl rfl rfl ?_ | (refine J.qf rfl rfl rfl ?_;refine J.qQ Ty.a2 rfl zm (by exact rfl) rfl ?_)
  first | refine J.skip rfl rfl rfl rfl rfl ?_ | refine J.qh rfl rfl rfl rfl ?_ | (refine J.qf rfl rfl rfl ?_;refine J.qi Ty.fd25_0 rfl rfl ?_)
  first | refine J.skip rfl rfl rfl rfl rfl ?_ | refine J.qh rfl rfl rfl rfl ?_ | (refine J.qf rfl rfl rfl ?_;refine J.qQ Ty.a2 rfl zm (by exact rfl) rfl ?_)
  first | refine J.skip rfl rfl rfl rfl rfl ?_ | refine J.qh rfl rfl rfl rfl ?_ | (refine J.qf rfl rfl rfl ?_;refine J.qj rfl rfl rfl rfl ?_)
  first | refine J.skip rfl rfl rfl rfl rfl ?_ | refine J.qh rfl rfl rfl rfl ?_ | (refine J.qf rfl rfl rfl ?_;refine J.qe rfl rfl ?_)
  first | refine J.skip rfl rfl rfl rfl rfl ?_ | refine J.qh rfl rfl rfl rfl ?_ | (refine J.qf rfl rfl rfl ?_;refine J.qi Ty.fd25_1 rfl rfl ?_)
  first | refine J.skip rfl rfl rfl rfl rfl ?_ | refine J.qh rfl rfl rfl rfl ?_ | (refine J.qf rfl rfl rfl ?_;refine J.zB Ty.a23 Ty.s23 rfl zm (by exact rfl) rfl rfl ?_)
  first | refine J.skip rfl rfl rfl rfl rfl ?_ | refine J.qh rfl rfl rfl rfl ?_ | (refine J.qf rfl rfl rfl ?_;refine J.qi Ty.fd25_1 rfl rfl ?_)
  first | refine J.skip rfl rfl rfl rfl rfl ?_ | refine J.qh rfl rfl rfl rfl ?_ | (refine J.qf rfl rfl rfl ?_;refine J.zB Ty.a23 Ty.s23 rfl zm (by exact rfl) rfl rfl ?_)
  first | refine J.skip rfl rfl rfl rfl rfl ?_ | refine J.qh rfl rfl rfl rfl ?_ | (refine J.qf rfl rfl rfl ?_;fail)
  first | refine J.skip rfl rfl rfl rfl rfl ?_ | refine J.qh rfl rfl rfl rfl ?_ | (refine J.qf rfl rfl rfl ?_;refine J.qj rfl rfl rfl rfl ?_)
  first | refine J.skip rfl rfl rfl rfl rfl ?_ | refine J.qh rfl rfl rfl rfl ?_ | (refine J.qf rfl rfl rfl ?_;(first | refine J.qr rfl rfl rfl ?_ | refine J.qs rfl rfl rfl ?_))
  (first | refine J.qr rfl rfl rfl ?_ | refine J.qs rfl rfl rfl ?_)
  refine J.assign rfl rfl<|J.nil ?_;refine JX.qd (hK1 _ _ ?_);refine JC.qA ?_;refine JX.qL rfl rfl (fun w hw=>?_)
  exact ⟨by rw [hr],(hw.drop (List.nil_sublist _)).below⟩
 ·by_cases h2:a.n=b.n
  ·have hr:newB a b=decide (valI b.who<valI a.who):=by unfold newB;rw [decide_eq_false h1,decide_eq_true h2,Bool.false_or,Bool.true_and]
   refine JC.region<|J.qi Ty.fd25_0 rfl rfl<|J.qw (v:=.int .i64 a.n) Ty.a2 rfl (fun w1 hw=>by rw [qB (hw.own ((b2,cb (cV a) 25)) zm)];rfl) rfl ?_;refine J.qi Ty.fd25_0 rfl rfl<|J.qw (v:=.int .i64 b.n) Ty.a2 rfl (fun w1 hw=>by rw [qB (hw.own ((b3,cb (cV b) 25)) zm)];rfl) rfl ?_;refine J.qj rfl rfl rfl rfl<|J.name 9 rfl (show _=Value.bool false by simp;omega) ?_;refine J.qe rfl rfl ?_
   first | refine J.skip rfl rfl rfl rfl rfl ?_ | refine J.qh rfl rfl rfl rfl ?_ | (refine J.qf rfl rfl rfl ?_;refine J.qi Ty.fd25_0 rfl rfl ?_)
   refine J.qf rfl rfl rfl<|J.qw (v:=.int .i64 a.n) Ty.a2 rfl (fun w1 hw=>by rw [qB (hw.own ((b2,cb (cV a) 25)) zm)];rfl) rfl ?_
   first | refine J.skip rfl rfl rfl rfl rfl ?_ | refine J.qh rfl rfl rfl rfl ?_ | (refine J.qf rfl rfl rfl ?_;refine J.qi Ty.fd25_0 rfl rfl ?_)
   refine J.qf rfl rfl rfl<|J.qw (v:=.int .i64 b.n) Ty.a2 rfl (fun w1 hw=>by rw [qB (hw.own ((b3,cb (cV b) 25)) zm)];rfl) rfl ?_;refine J.qf rfl rfl rfl<|J.qj rfl rfl rfl rfl<|J.name 15 rfl (show _=Value.bool true by simp [h2]) ?_
   first | refine J.skip rfl rfl rfl rfl rfl ?_ | refine J.qh rfl rfl rfl rfl ?_ | (refine J.qf rfl rfl rfl ?_;refine J.qe rfl rfl ?_)
   first | refine J.skip rfl rfl rfl rfl rfl ?_ | refine J.qh rfl rfl rfl rfl ?_ | (refine J.qf rfl rfl rfl ?_;refine J.qi Ty.fd25_1 rfl rfl ?_)
   refine J.qf rfl rfl rfl<|J.qC (vs:=cI a.who) Ty.a23 Ty.s23 rfl rfl (fun w1 hw=>Cells.of_block (hw.own ((b2,cb (cV a) 25)) zm) rfl) rfl ?_
   first | refine J.skip rfl rfl rfl rfl rfl ?_ | refine J.qh rfl rfl rfl rfl ?_ | (refine J.qf rfl rfl rfl ?_;refine J.qi Ty.fd25_1 rfl rfl ?_)
   refine J.qf rfl rfl rfl<|J.qC (vs:=cI b.who) Ty.a23 Ty.s23 rfl rfl (fun w1 hw=>Cells.of_block (hw.own ((b3,cb (cV b) 25)) zm) rfl) rfl ?_;refine J.qf rfl rfl rfl<|J.qR (v:=.int .i64 (cmpI a.who b.who)) (fun w1 w2 hw hb=>hw.step hb) Ty.bd43 rfl rfl (fun w1 hw=>compare_spec a.who b.who w1) ?_;refine J.qf rfl rfl rfl<|J.qj rfl rfl rfl rfl<|J.name 22 rfl (show _=Value.bool (decide (valI b.who<valI a.who)) from congrArg Value.bool (decide_eq_decide.2 (cmp_pos a.who b.who))) ?_
   first | refine J.skip rfl rfl rfl rfl rfl ?_ | refine J.qh rfl rfl rfl rfl ?_ | (refine J.qf rfl rfl rfl ?_;(first | refine J.qr rfl rfl rfl ?_ | refine J.qs rfl rfl rfl ?_))
   (first | refine J.qr rfl rfl rfl ?_ | refine J.qs rfl rfl rfl ?_)
   refine J.assign rfl rfl<|J.nil ?_;refine JX.qd (hK1 _ _ ?_);refine JC.qA ?_;refine JX.qL rfl rfl (fun w hw=>?_)
   exact ⟨by rw [hr],(hw.drop (List.nil_sublist _)).below⟩
  ·have hr:newB a b=false:=by unfold newB;rw [decide_eq_false h1,decide_eq_false h2,Bool.false_or,Bool.false_and]
   refine JC.region<|J.qi Ty.fd25_0 rfl rfl<|J.qw (v:=.int .i64 a.n) Ty.a2 rfl (fun w1 hw=>by rw [qB (hw.own ((b2,cb (cV a) 25)) zm)];rfl) rfl ?_;refine J.qi Ty.fd25_0 rfl rfl<|J.qw (v:=.int .i64 b.n) Ty.a2 rfl (fun w1 hw=>by rw [qB (hw.own ((b3,cb (cV b) 25)) zm)];rfl) rfl ?_;refine J.qj rfl rfl rfl rfl<|J.name 9 rfl (show _=Value.bool false by simp;omega) ?_;refine J.qe rfl rfl ?_
   first | refine J.skip rfl rfl rfl rfl rfl ?_ | refine J.qh rfl rfl rfl rfl ?_ | (refine J.qf rfl rfl rfl ?_;refine J.qi Ty.fd25_0 rfl rfl ?_)
   refine J.qf rfl rfl rfl<|J.qw (v:=.int .i64 a.n) Ty.a2 rfl (fun w1 hw=>by rw [qB (hw.own ((b2,cb (cV a) 25)) zm)];rfl) rfl ?_
   first | refine J.skip rfl rfl rfl rfl rfl ?_ | refine J.qh rfl rfl rfl rfl ?_ | (refine J.qf rfl rfl rfl ?_;refine J.qi Ty.fd25_0 rfl rfl ?_)
   refine J.qf rfl rfl rfl<|J.qw (v:=.int .i64 b.n) Ty.a2 rfl (fun w1 hw=>by rw [qB (hw.own ((b3,cb (cV b) 25)) zm)];rfl) rfl ?_;refine J.qf rfl rfl rfl<|J.qj rfl rfl rfl rfl<|J.name 15 rfl (show _=Value.bool false by simp [h2]) ?_
   first | refine J.skip rfl rfl rfl rfl rfl ?_ | refine J.qh rfl rfl rfl rfl ?_ | (refine J.qf rfl rfl rfl ?_;refine J.qe rfl rfl ?_)
   first | refine J.skip rfl rfl rfl rfl rfl ?_ | refine J.qh rfl rfl rfl rfl ?_ | (refine J.qf rfl rfl rfl ?_;refine J.qi Ty.fd25_1 rfl rfl ?_)
   first | refine J.skip rfl rfl rfl rfl rfl ?_ | refine J.qh rfl rfl rfl rfl ?_ | (refine J.qf rfl rfl rfl ?_;refine J.zB Ty.a23 Ty.s23 rfl zm (by exact rfl) rfl rfl ?_)
   first | refine J.skip rfl rfl rfl rfl rfl ?_ | refine J.qh rfl rfl rfl rfl ?_ | (refine J.qf rfl rfl rfl ?_;refine J.qi Ty.fd25_1 rfl rfl ?_)
   first | refine J.skip rfl rfl rfl rfl rfl ?_ | refine J.qh rfl rfl rfl rfl ?_ | (refine J.qf rfl rfl rfl ?_;refine J.zB Ty.a23 Ty.s23 rfl zm (by exact rfl) rfl rfl ?_)
   first | refine J.skip rfl rfl rfl rfl rfl ?_ | refine J.qh rfl rfl rfl rfl ?_ | (refine J.qf rfl rfl rfl ?_;fail)
   first | refine J.skip rfl rfl rfl rfl rfl ?_ | refine J.qh rfl rfl rfl rfl ?_ | (refine J.qf rfl rfl rfl ?_;refine J.qj rfl rfl rfl rfl ?_)
   first | refine J.skip rfl rfl rfl rfl rfl ?_ | refine J.qh rfl rfl rfl rfl ?_ | (refine J.qf rfl rfl rfl ?_;(first | refine J.qr rfl rfl rfl ?_ | refine J.qs rfl rfl rfl ?_))
   (first | refine J.qr rfl rfl rfl ?_ | refine J.qs rfl rfl rfl ?_)
   refine J.assign rfl rfl<|J.nil ?_;refine JX.qd (hK1 _ _ ?_);refine JC.qA ?_;refine JX.qL rfl rfl (fun w hw=>?_)
   exact ⟨by rw [hr],(hw.drop (List.nil_sublist _)).below⟩
theorem yK (xc:List Value) (key:IDV) (ver:WV) (bs:List UInt8) (sv:Value) (w:World) (hxc:xc=cT key ver sv) (hb:Row w sv bs.length (bs.map u8)) (hl:bs.length≤140737488351232) :
  Calls Try.prog 47 [.agg xc.toArray].toArray w fun r w'=>∃y:Value × List (Nat × Obj),r=.returned (.agg (cT key ver y.1).toArray)∧Vec 5 1 y.1 (bs).length ((bs).map u8) y.2∧St w [] y.2 w':=by
 obtain ⟨a,c,rfl,hc,_⟩:=id hb
 refine qD (args:=[.agg xc.toArray]) (e:=[(0,.agg xc.toArray)]) Try.func47 rfl rfl ⟨rfl,trivial⟩ (St.start w) ?_;refine JC.seq (fun K0 hK0=>?_);refine JC.region ?_;refine J.box rfl rfl rfl (fun b1=>?_);refine J.alloc Ty.zIt rfl rfl (fun b2=>?_);refine J.nil ?_;refine JX.qd (hK0 _ _ ?_);refine JC.seq (fun K1 hK1=>?_);refine JC.region<|J.qi Ty.fd28_2 rfl rfl ?_
 subst hxc
 refine J.qw (v:=.slice a bs.length c) Ty.a26 rfl (fun w1 hw=>by rw [qB (hw.own ((b1,cb (cT key ver (.slice a bs.length c)) 28)) zm)];rfl) rfl ?_;refine J.perm ([]++((b2,cb (cH zH) 28)::(b1,cb (cT key ver (.slice a bs.length c)) 28)::[])) zp ?_;refine J.qZ (lp:=[]) (xs:=[]) (ys:=bs.map u8) (k:=0) (m:=bs.length) Ty.el26 Ty.s5 Ty.b5 Ty.z5 rfl (.inl ⟨5,Ty.u26⟩) rfl rfl (Vec.nil _ _) (fun w1 hw=>.inl (hb.below (hw.drop (List.nil_sublist _)).below)) (by rw [List.length_map,Nat.mul_one]) (zk _) (by omega) (by omega) rfl (fun v5 l5 hv5=>?_)
 rw [Nat.zero_add,List.nil_append] at hv5
 obtain ⟨a5,c5,rfl,hc5⟩:=hv5.form
 refine J.perm ((b1,cb (cT key ver (.slice a bs.length c)) 28)::(b2,cb (cH zH) 28)::l5) zp<|J.qi Ty.fd28_2 rfl rfl<|J.qU (cs:=(cT key ver (.slice a bs.length c))) (vs:=[.slice a5 bs.length c5]) (l':=(b1,cb (cT key ver (.slice a5 bs.length c5)) 28)::(b2,cb (cH zH) 28)::l5) Ty.s26 rfl rfl rfl rfl (fun v hv=>by rw [List.mem_singleton.1 hv];rfl) (by rw [show 0+33=33 from rfl,set_sv];exact .here) (Nat.le_refl _) ?_;refine J.nil ?_;refine JX.qd (hK1 _ _ ?_);refine JC.seq (fun K2 hK2=>?_);refine JC.region<|J.qC (vs:=cT key ver (.slice a5 bs.length c5)) Ty.a28 Ty.s28 rfl rfl (fun w1 hw=>Cells.of_block (hw.own (b1,cb (cT key ver (.slice a5 bs.length c5)) 28) zm) rfl) rfl ?_;refine J.qN (cs:=cH zH) (vs:=cT key ver (.slice a5 bs.length c5)) (l':=(b1,cb (cT key ver (.slice a5 bs.length c5)) 28)::(b2,cb (cT key ver (.slice a5 bs.length c5)) 28)::l5) Ty.s28 rfl rfl rfl rfl rfl zF (.there .here)<|J.nil ?_;refine JX.qd (hK2 _ _ ?_);refine JC.qA ?_;refine JX.retC rfl rfl Ty.a28 Ty.s28 (vs:=cT key ver (.slice a5 bs.length c5)) rfl (fun w1 hw=>Cells.of_block (hw.own (b2,cb (cT key ver (.slice a5 bs.length c5)) 28) zm) rfl) (fun w1 hw=>?_)
 exact ⟨(_,l5),rfl,hv5,hw.drop (List.sublist_append_right [_,_] l5)⟩
theorem form_spec (xc:List Value) (key:IDV) (ver:WV) (bs:List UInt8) (sv:Value) (w:World) (hxc:xc=cT key ver sv) (hb:Row w sv bs.length (bs.map u8)) (hl:bs.length≤140737488351232) (hn0:0≤ver.n) (hn9:ver.n<9223372036854775808) :
  Calls Try.prog 11 [.agg xc.toArray].toArray w fun r w'=>∃x:Value × List (Nat × Obj),r=.returned x.1∧Vec 5 1 x.1 (formB ⟨key,ver,bs⟩).length ((formB ⟨key,ver,bs⟩).map u8) x.2∧St w [] x.2 w':=by
 obtain ⟨a,c,rfl,hc,_⟩:=id hb
 refine qD (args:=[.agg xc.toArray]) (e:=[(0,.agg xc.toArray)]) Try.func11 rfl rfl ⟨rfl,trivial⟩ (St.start w) ?_;refine JC.seq (fun K0 hK0=>?_);refine JC.region ?_;refine J.box rfl rfl rfl (fun b1=>?_);refine J.assign rfl rfl<|J.nil ?_;refine JX.qd (hK0 _ _ ?_);refine JC.seq (fun K1 hK1=>?_);refine JC.region ?_
 subst hxc
 refine J.za (cs:=[.int .u64 2]) Ty.el118 Ty.s81 Ty.z81 rfl rfl rfl rfl rfl rfl rfl (fun b4=>?_);refine J.perm ([]++((b4,cb [.int .u64 2] 81)::((b1,cb (cT key ver (.slice a bs.length c)) 28)::[]))) (.refl _) ?_;refine J.qO (α:=Value × List (Nat × Obj)) (V:=(·.1)) (Pr:=fun x=>Vec 5 1 x.1 ([2].flatMap numB).length (([2].flatMap numB).map u8) x.2) (L:=(·.2)) (l1:=[]) Ty.bd39 rfl rfl (fun w1 hw=>putNum_spec _ [2] w1 (Row.own (cs:=[.int .u64 2]) (tb:=81) (fr:=(0,0)) hw (.head _) rfl (Nat.le_refl _)) (by simp)) (fun x hv5=>?_)
 obtain ⟨v5,l5⟩:=x
 simp only at hv5 ⊢
 rw [show [2].flatMap numB=numB (2) by simp] at hv5
 have hn4:=zM (2)
 refine J.assign rfl rfl<|J.nil ?_;refine JX.qd (hK1 _ _ ?_);refine JC.seq (fun K2 hK2=>?_);refine JC.region<|J.qe rfl rfl<|J.qi Ty.fd28_0 rfl rfl<|J.zK Ty.ar23 (by rw [Ty.s5];rfl) rfl rfl ?_;refine J.perm (l5++((b4,cb [.int .u64 2] 81)::(b1,cb (cT key ver (.slice a bs.length c)) 28)::[])) zp ?_;refine J.qZ (lp:=l5) (xs:=((numB 2)).map u8) (ys:=(bI key).map u8) (k:=((numB 2)).length) (m:=(bI key).length) Ty.el26 Ty.s5 Ty.b5 Ty.z5 rfl (.inl ⟨5,Ty.u26⟩) rfl rfl hv5 (fun w1 hw=>.inl (Row.own (o:=0) (cs:=(cT key ver (.slice a bs.length c))) (tb:=28) (fr:=(0,0)) hw zm rfl (Nat.le_refl _))) (by rw [List.length_map,Nat.mul_one]) (zk _) (by simp only [List.length_append,zG];omega) (by simp only [List.length_append,zG];omega) rfl (fun v9 l9 hv9=>?_)
 rw [← List.map_append,← List.length_append] at hv9
 refine J.perm ((b1,cb (cT key ver (.slice a bs.length c)) 28)::(b4,cb [.int .u64 2] 81)::l9) zp<|J.assign rfl rfl<|J.nil ?_;refine JX.qd (hK2 _ _ ?_);refine JC.seq (fun K3 hK3=>?_);refine JC.region<|J.qe rfl rfl<|J.qi Ty.fd28_1 rfl rfl<|J.qi Ty.fd25_0 rfl rfl<|J.qw (v:=.int .i64 ver.n) Ty.a2 rfl (fun w1 hw=>by rw [qB (hw.own ((b1,cb (cT key ver (.slice a bs.length c)) 28)) zm)];rfl) rfl ?_;refine J.qF Ty.u2 Ty.u81 rfl rfl<|J.name 14 rfl (show _=Value.int .u64 ((ver.n.toNat:Nat):Int) from congrArg (Value.int .u64) ((ze hn0 (by omega)).trans (by omega))) ?_;refine J.za (cs:=[.int .u64 ((ver.n.toNat:Nat):Int)]) Ty.el118 Ty.s81 Ty.z81 rfl rfl rfl rfl rfl rfl rfl (fun b15=>?_);refine J.perm ([]++((b15,cb [.int .u64 ((ver.n.toNat:Nat):Int)] 81)::((b1,cb (cT key ver (.slice a bs.length c)) 28)::(b4,cb [.int .u64 2] 81)::l9))) (.refl _) ?_;refine J.qO (α:=Value × List (Nat × Obj)) (V:=(·.1)) (Pr:=fun x=>Vec 5 1 x.1 ([ver.n.toNat].flatMap numB).length (([ver.n.toNat].flatMap numB).map u8) x.2) (L:=(·.2)) (l1:=[]) Ty.bd39 rfl rfl (fun w1 hw=>putNum_spec _ [ver.n.toNat] w1 (Row.own (cs:=[.int .u64 ((ver.n.toNat:Nat):Int)]) (tb:=81) (fr:=(0,0)) hw (.head _) rfl (Nat.le_refl _)) (by simp)) (fun x hv16=>?_)
 obtain ⟨v16,l16⟩:=x
 simp only at hv16 ⊢
 rw [show [ver.n.toNat].flatMap numB=numB (ver.n.toNat) by simp] at hv16
 have hn15:=zM (ver.n.toNat)
 refine J.perm (l9++(l16++[(b15,cb [.int .u64 ((ver.n.toNat:Nat):Int)] 81),(b1,cb (cT key ver (.slice a bs.length c)) 28),(b4,cb [.int .u64 2] 81)])) zp ?_;refine J.qZ (lp:=l9) (xs:=((numB 2++bI key)).map u8) (ys:=(numB ver.n.toNat).map u8) (k:=((numB 2++bI key)).length) (m:=(numB ver.n.toNat).length) Ty.el26 Ty.s5 Ty.b5 Ty.z5 rfl (.inl ⟨5,Ty.u26⟩) rfl rfl hv9 (fun w1 hw=>.inl (hv16.row (l:=l9++[(b15,cb [.int .u64 ((ver.n.toNat:Nat):Int)] 81),(b1,cb (cT key ver (.slice a bs.length c)) 28),(b4,cb [.int .u64 2] 81)]) (hw.perm zp))) (by rw [List.length_map,Nat.mul_one]) (zk _) (by simp only [List.length_append,zG];omega) (by simp only [List.length_append,zG];omega) rfl (fun v17 l17 hv17=>?_)
 rw [← List.map_append,← List.length_append] at hv17
 refine J.perm ((b1,cb (cT key ver (.slice a bs.length c)) 28)::l17++(l16++[(b15,cb [.int .u64 ((ver.n.toNat:Nat):Int)] 81),(b4,cb [.int .u64 2] 81)])) zp<|J.sub (l':=(b1,cb (cT key ver (.slice a bs.length c)) 28)::l17) (by rw [List.cons_append];exact List.Sublist.cons_cons _ (List.sublist_append_left _ _)) ?_;refine J.assign rfl rfl<|J.nil ?_;refine JX.qd (hK3 _ _ ?_);refine JC.seq (fun K4 hK4=>?_);refine JC.region<|J.qe rfl rfl<|J.qi Ty.fd28_1 rfl rfl<|J.qi Ty.fd25_1 rfl rfl<|J.zK Ty.ar23 (by rw [Ty.s5];rfl) rfl rfl ?_;refine J.perm (l17++((b1,cb (cT key ver (.slice a bs.length c)) 28)::[])) zp ?_;refine J.qZ (lp:=l17) (xs:=((numB 2++bI key++numB ver.n.toNat)).map u8) (ys:=(bI ver.who).map u8) (k:=((numB 2++bI key++numB ver.n.toNat)).length) (m:=(bI ver.who).length) Ty.el26 Ty.s5 Ty.b5 Ty.z5 rfl (.inl ⟨5,Ty.u26⟩) rfl rfl hv17 (fun w1 hw=>.inl (Row.own (o:=17) (cs:=(cT key ver (.slice a bs.length c))) (tb:=28) (fr:=(0,0)) hw zm rfl (Nat.le_refl _))) (by rw [List.length_map,Nat.mul_one]) (zk _) (by simp only [List.length_append,zG];omega) (by simp only [List.length_append,zG];omega) rfl (fun v22 l22 hv22=>?_)
 rw [← List.map_append,← List.length_append] at hv22
 refine J.perm ((b1,cb (cT key ver (.slice a bs.length c)) 28)::l22) zp<|J.assign rfl rfl<|J.nil ?_;refine JX.qd (hK4 _ _ ?_);refine JC.seq (fun K5 hK5=>?_);refine JC.region<|J.qe rfl rfl<|J.qi Ty.fd28_2 rfl rfl<|J.qw (v:=.slice a bs.length c) Ty.a26 rfl (fun w1 hw=>by rw [qB (hw.own ((b1,cb (cT key ver (.slice a bs.length c)) 28)) zm)];rfl) rfl ?_;refine J.za (cs:=[.slice a bs.length c]) Ty.el57 Ty.s26 Ty.z26 rfl rfl rfl rfl rfl rfl rfl (fun b26=>?_);refine J.perm ([]++((b26,cb [.slice a bs.length c] 26)::(b1,cb (cT key ver (.slice a bs.length c)) 28)::l22)) (.refl _) ?_;refine J.qO (α:=Value × List (Nat × Obj)) (V:=(·.1)) (Pr:=fun x=>Vec 5 1 x.1 (textB bs).length ((textB bs).map u8) x.2) (L:=(·.2)) (l1:=[]) Ty.bd40 rfl rfl (fun w1 hw=>putText_spec _ (.slice a bs.length c) bs w1 (Row.own (cs:=[.slice a bs.length c]) (tb:=26) (fr:=(0,0)) hw (.head _) rfl (Nat.le_refl _)) (hb.below (hw.drop (List.nil_sublist _)).below) (by omega)) (fun x hv27=>?_)
 obtain ⟨v27,l27⟩:=x
 simp only at hv27 ⊢
 have htl:=textB_le bs
 refine J.perm (l22++(l27++[(b26,cb [.slice a bs.length c] 26),(b1,cb (cT key ver (.slice a bs.length c)) 28)])) zp ?_;refine J.qZ (lp:=l22) (xs:=((numB 2++bI key++numB ver.n.toNat++bI ver.who)).map u8) (ys:=(textB bs).map u8) (k:=((numB 2++bI key++numB ver.n.toNat++bI ver.who)).length) (m:=(textB bs).length) Ty.el26 Ty.s5 Ty.b5 Ty.z5 rfl (.inl ⟨5,Ty.u26⟩) rfl rfl hv22 (fun w1 hw=>.inl (hv27.row (l:=l22++[(b26,cb [.slice a bs.length c] 26),(b1,cb (cT key ver (.slice a bs.length c)) 28)]) (hw.perm zp))) (by rw [List.length_map,Nat.mul_one]) (zk _) (by simp only [List.length_append,zG];omega) (by simp only [List.length_append,zG];omega) rfl (fun v28 l28 hv28=>?_)
 rw [← List.map_append,← List.length_append] at hv28
 refine J.assign rfl rfl<|J.nil ?_;refine JX.qd (hK5 _ _ ?_);refine JC.qA ?_;refine JX.qL rfl rfl (fun w hw=>?_)
 exact ⟨(v28,l28),rfl,hv28,hw.drop (List.sublist_append_left _ _)⟩
abbrev vaO (lv:Value) (mb:Nat) (inc:Int):Obj:=cb [lv,.map (some mb),.int .i64 inc] 99
def takeH (L:List HI) (x:HI):List HI:=if (hget L x.key).isSome=false∨newB x.ver ((hget L x.key).getD zH).ver=true then hset L x else L
def takeV (L:List ItV) (x:ItV):List ItV:=match getV L x.key with
 | none=>setV L x
 | some y=>if newB x.ver y.ver=true then setV L x else L
theorem takeH_it (L:List HI) (x:HI):(takeH L x).map HI.it=takeV (L.map HI.it) x.it:=by
 unfold takeH takeV
 have e:x.it.key=x.key:=rfl
 rw [e,z8]
 cases h:hget L x.key with
 | none=>simp [hset_it]
 | some y=>
  simp only [Option.isSome_some,Option.getD_some,Bool.true_eq_false,false_or,Option.map_some]
  have e2:newB x.it.ver y.it.ver=newB x.ver y.ver:=rfl
  rw [e2]
  split
  ·rw [hset_it]
  ·rfl
theorem takeH_sub {L:List HI} (hd:L.Pairwise (fun x y=>x.key≠y.key)) (x:HI):SubP (lpsH (takeH L x)) (x.lp++lpsH L):=by
 unfold takeH
 split
 ·exact hset_sub hd x
 ·exact ⟨x.lp,List.perm_append_comm⟩
theorem VOK.take {L:List HI} {x:HI} (h:VOK L) (hx:okV x.ver.n∧Vec 5 1 x.sv x.bs.length (x.bs.map u8) x.lp):VOK (takeH L x):=by
 unfold takeH
 split
 ·exact h.set hx
 ·exact h
theorem VOK.old {L:List HI} (h:VOK L) (k:IDV):∃a c,((hget L k).getD zH).sv=.slice a ((hget L k).getD zH).bs.length c:=by
 cases hk:hget L k with
 | none=>exact ⟨none,0,rfl⟩
 | some y=>
  obtain ⟨a,c,h1,_⟩:=(h y (zT hk).1).2.form
  exact ⟨a,c,h1⟩
theorem VOK.okn {L:List HI} (h:VOK L) (k:IDV):okV ((hget L k).getD zH).ver.n:=by
 cases hk:hget L k with
 | none=>exact (by decide:okV 0)
 | some y=>exact (h y (zT hk).1).1
theorem take_spec (vb mb:Nat) (lv:Value) (inc:Int) (L:List HI) (es:Array MapEntry) (ck:Nat) (hT:Vm L es ck) (hV:VOK L) (xc:List Value) (key:IDV) (ver:WV) (bs:List UInt8) (a:Option Addr) (k c:Nat) (lp:List (Nat × Obj)) (w:World) (hxc:xc=cT key ver (.slice a k c)) (hw0:Own w [(vb,vaO lv mb inc),(mb,.map es ck)]) :
  Calls Try.prog 67 [.pointer (some ⟨vb,0,none⟩),.agg xc.toArray].toArray w fun r w'=>∃q:Array MapEntry × Nat,r=.returned (.tuple #[])∧Vm (takeH L ⟨key,ver,bs,.slice a k c,lp⟩) q.1 q.2∧St w [vb,mb] [(vb,vaO lv mb inc),(mb,.map q.1 q.2)] w':=by
 obtain ⟨O,hO⟩:∃o,(hget L key).getD zH=o:=⟨_,rfl⟩
 obtain ⟨K,hK⟩:∃o,(hget L key).isSome=o:=⟨_,rfl⟩
 obtain ⟨ao,co,hOs⟩:=hV.old key
 rw [hO] at hOs
 refine qD (args:=[.pointer (some ⟨vb,0,none⟩),.agg xc.toArray]) (e:=[(0,.pointer (some ⟨vb,0,none⟩)),(1,.agg xc.toArray)]) Try.func67 rfl rfl ⟨rfl,rfl,trivial⟩ (hw0.st) ?_;refine JC.seq (fun K0 hK0=>?_);refine JC.region ?_;refine J.box rfl rfl rfl (fun b3=>?_);refine J.nil ?_;refine JX.qd (hK0 _ _ ?_);refine JC.seq (fun K1 hK1=>?_)
 subst hxc
 apply JC.zd (α:=Nat × Unit) 12 (fun x=>match x with | ⟨x4,uu⟩=>[.pointer (some ⟨vb,0,none⟩),.pointer (some ⟨vb,0,none⟩),.pointer (some ⟨vb,0+1,none⟩),.map (some mb),.pointer (some ⟨b3,0+0,none⟩),.agg (cI key).toArray,.tuple #[.agg (cH O).toArray,.bool K],.tuple #[.agg (cH O).toArray,.bool K],.agg (cH O).toArray,.bool K,.pointer (some ⟨x4,0,none⟩),undef]) (fun m x=>match x with | ⟨x4,uu⟩=>fun w1=>((m 11=true→m 10=true))∧St w [vb,mb] ((bif m 10 then [(x4,cb (cH (bif m 11 then O else zH)) 28)] else [])++((b3,cb (cT key ver (.slice a k c)) 28)::(vb,vaO lv mb inc)::(mb,.map es ck)::[])) w1) Ty.mixed rfl rfl rfl (by kernel_rfl) rfl rfl ?hinit ?hstep ?htail
 case hinit=>exact fun w1 hw=>⟨(0,()),fun h=>(by cases h),hw.drew⟩
 case hstep=>
  refine ⟨fun m x hm hp=>?_,fun m x hm hp=>?_,fun m x hm hp=>?_,fun m x hm hp=>?_,fun m x hm hp=>?_,fun m x hm hp=>?_,fun m x hm hp=>?_,fun m x hm hp=>?_,fun m x hm hp=>?_,fun m x hm hp=>?_,fun m x hm hp=>?_,fun m x hm hp=>?_,trivial⟩
  ·obtain ⟨x4,uu⟩:=x
   show J _ _ _ _ _ (_) _
   refine J.pr (fun hF=>?_);refine J.qe rfl rfl ?_
   exact J.ql rfl (fun _ hw=>⟨⟨x4,uu⟩,rfl,fun _ _ _=>rfl,hF,hw⟩)
  ·obtain ⟨x4,uu⟩:=x
   show J _ _ _ _ _ ((7,.pointer (some ⟨vb,0,none⟩))::_) _
   refine J.pr (fun hF=>?_);refine J.qq rfl rfl ?_
   exact J.ql rfl (fun _ hw=>⟨⟨x4,uu⟩,rfl,fun _ _ _=>rfl,hF,hw⟩)
  ·obtain ⟨x4,uu⟩:=x
   show J _ _ _ _ _ ((8,.pointer (some ⟨vb,0,none⟩))::_) _
   refine J.pr (fun hF=>?_);refine J.qi Ty.fd99_1 rfl rfl ?_
   exact J.ql rfl (fun _ hw=>⟨⟨x4,uu⟩,rfl,fun _ _ _=>rfl,hF,hw⟩)
  ·obtain ⟨x4,uu⟩:=x
   show J _ _ _ _ _ ((9,.pointer (some ⟨vb,0+1,none⟩))::_) _
   refine J.pr (fun hF=>?_);refine J.qw (v:=.map (some mb)) Ty.a97 rfl (fun w1 hw=>by rw [qB (hw.own ((vb,vaO lv mb inc)) zm)];rfl) rfl ?_
   exact J.ql rfl (fun _ hw=>⟨⟨x4,uu⟩,rfl,fun _ _ _=>rfl,hF,hw⟩)
  ·obtain ⟨x4,uu⟩:=x
   show J _ _ _ _ _ (_) _
   refine J.pr (fun hF=>?_);refine J.qi Ty.fd28_0 rfl rfl ?_
   exact J.ql rfl (fun _ hw=>⟨⟨x4,uu⟩,rfl,fun _ _ _=>rfl,hF,hw⟩)
  ·obtain ⟨x4,uu⟩:=x
   show J _ _ _ _ _ ((11,.pointer (some ⟨b3,0+0,none⟩))::_) _
   refine J.pr (fun hF=>?_);refine J.qC (vs:=cI key) Ty.a23 Ty.s23 rfl rfl (fun w1 hw=>Cells.of_block (hw.own ((b3,cb (cT key ver (.slice a k c)) 28)) zm) rfl) rfl ?_
   exact J.ql rfl (fun _ hw=>⟨⟨x4,uu⟩,rfl,fun _ _ _=>rfl,hF,hw⟩)
  ·obtain ⟨x4,uu⟩:=x
   show J _ _ _ _ _ ((12,.agg (cI key).toArray)::(10,.map (some mb))::_) _
   refine J.pr (fun hF=>?_);refine J.lookV2 Ty.u97 Ty.KI Ty.keyI Ty.zIt rfl rfl hT (fun w1 hw=>hw.own ((mb,.map es ck)) zm) rfl ?_;refine J.name 13 rfl (show _=Value.tuple #[.agg (cH O).toArray,.bool K] by rw [hO,hK]) ?_
   exact J.ql rfl (fun _ hw=>⟨⟨x4,uu⟩,rfl,fun _ _ _=>rfl,hF,hw⟩)
  ·obtain ⟨x4,uu⟩:=x
   show J _ _ _ _ _ ((13,.tuple #[.agg (cH O).toArray,.bool K])::_) _
   refine J.pr (fun hF=>?_);refine J.qe rfl rfl ?_
   exact J.ql rfl (fun _ hw=>⟨⟨x4,uu⟩,rfl,fun _ _ _=>rfl,hF,hw⟩)
  ·obtain ⟨x4,uu⟩:=x
   show J _ _ _ _ _ ((6,.tuple #[.agg (cH O).toArray,.bool K])::_) _
   refine J.pr (fun hF=>?_);refine J.extract rfl rfl rfl ?_
   exact J.ql rfl (fun _ hw=>⟨⟨x4,uu⟩,rfl,fun _ _ _=>rfl,hF,hw⟩)
  ·obtain ⟨x4,uu⟩:=x
   show J _ _ _ _ _ ((6,.tuple #[.agg (cH O).toArray,.bool K])::_) _
   refine J.pr (fun hF=>?_);refine J.extract rfl rfl rfl ?_
   exact J.ql rfl (fun _ hw=>⟨⟨x4,uu⟩,rfl,fun _ _ _=>rfl,hF,hw⟩)
  ·obtain ⟨x4,uu⟩:=x
   show J _ _ _ _ _ (_) _
   refine J.pr (fun hF=>?_)
   have h11:m 11=false:=by cases h:m 11 with
    | false=>rfl
    | true=>rw [hF h] at hm;cases hm
   refine J.alloc Ty.zIt rfl rfl (fun b4=>?_)
   refine J.nil (JX.zR rfl (fun w1 hw=>⟨⟨⟨b4,uu⟩,rfl,fun j h1 h2=>?_,?_⟩,trivial⟩))
   ·match j,h1 with
    | 0,_=>(first | rfl | trivial)
    | 1,_=>(first | rfl | trivial)
    | 2,_=>(first | rfl | trivial)
    | 3,_=>(first | rfl | trivial)
    | 4,_=>(first | rfl | trivial)
    | 5,_=>(first | rfl | trivial)
    | 6,_=>(first | rfl | trivial)
    | 7,_=>(first | rfl | trivial)
    | 8,_=>(first | rfl | trivial)
    | 9,_=>(first | rfl | trivial)
    | 10,_=>exact absurd (h2.symm.trans hm) (by decide)
    | 11,_=>(first | rfl | trivial)
    | j+12,h1=>omega
   show ((m 11=true→true=true))∧St w [vb,mb] ((bif true then [(b4,cb (cH (bif m 11 then O else zH)) 28)] else [])++((b3,cb (cT key ver (.slice a k c)) 28)::(vb,vaO lv mb inc)::(mb,.map es ck)::[])) w1
   simp only [hm,h11,cond_true,cond_false] at hw ⊢
   exact ⟨fun _=>(by first | trivial | rfl),hw⟩
  ·obtain ⟨x4,uu⟩:=x
   show J _ _ _ _ _ ((4,.pointer (some ⟨x4,0,none⟩))::(14,.agg (cH O).toArray)::(6,.tuple #[.agg (cH O).toArray,.bool K])::(13,.tuple #[.agg (cH O).toArray,.bool K])::(12,.agg (cI key).toArray)::(11,.pointer (some ⟨b3,0+0,none⟩))::(10,.map (some mb))::(9,.pointer (some ⟨vb,0+1,none⟩))::(8,.pointer (some ⟨vb,0,none⟩))::(7,.pointer (some ⟨vb,0,none⟩))::(14,.agg (cH O).toArray)::(4,.pointer (some ⟨x4,0,none⟩))::_) _
   have hp10:m 10=true:=yV hp (by kernel_rfl)
   have hp10:m 10=true:=yV hp (by kernel_rfl)
   refine J.pr (fun hF=>?_)
   refine J.conseq (I':=St w [vb,mb] ((x4,cb (cH zH) 28)::(b3,cb (cT key ver (.slice a k c)) 28)::(vb,vaO lv mb inc)::(mb,.map es ck)::[])) ?_ (fun w1 hw=>by simp only [hm,hp10,cond_true,cond_false] at hw;exact hw)
   refine J.qN (cs:=cH zH) (vs:=cH O) Ty.s28 rfl rfl rfl rfl rfl (zi hOs) .here ?_
   refine J.nil (JX.finN undef (fun w1 hw=>⟨⟨x4,uu⟩,rfl,fun j h1 h2=>?_,?_⟩))
   ·match j,h1 with
    | 0,_=>(first | rfl | trivial)
    | 1,_=>(first | rfl | trivial)
    | 2,_=>(first | rfl | trivial)
    | 3,_=>(first | rfl | trivial)
    | 4,_=>(first | rfl | trivial)
    | 5,_=>(first | rfl | trivial)
    | 6,_=>(first | rfl | trivial)
    | 7,_=>(first | rfl | trivial)
    | 8,_=>(first | rfl | trivial)
    | 9,_=>(first | rfl | trivial)
    | 10,_=>(first | rfl | trivial)
    | 11,_=>(first | rfl | trivial)
    | j+12,h1=>omega
   show ((true=true→m 10=true))∧St w [vb,mb] ((bif m 10 then [(x4,cb (cH (bif true then O else zH)) 28)] else [])++((b3,cb (cT key ver (.slice a k c)) 28)::(vb,vaO lv mb inc)::(mb,.map es ck)::[])) w1
   simp only [hm,hp10,cond_true,cond_false] at hw ⊢
   exact ⟨fun _=>(by first | trivial | rfl),hw⟩
 case htail=>
  intro x
  obtain ⟨x4,uu⟩:=x
  show J _ _ _ _ _ ((4,.pointer (some ⟨x4,0,none⟩))::(15,.bool K)::(14,.agg (cH O).toArray)::(6,.tuple #[.agg (cH O).toArray,.bool K])::(13,.tuple #[.agg (cH O).toArray,.bool K])::(12,.agg (cI key).toArray)::(11,.pointer (some ⟨b3,0+0,none⟩))::(10,.map (some mb))::(9,.pointer (some ⟨vb,0+1,none⟩))::(8,.pointer (some ⟨vb,0,none⟩))::(7,.pointer (some ⟨vb,0,none⟩))::_) (fun w1=>((true=true→true=true))∧St w [vb,mb] ((bif true then [(x4,cb (cH (bif true then O else zH)) 28)] else [])++((b3,cb (cT key ver (.slice a k c)) 28)::(vb,vaO lv mb inc)::(mb,.map es ck)::[])) w1)
  refine J.pr (fun hF=>?_)
  refine J.conseq (I':=St w [vb,mb] ((x4,cb (cH O) 28)::(b3,cb (cT key ver (.slice a k c)) 28)::(vb,vaO lv mb inc)::(mb,.map es ck)::[])) ?_ (fun w1 hw=>by simp only [cond_true] at hw;exact hw)
  refine J.assign rfl rfl<|J.nil ?_;refine JX.qd (hK1 _ _ ?_);refine JC.seq (fun K2 hK2=>?_)
  cases K with
  | false=>
   have hr:takeH L ⟨key,ver,bs,.slice a k c,lp⟩=hset L ⟨key,ver,bs,.slice a k c,lp⟩:=by unfold takeH;rw [if_pos (.inl hK)]
   refine JC.region<|J.qe rfl rfl<|J.zC rfl rfl<|J.qe rfl rfl ?_
   first | refine J.skip rfl rfl rfl rfl rfl ?_ | refine J.qh rfl rfl rfl rfl ?_ | (refine J.qf rfl rfl rfl ?_;refine J.qi Ty.fd28_1 rfl rfl ?_)
   first | refine J.skip rfl rfl rfl rfl rfl ?_ | refine J.qh rfl rfl rfl rfl ?_ | (refine J.qf rfl rfl rfl ?_;refine J.zB Ty.a25 Ty.s25 rfl zm (by exact rfl) rfl rfl ?_)
   first | refine J.skip rfl rfl rfl rfl rfl ?_ | refine J.qh rfl rfl rfl rfl ?_ | (refine J.qf rfl rfl rfl ?_;refine J.qi Ty.fd28_1 rfl rfl ?_)
   first | refine J.skip rfl rfl rfl rfl rfl ?_ | refine J.qh rfl rfl rfl rfl ?_ | (refine J.qf rfl rfl rfl ?_;refine J.zB Ty.a25 Ty.s25 rfl zm (by exact rfl) rfl rfl ?_)
   first | refine J.skip rfl rfl rfl rfl rfl ?_ | refine J.qh rfl rfl rfl rfl ?_ | (refine J.qf rfl rfl rfl ?_;fail)
   (first | refine J.qr rfl rfl rfl ?_ | refine J.qs rfl rfl rfl ?_)
   refine J.nil ?_;refine JX.qd (hK2 _ _ ?_)
   first | refine JC.qP rfl ?_ | refine JC.qn rfl (fun _=>?_) (fun h=>by first | (exfalso;simp at h;omega) | (simp at h))
   apply JC.zd (α:=Nat × Unit) 7 (fun x=>match x with | ⟨xu,uu⟩=>[.pointer (some ⟨vb,0,none⟩),.pointer (some ⟨vb,0,none⟩),.pointer (some ⟨vb,0+1,none⟩),.map (some mb),.pointer (some ⟨b3,0+0,none⟩),.agg (cI key).toArray,.agg (cT key ver (.slice a k c)).toArray]) (fun m x=>match x with | ⟨xu,uu⟩=>fun w1=>(True)∧St w [vb,mb] ((x4,cb (cH O) 28)::(b3,cb (cT key ver (.slice a k c)) 28)::(vb,vaO lv mb inc)::(mb,.map es ck)::[]) w1) Ty.mixed rfl rfl rfl (by kernel_rfl) rfl rfl ?hinit ?hstep ?htail
   case hinit=>exact fun w1 hw=>⟨(0,()),trivial,hw.drew⟩
   case hstep=>
    refine ⟨fun m x hm hp=>?_,fun m x hm hp=>?_,fun m x hm hp=>?_,fun m x hm hp=>?_,fun m x hm hp=>?_,fun m x hm hp=>?_,fun m x hm hp=>?_,trivial⟩
    ·obtain ⟨xu,uu⟩:=x
     show J _ _ _ _ _ (_) _
     refine J.pr (fun hF=>?_);refine J.qe rfl rfl ?_
     exact J.ql rfl (fun _ hw=>⟨⟨xu,uu⟩,rfl,fun _ _ _=>rfl,hF,hw⟩)
    ·obtain ⟨xu,uu⟩:=x
     show J _ _ _ _ _ ((25,.pointer (some ⟨vb,0,none⟩))::_) _
     refine J.pr (fun hF=>?_);refine J.qq rfl rfl ?_
     exact J.ql rfl (fun _ hw=>⟨⟨xu,uu⟩,rfl,fun _ _ _=>rfl,hF,hw⟩)
    ·obtain ⟨xu,uu⟩:=x
     show J _ _ _ _ _ ((26,.pointer (some ⟨vb,0,none⟩))::_) _
     refine J.pr (fun hF=>?_);refine J.qi Ty.fd99_1 rfl rfl ?_
     exact J.ql rfl (fun _ hw=>⟨⟨xu,uu⟩,rfl,fun _ _ _=>rfl,hF,hw⟩)
    ·obtain ⟨xu,uu⟩:=x
     show J _ _ _ _ _ ((27,.pointer (some ⟨vb,0+1,none⟩))::_) _
     refine J.pr (fun hF=>?_);refine J.qw (v:=.map (some mb)) Ty.a97 rfl (fun w1 hw=>by rw [qB (hw.own ((vb,vaO lv mb inc)) zm)];rfl) rfl ?_
     exact J.ql rfl (fun _ hw=>⟨⟨xu,uu⟩,rfl,fun _ _ _=>rfl,hF,hw⟩)
    ·obtain ⟨xu,uu⟩:=x
     show J _ _ _ _ _ (_) _
     refine J.pr (fun hF=>?_);refine J.qi Ty.fd28_0 rfl rfl ?_
     exact J.ql rfl (fun _ hw=>⟨⟨xu,uu⟩,rfl,fun _ _ _=>rfl,hF,hw⟩)
    ·obtain ⟨xu,uu⟩:=x
     show J _ _ _ _ _ ((29,.pointer (some ⟨b3,0+0,none⟩))::_) _
     refine J.pr (fun hF=>?_);refine J.qC (vs:=cI key) Ty.a23 Ty.s23 rfl rfl (fun w1 hw=>Cells.of_block (hw.own ((b3,cb (cT key ver (.slice a k c)) 28)) zm) rfl) rfl ?_
     exact J.ql rfl (fun _ hw=>⟨⟨xu,uu⟩,rfl,fun _ _ _=>rfl,hF,hw⟩)
    ·obtain ⟨xu,uu⟩:=x
     show J _ _ _ _ _ (_) _
     refine J.pr (fun hF=>?_);refine J.qC (vs:=cT key ver (.slice a k c)) Ty.a28 Ty.s28 rfl rfl (fun w1 hw=>Cells.of_block (hw.own ((b3,cb (cT key ver (.slice a k c)) 28)) zm) rfl) rfl ?_
     exact J.ql rfl (fun _ hw=>⟨⟨xu,uu⟩,rfl,fun _ _ _=>rfl,hF,hw⟩)
   case htail=>
    intro x
    obtain ⟨xu,uu⟩:=x
    show J _ _ _ _ _ ((31,.agg (cT key ver (.slice a k c)).toArray)::(30,.agg (cI key).toArray)::(29,.pointer (some ⟨b3,0+0,none⟩))::(28,.map (some mb))::(27,.pointer (some ⟨vb,0+1,none⟩))::(26,.pointer (some ⟨vb,0,none⟩))::(25,.pointer (some ⟨vb,0,none⟩))::_) (fun w1=>(True)∧St w [vb,mb] ((x4,cb (cH O) 28)::(b3,cb (cT key ver (.slice a k c)) 28)::(vb,vaO lv mb inc)::(mb,.map es ck)::[]) w1)
    refine J.pr (fun hF=>?_);refine J.updV (xh:=⟨key,ver,bs,.slice a k c,lp⟩) (l':=fun es' c'=>(x4,cb (cH O) 28)::(b3,cb (cT key ver (.slice a k c)) 28)::(vb,vaO lv mb inc)::(mb,.map es' c')::[]) Ty.u97 Ty.KI Ty.keyI rfl rfl rfl hT (fun es' c'=>zu) (fun es2 ck2 hT2=>?_);refine J.nil ?_;refine JX.end0 rfl (fun w1 hw=>?_)
    first
    | exact ⟨(es2,ck2),rfl,by rw [hr];exact hT2,hw.drop (List.sublist_append_right [_,_] _)⟩
    | exact ⟨(es,ck),rfl,by rw [hr];exact hT,hw.drop (List.sublist_append_right [_,_] _)⟩
  | true=>
   refine JC.region<|J.qe rfl rfl<|J.zC rfl rfl<|J.qe rfl rfl ?_
   first | refine J.skip rfl rfl rfl rfl rfl ?_ | refine J.qh rfl rfl rfl rfl ?_ | (refine J.qf rfl rfl rfl ?_;refine J.qi Ty.fd28_1 rfl rfl ?_)
   refine J.qf rfl rfl rfl<|J.qC (vs:=cV ver) Ty.a25 Ty.s25 rfl rfl (fun w1 hw=>Cells.of_block (hw.own ((b3,cb (cT key ver (.slice a k c)) 28)) zm) rfl) rfl ?_
   first | refine J.skip rfl rfl rfl rfl rfl ?_ | refine J.qh rfl rfl rfl rfl ?_ | (refine J.qf rfl rfl rfl ?_;refine J.qi Ty.fd28_1 rfl rfl ?_)
   refine J.qf rfl rfl rfl<|J.qC (vs:=cV O.ver) Ty.a25 Ty.s25 rfl rfl (fun w1 hw=>Cells.of_block (hw.own ((x4,cb (cH O) 28)) zm) rfl) rfl ?_;refine J.qf rfl rfl rfl<|J.qR (v:=.bool (newB ver O.ver)) (fun w1 w2 hw hb=>hw.step hb) Ty.bd13 rfl rfl (fun w1 hw=>newer_spec ver O.ver w1) ?_
   (first | refine J.qr rfl rfl rfl ?_ | refine J.qs rfl rfl rfl ?_)
   refine J.nil ?_;refine JX.qd (hK2 _ _ ?_);refine JC.qn rfl (fun h0=>?_) (fun h0=>?_)
   ·have hr:takeH L ⟨key,ver,bs,.slice a k c,lp⟩=hset L ⟨key,ver,bs,.slice a k c,lp⟩:=by unfold takeH;rw [if_pos (.inr (by rw [hO];simpa using h0))]
    apply JC.zd (α:=Nat × Unit) 7 (fun x=>match x with | ⟨xu,uu⟩=>[.pointer (some ⟨vb,0,none⟩),.pointer (some ⟨vb,0,none⟩),.pointer (some ⟨vb,0+1,none⟩),.map (some mb),.pointer (some ⟨b3,0+0,none⟩),.agg (cI key).toArray,.agg (cT key ver (.slice a k c)).toArray]) (fun m x=>match x with | ⟨xu,uu⟩=>fun w1=>(True)∧St w [vb,mb] ((x4,cb (cH O) 28)::(b3,cb (cT key ver (.slice a k c)) 28)::(vb,vaO lv mb inc)::(mb,.map es ck)::[]) w1) Ty.mixed rfl rfl rfl (by kernel_rfl) rfl rfl ?hinit ?hstep ?htail
    case hinit=>exact fun w1 hw=>⟨(0,()),trivial,hw.drew⟩
    case hstep=>
     refine ⟨fun m x hm hp=>?_,fun m x hm hp=>?_,fun m x hm hp=>?_,fun m x hm hp=>?_,fun m x hm hp=>?_,fun m x hm hp=>?_,fun m x hm hp=>?_,trivial⟩
     ·obtain ⟨xu,uu⟩:=x
      show J _ _ _ _ _ (_) _
      refine J.pr (fun hF=>?_);refine J.qe rfl rfl ?_
      exact J.ql rfl (fun _ hw=>⟨⟨xu,uu⟩,rfl,fun _ _ _=>rfl,hF,hw⟩)
     ·obtain ⟨xu,uu⟩:=x
      show J _ _ _ _ _ ((25,.pointer (some ⟨vb,0,none⟩))::_) _
      refine J.pr (fun hF=>?_);refine J.qq rfl rfl ?_
      exact J.ql rfl (fun _ hw=>⟨⟨xu,uu⟩,rfl,fun _ _ _=>rfl,hF,hw⟩)
     ·obtain ⟨xu,uu⟩:=x
      show J _ _ _ _ _ ((26,.pointer (some ⟨vb,0,none⟩))::_) _
      refine J.pr (fun hF=>?_);refine J.qi Ty.fd99_1 rfl rfl ?_
      exact J.ql rfl (fun _ hw=>⟨⟨xu,uu⟩,rfl,fun _ _ _=>rfl,hF,hw⟩)
     ·obtain ⟨xu,uu⟩:=x
      show J _ _ _ _ _ ((27,.pointer (some ⟨vb,0+1,none⟩))::_) _
      refine J.pr (fun hF=>?_);refine J.qw (v:=.map (some mb)) Ty.a97 rfl (fun w1 hw=>by rw [qB (hw.own ((vb,vaO lv mb inc)) zm)];rfl) rfl ?_
      exact J.ql rfl (fun _ hw=>⟨⟨xu,uu⟩,rfl,fun _ _ _=>rfl,hF,hw⟩)
     ·obtain ⟨xu,uu⟩:=x
      show J _ _ _ _ _ (_) _
      refine J.pr (fun hF=>?_);refine J.qi Ty.fd28_0 rfl rfl ?_
      exact J.ql rfl (fun _ hw=>⟨⟨xu,uu⟩,rfl,fun _ _ _=>rfl,hF,hw⟩)
     ·obtain ⟨xu,uu⟩:=x
      show J _ _ _ _ _ ((29,.pointer (some ⟨b3,0+0,none⟩))::_) _
      refine J.pr (fun hF=>?_);refine J.qC (vs:=cI key) Ty.a23 Ty.s23 rfl rfl (fun w1 hw=>Cells.of_block (hw.own ((b3,cb (cT key ver (.slice a k c)) 28)) zm) rfl) rfl ?_
      exact J.ql rfl (fun _ hw=>⟨⟨xu,uu⟩,rfl,fun _ _ _=>rfl,hF,hw⟩)
     ·obtain ⟨xu,uu⟩:=x
      show J _ _ _ _ _ (_) _
      refine J.pr (fun hF=>?_);refine J.qC (vs:=cT key ver (.slice a k c)) Ty.a28 Ty.s28 rfl rfl (fun w1 hw=>Cells.of_block (hw.own ((b3,cb (cT key ver (.slice a k c)) 28)) zm) rfl) rfl ?_
      exact J.ql rfl (fun _ hw=>⟨⟨xu,uu⟩,rfl,fun _ _ _=>rfl,hF,hw⟩)
    case htail=>
     intro x
     obtain ⟨xu,uu⟩:=x
     show J _ _ _ _ _ ((31,.agg (cT key ver (.slice a k c)).toArray)::(30,.agg (cI key).toArray)::(29,.pointer (some ⟨b3,0+0,none⟩))::(28,.map (some mb))::(27,.pointer (some ⟨vb,0+1,none⟩))::(26,.pointer (some ⟨vb,0,none⟩))::(25,.pointer (some ⟨vb,0,none⟩))::_) (fun w1=>(True)∧St w [vb,mb] ((x4,cb (cH O) 28)::(b3,cb (cT key ver (.slice a k c)) 28)::(vb,vaO lv mb inc)::(mb,.map es ck)::[]) w1)
     refine J.pr (fun hF=>?_);refine J.updV (xh:=⟨key,ver,bs,.slice a k c,lp⟩) (l':=fun es' c'=>(x4,cb (cH O) 28)::(b3,cb (cT key ver (.slice a k c)) 28)::(vb,vaO lv mb inc)::(mb,.map es' c')::[]) Ty.u97 Ty.KI Ty.keyI rfl rfl rfl hT (fun es' c'=>zu) (fun es2 ck2 hT2=>?_);refine J.nil ?_;refine JX.end0 rfl (fun w1 hw=>?_)
     first
     | exact ⟨(es2,ck2),rfl,by rw [hr];exact hT2,hw.drop (List.sublist_append_right [_,_] _)⟩
     | exact ⟨(es,ck),rfl,by rw [hr];exact hT,hw.drop (List.sublist_append_right [_,_] _)⟩
   ·have hr:takeH L ⟨key,ver,bs,.slice a k c,lp⟩=L:=by unfold takeH;rw [if_neg (by rw [hO,hK];simpa using h0)]
    refine JC.skip ?_;refine JX.end0 rfl (fun w1 hw=>?_)
    first
    | exact ⟨(es2,ck2),rfl,by rw [hr];exact hT2,hw.drop (List.sublist_append_right [_,_] _)⟩
    | exact ⟨(es,ck),rfl,by rw [hr];exact hT,hw.drop (List.sublist_append_right [_,_] _)⟩
theorem getI_end (bs:List UInt8) (at_:Nat):(getI bs at_).2.1≤bs.length:=by
 unfold getI
 split
 ·exact Nat.zero_le _
 ·split
  ·exact Nat.zero_le _
  ·simp only;omega
theorem getT_len (bs:List UInt8) (at_ most:Nat):(getT bs at_ most).1.length≤most:=by
 unfold getT
 split
 ·exact Nat.zero_le _
 ·split
  ·exact Nat.zero_le _
  ·split
   ·exact Nat.zero_le _
   ·simp only [List.length_take];omega
theorem getT_end (bs:List UInt8) (at_ most:Nat):(getT bs at_ most).2.1≤bs.length+most:=by
 have h:=yi bs at_
 unfold getT
 split
 ·exact Nat.zero_le _
 ·split
  ·exact Nat.zero_le _
  ·split
   ·exact Nat.zero_le _
   ·simp only;omega
def readP (inc:Nat) (bs:List UInt8):Option (Nat ⊕ ItV):=
  if (getN bs 0).2.2≠0 then none else
  if (getN bs 0).1=1 then
    (if (getN bs (getN bs 0).2.1).2.2≠0∨(getN bs (getN bs 0).2.1).2.1<bs.length∨1048576<(getN bs (getN bs 0).2.1).1∨(getN bs (getN bs 0).2.1).1≤inc then none else some (.inl (getN bs (getN bs 0).2.1).1))
  else if (getN bs 0).1=2 then
    (if (getI bs (getN bs 0).2.1).2.2≠0 then none else
     if (getN bs (getI bs (getN bs 0).2.1).2.1).2.2≠0∨(getN bs (getI bs (getN bs 0).2.1).2.1).1<1∨4611686018427387904≤(getN bs (getI bs (getN bs 0).2.1).2.1).1 then none else
     if (getI bs (getN bs (getI bs (getN bs 0).2.1).2.1).2.1).2.2≠0 then none else
     if (getT bs (getI bs (getN bs (getI bs (getN bs 0).2.1).2.1).2.1).2.1 64).2.2≠0∨(getT bs (getI bs (getN bs (getI bs (getN bs 0).2.1).2.1).2.1).2.1 64).2.1<bs.length then none else
     some (.inr ⟨(getI bs (getN bs 0).2.1).1,⟨((getN bs (getI bs (getN bs 0).2.1).2.1).1:Int),(getI bs (getN bs (getI bs (getN bs 0).2.1).2.1).2.1).1⟩,(getT bs (getI bs (getN bs (getI bs (getN bs 0).2.1).2.1).2.1).2.1 64).1⟩))
  else none
inductive ReadR where
 | no
 | inc (n:Nat)
 | item (h:HI) (es:Array MapEntry) (ck:Nat)
def ReadR.ok:ReadR→Bool
 | .no=>false
 | _=>true
def ReadR.lst (vb mb:Nat) (lv:Value) (inc:Int) (es:Array MapEntry) (ck:Nat):ReadR→List (Nat × Obj)
 | .no=>[(vb,vaO lv mb inc),(mb,.map es ck)]
 | .inc n=>[(vb,vaO lv mb ((n:Nat):Int)),(mb,.map es ck)]
 | .item h es' ck'=>(vb,vaO lv mb inc)::(mb,.map es' ck')::h.lp
def ReadR.Pr (L:List HI) (inc:Nat) (bs:List UInt8):ReadR→Prop
 | .no=>readP inc bs=none
 | .inc n=>readP inc bs=some (.inl n)
 | .item h es' ck'=>readP inc bs=some (.inr h.it)∧(okV h.ver.n∧Vec 5 1 h.sv h.bs.length (h.bs.map u8) h.lp)∧Vm (takeH L h) es' ck'
theorem set_key (key a:IDV) (ver:WV) (sv:Value):setMany (cT key ver sv) 0 (cI a)=cT a ver sv:=by rw [yr _ _ _ (by show _≤34;show 0+16≤34;omega)];rfl
theorem set_n (key:IDV) (ver:WV) (sv:Value) (n:Int):setMany (cT key ver sv) 16 [.int .i64 n]=cT key ⟨n,ver.who⟩ sv:=rfl
theorem set_who (key:IDV) (ver:WV) (sv:Value) (a:IDV):setMany (cT key ver sv) 17 (cI a)=cT key ⟨ver.n,a⟩ sv:=by rw [yr _ _ _ (by show 17+16≤34;omega)];rfl
theorem shr62 (g:Nat) (hg:g<18446744073709551616):(decide (Int.fdiv ((g:Nat):Int) (2 ^ (min (62:Int).toNat IntKind.u64.bits))>0))=decide (4611686018427387904≤g):=by
 have e:((2:Int) ^ (min (62:Int).toNat IntKind.u64.bits))=4611686018427387904:=by decide
 rw [e,Int.fdiv_eq_ediv_of_nonneg _ (by omega)]
 by_cases h:4611686018427387904≤g
 ·rw [decide_eq_true h,decide_eq_true (by omega)]
 ·rw [decide_eq_false h,decide_eq_false (by omega)]
theorem okN_of {n:Nat} (h:n<9223372036854775808):okN ((n:Nat):Int):=by
 show (Lit.int .i64 ((n:Nat):Int)).wf=true
 simp only [Lit.wf]
 rw [Bool.and_eq_true]
 have h1:IntKind.i64.min = -9223372036854775808:=by decide
 have h2:IntKind.i64.max=9223372036854775807:=by decide
 exact ⟨decide_eq_true (by omega),decide_eq_true (by omega)⟩
theorem readP_0 {inc n0 p0:Nat} {e0:Int} {bs:List UInt8} (hN0:getN bs 0=(n0,p0,e0)) (h:e0≠0∨(n0≠1∧n0≠2)):readP inc bs=none:=by
 unfold readP
 simp only [hN0]
 rcases h with h | ⟨h1,h2⟩
 ·rw [if_pos h]
 ·by_cases he:e0≠0
  ·rw [if_pos he]
  ·rw [if_neg he,if_neg h1,if_neg h2]
theorem yP {inc p0 n1 p1:Nat} {e1:Int} {bs:List UInt8} (hN0:getN bs 0=(1,p0,0)) (hN1:getN bs p0=(n1,p1,e1)) (h:e1≠0∨p1<bs.length∨1048576<n1∨n1≤inc):readP inc bs=none:=by
 unfold readP
 simp only [hN0,hN1]
 rw [if_neg (by simp),if_pos trivial,if_pos h]
theorem readP_inc {inc p0 n1 p1:Nat} {e1:Int} {bs:List UInt8} (hN0:getN bs 0=(1,p0,0)) (hN1:getN bs p0=(n1,p1,e1)) (h0:e1=0) (h1:¬p1<bs.length) (h2:¬1048576<n1) (h3:¬n1≤inc):readP inc bs=some (.inl n1):=by
 unfold readP
 simp only [hN0,hN1]
 rw [if_neg (by simp),if_pos trivial,if_neg (by rintro (h | h | h | h);exact h h0;exact h1 h;exact h2 h;exact h3 h)]
theorem readP_k1 {inc p0 p1:Nat} {e1:Int} {k1:IDV} {bs:List UInt8} (hN0:getN bs 0=(2,p0,0)) (hK1:getI bs p0=(k1,p1,e1)) (h:e1≠0):readP inc bs=none:=by
 unfold readP
 simp only [hN0,hK1]
 rw [if_neg (by simp),if_neg (by decide),if_pos trivial,if_pos h]
theorem readP_n2 {inc p0 p1 n2 p2:Nat} {e1 e2:Int} {k1:IDV} {bs:List UInt8} (hN0:getN bs 0=(2,p0,0)) (hK1:getI bs p0=(k1,p1,e1)) (hz1:e1=0) (hN2:getN bs p1=(n2,p2,e2)) (h:e2≠0∨n2<1∨4611686018427387904≤n2):readP inc bs=none:=by
 unfold readP
 simp only [hN0,hK1,hN2]
 rw [if_neg (by simp),if_neg (by decide),if_pos trivial,if_neg (by rw [hz1];simp),if_pos h]
theorem readP_k3 {inc p0 p1 n2 p2 p3:Nat} {e1 e3:Int} {k1 k3:IDV} {bs:List UInt8} (hN0:getN bs 0=(2,p0,0)) (hK1:getI bs p0=(k1,p1,e1)) (hz1:e1=0) (hN2:getN bs p1=(n2,p2,0)) (xb:¬n2<1) (xc:¬4611686018427387904≤n2) (hK3:getI bs p2=(k3,p3,e3)) (h:e3≠0):readP inc bs=none:=by
 unfold readP
 simp only [hN0,hK1,hN2,hK3]
 rw [if_neg (by simp),if_neg (by decide),if_pos trivial,if_neg (by rw [hz1];simp),if_neg (by rintro (h | h | h);exact h rfl;exact xb h;exact xc h),if_pos h]
theorem readP_t4 {inc p0 p1 n2 p2 p3 p4:Nat} {e1 e3 e4:Int} {k1 k3:IDV} {t4 bs:List UInt8} (hN0:getN bs 0=(2,p0,0)) (hK1:getI bs p0=(k1,p1,e1)) (hz1:e1=0) (hN2:getN bs p1=(n2,p2,0)) (xb:¬n2<1) (xc:¬4611686018427387904≤n2) (hK3:getI bs p2=(k3,p3,e3)) (hz3:e3=0) (hT4:getT bs p3 64=(t4,p4,e4)) (h:e4≠0∨p4<bs.length):readP inc bs=none:=by
 unfold readP
 simp only [hN0,hK1,hN2,hK3,hT4]
 rw [if_neg (by simp),if_neg (by decide),if_pos trivial,if_neg (by rw [hz1];simp),if_neg (by rintro (h | h | h);exact h rfl;exact xb h;exact xc h),if_neg (by rw [hz3];simp),if_pos h]
theorem readP_item {inc p0 p1 n2 p2 p3 p4:Nat} {e1 e3 e4:Int} {k1 k3:IDV} {t4 bs:List UInt8} (hN0:getN bs 0=(2,p0,0)) (hK1:getI bs p0=(k1,p1,e1)) (hz1:e1=0) (hN2:getN bs p1=(n2,p2,0)) (xb:¬n2<1) (xc:¬4611686018427387904≤n2) (hK3:getI bs p2=(k3,p3,e3)) (hz3:e3=0) (hT4:getT bs p3 64=(t4,p4,e4)) (h0:e4=0) (h1:¬p4<bs.length):readP inc bs=some (.inr ⟨k1,⟨((n2:Nat):Int),k3⟩,t4⟩):=by
 unfold readP
 simp only [hN0,hK1,hN2,hK3,hT4]
 rw [if_neg (by simp),if_neg (by decide),if_pos trivial,if_neg (by rw [hz1];simp),if_neg (by rintro (h | h | h);exact h rfl;exact xb h;exact xc h),if_neg (by rw [hz3];simp),if_neg (by rintro (h | h);exact h h0;exact h1 h)]
set_option maxHeartbeats 1000000 in
theorem vread_spec (vb mb inc:Nat) (lv:Value) (L:List HI) (es:Array MapEntry) (ck:Nat) (hT:Vm L es ck) (hV:VOK L) (v:Value) (bs:List UInt8) (w:World) (hw0:Own w [(vb,vaO lv mb ((inc:Nat):Int)),(mb,.map es ck)]) (hr:Row w v bs.length (bs.map u8)) (hoff:Off [vb,mb] v (bs.map u8)) (hl:bs.length≤2000) (hinc:inc≤1048576) :
  Calls Try.prog 45 [.pointer (some ⟨vb,0,none⟩),v].toArray w fun r w'=>∃s:ReadR,r=.returned (.bool s.ok)∧s.Pr L inc bs∧St w [vb,mb] (s.lst vb mb lv ((inc:Nat):Int) es ck) w':=by
 obtain ⟨a,c,rfl,hc,_⟩:=id hr
 refine qD (args:=[.pointer (some ⟨vb,0,none⟩),.slice a bs.length c]) (e:=[(0,.pointer (some ⟨vb,0,none⟩)),(1,.slice a bs.length c)]) Try.func45 rfl rfl ⟨rfl,rfl,trivial⟩ (hw0.st) ?_;refine JC.seq (fun K0 hK0=>?_);refine JC.region<|J.assign rfl rfl<|J.nil ?_;refine JX.qd (hK0 _ _ ?_);refine JC.seq (fun K1 hK1=>?_);refine JC.region<|J.qe rfl rfl ?_
 obtain ⟨⟨n0,p0,e0⟩,hN0⟩:∃x,getN bs 0=x:=⟨_,rfl⟩
 have hn0b:=yi bs 0
 have hn0u:=yG bs 0
 rw [hN0] at hn0b hn0u
 simp only at hn0b hn0u
 refine J.qR (v:=.tuple #[.int .u64 ((n0:Nat):Int),.int .i64 ((p0:Nat):Int),.int .i64 e0]) (fun w1 w2 hw hb=>hw.step hb) Ty.bd64 rfl rfl (fun w1 hw=>by have h9:=getNum_spec _ bs 0 w1 (hr.st hoff hw) (by omega) (by omega);rw [hN0] at h9;exact h9) ?_;refine J.qe rfl rfl<|J.extract rfl rfl rfl<|J.extract rfl rfl rfl<|J.extract rfl rfl rfl<|J.assign rfl rfl<|J.assign rfl rfl<|J.assign rfl rfl<|J.nil ?_;refine JX.qd (hK1 _ _ ?_);refine JC.seq (fun K2 hK2=>?_);refine JC.seq (fun K3 hK3=>?_);refine JC.region<|J.qe rfl rfl<|J.qj rfl rfl rfl rfl<|J.nil ?_;refine JX.qd (hK3 _ _ ?_);refine JC.qn rfl (fun h0=>?_) (fun h0=>?_)
 ·have hg:readP inc bs=none:=readP_0 hN0 (.inl (by simpa using h0))
  refine JC.seq (fun K4 hK4=>?_);refine JC.region<|J.assign rfl rfl<|J.nil ?_;refine JX.qd (hK4 _ _ ?_);refine JC.qA<|JX.qt ?_;refine JX.qL rfl rfl (fun w hw=>?_)
  first
  | exact ⟨.no,rfl,hg,hw⟩
  | exact ⟨.no,rfl,hg,hw.drop (List.sublist_cons_self _ _)⟩
  | exact ⟨.no,rfl,hg,(hw.drop (List.sublist_cons_self _ _)).drop (List.sublist_append_right _ _)⟩
  | exact ⟨.inc n1,rfl,hg,hw⟩
  | exact ⟨.item ⟨k1,⟨((n2:Nat):Int),k3⟩,t4,.slice a4 t4.length c4,l4⟩ es5 ck5,rfl,⟨hg,⟨⟨by simp only;omega,by simp only;omega⟩,hv4⟩,hT5⟩,(hw.perm (zp:List.Perm _ ((q6,cb (cT k1 ⟨((n2:Nat):Int),k3⟩ (.slice a4 t4.length c4)) 28)::((vb,vaO lv mb ((inc:Nat):Int))::(mb,.map es5 ck5)::l4)))).drop (List.sublist_cons_self _ _)⟩
 ·have hz0:e0=0:=by simpa using h0
  subst hz0
  refine JC.skip ?_;refine JX.qd (hK2 _ _ ?_);refine JC.seq (fun K5 hK5=>?_);refine JC.seq (fun K6 hK6=>?_);refine JC.region<|J.qe rfl rfl<|J.nil ?_;refine JX.qd (hK6 _ _ ?_);refine JC.block ?_;refine JC.seq (fun K7 hK7=>?_);refine JC.region<|J.qj rfl rfl rfl rfl<|J.assign rfl rfl<|J.nil ?_;refine JX.qd (hK7 _ _ ?_);refine JC.qn rfl (fun h1=>?_) (fun h1=>?_)
  ·have hk1:n0=1:=by simp at h1;omega
   subst hk1
   refine JC.seq (fun K8 hK8=>?_);refine JC.region<|J.qe rfl rfl<|J.qe rfl rfl ?_
   obtain ⟨⟨n1,p1,e1⟩,hN1⟩:∃x,getN bs p0=x:=⟨_,rfl⟩
   have hn1b:=yi bs p0
   have hn1u:=yG bs p0
   rw [hN1] at hn1b hn1u
   simp only at hn1b hn1u
   refine J.qR (v:=.tuple #[.int .u64 ((n1:Nat):Int),.int .i64 ((p1:Nat):Int),.int .i64 e1]) (fun w1 w2 hw hb=>hw.step hb) Ty.bd64 rfl rfl (fun w1 hw=>by have h9:=getNum_spec _ bs p0 w1 (hr.st hoff hw) (by omega) (by omega);rw [hN1] at h9;exact h9) ?_;refine J.qe rfl rfl<|J.extract rfl rfl rfl<|J.extract rfl rfl rfl<|J.extract rfl rfl rfl<|J.assign rfl rfl<|J.assign rfl rfl<|J.assign rfl rfl<|J.nil ?_;refine JX.qd (hK8 _ _ ?_);refine JC.seq (fun K9 hK9=>?_);refine JC.seq (fun K10 hK10=>?_)
   by_cases xa:e1≠0
   ·have hg:readP inc bs=none:=yP hN0 hN1 (.inl xa)
    refine JC.region<|J.qe rfl rfl<|J.qj rfl rfl rfl rfl<|J.name 32 rfl (show _=Value.bool true by simp [xa]) ?_;refine J.qe rfl rfl ?_
    first | refine J.skip rfl rfl rfl rfl rfl ?_ | refine J.qh rfl rfl rfl rfl ?_ | (refine J.qf rfl rfl rfl ?_;refine J.qe rfl rfl ?_)
    first | refine J.skip rfl rfl rfl rfl rfl ?_ | refine J.qh rfl rfl rfl rfl ?_ | (refine J.qf rfl rfl rfl ?_;refine J.qe rfl rfl ?_)
    first | refine J.skip rfl rfl rfl rfl rfl ?_ | refine J.qh rfl rfl rfl rfl ?_ | (refine J.qf rfl rfl rfl ?_;refine J.qK rfl Ty.u26 rfl rfl ?_)
    first | refine J.skip rfl rfl rfl rfl rfl ?_ | refine J.qh rfl rfl rfl rfl ?_ | (refine J.qf rfl rfl rfl ?_;refine J.qj rfl rfl rfl rfl ?_)
    (first | refine J.qr rfl rfl rfl ?_ | refine J.qs rfl rfl rfl ?_)
    refine J.qe rfl rfl ?_
    first | refine J.skip rfl rfl rfl rfl rfl ?_ | refine J.qh rfl rfl rfl rfl ?_ | (refine J.qf rfl rfl rfl ?_;refine J.qe rfl rfl ?_)
    first | refine J.skip rfl rfl rfl rfl rfl ?_ | refine J.qh rfl rfl rfl rfl ?_ | (refine J.qf rfl rfl rfl ?_;refine J.qj rfl rfl rfl rfl ?_)
    (first | refine J.qr rfl rfl rfl ?_ | refine J.qs rfl rfl rfl ?_)
    refine J.qe rfl rfl ?_
    first | refine J.skip rfl rfl rfl rfl rfl ?_ | refine J.qh rfl rfl rfl rfl ?_ | (refine J.qf rfl rfl rfl ?_;refine J.qe rfl rfl ?_)
    first | refine J.skip rfl rfl rfl rfl rfl ?_ | refine J.qh rfl rfl rfl rfl ?_ | (refine J.qf rfl rfl rfl ?_;refine J.qF Ty.u81 Ty.u2 rfl rfl ?_)
    first | refine J.skip rfl rfl rfl rfl rfl ?_ | refine J.qh rfl rfl rfl rfl ?_ | (refine J.qf rfl rfl rfl ?_;refine J.qe rfl rfl ?_)
    first | refine J.skip rfl rfl rfl rfl rfl ?_ | refine J.qh rfl rfl rfl rfl ?_ | (refine J.qf rfl rfl rfl ?_;refine J.qq rfl rfl ?_)
    first | refine J.skip rfl rfl rfl rfl rfl ?_ | refine J.qh rfl rfl rfl rfl ?_ | (refine J.qf rfl rfl rfl ?_;refine J.qi Ty.fd99_2 rfl rfl ?_)
    first | refine J.skip rfl rfl rfl rfl rfl ?_ | refine J.qh rfl rfl rfl rfl ?_ | (refine J.qf rfl rfl rfl ?_;refine J.qQ Ty.a2 rfl zm (by exact rfl) rfl ?_)
    first | refine J.skip rfl rfl rfl rfl rfl ?_ | refine J.qh rfl rfl rfl rfl ?_ | (refine J.qf rfl rfl rfl ?_;refine J.qj rfl rfl rfl rfl ?_)
    (first | refine J.qr rfl rfl rfl ?_ | refine J.qs rfl rfl rfl ?_)
    refine J.nil ?_;refine JX.qd (hK10 _ _ ?_)
    first | refine JC.qP rfl ?_ | refine JC.qn rfl (fun _=>?_) (fun h=>by first | (exfalso;simp at h;omega) | (simp at h))
    refine JC.seq (fun K11 hK11=>?_);refine JC.region<|J.assign rfl rfl<|J.nil ?_;refine JX.qd (hK11 _ _ ?_);refine JC.qA<|JX.qt<|JX.qH<|JX.qt ?_;refine JX.qL rfl rfl (fun w hw=>?_)
    first
    | exact ⟨.no,rfl,hg,hw⟩
    | exact ⟨.no,rfl,hg,hw.drop (List.sublist_cons_self _ _)⟩
    | exact ⟨.no,rfl,hg,(hw.drop (List.sublist_cons_self _ _)).drop (List.sublist_append_right _ _)⟩
    | exact ⟨.inc n1,rfl,hg,hw⟩
    | exact ⟨.item ⟨k1,⟨((n2:Nat):Int),k3⟩,t4,.slice a4 t4.length c4,l4⟩ es5 ck5,rfl,⟨hg,⟨⟨by simp only;omega,by simp only;omega⟩,hv4⟩,hT5⟩,(hw.perm (zp:List.Perm _ ((q6,cb (cT k1 ⟨((n2:Nat):Int),k3⟩ (.slice a4 t4.length c4)) 28)::((vb,vaO lv mb ((inc:Nat):Int))::(mb,.map es5 ck5)::l4)))).drop (List.sublist_cons_self _ _)⟩
   ·by_cases xb:p1<bs.length
    ·have hg:readP inc bs=none:=yP hN0 hN1 (.inr (.inl xb))
     refine JC.region<|J.qe rfl rfl<|J.qj rfl rfl rfl rfl<|J.name 32 rfl (show _=Value.bool false by have xz:e1=0:=(by omega);simp [xz]) ?_;refine J.qe rfl rfl ?_
     first | refine J.skip rfl rfl rfl rfl rfl ?_ | refine J.qh rfl rfl rfl rfl ?_ | (refine J.qf rfl rfl rfl ?_;refine J.qe rfl rfl ?_)
     first | refine J.skip rfl rfl rfl rfl rfl ?_ | refine J.qh rfl rfl rfl rfl ?_ | (refine J.qf rfl rfl rfl ?_;refine J.qe rfl rfl ?_)
     first | refine J.skip rfl rfl rfl rfl rfl ?_ | refine J.qh rfl rfl rfl rfl ?_ | (refine J.qf rfl rfl rfl ?_;refine J.qK rfl Ty.u26 rfl rfl ?_)
     refine J.qf rfl rfl rfl<|J.qj rfl rfl rfl rfl<|J.name 37 rfl (show _=Value.bool true by simp;omega) ?_
     (first | refine J.qr rfl rfl rfl ?_ | refine J.qs rfl rfl rfl ?_)
     refine J.qe rfl rfl ?_
     first | refine J.skip rfl rfl rfl rfl rfl ?_ | refine J.qh rfl rfl rfl rfl ?_ | (refine J.qf rfl rfl rfl ?_;refine J.qe rfl rfl ?_)
     first | refine J.skip rfl rfl rfl rfl rfl ?_ | refine J.qh rfl rfl rfl rfl ?_ | (refine J.qf rfl rfl rfl ?_;refine J.qj rfl rfl rfl rfl ?_)
     (first | refine J.qr rfl rfl rfl ?_ | refine J.qs rfl rfl rfl ?_)
     refine J.qe rfl rfl ?_
     first | refine J.skip rfl rfl rfl rfl rfl ?_ | refine J.qh rfl rfl rfl rfl ?_ | (refine J.qf rfl rfl rfl ?_;refine J.qe rfl rfl ?_)
     first | refine J.skip rfl rfl rfl rfl rfl ?_ | refine J.qh rfl rfl rfl rfl ?_ | (refine J.qf rfl rfl rfl ?_;refine J.qF Ty.u81 Ty.u2 rfl rfl ?_)
     first | refine J.skip rfl rfl rfl rfl rfl ?_ | refine J.qh rfl rfl rfl rfl ?_ | (refine J.qf rfl rfl rfl ?_;refine J.qe rfl rfl ?_)
     first | refine J.skip rfl rfl rfl rfl rfl ?_ | refine J.qh rfl rfl rfl rfl ?_ | (refine J.qf rfl rfl rfl ?_;refine J.qq rfl rfl ?_)
     first | refine J.skip rfl rfl rfl rfl rfl ?_ | refine J.qh rfl rfl rfl rfl ?_ | (refine J.qf rfl rfl rfl ?_;refine J.qi Ty.fd99_2 rfl rfl ?_)
     first | refine J.skip rfl rfl rfl rfl rfl ?_ | refine J.qh rfl rfl rfl rfl ?_ | (refine J.qf rfl rfl rfl ?_;refine J.qQ Ty.a2 rfl zm (by exact rfl) rfl ?_)
     first | refine J.skip rfl rfl rfl rfl rfl ?_ | refine J.qh rfl rfl rfl rfl ?_ | (refine J.qf rfl rfl rfl ?_;refine J.qj rfl rfl rfl rfl ?_)
     (first | refine J.qr rfl rfl rfl ?_ | refine J.qs rfl rfl rfl ?_)
     refine J.nil ?_;refine JX.qd (hK10 _ _ ?_)
     first | refine JC.qP rfl ?_ | refine JC.qn rfl (fun _=>?_) (fun h=>by first | (exfalso;simp at h;omega) | (simp at h))
     refine JC.seq (fun K12 hK12=>?_);refine JC.region<|J.assign rfl rfl<|J.nil ?_;refine JX.qd (hK12 _ _ ?_);refine JC.qA<|JX.qt<|JX.qH<|JX.qt ?_;refine JX.qL rfl rfl (fun w hw=>?_)
     first
     | exact ⟨.no,rfl,hg,hw⟩
     | exact ⟨.no,rfl,hg,hw.drop (List.sublist_cons_self _ _)⟩
     | exact ⟨.no,rfl,hg,(hw.drop (List.sublist_cons_self _ _)).drop (List.sublist_append_right _ _)⟩
     | exact ⟨.inc n1,rfl,hg,hw⟩
     | exact ⟨.item ⟨k1,⟨((n2:Nat):Int),k3⟩,t4,.slice a4 t4.length c4,l4⟩ es5 ck5,rfl,⟨hg,⟨⟨by simp only;omega,by simp only;omega⟩,hv4⟩,hT5⟩,(hw.perm (zp:List.Perm _ ((q6,cb (cT k1 ⟨((n2:Nat):Int),k3⟩ (.slice a4 t4.length c4)) 28)::((vb,vaO lv mb ((inc:Nat):Int))::(mb,.map es5 ck5)::l4)))).drop (List.sublist_cons_self _ _)⟩
    ·by_cases xc:1048576<n1
     ·have hg:readP inc bs=none:=yP hN0 hN1 (.inr (.inr (.inl xc)))
      refine JC.region<|J.qe rfl rfl<|J.qj rfl rfl rfl rfl<|J.name 32 rfl (show _=Value.bool false by have xz:e1=0:=(by omega);simp [xz]) ?_;refine J.qe rfl rfl ?_
      first | refine J.skip rfl rfl rfl rfl rfl ?_ | refine J.qh rfl rfl rfl rfl ?_ | (refine J.qf rfl rfl rfl ?_;refine J.qe rfl rfl ?_)
      first | refine J.skip rfl rfl rfl rfl rfl ?_ | refine J.qh rfl rfl rfl rfl ?_ | (refine J.qf rfl rfl rfl ?_;refine J.qe rfl rfl ?_)
      first | refine J.skip rfl rfl rfl rfl rfl ?_ | refine J.qh rfl rfl rfl rfl ?_ | (refine J.qf rfl rfl rfl ?_;refine J.qK rfl Ty.u26 rfl rfl ?_)
      refine J.qf rfl rfl rfl<|J.qj rfl rfl rfl rfl<|J.name 37 rfl (show _=Value.bool false by simp;omega) ?_
      (first | refine J.qr rfl rfl rfl ?_ | refine J.qs rfl rfl rfl ?_)
      refine J.qe rfl rfl ?_
      first | refine J.skip rfl rfl rfl rfl rfl ?_ | refine J.qh rfl rfl rfl rfl ?_ | (refine J.qf rfl rfl rfl ?_;refine J.qe rfl rfl ?_)
      refine J.qf rfl rfl rfl<|J.qj rfl rfl rfl rfl<|J.name 41 rfl (show _=Value.bool true by simp;omega) ?_
      (first | refine J.qr rfl rfl rfl ?_ | refine J.qs rfl rfl rfl ?_)
      refine J.qe rfl rfl ?_
      first | refine J.skip rfl rfl rfl rfl rfl ?_ | refine J.qh rfl rfl rfl rfl ?_ | (refine J.qf rfl rfl rfl ?_;refine J.qe rfl rfl ?_)
      first | refine J.skip rfl rfl rfl rfl rfl ?_ | refine J.qh rfl rfl rfl rfl ?_ | (refine J.qf rfl rfl rfl ?_;refine J.qF Ty.u81 Ty.u2 rfl rfl ?_)
      first | refine J.skip rfl rfl rfl rfl rfl ?_ | refine J.qh rfl rfl rfl rfl ?_ | (refine J.qf rfl rfl rfl ?_;refine J.qe rfl rfl ?_)
      first | refine J.skip rfl rfl rfl rfl rfl ?_ | refine J.qh rfl rfl rfl rfl ?_ | (refine J.qf rfl rfl rfl ?_;refine J.qq rfl rfl ?_)
      first | refine J.skip rfl rfl rfl rfl rfl ?_ | refine J.qh rfl rfl rfl rfl ?_ | (refine J.qf rfl rfl rfl ?_;refine J.qi Ty.fd99_2 rfl rfl ?_)
      first | refine J.skip rfl rfl rfl rfl rfl ?_ | refine J.qh rfl rfl rfl rfl ?_ | (refine J.qf rfl rfl rfl ?_;refine J.qQ Ty.a2 rfl zm (by exact rfl) rfl ?_)
      first | refine J.skip rfl rfl rfl rfl rfl ?_ | refine J.qh rfl rfl rfl rfl ?_ | (refine J.qf rfl rfl rfl ?_;refine J.qj rfl rfl rfl rfl ?_)
      (first | refine J.qr rfl rfl rfl ?_ | refine J.qs rfl rfl rfl ?_)
      refine J.nil ?_;refine JX.qd (hK10 _ _ ?_)
      first | refine JC.qP rfl ?_ | refine JC.qn rfl (fun _=>?_) (fun h=>by first | (exfalso;simp at h;omega) | (simp at h))
      refine JC.seq (fun K13 hK13=>?_);refine JC.region<|J.assign rfl rfl<|J.nil ?_;refine JX.qd (hK13 _ _ ?_);refine JC.qA<|JX.qt<|JX.qH<|JX.qt ?_;refine JX.qL rfl rfl (fun w hw=>?_)
      first
      | exact ⟨.no,rfl,hg,hw⟩
      | exact ⟨.no,rfl,hg,hw.drop (List.sublist_cons_self _ _)⟩
      | exact ⟨.no,rfl,hg,(hw.drop (List.sublist_cons_self _ _)).drop (List.sublist_append_right _ _)⟩
      | exact ⟨.inc n1,rfl,hg,hw⟩
      | exact ⟨.item ⟨k1,⟨((n2:Nat):Int),k3⟩,t4,.slice a4 t4.length c4,l4⟩ es5 ck5,rfl,⟨hg,⟨⟨by simp only;omega,by simp only;omega⟩,hv4⟩,hT5⟩,(hw.perm (zp:List.Perm _ ((q6,cb (cT k1 ⟨((n2:Nat):Int),k3⟩ (.slice a4 t4.length c4)) 28)::((vb,vaO lv mb ((inc:Nat):Int))::(mb,.map es5 ck5)::l4)))).drop (List.sublist_cons_self _ _)⟩
     ·by_cases xd:n1≤inc
      ·have hg:readP inc bs=none:=yP hN0 hN1 (.inr (.inr (.inr xd)))
       refine JC.region<|J.qe rfl rfl<|J.qj rfl rfl rfl rfl<|J.name 32 rfl (show _=Value.bool false by have xz:e1=0:=(by omega);simp [xz]) ?_;refine J.qe rfl rfl ?_
       first | refine J.skip rfl rfl rfl rfl rfl ?_ | refine J.qh rfl rfl rfl rfl ?_ | (refine J.qf rfl rfl rfl ?_;refine J.qe rfl rfl ?_)
       first | refine J.skip rfl rfl rfl rfl rfl ?_ | refine J.qh rfl rfl rfl rfl ?_ | (refine J.qf rfl rfl rfl ?_;refine J.qe rfl rfl ?_)
       first | refine J.skip rfl rfl rfl rfl rfl ?_ | refine J.qh rfl rfl rfl rfl ?_ | (refine J.qf rfl rfl rfl ?_;refine J.qK rfl Ty.u26 rfl rfl ?_)
       refine J.qf rfl rfl rfl<|J.qj rfl rfl rfl rfl<|J.name 37 rfl (show _=Value.bool false by simp;omega) ?_
       (first | refine J.qr rfl rfl rfl ?_ | refine J.qs rfl rfl rfl ?_)
       refine J.qe rfl rfl ?_
       first | refine J.skip rfl rfl rfl rfl rfl ?_ | refine J.qh rfl rfl rfl rfl ?_ | (refine J.qf rfl rfl rfl ?_;refine J.qe rfl rfl ?_)
       refine J.qf rfl rfl rfl<|J.qj rfl rfl rfl rfl<|J.name 41 rfl (show _=Value.bool false by simp;omega) ?_
       (first | refine J.qr rfl rfl rfl ?_ | refine J.qs rfl rfl rfl ?_)
       refine J.qe rfl rfl ?_
       first | refine J.skip rfl rfl rfl rfl rfl ?_ | refine J.qh rfl rfl rfl rfl ?_ | (refine J.qf rfl rfl rfl ?_;refine J.qe rfl rfl ?_)
       refine J.qf rfl rfl rfl<|J.qF Ty.u81 Ty.u2 rfl rfl<|J.name 45 rfl (show _=Value.int .i64 ((n1:Nat):Int) from congrArg (Value.int .i64) (qV (by omega) (by omega))) ?_
       first | refine J.skip rfl rfl rfl rfl rfl ?_ | refine J.qh rfl rfl rfl rfl ?_ | (refine J.qf rfl rfl rfl ?_;refine J.qe rfl rfl ?_)
       first | refine J.skip rfl rfl rfl rfl rfl ?_ | refine J.qh rfl rfl rfl rfl ?_ | (refine J.qf rfl rfl rfl ?_;refine J.qq rfl rfl ?_)
       first | refine J.skip rfl rfl rfl rfl rfl ?_ | refine J.qh rfl rfl rfl rfl ?_ | (refine J.qf rfl rfl rfl ?_;refine J.qi Ty.fd99_2 rfl rfl ?_)
       refine J.qf rfl rfl rfl<|J.qw (v:=.int .i64 ((inc:Nat):Int)) Ty.a2 rfl (fun w1 hw=>by rw [qB (hw.own ((vb,vaO lv mb ((inc:Nat):Int))) zm)];rfl) rfl ?_;refine J.qf rfl rfl rfl<|J.qj rfl rfl rfl rfl<|J.name 50 rfl (show _=Value.bool true by simp;omega) ?_
       (first | refine J.qr rfl rfl rfl ?_ | refine J.qs rfl rfl rfl ?_)
       refine J.nil ?_;refine JX.qd (hK10 _ _ ?_)
       first | refine JC.qP rfl ?_ | refine JC.qn rfl (fun _=>?_) (fun h=>by first | (exfalso;simp at h;omega) | (simp at h))
       refine JC.seq (fun K14 hK14=>?_);refine JC.region<|J.assign rfl rfl<|J.nil ?_;refine JX.qd (hK14 _ _ ?_);refine JC.qA<|JX.qt<|JX.qH<|JX.qt ?_;refine JX.qL rfl rfl (fun w hw=>?_)
       first
       | exact ⟨.no,rfl,hg,hw⟩
       | exact ⟨.no,rfl,hg,hw.drop (List.sublist_cons_self _ _)⟩
       | exact ⟨.no,rfl,hg,(hw.drop (List.sublist_cons_self _ _)).drop (List.sublist_append_right _ _)⟩
       | exact ⟨.inc n1,rfl,hg,hw⟩
       | exact ⟨.item ⟨k1,⟨((n2:Nat):Int),k3⟩,t4,.slice a4 t4.length c4,l4⟩ es5 ck5,rfl,⟨hg,⟨⟨by simp only;omega,by simp only;omega⟩,hv4⟩,hT5⟩,(hw.perm (zp:List.Perm _ ((q6,cb (cT k1 ⟨((n2:Nat):Int),k3⟩ (.slice a4 t4.length c4)) 28)::((vb,vaO lv mb ((inc:Nat):Int))::(mb,.map es5 ck5)::l4)))).drop (List.sublist_cons_self _ _)⟩
      ·have hg:readP inc bs=some (.inl n1):=readP_inc hN0 hN1 (by omega) xb xc xd
       refine JC.region<|J.qe rfl rfl<|J.qj rfl rfl rfl rfl<|J.name 32 rfl (show _=Value.bool false by have xz:e1=0:=(by omega);simp [xz]) ?_;refine J.qe rfl rfl ?_
       first | refine J.skip rfl rfl rfl rfl rfl ?_ | refine J.qh rfl rfl rfl rfl ?_ | (refine J.qf rfl rfl rfl ?_;refine J.qe rfl rfl ?_)
       first | refine J.skip rfl rfl rfl rfl rfl ?_ | refine J.qh rfl rfl rfl rfl ?_ | (refine J.qf rfl rfl rfl ?_;refine J.qe rfl rfl ?_)
       first | refine J.skip rfl rfl rfl rfl rfl ?_ | refine J.qh rfl rfl rfl rfl ?_ | (refine J.qf rfl rfl rfl ?_;refine J.qK rfl Ty.u26 rfl rfl ?_)
       refine J.qf rfl rfl rfl<|J.qj rfl rfl rfl rfl<|J.name 37 rfl (show _=Value.bool false by simp;omega) ?_
       (first | refine J.qr rfl rfl rfl ?_ | refine J.qs rfl rfl rfl ?_)
       refine J.qe rfl rfl ?_
       first | refine J.skip rfl rfl rfl rfl rfl ?_ | refine J.qh rfl rfl rfl rfl ?_ | (refine J.qf rfl rfl rfl ?_;refine J.qe rfl rfl ?_)
       refine J.qf rfl rfl rfl<|J.qj rfl rfl rfl rfl<|J.name 41 rfl (show _=Value.bool false by simp;omega) ?_
       (first | refine J.qr rfl rfl rfl ?_ | refine J.qs rfl rfl rfl ?_)
       refine J.qe rfl rfl ?_
       first | refine J.skip rfl rfl rfl rfl rfl ?_ | refine J.qh rfl rfl rfl rfl ?_ | (refine J.qf rfl rfl rfl ?_;refine J.qe rfl rfl ?_)
       refine J.qf rfl rfl rfl<|J.qF Ty.u81 Ty.u2 rfl rfl<|J.name 45 rfl (show _=Value.int .i64 ((n1:Nat):Int) from congrArg (Value.int .i64) (qV (by omega) (by omega))) ?_
       first | refine J.skip rfl rfl rfl rfl rfl ?_ | refine J.qh rfl rfl rfl rfl ?_ | (refine J.qf rfl rfl rfl ?_;refine J.qe rfl rfl ?_)
       first | refine J.skip rfl rfl rfl rfl rfl ?_ | refine J.qh rfl rfl rfl rfl ?_ | (refine J.qf rfl rfl rfl ?_;refine J.qq rfl rfl ?_)
       first | refine J.skip rfl rfl rfl rfl rfl ?_ | refine J.qh rfl rfl rfl rfl ?_ | (refine J.qf rfl rfl rfl ?_;refine J.qi Ty.fd99_2 rfl rfl ?_)
       refine J.qf rfl rfl rfl<|J.qw (v:=.int .i64 ((inc:Nat):Int)) Ty.a2 rfl (fun w1 hw=>by rw [qB (hw.own ((vb,vaO lv mb ((inc:Nat):Int))) zm)];rfl) rfl ?_;refine J.qf rfl rfl rfl<|J.qj rfl rfl rfl rfl<|J.name 50 rfl (show _=Value.bool false by simp;omega) ?_
       (first | refine J.qr rfl rfl rfl ?_ | refine J.qs rfl rfl rfl ?_)
       refine J.nil ?_;refine JX.qd (hK10 _ _ ?_)
       first | refine JC.qI rfl ?_ | refine JC.qn rfl (fun h=>by first | (exfalso;simp at h;omega) | (simp at h)) (fun _=>?_)
       refine JC.skip ?_;refine JX.qd (hK9 _ _ ?_);refine JC.seq (fun K15 hK15=>?_);refine JC.region<|J.qe rfl rfl<|J.qe rfl rfl<|J.qF Ty.u81 Ty.u2 rfl rfl<|J.name 54 rfl (show _=Value.int .i64 ((n1:Nat):Int) from congrArg (Value.int .i64) (qV (by omega) (by omega))) ?_;refine J.qq rfl rfl<|J.qi Ty.fd99_2 rfl rfl<|J.qU (cs:=[lv,.map (some mb),.int .i64 ((inc:Nat):Int)]) (vs:=[.int .i64 ((n1:Nat):Int)]) (l':=(vb,vaO lv mb ((n1:Nat):Int))::(mb,.map es ck)::[]) Ty.s2 rfl rfl rfl rfl (fun v hv=>by rw [List.mem_singleton.1 hv];rfl) .here (by show _≤3;omega) ?_;refine J.nil ?_;refine JX.qd (hK15 _ _ ?_);refine JC.seq (fun K16 hK16=>?_);refine JC.region<|J.assign rfl rfl<|J.nil ?_;refine JX.qd (hK16 _ _ ?_);refine JC.qA<|JX.qH<|JX.qt ?_;refine JX.qL rfl rfl (fun w hw=>?_)
       first
       | exact ⟨.no,rfl,hg,hw⟩
       | exact ⟨.no,rfl,hg,hw.drop (List.sublist_cons_self _ _)⟩
       | exact ⟨.no,rfl,hg,(hw.drop (List.sublist_cons_self _ _)).drop (List.sublist_append_right _ _)⟩
       | exact ⟨.inc n1,rfl,hg,hw⟩
       | exact ⟨.item ⟨k1,⟨((n2:Nat):Int),k3⟩,t4,.slice a4 t4.length c4,l4⟩ es5 ck5,rfl,⟨hg,⟨⟨by simp only;omega,by simp only;omega⟩,hv4⟩,hT5⟩,(hw.perm (zp:List.Perm _ ((q6,cb (cT k1 ⟨((n2:Nat):Int),k3⟩ (.slice a4 t4.length c4)) 28)::((vb,vaO lv mb ((inc:Nat):Int))::(mb,.map es5 ck5)::l4)))).drop (List.sublist_cons_self _ _)⟩
  ·try simp only [decide_eq_true_eq,decide_eq_false_iff_not,beq_iff_eq,bne_iff_ne,bne_eq_false_iff_eq,ne_eq,beq_eq_false_iff_ne,Bool.not_eq_true,Bool.not_eq_false,Int.not_lt,Int.not_le] at h1
   refine JC.seq (fun K17 hK17=>?_);refine JC.region<|J.qj rfl rfl rfl rfl<|J.assign rfl rfl<|J.nil ?_;refine JX.qd (hK17 _ _ ?_);refine JC.qn rfl (fun h3=>?_) (fun h3=>?_)
   ·have hk2:n0=2:=by simp at h3;omega
    subst hk2
    refine JC.seq (fun K18 hK18=>?_);refine JC.region ?_;refine J.alloc Ty.zIt rfl rfl (fun q6=>?_);refine J.nil ?_;refine JX.qd (hK18 _ _ ?_);refine JC.seq (fun K19 hK19=>?_);refine JC.region<|J.assign rfl rfl<|J.nil ?_;refine JX.qd (hK19 _ _ ?_);refine JC.seq (fun K20 hK20=>?_);refine JC.seq (fun K21 hK21=>?_);refine JC.region<|J.qe rfl rfl<|J.qe rfl rfl ?_
    obtain ⟨⟨k1,p1,e1⟩,hK1⟩:∃x,getI bs p0=x:=⟨_,rfl⟩
    have hk1b:=getI_end bs p0
    rw [hK1] at hk1b
    simp only at hk1b
    refine J.qR (v:=.tuple #[.agg (cI k1).toArray,.int .i64 ((p1:Nat):Int),.int .i64 e1]) (fun w1 w2 hw hb=>hw.step hb) Ty.bd65 rfl rfl (fun w1 hw=>by have h9:=getID_spec _ bs p0 w1 (hr.st hoff hw) (by omega) (by omega);rw [hK1] at h9;exact h9) ?_;refine J.qe rfl rfl<|J.extract rfl rfl rfl<|J.extract rfl rfl rfl<|J.extract rfl rfl rfl<|J.qi Ty.fd28_0 rfl rfl<|J.qU (cs:=cT zI zV (.slice none 0 0)) (vs:=cI k1) (l':=(q6,cb (cT k1 ⟨0,zI⟩ (.slice none 0 0)) 28)::(vb,vaO lv mb ((inc:Nat):Int))::(mb,.map es ck)::[]) Ty.s23 rfl rfl rfl rfl (zN _) (by rw [show 0+0=0 from rfl,set_key];exact .here) (by show _≤34;omega) ?_;refine J.assign rfl rfl<|J.assign rfl rfl<|J.nil ?_;refine JX.qd (hK21 _ _ ?_);refine JC.seq (fun K22 hK22=>?_);refine JC.region<|J.qe rfl rfl<|J.qj rfl rfl rfl rfl<|J.nil ?_;refine JX.qd (hK22 _ _ ?_);refine JC.qn rfl (fun h4=>?_) (fun h4=>?_)
    ·have hg:readP inc bs=none:=readP_k1 hN0 hK1 (by simpa using h4)
     refine JC.seq (fun K23 hK23=>?_);refine JC.region<|J.assign rfl rfl<|J.nil ?_;refine JX.qd (hK23 _ _ ?_);refine JC.qA<|JX.qt<|JX.qH<|JX.qt ?_;refine JX.qL rfl rfl (fun w hw=>?_)
     first
     | exact ⟨.no,rfl,hg,hw⟩
     | exact ⟨.no,rfl,hg,hw.drop (List.sublist_cons_self _ _)⟩
     | exact ⟨.no,rfl,hg,(hw.drop (List.sublist_cons_self _ _)).drop (List.sublist_append_right _ _)⟩
     | exact ⟨.inc n1,rfl,hg,hw⟩
     | exact ⟨.item ⟨k1,⟨((n2:Nat):Int),k3⟩,t4,.slice a4 t4.length c4,l4⟩ es5 ck5,rfl,⟨hg,⟨⟨by simp only;omega,by simp only;omega⟩,hv4⟩,hT5⟩,(hw.perm (zp:List.Perm _ ((q6,cb (cT k1 ⟨((n2:Nat):Int),k3⟩ (.slice a4 t4.length c4)) 28)::((vb,vaO lv mb ((inc:Nat):Int))::(mb,.map es5 ck5)::l4)))).drop (List.sublist_cons_self _ _)⟩
    ·have hz1:e1=0:=by simpa using h4
     refine JC.skip ?_;refine JX.qd (hK20 _ _ ?_);refine JC.seq (fun K24 hK24=>?_);refine JC.seq (fun K25 hK25=>?_);refine JC.region<|J.qe rfl rfl<|J.qe rfl rfl ?_
     obtain ⟨⟨n2,p2,e2⟩,hN2⟩:∃x,getN bs p1=x:=⟨_,rfl⟩
     have hn2b:=yi bs p1
     have hn2u:=yG bs p1
     rw [hN2] at hn2b hn2u
     simp only at hn2b hn2u
     refine J.qR (v:=.tuple #[.int .u64 ((n2:Nat):Int),.int .i64 ((p2:Nat):Int),.int .i64 e2]) (fun w1 w2 hw hb=>hw.step hb) Ty.bd64 rfl rfl (fun w1 hw=>by have h9:=getNum_spec _ bs p1 w1 (hr.st hoff hw) (by omega) (by omega);rw [hN2] at h9;exact h9) ?_;refine J.qe rfl rfl<|J.extract rfl rfl rfl<|J.extract rfl rfl rfl<|J.extract rfl rfl rfl<|J.assign rfl rfl<|J.assign rfl rfl<|J.assign rfl rfl<|J.nil ?_;refine JX.qd (hK25 _ _ ?_);refine JC.seq (fun K26 hK26=>?_)
     by_cases xa:e2≠0
     ·have hg:readP inc bs=none:=readP_n2 hN0 hK1 hz1 hN2 (.inl xa)
      refine JC.region<|J.qe rfl rfl<|J.qj rfl rfl rfl rfl<|J.name 77 rfl (show _=Value.bool true by simp [xa]) ?_;refine J.qe rfl rfl ?_
      first | refine J.skip rfl rfl rfl rfl rfl ?_ | refine J.qh rfl rfl rfl rfl ?_ | (refine J.qf rfl rfl rfl ?_;refine J.qe rfl rfl ?_)
      first | refine J.skip rfl rfl rfl rfl rfl ?_ | refine J.qh rfl rfl rfl rfl ?_ | (refine J.qf rfl rfl rfl ?_;refine J.qj rfl rfl rfl rfl ?_)
      (first | refine J.qr rfl rfl rfl ?_ | refine J.qs rfl rfl rfl ?_)
      refine J.qe rfl rfl ?_
      first | refine J.skip rfl rfl rfl rfl rfl ?_ | refine J.qh rfl rfl rfl rfl ?_ | (refine J.qf rfl rfl rfl ?_;refine J.qe rfl rfl ?_)
      first | refine J.skip rfl rfl rfl rfl rfl ?_ | refine J.qh rfl rfl rfl rfl ?_ | (refine J.qf rfl rfl rfl ?_;refine J.qj rfl rfl rfl rfl ?_)
      first | refine J.skip rfl rfl rfl rfl rfl ?_ | refine J.qh rfl rfl rfl rfl ?_ | (refine J.qf rfl rfl rfl ?_;refine J.qj rfl rfl rfl rfl ?_)
      (first | refine J.qr rfl rfl rfl ?_ | refine J.qs rfl rfl rfl ?_)
      refine J.nil ?_;refine JX.qd (hK26 _ _ ?_)
      first | refine JC.qP rfl ?_ | refine JC.qn rfl (fun _=>?_) (fun h=>by first | (exfalso;simp at h;omega) | (simp at h))
      refine JC.seq (fun K27 hK27=>?_);refine JC.region<|J.assign rfl rfl<|J.nil ?_;refine JX.qd (hK27 _ _ ?_);refine JC.qA<|JX.qt<|JX.qH<|JX.qt ?_;refine JX.qL rfl rfl (fun w hw=>?_)
      first
      | exact ⟨.no,rfl,hg,hw⟩
      | exact ⟨.no,rfl,hg,hw.drop (List.sublist_cons_self _ _)⟩
      | exact ⟨.no,rfl,hg,(hw.drop (List.sublist_cons_self _ _)).drop (List.sublist_append_right _ _)⟩
      | exact ⟨.inc n1,rfl,hg,hw⟩
      | exact ⟨.item ⟨k1,⟨((n2:Nat):Int),k3⟩,t4,.slice a4 t4.length c4,l4⟩ es5 ck5,rfl,⟨hg,⟨⟨by simp only;omega,by simp only;omega⟩,hv4⟩,hT5⟩,(hw.perm (zp:List.Perm _ ((q6,cb (cT k1 ⟨((n2:Nat):Int),k3⟩ (.slice a4 t4.length c4)) 28)::((vb,vaO lv mb ((inc:Nat):Int))::(mb,.map es5 ck5)::l4)))).drop (List.sublist_cons_self _ _)⟩
     ·by_cases xb:n2<1
      ·have hg:readP inc bs=none:=readP_n2 hN0 hK1 hz1 hN2 (.inr (.inl xb))
       refine JC.region<|J.qe rfl rfl<|J.qj rfl rfl rfl rfl<|J.name 77 rfl (show _=Value.bool false by have xz:e2=0:=(by omega);simp [xz]) ?_;refine J.qe rfl rfl ?_
       first | refine J.skip rfl rfl rfl rfl rfl ?_ | refine J.qh rfl rfl rfl rfl ?_ | (refine J.qf rfl rfl rfl ?_;refine J.qe rfl rfl ?_)
       refine J.qf rfl rfl rfl<|J.qj rfl rfl rfl rfl<|J.name 80 rfl (show _=Value.bool true by simp;omega) ?_
       (first | refine J.qr rfl rfl rfl ?_ | refine J.qs rfl rfl rfl ?_)
       refine J.qe rfl rfl ?_
       first | refine J.skip rfl rfl rfl rfl rfl ?_ | refine J.qh rfl rfl rfl rfl ?_ | (refine J.qf rfl rfl rfl ?_;refine J.qe rfl rfl ?_)
       first | refine J.skip rfl rfl rfl rfl rfl ?_ | refine J.qh rfl rfl rfl rfl ?_ | (refine J.qf rfl rfl rfl ?_;refine J.qj rfl rfl rfl rfl ?_)
       first | refine J.skip rfl rfl rfl rfl rfl ?_ | refine J.qh rfl rfl rfl rfl ?_ | (refine J.qf rfl rfl rfl ?_;refine J.qj rfl rfl rfl rfl ?_)
       (first | refine J.qr rfl rfl rfl ?_ | refine J.qs rfl rfl rfl ?_)
       refine J.nil ?_;refine JX.qd (hK26 _ _ ?_)
       first | refine JC.qP rfl ?_ | refine JC.qn rfl (fun _=>?_) (fun h=>by first | (exfalso;simp at h;omega) | (simp at h))
       refine JC.seq (fun K28 hK28=>?_);refine JC.region<|J.assign rfl rfl<|J.nil ?_;refine JX.qd (hK28 _ _ ?_);refine JC.qA<|JX.qt<|JX.qH<|JX.qt ?_;refine JX.qL rfl rfl (fun w hw=>?_)
       first
       | exact ⟨.no,rfl,hg,hw⟩
       | exact ⟨.no,rfl,hg,hw.drop (List.sublist_cons_self _ _)⟩
       | exact ⟨.no,rfl,hg,(hw.drop (List.sublist_cons_self _ _)).drop (List.sublist_append_right _ _)⟩
       | exact ⟨.inc n1,rfl,hg,hw⟩
       | exact ⟨.item ⟨k1,⟨((n2:Nat):Int),k3⟩,t4,.slice a4 t4.length c4,l4⟩ es5 ck5,rfl,⟨hg,⟨⟨by simp only;omega,by simp only;omega⟩,hv4⟩,hT5⟩,(hw.perm (zp:List.Perm _ ((q6,cb (cT k1 ⟨((n2:Nat):Int),k3⟩ (.slice a4 t4.length c4)) 28)::((vb,vaO lv mb ((inc:Nat):Int))::(mb,.map es5 ck5)::l4)))).drop (List.sublist_cons_self _ _)⟩
      ·by_cases xc:4611686018427387904≤n2
       ·have hg:readP inc bs=none:=readP_n2 hN0 hK1 hz1 hN2 (.inr (.inr xc))
        refine JC.region<|J.qe rfl rfl<|J.qj rfl rfl rfl rfl<|J.name 77 rfl (show _=Value.bool false by have xz:e2=0:=(by omega);simp [xz]) ?_;refine J.qe rfl rfl ?_
        first | refine J.skip rfl rfl rfl rfl rfl ?_ | refine J.qh rfl rfl rfl rfl ?_ | (refine J.qf rfl rfl rfl ?_;refine J.qe rfl rfl ?_)
        refine J.qf rfl rfl rfl<|J.qj rfl rfl rfl rfl<|J.name 80 rfl (show _=Value.bool false by simp;omega) ?_
        (first | refine J.qr rfl rfl rfl ?_ | refine J.qs rfl rfl rfl ?_)
        refine J.qe rfl rfl ?_
        first | refine J.skip rfl rfl rfl rfl rfl ?_ | refine J.qh rfl rfl rfl rfl ?_ | (refine J.qf rfl rfl rfl ?_;refine J.qe rfl rfl ?_)
        refine J.qf rfl rfl rfl<|J.shrN rfl rfl (by omega) rfl ?_;refine J.qf rfl rfl rfl<|J.qj rfl rfl rfl rfl<|J.name 85 rfl (congrArg Value.bool ((shr62 n2 hn2u).trans (decide_eq_true xc))) ?_
        (first | refine J.qr rfl rfl rfl ?_ | refine J.qs rfl rfl rfl ?_)
        refine J.nil ?_;refine JX.qd (hK26 _ _ ?_)
        first | refine JC.qP rfl ?_ | refine JC.qn rfl (fun _=>?_) (fun h=>by first | (exfalso;simp at h;omega) | (simp at h))
        refine JC.seq (fun K29 hK29=>?_);refine JC.region<|J.assign rfl rfl<|J.nil ?_;refine JX.qd (hK29 _ _ ?_);refine JC.qA<|JX.qt<|JX.qH<|JX.qt ?_;refine JX.qL rfl rfl (fun w hw=>?_)
        first
        | exact ⟨.no,rfl,hg,hw⟩
        | exact ⟨.no,rfl,hg,hw.drop (List.sublist_cons_self _ _)⟩
        | exact ⟨.no,rfl,hg,(hw.drop (List.sublist_cons_self _ _)).drop (List.sublist_append_right _ _)⟩
        | exact ⟨.inc n1,rfl,hg,hw⟩
        | exact ⟨.item ⟨k1,⟨((n2:Nat):Int),k3⟩,t4,.slice a4 t4.length c4,l4⟩ es5 ck5,rfl,⟨hg,⟨⟨by simp only;omega,by simp only;omega⟩,hv4⟩,hT5⟩,(hw.perm (zp:List.Perm _ ((q6,cb (cT k1 ⟨((n2:Nat):Int),k3⟩ (.slice a4 t4.length c4)) 28)::((vb,vaO lv mb ((inc:Nat):Int))::(mb,.map es5 ck5)::l4)))).drop (List.sublist_cons_self _ _)⟩
       ·have xa0:e2=0:=by omega
        rw [xa0] at hN2
        refine JC.region<|J.qe rfl rfl<|J.qj rfl rfl rfl rfl<|J.name 77 rfl (show _=Value.bool false by have xz:e2=0:=(by omega);simp [xz]) ?_;refine J.qe rfl rfl ?_
        first | refine J.skip rfl rfl rfl rfl rfl ?_ | refine J.qh rfl rfl rfl rfl ?_ | (refine J.qf rfl rfl rfl ?_;refine J.qe rfl rfl ?_)
        refine J.qf rfl rfl rfl<|J.qj rfl rfl rfl rfl<|J.name 80 rfl (show _=Value.bool false by simp;omega) ?_
        (first | refine J.qr rfl rfl rfl ?_ | refine J.qs rfl rfl rfl ?_)
        refine J.qe rfl rfl ?_
        first | refine J.skip rfl rfl rfl rfl rfl ?_ | refine J.qh rfl rfl rfl rfl ?_ | (refine J.qf rfl rfl rfl ?_;refine J.qe rfl rfl ?_)
        refine J.qf rfl rfl rfl<|J.shrN rfl rfl (by omega) rfl ?_;refine J.qf rfl rfl rfl<|J.qj rfl rfl rfl rfl<|J.name 85 rfl (congrArg Value.bool ((shr62 n2 hn2u).trans (decide_eq_false xc))) ?_
        (first | refine J.qr rfl rfl rfl ?_ | refine J.qs rfl rfl rfl ?_)
        refine J.nil ?_;refine JX.qd (hK26 _ _ ?_)
        first | refine JC.qI rfl ?_ | refine JC.qn rfl (fun h=>by first | (exfalso;simp at h;omega) | (simp at h)) (fun _=>?_)
        refine JC.skip ?_;refine JX.qd (hK24 _ _ ?_);refine JC.seq (fun K30 hK30=>?_);refine JC.region<|J.qe rfl rfl<|J.qF Ty.u81 Ty.u2 rfl rfl<|J.name 88 rfl (show _=Value.int .i64 ((n2:Nat):Int) from congrArg (Value.int .i64) (qV (by omega) (by omega))) ?_;refine J.qi Ty.fd28_1 rfl rfl<|J.qi Ty.fd25_0 rfl rfl<|J.qU (cs:=cT k1 ⟨0,zI⟩ (.slice none 0 0)) (vs:=[.int .i64 ((n2:Nat):Int)]) (l':=(q6,cb (cT k1 ⟨((n2:Nat):Int),zI⟩ (.slice none 0 0)) 28)::(vb,vaO lv mb ((inc:Nat):Int))::(mb,.map es ck)::[]) Ty.s2 rfl rfl rfl rfl (fun v hv=>by rw [List.mem_singleton.1 hv];rfl) (by rw [show 0+16+0=16 from rfl,set_n];exact .here) (by show _≤34;omega) ?_;refine J.nil ?_;refine JX.qd (hK30 _ _ ?_);refine JC.seq (fun K31 hK31=>?_);refine JC.seq (fun K32 hK32=>?_);refine JC.region<|J.qe rfl rfl<|J.qe rfl rfl ?_
        obtain ⟨⟨k3,p3,e3⟩,hK3⟩:∃x,getI bs p2=x:=⟨_,rfl⟩
        have hk3b:=getI_end bs p2
        rw [hK3] at hk3b
        simp only at hk3b
        refine J.qR (v:=.tuple #[.agg (cI k3).toArray,.int .i64 ((p3:Nat):Int),.int .i64 e3]) (fun w1 w2 hw hb=>hw.step hb) Ty.bd65 rfl rfl (fun w1 hw=>by have h9:=getID_spec _ bs p2 w1 (hr.st hoff hw) (by omega) (by omega);rw [hK3] at h9;exact h9) ?_;refine J.qe rfl rfl<|J.extract rfl rfl rfl<|J.extract rfl rfl rfl<|J.extract rfl rfl rfl<|J.qi Ty.fd28_1 rfl rfl<|J.qi Ty.fd25_1 rfl rfl<|J.qU (cs:=cT k1 ⟨((n2:Nat):Int),zI⟩ (.slice none 0 0)) (vs:=cI k3) (l':=(q6,cb (cT k1 ⟨((n2:Nat):Int),k3⟩ (.slice none 0 0)) 28)::(vb,vaO lv mb ((inc:Nat):Int))::(mb,.map es ck)::[]) Ty.s23 rfl rfl rfl rfl (zN _) (by rw [show 0+16+1=17 from rfl,set_who];exact .here) (by show _≤34;omega) ?_;refine J.assign rfl rfl<|J.assign rfl rfl<|J.nil ?_;refine JX.qd (hK32 _ _ ?_);refine JC.seq (fun K33 hK33=>?_);refine JC.region<|J.qe rfl rfl<|J.qj rfl rfl rfl rfl<|J.nil ?_;refine JX.qd (hK33 _ _ ?_);refine JC.qn rfl (fun h6=>?_) (fun h6=>?_)
        ·have hg:readP inc bs=none:=readP_k3 hN0 hK1 hz1 hN2 xb xc hK3 (by simpa using h6)
         refine JC.seq (fun K34 hK34=>?_);refine JC.region<|J.assign rfl rfl<|J.nil ?_;refine JX.qd (hK34 _ _ ?_);refine JC.qA<|JX.qt<|JX.qH<|JX.qt ?_;refine JX.qL rfl rfl (fun w hw=>?_)
         first
         | exact ⟨.no,rfl,hg,hw⟩
         | exact ⟨.no,rfl,hg,hw.drop (List.sublist_cons_self _ _)⟩
         | exact ⟨.no,rfl,hg,(hw.drop (List.sublist_cons_self _ _)).drop (List.sublist_append_right _ _)⟩
         | exact ⟨.inc n1,rfl,hg,hw⟩
         | exact ⟨.item ⟨k1,⟨((n2:Nat):Int),k3⟩,t4,.slice a4 t4.length c4,l4⟩ es5 ck5,rfl,⟨hg,⟨⟨by simp only;omega,by simp only;omega⟩,hv4⟩,hT5⟩,(hw.perm (zp:List.Perm _ ((q6,cb (cT k1 ⟨((n2:Nat):Int),k3⟩ (.slice a4 t4.length c4)) 28)::((vb,vaO lv mb ((inc:Nat):Int))::(mb,.map es5 ck5)::l4)))).drop (List.sublist_cons_self _ _)⟩
        ·have hz3:e3=0:=by simpa using h6
         refine JC.skip ?_;refine JX.qd (hK31 _ _ ?_);refine JC.seq (fun K35 hK35=>?_);refine JC.seq (fun K36 hK36=>?_);refine JC.region<|J.qe rfl rfl<|J.qe rfl rfl ?_
         obtain ⟨⟨t4,p4,e4⟩,hT4⟩:∃x,getT bs p3 64=x:=⟨_,rfl⟩
         have ht4l:=getT_len bs p3 64
         have ht4e:=getT_end bs p3 64
         rw [hT4] at ht4l ht4e
         simp only at ht4l ht4e
         refine J.perm ([]++((q6,cb (cT k1 ⟨((n2:Nat):Int),k3⟩ (.slice none 0 0)) 28)::(vb,vaO lv mb ((inc:Nat):Int))::(mb,.map es ck)::[])) (.refl _) ?_;refine J.qO (α:=Value × List (Nat × Obj)) (V:=fun x=>.tuple #[x.1,.int .i64 ((p4:Nat):Int),.int .i64 e4]) (Pr:=fun x=>Vec 5 1 x.1 (t4).length ((t4).map u8) x.2) (L:=(·.2)) (l1:=[]) Ty.bd66 rfl rfl (fun w1 hw=>by have h9:=getText_spec _ bs p3 64 w1 (hr.st hoff hw) (by omega) (by omega) (by omega);rw [hT4] at h9;exact h9) (fun x hv4=>?_)
         obtain ⟨v4,l4⟩:=x
         try simp only at hv4 ⊢
         obtain ⟨a4,c4,rfl,hc4⟩:=hv4.form
         refine J.perm ((q6,cb (cT k1 ⟨((n2:Nat):Int),k3⟩ (.slice none 0 0)) 28)::(l4++((vb,vaO lv mb ((inc:Nat):Int))::(mb,.map es ck)::[]))) zp<|J.qe rfl rfl<|J.extract rfl rfl rfl<|J.extract rfl rfl rfl<|J.extract rfl rfl rfl<|J.qi Ty.fd28_2 rfl rfl<|J.qU (cs:=cT k1 ⟨((n2:Nat):Int),k3⟩ (.slice none 0 0)) (vs:=[.slice a4 t4.length c4]) (l':=(q6,cb (cT k1 ⟨((n2:Nat):Int),k3⟩ (.slice a4 t4.length c4)) 28)::(l4++((vb,vaO lv mb ((inc:Nat):Int))::(mb,.map es ck)::[]))) Ty.s26 rfl rfl rfl rfl (fun v hv=>by rw [List.mem_singleton.1 hv];rfl) (by rw [show 0+33=33 from rfl,set_sv];exact .here) (by show _≤34;omega) ?_;refine J.assign rfl rfl<|J.assign rfl rfl<|J.nil ?_;refine JX.qd (hK36 _ _ ?_);refine JC.seq (fun K37 hK37=>?_)
         by_cases xd:e4≠0
         ·have hg:readP inc bs=none:=readP_t4 hN0 hK1 hz1 hN2 xb xc hK3 hz3 hT4 (.inl xd)
          refine JC.region<|J.qe rfl rfl<|J.qj rfl rfl rfl rfl<|J.name 111 rfl (show _=Value.bool true by simp [xd]) ?_;refine J.qe rfl rfl ?_
          first | refine J.skip rfl rfl rfl rfl rfl ?_ | refine J.qh rfl rfl rfl rfl ?_ | (refine J.qf rfl rfl rfl ?_;refine J.qe rfl rfl ?_)
          first | refine J.skip rfl rfl rfl rfl rfl ?_ | refine J.qh rfl rfl rfl rfl ?_ | (refine J.qf rfl rfl rfl ?_;refine J.qe rfl rfl ?_)
          first | refine J.skip rfl rfl rfl rfl rfl ?_ | refine J.qh rfl rfl rfl rfl ?_ | (refine J.qf rfl rfl rfl ?_;refine J.qK rfl Ty.u26 rfl rfl ?_)
          first | refine J.skip rfl rfl rfl rfl rfl ?_ | refine J.qh rfl rfl rfl rfl ?_ | (refine J.qf rfl rfl rfl ?_;refine J.qj rfl rfl rfl rfl ?_)
          (first | refine J.qr rfl rfl rfl ?_ | refine J.qs rfl rfl rfl ?_)
          refine J.nil ?_;refine JX.qd (hK37 _ _ ?_)
          first | refine JC.qP rfl ?_ | refine JC.qn rfl (fun _=>?_) (fun h=>by first | (exfalso;simp at h;omega) | (simp at h))
          refine JC.seq (fun K38 hK38=>?_);refine JC.region<|J.assign rfl rfl<|J.nil ?_;refine JX.qd (hK38 _ _ ?_);refine JC.qA<|JX.qt<|JX.qH<|JX.qt ?_;refine JX.qL rfl rfl (fun w hw=>?_)
          first
          | exact ⟨.no,rfl,hg,hw⟩
          | exact ⟨.no,rfl,hg,hw.drop (List.sublist_cons_self _ _)⟩
          | exact ⟨.no,rfl,hg,(hw.drop (List.sublist_cons_self _ _)).drop (List.sublist_append_right _ _)⟩
          | exact ⟨.inc n1,rfl,hg,hw⟩
          | exact ⟨.item ⟨k1,⟨((n2:Nat):Int),k3⟩,t4,.slice a4 t4.length c4,l4⟩ es5 ck5,rfl,⟨hg,⟨⟨by simp only;omega,by simp only;omega⟩,hv4⟩,hT5⟩,(hw.perm (zp:List.Perm _ ((q6,cb (cT k1 ⟨((n2:Nat):Int),k3⟩ (.slice a4 t4.length c4)) 28)::((vb,vaO lv mb ((inc:Nat):Int))::(mb,.map es5 ck5)::l4)))).drop (List.sublist_cons_self _ _)⟩
         ·by_cases xe:p4<bs.length
          ·have hg:readP inc bs=none:=readP_t4 hN0 hK1 hz1 hN2 xb xc hK3 hz3 hT4 (.inr xe)
           refine JC.region<|J.qe rfl rfl<|J.qj rfl rfl rfl rfl<|J.name 111 rfl (show _=Value.bool false by have xz:e4=0:=(by omega);simp [xz]) ?_;refine J.qe rfl rfl ?_
           first | refine J.skip rfl rfl rfl rfl rfl ?_ | refine J.qh rfl rfl rfl rfl ?_ | (refine J.qf rfl rfl rfl ?_;refine J.qe rfl rfl ?_)
           first | refine J.skip rfl rfl rfl rfl rfl ?_ | refine J.qh rfl rfl rfl rfl ?_ | (refine J.qf rfl rfl rfl ?_;refine J.qe rfl rfl ?_)
           first | refine J.skip rfl rfl rfl rfl rfl ?_ | refine J.qh rfl rfl rfl rfl ?_ | (refine J.qf rfl rfl rfl ?_;refine J.qK rfl Ty.u26 rfl rfl ?_)
           refine J.qf rfl rfl rfl<|J.qj rfl rfl rfl rfl<|J.name 116 rfl (show _=Value.bool true by simp;omega) ?_
           (first | refine J.qr rfl rfl rfl ?_ | refine J.qs rfl rfl rfl ?_)
           refine J.nil ?_;refine JX.qd (hK37 _ _ ?_)
           first | refine JC.qP rfl ?_ | refine JC.qn rfl (fun _=>?_) (fun h=>by first | (exfalso;simp at h;omega) | (simp at h))
           refine JC.seq (fun K39 hK39=>?_);refine JC.region<|J.assign rfl rfl<|J.nil ?_;refine JX.qd (hK39 _ _ ?_);refine JC.qA<|JX.qt<|JX.qH<|JX.qt ?_;refine JX.qL rfl rfl (fun w hw=>?_)
           first
           | exact ⟨.no,rfl,hg,hw⟩
           | exact ⟨.no,rfl,hg,hw.drop (List.sublist_cons_self _ _)⟩
           | exact ⟨.no,rfl,hg,(hw.drop (List.sublist_cons_self _ _)).drop (List.sublist_append_right _ _)⟩
           | exact ⟨.inc n1,rfl,hg,hw⟩
           | exact ⟨.item ⟨k1,⟨((n2:Nat):Int),k3⟩,t4,.slice a4 t4.length c4,l4⟩ es5 ck5,rfl,⟨hg,⟨⟨by simp only;omega,by simp only;omega⟩,hv4⟩,hT5⟩,(hw.perm (zp:List.Perm _ ((q6,cb (cT k1 ⟨((n2:Nat):Int),k3⟩ (.slice a4 t4.length c4)) 28)::((vb,vaO lv mb ((inc:Nat):Int))::(mb,.map es5 ck5)::l4)))).drop (List.sublist_cons_self _ _)⟩
          ·have hg:readP inc bs=some (.inr ⟨k1,⟨((n2:Nat):Int),k3⟩,t4⟩):=readP_item hN0 hK1 hz1 hN2 xb xc hK3 hz3 hT4 (by omega) xe
           refine JC.region<|J.qe rfl rfl<|J.qj rfl rfl rfl rfl<|J.name 111 rfl (show _=Value.bool false by have xz:e4=0:=(by omega);simp [xz]) ?_;refine J.qe rfl rfl ?_
           first | refine J.skip rfl rfl rfl rfl rfl ?_ | refine J.qh rfl rfl rfl rfl ?_ | (refine J.qf rfl rfl rfl ?_;refine J.qe rfl rfl ?_)
           first | refine J.skip rfl rfl rfl rfl rfl ?_ | refine J.qh rfl rfl rfl rfl ?_ | (refine J.qf rfl rfl rfl ?_;refine J.qe rfl rfl ?_)
           first | refine J.skip rfl rfl rfl rfl rfl ?_ | refine J.qh rfl rfl rfl rfl ?_ | (refine J.qf rfl rfl rfl ?_;refine J.qK rfl Ty.u26 rfl rfl ?_)
           refine J.qf rfl rfl rfl<|J.qj rfl rfl rfl rfl<|J.name 116 rfl (show _=Value.bool false by simp;omega) ?_
           (first | refine J.qr rfl rfl rfl ?_ | refine J.qs rfl rfl rfl ?_)
           refine J.nil ?_;refine JX.qd (hK37 _ _ ?_)
           first | refine JC.qI rfl ?_ | refine JC.qn rfl (fun h=>by first | (exfalso;simp at h;omega) | (simp at h)) (fun _=>?_)
           refine JC.skip ?_;refine JX.qd (hK35 _ _ ?_);refine JC.seq (fun K40 hK40=>?_);refine JC.region<|J.qe rfl rfl ?_
           obtain ⟨xc,hxc⟩:∃l,l=cT k1 ⟨((n2:Nat):Int),k3⟩ (.slice a4 t4.length c4):=⟨_,rfl⟩
           refine J.qC (vs:=xc) Ty.a28 Ty.s28 rfl (by rw [hxc];rfl) (fun w1 hw=>by rw [hxc];exact Cells.of_block (hw.own (q6,cb (cT k1 ⟨((n2:Nat):Int),k3⟩ (.slice a4 t4.length c4)) 28) zm) rfl) rfl ?_;refine J.perm ([(vb,vaO lv mb ((inc:Nat):Int)),(mb,.map es ck)]++((q6,cb (cT k1 ⟨((n2:Nat):Int),k3⟩ (.slice a4 t4.length c4)) 28)::l4)) zp ?_;refine J.qO (α:=Array MapEntry × Nat) (V:=fun _=>.tuple #[]) (Pr:=fun q=>Vm (takeH L ⟨k1,⟨((n2:Nat):Int),k3⟩,t4,.slice a4 t4.length c4,l4⟩) q.1 q.2) (L:=fun q=>[(vb,vaO lv mb ((inc:Nat):Int)),(mb,.map q.1 q.2)]) Ty.bd67 rfl rfl (fun w1 hw=>take_spec vb mb lv _ L es ck hT hV xc k1 _ t4 a4 _ c4 l4 w1 hxc (St.owns hw)) (fun q hT5=>?_)
           obtain ⟨es5,ck5⟩:=q
           try simp only at hT5 ⊢
           refine J.nil ?_;refine JX.qd (hK40 _ _ ?_);refine JC.seq (fun K41 hK41=>?_);refine JC.region<|J.assign rfl rfl<|J.nil ?_;refine JX.qd (hK41 _ _ ?_);refine JC.qA<|JX.qH<|JX.qt ?_;refine JX.qL rfl rfl (fun w hw=>?_)
           first
           | exact ⟨.no,rfl,hg,hw⟩
           | exact ⟨.no,rfl,hg,hw.drop (List.sublist_cons_self _ _)⟩
           | exact ⟨.no,rfl,hg,(hw.drop (List.sublist_cons_self _ _)).drop (List.sublist_append_right _ _)⟩
           | exact ⟨.inc n1,rfl,hg,hw⟩
           | exact ⟨.item ⟨k1,⟨((n2:Nat):Int),k3⟩,t4,.slice a4 t4.length c4,l4⟩ es5 ck5,rfl,⟨hg,⟨⟨by simp only;omega,by simp only;omega⟩,hv4⟩,hT5⟩,(hw.perm (zp:List.Perm _ ((q6,cb (cT k1 ⟨((n2:Nat):Int),k3⟩ (.slice a4 t4.length c4)) 28)::((vb,vaO lv mb ((inc:Nat):Int))::(mb,.map es5 ck5)::l4)))).drop (List.sublist_cons_self _ _)⟩
   ·have hg:readP inc bs=none:=readP_0 hN0 (.inr ⟨fun e=>by subst e;first | (simp at h1;done) | omega,fun e=>by subst e;first | (simp at h3;done) | omega⟩)
    refine JC.skip<|JX.qJ ?_;refine JX.qd (hK5 _ _ ?_);refine JC.seq (fun K42 hK42=>?_);refine JC.region<|J.assign rfl rfl<|J.nil ?_;refine JX.qd (hK42 _ _ ?_);refine JC.qA ?_;refine JX.qL rfl rfl (fun w hw=>?_)
    first
    | exact ⟨.no,rfl,hg,hw⟩
    | exact ⟨.no,rfl,hg,hw.drop (List.sublist_cons_self _ _)⟩
    | exact ⟨.no,rfl,hg,(hw.drop (List.sublist_cons_self _ _)).drop (List.sublist_append_right _ _)⟩
    | exact ⟨.inc n1,rfl,hg,hw⟩
    | exact ⟨.item ⟨k1,⟨((n2:Nat):Int),k3⟩,t4,.slice a4 t4.length c4,l4⟩ es5 ck5,rfl,⟨hg,⟨⟨by simp only;omega,by simp only;omega⟩,hv4⟩,hT5⟩,(hw.perm (zp:List.Perm _ ((q6,cb (cT k1 ⟨((n2:Nat):Int),k3⟩ (.slice a4 t4.length c4)) 28)::((vb,vaO lv mb ((inc:Nat):Int))::(mb,.map es5 ck5)::l4)))).drop (List.sublist_cons_self _ _)⟩
set_option maxRecDepth 4000
theorem yW (B:List UInt8) (n:Nat) {q:LogP} {e:Int} (h:openP B n=(e,some q)):e=0∧¬n<3∧¬badHead n (q.gen,q.used,q.cnt)∧bestP B 2=(q.gen,q.used,q.cnt)∧parseS B (2+q.used) q.cnt 2=some q.recs:=by
 unfold openP at h
 split at h
 ·simp at h
 ·split at h
  ·simp at h
  ·rename_i h1 h2
   split at h
   ·simp at h
   ·rename_i rs h3
    simp only [Prod.mk.injEq,Option.some.injEq] at h
    obtain ⟨rfl,rfl⟩:=h
    exact ⟨rfl,h1,h2,rfl,h3⟩
theorem openP_mk {B:List UInt8} {n:Nat} {q:LogP} (h1:¬n<3) (h2:bestP B 2=(q.gen,q.used,q.cnt)) (h3:¬badHead n (q.gen,q.used,q.cnt)) (h4:parseS B (2+q.used) q.cnt 2=some q.recs):openP B n=(0,some q):=
 openP_some h1 h2 h3 h4
theorem put_get {B bs:List UInt8} {n i:Nat} (hB:B.length=64*n) (hi:i<n) (hb:bs.length≤64) (j:Nat):(put B i bs)[j]? = if j<64*i then B[j]? else if j<64*i+64 then (bs++List.replicate (64 - bs.length) 0)[j - 64*i]? else B[j]?:=by
 rw [← wst_all hb,wst_get hB hi hb 64 j (by omega)]
theorem put_other {B bs:List UInt8} {n i:Nat} (hB:B.length=64*n) (hi:i<n) (hb:bs.length≤64) {j:Nat} (h:j<64*i∨64*i+64≤j):(put B i bs)[j]? = B[j]?:=by
 rw [put_get hB hi hb]
 rcases h with h | h
 ·rw [if_pos h]
 ·rw [if_neg (by omega),if_neg (by omega)]
def Same (B B':List UInt8) (a b:Nat):Prop:=∀j,a≤j→j<b→B'[j]? = B[j]?
theorem Same.sub {B B':List UInt8} {a b c d:Nat} (h:Same B B' a b) (h1:a≤c) (h2:d≤b):Same B B' c d:=fun j ha hb=>h j (by omega) (by omega)
theorem Same.getD {B B':List UInt8} {a b j:Nat} (h:Same B B' a b) (h1:a≤j) (h2:j<b):B'.getD j 0=B.getD j 0:=by
 rw [List.getD_eq_getElem?_getD,List.getD_eq_getElem?_getD,h j h1 h2]
theorem Same.take {B B':List UInt8} {a b o m:Nat} (h:Same B B' a b) (h1:a≤o) (h2:o+m≤b):(B'.drop o).take m=(B.drop o).take m:=by
 apply List.ext_getElem?
 intro j
 by_cases hj:j<m
 ·rw [List.getElem?_take_of_lt hj,List.getElem?_take_of_lt hj,List.getElem?_drop,List.getElem?_drop]
  exact h _ (by omega) (by omega)
 ·rw [List.getElem?_eq_none (by simp;omega),List.getElem?_eq_none (by simp;omega)]
theorem Same.sec {B B':List UInt8} {a b i:Nat} (h:Same B B' a b) (h1:a≤64*i) (h2:64*i+64≤b):sec B' i=sec B i:=h.take h1 h2
theorem Same.sizeAt {B B':List UInt8} {a b at_:Nat} (h:Same B B' a b) (h1:a≤64*at_) (h2:64*at_+2≤b):sizeAt B' at_=sizeAt B at_:=by
 unfold Go.Proofs.Ytoaenmlhehcjfaa.sizeAt
 rw [h.getD h1 (by omega),h.getD (by omega) (by omega)]
theorem parse_same {B B':List UInt8} {top:Nat}:∀(k at_:Nat),Same B B' (64*at_) (64*top)→parseS B' top k at_=parseS B top k at_:=by
 intro k
 induction k with
 | zero=>intro at_ _;rfl
 | succ k ih=>
  intro at_ h
  unfold parseS
  by_cases h1:top≤at_
  ·rw [if_pos h1,if_pos h1]
  ·have hs:=h.sizeAt (at_:=at_) (by omega) (by omega)
   rw [if_neg h1,if_neg h1,hs]
   by_cases h2:1024<sizeAt B at_∨top - at_<needN (sizeAt B at_)
   ·rw [if_pos h2,if_pos h2]
   ·have hn:=@need_bounds (sizeAt B at_)
    rw [if_neg h2,if_neg h2,ih _ (h.sub (by omega) (by omega)),h.take (by omega) (by omega)]
theorem parse_more {B B' rec_:List UInt8} {top:Nat} (hl:rec_.length≤1024) (hz:sizeAt B' top=rec_.length) (hr:(B'.drop (64*top+2)).take rec_.length=rec_) :
  ∀(k at_:Nat) (rs:List (List UInt8)),Same B B' (64*at_) (64*top)→parseS B top k at_=some rs→parseS B' (top+needN rec_.length) (k+1) at_=some (rs++[rec_]):=by
 have hnb:=@need_bounds rec_.length
 intro k
 induction k with
 | zero=>
  intro at_ rs _ h
  unfold parseS at h
  split at h
  ·rename_i h1
   subst h1
   simp only [Option.some.injEq] at h
   subst h
   unfold parseS
   rw [if_neg (by omega),hz,if_neg (by omega),hr]
   unfold parseS
   rw [if_pos rfl]
   rfl
  ·simp at h
 | succ k ih=>
  intro at_ rs hs h
  unfold parseS at h
  split at h
  ·simp at h
  ·rename_i h1
   split at h
   ·simp at h
   ·rename_i h2
    rw [Option.map_eq_some_iff] at h
    obtain ⟨rs',h3,rfl⟩:=h
    have hn:=@need_bounds (sizeAt B at_)
    have h4:=hs.sizeAt (at_:=at_) (by omega) (by omega)
    have h5:=ih (at_+needN (sizeAt B at_)) rs' (hs.sub (by omega) (by omega)) h3
    rw [parseS,if_neg (by omega),h4,if_neg (by omega),h5,hs.take (by omega) (by omega)]
    rfl
structure Ext (n top:Nat) (pay B:List UInt8) (i:Nat) (B':List UInt8):Prop where
 len:B'.length=64*n
 below:Same B B' 0 (64*top)
 written:∀j,j<64*i→j<pay.length→B'[64*top+j]? = pay[j]?
theorem Ext.step {n top:Nat} {pay B B':List UInt8} {i:Nat} (h:Ext n top pay B i B') (hi:top+i<n):Ext n top pay B (i+1) (put B' (top+i) (piece pay i)):=by
 have hpl:(piece pay i).length≤64:=by rw [yj];omega
 refine ⟨yf h.len hi hpl,fun j h1 h2=>?_,fun j h1 h2=>?_⟩
 ·rw [put_other h.len hi hpl (.inl (by omega))]
  exact h.below j h1 h2
 ·by_cases h3:j<64*i
  ·rw [put_other h.len hi hpl (.inl (by omega))]
   exact h.written j h3 h2
  ·rw [put_get h.len hi hpl,if_neg (by omega),if_pos (by omega),List.getElem?_append_left (by rw [yj];omega),piece,List.getElem?_take_of_lt (by omega),List.getElem?_drop]
   congr 1
   omega
theorem Ext.start {n top:Nat} {pay B:List UInt8} (hB:B.length=64*n):Ext n top pay B 0 B:=⟨hB,fun _ _ _=>rfl,fun j h _=>by omega⟩
def pickH (b h:Nat × Nat × Nat):Nat × Nat × Nat:=if b.1<h.1 then h else b
theorem bestP_pick (B:List UInt8):bestP B 2=pickH (pickH (0,0,0) (headP (sec B 0))) (headP (sec B 1)):=rfl
theorem bestP_same {B B':List UInt8} (h:Same B B' 0 128):bestP B' 2=bestP B 2:=by
 have h0:=h.sec (i:=0) (by omega) (by omega)
 have h1:=h.sec (i:=1) (by omega) (by omega)
 rw [bestP_pick,bestP_pick,h0,h1]
theorem Ext.open {n top:Nat} {pay B B':List UInt8} {i:Nat} {q:LogP} (h:Ext n top pay B i B') (ht:top=2+q.used) (ho:openP B n=(0,some q)):openP B' n=(0,some q):=by
 obtain ⟨_,h1,h2,h3,h4⟩:=yW B n ho
 refine openP_mk h1 ?_ h2 ?_
 ·rw [bestP_same (h.below.sub (by omega) (by omega))];exact h3
 ·rw [parse_same _ _ (h.below.sub (by omega) (by omega))];exact h4
theorem bestP_ge (B:List UInt8):(headP (sec B 0)).1≤(bestP B 2).1∧(headP (sec B 1)).1≤(bestP B 2).1:=by
 simp only [bestP]
 by_cases h0:0<(headP (sec B 0)).1
 ·simp only [h0,if_true]
  split <;> omega
 ·simp only [h0,if_false]
  split <;> simp at*<;> omega
theorem headP_laid {g u c:Nat} (hg:g<18446744073709551616) (hu:u<18446744073709551616) (hc:c<18446744073709551616):headP ([g,u,c].flatMap be8++List.replicate 40 0)=(g,u,c):=by
 have e:[g,u,c].flatMap be8++List.replicate 40 0=be8 g++(be8 u++(be8 c++List.replicate 40 0)):=by simp
 have l1:=q8 g
 have l2:=q8 u
 have l3:=q8 c
 rw [e]
 unfold headP
 have d8:(be8 g++(be8 u++(be8 c++List.replicate 40 (0:UInt8)))).drop 8=be8 u++(be8 c++List.replicate 40 0):=List.drop_left' l1
 have d16:(be8 g++(be8 u++(be8 c++List.replicate 40 (0:UInt8)))).drop 16=be8 c++List.replicate 40 0:=by
  rw [show 16=8+8 from rfl,← List.drop_drop,d8];exact List.drop_left' l2
 have d24:(be8 g++(be8 u++(be8 c++List.replicate 40 (0:UInt8)))).drop 24=List.replicate 40 0:=by
  rw [show 24=16+8 from rfl,← List.drop_drop,d16];exact List.drop_left' l3
 rw [d24,if_pos (by simp),d8,d16,List.take_left' l1,List.take_left' l2,List.take_left' l3,num_be8 g hg,num_be8 u hu,num_be8 c hc]
theorem Ext.done {n:Nat} {rec_ B B':List UInt8} {q:LogP} (h:Ext n (2+q.used) (payload rec_) B (needN rec_.length) B') (ho:openP B n=(0,some q)) (hn:n≤4096) (hl:rec_.length≤1024) (hf:needN rec_.length≤n - 2 - q.used) (hg:q.gen+1<9223372036854775808) :
  openP (put B' ((q.gen+1)%2) ([q.gen+1,q.used+needN rec_.length,q.cnt+1].flatMap be8)) n=(0,some ⟨q.gen+1,q.used+needN rec_.length,q.cnt+1,q.recs++[rec_]⟩):=by
 obtain ⟨_,h1,h2,h3,h4⟩:=yW B n ho
 have hnb:=@need_bounds rec_.length
 have hpl:=zA rec_
 unfold badHead at h2
 simp only at h2
 have hfl:([q.gen+1,q.used+needN rec_.length,q.cnt+1].flatMap be8).length=24:=by rw [flat_length];rfl
 have hi:(q.gen+1)%2<n:=by omega
 have hother:∀j,128≤j→(put B' ((q.gen+1)%2) ([q.gen+1,q.used+needN rec_.length,q.cnt+1].flatMap be8))[j]? = B'[j]?:=fun j hj=>put_other h.len hi (by omega) (.inr (by omega))
 have hge:=bestP_ge B
 rw [h3] at hge
 simp only at hge
 have hs0:sec B' 0=sec B 0:=h.below.sec (by omega) (by omega)
 have hs1:sec B' 1=sec B 1:=h.below.sec (by omega) (by omega)
 have hnew:sec (put B' ((q.gen+1)%2) ([q.gen+1,q.used+needN rec_.length,q.cnt+1].flatMap be8)) ((q.gen+1)%2)=[q.gen+1,q.used+needN rec_.length,q.cnt+1].flatMap be8++List.replicate 40 0:=by
  apply List.ext_getElem?
  intro j
  by_cases hj:j<64
  ·rw [sec,List.getElem?_take_of_lt hj,List.getElem?_drop,put_get h.len hi (by omega),if_neg (by omega),if_pos (by omega),hfl]
   congr 1
   omega
  ·rw [List.getElem?_eq_none (by simp [sec];omega),List.getElem?_eq_none (by simp only [List.length_append,hfl,List.length_replicate];omega)]
 have hkeep:∀k,k<2→k≠(q.gen+1)%2→sec (put B' ((q.gen+1)%2) ([q.gen+1,q.used+needN rec_.length,q.cnt+1].flatMap be8)) k=sec B' k:=by
  intro k hk hne
  have:Same B' (put B' ((q.gen+1)%2) ([q.gen+1,q.used+needN rec_.length,q.cnt+1].flatMap be8)) (64*k) (64*k+64):=fun j ha hb=>put_other h.len hi (by omega) (by omega)
  exact this.sec (Nat.le_refl _) (Nat.le_refl _)
 have hhead:=headP_laid (g:=q.gen+1) (u:=q.used+needN rec_.length) (c:=q.cnt+1) (by omega) (by omega) (by omega)
 refine openP_mk h1 ?_ ?_ ?_
 ·rcases Nat.mod_two_eq_zero_or_one (q.gen+1) with hm | hm
  ·have e0:=hnew
   have e1:=hkeep 1 (by omega) (by omega)
   rw [hm] at e0 e1 ⊢
   simp only [bestP,e0,e1,hhead,hs1,show 0<q.gen+1 by omega,if_true]
   rw [if_neg (by omega)]
  ·have e0:=hkeep 0 (by omega) (by omega)
   have e1:=hnew
   rw [hm] at e0 e1 ⊢
   simp only [bestP,e0,e1,hhead,hs0]
   by_cases hz:0<(headP (sec B 0)).1
   ·rw [if_pos hz,if_pos (by omega)]
   ·rw [if_neg hz,if_pos (by simp only;omega)]
 ·unfold badHead;simp only;omega
 ·have hsame:Same B (put B' ((q.gen+1)%2) ([q.gen+1,q.used+needN rec_.length,q.cnt+1].flatMap be8)) (64*2) (64*(2+q.used)):=fun j ha hb=>by
   rw [hother j (by omega)];exact h.below j (by omega) hb
  have hw:∀j,j<2+rec_.length→(put B' ((q.gen+1)%2) ([q.gen+1,q.used+needN rec_.length,q.cnt+1].flatMap be8))[64*(2+q.used)+j]? = (payload rec_)[j]?:=fun j hj=>by
   rw [hother _ (by omega)];exact h.written j (by omega) (by omega)
  have:=parse_more (B:=B) (B':=put B' ((q.gen+1)%2) ([q.gen+1,q.used+needN rec_.length,q.cnt+1].flatMap be8)) (rec_:=rec_) (top:=2+q.used) hl ?_ ?_ q.cnt 2 q.recs hsame h4
  ·rw [← Nat.add_assoc];exact this
  ·unfold sizeAt
   rw [List.getD_eq_getElem?_getD,List.getD_eq_getElem?_getD,hw 1 (by omega)]
   have:=hw 0 (by omega)
   simp only [Nat.add_zero] at this
   rw [this]
   simp only [payload,List.cons_append,List.getElem?_cons_zero,List.getElem?_cons_succ,Option.getD_some,UInt8.toNat_ofNat']
   omega
  ·apply List.ext_getElem?
   intro j
   by_cases hj:j<rec_.length
   ·rw [List.getElem?_take_of_lt hj,List.getElem?_drop,show 64*(2+q.used)+2+j=64*(2+q.used)+(j+2) by omega,hw _ (by omega)]
    simp [payload]
   ·rw [List.getElem?_eq_none (by simp;omega),List.getElem?_eq_none (by omega)]
theorem dws_open {n:Nat} {rec_ B:List UInt8} {q:LogP} (hn:n≤4096) (ho:openP B n=(0,some q)) (hl:rec_.length≤1024) (hf:needN rec_.length≤n - 2 - q.used) (hg:q.gen+1<9223372036854775808) :
  ∀(m i:Nat) (σ:DS),m=needN rec_.length - i→i≤needN rec_.length→Ext n (2+q.used) (payload rec_) B i σ.B→
   (((dws σ ((planP q.gen q.used q.cnt rec_).drop i)).2=false∧openP (dws σ ((planP q.gen q.used q.cnt rec_).drop i)).1.B n=(0,some q))∨
    ((dws σ ((planP q.gen q.used q.cnt rec_).drop i)).2=true∧openP (dws σ ((planP q.gen q.used q.cnt rec_).drop i)).1.B n=(0,some ⟨q.gen+1,q.used+needN rec_.length,q.cnt+1,q.recs++[rec_]⟩)))∧
   (dws σ ((planP q.gen q.used q.cnt rec_).drop i)).1.B.length=64*n∧σ.k≤(dws σ ((planP q.gen q.used q.cnt rec_).drop i)).1.k∧(dws σ ((planP q.gen q.used q.cnt rec_).drop i)).1.k≤σ.k+m+1∧(σ.p<9223372036854775808→(dws σ ((planP q.gen q.used q.cnt rec_).drop i)).1.p<9223372036854775808):=by
 obtain ⟨_,h1,h2,_,_⟩:=yW B n ho
 unfold badHead at h2
 simp only at h2
 intro m
 induction m with
 | zero=>
  intro i σ hm hi hE
  obtain rfl:i=needN rec_.length:=by omega
  rw [plan_last]
  by_cases hp:σ.p=0
  ·have e:dws σ [((q.gen+1)%2,[q.gen+1,q.used+needN rec_.length,q.cnt+1].flatMap be8)]=(σ,false):=by simp [dws,hp]
   rw [e]
   exact ⟨.inl ⟨rfl,hE.open rfl ho⟩,hE.len,Int.le_refl _,by simp only;omega,fun h=>h⟩
  ·have e:dws σ [((q.gen+1)%2,[q.gen+1,q.used+needN rec_.length,q.cnt+1].flatMap be8)]=(dw σ ((q.gen+1)%2) ([q.gen+1,q.used+needN rec_.length,q.cnt+1].flatMap be8),true):=by simp [dws,hp]
   rw [e]
   refine ⟨.inr ⟨rfl,hE.done ho hn hl hf hg⟩,yf hE.len (by omega) (by rw [flat_length];simp),by simp only [dw];omega,by simp only [dw];omega,fun h=>by simp only [dw];split <;> omega⟩
 | succ m ih=>
  intro i σ hm hi hE
  rw [plan_at (by omega)]
  by_cases hp:σ.p=0
  ·have e:∀x xs,dws σ (x::xs)=(σ,false):=by intro x xs;simp [dws,hp]
   rw [e]
   exact ⟨.inl ⟨rfl,hE.open rfl ho⟩,hE.len,Int.le_refl _,by simp only;omega,fun h=>h⟩
  ·rw [dws_cons hp]
   have:=ih (i+1) (dw σ (2+q.used+i) (piece (payload rec_) i)) (by omega) (by omega) (hE.step (by omega))
   refine ⟨this.1,this.2.1,?_,?_,fun h=>this.2.2.2.2 (by simp only [dw];split <;> omega)⟩
   ·have h3:=this.2.2.1;simp only [dw] at h3 ⊢;omega
   ·have h3:=this.2.2.2.1;simp only [dw] at h3 ⊢;omega
structure LogI (n:Nat) (q:LogP) (σ:DS):Prop where
 len:σ.B.length=64*n
 open_:openP σ.B n=(0,some q)
 p:σ.p<9223372036854775808
theorem yX {n:Nat} {q:LogP} {σ:DS} {down:Bool} {rec_:List UInt8} (hn:n≤4096) (h:LogI n q σ) (hg:q.gen+1<9223372036854775808) :
  ∃e q' down' σ',appendP n q down σ rec_=(e,q',down',σ')∧LogI n q' σ'∧σ.k≤σ'.k∧σ'.k≤σ.k+19∧q'.gen≤q.gen+1∧q.gen≤q'.gen∧
   ((e=0∧q'.recs=q.recs++[rec_])∨(e≠0∧q'=q))∧(e=8↔down'=true):=by
 unfold appendP
 by_cases h0:down=true
 ·exact ⟨8,q,true,σ,by rw [if_pos h0],h,Int.le_refl _,by omega,by omega,by omega,.inr ⟨by omega,rfl⟩,by simp⟩
 rw [if_neg h0]
 by_cases h1:1024<rec_.length
 ·exact ⟨4,q,false,σ,by rw [if_pos h1],h,Int.le_refl _,by omega,by omega,by omega,.inr ⟨by omega,rfl⟩,by simp⟩
 rw [if_neg h1]
 by_cases h2:n - 2 - q.used<needN rec_.length
 ·exact ⟨5,q,false,σ,by rw [if_pos h2],h,Int.le_refl _,by omega,by omega,by omega,.inr ⟨by omega,rfl⟩,by simp⟩
 rw [if_neg h2]
 have hnb:needN rec_.length≤18:=by unfold needN;omega
 have key:=dws_open (rec_:=rec_) hn h.open_ (by omega) (by omega) hg (needN rec_.length) 0 σ (by omega) (by omega) (Ext.start h.len)
 rw [List.drop_zero] at key
 obtain ⟨hk,hlen,hk1,hk2,hp⟩:=key
 generalize dws σ (planP q.gen q.used q.cnt rec_)=x at hk hlen hk1 hk2 hp ⊢
 obtain ⟨σ',ok⟩:=x
 simp only at hk hlen hk1 hk2 hp
 rcases hk with ⟨rfl,ho⟩ | ⟨rfl,ho⟩
 ·exact ⟨8,q,true,σ',rfl,⟨hlen,ho,hp h.p⟩,hk1,by omega,by omega,by omega,.inr ⟨by omega,rfl⟩,by simp⟩
 ·exact ⟨0,_,false,σ',rfl,⟨hlen,ho,hp h.p⟩,hk1,by omega,by simp only;omega,by simp only;omega,.inl ⟨rfl,rfl⟩,by simp⟩
theorem openP_zero {n:Nat} (h:3≤n) (hn:n≤4096):openP (List.replicate (64*n) 0) n=(0,some ⟨0,0,0,[]⟩):=by
 have hs:∀k,k<2→sec (List.replicate (64*n) (0:UInt8)) k=List.replicate 64 0:=by
  intro k hk
  simp only [sec,List.drop_replicate,List.take_replicate]
  congr 1;omega
 have hh:headP (List.replicate 64 (0:UInt8))=(0,0,0):=by decide
 refine openP_mk (by omega) ?_ ?_ ?_
 ·simp only [bestP,hs 0 (by omega),hs 1 (by omega),hh]
  rfl
 ·unfold badHead;simp only;omega
 ·rfl
set_option maxRecDepth 8000
theorem openP_cases (B:List UInt8) (n:Nat):(n<3∧openP B n=(1,none))∨(¬n<3∧badHead n (bestP B 2)∧openP B n=(2,none))∨(¬n<3∧¬badHead n (bestP B 2)∧parseS B (2+(bestP B 2).2.1) (bestP B 2).2.2 2=none∧openP B n=(2,none))∨
  (¬n<3∧¬badHead n (bestP B 2)∧∃rs,parseS B (2+(bestP B 2).2.1) (bestP B 2).2.2 2=some rs∧openP B n=(0,some ⟨(bestP B 2).1,(bestP B 2).2.1,(bestP B 2).2.2,rs⟩)):=by
 by_cases h1:n<3
 ·exact .inl ⟨h1,openP_small h1⟩
 ·by_cases h2:badHead n (bestP B 2)
  ·exact .inr (.inl ⟨h1,h2,yE h1 h2⟩)
  ·cases h3:parseS B (2+(bestP B 2).2.1) (bestP B 2).2.2 2 with
   | none=>exact .inr (.inr (.inl ⟨h1,h2,rfl,zZ h1 rfl h3⟩))
   | some rs=>exact .inr (.inr (.inr ⟨h1,h2,rs,rfl,openP_some h1 rfl h2 h3⟩))
theorem parseS_len {B:List UInt8} {top:Nat}:∀(k at_:Nat) (rs:List (List UInt8)),parseS B top k at_=some rs→rs.length=k:=by
 intro k
 induction k with
 | zero=>intro at_ rs h;unfold parseS at h;split at h <;> simp at h;subst h;rfl
 | succ k ih=>
  intro at_ rs h
  unfold parseS at h
  split at h
  ·simp at h
  ·split at h
   ·simp at h
   ·rw [Option.map_eq_some_iff] at h
    obtain ⟨rs',h1,rfl⟩:=h
    rw [List.length_cons,ih _ _ h1]
theorem yD {B:List UInt8} {n:Nat} {e:Int} {q:LogP} (h:openP B n=(e,some q)) (hn:n≤4096):3≤n∧q.gen<9223372036854775808∧q.used≤n - 2∧q.cnt≤q.used∧q.recs.length=q.cnt:=by
 rcases openP_cases B n with ⟨_,h1⟩ | ⟨_,_,h1⟩ | ⟨_,_,_,h1⟩ | ⟨h2,h3,rs,h4,h1⟩ <;> rw [h1] at h <;> simp at h
 obtain ⟨_,rfl⟩:=h
 have:=parseS_len _ _ _ h4
 unfold badHead at h3
 simp only
 omega
theorem parseS_size {B:List UInt8} {top:Nat}:∀(k at_:Nat) (rs:List (List UInt8)),parseS B top k at_=some rs→∀j:Nat,(rs.getD j []).length≤1024:=by
 intro k
 induction k with
 | zero=>intro at_ rs h j;unfold parseS at h;split at h <;> simp at h;subst h;simp
 | succ k ih=>
  intro at_ rs h j
  unfold parseS at h
  split at h
  ·simp at h
  ·split at h
   ·simp at h
   ·rw [Option.map_eq_some_iff] at h
    obtain ⟨rs',h1,rfl⟩:=h
    cases j with
    | zero=>simp;omega
    | succ j=>simpa using ih _ _ h1 j
theorem openP_e {B:List UInt8} {n:Nat} {e:Int} (h:openP B n=(e,none)):e≠0:=by
 rcases openP_cases B n with ⟨_,h1⟩ | ⟨_,_,h1⟩ | ⟨_,_,_,h1⟩ | ⟨_,_,rs,_,h1⟩ <;> rw [h1] at h <;> simp at h <;> omega
theorem openP_size {B:List UInt8} {n:Nat} {e:Int} {q:LogP} (h:openP B n=(e,some q)) {i:Nat} {r:List UInt8} (hr:q.recs[i]? = some r):r.length≤1024:=by
 obtain ⟨_,_,_,_,h5⟩:=yW B n h
 have:=parseS_size _ _ _ h5 i
 rwa [List.getD_eq_getElem?_getD,hr] at this
theorem qW {w0 w:World} {S:List Nat} {l lp:List (Nat × Obj)} {t sz:Nat} {v:Value} {k:Nat} {xs:List Value} (h:Vec t sz v k xs lp) (hw:St w0 S l w) (hm:∀p,p∈lp→p∈l):Row w v k xs:=by
 obtain ⟨hl,h⟩:=h
 rcases h with ⟨rfl,rfl,rfl⟩ | ⟨b,c,sp,rfl,rfl,_,hk⟩
 ·exact ⟨none,0,rfl,Nat.le_refl _,.inl (List.eq_nil_of_length_eq_zero (by simpa using hl))⟩
 ·exact Row.own (cs:=xs++sp) (tb:=t) (fr:=(0,0)) hw (hm _ (.head _)) (by simp) hk
theorem zY {t sz:Nat} {v:Value} {k:Nat} {xs:List Value} {lp:List (Nat × Obj)} {T:List Nat} (h:Vec t sz v k xs lp) (ht:∀p,p∈lp→p.1 ∉ T):Off T v xs:=by
 obtain ⟨hl,h⟩:=h
 rcases h with ⟨rfl,rfl,rfl⟩ | ⟨b,c,sp,rfl,rfl,_,hk⟩
 ·exact .inl (List.eq_nil_of_length_eq_zero (by simpa using hl))
 ·refine .inr fun b' o k' c' e=>?_
  simp only [Value.slice.injEq,Option.some.injEq,Addr.mk.injEq] at e
  rw [← e.1.1]
  exact ht _ (.head _)
theorem recs_at {t:Nat} {vs:List Value} {rs:List (List UInt8)} {lp:List (Nat × Obj)} (h:Recs t vs rs lp):∀(i:Nat) (v:Value) (r:List UInt8),vs[i]? = some v→rs[i]? = some r→∃l,Vec t 1 v r.length (r.map u8) l∧∀p,p∈l→p∈lp:=by
 induction h with
 | nil=>intro i v r h;simp at h
 | @snoc vs rs lp l v0 r0 h1 h2 ih=>
  intro i v r hv hr
  have hl:=h1.length
  rcases Nat.lt_or_ge i vs.length with hi | hi
  ·rw [List.getElem?_append_left hi] at hv
   rw [List.getElem?_append_left (by omega)] at hr
   obtain ⟨l',h3,h4⟩:=ih i v r hv hr
   exact ⟨l',h3,fun p hp=>List.mem_append_left _ (h4 p hp)⟩
  ·rw [List.getElem?_append_right hi] at hv
   rw [List.getElem?_append_right (by omega),← hl] at hr
   cases h0:i - vs.length with
   | zero=>
    rw [h0] at hv hr
    simp only [List.getElem?_cons_zero,Option.some.injEq] at hv hr
    subst hv hr
    exact ⟨l,h2,fun p hp=>List.mem_append_right _ hp⟩
   | succ j=>rw [h0] at hv;simp at hv
def stepV (st:Nat × List ItV) (r:List UInt8):Option (Nat × List ItV):=match readP st.1 r with
 | none=>none
 | some (.inl n)=>some (n,st.2)
 | some (.inr x)=>some (st.1,takeV st.2 x)
def heldV (rs:List (List UInt8)):Option (Nat × List ItV):=rs.foldl (fun o r=>o.bind (fun st=>stepV st r)) (some (0,[]))
theorem zS (rs:List (List UInt8)) (r:List UInt8):heldV (rs++[r])=(heldV rs).bind (fun st=>stepV st r):=by
 unfold heldV
 rw [List.foldl_append];rfl
theorem foldl_none (rs:List (List UInt8)):rs.foldl (fun o r=>o.bind (fun st=>stepV st r)) none=none:=by
 induction rs with
 | nil=>rfl
 | cons r rs ih=>exact ih
theorem heldV_none {rs:List (List UInt8)} {i:Nat} (h:heldV (rs.take i)=none):heldV rs=none:=by
 have e:rs=rs.take i++rs.drop i:=(List.take_append_drop i rs).symm
 rw [e]
 unfold heldV at h ⊢
 rw [List.foldl_append,h]
 exact foldl_none _
theorem readP_incb {inc n:Nat} {bs:List UInt8} (h:readP inc bs=some (.inl n)):inc<n∧n≤1048576:=by
 unfold readP at h
 split at h
 ·cases h
 ·split at h
  ·split at h
   ·cases h
   ·rename_i h3
    simp only [Option.some.injEq,Sum.inl.injEq] at h
    subst h
    exact ⟨Nat.lt_of_not_le fun e=>h3 (.inr (.inr (.inr e))),Nat.le_of_not_lt fun e=>h3 (.inr (.inr (.inl e)))⟩
  ·split at h
   ·split at h
    ·cases h
    ·split at h
     ·cases h
     ·split at h
      ·cases h
      ·split at h
       ·cases h
       ·cases h
   ·cases h
def incB (n:Nat):List UInt8:=numB 1++numB n
def vopenP (n:Nat) (σ:DS):Int × Option (LogP × Nat × List ItV) × DS:=
 match openP σ.B n with
 | (e,none)=>(e,none,σ)
 | (_,some q)=>match heldV q.recs with
  | none=>(2,none,σ)
  | some (inc,L)=>if inc=1048576 then (5,none,σ) else
   match appendP n q false σ (incB (inc+1)) with
   | (e,q',_,σ')=>if e=0 then (0,some (q',inc+1,L),σ') else (e,none,σ')
theorem vopenP_bad {n:Nat} {σ:DS} {e:Int} (h:openP σ.B n=(e,none)):vopenP n σ=(e,none,σ):=by unfold vopenP;rw [h]
theorem vopenP_form {n:Nat} {σ:DS} {e:Int} {q:LogP} (h:openP σ.B n=(e,some q)) (h1:heldV q.recs=none):vopenP n σ=(2,none,σ):=by unfold vopenP;rw [h];simp only [h1]
theorem vopenP_full {n inc:Nat} {σ:DS} {e:Int} {q:LogP} {L:List ItV} (h:openP σ.B n=(e,some q)) (h1:heldV q.recs=some (inc,L)) (h2:inc=1048576):vopenP n σ=(5,none,σ):=by unfold vopenP;rw [h];simp only [h1];rw [if_pos h2]
theorem vopenP_torn {n inc:Nat} {σ σ':DS} {e e':Int} {q q':LogP} {dn:Bool} {L:List ItV} (h:openP σ.B n=(e,some q)) (h1:heldV q.recs=some (inc,L)) (h2:¬inc=1048576) (h3:appendP n q false σ (incB (inc+1))=(e',q',dn,σ')) (h4:e'≠0):vopenP n σ=(e',none,σ'):=by unfold vopenP;rw [h];simp only [h1];rw [if_neg h2,h3];simp only;rw [if_neg h4]
theorem vopenP_ok {n inc:Nat} {σ σ':DS} {e e':Int} {q q':LogP} {dn:Bool} {L:List ItV} (h:openP σ.B n=(e,some q)) (h1:heldV q.recs=some (inc,L)) (h2:¬inc=1048576) (h3:appendP n q false σ (incB (inc+1))=(e',q',dn,σ')) (h4:e'=0):vopenP n σ=(0,some (q',inc+1,L),σ'):=by unfold vopenP;rw [h];simp only [h1];rw [if_neg h2,h3];simp only;rw [if_pos h4]
theorem appendP_dn {n:Nat} {q q':LogP} {σ σ':DS} {rec_:List UInt8} {e:Int} {dn:Bool} (h:appendP n q false σ rec_=(e,q',dn,σ')) (he:e=0):dn=false:=by
 subst he
 unfold appendP at h
 rw [if_neg (by simp)] at h
 split at h
 ·cases h
 ·split at h
  ·cases h
  ·split at h
   ·cases h;rfl
   ·cases h
inductive VO where
 | bad (e:Int) (σ:DS)
 | ok (vb mb lb:Nat) (q:LogP) (inc:Nat) (L:List HI) (es:Array MapEntry) (ck:Nat) (σ:DS)
def VO.val:VO→Value
 | .bad e _=>.tuple #[.pointer none,.int .i64 e]
 | .ok vb _ _ _ _ _ _ _ _=>.tuple #[.pointer (some ⟨vb,0,none⟩),.int .i64 0]
abbrev vltB (vb mb lb d s n:Nat) (q:LogP) (down:Bool) (inc:Nat) (es:Array MapEntry) (ck:Nat) (σ:DS):List (Nat × Obj):=[(vb,vaO (.pointer (some ⟨lb,0,none⟩)) mb ((inc:Nat):Int)),(mb,.map es ck),(lb,lgO d q down),(d,dkO s n σ.p σ.k),(s,dkS σ.B)]
def VO.lst (d s n:Nat):VO→List (Nat × Obj)
 | .bad _ σ=>[(d,dkO s n σ.p σ.k),(s,dkS σ.B)]
 | .ok vb mb lb q inc L es ck σ=>vltB vb mb lb d s n q false inc es ck σ++lpsH L
def VO.Pr (n:Nat) (σ:DS):VO→Prop
 | .bad e σ'=>vopenP n σ=(e,none,σ')∧e≠0
 | .ok _ _ _ q inc L es ck σ'=>vopenP n σ=(0,some (q,inc,L.map HI.it),σ')∧Vm L es ck∧VOK L
structure HvS where
 i:Nat
 inc:Nat
 L:List HI
 es:Array MapEntry
 ck:Nat
set_option maxHeartbeats 2000000 in
theorem vopen_spec (d s n:Nat) (B:List UInt8) (p k:Int) (w:World) (hw0:Own w [(d,dkO s n p k),(s,dkS B)]) (hB:B.length=64*n) (hn:n≤4096) (hk:0≤k) (hk2:k<4611686018427380000) (hp:p<9223372036854775808) :
  Calls Try.prog 17 [.pointer (some ⟨d,0,none⟩)].toArray w fun r w'=>∃z:VO,r=.returned z.val∧z.Pr n ⟨B,p,k⟩∧St w [d,s] (z.lst d s n) w':=by
 refine qD (args:=[.pointer (some ⟨d,0,none⟩)]) (e:=[(0,.pointer (some ⟨d,0,none⟩))]) Try.func17 rfl rfl ⟨rfl,trivial⟩ (hw0.st) ?_;refine JC.seq (fun K0 hK0=>?_);refine JC.region<|J.assign rfl rfl<|J.assign rfl rfl<|J.nil ?_;refine JX.qd (hK0 _ _ ?_);refine JC.seq (fun K1 hK1=>?_)
 rcases ho:openP B n with ⟨e0,_ | q⟩
 ·have he0:=openP_e ho
  have hg:vopenP n ⟨B,p,k⟩=(e0,none,⟨B,p,k⟩):=vopenP_bad ho
  refine JC.region<|J.qe rfl rfl<|J.qR (v:=.tuple #[.pointer none,.slice none 0 0,.int .i64 e0]) (fun w1 w2 hw hb=>hw.step hb) Ty.bd44 rfl rfl (fun w1 hw=>by have h9:=open_spec d s n B p k w1 (St.owns' hw) hB hn;rw [ho] at h9;exact h9) ?_;refine J.qe rfl rfl<|J.extract rfl rfl rfl<|J.extract rfl rfl rfl<|J.extract rfl rfl rfl<|J.assign rfl rfl<|J.assign rfl rfl<|J.assign rfl rfl<|J.nil ?_;refine JX.qd (hK1 _ _ ?_);refine JC.seq (fun K2 hK2=>?_);refine JC.seq (fun K3 hK3=>?_);refine JC.region<|J.qe rfl rfl<|J.qj rfl rfl rfl rfl<|J.name 18 rfl (show _=Value.bool true by simp [he0]) ?_;refine J.nil ?_;refine JX.qd (hK3 _ _ ?_)
  first | refine JC.qP rfl ?_ | refine JC.qn rfl (fun _=>?_) (fun h=>by first | (exfalso;simp at h;omega) | (simp at h))
  refine JC.seq (fun K4 hK4=>?_);refine JC.region<|J.qe rfl rfl<|J.assign rfl rfl<|J.assign rfl rfl<|J.nil ?_;refine JX.qd (hK4 _ _ ?_);refine JC.qA<|JX.qt ?_;refine JX.zr rfl rfl rfl (fun w1 hw=>?_)
  exact ⟨.bad e0 ⟨B,p,k⟩,rfl,⟨hg,he0⟩,hw⟩
 ·have hol:=yD ho hn
  obtain ⟨hn3,hgl,hul,hcl_,hrl⟩:=hol
  refine JC.region<|J.qe rfl rfl<|J.perm ([]++([(d,dkO s n p k),(s,dkS B)])) (.refl _) ?_
  refine J.qO (α:=Nat × Value × List Value × List (Nat × Obj) × List (Nat × Obj)) (V:=fun x=>.tuple #[.pointer (some ⟨x.1,0,none⟩),x.2.1,.int .i64 0]) (Pr:=fun x=>Vec 26 1 x.2.1 q.recs.length x.2.2.1 x.2.2.2.1∧Recs 5 x.2.2.1 q.recs x.2.2.2.2) (L:=fun x=>(x.1,lgO d q false)::(x.2.2.2.1++x.2.2.2.2)) (l1:=[]) Ty.bd44 rfl rfl (fun w1 hw=>by
   have h9:=open_spec d s n B p k w1 (St.owns' hw) hB hn
   rw [ho] at h9
   exact h9.mono fun _ _ ⟨b,v,vs,lv,lps,h1,h2,h3,h4⟩=>⟨(b,v,vs,lv,lps),h1,⟨h2,h3⟩,h4⟩) (fun x hx=>?_)
  obtain ⟨lb,vv,vs,lvv,lps⟩:=x
  obtain ⟨hvv,hrecs⟩:=hx
  try simp only at hvv hrecs ⊢
  obtain ⟨ar,cr,rfl,hcr⟩:=hvv.form
  have hvl:=hrecs.length
  refine J.perm (((lb,lgO d q false)::(lvv++(lps++([(d,dkO s n p k),(s,dkS B)]))))) zp<|J.qe rfl rfl<|J.extract rfl rfl rfl<|J.extract rfl rfl rfl<|J.extract rfl rfl rfl<|J.assign rfl rfl<|J.assign rfl rfl<|J.assign rfl rfl<|J.nil ?_;refine JX.qd (hK1 _ _ ?_);refine JC.seq (fun K5 hK5=>?_);refine JC.seq (fun K6 hK6=>?_);refine JC.region<|J.qe rfl rfl<|J.qj rfl rfl rfl rfl<|J.name 18 rfl (show _=Value.bool false by simp) ?_;refine J.nil ?_;refine JX.qd (hK6 _ _ ?_)
  first | refine JC.qI rfl ?_ | refine JC.qn rfl (fun h=>by first | (exfalso;simp at h;omega) | (simp at h)) (fun _=>?_)
  refine JC.skip ?_;refine JX.qd (hK5 _ _ ?_);refine JC.seq (fun K7 hK7=>?_);refine JC.region<|J.qe rfl rfl ?_;refine J.makeMap rfl (fun zW=>?_);refine J.qY (cs:=[.pointer (some ⟨lb,0,none⟩),.map (some zW),.int .i64 0]) Ty.pl99 Ty.z99 rfl (by kernel_rfl) rfl ?_;refine J.box rfl rfl rfl (fun b23=>?_);refine J.assign rfl rfl<|J.nil ?_;refine JX.qd (hK7 _ _ ?_);refine JC.seq (fun K8 hK8=>?_);refine JC.seq (fun K9 hK9=>?_);refine JC.region<|J.qe rfl rfl<|J.qK rfl Ty.u57 rfl rfl<|J.qe rfl rfl<|J.nil ?_;refine JX.qd (hK9 _ _ ?_);refine JC.block ?_
  refine JC.conseq (JC.cov (f:=(fun st=>[(4,.pointer (some ⟨lb,0,none⟩)),(7,.pointer (some ⟨b23,0,none⟩)),(24,.slice ar q.recs.length cr),(25,.int .i64 ((q.recs.length:Nat):Int)),(26,.int .i64 ((st.i:Nat):Int))]) (⟨0,0,[],#[],0⟩:HvS)) ⟨rfl,rfl,rfl,rfl,rfl,trivial⟩ (JC.loop (α:=HvS) (fun st=>[(4,.pointer (some ⟨lb,0,none⟩)),(7,.pointer (some ⟨b23,0,none⟩)),(24,.slice ar q.recs.length cr),(25,.int .i64 ((q.recs.length:Nat):Int)),(26,.int .i64 ((st.i:Nat):Int))]) (fun st w'=>(st.i≤q.recs.length∧heldV (q.recs.take st.i)=some (st.inc,st.L.map HI.it)∧st.inc≤1048576∧Vm st.L st.es st.ck∧VOK st.L)∧St w [d,s] ((b23,vaO (.pointer (some ⟨lb,0,none⟩)) zW ((st.inc:Nat):Int))::(zW,.map st.es st.ck)::(lpsH st.L++((lb,lgO d q false)::(lvv++(lps++([(d,dkO s n p k),(s,dkS B)])))))) w') (fun st=>q.recs.length - st.i) (⟨0,0,[],#[],0⟩:HvS) (fun st=>?_))) (fun w hw=>⟨⟨Nat.zero_le _,rfl,Nat.zero_le _,Vm.nil,VOK.nil⟩,hw⟩)
  obtain ⟨i,inc,L,es,ck⟩:=st
  refine JC.pr (fun hI=>?_)
  obtain ⟨hi,hh,hinc,hT,hV⟩:=hI
  try simp only at hi hh hinc hT hV ⊢
  refine JC.seq (fun K10 hK10=>?_);refine JC.region<|J.qj rfl rfl rfl rfl<|J.nil ?_;refine JX.qd (hK10 _ _ ?_);refine JC.seq (fun K11 hK11=>?_);refine JC.qn rfl (fun h1=>?_) (fun h1=>?_)
  ·have hlt:i<q.recs.length:=by simp at h1;omega
   obtain ⟨ru,hru⟩:∃x,q.recs[i]? = some x:=⟨_,List.getElem?_eq_getElem hlt⟩
   obtain ⟨u,hu⟩:∃x,vs[i]? = some x:=⟨_,List.getElem?_eq_getElem (by omega)⟩
   obtain ⟨lu,hvu,hlu⟩:=recs_at hrecs i u ru hu hru
   obtain ⟨au,cu,rfl,hcu⟩:=hvu.form
   have hru2:=openP_size ho hru
   have htk:q.recs.take (i+1)=q.recs.take i++[ru]:=by rw [List.take_add_one,hru];rfl
   obtain ⟨qv,spv,rfl,rfl,hcq⟩:∃b sp,ar=some ⟨b,0,none⟩∧lvv=[(b,cb (vs++sp) 26)]∧q.recs.length≤cr:=by
    rcases hvv.2 with ⟨_,h9,_⟩ | ⟨b,c,sp,h9,h10,_,h11⟩
    ·omega
    ·simp only [Value.slice.injEq] at h9
     obtain ⟨h9,-,rfl⟩:=h9
     exact ⟨b,sp,h9,h10,h11⟩
   refine JC.skip ?_;refine JX.qd (hK11 _ _ ?_);refine JC.seq (fun K12 hK12=>?_);refine JC.block ?_;refine JC.seq (fun K13 hK13=>?_);refine JC.region<|J.qu Ty.el57 Ty.s26 rfl rfl (by omega) (by omega) rfl ?_;refine J.qw (v:=.slice au ru.length cu) Ty.a26 rfl (fun w1 hw=>(qB (hw.own (qv,cb (vs++spv) 26) zm)).trans (by rw [Int.toNat_natCast,Nat.mul_one,Nat.zero_add,List.getElem?_append_left (by omega)];exact hu)) rfl ?_;refine J.assign rfl rfl<|J.nil ?_;refine JX.qd (hK13 _ _ ?_);refine JC.seq (fun K14 hK14=>?_);refine JC.region<|J.qe rfl rfl<|J.qe rfl rfl<|J.perm ([(b23,vaO (.pointer (some ⟨lb,0,none⟩)) zW ((inc:Nat):Int)),(zW,.map es ck)]++(lpsH L++((lb,lgO d q false)::([(qv,cb (vs++spv) 26)]++(lps++([(d,dkO s n p k),(s,dkS B)])))))) (.refl _) ?_;refine J.qO (α:=ReadR) (V:=fun z=>.bool z.ok) (Pr:=fun z=>z.Pr L inc ru) (L:=fun z=>z.lst b23 zW (.pointer (some ⟨lb,0,none⟩)) ((inc:Nat):Int) es ck) Ty.bd45 rfl rfl (fun w1 hw=>vread_spec b23 zW inc _ L es ck hT hV _ ru w1 (St.owns hw) (qW hvu hw (fun p hp=>by simp [hlu p hp])) (zY hvu (fun p hp=>St.off (l1:=[(b23,vaO (.pointer (some ⟨lb,0,none⟩)) zW ((inc:Nat):Int)),(zW,.map es ck)]) hw (o:=p.2) (by simp [hlu p hp]))) (by omega) hinc) (fun z hz=>?_)
   rcases z with _ | m9 | ⟨h9,es9,ck9⟩
   ·simp only [ReadR.Pr,ReadR.lst] at hz ⊢
    refine J.name 32 rfl (show _=Value.bool false from rfl) ?_
    have hg:vopenP n ⟨B,p,k⟩=(2,none,⟨B,p,k⟩):=vopenP_form (σ:=⟨B,p,k⟩) ho (heldV_none (i:=i+1) (by rw [htk,zS,hh];simp only [Option.bind_some,stepV,hz]))
    refine J.zC rfl rfl<|J.nil ?_;refine JX.qd (hK14 _ _ ?_)
    first | refine JC.qP rfl ?_ | refine JC.qn rfl (fun _=>?_) (fun h=>by first | (exfalso;simp at h;omega) | (simp at h))
    refine JC.seq (fun K15 hK15=>?_);refine JC.region<|J.assign rfl rfl<|J.assign rfl rfl<|J.nil ?_;refine JX.qd (hK15 _ _ ?_);refine JC.qA<|JX.qH<|JX.qt<|JX.qt<|JX.qH<|JX.qt ?_;refine JX.zr rfl rfl rfl (fun w1 hw=>?_)
    exact ⟨.bad 2 ⟨B,p,k⟩,rfl,⟨hg,by decide⟩,(hw.perm (zp:List.Perm _ (((b23,vaO (.pointer (some ⟨lb,0,none⟩)) zW ((inc:Nat):Int))::(zW,.map es ck)::(lpsH L++((lb,lgO d q false)::([(qv,cb (vs++spv) 26)]++lps))))++[(d,dkO s n p k),(s,dkS B)]))).drop (List.sublist_append_right _ _)⟩
   ·simp only [ReadR.Pr,ReadR.lst] at hz ⊢
    refine J.name 32 rfl (show _=Value.bool true from rfl) ?_
    have hb9:=readP_incb hz
    refine J.zC rfl rfl<|J.nil ?_;refine JX.qd (hK14 _ _ ?_)
    first | refine JC.qI rfl ?_ | refine JC.qn rfl (fun h=>by first | (exfalso;simp at h;omega) | (simp at h)) (fun _=>?_)
    refine JC.skip<|JX.qJ ?_;refine JX.qd (hK12 _ _ ?_);refine JC.region ?_
    (first | refine J.qG rfl rfl (by omega) (by omega) rfl ?_ | refine J.qj rfl rfl rfl rfl ?_)
    refine J.qe rfl rfl<|J.nil<|JX.qd<|JX.qS (⟨i+1,m9,L,es,ck⟩:HvS) ?_ ?_ ?_
    ·simp only;omega
    ·exact ⟨rfl,rfl,rfl,rfl,rfl,trivial⟩
    ·exact fun w1 hw=>⟨⟨hlt,by simp only;rw [htk,zS,hh];simp only [Option.bind_some,stepV,hz],hb9.2,hT,hV⟩,hw⟩
   ·simp only [ReadR.Pr,ReadR.lst] at hz ⊢
    refine J.name 32 rfl (show _=Value.bool true from rfl) ?_
    obtain ⟨hz1,hz2,hz3⟩:=hz
    refine J.zC rfl rfl<|J.nil ?_;refine JX.qd (hK14 _ _ ?_)
    first | refine JC.qI rfl ?_ | refine JC.qn rfl (fun h=>by first | (exfalso;simp at h;omega) | (simp at h)) (fun _=>?_)
    refine JC.skip<|JX.qJ ?_;refine JX.qd (hK12 _ _ ?_);refine JC.region ?_
    (first | refine J.qG rfl rfl (by omega) (by omega) rfl ?_ | refine J.qj rfl rfl rfl rfl ?_)
    refine J.qe rfl rfl<|J.nil<|JX.qd<|JX.qS (⟨i+1,inc,takeH L h9,es9,ck9⟩:HvS) ?_ ?_ ?_
    ·simp only;omega
    ·exact ⟨rfl,rfl,rfl,rfl,rfl,trivial⟩
    ·exact fun w1 hw=>⟨⟨hlt,by simp only;rw [htk,zS,hh];simp only [Option.bind_some,stepV,hz1,takeH_it],hinc,hz3,hV.take hz2⟩,by
      have h1:=hw.perm (zp:List.Perm _ ((h9.lp++lpsH L)++((b23,vaO (.pointer (some ⟨lb,0,none⟩)) zW ((inc:Nat):Int))::(zW,.map es9 ck9)::((lb,lgO d q false)::([(qv,cb (vs++spv) 26)]++(lps++([(d,dkO s n p k),(s,dkS B)])))))))
      exact ((takeH_sub hT.nodup h9).st h1).perm zp⟩
  ·have hge:i=q.recs.length:=by simp at h1;omega
   rw [hge,List.take_of_length_le (Nat.le_refl _)] at hh
   refine JC.qX<|JX.qE<|JX.qE<|JX.qT ?_;refine JX.qd (hK8 _ _ ?_);refine JC.seq (fun K16 hK16=>?_);refine JC.seq (fun K17 hK17=>?_);refine JC.region<|J.qe rfl rfl<|J.qq rfl rfl<|J.qi Ty.fd99_2 rfl rfl<|J.qw (v:=.int .i64 ((inc:Nat):Int)) Ty.a2 rfl (fun w1 hw=>by rw [qB (hw.own ((b23,vaO (.pointer (some ⟨lb,0,none⟩)) zW ((inc:Nat):Int))) zm)];rfl) rfl ?_;refine J.qj rfl rfl rfl rfl<|J.nil ?_;refine JX.qd (hK17 _ _ ?_);refine JC.qn rfl (fun h3=>?_) (fun h3=>?_)
   ·have hg:vopenP n ⟨B,p,k⟩=(5,none,⟨B,p,k⟩):=vopenP_full (σ:=⟨B,p,k⟩) ho hh (by simp at h3;omega)
    refine JC.seq (fun K18 hK18=>?_);refine JC.region<|J.assign rfl rfl<|J.assign rfl rfl<|J.nil ?_;refine JX.qd (hK18 _ _ ?_);refine JC.qA<|JX.qt ?_;refine JX.zr rfl rfl rfl (fun w1 hw=>?_)
    exact ⟨.bad 5 ⟨B,p,k⟩,rfl,⟨hg,by decide⟩,(hw.perm (zp:List.Perm _ (((b23,vaO (.pointer (some ⟨lb,0,none⟩)) zW ((inc:Nat):Int))::(zW,.map es ck)::(lpsH L++((lb,lgO d q false)::(lvv++lps))))++[(d,dkO s n p k),(s,dkS B)]))).drop (List.sublist_append_right _ _)⟩
   ·have hi9:¬inc=1048576:=by simp at h3;omega
    refine JC.skip ?_;refine JX.qd (hK16 _ _ ?_);refine JC.seq (fun K19 hK19=>?_);refine JC.seq (fun K20 hK20=>?_);refine JC.region<|J.qe rfl rfl<|J.qe rfl rfl<|J.qq rfl rfl<|J.qi Ty.fd99_2 rfl rfl<|J.qw (v:=.int .i64 ((inc:Nat):Int)) Ty.a2 rfl (fun w1 hw=>by rw [qB (hw.own ((b23,vaO (.pointer (some ⟨lb,0,none⟩)) zW ((inc:Nat):Int))) zm)];rfl) rfl ?_;refine J.qG rfl rfl (by omega) (by omega) rfl ?_;refine J.name 45 rfl (show _=Value.int .i64 ((inc+1:Nat):Int) from congrArg (Value.int .i64) (by omega)) ?_;refine J.qF Ty.u2 Ty.u81 rfl rfl<|J.name 46 rfl (show _=Value.int .u64 ((inc+1:Nat):Int) from congrArg (Value.int .u64) (ze (by omega) (by omega))) ?_;refine J.za (cs:=[.int .u64 1,.int .u64 ((inc+1:Nat):Int)]) Ty.el118 Ty.s81 Ty.z81 rfl rfl rfl rfl rfl rfl rfl (fun b47=>?_);refine J.perm ([]++((b47,cb [.int .u64 1,.int .u64 ((inc+1:Nat):Int)] 81)::((b23,vaO (.pointer (some ⟨lb,0,none⟩)) zW ((inc:Nat):Int))::(zW,.map es ck)::(lpsH L++((lb,lgO d q false)::(lvv++(lps++([(d,dkO s n p k),(s,dkS B)])))))))) (.refl _) ?_;refine J.qO (α:=Value × List (Nat × Obj)) (V:=(·.1)) (Pr:=fun x=>Vec 5 1 x.1 ([1,inc+1].flatMap numB).length (([1,inc+1].flatMap numB).map u8) x.2) (L:=(·.2)) (l1:=[]) Ty.bd39 rfl rfl (fun w1 hw=>putNum_spec _ [1,inc+1] w1 (Row.own (cs:=[.int .u64 1,.int .u64 ((inc+1:Nat):Int)]) (tb:=81) (fr:=(0,0)) hw (.head _) rfl (Nat.le_refl _)) (by simp)) (fun x hv48=>?_)
    obtain ⟨v48,l48⟩:=x
    simp only at hv48 ⊢
    rw [show [1,inc+1].flatMap numB=incB (inc+1) by simp [incB]] at hv48
    obtain ⟨a48,c48,rfl,hc48⟩:=hv48.form
    have hl48:(incB (inc+1)).length≤18:=by
     have h1:=zM 1
     have h2:=zM (inc+1)
     rw [incB,List.length_append];omega
    obtain ⟨⟨e9,q9,dn9,σ9⟩,hx9⟩:∃x,appendP n q false ⟨B,p,k⟩ (incB (inc+1))=x:=⟨_,rfl⟩
    refine J.perm ([(lb,lgO d q false),(d,dkO s n p k),(s,dkS B)]++(l48++((b47,cb [.int .u64 1,.int .u64 ((inc+1:Nat):Int)] 81)::(b23,vaO (.pointer (some ⟨lb,0,none⟩)) zW ((inc:Nat):Int))::(zW,.map es ck)::(lpsH L++(lvv++lps))))) zp<|J.callT (v:=.int .i64 e9) (L:=[(lb,lgO d q9 dn9),(d,dkO s n σ9.p σ9.k),(s,dkS σ9.B)]) Ty.bd46 rfl rfl (fun w1 hw=>append_all lb d s n q false B (incB (inc+1)) p k a48 _ c48 w1 (St.owns hw) hB hn hn3 hgl hul hcl_ hk hk2 hp rfl (by omega) (qW hv48 hw (fun q hq=>by simp [hq])) (zY hv48 (fun p0 hp0=>St.off (l1:=[(lb,lgO d q false),(d,dkO s n p k),(s,dkS B)]) hw (o:=p0.2) (by simp [hp0]))) hx9) ?_;refine J.assign rfl rfl<|J.nil ?_;refine JX.qd (hK20 _ _ ?_);refine JC.seq (fun K21 hK21=>?_);refine JC.region<|J.qe rfl rfl<|J.qj rfl rfl rfl rfl<|J.nil ?_;refine JX.qd (hK21 _ _ ?_);refine JC.qn rfl (fun h4=>?_) (fun h4=>?_)
    ·have he9:e9≠0:=by simpa using h4
     have hg:=vopenP_torn (σ:=⟨B,p,k⟩) ho hh hi9 hx9 he9
     refine JC.seq (fun K22 hK22=>?_);refine JC.region<|J.qe rfl rfl<|J.assign rfl rfl<|J.assign rfl rfl<|J.nil ?_;refine JX.qd (hK22 _ _ ?_);refine JC.qA<|JX.qt ?_;refine JX.zr rfl rfl rfl (fun w1 hw=>?_)
     exact ⟨.bad e9 σ9,rfl,⟨hg,he9⟩,(hw.perm (zp:List.Perm _ (((b23,vaO (.pointer (some ⟨lb,0,none⟩)) zW ((inc:Nat):Int))::(zW,.map es ck)::(lb,lgO d q9 dn9)::(l48++((b47,cb [.int .u64 1,.int .u64 ((inc+1:Nat):Int)] 81)::(lpsH L++(lvv++lps)))))++[(d,dkO s n σ9.p σ9.k),(s,dkS σ9.B)]))).drop (List.sublist_append_right _ _)⟩
    ·have he9:e9=0:=by simpa using h4
     have hg:=vopenP_ok (σ:=⟨B,p,k⟩) ho hh hi9 hx9 he9
     have hdn:=appendP_dn hx9 he9
     subst hdn
     refine JC.skip ?_;refine JX.qd (hK19 _ _ ?_);refine JC.seq (fun K23 hK23=>?_);refine JC.region<|J.qe rfl rfl<|J.qq rfl rfl<|J.qi Ty.fd99_2 rfl rfl<|J.qw (v:=.int .i64 ((inc:Nat):Int)) Ty.a2 rfl (fun w1 hw=>by rw [qB (hw.own ((b23,vaO (.pointer (some ⟨lb,0,none⟩)) zW ((inc:Nat):Int))) zm)];rfl) rfl ?_;refine J.qG rfl rfl (by omega) (by omega) rfl ?_;refine J.name 57 rfl (show _=Value.int .i64 ((inc+1:Nat):Int) from congrArg (Value.int .i64) (by omega)) ?_;refine J.qq rfl rfl<|J.qi Ty.fd99_2 rfl rfl<|J.perm ((b23,vaO (.pointer (some ⟨lb,0,none⟩)) zW ((inc:Nat):Int))::((lb,lgO d q9 false)::(d,dkO s n σ9.p σ9.k)::(s,dkS σ9.B)::(l48++((b47,cb [.int .u64 1,.int .u64 ((inc+1:Nat):Int)] 81)::(zW,.map es ck)::(lpsH L++(lvv++lps)))))) zp<|J.qU (cs:=[.pointer (some ⟨lb,0,none⟩),.map (some zW),.int .i64 ((inc:Nat):Int)]) (vs:=[.int .i64 ((inc+1:Nat):Int)]) (l':=(b23,vaO (.pointer (some ⟨lb,0,none⟩)) zW ((inc+1:Nat):Int))::((lb,lgO d q9 false)::(d,dkO s n σ9.p σ9.k)::(s,dkS σ9.B)::(l48++((b47,cb [.int .u64 1,.int .u64 ((inc+1:Nat):Int)] 81)::(zW,.map es ck)::(lpsH L++(lvv++lps)))))) Ty.s2 rfl rfl rfl rfl (fun v hv=>by rw [List.mem_singleton.1 hv];rfl) .here (by show _≤3;omega) ?_;refine J.nil ?_;refine JX.qd (hK23 _ _ ?_);refine JC.seq (fun K24 hK24=>?_);refine JC.region<|J.qe rfl rfl<|J.assign rfl rfl<|J.assign rfl rfl<|J.nil ?_;refine JX.qd (hK24 _ _ ?_);refine JC.qA ?_;refine JX.zr rfl rfl rfl (fun w1 hw=>?_)
     exact ⟨.ok b23 zW lb q9 (inc+1) L es ck σ9,rfl,⟨hg,hT,hV⟩,(hw.perm (zp:List.Perm _ ((l48++((b47,cb [.int .u64 1,.int .u64 ((inc+1:Nat):Int)] 81)::(lvv++lps)))++(vltB b23 zW lb d s n q9 false (inc+1) es ck σ9++lpsH L)))).drop (List.sublist_append_right _ _)⟩
def fieldF (P:Program) (s f:Nat):Option (Nat × Nat):=match P.underlying s with
 | some (.struct fs)=>(fs[f]?).map (fun d=>(d.type,d.offset))
 | _=>none
theorem fieldF.ex {P:Program} {s f t off:Nat} (h:fieldF P s f=some (t,off)):∃fs fd,P.underlying s=some (.struct fs)∧fs[f]? = some fd∧fd.type=t∧fd.offset=off:=by
 unfold fieldF at h
 split at h
 ·rename_i fs hu
  obtain ⟨fd,h1,h2⟩:=Option.map_eq_some_iff.1 h
  simp only [Prod.mk.injEq] at h2
  exact ⟨fs,fd,hu,h1,h2.1,h2.2⟩
 ·cases h
section
variable {P:Program} {ops:Array Oper} {Q:Exit→Act→World→Prop} {n:Nat} {e:Env} {I I':World→Prop} {rest:List Oper}
variable {d t yt:Nat} {p:String} {af:Array Edge} {x y z:Operand} {v v1 v2:Value} {w0:World} {S:List Nat} {l l':List (Nat × Obj)}
theorem J.fieldA {s f tt off k:Nat} {cs vs:List Value} (hf:fieldF P s f=some (tt,off)) (ha:aggT P tt=some true) (hs:sizeT P tt=some k) (hx:ev e x=some (.agg cs.toArray)) (hv:(cs.drop off).take k=vs) (hd:Nat.blt d n=true)
  (h:J P ops Q n rest ((d,.agg vs.toArray)::e) I):J P ops Q n (⟨some d,.field s x f,t,p,af,none⟩::rest) e I:=by
 refine J.zf hd (fun T w ht hw=>⟨w,?_,hw⟩) h
 obtain ⟨fs,fd,hu,hfd,rfl,rfl⟩:=fieldF.ex hf
 simp [execOp,ht.eval hx,Instr.field,qM hu,hfd,asAgg,part,run_isAgg ha,Go.J.run_sizeOf hs,hv]
theorem J.field1 {s f tt off:Nat} {cs:List Value} (hf:fieldF P s f=some (tt,off)) (ha:aggT P tt=some false) (hx:ev e x=some (.agg cs.toArray)) (hv:cs[off]? = some v) (hd:Nat.blt d n=true)
  (h:J P ops Q n rest ((d,v)::e) I):J P ops Q n (⟨some d,.field s x f,t,p,af,none⟩::rest) e I:=by
 refine J.zf hd (fun T w ht hw=>⟨w,?_,hw⟩) h
 obtain ⟨fs,fd,hu,hfd,rfl,rfl⟩:=fieldF.ex hf
 simp [execOp,ht.eval hx,Instr.field,qM hu,hfd,asAgg,part,run_isAgg ha,hv]
end
namespace Ty
theorem ffIt:fieldF Try.prog 28 1=some (25,16):=by kernel_rfl
theorem ffVr:fieldF Try.prog 25 0=some (2,0):=by kernel_rfl
end Ty
theorem inc_spec (vb mb:Nat) (lv:Value) (inc:Int) (w:World) {l:List (Nat × Obj)} (hw0:Own w ((vb,vaO lv mb inc)::l)) :
  Calls Try.prog 18 [.pointer (some ⟨vb,0,none⟩)].toArray w fun r w'=>r=.returned (.int .i64 inc)∧Bel w w':=by
 refine qD (args:=[.pointer (some ⟨vb,0,none⟩)]) (e:=[(0,.pointer (some ⟨vb,0,none⟩))]) Try.func18 rfl rfl ⟨rfl,trivial⟩ (hw0.st) ?_;refine JC.seq (fun K0 hK0=>?_);refine JC.region<|J.assign rfl rfl<|J.nil ?_;refine JX.qd (hK0 _ _ ?_);refine JC.seq (fun K1 hK1=>?_);refine JC.seq (fun K2 hK2=>?_);refine JC.region<|J.qe rfl rfl<|J.zh Ty.u38 rfl rfl rfl<|J.nil ?_;refine JX.qd (hK2 _ _ ?_)
 first | refine JC.qI rfl ?_ | refine JC.qn rfl (fun h=>by first | (exfalso;simp at h;omega) | (simp at h)) (fun _=>?_)
 refine JC.skip ?_;refine JX.qd (hK1 _ _ ?_);refine JC.seq (fun K3 hK3=>?_);refine JC.region<|J.qe rfl rfl<|J.qq rfl rfl<|J.qi Ty.fd99_2 rfl rfl<|J.qw (v:=.int .i64 inc) Ty.a2 rfl (fun w1 hw=>by rw [qB (hw.own ((vb,vaO lv mb inc)) zm)];rfl) rfl ?_;refine J.assign rfl rfl<|J.nil ?_;refine JX.qd (hK3 _ _ ?_);refine JC.qA ?_;refine JX.qL rfl rfl (fun w hw=>?_)
 exact ⟨rfl,hw.same hw0 (fun p hp=>hp)⟩
theorem vdown_spec (vb mb lb d:Nat) (q:LogP) (down:Bool) (inc:Int) (w:World) {l:List (Nat × Obj)} (hw0:Own w ((vb,vaO (.pointer (some ⟨lb,0,none⟩)) mb inc)::(lb,lgO d q down)::l)) :
  Calls Try.prog 25 [.pointer (some ⟨vb,0,none⟩)].toArray w fun r w'=>r=.returned (.bool down)∧Bel w w':=by
 refine qD (args:=[.pointer (some ⟨vb,0,none⟩)]) (e:=[(0,.pointer (some ⟨vb,0,none⟩))]) Try.func25 rfl rfl ⟨rfl,trivial⟩ (hw0.st) ?_;refine JC.seq (fun K0 hK0=>?_);refine JC.region<|J.assign rfl rfl<|J.nil ?_;refine JX.qd (hK0 _ _ ?_);refine JC.seq (fun K1 hK1=>?_);refine JC.region<|J.qe rfl rfl<|J.neNil Ty.u38 rfl rfl rfl<|J.qe rfl rfl ?_
 first | refine J.skip rfl rfl rfl rfl rfl ?_ | refine J.qh rfl rfl rfl rfl ?_ | (refine J.qf rfl rfl rfl ?_;refine J.qe rfl rfl ?_)
 first | refine J.skip rfl rfl rfl rfl rfl ?_ | refine J.qh rfl rfl rfl rfl ?_ | (refine J.qf rfl rfl rfl ?_;refine J.qq rfl rfl ?_)
 first | refine J.skip rfl rfl rfl rfl rfl ?_ | refine J.qh rfl rfl rfl rfl ?_ | (refine J.qf rfl rfl rfl ?_;refine J.qi Ty.fd99_0 rfl rfl ?_)
 refine J.qf rfl rfl rfl<|J.qw (v:=.pointer (some ⟨lb,0,none⟩)) Ty.a94 rfl (fun w1 hw=>by rw [qB (hw.own ((vb,vaO (.pointer (some ⟨lb,0,none⟩)) mb inc)) zm)];rfl) rfl ?_;refine J.qf rfl rfl rfl<|J.qR (v:=.bool down) (fun w1 w2 hw hb=>hw.step hb) Ty.bd51 rfl rfl (fun w1 hw=>down_spec lb d q down w1 (l:=(vb,vaO (.pointer (some ⟨lb,0,none⟩)) mb inc)::l) (St.owns' (hw.perm (.swap _ _ _)))) ?_
 (first | refine J.qr rfl rfl rfl ?_ | refine J.qs rfl rfl rfl ?_)
 refine J.assign rfl rfl<|J.nil ?_;refine JX.qd (hK1 _ _ ?_);refine JC.qA ?_;refine JX.qL rfl rfl (fun w hw=>?_)
 exact ⟨rfl,hw.same hw0 (fun p hp=>hp)⟩
theorem vget_spec (vb mb:Nat) (lv:Value) (inc:Int) (L:List HI) (es:Array MapEntry) (ck:Nat) (hT:Vm L es ck) (hV:VOK L) (key:IDV) (O:HI) (K:Bool) (w:World) (hw0:Own w [(vb,vaO lv mb inc),(mb,.map es ck)]) (hO:(hget L key).getD zH=O) (hK:(hget L key).isSome=K) (hrow:Row w O.sv O.bs.length (O.bs.map u8)) (hoff:Off [vb,mb] O.sv (O.bs.map u8)) (hl:O.bs.length≤140737488351232) :
  Calls Try.prog 22 [.pointer (some ⟨vb,0,none⟩),.agg (cI key).toArray].toArray w fun r w'=>∃y:Value × List (Nat × Obj),r=.returned (.tuple #[.agg (cT O.key O.ver y.1).toArray,.bool K])∧Vec 5 1 y.1 (O.bs).length ((O.bs).map u8) y.2∧St w [vb,mb] (y.2++[(vb,vaO lv mb inc),(mb,.map es ck)]) w':=by
 obtain ⟨ao,co,hOs⟩:=hV.old key
 rw [hO] at hOs
 refine qD (args:=[.pointer (some ⟨vb,0,none⟩),.agg (cI key).toArray]) (e:=[(0,.pointer (some ⟨vb,0,none⟩)),(1,.agg (cI key).toArray)]) Try.func22 rfl rfl ⟨rfl,rfl,trivial⟩ (hw0.st) ?_;refine JC.seq (fun K0 hK0=>?_);refine JC.region ?_;refine J.box rfl rfl rfl (fun b3=>?_);refine J.alloc Ty.zIt rfl rfl (fun b4=>?_);refine J.assign rfl rfl<|J.nil ?_;refine JX.qd (hK0 _ _ ?_);refine JC.seq (fun K1 hK1=>?_);refine JC.seq (fun K2 hK2=>?_);refine JC.region<|J.qe rfl rfl<|J.zh Ty.u38 rfl rfl rfl<|J.nil ?_;refine JX.qd (hK2 _ _ ?_)
 first | refine JC.qI rfl ?_ | refine JC.qn rfl (fun h=>by first | (exfalso;simp at h;omega) | (simp at h)) (fun _=>?_)
 refine JC.skip ?_;refine JX.qd (hK1 _ _ ?_);refine JC.seq (fun K3 hK3=>?_)
 apply JC.zd (α:=Nat × Unit) 11 (fun x=>match x with | ⟨x6,uu⟩=>[.pointer (some ⟨vb,0,none⟩),.pointer (some ⟨vb,0,none⟩),.pointer (some ⟨vb,0+1,none⟩),.map (some mb),.agg (cI key).toArray,.tuple #[.agg (cH O).toArray,.bool K],.tuple #[.agg (cH O).toArray,.bool K],.agg (cH O).toArray,.bool K,.pointer (some ⟨x6,0,none⟩),undef]) (fun m x=>match x with | ⟨x6,uu⟩=>fun w1=>((m 10=true→m 9=true))∧St w [vb,mb] ((bif m 9 then [(x6,cb (cH (bif m 10 then O else zH)) 28)] else [])++((b4,cb (cH zH) 28)::(b3,cb (cI key) 23)::(vb,vaO lv mb inc)::(mb,.map es ck)::[])) w1) Ty.mixed rfl rfl rfl (by kernel_rfl) rfl rfl ?hinit ?hstep ?htail
 case hinit=>exact fun w1 hw=>⟨(0,()),fun h=>(by cases h),hw.drew⟩
 case hstep=>
  refine ⟨fun m x hm hp=>?_,fun m x hm hp=>?_,fun m x hm hp=>?_,fun m x hm hp=>?_,fun m x hm hp=>?_,fun m x hm hp=>?_,fun m x hm hp=>?_,fun m x hm hp=>?_,fun m x hm hp=>?_,fun m x hm hp=>?_,fun m x hm hp=>?_,trivial⟩
  ·obtain ⟨x6,uu⟩:=x
   show J _ _ _ _ _ (_) _
   refine J.pr (fun hF=>?_);refine J.qe rfl rfl ?_
   exact J.ql rfl (fun _ hw=>⟨⟨x6,uu⟩,rfl,fun _ _ _=>rfl,hF,hw⟩)
  ·obtain ⟨x6,uu⟩:=x
   show J _ _ _ _ _ ((12,.pointer (some ⟨vb,0,none⟩))::_) _
   refine J.pr (fun hF=>?_);refine J.qq rfl rfl ?_
   exact J.ql rfl (fun _ hw=>⟨⟨x6,uu⟩,rfl,fun _ _ _=>rfl,hF,hw⟩)
  ·obtain ⟨x6,uu⟩:=x
   show J _ _ _ _ _ ((13,.pointer (some ⟨vb,0,none⟩))::_) _
   refine J.pr (fun hF=>?_);refine J.qi Ty.fd99_1 rfl rfl ?_
   exact J.ql rfl (fun _ hw=>⟨⟨x6,uu⟩,rfl,fun _ _ _=>rfl,hF,hw⟩)
  ·obtain ⟨x6,uu⟩:=x
   show J _ _ _ _ _ ((14,.pointer (some ⟨vb,0+1,none⟩))::_) _
   refine J.pr (fun hF=>?_);refine J.qw (v:=.map (some mb)) Ty.a97 rfl (fun w1 hw=>by rw [qB (hw.own ((vb,vaO lv mb inc)) zm)];rfl) rfl ?_
   exact J.ql rfl (fun _ hw=>⟨⟨x6,uu⟩,rfl,fun _ _ _=>rfl,hF,hw⟩)
  ·obtain ⟨x6,uu⟩:=x
   show J _ _ _ _ _ (_) _
   refine J.pr (fun hF=>?_);refine J.qC (vs:=cI key) Ty.a23 Ty.s23 rfl rfl (fun w1 hw=>Cells.of_block (hw.own ((b3,cb (cI key) 23)) zm) rfl) rfl ?_
   exact J.ql rfl (fun _ hw=>⟨⟨x6,uu⟩,rfl,fun _ _ _=>rfl,hF,hw⟩)
  ·obtain ⟨x6,uu⟩:=x
   show J _ _ _ _ _ ((16,.agg (cI key).toArray)::(15,.map (some mb))::_) _
   refine J.pr (fun hF=>?_);refine J.lookV2 Ty.u97 Ty.KI Ty.keyI Ty.zIt rfl rfl hT (fun w1 hw=>hw.own ((mb,.map es ck)) zm) rfl ?_;refine J.name 17 rfl (show _=Value.tuple #[.agg (cH O).toArray,.bool K] by rw [hO,hK]) ?_
   exact J.ql rfl (fun _ hw=>⟨⟨x6,uu⟩,rfl,fun _ _ _=>rfl,hF,hw⟩)
  ·obtain ⟨x6,uu⟩:=x
   show J _ _ _ _ _ ((17,.tuple #[.agg (cH O).toArray,.bool K])::_) _
   refine J.pr (fun hF=>?_);refine J.qe rfl rfl ?_
   exact J.ql rfl (fun _ hw=>⟨⟨x6,uu⟩,rfl,fun _ _ _=>rfl,hF,hw⟩)
  ·obtain ⟨x6,uu⟩:=x
   show J _ _ _ _ _ ((11,.tuple #[.agg (cH O).toArray,.bool K])::_) _
   refine J.pr (fun hF=>?_);refine J.extract rfl rfl rfl ?_
   exact J.ql rfl (fun _ hw=>⟨⟨x6,uu⟩,rfl,fun _ _ _=>rfl,hF,hw⟩)
  ·obtain ⟨x6,uu⟩:=x
   show J _ _ _ _ _ ((11,.tuple #[.agg (cH O).toArray,.bool K])::_) _
   refine J.pr (fun hF=>?_);refine J.extract rfl rfl rfl ?_
   exact J.ql rfl (fun _ hw=>⟨⟨x6,uu⟩,rfl,fun _ _ _=>rfl,hF,hw⟩)
  ·obtain ⟨x6,uu⟩:=x
   show J _ _ _ _ _ (_) _
   refine J.pr (fun hF=>?_)
   have h10:m 10=false:=by cases h:m 10 with
    | false=>rfl
    | true=>rw [hF h] at hm;cases hm
   refine J.alloc Ty.zIt rfl rfl (fun b6=>?_)
   refine J.nil (JX.zR rfl (fun w1 hw=>⟨⟨⟨b6,uu⟩,rfl,fun j h1 h2=>?_,?_⟩,trivial⟩))
   ·match j,h1 with
    | 0,_=>(first | rfl | trivial)
    | 1,_=>(first | rfl | trivial)
    | 2,_=>(first | rfl | trivial)
    | 3,_=>(first | rfl | trivial)
    | 4,_=>(first | rfl | trivial)
    | 5,_=>(first | rfl | trivial)
    | 6,_=>(first | rfl | trivial)
    | 7,_=>(first | rfl | trivial)
    | 8,_=>(first | rfl | trivial)
    | 9,_=>exact absurd (h2.symm.trans hm) (by decide)
    | 10,_=>(first | rfl | trivial)
    | j+11,h1=>omega
   show ((m 10=true→true=true))∧St w [vb,mb] ((bif true then [(b6,cb (cH (bif m 10 then O else zH)) 28)] else [])++((b4,cb (cH zH) 28)::(b3,cb (cI key) 23)::(vb,vaO lv mb inc)::(mb,.map es ck)::[])) w1
   simp only [hm,h10,cond_true,cond_false] at hw ⊢
   exact ⟨fun _=>(by first | trivial | rfl),hw⟩
  ·obtain ⟨x6,uu⟩:=x
   show J _ _ _ _ _ ((6,.pointer (some ⟨x6,0,none⟩))::(18,.agg (cH O).toArray)::(11,.tuple #[.agg (cH O).toArray,.bool K])::(17,.tuple #[.agg (cH O).toArray,.bool K])::(16,.agg (cI key).toArray)::(15,.map (some mb))::(14,.pointer (some ⟨vb,0+1,none⟩))::(13,.pointer (some ⟨vb,0,none⟩))::(12,.pointer (some ⟨vb,0,none⟩))::(18,.agg (cH O).toArray)::(6,.pointer (some ⟨x6,0,none⟩))::_) _
   have hp9:m 9=true:=yV hp (by kernel_rfl)
   have hp9:m 9=true:=yV hp (by kernel_rfl)
   refine J.pr (fun hF=>?_)
   refine J.conseq (I':=St w [vb,mb] ((x6,cb (cH zH) 28)::(b4,cb (cH zH) 28)::(b3,cb (cI key) 23)::(vb,vaO lv mb inc)::(mb,.map es ck)::[])) ?_ (fun w1 hw=>by simp only [hm,hp9,cond_true,cond_false] at hw;exact hw)
   refine J.qN (cs:=cH zH) (vs:=cH O) Ty.s28 rfl rfl rfl rfl rfl (zi hOs) .here ?_
   refine J.nil (JX.finN undef (fun w1 hw=>⟨⟨x6,uu⟩,rfl,fun j h1 h2=>?_,?_⟩))
   ·match j,h1 with
    | 0,_=>(first | rfl | trivial)
    | 1,_=>(first | rfl | trivial)
    | 2,_=>(first | rfl | trivial)
    | 3,_=>(first | rfl | trivial)
    | 4,_=>(first | rfl | trivial)
    | 5,_=>(first | rfl | trivial)
    | 6,_=>(first | rfl | trivial)
    | 7,_=>(first | rfl | trivial)
    | 8,_=>(first | rfl | trivial)
    | 9,_=>(first | rfl | trivial)
    | 10,_=>(first | rfl | trivial)
    | j+11,h1=>omega
   show ((true=true→m 9=true))∧St w [vb,mb] ((bif m 9 then [(x6,cb (cH (bif true then O else zH)) 28)] else [])++((b4,cb (cH zH) 28)::(b3,cb (cI key) 23)::(vb,vaO lv mb inc)::(mb,.map es ck)::[])) w1
   simp only [hm,hp9,cond_true,cond_false] at hw ⊢
   exact ⟨fun _=>(by first | trivial | rfl),hw⟩
 case htail=>
  intro x
  obtain ⟨x6,uu⟩:=x
  show J _ _ _ _ _ ((6,.pointer (some ⟨x6,0,none⟩))::(19,.bool K)::(18,.agg (cH O).toArray)::(11,.tuple #[.agg (cH O).toArray,.bool K])::(17,.tuple #[.agg (cH O).toArray,.bool K])::(16,.agg (cI key).toArray)::(15,.map (some mb))::(14,.pointer (some ⟨vb,0+1,none⟩))::(13,.pointer (some ⟨vb,0,none⟩))::(12,.pointer (some ⟨vb,0,none⟩))::_) (fun w1=>((true=true→true=true))∧St w [vb,mb] ((bif true then [(x6,cb (cH (bif true then O else zH)) 28)] else [])++((b4,cb (cH zH) 28)::(b3,cb (cI key) 23)::(vb,vaO lv mb inc)::(mb,.map es ck)::[])) w1)
  refine J.pr (fun hF=>?_)
  refine J.conseq (I':=St w [vb,mb] ((x6,cb (cH O) 28)::(b4,cb (cH zH) 28)::(b3,cb (cI key) 23)::(vb,vaO lv mb inc)::(mb,.map es ck)::[])) ?_ (fun w1 hw=>by simp only [cond_true] at hw;exact hw)
  refine J.assign rfl rfl<|J.nil ?_;refine JX.qd (hK3 _ _ ?_);refine JC.seq (fun K4 hK4=>?_);refine JC.region<|J.qC (vs:=cH O) Ty.a28 Ty.s28 rfl rfl (fun w1 hw=>Cells.of_block (hw.own ((x6,cb (cH O) 28)) zm) rfl) rfl ?_;refine J.perm ([]++((x6,cb (cH O) 28)::(b4,cb (cH zH) 28)::(b3,cb (cI key) 23)::(vb,vaO lv mb inc)::(mb,.map es ck)::[])) (.refl _) ?_;refine J.qO (α:=Value × List (Nat × Obj)) (V:=fun y=>.agg (cT O.key O.ver y.1).toArray) (Pr:=fun y=>Vec 5 1 y.1 (O.bs).length ((O.bs).map u8) y.2) (L:=(·.2)) (l1:=[]) Ty.bd47 rfl rfl (fun w1 hw=>yK (cH O) O.key O.ver O.bs O.sv w1 rfl (hrow.st hoff hw) hl) (fun y hy=>?_)
  obtain ⟨v9,l9⟩:=y
  try simp only at hy ⊢
  obtain ⟨a9,c9,rfl,hc9⟩:=hy.form
  refine J.perm ((b4,cb (cH zH) 28)::((x6,cb (cH O) 28)::(b3,cb (cI key) 23)::(vb,vaO lv mb inc)::(mb,.map es ck)::l9)) zp<|J.qe rfl rfl<|J.qN (cs:=cH zH) (vs:=cT O.key O.ver (.slice a9 O.bs.length c9)) (l':=(b4,cb (cT O.key O.ver (.slice a9 O.bs.length c9)) 28)::((x6,cb (cH O) 28)::(b3,cb (cI key) 23)::(vb,vaO lv mb inc)::(mb,.map es ck)::l9)) Ty.s28 rfl rfl rfl rfl rfl zF .here<|J.assign rfl rfl<|J.nil ?_;refine JX.qd (hK4 _ _ ?_);refine JC.qA ?_;refine JX.z7 (vs:=cT O.key O.ver (.slice a9 O.bs.length c9)) rfl rfl rfl Ty.a28 Ty.s28 rfl (fun w1 hw=>Cells.of_block (hw.own (b4,cb (cT O.key O.ver (.slice a9 O.bs.length c9)) 28) zm) rfl) (fun w1 hw=>?_)
  exact ⟨(_,l9),rfl,hy,(hw.perm (zp:List.Perm _ ([(b4,cb (cT O.key O.ver (.slice a9 O.bs.length c9)) 28),(x6,cb (cH O) 28),(b3,cb (cI key) 23)]++(l9++[(vb,vaO lv mb inc),(mb,.map es ck)])))).drop (List.sublist_append_right _ _)⟩
def zItV:ItV:=⟨zI,zV,[]⟩
def verN (L:List ItV) (key:IDV):Int:=((getV L key).getD zItV).ver.n
theorem old_it (L:List HI) (key:IDV):(getV (L.map HI.it) key).getD zItV=((hget L key).getD zH).it:=by
 rw [z8]
 cases hget L key <;> rfl
theorem verN_it (L:List HI) (key:IDV):verN (L.map HI.it) key=((hget L key).getD zH).ver.n:=by
 unfold verN
 rw [old_it];rfl
def vputP (n:Nat) (q:LogP) (down:Bool) (σ:DS) (L:List ItV) (key:IDV) (val:List UInt8) (who:IDV):Int × Option ItV × LogP × Bool × DS:=
 if 64<val.length then (4,none,q,down,σ) else
 if verN L key=4611686018427387903 then (5,none,q,down,σ) else
 match appendP n q down σ (formB ⟨key,⟨verN L key+1,who⟩,val⟩) with
 | (e,q',dn,σ')=>if e=0 then (0,some ⟨key,⟨verN L key+1,who⟩,val⟩,q',dn,σ') else (e,none,q',dn,σ')
def vmergeP (n:Nat) (q:LogP) (down:Bool) (σ:DS) (L:List ItV) (x:ItV):Bool × Int × LogP × Bool × DS:=
 if x.ver.n<1∨4611686018427387904≤x.ver.n then (false,1,q,down,σ) else
 if 64<x.bs.length then (false,4,q,down,σ) else
 if (getV L x.key).isSome=true∧newB x.ver ((getV L x.key).getD zItV).ver=false then (false,0,q,down,σ) else
 match appendP n q down σ (formB x) with
 | (e,q',dn,σ')=>(decide (e=0),e,q',dn,σ')
inductive PutR where
 | bad (e:Int) (q:LogP) (dn:Bool) (σ:DS)
 | ok (h:HI) (y:Value) (ly:List (Nat × Obj)) (es:Array MapEntry) (ck:Nat) (q:LogP) (dn:Bool) (σ:DS)
def PutR.val:PutR→Value
 | .bad e _ _ _=>.tuple #[.agg (cH zH).toArray,.int .i64 e]
 | .ok h y _ _ _ _ _ _=>.tuple #[.agg (cT h.key h.ver y).toArray,.int .i64 0]
def PutR.lst (vb mb lb d s n inc:Nat) (es:Array MapEntry) (ck:Nat):PutR→List (Nat × Obj)
 | .bad _ q dn σ=>vltB vb mb lb d s n q dn inc es ck σ
 | .ok h _ ly es' ck' q dn σ=>vltB vb mb lb d s n q dn inc es' ck' σ++(h.lp++ly)
def PutR.Pr (n:Nat) (q:LogP) (down:Bool) (σ:DS) (L:List HI) (key:IDV) (val:List UInt8) (who:IDV):PutR→Prop
 | .bad e q' dn σ'=>vputP n q down σ (L.map HI.it) key val who=(e,none,q',dn,σ')∧e≠0
 | .ok h y ly es' ck' q' dn σ'=>vputP n q down σ (L.map HI.it) key val who=(0,some h.it,q',dn,σ')∧(okV h.ver.n∧Vec 5 1 h.sv h.bs.length (h.bs.map u8) h.lp)∧Vec 5 1 y h.bs.length (h.bs.map u8) ly∧Vm (hset L h) es' ck'
inductive MerR where
 | no (e:Int) (q:LogP) (dn:Bool) (σ:DS)
 | yes (h:HI) (es:Array MapEntry) (ck:Nat) (q:LogP) (dn:Bool) (σ:DS)
def MerR.val:MerR→Value
 | .no e _ _ _=>.tuple #[.bool false,.int .i64 e]
 | .yes _ _ _ _ _ _=>.tuple #[.bool true,.int .i64 0]
def MerR.lst (vb mb lb d s n inc:Nat) (es:Array MapEntry) (ck:Nat):MerR→List (Nat × Obj)
 | .no _ q dn σ=>vltB vb mb lb d s n q dn inc es ck σ
 | .yes h es' ck' q dn σ=>vltB vb mb lb d s n q dn inc es' ck' σ++h.lp
def MerR.Pr (n:Nat) (q:LogP) (down:Bool) (σ:DS) (L:List HI) (x:ItV):MerR→Prop
 | .no e q' dn σ'=>vmergeP n q down σ (L.map HI.it) x=(false,e,q',dn,σ')
 | .yes h es' ck' q' dn σ'=>vmergeP n q down σ (L.map HI.it) x=(true,0,q',dn,σ')∧h.it=x∧(okV h.ver.n∧Vec 5 1 h.sv h.bs.length (h.bs.map u8) h.lp)∧Vm (hset L h) es' ck'
set_option maxHeartbeats 2000000 in
theorem vput_spec (vb mb lb d s n inc:Nat) (q:LogP) (down:Bool) (B:List UInt8) (p k:Int) (L:List HI) (es:Array MapEntry) (ck:Nat) (hT:Vm L es ck) (hV:VOK L) (hI:LogI n q ⟨B,p,k⟩) (hn:n≤4096) (hk:0≤k) (hk2:k<4611686018427380000) (key who:IDV) (val:List UInt8) (vv:Value) (w:World) (hw0:Own w (vltB vb mb lb d s n q down inc es ck ⟨B,p,k⟩)) (hrv:Row w vv val.length (val.map u8)) (hoff:Off [vb,mb,lb,d,s] vv (val.map u8)) (hlv:val.length≤140737488351232) :
  Calls Try.prog 24 [.pointer (some ⟨vb,0,none⟩),.agg (cI key).toArray,vv,.agg (cI who).toArray].toArray w fun r w'=>∃z:PutR,r=.returned z.val∧z.Pr n q down ⟨B,p,k⟩ L key val who∧St w [vb,mb,lb,d,s] (z.lst vb mb lb d s n inc es ck) w':=by
 obtain ⟨hn3,hgl,hul,hcl_,hrl⟩:=yD hI.open_ hn
 obtain ⟨a,c,rfl,hc,_⟩:=id hrv
 obtain ⟨O,hO⟩:∃o,(hget L key).getD zH=o:=⟨_,rfl⟩
 obtain ⟨K,hK⟩:∃o,(hget L key).isSome=o:=⟨_,rfl⟩
 obtain ⟨ao,co,hOs⟩:=hV.old key
 rw [hO] at hOs
 have hon:=hV.okn key
 rw [hO] at hon
 obtain ⟨hon1,hon2⟩:=hon
 refine qD (args:=[.pointer (some ⟨vb,0,none⟩),.agg (cI key).toArray,.slice a val.length c,.agg (cI who).toArray]) (e:=[(0,.pointer (some ⟨vb,0,none⟩)),(1,.agg (cI key).toArray),(2,.slice a val.length c),(3,.agg (cI who).toArray)]) Try.func24 rfl rfl ⟨rfl,rfl,rfl,rfl,trivial⟩ (hw0.st) ?_;refine JC.seq (fun K0 hK0=>?_);refine JC.region ?_;refine J.box rfl rfl rfl (fun b5=>?_);refine J.box rfl rfl rfl (fun b7=>?_);refine J.alloc Ty.zIt rfl rfl (fun b8=>?_);refine J.assign rfl rfl<|J.nil ?_;refine JX.qd (hK0 _ _ ?_);refine JC.seq (fun K1 hK1=>?_);refine JC.seq (fun K2 hK2=>?_);refine JC.region<|J.qe rfl rfl<|J.zh Ty.u38 rfl rfl rfl<|J.nil ?_;refine JX.qd (hK2 _ _ ?_)
 first | refine JC.qI rfl ?_ | refine JC.qn rfl (fun h=>by first | (exfalso;simp at h;omega) | (simp at h)) (fun _=>?_)
 refine JC.skip ?_;refine JX.qd (hK1 _ _ ?_);refine JC.seq (fun K3 hK3=>?_)
 apply JC.zd (α:=Nat × Unit) 8 (fun x=>match x with | ⟨xu,uu⟩=>[.pointer (some ⟨vb,0,none⟩),.pointer (some ⟨vb,0,none⟩),.pointer (some ⟨vb,0+1,none⟩),.map (some mb),.agg (cI key).toArray,.agg (cH O).toArray,.agg (cV O.ver).toArray,.int .i64 O.ver.n]) (fun m x=>match x with | ⟨xu,uu⟩=>fun w1=>(True)∧St w [vb,mb,lb,d,s] ((b8,cb (cH zH) 28)::(b7,cb (cI who) 23)::(b5,cb (cI key) 23)::(vb,vaO (.pointer (some ⟨lb,0,none⟩)) mb ((inc:Nat):Int))::(mb,.map es ck)::(lb,lgO d q down)::(d,dkO s n p k)::(s,dkS B)::[]) w1) Ty.mixed rfl rfl rfl (by kernel_rfl) rfl rfl ?hinit ?hstep ?htail
 case hinit=>exact fun w1 hw=>⟨(0,()),trivial,hw.drew⟩
 case hstep=>
  refine ⟨fun m x hm hp=>?_,fun m x hm hp=>?_,fun m x hm hp=>?_,fun m x hm hp=>?_,fun m x hm hp=>?_,fun m x hm hp=>?_,fun m x hm hp=>?_,fun m x hm hp=>?_,trivial⟩
  ·obtain ⟨xu,uu⟩:=x
   show J _ _ _ _ _ (_) _
   refine J.pr (fun hF=>?_);refine J.qe rfl rfl ?_
   exact J.ql rfl (fun _ hw=>⟨⟨xu,uu⟩,rfl,fun _ _ _=>rfl,hF,hw⟩)
  ·obtain ⟨xu,uu⟩:=x
   show J _ _ _ _ _ ((16,.pointer (some ⟨vb,0,none⟩))::_) _
   refine J.pr (fun hF=>?_);refine J.qq rfl rfl ?_
   exact J.ql rfl (fun _ hw=>⟨⟨xu,uu⟩,rfl,fun _ _ _=>rfl,hF,hw⟩)
  ·obtain ⟨xu,uu⟩:=x
   show J _ _ _ _ _ ((17,.pointer (some ⟨vb,0,none⟩))::_) _
   refine J.pr (fun hF=>?_);refine J.qi Ty.fd99_1 rfl rfl ?_
   exact J.ql rfl (fun _ hw=>⟨⟨xu,uu⟩,rfl,fun _ _ _=>rfl,hF,hw⟩)
  ·obtain ⟨xu,uu⟩:=x
   show J _ _ _ _ _ ((18,.pointer (some ⟨vb,0+1,none⟩))::_) _
   refine J.pr (fun hF=>?_);refine J.qw (v:=.map (some mb)) Ty.a97 rfl (fun w1 hw=>by rw [qB (hw.own ((vb,vaO (.pointer (some ⟨lb,0,none⟩)) mb ((inc:Nat):Int))) zm)];rfl) rfl ?_
   exact J.ql rfl (fun _ hw=>⟨⟨xu,uu⟩,rfl,fun _ _ _=>rfl,hF,hw⟩)
  ·obtain ⟨xu,uu⟩:=x
   show J _ _ _ _ _ (_) _
   refine J.pr (fun hF=>?_);refine J.qC (vs:=cI key) Ty.a23 Ty.s23 rfl rfl (fun w1 hw=>Cells.of_block (hw.own ((b5,cb (cI key) 23)) zm) rfl) rfl ?_
   exact J.ql rfl (fun _ hw=>⟨⟨xu,uu⟩,rfl,fun _ _ _=>rfl,hF,hw⟩)
  ·obtain ⟨xu,uu⟩:=x
   show J _ _ _ _ _ ((20,.agg (cI key).toArray)::(19,.map (some mb))::_) _
   refine J.pr (fun hF=>?_);refine J.lookV1 Ty.u97 Ty.KI Ty.keyI Ty.zIt rfl rfl hT (fun w1 hw=>hw.own (mb,.map es ck) zm) rfl ?_;refine J.name 21 rfl (show _=Value.agg (cH O).toArray by rw [hO]) ?_
   exact J.ql rfl (fun _ hw=>⟨⟨xu,uu⟩,rfl,fun _ _ _=>rfl,hF,hw⟩)
  ·obtain ⟨xu,uu⟩:=x
   show J _ _ _ _ _ ((21,.agg (cH O).toArray)::_) _
   refine J.pr (fun hF=>?_);refine J.fieldA Ty.ffIt Ty.a25 Ty.s25 rfl (vs:=cV O.ver) rfl rfl ?_
   exact J.ql rfl (fun _ hw=>⟨⟨xu,uu⟩,rfl,fun _ _ _=>rfl,hF,hw⟩)
  ·obtain ⟨xu,uu⟩:=x
   show J _ _ _ _ _ ((22,.agg (cV O.ver).toArray)::_) _
   refine J.pr (fun hF=>?_);refine J.field1 (v:=.int .i64 O.ver.n) Ty.ffVr Ty.a2 rfl rfl rfl ?_
   exact J.ql rfl (fun _ hw=>⟨⟨xu,uu⟩,rfl,fun _ _ _=>rfl,hF,hw⟩)
 case htail=>
  intro x
  obtain ⟨xu,uu⟩:=x
  show J _ _ _ _ _ ((23,.int .i64 O.ver.n)::(22,.agg (cV O.ver).toArray)::(21,.agg (cH O).toArray)::(20,.agg (cI key).toArray)::(19,.map (some mb))::(18,.pointer (some ⟨vb,0+1,none⟩))::(17,.pointer (some ⟨vb,0,none⟩))::(16,.pointer (some ⟨vb,0,none⟩))::_) (fun w1=>(True)∧St w [vb,mb,lb,d,s] ((b8,cb (cH zH) 28)::(b7,cb (cI who) 23)::(b5,cb (cI key) 23)::(vb,vaO (.pointer (some ⟨lb,0,none⟩)) mb ((inc:Nat):Int))::(mb,.map es ck)::(lb,lgO d q down)::(d,dkO s n p k)::(s,dkS B)::[]) w1)
  refine J.pr (fun hF=>?_);refine J.assign rfl rfl<|J.nil ?_;refine JX.qd (hK3 _ _ ?_);refine JC.seq (fun K4 hK4=>?_);refine JC.block ?_;refine JC.seq (fun K5 hK5=>?_);refine JC.region<|J.qe rfl rfl<|J.qK rfl Ty.u26 rfl rfl<|J.qj rfl rfl rfl rfl<|J.assign rfl rfl<|J.nil ?_;refine JX.qd (hK5 _ _ ?_);refine JC.qn rfl (fun h1=>?_) (fun h1=>?_)
  ·have hg:vputP n q down ⟨B,p,k⟩ (L.map HI.it) key val who=(4,none,q,down,⟨B,p,k⟩):=by unfold vputP;rw [if_pos (by simp at h1;omega)]
   refine JC.seq (fun K6 hK6=>?_);refine JC.region<|J.qY (cs:=cH zH) Ty.pl28 Ty.zIt rfl (by kernel_rfl) rfl ?_;refine J.qN (cs:=cH zH) (vs:=cH zH) Ty.s28 rfl rfl rfl rfl rfl (zi (x:=zH) rfl) zu<|J.assign rfl rfl<|J.nil ?_;refine JX.qd (hK6 _ _ ?_);refine JC.qA<|JX.qH<|JX.qt ?_;refine JX.z7 (vs:=cH zH) rfl rfl rfl Ty.a28 Ty.s28 rfl (fun w1 hw=>Cells.of_block (hw.own ((b8,cb (cH zH) 28)) zm) rfl) (fun w1 hw=>?_)
   exact ⟨.bad 4 q down ⟨B,p,k⟩,rfl,⟨hg,by decide⟩,(hw.perm (zp:List.Perm _ ([(b8,cb (cH zH) 28),(b7,cb (cI who) 23),(b5,cb (cI key) 23)]++(vltB vb mb lb d s n q down inc es ck ⟨B,p,k⟩)))).drop (List.sublist_append_right _ _)⟩
  ·have hv64:¬64<val.length:=by simp at h1;omega
   refine JC.seq (fun K7 hK7=>?_);refine JC.region<|J.qe rfl rfl<|J.qj rfl rfl rfl rfl<|J.assign rfl rfl<|J.nil ?_;refine JX.qd (hK7 _ _ ?_);refine JC.qn rfl (fun h2=>?_) (fun h2=>?_)
   ·have hg:vputP n q down ⟨B,p,k⟩ (L.map HI.it) key val who=(5,none,q,down,⟨B,p,k⟩):=by unfold vputP;rw [if_neg hv64,verN_it,hO,if_pos (by simpa using h2)]
    refine JC.seq (fun K8 hK8=>?_);refine JC.region<|J.qY (cs:=cH zH) Ty.pl28 Ty.zIt rfl (by kernel_rfl) rfl ?_;refine J.qN (cs:=cH zH) (vs:=cH zH) Ty.s28 rfl rfl rfl rfl rfl (zi (x:=zH) rfl) zu<|J.assign rfl rfl<|J.nil ?_;refine JX.qd (hK8 _ _ ?_);refine JC.qA<|JX.qH<|JX.qt ?_;refine JX.z7 (vs:=cH zH) rfl rfl rfl Ty.a28 Ty.s28 rfl (fun w1 hw=>Cells.of_block (hw.own ((b8,cb (cH zH) 28)) zm) rfl) (fun w1 hw=>?_)
    exact ⟨.bad 5 q down ⟨B,p,k⟩,rfl,⟨hg,by decide⟩,(hw.perm (zp:List.Perm _ ([(b8,cb (cH zH) 28),(b7,cb (cI who) 23),(b5,cb (cI key) 23)]++(vltB vb mb lb d s n q down inc es ck ⟨B,p,k⟩)))).drop (List.sublist_append_right _ _)⟩
   ·have hne:¬O.ver.n=4611686018427387903:=by simpa using h2
    refine JC.skip<|JX.qJ ?_;refine JX.qd (hK4 _ _ ?_);refine JC.seq (fun K9 hK9=>?_);refine JC.region<|J.qC (vs:=cI key) Ty.a23 Ty.s23 rfl rfl (fun w1 hw=>Cells.of_block (hw.own ((b5,cb (cI key) 23)) zm) rfl) rfl ?_;refine J.qe rfl rfl<|J.qG rfl rfl (by omega) (by omega) rfl ?_;refine J.qC (vs:=cI who) Ty.a23 Ty.s23 rfl rfl (fun w1 hw=>Cells.of_block (hw.own ((b7,cb (cI who) 23)) zm) rfl) rfl ?_;refine J.qY (cs:=cV ⟨O.ver.n+1,who⟩) Ty.pl25 Ty.zVr rfl (by kernel_rfl) rfl ?_;refine J.qe rfl rfl<|J.qY (cs:=cT key ⟨O.ver.n+1,who⟩ (.slice a val.length c)) Ty.pl28 Ty.zIt rfl (by kernel_rfl) rfl ?_;refine J.perm ([]++((b8,cb (cH zH) 28)::(b7,cb (cI who) 23)::(b5,cb (cI key) 23)::(vb,vaO (.pointer (some ⟨lb,0,none⟩)) mb ((inc:Nat):Int))::(mb,.map es ck)::(lb,lgO d q down)::(d,dkO s n p k)::(s,dkS B)::[])) (.refl _) ?_;refine J.qO (α:=Value × List (Nat × Obj)) (V:=fun y=>.agg (cT key ⟨O.ver.n+1,who⟩ y.1).toArray) (Pr:=fun y=>Vec 5 1 y.1 (val).length ((val).map u8) y.2) (L:=(·.2)) (l1:=[]) Ty.bd47 rfl rfl (fun w1 hw=>yK (cT key ⟨O.ver.n+1,who⟩ (.slice a val.length c)) key ⟨O.ver.n+1,who⟩ val _ w1 rfl (hrv.st hoff hw) (by omega)) (fun y hv40=>?_)
    obtain ⟨v40,l40⟩:=y
    try simp only at hv40 ⊢
    obtain ⟨a40,c40,rfl,hc40⟩:=hv40.form
    refine J.alloc Ty.zIt rfl rfl (fun q6=>?_);refine J.qN (cs:=cH zH) (vs:=cT key ⟨O.ver.n+1,who⟩ (.slice a40 val.length c40)) Ty.s28 rfl rfl rfl rfl rfl zF .here<|J.perm ((q6,cb (cT key ⟨O.ver.n+1,who⟩ (.slice a40 val.length c40)) 28)::(b8,cb (cH zH) 28)::(b7,cb (cI who) 23)::(b5,cb (cI key) 23)::(l40++((vb,vaO (.pointer (some ⟨lb,0,none⟩)) mb ((inc:Nat):Int))::(mb,.map es ck)::(lb,lgO d q down)::(d,dkO s n p k)::(s,dkS B)::[]))) zp<|J.nil ?_;refine JX.qd (hK9 _ _ ?_);refine JC.seq (fun K10 hK10=>?_);refine JC.seq (fun K11 hK11=>?_)
    apply JC.zd (α:=Value × List (Nat × Obj)) 6 (fun x=>match x with | ⟨v46,l46⟩=>[.pointer (some ⟨vb,0,none⟩),.pointer (some ⟨vb,0,none⟩),.pointer (some ⟨vb,0+0,none⟩),.pointer (some ⟨lb,0,none⟩),.agg (cT key ⟨O.ver.n+1,who⟩ (.slice a40 val.length c40)).toArray,v46]) (fun m x=>match x with | ⟨v46,l46⟩=>fun w1=>((m 5=true→Vec 5 1 v46 (formB ⟨key,⟨O.ver.n+1,who⟩,val⟩).length ((formB ⟨key,⟨O.ver.n+1,who⟩,val⟩).map u8) l46))∧St w [vb,mb,lb,d,s] ((bif m 5 then l46 else [])++((q6,cb (cT key ⟨O.ver.n+1,who⟩ (.slice a40 val.length c40)) 28)::(b8,cb (cH zH) 28)::(b7,cb (cI who) 23)::(b5,cb (cI key) 23)::(l40++((vb,vaO (.pointer (some ⟨lb,0,none⟩)) mb ((inc:Nat):Int))::(mb,.map es ck)::(lb,lgO d q down)::(d,dkO s n p k)::(s,dkS B)::[])))) w1) Ty.mixed rfl rfl rfl (by kernel_rfl) rfl rfl ?hinit ?hstep ?htail
    case hinit=>exact fun w1 hw=>⟨(.slice none 0 0,[]),fun h=>(by cases h),hw.drew⟩
    case hstep=>
     refine ⟨fun m x hm hp=>?_,fun m x hm hp=>?_,fun m x hm hp=>?_,fun m x hm hp=>?_,fun m x hm hp=>?_,fun m x hm hp=>?_,trivial⟩
     ·obtain ⟨v46,l46⟩:=x
      show J _ _ _ _ _ (_) _
      refine J.pr (fun hF=>?_);refine J.qe rfl rfl ?_
      exact J.ql rfl (fun _ hw=>⟨⟨v46,l46⟩,rfl,fun _ _ _=>rfl,hF,hw⟩)
     ·obtain ⟨v46,l46⟩:=x
      show J _ _ _ _ _ ((41,.pointer (some ⟨vb,0,none⟩))::_) _
      refine J.pr (fun hF=>?_);refine J.qq rfl rfl ?_
      exact J.ql rfl (fun _ hw=>⟨⟨v46,l46⟩,rfl,fun _ _ _=>rfl,hF,hw⟩)
     ·obtain ⟨v46,l46⟩:=x
      show J _ _ _ _ _ ((42,.pointer (some ⟨vb,0,none⟩))::_) _
      refine J.pr (fun hF=>?_);refine J.qi Ty.fd99_0 rfl rfl ?_
      exact J.ql rfl (fun _ hw=>⟨⟨v46,l46⟩,rfl,fun _ _ _=>rfl,hF,hw⟩)
     ·obtain ⟨v46,l46⟩:=x
      show J _ _ _ _ _ ((43,.pointer (some ⟨vb,0+0,none⟩))::_) _
      refine J.pr (fun hF=>?_);refine J.qw (v:=.pointer (some ⟨lb,0,none⟩)) Ty.a94 rfl (fun w1 hw=>by rw [qB (hw.own ((vb,vaO (.pointer (some ⟨lb,0,none⟩)) mb ((inc:Nat):Int))) zm)];rfl) rfl ?_
      exact J.ql rfl (fun _ hw=>⟨⟨v46,l46⟩,rfl,fun _ _ _=>rfl,hF,hw⟩)
     ·obtain ⟨v46,l46⟩:=x
      show J _ _ _ _ _ (_) _
      refine J.pr (fun hF=>?_);refine J.qC (vs:=cT key ⟨O.ver.n+1,who⟩ (.slice a40 val.length c40)) Ty.a28 Ty.s28 rfl rfl (fun w1 hw=>Cells.of_block (hw.own ((q6,cb (cT key ⟨O.ver.n+1,who⟩ (.slice a40 val.length c40)) 28)) zm) rfl) rfl ?_
      exact J.ql rfl (fun _ hw=>⟨⟨v46,l46⟩,rfl,fun _ _ _=>rfl,hF,hw⟩)
     ·obtain ⟨v46,l46⟩:=x
      show J _ _ _ _ _ ((45,.agg (cT key ⟨O.ver.n+1,who⟩ (.slice a40 val.length c40)).toArray)::_) _
      refine J.pr (fun hF=>?_)
      refine J.conseq (I':=St w [vb,mb,lb,d,s] ((q6,cb (cT key ⟨O.ver.n+1,who⟩ (.slice a40 val.length c40)) 28)::(b8,cb (cH zH) 28)::(b7,cb (cI who) 23)::(b5,cb (cI key) 23)::(l40++((vb,vaO (.pointer (some ⟨lb,0,none⟩)) mb ((inc:Nat):Int))::(mb,.map es ck)::(lb,lgO d q down)::(d,dkO s n p k)::(s,dkS B)::[])))) ?_ (fun w1 hw=>by simp only [hm,cond_false,List.nil_append] at hw;exact hw)
      refine J.perm ([]++((q6,cb (cT key ⟨O.ver.n+1,who⟩ (.slice a40 val.length c40)) 28)::(b8,cb (cH zH) 28)::(b7,cb (cI who) 23)::(b5,cb (cI key) 23)::(l40++((vb,vaO (.pointer (some ⟨lb,0,none⟩)) mb ((inc:Nat):Int))::(mb,.map es ck)::(lb,lgO d q down)::(d,dkO s n p k)::(s,dkS B)::[])))) (.refl _) ?_;refine J.qO (α:=Value × List (Nat × Obj)) (V:=(·.1)) (Pr:=fun xo=>Vec 5 1 xo.1 (formB ⟨key,⟨O.ver.n+1,who⟩,val⟩).length ((formB ⟨key,⟨O.ver.n+1,who⟩,val⟩).map u8) xo.2) (L:=(·.2)) (l1:=[]) Ty.bd11 rfl rfl (fun w1 hw=>form_spec (cT key ⟨O.ver.n+1,who⟩ (.slice a40 val.length c40)) key ⟨O.ver.n+1,who⟩ val _ w1 rfl (qW hv40 hw (fun q hq=>by simp [hq])) (by omega) (by simp only;omega) (by simp only;omega)) (fun xo hvn=>?_)
      obtain ⟨vn,ln⟩:=xo
      try simp only at hvn ⊢
      refine J.nil (JX.zR rfl (fun w1 hw=>⟨⟨⟨vn,ln⟩,rfl,fun j h1 h2=>?_,?_⟩,trivial⟩))
      ·match j,h1 with
       | 0,_=>(first | rfl | trivial)
       | 1,_=>(first | rfl | trivial)
       | 2,_=>(first | rfl | trivial)
       | 3,_=>(first | rfl | trivial)
       | 4,_=>(first | rfl | trivial)
       | 5,_=>exact absurd (h2.symm.trans hm) (by decide)
       | j+6,h1=>omega
      show ((true=true→Vec 5 1 vn (formB ⟨key,⟨O.ver.n+1,who⟩,val⟩).length ((formB ⟨key,⟨O.ver.n+1,who⟩,val⟩).map u8) ln))∧St w [vb,mb,lb,d,s] ((bif true then ln else [])++((q6,cb (cT key ⟨O.ver.n+1,who⟩ (.slice a40 val.length c40)) 28)::(b8,cb (cH zH) 28)::(b7,cb (cI who) 23)::(b5,cb (cI key) 23)::(l40++((vb,vaO (.pointer (some ⟨lb,0,none⟩)) mb ((inc:Nat):Int))::(mb,.map es ck)::(lb,lgO d q down)::(d,dkO s n p k)::(s,dkS B)::[])))) w1
      simp only [cond_true] at hw ⊢
      exact ⟨fun _=>hvn,hw⟩
    case htail=>
     intro x
     obtain ⟨v46,l46⟩:=x
     show J _ _ _ _ _ ((46,v46)::(45,.agg (cT key ⟨O.ver.n+1,who⟩ (.slice a40 val.length c40)).toArray)::(44,.pointer (some ⟨lb,0,none⟩))::(43,.pointer (some ⟨vb,0+0,none⟩))::(42,.pointer (some ⟨vb,0,none⟩))::(41,.pointer (some ⟨vb,0,none⟩))::_) (fun w1=>((true=true→Vec 5 1 v46 (formB ⟨key,⟨O.ver.n+1,who⟩,val⟩).length ((formB ⟨key,⟨O.ver.n+1,who⟩,val⟩).map u8) l46))∧St w [vb,mb,lb,d,s] ((bif true then l46 else [])++((q6,cb (cT key ⟨O.ver.n+1,who⟩ (.slice a40 val.length c40)) 28)::(b8,cb (cH zH) 28)::(b7,cb (cI who) 23)::(b5,cb (cI key) 23)::(l40++((vb,vaO (.pointer (some ⟨lb,0,none⟩)) mb ((inc:Nat):Int))::(mb,.map es ck)::(lb,lgO d q down)::(d,dkO s n p k)::(s,dkS B)::[])))) w1)
     refine J.pr (fun hF=>?_)
     have hv46:=hF rfl
     have hfl:=formB_le ⟨key,⟨O.ver.n+1,who⟩,val⟩
     try simp only at hfl
     obtain ⟨a46,c46,rfl,hc46⟩:=hv46.form
     refine J.conseq (I':=St w [vb,mb,lb,d,s] (l46++((q6,cb (cT key ⟨O.ver.n+1,who⟩ (.slice a40 val.length c40)) 28)::(b8,cb (cH zH) 28)::(b7,cb (cI who) 23)::(b5,cb (cI key) 23)::(l40++((vb,vaO (.pointer (some ⟨lb,0,none⟩)) mb ((inc:Nat):Int))::(mb,.map es ck)::(lb,lgO d q down)::(d,dkO s n p k)::(s,dkS B)::[]))))) ?_ (fun w1 hw=>by simp only [cond_true] at hw;exact hw)
     obtain ⟨⟨e9,q9,dn9,σ9⟩,hx9⟩:∃x,appendP n q down ⟨B,p,k⟩ (formB ⟨key,⟨O.ver.n+1,who⟩,val⟩)=x:=⟨_,rfl⟩
     refine J.perm ([(lb,lgO d q down),(d,dkO s n p k),(s,dkS B)]++(l46++((q6,cb (cT key ⟨O.ver.n+1,who⟩ (.slice a40 val.length c40)) 28)::(b8,cb (cH zH) 28)::(b7,cb (cI who) 23)::(b5,cb (cI key) 23)::(l40++((vb,vaO (.pointer (some ⟨lb,0,none⟩)) mb ((inc:Nat):Int))::(mb,.map es ck)::[]))))) zp<|J.callT (v:=.int .i64 e9) (L:=[(lb,lgO d q9 dn9),(d,dkO s n σ9.p σ9.k),(s,dkS σ9.B)]) Ty.bd46 rfl rfl (fun w1 hw=>append_all lb d s n q down B (formB ⟨key,⟨O.ver.n+1,who⟩,val⟩) p k a46 _ c46 w1 (St.owns hw) hI.len hn hn3 hgl hul hcl_ hk hk2 hI.p rfl (by omega) (qW hv46 hw (fun q hq=>by simp [hq])) (zY hv46 (fun p0 hp0=>St.off (l1:=[(lb,lgO d q down),(d,dkO s n p k),(s,dkS B)]) hw (o:=p0.2) (by simp [hp0]))) hx9) ?_;refine J.perm ((q6,cb (cT key ⟨O.ver.n+1,who⟩ (.slice a40 val.length c40)) 28)::(b8,cb (cH zH) 28)::(b7,cb (cI who) 23)::(b5,cb (cI key) 23)::(vb,vaO (.pointer (some ⟨lb,0,none⟩)) mb ((inc:Nat):Int))::(mb,.map es ck)::(lb,lgO d q9 dn9)::(d,dkO s n σ9.p σ9.k)::(s,dkS σ9.B)::(l46++l40)) zp<|J.assign rfl rfl<|J.nil ?_;refine JX.qd (hK11 _ _ ?_);refine JC.seq (fun K12 hK12=>?_);refine JC.region<|J.qe rfl rfl<|J.qj rfl rfl rfl rfl<|J.nil ?_;refine JX.qd (hK12 _ _ ?_);refine JC.qn rfl (fun h3=>?_) (fun h3=>?_)
     ·have he9:e9≠0:=by simpa using h3
      have hg:vputP n q down ⟨B,p,k⟩ (L.map HI.it) key val who=(e9,none,q9,dn9,σ9):=by unfold vputP;rw [if_neg hv64,verN_it,hO,if_neg hne,hx9];simp only;rw [if_neg he9]
      refine JC.seq (fun K13 hK13=>?_);refine JC.region<|J.qY (cs:=cH zH) Ty.pl28 Ty.zIt rfl (by kernel_rfl) rfl ?_;refine J.qe rfl rfl<|J.qN (cs:=cH zH) (vs:=cH zH) Ty.s28 rfl rfl rfl rfl rfl (zi (x:=zH) rfl) zu<|J.assign rfl rfl<|J.nil ?_;refine JX.qd (hK13 _ _ ?_);refine JC.qA<|JX.qt ?_;refine JX.z7 (vs:=cH zH) rfl rfl rfl Ty.a28 Ty.s28 rfl (fun w1 hw=>Cells.of_block (hw.own ((b8,cb (cH zH) 28)) zm) rfl) (fun w1 hw=>?_)
      exact ⟨.bad e9 q9 dn9 σ9,rfl,⟨hg,he9⟩,(hw.perm (zp:List.Perm _ (((q6,cb (cT key ⟨O.ver.n+1,who⟩ (.slice a40 val.length c40)) 28)::(b8,cb (cH zH) 28)::(b7,cb (cI who) 23)::(b5,cb (cI key) 23)::(l46++l40))++(vltB vb mb lb d s n q9 dn9 inc es ck σ9)))).drop (List.sublist_append_right _ _)⟩
     ·have he9:e9=0:=by simpa using h3
      have hg:vputP n q down ⟨B,p,k⟩ (L.map HI.it) key val who=(0,some ⟨key,⟨O.ver.n+1,who⟩,val⟩,q9,dn9,σ9):=by unfold vputP;rw [if_neg hv64,verN_it,hO,if_neg hne,hx9];simp only;rw [if_pos he9]
      refine JC.skip ?_;refine JX.qd (hK10 _ _ ?_);refine JC.seq (fun K14 hK14=>?_)
      apply JC.zd (α:=Nat × Unit) 6 (fun x=>match x with | ⟨xu,uu⟩=>[.pointer (some ⟨vb,0,none⟩),.pointer (some ⟨vb,0,none⟩),.pointer (some ⟨vb,0+1,none⟩),.map (some mb),.agg (cI key).toArray,.agg (cT key ⟨O.ver.n+1,who⟩ (.slice a40 val.length c40)).toArray]) (fun m x=>match x with | ⟨xu,uu⟩=>fun w1=>(True)∧St w [vb,mb,lb,d,s] ((q6,cb (cT key ⟨O.ver.n+1,who⟩ (.slice a40 val.length c40)) 28)::(b8,cb (cH zH) 28)::(b7,cb (cI who) 23)::(b5,cb (cI key) 23)::(vb,vaO (.pointer (some ⟨lb,0,none⟩)) mb ((inc:Nat):Int))::(mb,.map es ck)::(lb,lgO d q9 dn9)::(d,dkO s n σ9.p σ9.k)::(s,dkS σ9.B)::(l46++l40)) w1) Ty.mixed rfl rfl rfl (by kernel_rfl) rfl rfl ?hinit ?hstep ?htail
      case hinit=>exact fun w1 hw=>⟨(0,()),trivial,hw.drew⟩
      case hstep=>
       refine ⟨fun m x hm hp=>?_,fun m x hm hp=>?_,fun m x hm hp=>?_,fun m x hm hp=>?_,fun m x hm hp=>?_,fun m x hm hp=>?_,trivial⟩
       ·obtain ⟨xu,uu⟩:=x
        show J _ _ _ _ _ (_) _
        refine J.pr (fun hF=>?_);refine J.qe rfl rfl ?_
        exact J.ql rfl (fun _ hw=>⟨⟨xu,uu⟩,rfl,fun _ _ _=>rfl,hF,hw⟩)
       ·obtain ⟨xu,uu⟩:=x
        show J _ _ _ _ _ ((52,.pointer (some ⟨vb,0,none⟩))::_) _
        refine J.pr (fun hF=>?_);refine J.qq rfl rfl ?_
        exact J.ql rfl (fun _ hw=>⟨⟨xu,uu⟩,rfl,fun _ _ _=>rfl,hF,hw⟩)
       ·obtain ⟨xu,uu⟩:=x
        show J _ _ _ _ _ ((53,.pointer (some ⟨vb,0,none⟩))::_) _
        refine J.pr (fun hF=>?_);refine J.qi Ty.fd99_1 rfl rfl ?_
        exact J.ql rfl (fun _ hw=>⟨⟨xu,uu⟩,rfl,fun _ _ _=>rfl,hF,hw⟩)
       ·obtain ⟨xu,uu⟩:=x
        show J _ _ _ _ _ ((54,.pointer (some ⟨vb,0+1,none⟩))::_) _
        refine J.pr (fun hF=>?_);refine J.qw (v:=.map (some mb)) Ty.a97 rfl (fun w1 hw=>by rw [qB (hw.own ((vb,vaO (.pointer (some ⟨lb,0,none⟩)) mb ((inc:Nat):Int))) zm)];rfl) rfl ?_
        exact J.ql rfl (fun _ hw=>⟨⟨xu,uu⟩,rfl,fun _ _ _=>rfl,hF,hw⟩)
       ·obtain ⟨xu,uu⟩:=x
        show J _ _ _ _ _ (_) _
        refine J.pr (fun hF=>?_);refine J.qC (vs:=cI key) Ty.a23 Ty.s23 rfl rfl (fun w1 hw=>Cells.of_block (hw.own ((b5,cb (cI key) 23)) zm) rfl) rfl ?_
        exact J.ql rfl (fun _ hw=>⟨⟨xu,uu⟩,rfl,fun _ _ _=>rfl,hF,hw⟩)
       ·obtain ⟨xu,uu⟩:=x
        show J _ _ _ _ _ (_) _
        refine J.pr (fun hF=>?_);refine J.qC (vs:=cT key ⟨O.ver.n+1,who⟩ (.slice a40 val.length c40)) Ty.a28 Ty.s28 rfl rfl (fun w1 hw=>Cells.of_block (hw.own ((q6,cb (cT key ⟨O.ver.n+1,who⟩ (.slice a40 val.length c40)) 28)) zm) rfl) rfl ?_
        exact J.ql rfl (fun _ hw=>⟨⟨xu,uu⟩,rfl,fun _ _ _=>rfl,hF,hw⟩)
      case htail=>
       intro x
       obtain ⟨xu,uu⟩:=x
       show J _ _ _ _ _ ((57,.agg (cT key ⟨O.ver.n+1,who⟩ (.slice a40 val.length c40)).toArray)::(56,.agg (cI key).toArray)::(55,.map (some mb))::(54,.pointer (some ⟨vb,0+1,none⟩))::(53,.pointer (some ⟨vb,0,none⟩))::(52,.pointer (some ⟨vb,0,none⟩))::_) (fun w1=>(True)∧St w [vb,mb,lb,d,s] ((q6,cb (cT key ⟨O.ver.n+1,who⟩ (.slice a40 val.length c40)) 28)::(b8,cb (cH zH) 28)::(b7,cb (cI who) 23)::(b5,cb (cI key) 23)::(vb,vaO (.pointer (some ⟨lb,0,none⟩)) mb ((inc:Nat):Int))::(mb,.map es ck)::(lb,lgO d q9 dn9)::(d,dkO s n σ9.p σ9.k)::(s,dkS σ9.B)::(l46++l40)) w1)
       refine J.pr (fun hF=>?_);refine J.updV (xh:=⟨key,⟨O.ver.n+1,who⟩,val,.slice a40 val.length c40,l40⟩) (l':=fun es' c'=>(q6,cb (cT key ⟨O.ver.n+1,who⟩ (.slice a40 val.length c40)) 28)::(b8,cb (cH zH) 28)::(b7,cb (cI who) 23)::(b5,cb (cI key) 23)::(vb,vaO (.pointer (some ⟨lb,0,none⟩)) mb ((inc:Nat):Int))::(mb,.map es' c')::(lb,lgO d q9 dn9)::(d,dkO s n σ9.p σ9.k)::(s,dkS σ9.B)::(l46++l40)) Ty.u97 Ty.KI Ty.keyI rfl rfl rfl hT (fun es' c'=>zu) (fun es2 ck2 hT2=>?_);refine J.nil ?_;refine JX.qd (hK14 _ _ ?_);refine JC.seq (fun K15 hK15=>?_);refine JC.region<|J.qC (vs:=cT key ⟨O.ver.n+1,who⟩ (.slice a40 val.length c40)) Ty.a28 Ty.s28 rfl rfl (fun w1 hw=>Cells.of_block (hw.own ((q6,cb (cT key ⟨O.ver.n+1,who⟩ (.slice a40 val.length c40)) 28)) zm) rfl) rfl ?_;refine J.perm ([]++((q6,cb (cT key ⟨O.ver.n+1,who⟩ (.slice a40 val.length c40)) 28)::(b8,cb (cH zH) 28)::(b7,cb (cI who) 23)::(b5,cb (cI key) 23)::(vb,vaO (.pointer (some ⟨lb,0,none⟩)) mb ((inc:Nat):Int))::(mb,.map es2 ck2)::(lb,lgO d q9 dn9)::(d,dkO s n σ9.p σ9.k)::(s,dkS σ9.B)::(l46++l40))) (.refl _) ?_;refine J.qO (α:=Value × List (Nat × Obj)) (V:=fun y=>.agg (cT key ⟨O.ver.n+1,who⟩ y.1).toArray) (Pr:=fun y=>Vec 5 1 y.1 (val).length ((val).map u8) y.2) (L:=(·.2)) (l1:=[]) Ty.bd47 rfl rfl (fun w1 hw=>yK (cT key ⟨O.ver.n+1,who⟩ (.slice a40 val.length c40)) key ⟨O.ver.n+1,who⟩ val _ w1 rfl (qW hv40 hw (fun q hq=>by simp [hq])) (by omega)) (fun y hv59=>?_)
       obtain ⟨v59,l59⟩:=y
       try simp only at hv59 ⊢
       obtain ⟨a59,c59,rfl,hc59⟩:=hv59.form
       refine J.perm ((b8,cb (cH zH) 28)::(l59++((q6,cb (cT key ⟨O.ver.n+1,who⟩ (.slice a40 val.length c40)) 28)::(b7,cb (cI who) 23)::(b5,cb (cI key) 23)::(vb,vaO (.pointer (some ⟨lb,0,none⟩)) mb ((inc:Nat):Int))::(mb,.map es2 ck2)::(lb,lgO d q9 dn9)::(d,dkO s n σ9.p σ9.k)::(s,dkS σ9.B)::(l46++l40)))) zp<|J.qN (cs:=cH zH) (vs:=cT key ⟨O.ver.n+1,who⟩ (.slice a59 val.length c59)) Ty.s28 rfl rfl rfl rfl rfl zF .here<|J.assign rfl rfl<|J.nil ?_;refine JX.qd (hK15 _ _ ?_);refine JC.qA ?_;refine JX.z7 (vs:=cT key ⟨O.ver.n+1,who⟩ (.slice a59 val.length c59)) rfl rfl rfl Ty.a28 Ty.s28 rfl (fun w1 hw=>Cells.of_block (hw.own ((b8,cb (cT key ⟨O.ver.n+1,who⟩ (.slice a59 val.length c59)) 28)) zm) rfl) (fun w1 hw=>?_)
       exact ⟨.ok ⟨key,⟨O.ver.n+1,who⟩,val,.slice a40 val.length c40,l40⟩ _ l59 es2 ck2 q9 dn9 σ9,rfl,⟨hg,⟨⟨by simp only;omega,by simp only;omega⟩,hv40⟩,hv59,hT2⟩,(hw.perm (zp:List.Perm _ (((b8,cb (cT key ⟨O.ver.n+1,who⟩ (.slice a59 val.length c59)) 28)::(q6,cb (cT key ⟨O.ver.n+1,who⟩ (.slice a40 val.length c40)) 28)::(b7,cb (cI who) 23)::(b5,cb (cI key) 23)::l46)++((vltB vb mb lb d s n q9 dn9 inc es2 ck2 σ9)++(l40++l59))))).drop (List.sublist_append_right _ _)⟩
end Go.Proofs.Ytoaenmlhehcjfaa
