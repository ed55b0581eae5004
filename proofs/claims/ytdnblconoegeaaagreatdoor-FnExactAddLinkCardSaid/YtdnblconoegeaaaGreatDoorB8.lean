/-
  Hard links added: what both packages answer.
-/
import Derived.Test.YtdnblconoegeaaaGreatDoorB7
set_option linter.all false
section
namespace Go.VS
set_option maxRecDepth 8000
theorem Hd.refs_le {h:Hd} (e:h.ok=true):h.refs≤1000:=by
  simp only [Hd.ok,inI,Bool.and_eq_true,decide_eq_true_eq] at e
  omega
def tgtCode (p:Pr) (t:Int):Int:=match p.hdr t with
  | none=>10
  | some h=>if h.kind=1 then 7 else if h.refs=1000 then 5 else 0
def Pr.refP (p:Pr) (t:Int):Int × Pr:=match p.hdr t with
  | none=>(10,p)
  | some h=>if h.refs=1000 then (5,p) else p.wrH t ⟨h.kind,h.refs+1,h.msgs⟩
def Pr.hardP (p:Pr) (k:Int) (n:Bs) (t:Int):Int × Pr:=
  if freeCode p k n=0 then if tgtCode p t=0 then if (p.addL k ⟨n,t,[]⟩).1=0 then (p.addL k ⟨n,t,[]⟩).2.refP t else p.addL k ⟨n,t,[]⟩
  else (tgtCode p t,p) else (freeCode p k n,p)
theorem Pr.Ow.refP {p:Pr} (h:p.Ow) (t:Int):(p.refP t).2.Ow:=by
  unfold Pr.refP
  split
  · exact h
  · split
    · exact h
    · exact (h.wrH t _).1
theorem Pr.Ow.hardP {p:Pr} (h:p.Ow) (k:Int) (n:Bs) (t:Int):(p.hardP k n t).2.Ow:=by
  unfold Pr.hardP
  split
  · split
    · split
      · exact (h.addL k _).refP t
      · exact h.addL k _
    · exact h
  · exact h
theorem api (q:Bool) (p:Pr) (h:p.Ok) (t:Int) (K:Out→Prop):Call prog 237 ⟨[.vp (prC q p),.i .i64 t],[],[]⟩ K=K (.i .i64 (tgtCode p t),[],[]):=by
  refine Zc (f:=237) rfl rfl (by decide) ?_
  have e0:=fun K=>ad5 q p h t K
  unfold hdrOut at e0
  unfold tgtCode
  cases c0:p.hdr t with
  | none=>simp only [c0] at e0;simp -implicitDefEqProofs [e0]
  | some hd=>
    simp only [c0] at e0
    by_cases c1:hd.kind=1
    · simp -implicitDefEqProofs [e0,c1]
    · by_cases c2:hd.refs=1000
      · simp -implicitDefEqProofs [e0,c1,c2]
      · simp -implicitDefEqProofs [e0,c1,c2]
set_option maxHeartbeats 4000000 in
theorem ati (p:Pr) (h:p.Ow) (k:Int) (n:Bs) (t:Int) (hn:isName n=true) (K:Out→Prop):
    Call prog 208 ⟨[.ptr 0 0,.i .i64 k,.s n,.i .i64 t],[pmC 0 p],pmR p⟩ K=K (.i .i64 (p.hardP k n t).1,[pmC 0 (p.hardP k n t).2],pmR (p.hardP k n t).2):=by
  refine Zc (f:=208) rfl rfl (by decide) ?_
  have e1:=fun K=>ahv false p h.ok k n K
  have e2:=fun K=>aj2 p h k ⟨n,t,[]⟩ ⟨hn,by simp⟩ K
  have e3:=fun K=>aex false p h.ok t K
  have ho:=h.addL k ⟨n,t,[]⟩
  unfold hdrOut at e3
  simp only [prC,lkV,pmC,pmR,Tag_eq] at e1 e2 e3
  unfold Pr.hardP
  by_cases c:freeCode p k n=0
  · rw [if_pos c]
    unfold tgtCode
    cases c0:p.hdr t with
    | none=>simp only [c0] at e3;simp -implicitDefEqProofs [pmC,pmR,e1,e3,c]
    | some hd=>
      simp only [c0] at e3
      have hr:=Hd.refs_le (Pr.hdr_ok c0)
      by_cases c1:hd.kind=1
      · simp -implicitDefEqProofs [pmC,pmR,e1,e3,c,c1]
      · by_cases c2:hd.refs=1000
        · have d2:(1000:Int)≤hd.refs:=by omega
          simp -implicitDefEqProofs [pmC,pmR,e1,e3,c,c1,c2,d2]
        · have d2:¬ (1000:Int)≤hd.refs:=by omega
          simp only
          rw [if_neg c1,if_neg c2,if_pos rfl]
          generalize p.addL k ⟨n,t,[]⟩=R at *
          obtain ⟨c',x⟩:=R
          simp only at e2 ho ⊢
          by_cases c3:c'=0
          · subst c3
            rw [if_pos rfl]
            have e4:=fun K=>aex false x ho.ok t K
            unfold hdrOut at e4
            simp only [prC,Tag_eq] at e4
            unfold Pr.refP
            cases c4:x.hdr t with
            | none=>simp only [c4] at e4;simp -implicitDefEqProofs [pmC,pmR,e1,e2,e3,e4,c,c1,c2,d2]
            | some h2=>
              simp only [c4] at e4
              have hr2:=Hd.refs_le (Pr.hdr_ok c4)
              by_cases c5:h2.refs=1000
              · have d5:(1000:Int)≤h2.refs:=by omega
                simp -implicitDefEqProofs [pmC,pmR,e1,e2,e3,e4,c,c1,c2,d2,c5,d5]
              · have d5:¬ (1000:Int)≤h2.refs:=by omega
                have hw:=wrap_i64 (n:=h2.refs+1) (by have:=(Pr.hdr_ok c4);simp only [Hd.ok,inI,Bool.and_eq_true,decide_eq_true_eq] at this;omega) (by omega)
                have sm:(⟨h2.kind,h2.refs+1,h2.msgs⟩:Hd).Sm:=⟨(Hd.ok_sm (Pr.hdr_ok c4)).n,(Hd.ok_sm (Pr.hdr_ok c4)).d⟩
                have e5:=fun K=>alf x ho t false ⟨h2.kind,h2.refs+1,h2.msgs⟩ sm K
                simp only
                rw [if_neg c5]
                simp only [hdC,pmC,pmR,Tag_eq] at e5
                generalize x.wrH t ⟨h2.kind,h2.refs+1,h2.msgs⟩=T at *
                simp -implicitDefEqProofs [pmC,pmR,e1,e2,e3,e4,e5,c,c1,c2,d2,c5,d5,hw]
          · rw [if_neg c3]
            simp -implicitDefEqProofs [pmC,pmR,e1,e2,e3,c,c1,c2,d2,c3]
  · rw [if_neg c]
    simp -implicitDefEqProofs [pmC,pmR,e1,c]
set_option maxHeartbeats 4000000 in
theorem ari (p:Pr) (h:p.Ow) (k:Int) (n:Bs) (t:Int) (hn:isName n=true) (K:Out→Prop):
    Call prog 236 ⟨[.ptr 0 0,.i .i64 k,.s n,.i .i64 t],[pmC 0 p],pmR p⟩ K=K (.i .i64 (p.hardP k n t).1,[pmC 0 (p.hardP k n t).2],pmR (p.hardP k n t).2):=by
  refine Zc (f:=236) rfl rfl (by decide) ?_
  have e1:=fun K=>ade false p h.ok k n K
  have e2:=fun K=>ag3 p h k ⟨n,t,[]⟩ ⟨hn,by simp⟩ K
  have e3:=fun K=>api false p h.ok t K
  have ho:=h.addL k ⟨n,t,[]⟩
  simp only [prC,lkV,pmC,pmR,Tag_eq] at e1 e2 e3
  unfold Pr.hardP
  by_cases c:freeCode p k n=0
  · rw [if_pos c]
    by_cases c1:tgtCode p t=0
    · rw [if_pos c1]
      generalize p.addL k ⟨n,t,[]⟩=R at *
      obtain ⟨c',x⟩:=R
      simp only at e2 ho ⊢
      by_cases c3:c'=0
      · subst c3
        rw [if_pos rfl]
        have e4:=fun K=>ad5 false x ho.ok t K
        unfold hdrOut at e4
        simp only [prC,Tag_eq] at e4
        unfold Pr.refP
        cases c4:x.hdr t with
        | none=>simp only [c4] at e4;simp -implicitDefEqProofs [pmC,pmR,e1,e2,e3,e4,c,c1]
        | some h2=>
          simp only [c4] at e4
          have hr2:=Hd.refs_le (Pr.hdr_ok c4)
          by_cases c5:h2.refs=1000
          · simp -implicitDefEqProofs [pmC,pmR,e1,e2,e3,e4,c,c1,c5]
          · have hw:=wrap_i64 (n:=h2.refs+1) (by have:=(Pr.hdr_ok c4);simp only [Hd.ok,inI,Bool.and_eq_true,decide_eq_true_eq] at this;omega) (by omega)
            have sm:(⟨h2.kind,h2.refs+1,h2.msgs⟩:Hd).Sm:=⟨(Hd.ok_sm (Pr.hdr_ok c4)).n,(Hd.ok_sm (Pr.hdr_ok c4)).d⟩
            have e5:=fun K=>agx x ho t false ⟨h2.kind,h2.refs+1,h2.msgs⟩ sm K
            simp only
            rw [if_neg c5]
            simp only [hdC,pmC,pmR,Tag_eq] at e5
            generalize x.wrH t ⟨h2.kind,h2.refs+1,h2.msgs⟩=T at *
            simp -implicitDefEqProofs [pmC,pmR,e1,e2,e3,e4,e5,c,c1,c5,hw]
      · rw [if_neg c3]
        simp -implicitDefEqProofs [pmC,pmR,e1,e2,e3,c,c1,c3]
    · rw [if_neg c1]
      simp -implicitDefEqProofs [pmC,pmR,e1,e3,c,c1]
  · rw [if_neg c]
    simp -implicitDefEqProofs [pmC,pmR,e1,c]
end Go.VS
end
section
namespace Go.VS
set_option maxRecDepth 8000
def hardOut (p:Pr) (k:Int) (n:Bs) (t:Int):Int × Pr:=if p.ok=true∧isName n=true then p.hardP k n t else (1,p)
theorem asb (q:Bool) (p:Pr) (h:p.sm) (k:Int) (n:Bs) (t:Int) (hn:n.length≤1048576) (K:Out→Prop):
    Call prog 192 ⟨[.agg (prC q p),.i .i64 k,.s n,.i .i64 t],[],[]⟩ K=K (prO (hardOut p k n t)):=by
  refine Zc (f:=192) rfl rfl (by decide) ?_
  have e1:=fun K=>amd q p h K
  have e2:=fun K=>abn n (by unfold lim;omega) K
  have e4:=fun K=>aj0 q p h K
  unfold hardOut
  cases c1:p.ok with
  | false=>
    rw [c1] at e1
    simp only [prC,Tag_eq] at e1
    simp -implicitDefEqProofs [prC,prO,prZ,e1]
  | true=>
    have ho:=Pr.Ow.of c1
    rw [c1] at e1
    cases c2:isName n with
    | false=>
      rw [c2] at e2
      simp only [prC,Tag_eq] at e1
      simp -implicitDefEqProofs [prC,prO,prZ,e1,e2]
    | true=>
      rw [c2] at e2
      have e5:=fun K=>ati p ho k n t c2 K
      simp only [true_and,if_true]
      unfold prO
      generalize p.hardP k n t=R at *
      obtain ⟨c,x⟩:=R
      simp only at e5 ⊢
      by_cases c4:c=0
      · simp only [c4,if_true,prC,pmC,pmR,Nat.zero_add,Tag_eq] at e1 e4 e5 ⊢
        simp -implicitDefEqProofs [prC,pmC,pmR,e1,e2,e4,e5]
      · simp only [c4,if_false,prC,pmC,pmR,prZ,Nat.zero_add,Tag_eq] at e1 e4 e5 ⊢
        simp -implicitDefEqProofs [prC,pmC,pmR,prZ,e1,e2,e4,e5,c4]
theorem aqs (p:Pr) (h:p.Ow) (k:Int) (n:Bs) (t:Int) (hn:isName n=true) (K:Out→Prop):
    Call prog 209 ⟨[.ptr 0 0,.vp [.i .i64 k],.vp [.s n],.vp [.i .i64 t]],[pmC 0 p],pmR p⟩ K=K (.i .i64 (p.hardP k n t).1,[pmC 0 (p.hardP k n t).2],pmR (p.hardP k n t).2):=by
  refine Zc (f:=209) rfl rfl (by decide) ?_
  have e1:=fun K=>ari p h k n t hn K
  simp only [pmC,pmR,Nat.zero_add,Tag_eq] at e1
  simp -implicitDefEqProofs [pmC,pmR,e1]
theorem asi (q:Bool) (p:Pr) (h:p.sm) (k:Int) (n:Bs) (t:Int) (hn:n.length≤1048576) (K:Out→Prop):
    Call prog 193 ⟨[.agg (prC q p),.i .i64 k,.s n,.i .i64 t],[],[]⟩ K=K (prO (hardOut p k n t)):=by
  refine Zc (f:=193) rfl rfl (by decide) ?_
  have e1:=fun K=>adn q p h K
  have e2:=fun K=>acr n (by unfold lim;omega) K
  unfold hardOut
  cases c1:p.ok with
  | false=>
    rw [c1] at e1
    simp only [prC,Tag_eq] at e1
    simp -implicitDefEqProofs [prC,prO,prZ,e1]
  | true=>
    have ho:=Pr.Ow.of c1
    rw [c1] at e1
    cases c2:isName n with
    | false=>
      rw [c2] at e2
      simp only [prC,Tag_eq] at e1
      simp -implicitDefEqProofs [prC,prO,prZ,e1,e2]
    | true=>
      rw [c2] at e2
      have e5:=fun K=>amk q p h 209 (by decide) [.vp [.i .i64 k],.vp [.s n],.vp [.i .i64 t]] (p.hardP k n t) (by simp) (fun K=>aqs p ho k n t c2 K) K
      simp only [true_and,if_true]
      unfold prO at e5 ⊢
      generalize p.hardP k n t=R at *
      obtain ⟨c,x⟩:=R
      simp only at e5 ⊢
      by_cases c4:c=0
      · simp only [c4,if_true,prC,pmC,pmR,Nat.zero_add,Tag_eq] at e1 e5 ⊢
        simp -implicitDefEqProofs [prC,pmC,pmR,e1,e2,e5]
      · simp only [c4,if_false,prC,prZ,Tag_eq] at e1 e5 ⊢
        simp -implicitDefEqProofs [prC,prZ,e1,e2,e5]
end Go.VS
end
