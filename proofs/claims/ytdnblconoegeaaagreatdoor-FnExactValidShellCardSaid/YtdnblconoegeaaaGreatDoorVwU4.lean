import Derived.Test.YtdnblconoegeaaaGreatDoorVwU3
set_option linter.all false
namespace Go.VS
set_option maxRecDepth 8000
def rootB (p:Pr):Bool:=match p.grp p.root with | .ok _=>true | .error _=>false
def storeB (p:Pr):Bool:=p.ok && (decide (p.dirty=[]) && rootB p)
theorem anh {p:Pr} {k c:Int} (e:p.grp k=.error c):¬ c=0:=by have:=at5 e;omega
theorem aoj (q:Bool) (p:Pr) (h:p.Ok) (K:Out→Prop):Call prog 318 ⟨[.vp (prC q p)],[],[]⟩ K=K (.b (decide (p.dirty=[]) && rootB p),[],[]):=by
  refine Zc (f:=318) rfl rfl (by decide) ?_
  have e0:=fun K=>atg q p h K
  have e1:=fun K=>are q p h p.root K
  unfold grpOut at e1
  unfold rootB
  cases c1:p.grp p.root with
  | error c=>
    simp only [c1] at e1
    have hc:=anh c1
    simp -implicitDefEqProofs [e0,e1,hc]
  | ok g=>
    simp only [c1] at e1
    cases c2:p.dirty with
    | nil=>
      simp only [prC,Tag_eq,c2,List.map_nil] at e0 e1
      simp -implicitDefEqProofs [e0,e1,prC,c2]
    | cons x l=>
      simp only [prC,Tag_eq,c2,List.map_cons] at e0 e1
      have d:¬ ((l.length:Int)+1=0):=by omega
      simp -implicitDefEqProofs [e0,e1,prC,c2,d]
theorem ajw (q:Bool) (p:Pr) (h:p.sm) (K:Out→Prop):Call prog 305 ⟨[.agg (prC q p)],[],[]⟩ K=K (.b (storeB p),[],[]):=by
  refine Zc (f:=305) rfl rfl (by decide) ?_
  have e0:=fun K=>aju q p h K
  unfold storeB
  cases c0:p.ok with
  | false=>simp only [c0] at e0;simp -implicitDefEqProofs [e0]
  | true=>
    simp only [c0] at e0
    have e1:=fun K=>aoj q p (Pr.ok_facts c0) K
    simp -implicitDefEqProofs [e0,e1]
theorem ark (q:Bool) (p:Pr) (h:p.sm) (K:Out→Prop):Call prog 315 ⟨[.vp (prC q p)],[],[]⟩ K=K (.b (storeB p),[],[]):=by
  refine Zc (f:=315) rfl rfl (by decide) ?_
  have e0:=fun K=>arg q p h K
  unfold storeB
  cases c0:p.ok with
  | false=>simp only [c0] at e0;simp -implicitDefEqProofs [e0]
  | true=>
    simp only [c0] at e0
    cases c2:p.dirty with
    | cons x l=>
      have d:(0:Int)<(l.length:Int)+1:=by omega
      simp only [prC,Tag_eq,c2,List.map_cons] at e0
      simp -implicitDefEqProofs [e0,prC,c2,d]
    | nil=>
      have e2:=fun K=>anu q p (Pr.ok_facts c0) K
      have e1:=fun K=>anx q p (Pr.ok_facts c0) p.root K
      unfold sgrpOut at e1
      unfold rootB
      cases c1:p.grp p.root with
      | error c=>
        simp only [c1] at e1
        have hc:=anh c1
        simp only [prC,Tag_eq,c2,List.map_nil] at e0 e1 e2
        simp -implicitDefEqProofs [prC,e0,e1,e2,hc,c2]
      | ok g=>
        simp only [c1,prC,Tag_eq,c2,List.map_nil] at e0 e1 e2
        simp -implicitDefEqProofs [prC,e0,e1,e2,c2]
end Go.VS
