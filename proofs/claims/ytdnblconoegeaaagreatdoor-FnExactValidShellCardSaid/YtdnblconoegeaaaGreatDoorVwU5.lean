import Derived.Test.YtdnblconoegeaaaGreatDoorVwU4
set_option linter.all false
namespace Go.VS
set_option maxRecDepth 8000
def shC (q:Bool) (p:Pr) (l:List Nn):List V:=prC q p++[.view q 3 (l.map nnV)]
set_option maxHeartbeats 1000000 in
theorem arl (q:Bool) (p:Pr) (h:p.sm) (l:List Nn) (s:NnSm l) (K:Out→Prop):Call prog 302 ⟨[.vp (shC q p l)],[],[]⟩ K=K (.b (storeB p && varsB l),[],[]):=by
  refine Zc (f:=302) rfl rfl (by decide) ?_
  have e0:=fun K=>ark q p h K
  have e1:=fun K=>apg q l s K
  have hn:=s.n
  simp only [prC,Tag_eq] at e0
  unfold varsB
  cases c0:storeB p with
  | false=>simp only [c0] at e0;simp -implicitDefEqProofs [shC,prC,e0]
  | true=>
  simp only [c0] at e0
  by_cases c1:l.length≤8
  case neg=>
    have d:(8:Int)<l.length:=by omega
    simp -implicitDefEqProofs [shC,prC,e0,c1,d]
  have d:¬ (8:Int)<l.length:=by omega
  cases c2:l.all nnOk with
  | false=>simp only [c2] at e1;simp -implicitDefEqProofs [shC,prC,e0,e1,c1,d]
  | true=>
  simp only [c2] at e1
  simp -implicitDefEqProofs [shC,prC,e0,e1,c1,d]
  refine WL_for (fun i=>⟨sp 52 [(0,.vp (shC q p l)),(3,.i .i64 ((i:Int)+1))],[],[]⟩) l.length (fun i=>incB l=incB (l.drop i)) _ (by simp -implicitDefEqProofs [shC,prC]) (by simp) ?_
  intro i hi hP
  by_cases hlt:i+1<l.length
  · have hltI:(i:Int)+1<(l.length:Int):=by omega
    have hiI:(i:Int)<(l.length:Int):=by omega
    have hi':i<l.length:=by omega
    have hp:(0:Int)≤(i:Int)+1:=by omega
    have hw:=wrap_i64 (n:=(i:Int)+1+1) (by omega) (by omega)
    have hw3:=wrap_i64 (n:=(i:Int)) (by omega) (by omega)
    have hle:=ajj l[i+1].name l[i].name
    rw [anl hlt] at hP
    cases c3:Op.bytesLess l[i].name l[i+1].name with
    | false=>
      rw [c3] at hP hle
      simp only [Bool.false_and,Bool.not_false] at hP hle
      simp -implicitDefEqProofs [nnV,shC,prC,hlt,hltI,hiI,hi',hp,hw,hw3,hP,hle,c3]
    | true=>
      rw [c3] at hP hle
      simp only [Bool.true_and,Bool.not_true] at hP hle
      simp -implicitDefEqProofs [nnV,shC,prC,hlt,hltI,hiI,hi',hp,hw,hw3,hle,c3,Next]
      exact hP
  · have hltI:¬ (i:Int)+1<(l.length:Int):=by omega
    rw [anm (by omega)] at hP
    simp -implicitDefEqProofs [shC,prC,hltI,hP,c1]
theorem ajh (q:Bool) (p:Pr) (h:p.sm) (l:List Nn) (s:NnSm l) (K:Out→Prop):Call prog 293 ⟨[.agg (shC q p l)],[],[]⟩ K=K (.b (storeB p && varsB l),[],[]):=by
  refine Zc (f:=293) rfl rfl (by decide) ?_
  have e0:=fun K=>arl q p h l s K
  simp only [shC,prC,Tag_eq,List.cons_append,List.nil_append] at e0
  simp -implicitDefEqProofs [shC,prC,e0]
theorem ajv (q:Bool) (p:Pr) (h:p.sm) (l:List Nn) (s:NnSm l) (K:Out→Prop):Call prog 294 ⟨[.agg (shC q p l)],[],[]⟩ K=K (.b (storeB p && varsB l),[],[]):=by
  refine Zc (f:=294) rfl rfl (by decide) ?_
  have e0:=fun K=>ajw q p h K
  have e1:=fun K=>apx q l s K
  simp only [prC,Tag_eq] at e0
  cases c0:storeB p with
  | false=>simp only [c0] at e0;simp -implicitDefEqProofs [shC,prC,e0]
  | true=>simp only [c0] at e0;simp -implicitDefEqProofs [shC,prC,e0,e1]
end Go.VS
