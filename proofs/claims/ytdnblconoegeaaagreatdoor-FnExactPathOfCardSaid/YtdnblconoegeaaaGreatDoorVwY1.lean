import Derived.Test.YtdnblconoegeaaaGreatDoorVtM
import Derived.Test.YtdnblconoegeaaaGreatDoorB6
set_option linter.all false
namespace Go.VS
def isSoft (x:Lk):Bool:=!decide (x.target=[])
def hlF (l:List Lk):List Lk:=l.filter fun x=>decide (x.target=[])
def zLk:V:=.agg [.s [],.i .i64 0,.s []]
def hlRow (l:List Lk):List V:=(hlF l).map lkV++List.replicate (l.length - (hlF l).length) zLk
theorem ar7 (l:List Lk):(hlF l).length≤l.length:=List.length_filter_le ..
theorem aqb (l:List Lk) (x:Lk):hlF (l++[x])=if x.target=[] then hlF l++[x] else hlF l:=by
  unfold hlF
  rw [List.filter_append]
  by_cases h:x.target=[] <;> simp [h]
theorem aqa (x:Lk) (K:Out→Prop):Call prog 323 ⟨[lkV x],[],[]⟩ K=K (.b (isSoft x),[],[]):=by
  refine Zc (f:=323) rfl rfl (by decide) ?_
  simp -implicitDefEqProofs [lkV,isSoft]
theorem idx_hl (q:Bool) (l:List Lk) (hl:l.length≤lim) (K:Out→Prop):
    Call prog 122 ⟨[.view q 3 (l.map lkV),.fn 323 []],[],[]⟩ K=K (.i .i64 (idxF isSoft l 0),[],[]):=by
  exact alw (p:=prog) (f:=122) (z:=3) (ag:=true) rfl lkV isSoft 323 [] q l hl (by simp) (by intro x;rfl) (by intro s x;rfl) (fun x _ K=>aqa x K) K
theorem aqd (l:List Lk):∀ (i:Nat),(idxF isSoft (l.drop i) i=-1∧∀ x,x ∈ l.drop i→isSoft x=false) ∨
    ∃ j,i≤j∧∃ h:j<l.length,idxF isSoft (l.drop i) i=j∧isSoft l[j]=true∧∀ k (_:k<l.length),i≤k→k<j→isSoft l[k]=false:=by
  intro i
  by_cases hlt:i<l.length
  · rw [List.drop_eq_getElem_cons hlt,idxF]
    by_cases hs:isSoft l[i]=true
    · exact .inr ⟨i,Nat.le_refl _,hlt,by rw [if_pos hs],hs,fun k _ h1 h2=>by omega⟩
    · rw [if_neg hs]
      have hs':isSoft l[i]=false:=by simpa using hs
      rcases aqd l (i+1) with ⟨h1,h2⟩ | ⟨j,h1,h2,h3,h4,h5⟩
      · refine .inl ⟨h1,fun x hx=>?_⟩
        rcases List.mem_cons.1 hx with rfl | hx
        · exact hs'
        · exact h2 x hx
      · refine .inr ⟨j,by omega,h2,h3,h4,fun k hk hik hkj=>?_⟩
        by_cases e:k=i
        · subst e;exact hs'
        · exact h5 k hk (by omega) hkj
  · rw [List.drop_eq_nil_of_le (by omega)]
    exact .inl ⟨rfl,fun x hx=>by simp at hx⟩
termination_by i=>l.length - i
theorem avm {x:Lk}:(isSoft x=false) ↔ x.target=[]:=by unfold isSoft;simp
theorem ar6 {l:List Lk} (h:∀ x,x ∈ l→isSoft x=false):hlF l=l:=by
  unfold hlF
  rw [List.filter_eq_self]
  intro x hx
  simpa using avm.1 (h x hx)
set_option maxHeartbeats 1000000 in
theorem alb (l:List Lk) (hl:l.length≤12) (K:Out→Prop):Call prog 322 ⟨[.sl 0 0 l.length false,.fn 323 []],[],[.row 3 false (l.map lkV)]⟩ K=
    K (.sl 0 0 (hlF l).length false,[],[.row 3 false (hlRow l)]):=by
  refine Zc (f:=322) rfl rfl (by decide) ?_
  have e0:=fun K=>idx_hl false l (by unfold lim;omega) K
  have e1:=fun x K=>aqa x K
  rcases aqd l 0 with ⟨h1,h2⟩ | ⟨j0,_,hj,h3,h4,h5⟩
  · rw [List.drop_zero] at h1 h2
    rw [h1] at e0
    have ha:hlF l=l:=ar6 h2
    simp -implicitDefEqProofs [e0,hlRow,ha]
  · rw [List.drop_zero] at h3
    rw [h3] at e0
    have hw0:=wrap_i64 (n:=(j0:Int)+1) (by omega) (by omega)
    have hne:¬ (j0:Int)=-1:=by omega
    have hmn:min j0 l.length=j0:=by omega
    have hpre:hlF (l.take j0)=l.take j0:=ar6 (fun x hx=>by
      obtain ⟨k,hk,rfl⟩:=List.getElem_of_mem hx
      rw [List.length_take] at hk
      rw [List.getElem_take]
      exact h5 k (by omega) (Nat.zero_le _) (by omega))
    have hpre2:hlF (l.take (j0+1))=l.take j0:=by
      rw [← List.take_append_getElem hj,aqb,if_neg (fun e=>by rw [avm.2 e] at h4;cases h4),hpre]
    simp -implicitDefEqProofs [e0,hne,hw0]
    refine WL_st (fun a:Nat × List Lk=>⟨sp 42 [(0,.sl 0 0 l.length false),(1,.fn 323 []),(5,.i .i64 (hlF (l.take a.1)).length),(6,.i .i64 a.1)],[],[.row 3 false (a.2.map lkV)]⟩)
      (fun a=>l.length - a.1) (fun a=>a.2.length=l.length∧(hlF (l.take a.1)).length<a.1∧a.1≤l.length∧a.2.take (hlF (l.take a.1)).length=hlF (l.take a.1)∧a.2.drop a.1=l.drop a.1) (j0+1,l) _
      (by simp -implicitDefEqProofs [hpre2,hw0,hmn]) ⟨rfl,by simp only [hpre2,List.length_take];omega,by simp only;omega,by simp only [hpre2,List.length_take];rw [show min j0 l.length=j0 by omega],rfl⟩ ?_
    simp only [lkV] at e1
    have hln:=ar7 l
    rintro ⟨j,R⟩ ⟨p1,p2,p3,p4,p5⟩
    simp only at p1 p2 p3 p4 p5
    by_cases hlt:j<l.length
    · have hw:=wrap_i64 (n:=(j:Int)+1) (by omega) (by omega)
      have hw2:=wrap_i64 (n:=((hlF (l.take j)).length:Int)+1) (by omega) (by omega)
      have hRj:R[j]=l[j]:=by
        have:=congrArg (fun x=>x[0]?) p5
        simp only [List.getElem?_drop,Nat.add_zero] at this
        rw [List.getElem?_eq_getElem (by omega),List.getElem?_eq_getElem hlt] at this
        exact Option.some.inj this
      have hsn:=aqb (l.take j) l[j]
      rw [List.take_append_getElem hlt] at hsn
      by_cases d:l[j].target=[]
      · rw [if_pos d] at hsn
        have d':=avm.2 d
        have hlt2:(hlF (l.take j)).length<l.length:=by omega
        simp -implicitDefEqProofs [hlt,hw,hw2,e1,p1,hRj,d',lkV,hlt2]
        refine NextS.mk (j+1,R.set (hlF (l.take j)).length l[j]) ⟨by simp only [List.length_set];exact p1,?_,?_,?_,?_⟩ (by simp only;omega) ?_
        · simp only;rw [hsn,List.length_append];simp only [List.length_singleton];omega
        · simp only;omega
        · simp only
          rw [hsn,List.length_append,List.length_singleton]
          rw [List.take_add_one,List.take_set_of_le (Nat.le_refl _),p4,List.getElem?_set]
          rw [if_pos rfl,if_pos (by omega)]
          rfl
        · simp only
          rw [List.drop_set_of_lt (by omega)]
          have:=congrArg (List.drop 1) p5
          rwa [List.drop_drop,List.drop_drop] at this
        · simp only [hsn,List.length_append,List.length_singleton,List.map_set,lkV]
          push_cast
          rfl
      · rw [if_neg d] at hsn
        have d':isSoft l[j]=true:=by simpa [isSoft] using d
        simp -implicitDefEqProofs [hlt,hw,e1,p1,hRj,d',lkV]
        refine NextS.mk (j+1,R) ⟨p1,?_,?_,?_,?_⟩ (by simp only;omega) (by simp [hsn])
        · simp only;rw [hsn];omega
        · simp only;omega
        · simp only;rw [hsn];exact p4
        · simp only
          have:=congrArg (List.drop 1) p5
          rwa [List.drop_drop,List.drop_drop] at this
    · have hj2:j=l.length:=by omega
      subst hj2
      simp -implicitDefEqProofs [p1,hln]
      rw [List.take_length] at p4
      rw [← List.map_take,p4,List.drop_of_length_le (by simp [p1]),List.append_nil]
      rfl
def hlOut (p:Pr) (k:Int):Out:=match p.grp k with
  | .error _=>(.nil,[],[])
  | .ok g=>(.sl 0 0 (hlF g.links).length false,[],[.row 3 false (hlRow g.links)])
theorem akm (q:Bool) (p:Pr) (h:p.Ok) (k:Int) (K:Out→Prop):Call prog 310 ⟨[.vp (prC q p),.i .i64 k],[],[]⟩ K=K (hlOut p k):=by
  refine Zc (f:=310) rfl rfl (by decide) ?_
  have e0:=fun K=>ahy q p h k K
  unfold grpOut at e0
  unfold hlOut
  cases c0:p.grp k with
  | error c=>
    simp only [c0] at e0
    have hc:¬ c=0:=by have:=afd c0;omega
    simp -implicitDefEqProofs [e0,hc]
  | ok g=>
    simp only [c0] at e0
    have e1:=fun K=>alb g.links (abh (abt c0)).1 K
    simp -implicitDefEqProofs [e0,e1]
def joinP (a b:Bs):Bs:=if a=[47] then 47 :: b else a++(47 :: b)
theorem akg (a b:Bs) (ha:a.length+b.length+1≤lim) (K:Out→Prop):Call prog 311 ⟨[.s a,.s b],[],[]⟩ K=K (.s (joinP a b),[],[]):=by
  refine Zc (f:=311) rfl rfl (by decide) ?_
  unfold joinP
  by_cases c:a=[47]
  · have h1:1+List.length b≤lim:=by omega
    subst c
    simp -implicitDefEqProofs [h1]
  · have h1:a.length+1≤lim:=by omega
    have h2:a.length+1+b.length≤lim:=by omega
    simp -implicitDefEqProofs [c,h1,h2]
theorem anh (a b:Bs) (ha:a.length+b.length+1≤lim) (K:Out→Prop):Call prog 321 ⟨[.s a,.s b],[],[]⟩ K=K (.s (joinP a b),[],[]):=by
  refine Zc (f:=321) rfl rfl (by decide) ?_
  unfold joinP
  by_cases c:a=[47]
  · have h1:1+List.length b≤lim:=by omega
    subst c
    simp -implicitDefEqProofs [h1]
  · have h1:a.length+1≤lim:=by omega
    have h2:a.length+1+b.length≤lim:=by omega
    simp -implicitDefEqProofs [c,h1,h2]
end Go.VS
