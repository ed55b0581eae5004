import Derived.Test.YtdnblconoegeaaaGreatDoorVwY2
set_option linter.all false
namespace Go.VS
set_option maxRecDepth 4000
def skL (f:List Int→Int→Bs→Option Bs × List Int) (s:Bs):List Lk→List Int→Option Bs × List Int
  | [],l=>(none,l)
  | x :: xs,l=>if x.target=[]∧x.block ∉ l then match f l x.block (joinP s x.name) with
      | (some q,l')=>(some q,l')
      | (none,l')=>skL f s xs l'
    else skL f s xs l
def lks (p:Pr) (k:Int):List Lk:=match p.grp k with
  | .error _=>[]
  | .ok g=>g.links
def skF (p:Pr) (a:Int):Nat→List Int→Int→Bs→Option Bs × List Int
  | 0,l,_,_=>(none,l)
  | n+1,l,k,s=>if k=a then (some s,l++[k]) else skL (skF p a n) s (lks p k) (l++[k])
theorem lks_in {p:Pr} {k:Int}:(lks p k).length≤12∧∀ x,x ∈ lks p k→x.name.length≤12∧(x.target=[]→dIn x.block=0):=by
  unfold lks
  cases c:p.grp k with
  | error e=>exact ⟨Nat.zero_le _,fun x hx=>by cases hx⟩
  | ok g=>
    have f:=abh (abt c)
    refine ⟨f.1,fun x hx=>⟨?_,fun ht=>?_⟩⟩
    · have h2:=f.2 x hx
      unfold Lk.ok isName at h2
      simp only [Bool.and_eq_true,decide_eq_true_eq] at h2
      omega
    · unfold dIn
      rw [if_pos (alu (abt c) (List.mem_map_of_mem (List.mem_filter.2 ⟨hx,by simpa using ht⟩)))]
theorem skL_ok {f:List Int→Int→Bs→Option Bs × List Int} (hf:∀ l k s,k ∉ l→(∀ x,x ∈ l→x ∈ (f l k s).2)∧(f l k s).2.length+un (f l k s).2≤l.length+un l+dIn k):
    ∀ (xs:List Lk) (s:Bs) (l:List Int),(∀ x,x ∈ xs→x.target=[]→dIn x.block=0)→(∀ x,x ∈ l→x ∈ (skL f s xs l).2)∧(skL f s xs l).2.length+un (skL f s xs l).2≤l.length+un l
  | [],s,l,_=>⟨fun _ h=>h,Nat.le_refl _⟩
  | x :: xs,s,l,hd=>by
    unfold skL
    split
    · rename_i hc
      have h1:=hf l x.block (joinP s x.name) hc.2
      rw [hd x (by simp) hc.1] at h1
      split
      · rename_i q l' e
        rw [e] at h1;exact h1
      · rename_i l' e
        rw [e] at h1
        have h2:=skL_ok hf xs s l' (fun y hy=>hd y (List.mem_cons_of_mem _ hy))
        exact ⟨fun y hy=>h2.1 y (h1.1 y hy),by have:=h1.2;simp only at this;omega⟩
    · exact skL_ok hf xs s l (fun y hy=>hd y (List.mem_cons_of_mem _ hy))
theorem skF_ok {p:Pr} {a:Int}:∀ (n:Nat) (l:List Int) (k:Int) (s:Bs),k ∉ l→(∀ x,x ∈ l→x ∈ (skF p a n l k s).2)∧(skF p a n l k s).2.length+un (skF p a n l k s).2≤l.length+un l+dIn k
  | 0,l,k,s,_=>⟨fun _ h=>h,by unfold skF;simp only;omega⟩
  | n+1,l,k,s,hk=>by
    have am:=app_mu hk
    unfold skF
    split
    · exact ⟨fun x hx=>List.mem_append_left _ hx,by simp only;omega⟩
    · have:=skL_ok (fun l k s hk=>skF_ok (p:=p) (a:=a) n l k s hk) (lks p k) s (l++[k]) (fun x hx=>(lks_in.2 x hx).2)
      have h2:=this.2
      exact ⟨fun x hx=>this.1 x (List.mem_append_left _ hx),by omega⟩
def skOut (r:Option Bs × List Int):Out:=(.tup [.s (r.1.getD []),.b r.1.isSome],[[.sl 0 0 r.2.length false]],[rowI r.2])
set_option maxHeartbeats 4000000 in
theorem aip (q:Bool) (p:Pr) (h:p.Ok) (a:Int):∀ (n:Nat) (l:List Int) (k:Int) (s:Bs),k ∉ l→un l+dIn k<n→l.length+un l+dIn k≤256→s.length+14*n≤100000→∀ K:Out→Prop,
    Call prog 309 ⟨[.vp (prC q p),.i .i64 a,.i .i64 k,.s s,.ptr 0 0],[[.sl 0 0 l.length false]],[rowI l]⟩ K=K (skOut (skF p a n l k s))
  | 0,l,k,s,h0,h1,h2,h3,K=>by omega
  | n+1,l,k,s,h0,h1,h2,h3,K=>by
    refine Zc (f:=309) rfl rfl (by decide) ?_
    have e0:=fun K=>ain q p h k K
    have c2:l.length+1≤lim:=by unfold lim;omega
    have am:=app_mu h0
    unfold skF
    by_cases c0:k=a
    · rw [if_pos c0]
      subst c0
      simp -implicitDefEqProofs [c2,rowI,skOut]
    · rw [if_neg c0]
      unfold sgrpOut at e0
      have ih:=fun l k s h0 h1 h2 h3 K=>aip q p h a n l k s h0 h1 h2 h3 K
      simp only [rowI,skOut] at ih
      cases c1:p.grp k with
      | error c=>
        simp only [c1] at e0
        have hh:lks p k=[]:=by unfold lks;rw [c1]
        have hc:¬ c=0:=by have:=afd c1;omega
        rw [hh]
        simp -implicitDefEqProofs [c2,c0,e0,rowI,skOut,skL]
        refine WL_for (fun i=>⟨sp 78 [(0,.vp (prC q p)),(1,.i .i64 a),(3,.s s),(4,.ptr 0 0),(12,.ptr 1 0),(13,.i .i64 c),(14,.i .i64 i)],[[.sl 0 0 (l.length+1) false],[.i .i64 0,.i .i64 0,.nil,.nil,.nil]],
          [.row 1 false (l.map (V.i .i64)++[.i .i64 k])]⟩) 0 (fun _=>True) _ (by simp -implicitDefEqProofs) trivial ?_
        intro i hi _
        have:i=0:=by omega
        subst this
        simp -implicitDefEqProofs [skOut,skL,rowI]
      | ok g=>
        simp only [c1] at e0
        have hh:lks p k=g.links:=by unfold lks;rw [c1]
        have hin:=lks_in (p:=p) (k:=k)
        rw [hh] at hin ⊢
        simp -implicitDefEqProofs [c2,c0,e0,rowI,skOut]
        refine WL_st (fun b:Nat × List Int=>⟨sp 78 [(0,.vp (prC q p)),(1,.i .i64 a),(3,.s s),(4,.ptr 0 0),(12,.ptr 1 0),(13,.i .i64 0),(14,.i .i64 b.1)],
          [[.sl 0 0 b.2.length false],[.i .i64 g.hd.kind,.i .i64 g.hd.refs,.sl 1 0 g.hd.msgs.length false,.sl 2 0 g.heap.length false,.sl 3 0 g.links.length false]],
          [.row 1 false (b.2.map (V.i .i64)),.row 3 false (g.hd.msgs.map msV),.row 1 false (g.heap.map .s),.row 3 false (g.links.map lkV)]⟩) (fun b=>g.links.length - b.1)
          (fun b=>skL (skF p a n) s g.links (l++[k])=skL (skF p a n) s (g.links.drop b.1) b.2∧b.1≤g.links.length∧un b.2<n∧b.2.length+un b.2≤256) (0,l++[k]) _
          (by simp -implicitDefEqProofs) ⟨by simp,Nat.zero_le _,by simp only;omega,by simp only;omega⟩ ?_
        rintro ⟨i,l2⟩ ⟨p1,p2,p3,p4⟩
        simp only at p1 p2 p3 p4
        by_cases hlt:i<g.links.length
        · have hxm:=hin.2 g.links[i] (List.getElem_mem _)
          have hl12:=hin.1
          have hw:=wrap_i64 (n:=(i:Int)+1) (by omega) (by omega)
          have e2:=fun K=>ad0 false l2 g.links[i].block (by unfold lim;omega) K
          rw [List.drop_eq_getElem_cons hlt,skL] at p1
          by_cases d1:g.links[i].target=[]
          · by_cases d2:g.links[i].block ∈ l2
            · rw [if_neg (fun e=>e.2 d2)] at p1
              simp -implicitDefEqProofs [hlt,hw,lkV,d1,d2,e2]
              exact NextS.mk (i+1,l2) ⟨p1,by simp only;omega,p3,p4⟩ (by simp only;omega) (by simp)
            · rw [if_pos ⟨d1,d2⟩] at p1
              have d3:=hxm.2 d1
              have e3:=fun K=>anh s g.links[i].name (by unfold lim;omega) K
              have hj:(joinP s g.links[i].name).length≤s.length+13:=by
                unfold joinP;split <;> simp only [List.length_cons,List.length_append] <;> omega
              have e4:=fun K=>ih l2 g.links[i].block (joinP s g.links[i].name) d2 (by omega) (by omega) (by omega) K
              have ok:=skF_ok (p:=p) (a:=a) n l2 g.links[i].block (joinP s g.links[i].name) d2
              rcases hr:skF p a n l2 g.links[i].block (joinP s g.links[i].name) with ⟨o,l3⟩
              rw [hr] at p1 e4 ok
              cases o with
              | some t=>
                simp only at p1 e4
                rw [p1]
                simp -implicitDefEqProofs [hlt,hw,lkV,d1,d2,e2,e3,e4,skOut,rowI]
              | none=>
                simp only at p1 e4 ok
                have um:=ah4 ok.1
                simp -implicitDefEqProofs [hlt,hw,lkV,d1,d2,e2,e3,e4]
                exact NextS.mk (i+1,l3) ⟨p1,by simp only;omega,by simp only;omega,by simp only;omega⟩ (by simp only;omega) (by simp)
          · rw [if_neg (fun e=>d1 e.1)] at p1
            simp -implicitDefEqProofs [hlt,hw,lkV,d1]
            exact NextS.mk (i+1,l2) ⟨p1,by simp only;omega,p3,p4⟩ (by simp only;omega) (by simp)
        · rw [List.drop_eq_nil_of_le (by omega),skL] at p1
          rw [p1]
          simp -implicitDefEqProofs [hlt,skOut,rowI]
end Go.VS
