import Derived.Test.YtdnblconoegeaaaGreatDoorVwY1
import Derived.Test.YtdnblconoegeaaaGreatDoorB9
set_option linter.all false
namespace Go.VS
set_option maxRecDepth 4000
def hl (p:Pr) (k:Int):List Lk:=match p.grp k with
  | .error _=>[]
  | .ok g=>hlF g.links
def fpF (p:Pr):Nat→List (Int × Bs)→Int→Bs→List (Int × Bs)
  | 0,m,_,_=>m
  | n+1,m,k,s=>(hl p k).foldl (fun m x=>if aGet x.block m=none then fpF p n m x.block (joinP s x.name) else m) (aSet k s m)
theorem ahx {f:List (Int × Bs)→Lk→List (Int × Bs)} (hf:∀ m x k,k ∈ mpK m→k ∈ mpK (f m x)):∀ (l:List Lk) (m:List (Int × Bs)) (k:Int),k ∈ mpK m→k ∈ mpK (l.foldl f m)
  | [],_,_,h=>h
  | x :: l,m,k,h=>ahx hf l (f m x) k (hf _ _ _ h)
theorem atz {a:Int} {v:Bs} {m:List (Int × Bs)} {k:Int} (h:k ∈ mpK m):k ∈ mpK (aSet a v m):=by
  by_cases hc:aGet k (aSet a v m)=none
  · rw [agl] at hc
    split at hc
    · cases hc
    · exact absurd h (arj.1 hc)
  · exact Classical.not_not.1 fun hn=>hc (arj.2 hn)
theorem apx {p:Pr}:∀ (n:Nat) (m:List (Int × Bs)) (k:Int) (s:Bs) (x:Int),x ∈ mpK m→x ∈ mpK (fpF p n m k s)
  | 0,_,_,_,_,h=>h
  | n+1,m,k,s,x,h=>by
    unfold fpF
    refine ahx (fun m x k hk=>?_) _ _ _ (atz h)
    split
    · exact apx n _ _ _ _ hk
    · exact hk
theorem hl_in {p:Pr} {k:Int} {x:Lk} (h:x ∈ hl p k):dIn x.block=0∧x.name.length≤12∧(hl p k).length≤12:=by
  unfold hl at h ⊢
  cases c:p.grp k with
  | error e=>rw [c] at h;cases h
  | ok g=>
    rw [c] at h
    simp only at h ⊢
    have f:=abh (abt c)
    have h1:=List.mem_filter.1 h
    refine ⟨?_,?_,Nat.le_trans (ar7 _) f.1⟩
    · unfold dIn
      rw [if_pos (alu (abt c) (List.mem_map_of_mem (List.mem_filter.2 ⟨h1.1,h1.2⟩)))]
    · have h2:=f.2 x h1.1
      unfold Lk.ok isName at h2
      simp only [Bool.and_eq_true,decide_eq_true_eq] at h2
      omega
theorem un_set {a:Int} {v:Bs} {m:List (Int × Bs)} (h:aGet a m=none):un (mpK (aSet a v m))+1≤un (mpK m)+dIn a:=by
  have e:mpK (aSet a v m)=mpK m++[a]:=by rw [ai1 a v m h];simp [mpK]
  rw [e]
  exact (app_mu (arj.1 h)).2
set_option maxHeartbeats 2000000 in
theorem agc (q:Bool) (p:Pr) (h:p.Ok):∀ (n:Nat) (m:List (Int × Bs)) (k:Int) (s:Bs),aGet k m=none→un (mpK m)+dIn k<n→s.length+14*n≤100000→∀ K:Out→Prop,
    Call prog 1297 ⟨[.vp (prC q p),.mr 0,.i .i64 k,.s s],[],[mpR V.s m]⟩ K=K (.tup [],[],[mpR V.s (fpF p n m k s)])
  | 0,m,k,s,h0,h1,h2,K=>by omega
  | n+1,m,k,s,h0,h1,h2,K=>by
    refine adu ?_ K
    rw [aob (p:=prog) (f:=1297) rfl _ _ _ rfl (by decide) rfl]
    have e0:=fun K=>akm q p h k K
    unfold fpF
    have hu:=un_set (v:=s) h0
    unfold hlOut at e0
    simp only [mpR] at e0 ⊢
    have ih:=fun m k s h0 h1 h2 K=>agc q p h n m k s h0 h1 h2 K
    simp only [mpR] at ih
    cases c0:p.grp k with
    | error c=>
      simp only [c0] at e0
      have hh:hl p k=[]:=by unfold hl;rw [c0]
      rw [hh]
      simp -implicitDefEqProofs [e0,mup_r0]
      refine WL_for (fun i=>⟨sp 42 [(0,.vp (prC q p)),(1,.mr 0),(3,.s s),(17,.sl 1 0 0 false),(18,.i .i64 0),(19,.i .i64 i)],[],[.row 0 false ((aSet k s m).map (mpE V.s)),.row 3 false []]⟩) 0 (fun _=>True) _ (by simp -implicitDefEqProofs) trivial ?_
      intro i hi _
      have:i=0:=by omega
      subst this
      simp -implicitDefEqProofs
    | ok g=>
      simp only [c0] at e0
      have hh:hl p k=hlF g.links:=by unfold hl;rw [c0]
      have hin:=fun x hx=>hl_in (p:=p) (k:=k) (x:=x) hx
      rw [hh] at hin ⊢
      have hrow:∀ (i:Nat) (hi:i<(hlF g.links).length),(hlRow g.links)[i]?.getD .no=lkV (hlF g.links)[i]:=by
        intro i hi
        unfold hlRow
        rw [List.getElem?_append_left (by simpa using hi),List.getElem?_map,List.getElem?_eq_getElem hi];rfl
      generalize hL:hlF g.links=L at *
      generalize hlRow g.links=R at *
      simp -implicitDefEqProofs [e0,mup_r0]
      refine WL_for (fun i=>⟨sp 42 [(0,.vp (prC q p)),(1,.mr 0),(3,.s s),(17,.sl 1 0 L.length false),(18,.i .i64 L.length),(19,.i .i64 i)],[],
        [.row 0 false (((L.take i).foldl (fun m x=>if aGet x.block m=none then fpF p n m x.block (joinP s x.name) else m) (aSet k s m)).map (mpE V.s)),.row 3 false R]⟩) L.length (fun _=>True) _ (by simp -implicitDefEqProofs) trivial ?_
      intro i hi _
      by_cases hlt:i<L.length
      · have hxm:=hin L[i] (List.getElem_mem _)
        have hw:=wrap_i64 (n:=(i:Int)+1) (by omega) (by omega)
        have hR:=hrow i hlt
        have hs:(L.take (i+1)).foldl (fun m x=>if aGet x.block m=none then fpF p n m x.block (joinP s x.name) else m) (aSet k s m)=
            (fun m x=>if aGet x.block m=none then fpF p n m x.block (joinP s x.name) else m) ((L.take i).foldl (fun m x=>if aGet x.block m=none then fpF p n m x.block (joinP s x.name) else m) (aSet k s m)) L[i]:=by
          rw [← List.take_append_getElem hlt,List.foldl_append];rfl
        have hk:=ah4 (fun y hy=>ahx (f:=fun m x=>if aGet x.block m=none then fpF p n m x.block (joinP s x.name) else m) (fun m x k hk=>by
          split
          · exact apx n _ _ _ _ hk
          · exact hk) (L.take i) (aSet k s m) y hy)
        generalize (L.take i).foldl (fun m x=>if aGet x.block m=none then fpF p n m x.block (joinP s x.name) else m) (aSet k s m)=M at *
        have e2:=fun K=>akg s L[i].name (by unfold lim;omega) K
        simp only at hs
        cases ha:aGet L[i].block M with
        | some v=>
          rw [ha,if_neg (by simp)] at hs
          simp -implicitDefEqProofs [hlt,hw,hR,lkV,mlk_r0,ha,hs,Next]
        | none=>
          rw [ha,if_pos rfl] at hs
          have hj:(joinP s L[i].name).length≤s.length+13:=by
            unfold joinP;split <;> simp only [List.length_cons,List.length_append] <;> omega
          have e3:=fun K=>ih M L[i].block (joinP s L[i].name) ha (by omega) (by omega) K
          simp -implicitDefEqProofs [hlt,hw,hR,lkV,mlk_r0,ha,e2,e3,hs,Next]
      · have:i=L.length:=by omega
        subst this
        simp -implicitDefEqProofs [List.take_length]
end Go.VS
