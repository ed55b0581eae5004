/-
  Groups created: what both packages answer.
-/
import Derived.Test.YtdnblconoegeaaaGreatDoorB6
import Derived.Test.YtdnblconoegeaaaGreatDoorB7
set_option linter.all false
section
namespace Go.VS
def mu:Nat→List Int→Nat
  | 0,_=>0
  | n+1,l=>(if ((n:Int)+1) ∈ l then 0 else 1)+mu n l
theorem avk {l l':List Int} (h:∀ x,x ∈ l→x ∈ l'):∀ n,mu n l'≤mu n l
  | 0=>Nat.le_refl _
  | n+1=>by
    have ih:=avk h n
    unfold mu
    by_cases c:((n:Int)+1) ∈ l
    · rw [if_pos c,if_pos (h _ c)];omega
    · rw [if_neg c];split <;> omega
theorem mu_add {l:List Int} {k:Int} (h1:1≤k) (h:k ∉ l):∀ n:Nat,k≤n→mu n (l++[k])+1≤mu n l
  | 0,h2=>by omega
  | n+1,h2=>by
    unfold mu
    by_cases c:k=(n:Int)+1
    · have hm:=avk (l:=l) (l':=l++[k]) (fun x hx=>List.mem_append_left _ hx) n
      rw [if_pos (by rw [← c];simp),if_neg (by rw [← c];exact h)];omega
    · have ih:=mu_add h1 h n (by push_cast at h2;omega)
      by_cases c2:((n:Int)+1) ∈ l
      · rw [if_pos (List.mem_append_left _ c2),if_pos c2];omega
      · rw [if_neg (by simp [c2];exact fun e=>c e.symm),if_neg c2];omega
def un (l:List Int):Nat:=mu 255 l
theorem asf {l l':List Int} (h:∀ x,x ∈ l→x ∈ l'):un l'≤un l:=avk h 255
theorem un_add {l:List Int} {k:Int} (h1:1≤k) (h2:k≤255) (h:k ∉ l):un (l++[k])+1≤un l:=mu_add h1 h 255 h2
theorem mu_nil:∀ n,mu n []=n
  | 0=>rfl
  | n+1=>by unfold mu;rw [mu_nil n,if_neg (by simp)];omega
theorem un_nil:un []=255:=mu_nil 255
attribute [irreducible] un
def dIn (k:Int):Nat:=if 1≤k∧k≤255 then 0 else 1
theorem tg_in {p:Pr} {k x:Int} (h:x ∈ p.tg k):dIn x=0:=by
  unfold Pr.tg at h
  split at h
  · cases h
  · rename_i g e
    unfold dIn
    rw [if_pos (a0m (ak8 e) h)]
theorem app_mu {l:List Int} {k:Int} (h:k ∉ l):(l++[k]).length+un (l++[k])≤l.length+un l+dIn k∧un (l++[k])+1≤un l+dIn k:=by
  rw [List.length_append]
  unfold dIn
  simp only [List.length_singleton]
  split
  · rename_i c
    have:=un_add c.1 c.2 h
    omega
  · have:=asf (l:=l) (l':=l++[k]) (fun x hx=>List.mem_append_left _ hx)
    omega
end Go.VS
end
section
namespace Go.VS
end Go.VS
end
section
namespace Go.VS
end Go.VS
end
section
namespace Go.VS
def foldE (f:List Int→Int→Except Int (List Int)):List Lk→List Int→Except Int (List Int)
  | [],l=>.ok l
  | x :: xs,l=>if x.target=[] then match f l x.block with
      | .error c=>.error c
      | .ok l'=>foldE f xs l'
    else foldE f xs l
def gathF (p:Pr):Nat→List Int→Int→Except Int (List Int)
  | 0,l,_=>.ok l
  | n+1,l,k=>if k ∈ l then .ok l else match p.hdr k with
    | none=>.error 10
    | some h=>if h.kind≠1 then .ok (l++[k]) else match p.grp k with
      | .error c=>.error c
      | .ok g=>foldE (gathF p n) g.links (l++[k])
theorem arb {f:List Int→Int→Except Int (List Int)} (hf:∀ l k l',f l k=.ok l'→(∀ x,x ∈ l→x ∈ l')∧l'.length+un l'≤l.length+un l+dIn k):
    ∀ (ks:List Lk) (l l':List Int),(∀ x,x ∈ hards ks→dIn x=0)→foldE f ks l=.ok l'→(∀ x,x ∈ l→x ∈ l')∧l'.length+un l'≤l.length+un l
  | [],l,l',_,h=>by cases h;exact ⟨fun _ h=>h,Nat.le_refl _⟩
  | x :: xs,l,l',hd,h=>by
    rw [foldE] at h
    by_cases c:x.target=[]
    · rw [if_pos c] at h
      have e:hards (x :: xs)=x.block :: hards xs:=by unfold hards;simp [c]
      rw [e] at hd
      split at h
      · cases h
      · rename_i l1 h1
        have g1:=hf _ _ _ h1
        have g2:=arb hf xs l1 l' (fun y hy=>hd y (List.mem_cons_of_mem _ hy)) h
        rw [hd x.block (by simp)] at g1
        exact ⟨fun y hy=>g2.1 y (g1.1 y hy),by omega⟩
    · rw [if_neg c] at h
      have e:hards (x :: xs)=hards xs:=by unfold hards;simp [c]
      rw [e] at hd
      exact arb hf xs l l' hd h
theorem anp {p:Pr}:∀ (n:Nat) (l:List Int) (k:Int) (l':List Int),gathF p n l k=.ok l'→(∀ x,x ∈ l→x ∈ l')∧l'.length+un l'≤l.length+un l+dIn k
  | 0,l,k,l',h=>by cases h;exact ⟨fun _ h=>h,by omega⟩
  | n+1,l,k,l',h=>by
    unfold gathF at h
    split at h
    · cases h;exact ⟨fun _ h=>h,by omega⟩
    · rename_i c
      have am:=app_mu c
      split at h
      · cases h
      · split at h
        · cases h;exact ⟨fun x hx=>List.mem_append_left _ hx,by omega⟩
        · split at h
          · cases h
          · rename_i g hg
            have hi:=fun x=>tg_in (p:=p) (k:=k) (x:=x)
            have ht:p.tg k=hards g.links:=by unfold Pr.tg;rw [hg]
            rw [ht] at hi
            have:=arb (anp n) g.links (l++[k]) l' (fun x hx=>hi x hx) h
            exact ⟨fun x hx=>this.1 x (List.mem_append_left _ hx),by omega⟩
def gOut:Except Int (List Int)→Out
  | .error c=>(.tup [.nil,.i .i64 c],[],[])
  | .ok l=>(.tup [.sl 0 0 l.length false,.i .i64 0],[],[rowI l])
theorem au3 {p:Pr} {k:Int} {h:Hd} {g:Gr} (e:p.hdr k=some h) (eg:p.grp k=.ok g):g.hd=h:=by
  unfold Pr.grp at eg
  rw [e] at eg
  simp only at eg
  split at eg
  · cases eg
  · split at eg
    · split at eg
      · cases eg
      · split at eg
        · cases eg
        · cases eg;rfl
    · cases eg
theorem ama {f:List Int→Int→Except Int (List Int)} (hf:∀ l k c,f l k=.error c→c≠0):∀ (ks:List Lk) (l:List Int) (c:Int),foldE f ks l=.error c→c≠0
  | [],l,c,h=>by cases h
  | x :: xs,l,c,h=>by
    rw [foldE] at h
    split at h
    · split at h
      · rename_i c' h1;cases h;exact hf _ _ _ h1
      · exact ama hf xs _ c h
    · exact ama hf xs _ c h
theorem ah7 {p:Pr}:∀ (n:Nat) (l:List Int) (k c:Int),gathF p n l k=.error c→c≠0
  | 0,l,k,c,h=>by cases h
  | n+1,l,k,c,h=>by
    unfold gathF at h
    split at h
    · cases h
    · split at h
      · cases h;decide
      · split at h
        · cases h
        · split at h
          · rename_i c' hg;cases h;have:=aet hg;omega
          · exact ama (ah7 n) _ _ _ h
set_option maxHeartbeats 2000000 in
theorem aoj (q:Bool) (p:Pr) (h:p.Ok):∀ (n:Nat) (l:List Int) (k:Int),un l+dIn k<n→l.length+un l+dIn k≤256→∀ K:Out→Prop,
    Call prog 66 ⟨[.vp (prC q p),.sl 0 0 l.length false,.i .i64 k],[],[rowI l]⟩ K=K (gOut (gathF p n l k))
  | 0,l,k,h1,h2,K=>by omega
  | n+1,l,k,h1,h2,K=>by
    refine Zc (f:=66) rfl rfl (by decide) ?_
    have e0:=fun K=>afu false l k (by unfold lim;omega) K
    have e1:=fun K=>ad5 q p h k K
    have e2:=fun K=>ah8 q p h k K
    by_cases c0:k ∈ l
    · have hG:gathF p (n+1) l k=.ok l:=by unfold gathF;rw [if_pos c0]
      rw [hG]
      simp -implicitDefEqProofs [e0,c0,rowI,gOut]
    · have c2:l.length+1≤lim:=by unfold lim;omega
      have am:=app_mu c0
      unfold hdrOut at e1
      cases c1:p.hdr k with
      | none=>
        simp only [c1] at e1
        have hG:gathF p (n+1) l k=.error 10:=by unfold gathF;rw [if_neg c0,c1]
        rw [hG]
        simp -implicitDefEqProofs [e0,e1,c0,c2,rowI,gOut]
      | some hd=>
        simp only [c1] at e1
        by_cases c3:hd.kind=1
        · unfold grpOut at e2
          cases c4:p.grp k with
          | error c=>
            simp only [c4] at e2
            have hG:gathF p (n+1) l k=.error c:=by unfold gathF;rw [if_neg c0,c1];simp only;rw [if_neg (by simp [c3]),c4]
            rw [hG]
            have hc:¬ c=0:=by have:=aet c4;omega
            simp -implicitDefEqProofs [e0,e1,e2,c0,c2,c3,hc,rowI,gOut]
          | ok g=>
            simp only [c4] at e2
            have hG:gathF p (n+1) l k=foldE (gathF p n) g.links (l++[k]):=by unfold gathF;rw [if_neg c0,c1];simp only;rw [if_neg (by simp [c3]),c4]
            rw [hG]
            have eg:=au3 c1 c4
            rw [eg] at e2
            have hg:=(ad6 (ak8 c4)).1
            have hi:=fun x=>tg_in (p:=p) (k:=k) (x:=x)
            have ht:p.tg k=hards g.links:=by unfold Pr.tg;rw [c4]
            rw [ht] at hi
            simp -implicitDefEqProofs [e0,e1,e2,c0,c2,c3,rowI]
            refine WL_st (α:=Nat × List Int) (fun x=>⟨sp 66 [(0,.vp (prC q p)),(1,.sl 4 0 x.2.length false),(44,.sl 3 0 g.links.length false),(45,.i .i64 g.links.length),(46,.i .i64 x.1)],
                [[.i .i64 1,.i .i64 hd.refs,.sl 0 0 hd.msgs.length false],[.i .i64 k,.i .i64 1,.i .i64 hd.refs,.sl 1 0 hd.msgs.length false,.sl 2 0 g.heap.length false,.sl 3 0 g.links.length false]],
                [.row 3 false (hd.msgs.map msV),.row 3 false (hd.msgs.map msV),.row 1 false (g.heap.map .s),.row 3 false (g.links.map lkV),rowI x.2]⟩)
              (fun x=>g.links.length - x.1) (fun x=>foldE (gathF p n) g.links (l++[k])=foldE (gathF p n) (g.links.drop x.1) x.2∧x.1≤g.links.length∧un x.2<n∧x.2.length+un x.2≤256) (0,l++[k]) _ (by simp -implicitDefEqProofs [rowI]) ⟨by simp,by simp,by simp only;omega,by simp only;omega⟩ ?_
            rintro ⟨i,acc⟩ ⟨hP,hil,hu,hl⟩
            simp only at hP hil hu hl
            rw [hP]
            by_cases hlt:i<g.links.length
            · have hw:=wrap_i64 (n:=(i:Int)+1) (by omega) (by omega)
              rw [List.drop_eq_getElem_cons hlt,foldE]
              by_cases d1:g.links[i].target=[]
              · rw [if_pos d1]
                have hb:dIn g.links[i].block=0:=hi _ (List.mem_map_of_mem (List.mem_filter.2 ⟨List.getElem_mem hlt,by simpa using d1⟩))
                have e3:=fun K=>aoj q p h n acc g.links[i].block (by omega) (by omega) K
                cases r:gathF p n acc g.links[i].block with
                | error c=>
                  rw [r,gOut,rowI] at e3
                  have hc:=ah7 _ _ _ _ r
                  simp -implicitDefEqProofs [hlt,hw,lkV,d1,rowI,e3,hc,gOut]
                | ok l'=>
                  rw [r,gOut,rowI] at e3
                  have g1:=anp _ _ _ _ r
                  have g2:=asf g1.1
                  simp -implicitDefEqProofs [hlt,hw,lkV,d1,rowI,e3]
                  exact NextS.mk (i+1,l') ⟨rfl,by simp only;omega,by simp only;omega,by simp only;omega⟩ (by simp only;omega) (by simp [rowI])
              · rw [if_neg d1]
                simp -implicitDefEqProofs [hlt,hw,lkV,d1,rowI]
                exact NextS.mk (i+1,acc) ⟨rfl,by simp only;omega,hu,hl⟩ (by simp only;omega) (by simp [rowI])
            · rw [List.drop_eq_nil_of_le (by omega),foldE]
              simp -implicitDefEqProofs [hlt,rowI,gOut]
        · have hG:gathF p (n+1) l k=.ok (l++[k]):=by unfold gathF;rw [if_neg c0,c1];exact if_pos c3
          rw [hG]
          simp -implicitDefEqProofs [e0,e1,c0,c2,c3,rowI,gOut]
end Go.VS
end
section
namespace Go.VS
set_option maxHeartbeats 2000000 in
theorem am6 (q:Bool) (p:Pr) (h:p.Ok):∀ (n:Nat) (l:List Int) (k:Int),k ∉ l→un l+dIn k<n→l.length+un l+dIn k≤256→∀ K:Out→Prop,
    Call prog 65 ⟨[.vp (prC q p),.sl 0 0 l.length false,.i .i64 k],[],[rowI l]⟩ K=K (gOut (gathF p n l k))
  | 0,l,k,c0,h1,h2,K=>by omega
  | n+1,l,k,c0,h1,h2,K=>by
    refine Zc (f:=65) rfl rfl (by decide) ?_
    have e1:=fun K=>aex q p h k K
    have e2:=fun K=>ahw q p h k K
    · have c2:l.length+1≤lim:=by unfold lim;omega
      have am:=app_mu c0
      unfold hdrOut at e1
      cases c1:p.hdr k with
      | none=>
        simp only [c1] at e1
        have hG:gathF p (n+1) l k=.error 10:=by unfold gathF;rw [if_neg c0,c1]
        rw [hG]
        simp -implicitDefEqProofs [e1,c0,c2,rowI,gOut]
      | some hd=>
        simp only [c1] at e1
        by_cases c3:hd.kind=1
        · unfold sgrpOut at e2
          cases c4:p.grp k with
          | error c=>
            simp only [c4] at e2
            have hG:gathF p (n+1) l k=.error c:=by unfold gathF;rw [if_neg c0,c1];simp only;rw [if_neg (by simp [c3]),c4]
            rw [hG]
            have hc:¬ c=0:=by have:=aet c4;omega
            simp -implicitDefEqProofs [e1,e2,c0,c2,c3,hc,rowI,gOut]
          | ok g=>
            simp only [c4] at e2
            have hG:gathF p (n+1) l k=foldE (gathF p n) g.links (l++[k]):=by unfold gathF;rw [if_neg c0,c1];simp only;rw [if_neg (by simp [c3]),c4]
            rw [hG]
            have eg:=au3 c1 c4
            rw [eg] at e2
            have hg:=(ad6 (ak8 c4)).1
            have hi:=fun x=>tg_in (p:=p) (k:=k) (x:=x)
            have ht:p.tg k=hards g.links:=by unfold Pr.tg;rw [c4]
            rw [ht] at hi
            simp -implicitDefEqProofs [e1,e2,c0,c2,c3,rowI]
            refine WL_st (α:=Nat × List Int) (fun x=>⟨sp 75 [(0,.vp (prC q p)),(1,.sl 4 0 x.2.length false),(10,.ptr 1 0),(11,.i .i64 x.1)],
                [[.i .i64 1,.i .i64 hd.refs,.sl 0 0 hd.msgs.length false],[.i .i64 1,.i .i64 hd.refs,.sl 1 0 hd.msgs.length false,.sl 2 0 g.heap.length false,.sl 3 0 g.links.length false]],
                [.row 3 false (hd.msgs.map msV),.row 3 false (hd.msgs.map msV),.row 1 false (g.heap.map .s),.row 3 false (g.links.map lkV),rowI x.2]⟩)
              (fun x=>g.links.length - x.1) (fun x=>foldE (gathF p n) g.links (l++[k])=foldE (gathF p n) (g.links.drop x.1) x.2∧x.1≤g.links.length∧un x.2<n∧x.2.length+un x.2≤256) (0,l++[k]) _ (by simp -implicitDefEqProofs [rowI]) ⟨by simp,by simp,by simp only;omega,by simp only;omega⟩ ?_
            rintro ⟨i,acc⟩ ⟨hP,hil,hu,hl⟩
            simp only at hP hil hu hl
            rw [hP]
            by_cases hlt:i<g.links.length
            · have hw:=wrap_i64 (n:=(i:Int)+1) (by omega) (by omega)
              rw [List.drop_eq_getElem_cons hlt,foldE]
              by_cases d1:g.links[i].target=[]
              · rw [if_pos d1]
                have hb:dIn g.links[i].block=0:=hi _ (List.mem_map_of_mem (List.mem_filter.2 ⟨List.getElem_mem hlt,by simpa using d1⟩))
                have e4:=fun K=>aow false acc g.links[i].block (by unfold lim;omega) K
                by_cases d2:g.links[i].block ∈ acc
                · have r:gathF p n acc g.links[i].block=.ok acc:=by
                    cases n with
                    | zero=>rfl
                    | succ n=>unfold gathF;rw [if_pos d2]
                  rw [r]
                  simp -implicitDefEqProofs [hlt,hw,lkV,d1,d2,rowI,e4]
                  exact NextS.mk (i+1,acc) ⟨rfl,by simp only;omega,hu,hl⟩ (by simp only;omega) (by simp [rowI])
                have e3:=fun K=>am6 q p h n acc g.links[i].block d2 (by omega) (by omega) K
                cases r:gathF p n acc g.links[i].block with
                | error c=>
                  rw [r,gOut,rowI] at e3
                  have hc:=ah7 _ _ _ _ r
                  simp -implicitDefEqProofs [hlt,hw,lkV,d1,d2,rowI,e3,e4,hc,gOut]
                | ok l'=>
                  rw [r,gOut,rowI] at e3
                  have g1:=anp _ _ _ _ r
                  have g2:=asf g1.1
                  simp -implicitDefEqProofs [hlt,hw,lkV,d1,d2,rowI,e3,e4]
                  exact NextS.mk (i+1,l') ⟨rfl,by simp only;omega,by simp only;omega,by simp only;omega⟩ (by simp only;omega) (by simp [rowI])
              · rw [if_neg d1]
                simp -implicitDefEqProofs [hlt,hw,lkV,d1,rowI]
                exact NextS.mk (i+1,acc) ⟨rfl,by simp only;omega,hu,hl⟩ (by simp only;omega) (by simp [rowI])
            · rw [List.drop_eq_nil_of_le (by omega),foldE]
              simp -implicitDefEqProofs [hlt,rowI,gOut]
        · have hG:gathF p (n+1) l k=.ok (l++[k]):=by unfold gathF;rw [if_neg c0,c1];exact if_pos c3
          rw [hG]
          simp -implicitDefEqProofs [e1,c0,c2,c3,rowI,gOut]
end Go.VS
end
section
namespace Go.VS
set_option maxHeartbeats 2000000 in
theorem axm (q:Bool) (p:Pr) (h:p.Ok) (k:Int) (K:Out→Prop):
    Call prog 66 ⟨[.vp (prC q p),.nil,.i .i64 k],[],[]⟩ K=K (gOut (gathF p 257 [] k)):=by
    obtain ⟨n,hn⟩:∃ n,n=256:=⟨_,rfl⟩
    rw [show 257=n+1 by omega]
    refine Zc (f:=66) rfl rfl (by decide) ?_
    have e0:∀ K,Call prog 96 ⟨[.view true 1 [],.i .i64 k],[],[]⟩ K=K (.b false,[],[]):=fun K=>afu true [] k (by unfold lim;simp) K
    have c0:k ∉ ([]:List Int):=by simp
    have e1:=fun K=>ad5 q p h k K
    have e2:=fun K=>ah8 q p h k K
    · have c2:1≤lim:=by unfold lim;omega
      have am:=app_mu c0
      have dk:dIn k≤1:=by unfold dIn;split <;> omega
      rw [un_nil] at am
      simp only [List.nil_append,List.length_nil] at am
      unfold hdrOut at e1
      cases c1:p.hdr k with
      | none=>
        simp only [c1] at e1
        have hG:gathF p (n+1) [] k=.error 10:=by unfold gathF;rw [if_neg c0,c1]
        rw [hG]
        simp -implicitDefEqProofs [e0,e1,c2,rowI,gOut]
      | some hd=>
        simp only [c1] at e1
        by_cases c3:hd.kind=1
        · unfold grpOut at e2
          cases c4:p.grp k with
          | error c=>
            simp only [c4] at e2
            have hG:gathF p (n+1) [] k=.error c:=by unfold gathF;rw [if_neg c0,c1];simp only;rw [if_neg (by simp [c3]),c4]
            rw [hG]
            have hc:¬ c=0:=by have:=aet c4;omega
            simp -implicitDefEqProofs [e0,e1,e2,c2,c3,hc,rowI,gOut]
          | ok g=>
            simp only [c4] at e2
            have hG:gathF p (n+1) [] k=foldE (gathF p n) g.links [k]:=by unfold gathF;rw [if_neg c0,c1];simp only;rw [if_neg (by simp [c3]),c4];rfl
            rw [hG]
            have eg:=au3 c1 c4
            rw [eg] at e2
            have hg:=(ad6 (ak8 c4)).1
            have hi:=fun x=>tg_in (p:=p) (k:=k) (x:=x)
            have ht:p.tg k=hards g.links:=by unfold Pr.tg;rw [c4]
            rw [ht] at hi
            simp -implicitDefEqProofs [e0,e1,e2,c2,c3,rowI]
            refine WL_st (α:=Nat × List Int) (fun x=>⟨sp 66 [(0,.vp (prC q p)),(1,.sl 4 0 x.2.length false),(44,.sl 3 0 g.links.length false),(45,.i .i64 g.links.length),(46,.i .i64 x.1)],
                [[.i .i64 1,.i .i64 hd.refs,.sl 0 0 hd.msgs.length false],[.i .i64 k,.i .i64 1,.i .i64 hd.refs,.sl 1 0 hd.msgs.length false,.sl 2 0 g.heap.length false,.sl 3 0 g.links.length false]],
                [.row 3 false (hd.msgs.map msV),.row 3 false (hd.msgs.map msV),.row 1 false (g.heap.map .s),.row 3 false (g.links.map lkV),rowI x.2]⟩)
              (fun x=>g.links.length - x.1) (fun x=>foldE (gathF p n) g.links [k]=foldE (gathF p n) (g.links.drop x.1) x.2∧x.1≤g.links.length∧un x.2<n∧x.2.length+un x.2≤256) (0,[k]) _ (by simp -implicitDefEqProofs [rowI]) ⟨by simp,by simp,by simp only;omega,by simp only;omega⟩ ?_
            rintro ⟨i,acc⟩ ⟨hP,hil,hu,hl⟩
            simp only at hP hil hu hl
            rw [hP]
            by_cases hlt:i<g.links.length
            · have hw:=wrap_i64 (n:=(i:Int)+1) (by omega) (by omega)
              rw [List.drop_eq_getElem_cons hlt,foldE]
              by_cases d1:g.links[i].target=[]
              · rw [if_pos d1]
                have hb:dIn g.links[i].block=0:=hi _ (List.mem_map_of_mem (List.mem_filter.2 ⟨List.getElem_mem hlt,by simpa using d1⟩))
                have e3:=fun K=>aoj q p h n acc g.links[i].block (by omega) (by omega) K
                cases r:gathF p n acc g.links[i].block with
                | error c=>
                  rw [r,gOut,rowI] at e3
                  have hc:=ah7 _ _ _ _ r
                  simp -implicitDefEqProofs [hlt,hw,lkV,d1,rowI,e3,hc,gOut]
                | ok l'=>
                  rw [r,gOut,rowI] at e3
                  have g1:=anp _ _ _ _ r
                  have g2:=asf g1.1
                  simp -implicitDefEqProofs [hlt,hw,lkV,d1,rowI,e3]
                  exact NextS.mk (i+1,l') ⟨rfl,by simp only;omega,by simp only;omega,by simp only;omega⟩ (by simp only;omega) (by simp [rowI])
              · rw [if_neg d1]
                simp -implicitDefEqProofs [hlt,hw,lkV,d1,rowI]
                exact NextS.mk (i+1,acc) ⟨rfl,by simp only;omega,hu,hl⟩ (by simp only;omega) (by simp [rowI])
            · rw [List.drop_eq_nil_of_le (by omega),foldE]
              simp -implicitDefEqProofs [hlt,rowI,gOut]
        · have hG:gathF p (n+1) [] k=.ok [k]:=by unfold gathF;rw [if_neg c0,c1];exact if_pos c3
          rw [hG]
          simp -implicitDefEqProofs [e0,e1,c2,c3,rowI,gOut]
def objF (p:Pr):Except Int (List Int):=if p.root=0 then .error 6 else gathF p 257 [] p.root
theorem atv (q:Bool) (p:Pr) (h:p.Ok) (K:Out→Prop):Call prog 32 ⟨[.vp (prC q p)],[],[]⟩ K=K (gOut (objF p)):=by
  refine Zc (f:=32) rfl rfl (by decide) ?_
  have e0:=fun K=>azu q p h K
  have e1:=fun K=>axm q p h p.root K
  unfold objF
  by_cases c0:p.root=0
  · rw [c0] at e0
    simp -implicitDefEqProofs [e0,c0,gOut]
  · rw [if_neg c0]
    cases r:gathF p 257 [] p.root with
    | error c=>rw [r,gOut] at e1;simp -implicitDefEqProofs [e0,e1,c0,gOut]
    | ok l=>rw [r,gOut,rowI] at e1;simp -implicitDefEqProofs [e0,e1,c0,gOut,rowI]
theorem ao1 (q:Bool) (p:Pr) (h:p.Ok) (K:Out→Prop):Call prog 31 ⟨[.vp (prC q p)],[],[]⟩ K=K (gOut (objF p)):=by
  refine Zc (f:=31) rfl rfl (by decide) ?_
  have e0:=fun K=>atf q p h K
  have e1:∀ K,Call prog 65 ⟨[.vp (prC q p),.sl 0 0 0 false,.i .i64 p.root],[],[.row 1 false []]⟩ K=K (gOut (gathF p 257 [] p.root)):=by
    intro K
    have dk:dIn p.root≤1:=by unfold dIn;split <;> omega
    exact am6 q p h 257 [] p.root (by simp) (by rw [un_nil];omega) (by rw [un_nil];simp only [List.length_nil];omega) K
  unfold objF
  by_cases c0:p.root=0
  · rw [c0] at e0
    simp -implicitDefEqProofs [e0,c0,gOut]
  · rw [if_neg c0]
    cases r:gathF p 257 [] p.root with
    | error c=>rw [r,gOut] at e1;simp -implicitDefEqProofs [e0,e1,c0,gOut]
    | ok l=>rw [r,gOut,rowI] at e1;simp -implicitDefEqProofs [e0,e1,c0,gOut,rowI]
end Go.VS
end
section
namespace Go.VS
set_option maxRecDepth 8000
theorem ass (h:Hd):1≤chLen (encH h).length:=by have:=a0e h;unfold chLen;omega
theorem ano {h:Hd} (s:h.Sm):chLen (encH h).length≤1000:=by have:=al8 s;unfold chLen;omega
set_option maxHeartbeats 2000000 in
theorem al5 (p:Pr) (h:p.Ow) (q:Bool) (hh:Hd) (sm:hh.Sm) (K:Out→Prop):
    Call prog 266 ⟨[.ptr 0 0,.agg (hdC q hh)],[pmC 0 p],pmR p⟩ K=K (.tup [.i .i64 (p.mkH hh).1,.i .i64 (p.mkH hh).2.1],[pmC 0 (p.mkH hh).2.2],pmR (p.mkH hh).2.2):=by
  refine Zc (f:=266) rfl rfl (by decide) ?_
  have e1:=fun K=>aob q hh sm K
  have hel:=al8 sm
  have e2:=fun K=>aj7 (encH hh) (by omega) K
  have e3:=fun K=>a0l p h (chLen (encH hh).length) (ano sm) K
  have g:=Pr.growP_ok (chLen (encH hh).length) [] h (fun y hy=>by cases hy)
  have hp:=ass hh
  have hle:=ano sm
  unfold Pr.mkH
  generalize p.growP (chLen (encH hh).length) []=G at *
  obtain ⟨c,l,x⟩:=G
  simp only at g e3 ⊢
  obtain ⟨g1,g2,_,g4⟩:=g
  unfold growOut at e3
  simp only [hdC,pmC,pmR,Nat.zero_add,Tag_eq] at e1 e3
  by_cases hc:c=0
  · subst hc
    rcases g4 with ⟨_,g5,g6⟩ | ⟨g5,_⟩
    · simp only [List.length_nil,Nat.zero_add] at g6
      have hpos:0<l.length:=by omega
      have e4:=fun K=>aea x g1 false l (by omega) (fun y hy=>by rw [g2];exact g5 y hy) (encH hh) (by omega) K
      obtain ⟨a,r,rfl⟩:∃ a r,l=a :: r:=by cases l with | nil=>simp at hpos | cons a r=>exact ⟨a,r,rfl⟩
      simp only [if_true,List.head?_cons,Option.getD_some] at e3 ⊢
      simp only [pmC,pmR,List.map_cons,List.length_cons,Tag_eq] at e3 e4
      generalize x.storeP (a :: r) (encH hh)=R at *
      simp -implicitDefEqProofs [hdC,pmC,pmR,e1,e2,e3,e4]
    · cases g5
  · simp only [hc,if_false] at e3 ⊢
    simp -implicitDefEqProofs [hdC,pmC,pmR,e1,e2,e3,hc]
set_option maxHeartbeats 2000000 in
theorem apz (p:Pr) (h:p.Ow) (q:Bool) (hh:Hd) (sm:hh.Sm) (K:Out→Prop):
    Call prog 265 ⟨[.ptr 0 0,.agg (hdC q hh)],[pmC 0 p],pmR p⟩ K=K (.tup [.i .i64 (if (p.mkH hh).2.1=0 then (p.mkH hh).1 else 0),.i .i64 (p.mkH hh).2.1],[pmC 0 (p.mkH hh).2.2],pmR (p.mkH hh).2.2):=by
  refine Zc (f:=265) rfl rfl (by decide) ?_
  have e1:=fun K=>am4 q hh sm K
  have e3:=fun K=>am3 p h [] (by simp) (chLen (encH hh).length) (ano sm) K
  have g:=Pr.growP_ok (chLen (encH hh).length) [] h (fun y hy=>by cases hy)
  have hp:=ass hh
  have hle:=ano sm
  simp only [List.length_nil,Nat.sub_zero,List.map_nil] at e3
  unfold Pr.mkH
  generalize p.growP (chLen (encH hh).length) []=G at *
  obtain ⟨c,l,x⟩:=G
  simp only at g e3 ⊢
  obtain ⟨g1,g2,_,g4⟩:=g
  unfold growOut at e3
  simp only [hdC,pmC,pmR,Nat.zero_add,Tag_eq] at e1 e3
  by_cases hc:c=0
  · subst hc
    rcases g4 with ⟨_,g5,g6⟩ | ⟨g5,_⟩
    · simp only [List.length_nil,Nat.zero_add] at g6
      have hpos:0<l.length:=by omega
      have e4:=fun K=>af2 x g1 false l (by omega) (fun y hy=>by rw [g2];exact g5 y hy) q hh sm K
      obtain ⟨a,r,rfl⟩:∃ a r,l=a :: r:=by cases l with | nil=>simp at hpos | cons a r=>exact ⟨a,r,rfl⟩
      simp only [if_true,List.head?_cons,Option.getD_some] at e3 ⊢
      simp only [hdC,pmC,pmR,List.map_cons,List.length_cons,Tag_eq] at e3 e4
      generalize x.storeP (a :: r) (encH hh)=R at *
      by_cases c4:R.1=0
      · simp -implicitDefEqProofs [hdC,pmC,pmR,e1,e3,e4,c4]
      · simp -implicitDefEqProofs [hdC,pmC,pmR,e1,e3,e4,c4]
    · cases g5
  · simp only [hc,if_false] at e3 ⊢
    simp -implicitDefEqProofs [hdC,pmC,pmR,e1,e3,hc]
def Pr.mkO (p:Pr) (k:Int) (n:Bs) (h:Hd):Int × Int × Pr:=
  if (p.mkH h).2.1=0 then ((p.mkH h).1,(p.mkH h).2.2.addL k ⟨n,(p.mkH h).1,[]⟩) else (0,(p.mkH h).2.1,(p.mkH h).2.2)
theorem Pr.Ow.mkO {p:Pr} (h:p.Ow) (k:Int) (n:Bs) (hd:Hd):(p.mkO k n hd).2.2.Ow:=by
  unfold Pr.mkO
  split
  · exact ((h.mkH hd).1).addL k _
  · exact (h.mkH hd).1
theorem al6 (p:Pr) (h:p.Ow) (k:Int) (n:Bs) (hn:isName n=true) (q:Bool) (hh:Hd) (sm:hh.Sm) (K:Out→Prop):
    Call prog 244 ⟨[.ptr 0 0,.i .i64 k,.s n,.agg (hdC q hh)],[pmC 0 p],pmR p⟩ K=K (.tup [.i .i64 (p.mkO k n hh).1,.i .i64 (p.mkO k n hh).2.1],[pmC 0 (p.mkO k n hh).2.2],pmR (p.mkO k n hh).2.2):=by
  refine Zc (f:=244) rfl rfl (by decide) ?_
  have e1:=fun K=>al5 p h q hh sm K
  have ho:=(h.mkH hh).1
  unfold Pr.mkO
  generalize p.mkH hh=G at *
  obtain ⟨b,c,x⟩:=G
  simp only at e1 ho ⊢
  have e2:=fun K=>ag3 x ho k ⟨n,b,[]⟩ ⟨hn,by simp⟩ K
  simp only [hdC,lkV,pmC,pmR,Tag_eq] at e1 e2
  by_cases hc:c=0
  · rw [if_pos hc]
    generalize x.addL k ⟨n,b,[]⟩=R at *
    simp -implicitDefEqProofs [hdC,pmC,pmR,e1,e2,hc]
  · rw [if_neg hc]
    simp -implicitDefEqProofs [hdC,pmC,pmR,e1,hc]
theorem ap1 (p:Pr) (h:p.Ow) (k:Int) (n:Bs) (hn:isName n=true) (q:Bool) (hh:Hd) (sm:hh.Sm) (K:Out→Prop):
    Call prog 240 ⟨[.ptr 0 0,.i .i64 k,.s n,.agg (hdC q hh)],[pmC 0 p],pmR p⟩ K=K (.tup [.i .i64 (p.mkO k n hh).1,.i .i64 (p.mkO k n hh).2.1],[pmC 0 (p.mkO k n hh).2.2],pmR (p.mkO k n hh).2.2):=by
  refine Zc (f:=240) rfl rfl (by decide) ?_
  have e1:=fun K=>apz p h q hh sm K
  have ho:=(h.mkH hh).1
  unfold Pr.mkO
  generalize p.mkH hh=G at *
  obtain ⟨b,c,x⟩:=G
  simp only at e1 ho ⊢
  have e2:=fun K=>aj2 x ho k ⟨n,b,[]⟩ ⟨hn,by simp⟩ K
  simp only [hdC,lkV,pmC,pmR,Tag_eq] at e1 e2
  by_cases hc:c=0
  · rw [if_pos hc]
    simp only [hc,if_true] at e1
    generalize x.addL k ⟨n,b,[]⟩=R at *
    simp -implicitDefEqProofs [hdC,pmC,pmR,e1,e2,hc]
  · rw [if_neg hc]
    simp only [hc,if_false] at e1
    simp -implicitDefEqProofs [hdC,pmC,pmR,e1,hc]
end Go.VS
end
section
namespace Go.VS
set_option maxRecDepth 8000
def roomCode (p:Pr) (k:Int) (n:Bs):Int:=if freeCode p k n=0 then match objF p with
  | .error c=>c
  | .ok l=>if 24≤l.length then 5 else 0
  else freeCode p k n
theorem atl (q:Bool) (p:Pr) (h:p.Ok) (k:Int) (n:Bs) (K:Out→Prop):Call prog 238 ⟨[.vp (prC q p),.i .i64 k,.s n],[],[]⟩ K=K (.i .i64 (roomCode p k n),[],[]):=by
  refine Zc (f:=238) rfl rfl (by decide) ?_
  have e1:=fun K=>ahv q p h k n K
  have e2:=fun K=>ao1 q p h K
  unfold gOut at e2
  unfold roomCode
  by_cases c:freeCode p k n=0
  · rw [if_pos c]
    cases c0:objF p with
    | error c1=>
      simp only [c0] at e2
      by_cases c2:c1=0
      · simp -implicitDefEqProofs [e1,e2,c,c2]
      · simp -implicitDefEqProofs [e1,e2,c,c2]
    | ok l=>
      simp only [c0] at e2
      by_cases c2:24≤l.length
      · have d2:(24:Int)≤l.length:=by omega
        simp -implicitDefEqProofs [e1,e2,c,c2,d2]
      · have d2:¬ (24:Int)≤l.length:=by omega
        simp -implicitDefEqProofs [e1,e2,c,c2,d2]
  · rw [if_neg c]
    simp -implicitDefEqProofs [e1,c]
theorem ao9 (q:Bool) (p:Pr) (h:p.Ok) (k:Int) (n:Bs) (K:Out→Prop):Call prog 242 ⟨[.vp (prC q p),.i .i64 k,.s n],[],[]⟩ K=K (.i .i64 (roomCode p k n),[],[]):=by
  refine Zc (f:=242) rfl rfl (by decide) ?_
  have e1:=fun K=>ade q p h k n K
  have e2:=fun K=>atv q p h K
  unfold gOut at e2
  unfold roomCode
  by_cases c:freeCode p k n=0
  · rw [if_pos c]
    cases c0:objF p with
    | error c1=>
      simp only [c0] at e2
      by_cases c2:c1=0
      · simp -implicitDefEqProofs [e1,e2,c,c2]
      · simp -implicitDefEqProofs [e1,e2,c,c2]
    | ok l=>
      simp only [c0] at e2
      by_cases c2:24≤l.length
      · have d2:(24:Int)≤l.length:=by omega
        simp -implicitDefEqProofs [e1,e2,c,c2,d2]
      · have d2:¬ (24:Int)≤l.length:=by omega
        simp -implicitDefEqProofs [e1,e2,c,c2,d2]
  · rw [if_neg c]
    simp -implicitDefEqProofs [e1,c]
def emptyHd:Hd:=⟨1,1,[⟨9,0,[0]⟩,⟨7,0,[]⟩]⟩
theorem aqd:emptyHd.Sm:=⟨by decide,by decide⟩
theorem aps (K:Out→Prop):Call prog 267 ⟨[.agg [.nil]],[],[]⟩ K=K (.s [0],[],[]):=by
  refine Zc (f:=267) rfl rfl (by decide) ?_
  have e0:∀ K,Call prog 255 ⟨[.i .i64 0,.i .i64 1],[],[]⟩ K=K (.s [0],[],[]):=fun K=>by
    have:=aay 0 1 (by decide) K
    rw [aru] at this
    exact this
  simp -implicitDefEqProofs [e0]
  refine WL_for (fun i=>⟨sp 23 [(3,.s [0]),(11,.nil),(12,.i .i64 0),(13,.i .i64 i)],[[.nil]],[]⟩) 0 (fun i=>True) _ (by simp -implicitDefEqProofs) trivial ?_
  intro i hi _
  obtain rfl:i=0:=by omega
  simp -implicitDefEqProofs
theorem an8 (K:Out→Prop):Call prog 243 ⟨[],[],[]⟩ K=K (.agg [.i .i64 1,.i .i64 1,.sl 0 0 2 false],[],[.row 3 false (emptyHd.msgs.map msV)]):=by
  refine Zc (f:=243) rfl rfl (by decide) ?_
  have e0:=fun K=>aps K
  simp -implicitDefEqProofs [e0,emptyHd,msV]
theorem arr (K:Out→Prop):Call prog 239 ⟨[],[],[]⟩ K=K (.agg [.i .i64 1,.i .i64 1,.sl 0 0 2 false],[],[.row 3 false (emptyHd.msgs.map msV)]):=by
  refine Zc (f:=239) rfl rfl (by decide) ?_
  simp -implicitDefEqProofs [emptyHd,msV]
def Pr.mkG (p:Pr) (k:Int) (n:Bs):Int × Int × Pr:=if roomCode p k n=0 then p.mkO k n emptyHd else (0,roomCode p k n,p)
theorem Pr.Ow.mkG {p:Pr} (h:p.Ow) (k:Int) (n:Bs):(p.mkG k n).2.2.Ow:=by
  unfold Pr.mkG
  split
  · exact h.mkO k n _
  · exact h
theorem atk (p:Pr) (h:p.Ow) (k:Int) (n:Bs) (hn:isName n=true) (K:Out→Prop):
    Call prog 210 ⟨[.ptr 0 0,.i .i64 k,.s n],[pmC 0 p],pmR p⟩ K=K (.tup [.i .i64 (p.mkG k n).1,.i .i64 (p.mkG k n).2.1],[pmC 0 (p.mkG k n).2.2],pmR (p.mkG k n).2.2):=by
  refine Zc (f:=210) rfl rfl (by decide) ?_
  have e1:=fun K=>atl false p h.ok k n K
  have e2:=fun K=>arr K
  have e3:=fun K=>ap1 p h k n hn false emptyHd aqd K
  have hk:emptyHd.kind=1∧emptyHd.refs=1∧emptyHd.msgs.length=2:=⟨rfl,rfl,rfl⟩
  have tk:List.take 2 (emptyHd.msgs.map msV)=emptyHd.msgs.map msV:=rfl
  simp only [prC,hdC,pmC,pmR,hk.1,hk.2.1,Tag_eq] at e1 e3
  unfold Pr.mkG
  by_cases c:roomCode p k n=0
  · rw [if_pos c]
    generalize p.mkO k n emptyHd=R at *
    generalize emptyHd.msgs.map msV=E at *
    simp -implicitDefEqProofs [pmC,pmR,e1,e2,e3,c,tk]
  · rw [if_neg c]
    simp -implicitDefEqProofs [pmC,pmR,e1,c]
theorem anh (p:Pr) (h:p.Ow) (k:Int) (n:Bs) (hn:isName n=true) (K:Out→Prop):
    Call prog 241 ⟨[.ptr 0 0,.i .i64 k,.s n],[pmC 0 p],pmR p⟩ K=K (.tup [.i .i64 (p.mkG k n).1,.i .i64 (p.mkG k n).2.1],[pmC 0 (p.mkG k n).2.2],pmR (p.mkG k n).2.2):=by
  refine Zc (f:=241) rfl rfl (by decide) ?_
  have e1:=fun K=>ao9 false p h.ok k n K
  have e2:=fun K=>an8 K
  have e3:=fun K=>al6 p h k n hn false emptyHd aqd K
  have hk:emptyHd.kind=1∧emptyHd.refs=1∧emptyHd.msgs.length=2:=⟨rfl,rfl,rfl⟩
  have tk:List.take 2 (emptyHd.msgs.map msV)=emptyHd.msgs.map msV:=rfl
  simp only [prC,hdC,pmC,pmR,hk.1,hk.2.1,Tag_eq] at e1 e3
  unfold Pr.mkG
  by_cases c:roomCode p k n=0
  · rw [if_pos c]
    generalize p.mkO k n emptyHd=R at *
    generalize emptyHd.msgs.map msV=E at *
    simp -implicitDefEqProofs [pmC,pmR,e1,e2,e3,c,tk]
  · rw [if_neg c]
    simp -implicitDefEqProofs [pmC,pmR,e1,c]
end Go.VS
end
section
namespace Go.VS
set_option maxRecDepth 8000
def prO3 (x:Int × Int × Pr):Out:=if x.2.1=0 then (.tup [.agg (pmC 0 x.2.2),.i .i64 x.1,.i .i64 0],[],pmR x.2.2) else (.tup [.agg prZ,.i .i64 0,.i .i64 x.2.1],[],[])
theorem avh (q:Bool) (p:Pr) (h:p.sm) (f:Nat) (hf:¬ 1000≤f) (caps:List V) (x:Int × Int × Pr) (hc:capsOk caps=true) (hx:∀ K:Out→Prop,Call prog f ⟨.ptr 0 0 :: caps,[pmC 0 p],pmR p⟩ K=K (.tup [.i .i64 x.1,.i .i64 x.2.1],[pmC 0 x.2.2],pmR x.2.2)) (K:Out→Prop):
    Call prog 212 ⟨[.agg (prC q p),.fn f caps],[],[]⟩ K=K (prO3 x):=by
  refine Zc (f:=212) rfl rfl (by decide) ?_
  have e1:=fun K=>aqa q p h K
  simp only [prC,pmC,pmR,Nat.zero_add,Tag_eq] at e1 hx
  have hl:=fun s k xp=>akb s k xp caps ((ae8 caps).symm.trans hc)
  obtain ⟨b,c,x⟩:=x
  simp only at hx
  unfold prO3
  by_cases c1:c=0
  · subst c1
    simp -implicitDefEqProofs [prC,pmC,pmR,hf,e1,hl,hx]
  · simp -implicitDefEqProofs [prC,pmC,pmR,hf,prZ,e1,hl,hx,c1]
def mkGOut (p:Pr) (k:Int) (n:Bs):Int × Int × Pr:=if p.ok=true∧isName n=true then p.mkG k n else (0,1,p)
theorem amg (q:Bool) (p:Pr) (h:p.sm) (k:Int) (n:Bs) (hn:n.length≤1048576) (K:Out→Prop):
    Call prog 194 ⟨[.agg (prC q p),.i .i64 k,.s n],[],[]⟩ K=K (prO3 (mkGOut p k n)):=by
  refine Zc (f:=194) rfl rfl (by decide) ?_
  have e1:=fun K=>amd q p h K
  have e2:=fun K=>abn n (by unfold lim;omega) K
  have e4:=fun K=>aj0 q p h K
  unfold mkGOut
  cases c1:p.ok with
  | false=>
    rw [c1] at e1
    simp only [prC,Tag_eq] at e1
    simp -implicitDefEqProofs [prC,prO3,prZ,e1]
  | true=>
    have ho:=Pr.Ow.of c1
    rw [c1] at e1
    cases c2:isName n with
    | false=>
      rw [c2] at e2
      simp only [prC,Tag_eq] at e1
      simp -implicitDefEqProofs [prC,prO3,prZ,e1,e2]
    | true=>
      rw [c2] at e2
      have e5:=fun K=>atk p ho k n c2 K
      simp only [true_and,if_true]
      unfold prO3
      generalize p.mkG k n=R at *
      obtain ⟨b,c,x⟩:=R
      simp only at e5 ⊢
      by_cases c4:c=0
      · simp only [c4,if_true,prC,pmC,pmR,Nat.zero_add,Tag_eq] at e1 e4 e5 ⊢
        simp -implicitDefEqProofs [prC,pmC,pmR,e1,e2,e4,e5]
      · simp only [c4,if_false,prC,pmC,pmR,prZ,Nat.zero_add,Tag_eq] at e1 e4 e5 ⊢
        simp -implicitDefEqProofs [prC,pmC,pmR,prZ,e1,e2,e4,e5,c4]
theorem aly (p:Pr) (h:p.Ow) (k:Int) (n:Bs) (hn:isName n=true) (K:Out→Prop):
    Call prog 211 ⟨[.ptr 0 0,.vp [.i .i64 k],.vp [.s n]],[pmC 0 p],pmR p⟩ K=K (.tup [.i .i64 (p.mkG k n).1,.i .i64 (p.mkG k n).2.1],[pmC 0 (p.mkG k n).2.2],pmR (p.mkG k n).2.2):=by
  refine Zc (f:=211) rfl rfl (by decide) ?_
  have e1:=fun K=>anh p h k n hn K
  simp only [pmC,pmR,Nat.zero_add,Tag_eq] at e1
  simp -implicitDefEqProofs [pmC,pmR,e1]
theorem ane (q:Bool) (p:Pr) (h:p.sm) (k:Int) (n:Bs) (hn:n.length≤1048576) (K:Out→Prop):
    Call prog 195 ⟨[.agg (prC q p),.i .i64 k,.s n],[],[]⟩ K=K (prO3 (mkGOut p k n)):=by
  refine Zc (f:=195) rfl rfl (by decide) ?_
  have e1:=fun K=>adn q p h K
  have e2:=fun K=>acr n (by unfold lim;omega) K
  unfold mkGOut
  cases c1:p.ok with
  | false=>
    rw [c1] at e1
    simp only [prC,Tag_eq] at e1
    simp -implicitDefEqProofs [prC,prO3,prZ,e1]
  | true=>
    have ho:=Pr.Ow.of c1
    rw [c1] at e1
    cases c2:isName n with
    | false=>
      rw [c2] at e2
      simp only [prC,Tag_eq] at e1
      simp -implicitDefEqProofs [prC,prO3,prZ,e1,e2]
    | true=>
      rw [c2] at e2
      have e5:=fun K=>avh q p h 211 (by decide) [.vp [.i .i64 k],.vp [.s n]] (p.mkG k n) (by simp) (fun K=>aly p ho k n c2 K) K
      simp only [true_and,if_true]
      unfold prO3 at e5 ⊢
      generalize p.mkG k n=R at *
      obtain ⟨b,c,x⟩:=R
      simp only at e5 ⊢
      by_cases c4:c=0
      · simp only [c4,if_true,prC,pmC,pmR,Nat.zero_add,Tag_eq] at e1 e5 ⊢
        simp -implicitDefEqProofs [prC,pmC,pmR,e1,e2,e5]
      · simp only [c4,if_false,prC,prZ,Tag_eq] at e1 e5 ⊢
        simp -implicitDefEqProofs [prC,prZ,e1,e2,e5]
end Go.VS
end
