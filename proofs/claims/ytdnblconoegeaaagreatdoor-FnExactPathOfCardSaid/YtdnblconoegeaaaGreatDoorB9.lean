/-
  Groups created: what both packages answer.
-/
import Derived.Test.YtdnblconoegeaaaGreatDoorB6
set_option linter.all false
section
namespace Go.VS
def mu:Nat→List Int→Nat
  | 0,_=>0
  | n+1,l=>(if ((n:Int)+1) ∈ l then 0 else 1)+mu n l
theorem ao5 {l l':List Int} (h:∀ x,x ∈ l→x ∈ l'):∀ n,mu n l'≤mu n l
  | 0=>Nat.le_refl _
  | n+1=>by
    have ih:=ao5 h n
    unfold mu
    by_cases c:((n:Int)+1) ∈ l
    · rw [if_pos c,if_pos (h _ c)];omega
    · rw [if_neg c];split <;> omega
theorem mu_add {l:List Int} {k:Int} (h1:1≤k) (h:k ∉ l):∀ n:Nat,k≤n→mu n (l++[k])+1≤mu n l
  | 0,h2=>by omega
  | n+1,h2=>by
    unfold mu
    by_cases c:k=(n:Int)+1
    · have hm:=ao5 (l:=l) (l':=l++[k]) (fun x hx=>List.mem_append_left _ hx) n
      rw [if_pos (by rw [← c];simp),if_neg (by rw [← c];exact h)];omega
    · have ih:=mu_add h1 h n (by push_cast at h2;omega)
      by_cases c2:((n:Int)+1) ∈ l
      · rw [if_pos (List.mem_append_left _ c2),if_pos c2];omega
      · rw [if_neg (by simp [c2];exact fun e=>c e.symm),if_neg c2];omega
def un (l:List Int):Nat:=mu 255 l
theorem ah4 {l l':List Int} (h:∀ x,x ∈ l→x ∈ l'):un l'≤un l:=ao5 h 255
theorem un_add {l:List Int} {k:Int} (h1:1≤k) (h2:k≤255) (h:k ∉ l):un (l++[k])+1≤un l:=mu_add h1 h 255 h2
theorem mu_nil:∀ n,mu n []=n
  | 0=>rfl
  | n+1=>by unfold mu;rw [mu_nil n,if_neg (by simp)];omega
theorem un_nil:un []=255:=mu_nil 255
attribute [irreducible] un
def dIn (k:Int):Nat:=if 1≤k∧k≤255 then 0 else 1
theorem tg_in {p:Pr} {k x:Int} (h:x ∈ p.tg k):dIn x=0:=by
  unfold Pr.tg at h
  split at h
  · cases h
  · rename_i g e
    unfold dIn
    rw [if_pos (alu (abt e) h)]
theorem app_mu {l:List Int} {k:Int} (h:k ∉ l):(l++[k]).length+un (l++[k])≤l.length+un l+dIn k∧un (l++[k])+1≤un l+dIn k:=by
  rw [List.length_append]
  unfold dIn
  simp only [List.length_singleton]
  split
  · rename_i c
    have:=un_add c.1 c.2 h
    omega
  · have:=ah4 (l:=l) (l':=l++[k]) (fun x hx=>List.mem_append_left _ hx)
    omega
end Go.VS
end
section
namespace Go.VS
end Go.VS
end
section
namespace Go.VS
end Go.VS
end
section
namespace Go.VS
def foldE (f:List Int→Int→Except Int (List Int)):List Lk→List Int→Except Int (List Int)
  | [],l=>.ok l
  | x :: xs,l=>if x.target=[] then match f l x.block with
      | .error c=>.error c
      | .ok l'=>foldE f xs l'
    else foldE f xs l
def gathF (p:Pr):Nat→List Int→Int→Except Int (List Int)
  | 0,l,_=>.ok l
  | n+1,l,k=>if k ∈ l then .ok l else match p.hdr k with
    | none=>.error 10
    | some h=>if h.kind≠1 then .ok (l++[k]) else match p.grp k with
      | .error c=>.error c
      | .ok g=>foldE (gathF p n) g.links (l++[k])
theorem alo {f:List Int→Int→Except Int (List Int)} (hf:∀ l k l',f l k=.ok l'→(∀ x,x ∈ l→x ∈ l')∧l'.length+un l'≤l.length+un l+dIn k):
    ∀ (ks:List Lk) (l l':List Int),(∀ x,x ∈ hards ks→dIn x=0)→foldE f ks l=.ok l'→(∀ x,x ∈ l→x ∈ l')∧l'.length+un l'≤l.length+un l
  | [],l,l',_,h=>by cases h;exact ⟨fun _ h=>h,Nat.le_refl _⟩
  | x :: xs,l,l',hd,h=>by
    rw [foldE] at h
    by_cases c:x.target=[]
    · rw [if_pos c] at h
      have e:hards (x :: xs)=x.block :: hards xs:=by unfold hards;simp [c]
      rw [e] at hd
      split at h
      · cases h
      · rename_i l1 h1
        have g1:=hf _ _ _ h1
        have g2:=alo hf xs l1 l' (fun y hy=>hd y (List.mem_cons_of_mem _ hy)) h
        rw [hd x.block (by simp)] at g1
        exact ⟨fun y hy=>g2.1 y (g1.1 y hy),by omega⟩
    · rw [if_neg c] at h
      have e:hards (x :: xs)=hards xs:=by unfold hards;simp [c]
      rw [e] at hd
      exact alo hf xs l l' hd h
theorem ahc {p:Pr}:∀ (n:Nat) (l:List Int) (k:Int) (l':List Int),gathF p n l k=.ok l'→(∀ x,x ∈ l→x ∈ l')∧l'.length+un l'≤l.length+un l+dIn k
  | 0,l,k,l',h=>by cases h;exact ⟨fun _ h=>h,by omega⟩
  | n+1,l,k,l',h=>by
    unfold gathF at h
    split at h
    · cases h;exact ⟨fun _ h=>h,by omega⟩
    · rename_i c
      have am:=app_mu c
      split at h
      · cases h
      · split at h
        · cases h;exact ⟨fun x hx=>List.mem_append_left _ hx,by omega⟩
        · split at h
          · cases h
          · rename_i g hg
            have hi:=fun x=>tg_in (p:=p) (k:=k) (x:=x)
            have ht:p.tg k=hards g.links:=by unfold Pr.tg;rw [hg]
            rw [ht] at hi
            have:=alo (ahc n) g.links (l++[k]) l' (fun x hx=>hi x hx) h
            exact ⟨fun x hx=>this.1 x (List.mem_append_left _ hx),by omega⟩
def gOut:Except Int (List Int)→Out
  | .error c=>(.tup [.nil,.i .i64 c],[],[])
  | .ok l=>(.tup [.sl 0 0 l.length false,.i .i64 0],[],[rowI l])
theorem aot {p:Pr} {k:Int} {h:Hd} {g:Gr} (e:p.hdr k=some h) (eg:p.grp k=.ok g):g.hd=h:=by
  unfold Pr.grp at eg
  rw [e] at eg
  simp only at eg
  split at eg
  · cases eg
  · split at eg
    · split at eg
      · cases eg
      · split at eg
        · cases eg
        · cases eg;rfl
    · cases eg
theorem ahw {f:List Int→Int→Except Int (List Int)} (hf:∀ l k c,f l k=.error c→c≠0):∀ (ks:List Lk) (l:List Int) (c:Int),foldE f ks l=.error c→c≠0
  | [],l,c,h=>by cases h
  | x :: xs,l,c,h=>by
    rw [foldE] at h
    split at h
    · split at h
      · rename_i c' h1;cases h;exact hf _ _ _ h1
      · exact ahw hf xs _ c h
    · exact ahw hf xs _ c h
theorem aci {p:Pr}:∀ (n:Nat) (l:List Int) (k c:Int),gathF p n l k=.error c→c≠0
  | 0,l,k,c,h=>by cases h
  | n+1,l,k,c,h=>by
    unfold gathF at h
    split at h
    · cases h
    · split at h
      · cases h;decide
      · split at h
        · cases h
        · split at h
          · rename_i c' hg;cases h;have:=afd hg;omega
          · exact ahw (aci n) _ _ _ h
set_option maxHeartbeats 2000000 in
theorem ajp (q:Bool) (p:Pr) (h:p.Ok):∀ (n:Nat) (l:List Int) (k:Int),un l+dIn k<n→l.length+un l+dIn k≤256→∀ K:Out→Prop,
    Call prog 66 ⟨[.vp (prC q p),.sl 0 0 l.length false,.i .i64 k],[],[rowI l]⟩ K=K (gOut (gathF p n l k))
  | 0,l,k,h1,h2,K=>by omega
  | n+1,l,k,h1,h2,K=>by
    refine Zc (f:=66) rfl rfl (by decide) ?_
    have e0:=fun K=>ach false l k (by unfold lim;omega) K
    have e1:=fun K=>agi q p h k K
    have e2:=fun K=>ahy q p h k K
    by_cases c0:k ∈ l
    · have hG:gathF p (n+1) l k=.ok l:=by unfold gathF;rw [if_pos c0]
      rw [hG]
      simp -implicitDefEqProofs [e0,c0,rowI,gOut]
    · have c2:l.length+1≤lim:=by unfold lim;omega
      have am:=app_mu c0
      unfold hdrOut at e1
      cases c1:p.hdr k with
      | none=>
        simp only [c1] at e1
        have hG:gathF p (n+1) l k=.error 10:=by unfold gathF;rw [if_neg c0,c1]
        rw [hG]
        simp -implicitDefEqProofs [e0,e1,c0,c2,rowI,gOut]
      | some hd=>
        simp only [c1] at e1
        by_cases c3:hd.kind=1
        · unfold grpOut at e2
          cases c4:p.grp k with
          | error c=>
            simp only [c4] at e2
            have hG:gathF p (n+1) l k=.error c:=by unfold gathF;rw [if_neg c0,c1];simp only;rw [if_neg (by simp [c3]),c4]
            rw [hG]
            have hc:¬ c=0:=by have:=afd c4;omega
            simp -implicitDefEqProofs [e0,e1,e2,c0,c2,c3,hc,rowI,gOut]
          | ok g=>
            simp only [c4] at e2
            have hG:gathF p (n+1) l k=foldE (gathF p n) g.links (l++[k]):=by unfold gathF;rw [if_neg c0,c1];simp only;rw [if_neg (by simp [c3]),c4]
            rw [hG]
            have eg:=aot c1 c4
            rw [eg] at e2
            have hg:=(abh (abt c4)).1
            have hi:=fun x=>tg_in (p:=p) (k:=k) (x:=x)
            have ht:p.tg k=hards g.links:=by unfold Pr.tg;rw [c4]
            rw [ht] at hi
            simp -implicitDefEqProofs [e0,e1,e2,c0,c2,c3,rowI]
            refine WL_st (α:=Nat × List Int) (fun x=>⟨sp 66 [(0,.vp (prC q p)),(1,.sl 4 0 x.2.length false),(44,.sl 3 0 g.links.length false),(45,.i .i64 g.links.length),(46,.i .i64 x.1)],
                [[.i .i64 1,.i .i64 hd.refs,.sl 0 0 hd.msgs.length false],[.i .i64 k,.i .i64 1,.i .i64 hd.refs,.sl 1 0 hd.msgs.length false,.sl 2 0 g.heap.length false,.sl 3 0 g.links.length false]],
                [.row 3 false (hd.msgs.map msV),.row 3 false (hd.msgs.map msV),.row 1 false (g.heap.map .s),.row 3 false (g.links.map lkV),rowI x.2]⟩)
              (fun x=>g.links.length - x.1) (fun x=>foldE (gathF p n) g.links (l++[k])=foldE (gathF p n) (g.links.drop x.1) x.2∧x.1≤g.links.length∧un x.2<n∧x.2.length+un x.2≤256) (0,l++[k]) _ (by simp -implicitDefEqProofs [rowI]) ⟨by simp,by simp,by simp only;omega,by simp only;omega⟩ ?_
            rintro ⟨i,acc⟩ ⟨hP,hil,hu,hl⟩
            simp only at hP hil hu hl
            rw [hP]
            by_cases hlt:i<g.links.length
            · have hw:=wrap_i64 (n:=(i:Int)+1) (by omega) (by omega)
              rw [List.drop_eq_getElem_cons hlt,foldE]
              by_cases d1:g.links[i].target=[]
              · rw [if_pos d1]
                have hb:dIn g.links[i].block=0:=hi _ (List.mem_map_of_mem (List.mem_filter.2 ⟨List.getElem_mem hlt,by simpa using d1⟩))
                have e3:=fun K=>ajp q p h n acc g.links[i].block (by omega) (by omega) K
                cases r:gathF p n acc g.links[i].block with
                | error c=>
                  rw [r,gOut,rowI] at e3
                  have hc:=aci _ _ _ _ r
                  simp -implicitDefEqProofs [hlt,hw,lkV,d1,rowI,e3,hc,gOut]
                | ok l'=>
                  rw [r,gOut,rowI] at e3
                  have g1:=ahc _ _ _ _ r
                  have g2:=ah4 g1.1
                  simp -implicitDefEqProofs [hlt,hw,lkV,d1,rowI,e3]
                  exact NextS.mk (i+1,l') ⟨rfl,by simp only;omega,by simp only;omega,by simp only;omega⟩ (by simp only;omega) (by simp [rowI])
              · rw [if_neg d1]
                simp -implicitDefEqProofs [hlt,hw,lkV,d1,rowI]
                exact NextS.mk (i+1,acc) ⟨rfl,by simp only;omega,hu,hl⟩ (by simp only;omega) (by simp [rowI])
            · rw [List.drop_eq_nil_of_le (by omega),foldE]
              simp -implicitDefEqProofs [hlt,rowI,gOut]
        · have hG:gathF p (n+1) l k=.ok (l++[k]):=by unfold gathF;rw [if_neg c0,c1];exact if_pos c3
          rw [hG]
          simp -implicitDefEqProofs [e0,e1,c0,c2,c3,rowI,gOut]
end Go.VS
end
section
namespace Go.VS
set_option maxHeartbeats 2000000 in
theorem aio (q:Bool) (p:Pr) (h:p.Ok):∀ (n:Nat) (l:List Int) (k:Int),k ∉ l→un l+dIn k<n→l.length+un l+dIn k≤256→∀ K:Out→Prop,
    Call prog 65 ⟨[.vp (prC q p),.sl 0 0 l.length false,.i .i64 k],[],[rowI l]⟩ K=K (gOut (gathF p n l k))
  | 0,l,k,c0,h1,h2,K=>by omega
  | n+1,l,k,c0,h1,h2,K=>by
    refine Zc (f:=65) rfl rfl (by decide) ?_
    have e1:=fun K=>ail q p h k K
    have e2:=fun K=>ain q p h k K
    · have c2:l.length+1≤lim:=by unfold lim;omega
      have am:=app_mu c0
      unfold hdrOut at e1
      cases c1:p.hdr k with
      | none=>
        simp only [c1] at e1
        have hG:gathF p (n+1) l k=.error 10:=by unfold gathF;rw [if_neg c0,c1]
        rw [hG]
        simp -implicitDefEqProofs [e1,c0,c2,rowI,gOut]
      | some hd=>
        simp only [c1] at e1
        by_cases c3:hd.kind=1
        · unfold sgrpOut at e2
          cases c4:p.grp k with
          | error c=>
            simp only [c4] at e2
            have hG:gathF p (n+1) l k=.error c:=by unfold gathF;rw [if_neg c0,c1];simp only;rw [if_neg (by simp [c3]),c4]
            rw [hG]
            have hc:¬ c=0:=by have:=afd c4;omega
            simp -implicitDefEqProofs [e1,e2,c0,c2,c3,hc,rowI,gOut]
          | ok g=>
            simp only [c4] at e2
            have hG:gathF p (n+1) l k=foldE (gathF p n) g.links (l++[k]):=by unfold gathF;rw [if_neg c0,c1];simp only;rw [if_neg (by simp [c3]),c4]
            rw [hG]
            have eg:=aot c1 c4
            rw [eg] at e2
            have hg:=(abh (abt c4)).1
            have hi:=fun x=>tg_in (p:=p) (k:=k) (x:=x)
            have ht:p.tg k=hards g.links:=by unfold Pr.tg;rw [c4]
            rw [ht] at hi
            simp -implicitDefEqProofs [e1,e2,c0,c2,c3,rowI]
            refine WL_st (α:=Nat × List Int) (fun x=>⟨sp 75 [(0,.vp (prC q p)),(1,.sl 4 0 x.2.length false),(10,.ptr 1 0),(11,.i .i64 x.1)],
                [[.i .i64 1,.i .i64 hd.refs,.sl 0 0 hd.msgs.length false],[.i .i64 1,.i .i64 hd.refs,.sl 1 0 hd.msgs.length false,.sl 2 0 g.heap.length false,.sl 3 0 g.links.length false]],
                [.row 3 false (hd.msgs.map msV),.row 3 false (hd.msgs.map msV),.row 1 false (g.heap.map .s),.row 3 false (g.links.map lkV),rowI x.2]⟩)
              (fun x=>g.links.length - x.1) (fun x=>foldE (gathF p n) g.links (l++[k])=foldE (gathF p n) (g.links.drop x.1) x.2∧x.1≤g.links.length∧un x.2<n∧x.2.length+un x.2≤256) (0,l++[k]) _ (by simp -implicitDefEqProofs [rowI]) ⟨by simp,by simp,by simp only;omega,by simp only;omega⟩ ?_
            rintro ⟨i,acc⟩ ⟨hP,hil,hu,hl⟩
            simp only at hP hil hu hl
            rw [hP]
            by_cases hlt:i<g.links.length
            · have hw:=wrap_i64 (n:=(i:Int)+1) (by omega) (by omega)
              rw [List.drop_eq_getElem_cons hlt,foldE]
              by_cases d1:g.links[i].target=[]
              · rw [if_pos d1]
                have hb:dIn g.links[i].block=0:=hi _ (List.mem_map_of_mem (List.mem_filter.2 ⟨List.getElem_mem hlt,by simpa using d1⟩))
                have e4:=fun K=>ad0 false acc g.links[i].block (by unfold lim;omega) K
                by_cases d2:g.links[i].block ∈ acc
                · have r:gathF p n acc g.links[i].block=.ok acc:=by
                    cases n with
                    | zero=>rfl
                    | succ n=>unfold gathF;rw [if_pos d2]
                  rw [r]
                  simp -implicitDefEqProofs [hlt,hw,lkV,d1,d2,rowI,e4]
                  exact NextS.mk (i+1,acc) ⟨rfl,by simp only;omega,hu,hl⟩ (by simp only;omega) (by simp [rowI])
                have e3:=fun K=>aio q p h n acc g.links[i].block d2 (by omega) (by omega) K
                cases r:gathF p n acc g.links[i].block with
                | error c=>
                  rw [r,gOut,rowI] at e3
                  have hc:=aci _ _ _ _ r
                  simp -implicitDefEqProofs [hlt,hw,lkV,d1,d2,rowI,e3,e4,hc,gOut]
                | ok l'=>
                  rw [r,gOut,rowI] at e3
                  have g1:=ahc _ _ _ _ r
                  have g2:=ah4 g1.1
                  simp -implicitDefEqProofs [hlt,hw,lkV,d1,d2,rowI,e3,e4]
                  exact NextS.mk (i+1,l') ⟨rfl,by simp only;omega,by simp only;omega,by simp only;omega⟩ (by simp only;omega) (by simp [rowI])
              · rw [if_neg d1]
                simp -implicitDefEqProofs [hlt,hw,lkV,d1,rowI]
                exact NextS.mk (i+1,acc) ⟨rfl,by simp only;omega,hu,hl⟩ (by simp only;omega) (by simp [rowI])
            · rw [List.drop_eq_nil_of_le (by omega),foldE]
              simp -implicitDefEqProofs [hlt,rowI,gOut]
        · have hG:gathF p (n+1) l k=.ok (l++[k]):=by unfold gathF;rw [if_neg c0,c1];exact if_pos c3
          rw [hG]
          simp -implicitDefEqProofs [e1,c0,c2,c3,rowI,gOut]
end Go.VS
end
section
namespace Go.VS
set_option maxHeartbeats 2000000 in
theorem aq5 (q:Bool) (p:Pr) (h:p.Ok) (k:Int) (K:Out→Prop):
    Call prog 66 ⟨[.vp (prC q p),.nil,.i .i64 k],[],[]⟩ K=K (gOut (gathF p 257 [] k)):=by
    obtain ⟨n,hn⟩:∃ n,n=256:=⟨_,rfl⟩
    rw [show 257=n+1 by omega]
    refine Zc (f:=66) rfl rfl (by decide) ?_
    have e0:∀ K,Call prog 96 ⟨[.view true 1 [],.i .i64 k],[],[]⟩ K=K (.b false,[],[]):=fun K=>ach true [] k (by unfold lim;simp) K
    have c0:k ∉ ([]:List Int):=by simp
    have e1:=fun K=>agi q p h k K
    have e2:=fun K=>ahy q p h k K
    · have c2:1≤lim:=by unfold lim;omega
      have am:=app_mu c0
      have dk:dIn k≤1:=by unfold dIn;split <;> omega
      rw [un_nil] at am
      simp only [List.nil_append,List.length_nil] at am
      unfold hdrOut at e1
      cases c1:p.hdr k with
      | none=>
        simp only [c1] at e1
        have hG:gathF p (n+1) [] k=.error 10:=by unfold gathF;rw [if_neg c0,c1]
        rw [hG]
        simp -implicitDefEqProofs [e0,e1,c2,rowI,gOut]
      | some hd=>
        simp only [c1] at e1
        by_cases c3:hd.kind=1
        · unfold grpOut at e2
          cases c4:p.grp k with
          | error c=>
            simp only [c4] at e2
            have hG:gathF p (n+1) [] k=.error c:=by unfold gathF;rw [if_neg c0,c1];simp only;rw [if_neg (by simp [c3]),c4]
            rw [hG]
            have hc:¬ c=0:=by have:=afd c4;omega
            simp -implicitDefEqProofs [e0,e1,e2,c2,c3,hc,rowI,gOut]
          | ok g=>
            simp only [c4] at e2
            have hG:gathF p (n+1) [] k=foldE (gathF p n) g.links [k]:=by unfold gathF;rw [if_neg c0,c1];simp only;rw [if_neg (by simp [c3]),c4];rfl
            rw [hG]
            have eg:=aot c1 c4
            rw [eg] at e2
            have hg:=(abh (abt c4)).1
            have hi:=fun x=>tg_in (p:=p) (k:=k) (x:=x)
            have ht:p.tg k=hards g.links:=by unfold Pr.tg;rw [c4]
            rw [ht] at hi
            simp -implicitDefEqProofs [e0,e1,e2,c2,c3,rowI]
            refine WL_st (α:=Nat × List Int) (fun x=>⟨sp 66 [(0,.vp (prC q p)),(1,.sl 4 0 x.2.length false),(44,.sl 3 0 g.links.length false),(45,.i .i64 g.links.length),(46,.i .i64 x.1)],
                [[.i .i64 1,.i .i64 hd.refs,.sl 0 0 hd.msgs.length false],[.i .i64 k,.i .i64 1,.i .i64 hd.refs,.sl 1 0 hd.msgs.length false,.sl 2 0 g.heap.length false,.sl 3 0 g.links.length false]],
                [.row 3 false (hd.msgs.map msV),.row 3 false (hd.msgs.map msV),.row 1 false (g.heap.map .s),.row 3 false (g.links.map lkV),rowI x.2]⟩)
              (fun x=>g.links.length - x.1) (fun x=>foldE (gathF p n) g.links [k]=foldE (gathF p n) (g.links.drop x.1) x.2∧x.1≤g.links.length∧un x.2<n∧x.2.length+un x.2≤256) (0,[k]) _ (by simp -implicitDefEqProofs [rowI]) ⟨by simp,by simp,by simp only;omega,by simp only;omega⟩ ?_
            rintro ⟨i,acc⟩ ⟨hP,hil,hu,hl⟩
            simp only at hP hil hu hl
            rw [hP]
            by_cases hlt:i<g.links.length
            · have hw:=wrap_i64 (n:=(i:Int)+1) (by omega) (by omega)
              rw [List.drop_eq_getElem_cons hlt,foldE]
              by_cases d1:g.links[i].target=[]
              · rw [if_pos d1]
                have hb:dIn g.links[i].block=0:=hi _ (List.mem_map_of_mem (List.mem_filter.2 ⟨List.getElem_mem hlt,by simpa using d1⟩))
                have e3:=fun K=>ajp q p h n acc g.links[i].block (by omega) (by omega) K
                cases r:gathF p n acc g.links[i].block with
                | error c=>
                  rw [r,gOut,rowI] at e3
                  have hc:=aci _ _ _ _ r
                  simp -implicitDefEqProofs [hlt,hw,lkV,d1,rowI,e3,hc,gOut]
                | ok l'=>
                  rw [r,gOut,rowI] at e3
                  have g1:=ahc _ _ _ _ r
                  have g2:=ah4 g1.1
                  simp -implicitDefEqProofs [hlt,hw,lkV,d1,rowI,e3]
                  exact NextS.mk (i+1,l') ⟨rfl,by simp only;omega,by simp only;omega,by simp only;omega⟩ (by simp only;omega) (by simp [rowI])
              · rw [if_neg d1]
                simp -implicitDefEqProofs [hlt,hw,lkV,d1,rowI]
                exact NextS.mk (i+1,acc) ⟨rfl,by simp only;omega,hu,hl⟩ (by simp only;omega) (by simp [rowI])
            · rw [List.drop_eq_nil_of_le (by omega),foldE]
              simp -implicitDefEqProofs [hlt,rowI,gOut]
        · have hG:gathF p (n+1) [] k=.ok [k]:=by unfold gathF;rw [if_neg c0,c1];exact if_pos c3
          rw [hG]
          simp -implicitDefEqProofs [e0,e1,c2,c3,rowI,gOut]
def objF (p:Pr):Except Int (List Int):=if p.root=0 then .error 6 else gathF p 257 [] p.root
theorem anl (q:Bool) (p:Pr) (h:p.Ok) (K:Out→Prop):Call prog 32 ⟨[.vp (prC q p)],[],[]⟩ K=K (gOut (objF p)):=by
  refine Zc (f:=32) rfl rfl (by decide) ?_
  have e0:=fun K=>ata q p h K
  have e1:=fun K=>aq5 q p h p.root K
  unfold objF
  by_cases c0:p.root=0
  · rw [c0] at e0
    simp -implicitDefEqProofs [e0,c0,gOut]
  · rw [if_neg c0]
    cases r:gathF p 257 [] p.root with
    | error c=>rw [r,gOut] at e1;simp -implicitDefEqProofs [e0,e1,c0,gOut]
    | ok l=>rw [r,gOut,rowI] at e1;simp -implicitDefEqProofs [e0,e1,c0,gOut,rowI]
theorem ajy (q:Bool) (p:Pr) (h:p.Ok) (K:Out→Prop):Call prog 31 ⟨[.vp (prC q p)],[],[]⟩ K=K (gOut (objF p)):=by
  refine Zc (f:=31) rfl rfl (by decide) ?_
  have e0:=fun K=>aik q p h K
  have e1:∀ K,Call prog 65 ⟨[.vp (prC q p),.sl 0 0 0 false,.i .i64 p.root],[],[.row 1 false []]⟩ K=K (gOut (gathF p 257 [] p.root)):=by
    intro K
    have dk:dIn p.root≤1:=by unfold dIn;split <;> omega
    exact aio q p h 257 [] p.root (by simp) (by rw [un_nil];omega) (by rw [un_nil];simp only [List.length_nil];omega) K
  unfold objF
  by_cases c0:p.root=0
  · rw [c0] at e0
    simp -implicitDefEqProofs [e0,c0,gOut]
  · rw [if_neg c0]
    cases r:gathF p 257 [] p.root with
    | error c=>rw [r,gOut] at e1;simp -implicitDefEqProofs [e0,e1,c0,gOut]
    | ok l=>rw [r,gOut,rowI] at e1;simp -implicitDefEqProofs [e0,e1,c0,gOut,rowI]
def objOut (p:Pr):Except Int (List Int):=if p.ok=true then objF p else .error 1
theorem akd (q:Bool) (p:Pr) (h:p.sm) (K:Out→Prop):Call prog 12 ⟨[.agg (prC q p)],[],[]⟩ K=K (gOut (objOut p)):=by
  refine Zc (f:=12) rfl rfl (by decide) ?_
  have e0:=fun K=>ajd q p h K
  unfold objOut
  cases c0:p.ok with
  | false=>rw [c0] at e0;simp -implicitDefEqProofs [e0,gOut]
  | true=>
    rw [c0] at e0
    have e1:=fun K=>anl q p (Pr.ok_facts c0) K
    cases r:objF p with
    | error c=>rw [r,gOut] at e1;simp -implicitDefEqProofs [e0,e1,gOut]
    | ok l=>rw [r,gOut,rowI] at e1;simp -implicitDefEqProofs [e0,e1,gOut,rowI]
end Go.VS
end
