import Derived.Test.YtdnblconoegeaaaGreatDoorVwY3
set_option linter.all false
namespace Go.VS
set_option maxRecDepth 4000
def fpS (p:Pr) (n:Nat) (s:Bs) (m:List (Int × Bs)) (x:Lk):List (Int × Bs):=if aGet x.block m=none then fpF p n m x.block (joinP s x.name) else m
theorem alp (p:Pr) (n:Nat) (m:List (Int × Bs)) (k:Int) (s:Bs):fpF p (n+1) m k s=(hl p k).foldl (fpS p n s) (aSet k s m):=rfl
theorem afc {f:List (Int × Bs)→Lk→List (Int × Bs)} {b:Int} {v:Bs} (hf:∀ m x,aGet b m=some v→aGet b (f m x)=some v):∀ (l:List Lk) (m:List (Int × Bs)),aGet b m=some v→aGet b (l.foldl f m)=some v
  | [],_,h=>h
  | x :: l,m,h=>afc hf l (f m x) (hf _ _ h)
theorem apw {p:Pr} {b:Int} {v:Bs}:∀ (n:Nat) (m:List (Int × Bs)) (k:Int) (s:Bs),aGet k m=none→aGet b m=some v→aGet b (fpF p n m k s)=some v
  | 0,_,_,_,_,h=>h
  | n+1,m,k,s,hk,h=>by
    rw [alp]
    refine afc (fun m x hm=>?_) _ _ ?_
    · unfold fpS
      split
      · rename_i hx;exact apw n _ _ _ hx hm
      · exact hm
    · rw [agl,if_neg (fun e=>by rw [e,hk] at h;cases h)]
      exact h
theorem apz {p:Pr} {n:Nat} {s:Bs} {b:Int} {v:Bs} (m:List (Int × Bs)) (x:Lk) (hm:aGet b m=some v):aGet b (fpS p n s m x)=some v:=by
  unfold fpS
  split
  · rename_i hx;exact apw n _ _ _ hx hm
  · exact hm
theorem hl_lks (p:Pr) (k:Int):hl p k=hlF (lks p k):=by
  unfold hl lks
  cases p.grp k <;> rfl
def Eqk (l:List Int) (m:List (Int × Bs)):Prop:=∀ x,x ∈ l ↔ x ∈ mpK m
def SimR (a:Int) (r:Option Bs × List Int) (m:List (Int × Bs)):Prop:=match r with
  | (some q,_)=>aGet a m=some q
  | (none,l)=>Eqk l m∧a ∉ l
theorem amd {p:Pr} {a:Int} {n:Nat} (ih:∀ (l:List Int) (m:List (Int × Bs)) (k:Int) (s:Bs),Eqk l m→k ∉ l→a ∉ l→SimR a (skF p a n l k s) (fpF p n m k s)) (s:Bs):
    ∀ (xs:List Lk) (l:List Int) (m:List (Int × Bs)),Eqk l m→a ∉ l→SimR a (skL (skF p a n) s xs l) ((hlF xs).foldl (fpS p n s) m)
  | [],l,m,hk,ha=>⟨hk,ha⟩
  | x :: xs,l,m,hk,ha=>by
    by_cases ht:x.target=[]
    · have e:hlF (x :: xs)=x :: hlF xs:=by unfold hlF;simp [ht]
      rw [e,List.foldl_cons,skL]
      by_cases hx:x.block ∈ l
      · rw [if_neg (fun e=>e.2 hx)]
        have:fpS p n s m x=m:=by
          unfold fpS
          rw [if_neg (fun e=>arj.1 e ((hk _).1 hx))]
        rw [this]
        exact amd ih s xs l m hk ha
      · rw [if_pos ⟨ht,hx⟩]
        have hn:aGet x.block m=none:=arj.2 fun e=>hx ((hk _).2 e)
        have hs:fpS p n s m x=fpF p n m x.block (joinP s x.name):=by unfold fpS;rw [if_pos hn]
        rw [hs]
        have h1:=ih l m x.block (joinP s x.name) hk hx ha
        rcases hr:skF p a n l x.block (joinP s x.name) with ⟨o,l'⟩
        rw [hr] at h1
        cases o with
        | some q=>exact afc (fun m x hm=>apz m x hm) _ _ h1
        | none=>exact amd ih s xs l' _ h1.1 h1.2
    · have e:hlF (x :: xs)=hlF xs:=by unfold hlF;simp [ht]
      rw [e,skL,if_neg (fun e=>ht e.1)]
      exact amd ih s xs l m hk ha
theorem sk_fp {p:Pr} {a:Int}:∀ (n:Nat) (l:List Int) (m:List (Int × Bs)) (k:Int) (s:Bs),Eqk l m→k ∉ l→a ∉ l→SimR a (skF p a n l k s) (fpF p n m k s)
  | 0,l,m,k,s,hk,_,ha=>⟨hk,ha⟩
  | n+1,l,m,k,s,hk,hkl,ha=>by
    have hn:aGet k m=none:=arj.2 fun e=>hkl ((hk _).2 e)
    rw [alp]
    unfold skF
    by_cases c:k=a
    · rw [if_pos c]
      subst c
      exact afc (fun m x hm=>apz m x hm) _ _ (by rw [agl,if_pos rfl])
    · rw [if_neg c,hl_lks]
      refine amd (fun l m k s h1 h2 h3=>sk_fp n l m k s h1 h2 h3) s _ _ _ ?_ (by simp [ha];exact fun e=>c e.symm)
      intro x
      rw [ai1 k s m hn]
      simp only [mpK,List.map_append,List.map_cons,List.map_nil,List.mem_append,List.mem_singleton]
      exact or_congr (hk x) Iff.rfl
theorem atb (p:Pr) (a:Int) (n:Nat) (k:Int) (s:Bs):(skF p a n [] k s).1.getD []=(aGet a (fpF p n [] k s)).getD []:=by
  have h:=sk_fp (p:=p) (a:=a) n [] [] k s (fun x=>Iff.rfl) (by simp) (by simp)
  rcases hr:skF p a n [] k s with ⟨o,l⟩
  rw [hr] at h
  cases o with
  | some q=>rw [show aGet a (fpF p n [] k s)=some q from h]
  | none=>rw [arj.2 fun e=>h.2 ((h.1 a).2 e)]
theorem ahb {f:List Int→Int→Except Int (List Int)} (hf:∀ l k l',f l k=.ok l'→l <+: l'):∀ (ks:List Lk) (l l':List Int),foldE f ks l=.ok l'→l <+: l'
  | [],l,l',h=>by cases h;exact List.prefix_refl _
  | x :: xs,l,l',h=>by
    rw [foldE] at h
    split at h
    · split at h
      · cases h
      · rename_i l1 h1;exact (hf _ _ _ h1).trans (ahb hf xs l1 l' h)
    · exact ahb hf xs l l' h
theorem am5 {p:Pr}:∀ (n:Nat) (l:List Int) (k:Int) (l':List Int),gathF p n l k=.ok l'→l <+: l'
  | 0,l,k,l',h=>by cases h;exact List.prefix_refl _
  | n+1,l,k,l',h=>by
    unfold gathF at h
    split at h
    · cases h;exact List.prefix_refl _
    · split at h
      · cases h
      · split at h
        · cases h;exact List.prefix_append _ _
        · split at h
          · cases h
          · exact (List.prefix_append _ _).trans (ahb (am5 n) _ _ _ h)
theorem asu {p:Pr} {l:List Int} (h:objF p=.ok l):¬ p.root=0∧∃ t,l=p.root :: t:=by
  unfold objF at h
  split at h
  · cases h
  · rename_i hr
    refine ⟨hr,?_⟩
    rw [show 257=256+1 from rfl,gathF,if_neg (by simp)] at h
    have key:[p.root] <+: l:=by
      split at h
      · cases h
      · split at h
        · cases h;exact List.prefix_refl _
        · split at h
          · cases h
          · exact ahb (am5 256) _ _ _ h
    obtain ⟨t,ht⟩:=key
    exact ⟨t,ht.symm⟩
theorem aqm {p:Pr} {l:List Int} (h:objF p=.ok l):l.length≤256:=by
  unfold objF at h
  split at h
  · cases h
  · have:=(ahc _ _ _ _ h).2
    have dk:dIn p.root≤1:=by unfold dIn;split <;> omega
    rw [un_nil] at this
    simp only [List.length_nil] at this
    omega
def pathX (p:Pr) (a:Int):Bs:=(aGet a (fpF p 257 [] p.root [47])).getD []
def pathR (p:Pr) (a:Int):Bs × Int:=if p.ok=true then match objF p with
    | .error c=>([],c)
    | .ok l=>if a ∈ l then if (pathOf (pathX p a)).isSome=true then (pathX p a,0) else ([],2) else ([],3)
  else ([],1)
def poOut (p:Pr) (a:Int):Out:=(.tup [.s (pathR p a).1,.i .i64 (pathR p a).2],[],[])
theorem dIn_le (k:Int):dIn k≤1:=by unfold dIn;split <;> omega
theorem al3 (q:Bool) (p:Pr) (h:p.Ok) (a:Int) (K:Out→Prop):Call prog 296 ⟨[.vp (prC q p),.i .i64 a],[],[]⟩ K=K (.s (pathX p a),[],[]):=by
  refine Zc (f:=296) rfl rfl (by decide) ?_
  have dk:=dIn_le p.root
  have e0:=fun K=>aik q p h K
  have e1:=fun K=>aip q p h a 257 [] p.root [47] (by simp) (by rw [un_nil];omega) (by rw [un_nil];simp only [List.length_nil];omega) (by simp) K
  have e2:=atb p a 257 p.root [47]
  unfold skOut at e1
  simp only [e2,rowI,List.map_nil,List.length_nil,Tag_eq] at e1
  unfold pathX
  simp -implicitDefEqProofs [e0,e1]
def Lens (B:Nat) (m:List (Int × Bs)):Prop:=∀ b v,aGet b m=some v→v.length≤B
theorem ak1 {B:Nat} {f:List (Int × Bs)→Lk→List (Int × Bs)}:∀ (l:List Lk) (m:List (Int × Bs)),(∀ x,x ∈ l→∀ m,Lens B m→Lens B (f m x))→Lens B m→Lens B (l.foldl f m)
  | [],_,_,h=>h
  | x :: l,m,hf,h=>ak1 l (f m x) (fun y hy=>hf y (List.mem_cons_of_mem _ hy)) (hf x (by simp) _ h)
theorem apy {p:Pr} {B:Nat}:∀ (n:Nat) (m:List (Int × Bs)) (k:Int) (s:Bs),s.length+14*n≤B→Lens B m→Lens B (fpF p n m k s)
  | 0,_,_,_,_,h=>h
  | n+1,m,k,s,hs,h=>by
    rw [alp]
    refine ak1 _ _ (fun x hx m hm=>?_) ?_
    · unfold fpS
      split
      · have:=(hl_in hx).2.1
        refine apy n _ _ _ ?_ hm
        unfold joinP
        split <;> simp only [List.length_cons,List.length_append] <;> omega
      · exact hm
    · intro b v hb
      rw [agl] at hb
      split at hb
      · cases hb;omega
      · exact h b v hb
theorem anq (p:Pr) (a:Int):(pathX p a).length≤lim:=by
  unfold pathX
  cases h:aGet a (fpF p 257 [] p.root [47]) with
  | none=>simp [lim]
  | some v=>
    have:=apy (p:=p) (B:=10000) 257 [] p.root [47] (by simp) (fun b v hb=>by cases hb) a v h
    simp only [Option.getD_some]
    unfold lim
    omega
theorem an4 (q:Bool) (p:Pr) (h:p.sm) (a:Int) (K:Out→Prop):Call prog 287 ⟨[.agg (prC q p),.i .i64 a],[],[]⟩ K=K (poOut p a):=by
  refine Zc (f:=287) rfl rfl (by decide) ?_
  have e0:=fun K=>aq8 q p h K
  unfold poOut pathR
  cases c0:p.ok with
  | false=>rw [c0] at e0;simp -implicitDefEqProofs [e0]
  | true=>
    rw [c0] at e0
    have ok:=Pr.ok_facts c0
    have e1:=fun K=>ajy q p ok K
    have e3:=fun K=>al3 q p ok a K
    have e4:=fun K=>ae7 (pathX p a) (anq p a) K
    cases r:objF p with
    | error c=>
      rw [r,gOut] at e1
      have hc:¬ c=0:=by
        unfold objF at r
        split at r
        · cases r;decide
        · exact aci _ _ _ _ r
      simp -implicitDefEqProofs [e0,e1,hc]
    | ok l=>
      have hl:=aqm r
      have e2:=fun K=>ad0 false l a (by unfold lim;omega) K
      rw [r,gOut,rowI] at e1
      by_cases c1:a ∈ l
      · cases c2:(pathOf (pathX p a)).isSome with
        | false=>rw [c2] at e4;simp -implicitDefEqProofs [e0,e1,e2,e3,e4,c1,c2]
        | true=>rw [c2] at e4;simp -implicitDefEqProofs [e0,e1,e2,e3,e4,c1,c2]
      · simp -implicitDefEqProofs [e0,e1,e2,c1]
theorem aod (q:Bool) (p:Pr) (h:p.sm) (a:Int) (K:Out→Prop):Call prog 288 ⟨[.agg (prC q p),.i .i64 a],[],[]⟩ K=K (poOut p a):=by
  refine Zc (f:=288) rfl rfl (by decide) ?_
  have e0:=fun K=>akd q p h K
  unfold poOut pathR
  unfold objOut at e0
  cases c0:p.ok with
  | false=>rw [c0,if_neg (by simp),gOut] at e0;simp -implicitDefEqProofs [e0]
  | true=>
    rw [c0,if_pos rfl] at e0
    have ok:=Pr.ok_facts c0
    have e4:=fun K=>afl (pathX p a) (anq p a) K
    cases r:objF p with
    | error c=>
      rw [r,gOut] at e0
      have hc:¬ c=0:=by
        unfold objF at r
        split at r
        · cases r;decide
        · exact aci _ _ _ _ r
      simp -implicitDefEqProofs [e0,hc]
    | ok l=>
      have hl:=aqm r
      have h0:(∀ hq:0<l.length,l[0]=p.root)∧0<l.length:=by
        obtain ⟨_,t,rfl⟩:=asu r
        exact ⟨fun _=>rfl,by simp⟩
      have e2:=fun K=>ach false l a (by unfold lim;omega) K
      have dk:=dIn_le p.root
      have e3:=fun K=>agc q p ok 257 [] p.root [47] rfl (by rw [show mpK ([]:List (Int × Bs))=[] from rfl,un_nil];omega) (by simp) K
      have e5:∀ (t m x rs),mlkV ⟨t,m,x :: .row 0 false ((fpF p 257 [] p.root [47]).map (mpE V.s)) :: rs⟩ false (.s []) (.mr 1) (.i .i64 a) false=some (.s (pathX p a)):=by
        intro t m x rs
        rw [asr V.s t m (x :: .row 0 false ((fpF p 257 [] p.root [47]).map (mpE V.s)) :: rs) 1 a _ (fpF p 257 [] p.root [47]) rfl]
        unfold pathX
        cases aGet a (fpF p 257 [] p.root [47]) <;> rfl
      rw [r,gOut,rowI] at e0
      simp only [mpR,List.map_nil,Tag_eq] at e3
      by_cases c1:a ∈ l
      · cases c2:(pathOf (pathX p a)).isSome with
        | false=>rw [c2] at e4;simp -implicitDefEqProofs [e0,e2,e3,e4,e5,c1,c2,h0.1,h0.2]
        | true=>rw [c2] at e4;simp -implicitDefEqProofs [e0,e2,e3,e4,e5,c1,c2,h0.1,h0.2]
      · simp -implicitDefEqProofs [e0,e2,c1]
end Go.VS
