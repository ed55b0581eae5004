/-
  What the evaluator computes the machine computes: the instructions (second part), regions in any order, code, functions.
-/
import Derived.Test.YtmmbgajolgbhnaaGreatDoorA2
import Derived.MapKept
set_option linter.all false
section
namespace Go.VS
open Go
section
variable {φ:Nat→FuncId} {N:Env} {c:Cx} {s:St} {a:Act} {w:World} {h:Gh} {P:Program}
def Exd (h:Gh) (s:St) (xp:Xp) (b o:Nat):Prop:=
  (∃ (j id off k base len:Nat),xp.bl[j]?=some (id,off,k)∧h.B id=some (b,base,len)∧base+off≤o∧o<base+off+k)∨∃ id,id ∈ xp.rw∧RowAt h s id b
def RlX (h:Gh) (s:St) (xp:Xp) (b o:Nat):Prop:=h.Rl b o∨(Owned h s b o∧¬ Exd h s xp b o)
structure XpOk (s:St) (xp:Xp):Prop where
  bl:∀ (j id off k:Nat),xp.bl[j]?=some (id,off,k)→0<k∧off+k≤(s.m.getD id []).length
  dj:∀ (i j id off k off' k':Nat),i≠j→xp.bl[i]?=some (id,off,k)→xp.bl[j]?=some (id,off',k')→off+k≤off'∨off'+k'≤off
  rw:∀ id,id ∈ xp.rw→∃ z fz xs,s.r[id]?=some (.row z fz xs)
  nd:xp.rw.Nodup
theorem XpOk.mlen {xp:Xp} (X:XpOk s xp) {j id off k:Nat} (hj:xp.bl[j]?=some (id,off,k)):∃ cs,s.m[id]?=some cs∧off+k≤cs.length:=by
  obtain ⟨h1,h2⟩:=X.bl j id off k hj
  cases e:s.m[id]? with
  | none=>rw [List.getD_eq_getElem?_getD,e] at h2;simp at h2;omega
  | some cs=>rw [List.getD_eq_getElem?_getD,e] at h2;exact ⟨cs,rfl,h2⟩
theorem XpOk.exd_owned (S:Sim φ N c s a w h) {xp:Xp} (X:XpOk s xp) {b o:Nat} (he:Exd h s xp b o):Owned h s b o:=by
  rcases he with ⟨j,id,off,k,base,len,h1,h2,h3,h4⟩ | ⟨id,h1,h2⟩
  · obtain ⟨cs,hc,hl⟩:=X.mlen h1
    obtain ⟨b',base',hB,_⟩:=S.m id cs hc
    rw [h2] at hB;cases hB
    exact .inl ⟨id,base,base+cs.length,⟨cs,hc,h2,rfl⟩,by omega,by omega⟩
  · exact .inr ⟨id,h2⟩
theorem aek {id off k:Nat} {bl:List (Nat × Nat × Nat)} (h:clashes id off k bl=false) {j off' k':Nat} (hj:bl[j]?=some (id,off',k')):off'+k'≤off∨off+k≤off':=by
  unfold clashes at h
  rw [List.any_eq_false] at h
  have:=h _ (List.mem_of_getElem? hj)
  simp at this
  omega
theorem amu (S:Sim φ N c s a w h) {xp:Xp} (X:XpOk s xp) {id off k b base:Nat} {cs:List V} (hc:s.m[id]?=some cs) (hB:h.B id=some (b,base,cs.length)) (hcl:clashes id off k xp.bl=false) (hle:off+k≤cs.length) {j:Nat} (hj:j<k):
    RlX h s xp b (base+off+j):=by
  have hat:BlkAt h s id b base (base+cs.length):=⟨cs,hc,hB,rfl⟩
  have hown:Owned h s b (base+off+j):=.inl ⟨id,base,base+cs.length,hat,by omega,by omega⟩
  refine .inr ⟨hown,fun he=>?_⟩
  rcases he with ⟨i,id',off',k',base',len',h1,h2,h3,h4⟩ | ⟨id',h1,h2⟩
  · obtain ⟨cs',hc',hl'⟩:=X.mlen h1
    obtain ⟨b2,base2,hB2,_⟩:=S.m id' cs' hc'
    rw [h2] at hB2;cases hB2
    by_cases hid:id=id'
    · subst hid
      rw [hc] at hc';cases hc'
      rw [hB] at h2
      have hbb:base=base':=by simpa using h2
      subst hbb
      rcases aek hcl h1 with h5 | h5 <;> omega
    · rcases S.sM id id' b base (base+cs.length) base' (base'+cs'.length) hid (by omega) (by omega) hat ⟨cs',hc',h2,rfl⟩ with h5 | h5 <;> omega
  · exact S.sX id id' b base (base+cs.length) (by omega) hat h2
theorem aff (S:Sim φ N c s a w h) {xp:Xp} (X:XpOk s xp):∀ (n:Nat) (v:V) (y:Value),KOk φ w h v y→LOk φ w h.Rp (RlX h s xp) (lend s xp n v) y
  | 0,v,y,_=>.no y
  | n+1,v,y,hk=>by
    have hlR:∀ b o,h.Rl b o→RlX h s xp b o:=fun b o x=>.inl x
    have hmono:∀ {v:V} {y:Value},LOk φ w h.Rp h.Rl v y→LOk φ w h.Rp (RlX h s xp) v y:=fun x=>x.mono (fun _ _ _=>rfl) (fun _ _ _=>rfl) (fun _ _ x=>x) hlR
    cases hk with
    | l hl=>
      cases hl with
      | pl hp=>cases hp <;> exact hmono (.pl (by constructor <;> assumption))
      | no=>exact .no y
      | view z xs A cap f hc hz ha hv=>exact hmono (.view z xs A cap f hc hz ha hv)
      | vp cs b o f ha hv=>exact hmono (.vp cs b o f ha hv)
      | fn f caps cc hs hv=>
        refine .fn f _ cc (by simpa using hs) fun j v hj=>?_
        rw [List.getElem?_map] at hj
        obtain ⟨u,hu,rfl⟩:=Option.map_eq_some_iff.1 hj
        exact aff S X n u _ (.l (hv j u hu))
    | sl id lo k tg A cap g hg hn hc ht hl ha hmp=>
      simp only [lend]
      split
      · rename_i z xs hr
        obtain ⟨g',hg',hrow⟩:=S.r id z true xs (aae hr (by simp))
        rw [hg] at hg';cases hg'
        obtain ⟨f,r1,r2,r3,r4⟩:=ahq (R:=h.Rp) hrow hmp hn hc hl (fun b room hloc o=>hrow.rp hloc o)
        have:=POk.view (w:=w) (R:=h.Rp) z _ A cap f (by rw [r4];exact hc) r3 r1 r2
        rw [r4] at this
        exact .pl this
      · rename_i z xs hr
        split
        · exact .no _
        · rename_i hnin
          have hrs:=aae hr (by simp)
          obtain ⟨g',hg',hrow⟩:=S.r id z false xs hrs
          rw [hg] at hg';cases hg'
          obtain ⟨f,r1,r2,r3,r4⟩:=ahq (R:=RlX h s xp) hrow hmp hn hc hl (fun b room hloc o=>by
            have hat:RowAt h s id b:=⟨z,xs,g,room,hrs,hg,hloc⟩
            refine .inr ⟨.inr ⟨id,hat⟩,fun he=>?_⟩
            rcases he with ⟨i,id',off',k',base',len',h1,h2,h3,h4⟩ | ⟨id',h1,h2⟩
            · obtain ⟨cs',hc',hl'⟩:=X.mlen h1
              obtain ⟨b2,base2,hB2,_⟩:=S.m id' cs' hc'
              rw [h2] at hB2;cases hB2
              exact S.sX id' id b base' (base'+cs'.length) (by omega) ⟨cs',hc',h2,rfl⟩ hat
            · exact hnin (S.sW id id' b hat h2 ▸ h1))
          have:=LOk.view (φ:=φ) (w:=w) (Rp:=h.Rp) (Rl:=RlX h s xp) z _ A cap f (by rw [r4];exact hc) r3 r1 r2
          rw [r4] at this
          exact this
      · exact .no _
    | ptr id off b base len hB=>
      simp only [lend]
      split
      · exact .no _
      · rename_i hcl
        simp only [Bool.not_eq_true] at hcl
        cases hcs:s.m[id]? with
        | none=>exact absurd (S.bN id (List.getElem?_eq_none_iff.1 hcs)) (by rw [hB];simp)
        | some cs=>
          have hgd:s.m.getD id []=cs:=by rw [List.getD_eq_getElem?_getD,hcs];rfl
          rw [hgd] at hcl ⊢
          obtain ⟨b2,base2,hB2,cc,T,fr,hh,hsz,hcell,_⟩:=S.m id cs hcs
          rw [hB] at hB2;cases hB2
          refine .vp _ b (base+off) (fun j=>cc.getD (base+off+j) undef) (fun j hj=>?_) fun j v hj=>?_
          · rw [List.length_map,List.length_drop] at hj
            have hlt:base+off+j<cc.size:=by omega
            refine ⟨amu S X hcs hB hcl (by omega) hj,aa7 hh hlt,?_⟩
            have:=hcell (off+j) _ (List.getElem?_eq_getElem (by omega))
            rw [← Nat.add_assoc] at this
            exact this.2
          · rw [List.getElem?_map,List.getElem?_drop] at hj
            obtain ⟨u,hu,rfl⟩:=Option.map_eq_some_iff.1 hj
            have:=hcell _ _ hu
            rw [← Nat.add_assoc] at this
            exact aff S X n u _ this.1
    | mr=>exact .no _
    | ep id idx off b cap g hg hi hl hmp=>
      simp only [lend]
      split
      · rename_i z fz xs hr
        split
        · exact .no _
        · rename_i hnin
          have hrs:=aae hr (by simp)
          have hidx:idx<xs.length:=by
            obtain ⟨g',hg',hrow⟩:=S.r id z fz xs hrs
            rw [hg] at hg';cases hg'
            have:=(hrow.cells hmp).2.1
            omega
          have hex:xs[idx]?=some (xs.getD idx .no):=by rw [List.getD_eq_getElem?_getD,List.getElem?_eq_getElem hidx];rfl
          obtain ⟨e1,e2,cc,T,fr,e3,e4,e5,e6⟩:=ap8 S hrs hg hl hmp hex
          refine .vp _ b (idx*g.z+off) (fun j=>cc.getD (idx*z+off+j) undef) (fun j hj=>?_) fun j v hj=>?_
          · rw [List.length_drop] at hj
            have hlt:idx*z+off+j<cc.size:=by omega
            rw [e1]
            refine ⟨?_,aa7 e3 hlt,?_⟩
            · cases fz with
              | true=>
                obtain ⟨g',hg',hrow⟩:=S.r id z true xs hrs
                rw [hg] at hg';cases hg'
                exact .inl (S.pl _ _ (hrow.rp hl _))
              | false=>
                have hat:RowAt h s id b:=⟨z,xs,g,cap,hrs,hg,hl⟩
                refine .inr ⟨.inr ⟨id,hat⟩,fun he=>?_⟩
                rcases he with ⟨i,id',off',k',base',len',h1,h2,h3,h4⟩ | ⟨id',h1,h2⟩
                · obtain ⟨cs',hc',hl'⟩:=X.mlen h1
                  obtain ⟨b2,base2,hB2,_⟩:=S.m id' cs' hc'
                  rw [h2] at hB2;cases hB2
                  exact S.sX id' id b base' (base'+cs'.length) (by omega) ⟨cs',hc',h2,rfl⟩ hat
                · exact hnin ⟨rfl,S.sW id id' b hat h2 ▸ h1⟩
            · have:=e6 (off+j) _ (List.getElem?_eq_getElem (by omega))
              rw [← Nat.add_assoc] at this
              exact this.2
          · rw [List.getElem?_drop] at hj
            have:=e6 _ _ hj
            rw [← Nat.add_assoc] at this
            exact .pl this.1
      · exact .no _
    | fn f caps cc hs hv=>
      refine .fn f _ cc (by simpa using hs) fun j v hj=>?_
      rw [List.getElem?_map] at hj
      obtain ⟨u,hu,rfl⟩:=Option.map_eq_some_iff.1 hj
      exact aff S X n u _ (hv j u hu)
theorem at1 (S:Sim φ N c s a w h) {xp:Xp} (X:XpOk s xp) (k:Nat) {v:V} {y:Value} (hv:VOk φ w h v y) {h0:Gh} (h1:∀ b o,h.Rp b o→h0.Rp b o) (h2:∀ b o,RlX h s xp b o→h0.Rl b o):VOk φ w h0 (lendA s xp k v) y:=by
  have up:∀ {v:V} {y:Value},LOk φ w h.Rp (RlX h s xp) v y→LOk φ w h0.Rp h0.Rl v y:=fun x=>x.mono (fun _ _ _=>rfl) (fun _ _ _=>rfl) h1 h2
  cases hv with
  | k hk=>
    have base:VOk φ w h0 (match lend s xp 4 v with | .vp cs=>if k=0 then .vp cs else .vp (cs.take k) | v=>v) y:=by
      have hl:=up (aff S X 4 v y hk)
      split
      · rename_i cs e
        rw [e] at hl
        split
        · exact .k (.l hl)
        · cases hl with
          | pl hp=>cases hp
          | vp cs b o f ha hv=>
            refine .k (.l (.vp _ b o f (fun j hj=>ha j (by rw [List.length_take] at hj;omega)) fun j v hj=>?_))
            have hlt:=(List.getElem?_eq_some_iff.1 hj).1
            rw [List.length_take] at hlt
            rw [List.getElem?_take_of_lt (by omega)] at hj
            exact hv j v hj
      · exact .k (.l hl)
    cases v with
    | nil=>
      simp only [lendA]
      split
      · exact .k (.l (up (aff S X 4 _ y hk)))
      · cases hk with
        | l hl=>cases hl with
          | pl hp=>
            cases hp
            exact .k (.l (.pl (.view _ [] none 0 (fun _=>undef) (Nat.le_refl _) (fun x hx=>by simp at hx) (fun h0=>by simp [flat] at h0) (fun j v hj=>by simp [flat] at hj))))
    | ptr id off=>
      simp only [lendA]
      split
      · exact .k (.l (up (aff S X 4 _ y hk)))
      · split
        · exact .mkno _
        · rename_i hk0 hcl
          simp only [Bool.not_eq_true] at hcl
          obtain ⟨b,bb,len,hB,rfl⟩:=(VOk.k hk).ptr_inv
          cases hcs:s.m[id]? with
          | none=>exact absurd (S.bN id (List.getElem?_eq_none_iff.1 hcs)) (by rw [hB];simp)
          | some cs=>
            have hgd:s.m.getD id []=cs:=by rw [List.getD_eq_getElem?_getD,hcs];rfl
            rw [hgd]
            obtain ⟨b2,base2,hB2,cc,T,fr,hh,hsz,hcell,_⟩:=S.m id cs hcs
            rw [hB] at hB2;cases hB2
            refine .k (.l (.vp _ b (bb+off) (fun j=>cc.getD (bb+off+j) undef) (fun j hj=>?_) fun j v hj=>?_))
            · rw [List.length_map,List.length_take,List.length_drop] at hj
              have hlt:bb+off+j<cc.size:=by omega
              have hcl':clashes id off (min k (cs.length - off)) xp.bl=false:=by
                unfold clashes at hcl ⊢
                rw [List.any_eq_false] at hcl ⊢
                intro x hx
                have:=hcl x hx
                simp at this ⊢
                omega
              refine ⟨h2 _ _ (amu S X hcs hB hcl' (by omega) hj),aa7 hh hlt,?_⟩
              have:=hcell (off+j) _ (List.getElem?_eq_getElem (by omega))
              rw [← Nat.add_assoc] at this
              exact this.2
            · rw [List.getElem?_map] at hj
              obtain ⟨u,hu,rfl⟩:=Option.map_eq_some_iff.1 hj
              have hlt:=(List.getElem?_eq_some_iff.1 hu).1
              rw [List.length_take] at hlt
              rw [List.getElem?_take_of_lt (by omega),List.getElem?_drop] at hu
              have:=hcell _ _ hu
              rw [← Nat.add_assoc] at this
              exact up (aff S X 3 u _ this.1)
    | _=>exact base
  | agg cs cc hs hv=>
    simp only [lendA,lend]
    refine .agg _ cc (by simpa using hs) fun j v hj=>?_
    rw [List.getElem?_map] at hj
    obtain ⟨u,hu,rfl⟩:=Option.map_eq_some_iff.1 hj
    exact ⟨.l (up (aff S X 3 u _ (hv j u hu).1)),(hv j u hu).2⟩
  | tup vs cc hs hv=>
    simp only [lendA,lend]
    exact .mkno _
end
end Go.VS
end
section
namespace Go.VS
open Go
section
variable {φ:Nat→FuncId} {N:Env} {c:Cx} {s:St} {a:Act} {w:World} {h:Gh} {P:Program}
def Hx (h:Gh) (xp:Xp):Gh where
  Rp:=h.Rp
  Rl:=h.Rl
  B:=fun j=>(xp.bl[j]?).bind fun x=>(h.B x.1).map fun y=>(y.1,y.2.1+x.2.1,x.2.2)
  G:=fun j=>(xp.rw[j]?).bind h.G
structure Pre (xp xp':Xp):Prop where
  bl:∀ (j:Nat) (x:Nat × Nat × Nat),xp.bl[j]?=some x→xp'.bl[j]?=some x
  rw:∀ (j:Nat) (x:Nat),xp.rw[j]?=some x→xp'.rw[j]?=some x
  ln:xp.bl.length≤xp'.bl.length
theorem Pre.refl (xp:Xp):Pre xp xp:=⟨fun _ _ x=>x,fun _ _ x=>x,Nat.le_refl _⟩
theorem Pre.trans {x y z:Xp} (a:Pre x y) (b:Pre y z):Pre x z:=⟨fun j u e=>b.bl j u (a.bl j u e),fun j u e=>b.rw j u (a.rw j u e),Nat.le_trans a.ln b.ln⟩
theorem Pre.le {xp xp':Xp} (p:Pre xp xp'):(Hx h xp).Le (Hx h xp') w w where
  p:=fun _ _ x=>x
  l:=fun _ _ x=>x
  kp:=fun _ _ _=>rfl
  kl:=fun _ _ _=>rfl
  B:=fun j x e=>by
    simp only [Hx] at e ⊢
    obtain ⟨u,h1,h2⟩:=Option.bind_eq_some_iff.1 e
    rw [p.bl j u h1];exact h2
  G:=fun j x e=>by
    simp only [Hx] at e ⊢
    obtain ⟨u,h1,h2⟩:=Option.bind_eq_some_iff.1 e
    rw [p.rw j u h1];exact h2
theorem ai6 {id off k:Nat}:∀ {bl:List (Nat × Nat × Nat)} {i j o:Nat},findBl id off k bl i=some (j,o)→∃ off' k',bl[j - i]?=some (id,off',k')∧i≤j∧off'≤off∧o=off - off'
  | [],i,j,o,e=>by simp [findBl] at e
  | (id',off',k') :: bs,i,j,o,e=>by
    simp only [findBl] at e
    split at e
    · rename_i hc
      cases e
      obtain ⟨rfl,h1,h2⟩:=hc
      exact ⟨off',k',by simp,Nat.le_refl _,h1,rfl⟩
    · obtain ⟨o1,k1,h1,h2,h3,h4⟩:=ai6 e
      refine ⟨o1,k1,?_,by omega,h3,h4⟩
      rw [show j - i=(j - (i+1))+1 by omega]
      exact h1
theorem ard (S:Sim φ N c s a w h) {xp xp':Xp} (X:XpOk s xp) {k:Nat} {v v':V} {y:Value} (hk:KOk φ w h v y) (he:expL s k v xp=some (v',xp')):XpOk s xp'∧Pre xp xp'∧KOk φ w (Hx h xp') v' y:=by
  unfold expL at he
  split at he
  · rename_i id off
    obtain ⟨b,base,len,hB,rfl⟩:=(VOk.k hk).ptr_inv
    simp only at he
    generalize hkk:(if k=0 then (s.m.getD id []).length - off else k)=kk at he
    split at he
    · rename_i j o e
      cases he
      obtain ⟨off',k',h1,_,h3,rfl⟩:=ai6 e
      refine ⟨X,.refl _,?_⟩
      have:=KOk.ptr (φ:=φ) (w:=w) (h:=Hx h xp) j (off - off') b (base+off') k' (by simp only [Hx];rw [Nat.sub_zero] at h1;rw [h1];simp [hB])
      rwa [show base+off'+(off - off')=base+off by omega] at this
    · split at he
      · rename_i hc
        obtain ⟨c1,c2,c3⟩:=hc
        cases he
        have pre:Pre xp { xp with bl:=xp.bl++[(id,off,kk)] }:=⟨fun j x e=>by rw [List.getElem?_append_left (List.getElem?_eq_some_iff.1 e).1];exact e,fun _ _ e=>e,by simp⟩
        refine ⟨⟨fun j id' off' k' e=>?_,fun i j id' off1 k1 off2 k2 hij e1 e2=>?_,X.rw,X.nd⟩,pre,?_⟩
        · rcases getElem?_snoc e with ⟨_,e⟩ | ⟨_,e⟩
          · exact X.bl j id' off' k' e
          · cases e;exact ⟨c2,c3⟩
        · rcases getElem?_snoc e1 with ⟨_,e1⟩ | ⟨g1,e1⟩ <;> rcases getElem?_snoc e2 with ⟨_,e2⟩ | ⟨g2,e2⟩
          · exact X.dj i j id' off1 k1 off2 k2 hij e1 e2
          · cases e2
            rcases aek c1 e1 with h | h <;> omega
          · cases e1
            rcases aek c1 e2 with h | h <;> omega
          · omega
        · have:=KOk.ptr (φ:=φ) (w:=w) (h:=Hx h { xp with bl:=xp.bl++[(id,off,kk)] }) xp.bl.length 0 b (base+off) kk (by simp [Hx,hB])
          rwa [Nat.add_zero] at this
      · cases he
  · rename_i id lo n tg
    obtain ⟨A,cap,g,rfl,hg,f2,f3,f4,f5,f6⟩:=(VOk.k hk).sl_inv2
    have f7:=(VOk.k hk).sl_mp hg
    split at he
    · rename_i z fz xs hr
      split at he
      · rename_i hin
        cases he
        refine ⟨X,.refl _,.sl _ lo n tg A cap g ?_ f2 f3 f4 f5 f6 f7⟩
        simp only [Hx]
        rw [List.getElem?_eq_getElem (List.idxOf_lt_length_of_mem hin)]
        simp [hg]
      · rename_i hnin
        cases he
        have pre:Pre xp { xp with rw:=xp.rw++[id] }:=⟨fun _ _ e=>e,fun j x e=>by rw [List.getElem?_append_left (List.getElem?_eq_some_iff.1 e).1];exact e,Nat.le_refl _⟩
        refine ⟨⟨X.bl,X.dj,fun i hi=>?_,?_⟩,pre,.sl _ lo n tg A cap g ?_ f2 f3 f4 f5 f6 f7⟩
        · rcases List.mem_append.1 hi with hi | hi
          · exact X.rw i hi
          · rw [List.mem_singleton.1 hi]
            exact ⟨z,fz,xs,aae hr (by simp)⟩
        · refine List.nodup_append.2 ⟨X.nd,by simp,fun x hx y hy e=>?_⟩
          rw [List.mem_singleton.1 hy] at e
          exact hnin (e ▸ hx)
        · simp [Hx,hg]
    · cases he
  · rename_i id
    obtain ⟨b,cap,g,hg,hl,hp,rfl⟩:=(VOk.k hk).mr_inv
    split at he
    · rename_i z fz xs hr
      split at he
      · rename_i hin
        cases he
        refine ⟨X,.refl _,.mr _ b cap g ?_ hl hp⟩
        simp only [Hx]
        rw [List.getElem?_eq_getElem (List.idxOf_lt_length_of_mem hin)]
        simp [hg]
      · rename_i hnin
        cases he
        have pre:Pre xp { xp with rw:=xp.rw++[id] }:=⟨fun _ _ e=>e,fun j x e=>by rw [List.getElem?_append_left (List.getElem?_eq_some_iff.1 e).1];exact e,Nat.le_refl _⟩
        refine ⟨⟨X.bl,X.dj,fun i hi=>?_,?_⟩,pre,.mr _ b cap g ?_ hl hp⟩
        · rcases List.mem_append.1 hi with hi | hi
          · exact X.rw i hi
          · rw [List.mem_singleton.1 hi]
            exact ⟨z,fz,xs,aae hr (by simp)⟩
        · refine List.nodup_append.2 ⟨X.nd,by simp,fun x hx y hy e=>?_⟩
          rw [List.mem_singleton.1 hy] at e
          exact hnin (e ▸ hx)
        · simp [Hx,hg]
    · cases he
  · cases he
  · cases he
  · cases he
  · cases he
  · rename_i v0 h1 h2 h5 h3 h4 h6 h7
    cases he
    refine ⟨X,.refl _,?_⟩
    cases hk with
    | l hl=>exact .l hl
    | sl=>exact absurd rfl (h2 _ _ _ _)
    | ptr=>exact absurd rfl (h1 _ _)
    | mr=>exact absurd rfl (h5 _)
    | ep=>exact absurd rfl (h3 _ _ _)
    | fn=>exact absurd rfl (h4 _ _)
theorem agw (S:Sim φ N c s a w h) {k:Nat}:∀ (vs:List V) {xp xp':Xp} {vs':List V} (f:Nat→Value),XpOk s xp→(∀ j v,vs[j]?=some v→KOk φ w h v (f j))→expLs s k vs xp=some (vs',xp') →
    XpOk s xp'∧Pre xp xp'∧vs'.length=vs.length∧∀ j v,vs'[j]?=some v→KOk φ w (Hx h xp') v (f j)
  | [],xp,xp',vs',f,X,_,he=>by cases he;exact ⟨X,.refl _,rfl,fun j v hj=>by simp at hj⟩
  | v :: vs,xp,xp',vs',f,X,hv,he=>by
    simp only [expLs] at he
    split at he
    · rename_i v1 x1 e1
      split at he
      · rename_i vs1 x2 e2
        cases he
        obtain ⟨X1,p1,k1⟩:=ard S X (hv 0 v rfl) e1
        obtain ⟨X2,p2,l2,k2⟩:=agw S vs (fun j=>f (j+1)) X1 (fun j u hj=>hv (j+1) u (by simpa using hj)) e2
        refine ⟨X2,p1.trans p2,by simp [l2],fun j u hj=>?_⟩
        cases j with
        | zero=>cases hj;exact k1.mono p2.le
        | succ j=>exact k2 j u (by simpa using hj)
      · cases he
    · cases he
theorem au1 (S:Sim φ N c s a w h) {xp xp':Xp} (X:XpOk s xp) {k:Nat} {v v':V} {y:Value} (hv:VOk φ w h v y) (he:expV s k v xp=some (v',xp')):XpOk s xp'∧Pre xp xp'∧VOk φ w (Hx h xp') v' y:=by
  unfold expV at he
  split at he
  · split at he
    · rename_i cs _ cs' x1 e1
      cases he
      obtain ⟨cc,rfl,hs,hall⟩:=hv.agg_inv
      obtain ⟨X1,p1,l1,k1⟩:=agw S cs (fun j=>cc.getD j undef) X (fun j u hj=>(hall j u hj).1) e1
      refine ⟨X1,p1,.agg cs' cc (by rw [hs,l1]) fun j u hj=>⟨k1 j u hj,?_⟩⟩
      have hlt:=(List.getElem?_eq_some_iff.1 hj).1
      exact (hall j _ (List.getElem?_eq_getElem (by omega))).2
    · cases he
  · split at he
    · rename_i f caps _ cs' x1 e1
      cases he
      obtain ⟨cc,rfl,hs,hall⟩:=hv.fn_inv
      obtain ⟨X1,p1,l1,k1⟩:=agw S caps (fun j=>cc.getD j undef) X hall e1
      exact ⟨X1,p1,.k (.fn f cs' cc (by rw [hs,l1]) k1)⟩
    · cases he
  · rename_i h1 h2
    cases hv with
    | k hk=>
      obtain ⟨X1,p1,k1⟩:=ard S X hk he
      exact ⟨X1,p1,.k k1⟩
    | agg cs cc hs hv=>exact absurd rfl (h1 _)
    | tup vs cc hs hv=>cases he
theorem ak9 (S:Sim φ N c s a w h):∀ (as:List (X × Md)) {xp xp':Xp} {vs:List V} (f:Nat→Value),XpOk s xp→(∀ j x m,as[j]?=some (x,m)→VOk φ w h (s.ev x) (f j))→expAs s as xp=some (vs,xp') →
    XpOk s xp'∧Pre xp xp'∧vs.length=as.length∧∀ j x k v,as[j]?=some (x,.m k)→vs[j]?=some v→VOk φ w (Hx h xp') v (f j)
  | [],xp,xp',vs,f,X,_,he=>by cases he;exact ⟨X,.refl _,rfl,fun j x k v hj=>by simp at hj⟩
  | (x,.b k) :: as,xp,xp',vs,f,X,hv,he=>by
    simp only [expAs] at he
    split at he
    · rename_i vs1 x1 e1
      cases he
      obtain ⟨X1,p1,l1,k1⟩:=ak9 S as (fun j=>f (j+1)) X (fun j x m hj=>hv (j+1) x m (by simpa using hj)) e1
      refine ⟨X1,p1,by simp [l1],fun j x k v hj hv=>?_⟩
      cases j with
      | zero=>cases hj
      | succ j=>exact k1 j x k v (by simpa using hj) (by simpa using hv)
    · cases he
  | (x,.m k) :: as,xp,xp',vs,f,X,hv,he=>by
    simp only [expAs] at he
    split at he
    · rename_i v1 x1 e1
      split at he
      · rename_i vs2 x2 e2
        cases he
        obtain ⟨X1,p1,k1⟩:=au1 S X (hv 0 x (.m k) rfl) e1
        obtain ⟨X2,p2,l2,k2⟩:=ak9 S as (fun j=>f (j+1)) X1 (fun j x m hj=>hv (j+1) x m (by simpa using hj)) e2
        refine ⟨X2,p1.trans p2,by simp [l2],fun j x k v hj hv=>?_⟩
        cases j with
        | zero=>cases hj;cases hv;exact k1.mono p2.le
        | succ j=>exact k2 j x k v (by simpa using hj) (by simpa using hv)
      · cases he
    · cases he
theorem BlkOk.mono' {h':Gh} (hle:h.Le h' w w) {cs:List V} {b base:Nat} (hb:BlkOk N φ w h cs b base):BlkOk N φ w h' cs b base:=by
  obtain ⟨cc,T,fr,h1,h2,h3,h4⟩:=hb
  exact ⟨cc,T,fr,h1,h2,fun j v hj=>(h3 j v hj).mono hle,h4⟩
theorem apf (s:St) (k:Nat):∀ (vs:List V) {xp xp':Xp} {vs':List V},expLs s k vs xp=some (vs',xp')→∀ i:Nat,vs'[i]?=some V.bz→vs[i]?=some V.bz
  | [],_,_,_,he,i,hi=>by cases he;simp at hi
  | v :: vs,xp,xp',vs',he,i,hi=>by
    simp only [expLs] at he
    split at he
    · rename_i v1 xp1 e1
      split at he
      · rename_i e2
        cases he
        cases i with
        | zero=>
          rw [List.getElem?_cons_zero] at hi ⊢
          cases hi
          cases v <;> simp only [expL] at e1 <;> first
            | rfl
            | (cases e1;done)
            | ((repeat' split at e1) <;> cases e1)
        | succ i=>exact apf s k vs e2 i (by simpa using hi)
      · cases he
    · cases he
theorem apd (S:Sim φ N c s a w h):∀ (fuel j:Nat) {xp xp':Xp} {bs:List (List V)},XpOk s xp→j≤xp.bl.length→expBl s fuel j xp=some (bs,xp') →
    XpOk s xp'∧Pre xp xp'∧j+bs.length=xp'.bl.length∧∀ i cs,bs[i]?=some cs→∃ b base,(Hx h xp').B (j+i)=some (b,base,cs.length)∧BlkOk N φ w (Hx h xp') cs b base
  | 0,_,_,_,_,_,_,he=>by simp [expBl] at he
  | fuel+1,j,xp,xp',bs,X,hj,he=>by
    simp only [expBl] at he
    split at he
    · rename_i hn
      cases he
      have:=List.getElem?_eq_none_iff.1 hn
      exact ⟨X,.refl _,by simp;omega,fun i cs hi=>by simp at hi⟩
    · rename_i id off k hj1
      split at he
      · cases he
      · rename_i cs hr
        split at he
        · cases he
        · split at he
          · rename_i cs' x1 e1
            split at he
            · rename_i bs1 x2 e2
              cases he
              obtain ⟨cs0,hc0,hl0⟩:=X.mlen hj1
              have hgd:s.m.getD id []=cs0:=by rw [List.getD_eq_getElem?_getD,hc0];rfl
              rw [hgd] at hr
              obtain ⟨r1,r2⟩:=ac9 hr
              obtain ⟨b,base,hB,cc,T,fr,hh,hsz,hcell,hfr⟩:=S.m id cs0 hc0
              have hcs:∀ i v,cs[i]?=some v→COk φ w h v (cc.getD (base+off+i) undef):=by
                intro i v hi
                have hlt:=(List.getElem?_eq_some_iff.1 hi).1
                rw [r2 i (by omega)] at hi
                have:=hcell _ v hi
                rwa [← Nat.add_assoc] at this
              obtain ⟨X1,p1,l1,k1⟩:=agw S cs (fun i=>cc.getD (base+off+i) undef) X (fun i v hi=>(hcs i v hi).1) e1
              obtain ⟨X2,p2,l2,k2⟩:=apd S fuel (j+1) X1 (by have:=p1.ln;have:=(List.getElem?_eq_some_iff.1 hj1).1;omega) e2
              refine ⟨X2,p1.trans p2,by rw [← l2,List.length_cons];omega,fun i ds hi=>?_⟩
              cases i with
              | zero=>
                cases hi
                have hx:=p2.bl j _ (p1.bl j _ hj1)
                refine ⟨b,base+off,by simp [Hx,hx,hB];omega,cc,T,fr,hh,by omega,fun i v hi=>⟨(k1 i v hi).mono p2.le,?_⟩,fun h0=>hfr.1 (by omega),fun i hi=>?_⟩
                · have hlt:=(List.getElem?_eq_some_iff.1 hi).1
                  exact (hcs i _ (List.getElem?_eq_getElem (by omega))).2
                · have h0:=apf s 0 cs e1 i hi
                  have hlt:=(List.getElem?_eq_some_iff.1 h0).1
                  rw [r2 i (by omega)] at h0
                  have:=hfr.2 _ h0
                  exact ⟨this.1,this.2.1,by omega⟩
              | succ i=>
                have:=k2 i ds (by simpa using hi)
                rwa [show j+1+i=j+(i+1) by omega] at this
            · cases he
          · cases he
end
end Go.VS
end
section
namespace Go.VS
open Go
section
variable {φ:Nat→FuncId} {N:Env} {c:Cx} {s:St} {a:Act} {w:World} {h:Gh} {P:Program}
def enterCx (pn:Bool) (h:Gh) (s:St) (xp:Xp) (w:World):Cx:=⟨w,Exd h s xp,h.Rp,RlX h s xp,(Hx h xp).B,fun j=>if pn then (Hx h xp).G j else none⟩
def enterGh (h:Gh) (s:St) (xp:Xp):Gh:={ Hx h xp with Rl:=RlX h s xp }
theorem Hx.le_enter (xp:Xp):(Hx h xp).Le (enterGh h s xp) w w:=
  ⟨fun _ _ x=>x,fun _ _ x=>.inl x,fun _ _ _=>rfl,fun _ _ _=>rfl,fun _ _ x=>x,fun _ _ x=>x⟩
theorem afg (s:St) (xp:Xp):∀ (as:List (X × Md)) (vs:List V),vs.length=as.length→(lends s xp as vs).length=as.length
  | [],[],_=>rfl
  | (x,.b k) :: as,v :: vs,hl=>by simp only [lends,List.length_cons];rw [afg s xp as vs (by simpa using hl)]
  | (x,.m k) :: as,v :: vs,hl=>by simp only [lends,List.length_cons];rw [afg s xp as vs (by simpa using hl)]
  | [],_ :: _,hl=>by simp at hl
  | _ :: _,[],hl=>by simp at hl
theorem aji (s:St) (xp:Xp):∀ (as:List (X × Md)) (vs:List V) (j:Nat) (v:V),vs.length=as.length→(lends s xp as vs)[j]?=some v →
    (∃ x k,as[j]?=some (x,.b k)∧v=lendA s xp k (s.ev x))∨∃ x k,as[j]?=some (x,.m k)∧vs[j]?=some v
  | [],[],j,v,_,hj=>by simp [lends] at hj
  | (x,.b k) :: as,u :: vs,j,v,hl,hj=>by
    cases j with
    | zero=>simp only [lends] at hj;cases hj;exact .inl ⟨x,k,rfl,rfl⟩
    | succ j=>simp only [lends] at hj;exact aji s xp as vs j v (by simpa using hl) (by simpa using hj)
  | (x,.m k) :: as,u :: vs,j,v,hl,hj=>by
    cases j with
    | zero=>simp only [lends] at hj;cases hj;exact .inr ⟨x,k,rfl,rfl⟩
    | succ j=>simp only [lends] at hj;exact aji s xp as vs j v (by simpa using hl) (by simpa using hj)
  | [],_ :: _,_,_,hl,_=>by simp at hl
  | _ :: _,[],_,_,hl,_=>by simp at hl
theorem Hx.B_inv {xp:Xp} {j b base k:Nat} (hB:(Hx h xp).B j=some (b,base,k)):∃ id off base0 len,xp.bl[j]?=some (id,off,k)∧h.B id=some (b,base0,len)∧base=base0+off:=by
  simp only [Hx] at hB
  obtain ⟨⟨id,off,k'⟩,h1,h2⟩:=Option.bind_eq_some_iff.1 hB
  obtain ⟨⟨b0,base0,len⟩,h3,h4⟩:=Option.map_eq_some_iff.1 h2
  cases h4
  exact ⟨id,off,base0,len,h1,h3,rfl⟩
theorem Hx.G_inv {xp:Xp} {j:Nat} {g:RG} (hG:(Hx h xp).G j=some g):∃ id,xp.rw[j]?=some id∧h.G id=some g:=by
  simp only [Hx] at hG
  exact Option.bind_eq_some_iff.1 hG
theorem ahm (S:Sim φ N c s a w h) {b o:Nat} (ho:Owned h s b o):b<w.heap.size:=by
  rcases ho with ⟨id,lo,hi,⟨cs,h1,h2,h3⟩,_,_⟩ | ⟨id,z,xs,g,cap,h1,h2,h3⟩
  · obtain ⟨b',base,h4,cc,T,fr,h5,_⟩:=S.m id cs h1
    rw [h2] at h4;cases h4
    exact ad0 h5
  · obtain ⟨g',h4,h5⟩:=S.r id z false xs h1
    rw [h2] at h4;cases h4
    exact h5.lt h3
theorem entry (pn:Bool) (S:Sim φ N c s a w h) {as:List (X × Md)} {caps:List V} {s0:St} {xp:Xp} (he:expo s as caps=some (s0,xp)) {ys cc:Array Value} (hs:ys.size=as.length) (hv:∀ j x m,as[j]?=some (x,m)→VOk φ w h (s.ev x) (ys.getD j undef))
    (hcs:cc.size=caps.length) (hcv:∀ j v,caps[j]?=some v→KOk φ w h v (cc.getD j undef)):
    XpOk s xp∧s0.m.length=xp.bl.length∧Sim φ N (enterCx pn h s xp w) s0 ⟨ys++cc,[]⟩ w (enterGh h s xp):=by
  unfold expo at he
  split at he
  · cases he
  rename_i vs x1 e1
  split at he
  · cases he
  rename_i cs x2 e2
  split at he
  · cases he
  rename_i bs x3 e3
  cases he
  obtain ⟨X1,p1,l1,k1⟩:=ak9 S as (fun j=>ys.getD j undef) (xp:=⟨[],[]⟩) ⟨fun j id off k hj=>by simp at hj,fun i j id off k off' k' _ hj=>by simp at hj,fun id hi=>by simp at hi,by simp⟩ hv e1
  obtain ⟨X2,p2,l2,k2⟩:=agw S caps (fun j=>cc.getD j undef) X1 hcv e2
  obtain ⟨X3,p3,l3,k3⟩:=apd S _ 0 X2 (Nat.zero_le _) e3
  rw [Nat.zero_add] at l3
  have hle:=Hx.le_enter (h:=h) (s:=s) (w:=w) xp
  have hlen:=afg s xp as vs l1
  have blk:∀ i b lo hi,BlkAt (enterGh h s xp) ⟨lends s xp as vs++cs,bs,xp.rw.map fun id=>s.r.getD id .gone⟩ i b lo hi→∃ id off k base0 len,xp.bl[i]?=some (id,off,k)∧h.B id=some (b,base0,len)∧lo=base0+off∧hi=lo+k:=by
    rintro i b lo hi ⟨cs',h1,h2,h3⟩
    obtain ⟨id,off,base0,len,g1,g2,g3⟩:=Hx.B_inv h2
    exact ⟨id,off,cs'.length,base0,len,g1,g2,g3,h3⟩
  have row:∀ i b,RowAt (enterGh h s xp) ⟨lends s xp as vs++cs,bs,xp.rw.map fun id=>s.r.getD id .gone⟩ i b→∃ id,xp.rw[i]?=some id∧RowAt h s id b:=by
    rintro i b ⟨z,xs,g,cap,h1,h2,h3⟩
    obtain ⟨id,g1,g2⟩:=Hx.G_inv h2
    refine ⟨id,g1,z,xs,g,cap,?_,g2,h3⟩
    simp only [List.getElem?_map,g1,Option.map_some,Option.some.injEq] at h1
    exact aae h1 (by simp)
  have own:∀ b o,Owned (enterGh h s xp) ⟨lends s xp as vs++cs,bs,xp.rw.map fun id=>s.r.getD id .gone⟩ b o→Exd h s xp b o:=by
    rintro b o (⟨i,lo,hi,h1,h2,h3⟩ | ⟨i,h1⟩)
    · obtain ⟨id,off,k,base0,len,g1,g2,rfl,rfl⟩:=blk i b lo hi h1
      exact .inl ⟨i,id,off,k,base0,len,g1,g2,h2,h3⟩
    · obtain ⟨id,g1,g2⟩:=row i b h1
      exact .inr ⟨id,List.mem_of_getElem? g1,g2⟩
  refine ⟨X3,l3,?_⟩
  constructor
  case nt=>simp [hs,hlen,hcs,l2]
  case df=>rfl
  case t=>
    intro j v hj
    rw [aaa]
    by_cases hlt:j<as.length
    · rw [List.getElem?_append_left (by omega)] at hj
      rw [Array.getElem?_append_left (by omega),← aaa]
      rcases aji s xp as vs j v l1 hj with ⟨x,k,h1,rfl⟩ | ⟨x,k,h1,h2⟩
      · exact at1 S X3 k (hv j x _ h1) (fun _ _ x=>x) (fun _ _ x=>x)
      · exact ((k1 j x k v h1 h2).mono (p2.trans p3).le).mono hle
    · rw [List.getElem?_append_right (by omega)] at hj
      rw [Array.getElem?_append_right (by omega),← aaa]
      rw [hlen] at hj
      rw [hs]
      exact .k (((k2 _ v hj).mono p3.le).mono hle)
  case m=>
    intro id cs' hi
    obtain ⟨b,base,h1,h2⟩:=k3 id cs' hi
    rw [Nat.zero_add] at h1
    exact ⟨b,base,h1,h2.mono' hle⟩
  case r=>
    intro i z fz xs hi
    simp only [List.getElem?_map] at hi
    obtain ⟨id,h1,h2⟩:=Option.map_eq_some_iff.1 hi
    obtain ⟨g,h3,h4⟩:=S.r id z fz xs (aae h2 (by simp))
    exact ⟨g,by simp [enterGh,Hx,h1,h3],h4⟩
  case bN=>
    intro id hi
    simp only at hi
    simp only [enterGh,Hx]
    rw [List.getElem?_eq_none (by omega)]
    rfl
  case gN=>
    intro id hi
    simp only [List.length_map] at hi
    simp only [enterGh,Hx]
    rw [List.getElem?_eq_none hi]
    rfl
  case sR=>
    intro b o hR ho
    rcases hR with hR | ⟨_,hR⟩
    · exact S.sR b o hR (X3.exd_owned S (own b o ho))
    · exact hR (own b o ho)
  case sM=>
    intro i j b lo hi lo' hi' hij hne hne' h1 h2
    obtain ⟨id,off,k,base0,len,g1,g2,rfl,rfl⟩:=blk i b lo hi h1
    obtain ⟨id',off',k',base0',len',g1',g2',rfl,rfl⟩:=blk j b lo' hi' h2
    obtain ⟨cs1,hc1,hl1⟩:=X3.mlen g1
    obtain ⟨cs2,hc2,hl2⟩:=X3.mlen g1'
    by_cases hid:id=id'
    · subst hid
      rw [g2] at g2';cases g2'
      rcases X3.dj i j id off k off' k' hij g1 g1' with h | h <;> omega
    · obtain ⟨b2,base2,hB2,_⟩:=S.m id cs1 hc1
      rw [g2] at hB2;cases hB2
      obtain ⟨b3,base3,hB3,_⟩:=S.m id' cs2 hc2
      rw [g2'] at hB3;cases hB3
      rcases S.sM id id' b base0 (base0+cs1.length) base0' (base0'+cs2.length) hid (by omega) (by omega) ⟨cs1,hc1,g2,rfl⟩ ⟨cs2,hc2,g2',rfl⟩ with h | h <;> omega
  case sX=>
    intro i j b lo hi hne h1 h2
    obtain ⟨id,off,k,base0,len,g1,g2,rfl,rfl⟩:=blk i b lo hi h1
    obtain ⟨id',g1',g2'⟩:=row j b h2
    obtain ⟨cs1,hc1,hl1⟩:=X3.mlen g1
    obtain ⟨b2,base2,hB2,_⟩:=S.m id cs1 hc1
    rw [g2] at hB2;cases hB2
    exact S.sX id id' b base0 (base0+cs1.length) (by omega) ⟨cs1,hc1,g2,rfl⟩ g2'
  case sW=>
    intro i j b h1 h2
    obtain ⟨id,g1,g2⟩:=row i b h1
    obtain ⟨id',g1',g2'⟩:=row j b h2
    have:=S.sW id id' b g2 g2'
    subst this
    have hi:=(List.getElem?_eq_some_iff.1 g1).1
    exact (List.getElem?_inj hi X3.nd).1 (g1.trans g1'.symm)
  case fr=>exact .refl _ w
  case ow=>exact fun b o ho=>.inl (own b o ho)
  case pl=>exact fun b o hp=>.inl (S.pl b o hp)
  case p0=>exact fun _ _ x=>x
  case l0=>exact fun _ _ x=>x
  case p1=>exact fun _ _ x=>.inl x
  case l1=>exact fun _ _ x=>.inl x
  case rb=>
    rintro b o (hR | ⟨hR,_⟩)
    · exact S.rb b o hR
    · exact ahm S hR
  case lo=>exact fun b o ho=>S.lo b o (X3.exd_owned S (own b o ho))
  case lN=>exact Nat.le_trans S.lN S.fr.size
  case oN=>exact fun b o ho=>S.lo b o (X3.exd_owned S ho)
  case c0=>
    rintro b o (hR | ⟨hR,hn⟩)
    · exact ⟨fun he=>S.sR b o hR (X3.exd_owned S he),S.rb b o hR⟩
    · exact ⟨hn,ahm S hR⟩
  case b0=>exact fun _ _ x=>x
  case g0=>
    intro id x hx
    simp only [enterCx] at hx
    split at hx
    · exact hx
    · cases hx
end
end Go.VS
end
section
namespace Go.VS
open Go
section
variable {pn:Bool} {φ:Nat→FuncId} {N:Env} {c:Cx} {s:St} {a:Act} {w w':World} {h h':Gh} {P:Program}
def leaveGh (h h':Gh) (base:Nat):Gh where
  Rp:=h'.Rp
  Rl:=fun b o=>h.Rl b o∨h'.Rp b o
  B:=h.B
  G:=fun id=>if id<base then h.G id else h'.G (id - base)
theorem anj {nb:Nat} {v:V} {y:Value} (hl:LOk φ w h.Rp h.Rl v y) (hr:okRet nb v=true):(v=.no)∨POk w h.Rp v y:=by
  cases hl with
  | pl h=>exact .inr h
  | no=>exact .inl rfl
  | view=>simp [okRet] at hr
  | vp=>simp [okRet] at hr
  | fn=>simp [okRet] at hr
theorem arl {xp:Xp} {s1:St} {a1:Act} (S:Sim φ N c s a w h) (X:XpOk s xp) (S':Sim φ N (enterCx pn h s xp w) s1 a1 w' h') {v:V} {y:Value} (hk:KOk φ w' h' v y) (hr:okRet xp.bl.length v=true):
    KOk φ w' (leaveGh h h' s.r.length) (impL xp.bl s.r.length v) y:=by
  cases hk with
  | l hl=>
    rcases anj hl hr with rfl | hp
    · exact .l (.no y)
    · have:KOk φ w' (leaveGh h h' s.r.length) v y:=.l (.pl hp)
      cases hp <;> exact this
  | mr id b cap g hg hl hp=>
    refine .mr (s.r.length+id) b cap g ?_ hl hp
    simp only [leaveGh]
    rw [if_neg (by omega),Nat.add_sub_cancel_left]
    exact hg
  | sl id lo n tg A cap g hg hn hc ht hl ha hp=>
    refine .sl (s.r.length+id) lo n tg A cap g ?_ hn hc ht hl ha hp
    simp only [leaveGh]
    rw [if_neg (by omega),Nat.add_sub_cancel_left]
    exact hg
  | ptr j o b base k hB=>
    simp only [okRet,decide_eq_true_eq] at hr
    obtain ⟨⟨id,off,k0⟩,hx⟩:∃ x,xp.bl[j]?=some x:=⟨_,List.getElem?_eq_getElem hr⟩
    obtain ⟨cs,hc,hl⟩:=X.mlen hx
    obtain ⟨b0,base0,hB0,_⟩:=S.m id cs hc
    have h1:(enterCx pn h s xp w).B0 j=some (b0,base0+off,k0):=by simp [enterCx,Hx,hx,hB0]
    have h2:=S'.b0 j _ h1
    rw [hB] at h2;cases h2
    simp only [impL,hx]
    have:=KOk.ptr (φ:=φ) (w:=w') (h:=leaveGh h h' s.r.length) id (off+o) b base0 cs.length hB0
    rwa [← Nat.add_assoc] at this
  | ep=>simp [okRet] at hr
  | fn=>simp [okRet] at hr
theorem ava {xp:Xp} {s1:St} {a1:Act} (S:Sim φ N c s a w h) (X:XpOk s xp) (S':Sim φ N (enterCx pn h s xp w) s1 a1 w' h') {v:V} {y:Value} (hv:VOk φ w' h' v y) (hr:v.leaves.all (okRet xp.bl.length)=true):
    VOk φ w' (leaveGh h h' s.r.length) (v.mapL (impL xp.bl s.r.length)) y:=by
  have leaf:∀ {v:V} {y:Value},KOk φ w' h' v y→okRet xp.bl.length v=true→KOk φ w' (leaveGh h h' s.r.length) (impL xp.bl s.r.length v) y:=fun h1 h2=>arl S X S' h1 h2
  have lst:∀ {cs:List V} {f:Nat→Value},(∀ j v,cs[j]?=some v→KOk φ w' h' v (f j))→cs.all (okRet xp.bl.length)=true→∀ j v,(cs.map (impL xp.bl s.r.length))[j]?=some v→KOk φ w' (leaveGh h h' s.r.length) v (f j):=by
    intro cs f h1 h2 j v hj
    rw [List.getElem?_map] at hj
    obtain ⟨u,hu,rfl⟩:=Option.map_eq_some_iff.1 hj
    exact leaf (h1 j u hu) (List.all_eq_true.1 h2 u (List.mem_of_getElem? hu))
  cases hv with
  | k hk=>
    cases v with
    | fn f caps=>
      obtain ⟨cc,rfl,hs,hall⟩:=(VOk.k hk).fn_inv
      exact .k (.fn f _ cc (by simpa using hs) (lst hall hr))
    | agg cs=>cases hk with | l hl=>cases hl with | pl hp=>cases hp
    | tup cs=>cases hk with | l hl=>cases hl with | pl hp=>cases hp
    | _=>exact .k (leaf hk (by simpa [V.leaves] using hr))
  | agg cs cc hs hall=>exact .agg _ cc (by simpa using hs) fun j v hj=>⟨lst (fun j v hj=>(hall j v hj).1) hr j v hj,by
      have hlt:=(List.getElem?_eq_some_iff.1 hj).1
      rw [List.length_map] at hlt
      exact (hall j _ (List.getElem?_eq_getElem hlt)).2⟩
  | tup vs cc hs hall=>
    refine .tup _ cc (by simpa using hs) fun j v hj=>?_
    rw [List.getElem?_map] at hj
    obtain ⟨u,hu,rfl⟩:=Option.map_eq_some_iff.1 hj
    have hul:∀ x,x ∈ u.cells→okRet xp.bl.length x=true:=fun x hx=>List.all_eq_true.1 hr x (by
      simp only [V.leaves,List.mem_flatMap]
      exact ⟨u,List.mem_of_getElem? hu,hx⟩)
    have hu2:=hall j u hu
    generalize cc.getD j undef=yy at hu2 ⊢
    cases hu2 with
    | k hk=>
      have h1:u.cells=[u]:=by
        cases u with
        | agg=>cases hk with | l hl=>cases hl with | pl hp=>cases hp
        | _=>rfl
      have h2:=leaf hk (hul u (by rw [h1];simp))
      cases u with
      | agg=>cases hk with | l hl=>cases hl with | pl hp=>cases hp
      | _=>exact .k h2
    | agg cs cc' hs' hall'=>
      exact .agg _ cc' (by simpa using hs') fun j v hj=>⟨lst (fun j v hj=>(hall' j v hj).1) (List.all_eq_true.2 hul) j v hj,by
        have hlt:=(List.getElem?_eq_some_iff.1 hj).1
        rw [List.length_map] at hlt
        exact (hall' j _ (List.getElem?_eq_getElem hlt)).2⟩
    | tup vs' cc' hs' hall'=>exact absurd (hul (.tup vs') (by simp [V.cells])) (by simp [okRet])
theorem aap:∀ (ids:List Nat) (r:List Rw),(gones ids r).length=r.length
  | [],r=>rfl
  | id :: ids,r=>by rw [gones,aap ids];simp
theorem ajd:∀ (ids:List Nat) (r:List Rw) (i:Nat) {z:Nat} {fz:Bool} {xs:List V},(gones ids r)[i]?=some (.row z fz xs)→i ∉ ids∧r[i]?=some (.row z fz xs)
  | [],r,i,z,fz,xs,e=>⟨by simp,e⟩
  | id :: ids,r,i,z,fz,xs,e=>by
    obtain ⟨h1,h2⟩:=ajd ids (r.set id .gone) i e
    by_cases hid:id=i
    · subst hid
      rw [List.getElem?_set] at h2
      simp at h2
    · rw [List.getElem?_set_ne hid] at h2
      exact ⟨by simp [h1];exact fun e=>hid e.symm,h2⟩
theorem arm {base:Nat} {bl0:List (Nat × Nat × Nat)} {m0:List (List V)} (Ok:Nat→Nat→V→Prop):∀ (bl:List (Nat × Nat × Nat)) (ms m:List (List V)),bl.length=ms.length→(∀ (j:Nat) (x:Nat × Nat × Nat) (cs:List V),bl[j]?=some x→ms[j]?=some cs→cs.length=x.2.2∧∀ i v,cs[i]?=some v→Ok x.1 (x.2.1+i) (impL bl0 base v)) →
    (∀ id,(m.getD id []).length=(m0.getD id []).length)→m.length=m0.length→(∀ x,x ∈ bl→x.2.1+x.2.2≤(m0.getD x.1 []).length) →
    (∀ id cs,m[id]?=some cs→∀ i v,cs[i]?=some v→(∃ off k,(id,off,k) ∈ bl∧off≤i∧i<off+k)∨Ok id i v) →
    (impM base bl0 bl ms m).length=m0.length∧(∀ id,((impM base bl0 bl ms m).getD id []).length=(m0.getD id []).length)∧∀ id cs,(impM base bl0 bl ms m)[id]?=some cs→∀ i v,cs[i]?=some v→Ok id i v
  | [],ms,m,_,_,hl,hl2,_,hm=>by
    refine ⟨by simpa [impM] using hl2,by simpa [impM] using hl,fun id cs hc i v hi=>?_⟩
    simp only [impM] at hc
    rcases hm id cs hc i v hi with ⟨_,_,h1,_⟩ | h1
    · simp at h1
    · exact h1
  | (id,off,k) :: bl,[],m,hlen,_,_,_,_,_=>by simp at hlen
  | (id,off,k) :: bl,cs :: ms,m,hlen,hcs,hl,hl2,hb,hm=>by
    rw [impM]
    obtain ⟨g1,g2⟩:=hcs 0 _ cs rfl rfl
    simp only at g1 g2
    have hbk:=hb _ (List.mem_cons_self ..)
    simp only at hbk
    refine arm Ok bl ms _ (by simpa using hlen) (fun j x ds h1 h2=>hcs (j+1) x ds (by simpa using h1) (by simpa using h2)) (fun id'=>?_) (by simpa using hl2) (fun x hx=>hb x (List.mem_cons_of_mem _ hx)) fun id' ds hd i v hi=>?_
    · rw [List.getD_eq_getElem?_getD,List.getElem?_set]
      split
      · rename_i e
        subst e
        split
        · have:=hl id
          rw [List.getD_eq_getElem?_getD] at this
          rw [Option.getD_some,abb,List.getD_eq_getElem?_getD]
          exact this
        · rename_i hlt
          rw [← hl,List.getD_eq_getElem?_getD,List.getElem?_eq_none (by omega)]
      · rw [← List.getD_eq_getElem?_getD];exact hl id'
    · by_cases e:id=id'
      · subst e
        rw [List.getElem?_set] at hd
        simp only [if_true] at hd
        split at hd
        · rename_i hlt
          cases hd
          have hmid:m[id]?=some (m.getD id []):=by rw [List.getD_eq_getElem?_getD,List.getElem?_eq_getElem hlt];rfl
          by_cases hin:off≤i∧i<off+(cs.map (impL bl0 base)).length
          · right
            obtain ⟨q,rfl⟩:∃ q,i=off+q:=⟨i - off,by omega⟩
            rw [aft _ _ _ _ (by rw [List.length_map,g1,hl];exact hbk) (by omega),List.getElem?_map] at hi
            obtain ⟨u,hu,rfl⟩:=Option.map_eq_some_iff.1 hi
            exact g2 q u hu
          · rw [adl _ _ _ _ hin] at hi
            rcases hm id _ hmid i v hi with ⟨o1,k1,h1,h2,h3⟩ | h1
            · rcases List.mem_cons.1 h1 with h1 | h1
              · cases h1
                rw [List.length_map,g1] at hin
                exact absurd ⟨h2,h3⟩ hin
              · exact .inl ⟨o1,k1,h1,h2,h3⟩
            · exact .inr h1
        · cases hd
      · rw [List.getElem?_set_ne e] at hd
        rcases hm id' ds hd i v hi with ⟨o1,k1,h1,h2,h3⟩ | h1
        · rcases List.mem_cons.1 h1 with h1 | h1
          · cases h1;exact absurd rfl e
          · exact .inl ⟨o1,k1,h1,h2,h3⟩
        · exact .inr h1
theorem leave (S:Sim φ N c s a w h) {xp:Xp} (X:XpOk s xp) {v:V} {y:Value} {m':List (List V)} {r':List Rw} (S':Sim φ N (enterCx pn h s xp w) ⟨[v],m',r'⟩ ⟨#[y],[]⟩ w' h') (hm:m'.length=xp.bl.length)
    (hr:v.leaves.all (okRet xp.bl.length)=true) (hmr:m'.all (·.all (okRet xp.bl.length))=true) (d:Option Nat):Sim φ N c (impo s xp d v m' r') (a.put d y) w' (leaveGh h h' s.r.length):=by
  have hcell:∀ b o,h.Rl b o→w'.cell? ⟨b,o,none⟩=w.cell? ⟨b,o,none⟩:=fun b o hR=>by
    have h1:=S'.c0 b o (.inl hR)
    exact S'.fr.cell h1.2 h1.1
  have hle:h.Le (leaveGh h h' s.r.length) w w':=by
    refine ⟨fun b o hp=>S'.p0 b o hp,fun b o hR=>.inl hR,fun b o hp=>hcell b o (S.pl b o hp),fun b o hR=>hcell b o hR,fun _ _ x=>x,fun id x e=>?_⟩
    simp only [leaveGh]
    have:id<s.r.length:=Nat.lt_of_not_le fun hge=>by rw [S.gN id hge] at e;cases e
    rw [if_pos this];exact e
  have blk:∀ (j id off k:Nat),xp.bl[j]?=some (id,off,k)→∃ b base0 cs0 cs,s.m[id]?=some cs0∧h.B id=some (b,base0,cs0.length)∧off+k≤cs0.length∧m'[j]?=some cs∧cs.length=k∧h'.B j=some (b,base0+off,k)∧BlkOk N φ w' h' cs b (base0+off):=by
    intro j id off k hj
    obtain ⟨cs0,hc0,hl0⟩:=X.mlen hj
    obtain ⟨b,base0,hB,_⟩:=S.m id cs0 hc0
    have h1:(enterCx pn h s xp w).B0 j=some (b,base0+off,k):=by simp [enterCx,Hx,hj,hB]
    have h2:=S'.b0 j _ h1
    have hlt:j<m'.length:=by rw [hm];exact (List.getElem?_eq_some_iff.1 hj).1
    obtain ⟨b2,base2,h3,h4⟩:=S'.m j _ (List.getElem?_eq_getElem hlt)
    rw [h2] at h3
    have e1:b=b2∧base0+off=base2∧k=(m'[j]).length:=by simpa using h3
    obtain ⟨rfl,rfl,e2⟩:=e1
    exact ⟨b,base0,cs0,m'[j],hc0,hB,hl0,List.getElem?_eq_getElem hlt,e2.symm,h2,h4⟩
  have sOwned:∀ b o,Exd h s xp b o→Owned h s b o:=fun b o e=>X.exd_owned S e
  have exdOwned':∀ b o,(∃ (j id off k base len:Nat),xp.bl[j]?=some (id,off,k)∧h.B id=some (b,base,len)∧base+off≤o∧o<base+off+k)→∃ j lo hi,BlkAt h' ⟨[v],m',r'⟩ j b lo hi∧lo≤o∧o<hi:=by
    rintro b o ⟨j,id,off,k,base,len,h1,h2,h3,h4⟩
    obtain ⟨b1,base0,cs0,cs,g1,g2,g3,g4,g5,g6,g7⟩:=blk j id off k h1
    rw [h2] at g2;cases g2
    exact ⟨j,base+off,base+off+k,⟨cs,g4,by rw [g5];exact g6,by rw [g5]⟩,h3,h4⟩
  have noRow:∀ j b,RowAt h' ⟨[v],m',r'⟩ j b→∀ o,Owned h s b o→(∃ id lo hi,BlkAt h s id b lo hi∧lo<hi)→False:=by
    rintro j b hrow o ho ⟨id,lo,hi,hb,hlt⟩
    rcases S'.ow b lo (.inr ⟨j,hrow⟩) with he | he
    · rcases he with he | ⟨id',h1,h2⟩
      · obtain ⟨j',lo',hi',g1,g2,g3⟩:=exdOwned' b lo he
        exact S'.sX j' j b lo' hi' (by omega) g1 hrow
      · exact S.sX id id' b lo hi hlt hb h2
    · have:=ahm S ho
      simp only [enterCx] at he
      omega
  have hb3:∀ x,x ∈ xp.bl→x.2.1+x.2.2≤(s.m.getD x.1 []).length:=by
    intro x hx
    obtain ⟨j,hj⟩:=List.mem_iff_getElem?.1 hx
    exact (X.bl j x.1 x.2.1 x.2.2 hj).2
  obtain ⟨mL,mG,mC⟩:=arm (base:=s.r.length) (bl0:=xp.bl) (m0:=s.m) (fun id i v=>∀ b base len,h.B id=some (b,base,len)→∀ cc T fr,w'.heap[b]?=some (.cells cc T fr)→COk φ w' (leaveGh h h' s.r.length) v (cc.getD (base+i) undef)∧(v=.bz→Ub N.P T∧cc.size=2∧base+i=0))
    xp.bl m' s.m hm.symm (fun j x cs hx hc=>by
      obtain ⟨b,base0,cs0,cs',g1,g2,g3,g4,g5,g6,g7⟩:=blk j x.1 x.2.1 x.2.2 hx
      rw [hc] at g4;cases g4
      refine ⟨g5,fun i u hi b1 base1 len1 hB cc T fr hh=>?_⟩
      rw [g2] at hB;cases hB
      obtain ⟨cc',T',fr',k1,k2,k3,k4⟩:=g7
      rw [hh] at k1;cases k1
      have hu:=k3 i u hi
      rw [Nat.add_assoc] at hu
      refine ⟨⟨arl S X S' hu.1 (List.all_eq_true.1 (List.all_eq_true.1 hmr cs (List.mem_of_getElem? hc)) u (List.mem_of_getElem? hi)),hu.2⟩,fun hz=>?_⟩
      have hz':u=.bz:=by
        cases u <;> simp only [impL] at hz <;> first
          | rfl
          | (cases hz;done)
          | ((repeat' split at hz) <;> cases hz)
      subst hz'
      have:=k4.2 i hi
      exact ⟨this.1,this.2.1,by omega⟩)
    (fun _=>rfl) rfl hb3 (fun id cs hc i u hi=>by
      by_cases hcov:∃ off k,(id,off,k) ∈ xp.bl∧off≤i∧i<off+k
      · exact .inl hcov
      · right
        intro b base len hB cc T fr hh
        obtain ⟨b1,base1,hB1,cc0,T0,fr0,k1,k2,k3,k4⟩:=S.m id cs hc
        rw [hB] at hB1;cases hB1
        have hlt:=(List.getElem?_eq_some_iff.1 hi).1
        have hat:BlkAt h s id b base (base+cs.length):=⟨cs,hc,hB,rfl⟩
        have hn:¬ Exd h s xp b (base+i):=by
          rintro (⟨j,id',off,k,base',len',h1,h2,h3,h4⟩ | ⟨id',h1,h2⟩)
          · by_cases e:id=id'
            · subst e
              rw [hB] at h2;cases h2
              exact hcov ⟨off,k,List.mem_of_getElem? h1,by omega,by omega⟩
            · obtain ⟨cs',hc',hl'⟩:=X.mlen h1
              obtain ⟨b2,base2,hB2,_⟩:=S.m id' cs' hc'
              rw [h2] at hB2;cases hB2
              rcases S.sM id id' b base (base+cs.length) base' (base'+cs'.length) e (by omega) (by omega) hat ⟨cs',hc',h2,rfl⟩ with h | h <;> omega
          · exact S.sX id id' b base (base+cs.length) (by omega) hat h2
        have hcc:cc[base+i]?=cc0[base+i]?∧T=T0∧cc.size=cc0.size:=by
          rcases S'.fr.obj b (ad0 k1) with e | ⟨c1,T1,f1,c2,f2,e1,e2,e3,e4,e5⟩ | ⟨_,_,_,_,e1,_,_⟩
          · simp only [enterCx] at e
            rw [hh,k1] at e;cases e;exact ⟨rfl,rfl,rfl⟩
          · simp only [enterCx] at e1
            rw [k1] at e1;cases e1
            rw [hh] at e2;cases e2
            exact ⟨e4 _ hn,rfl,e3⟩
          · simp only [enterCx] at e1
            rw [k1] at e1;cases e1
        obtain ⟨hcc,rfl,hsz⟩:=hcc
        refine ⟨?_,fun hz=>by subst hz;rw [hsz];exact k4.2 i hi⟩
        rw [aaa,hcc,← aaa]
        exact (k3 i u hi).mono hle)
  have lenM:∀ (id:Nat) (cs:List V),(impM s.r.length xp.bl xp.bl m' s.m)[id]?=some cs→∃ cs0:List V,s.m[id]?=some cs0∧cs.length=cs0.length:=by
    intro id cs hc
    have hlt:=(List.getElem?_eq_some_iff.1 hc).1
    have:=mG id
    rw [List.getD_eq_getElem?_getD,hc,List.getD_eq_getElem?_getD,List.getElem?_eq_getElem (by omega)] at this
    exact ⟨_,List.getElem?_eq_getElem (by omega),this⟩
  have blk2:∀ i b lo hi,BlkAt (leaveGh h h' s.r.length) ⟨s.t,impM s.r.length xp.bl xp.bl m' s.m,gones xp.rw s.r++r'⟩ i b lo hi→BlkAt h s i b lo hi:=by
    rintro i b lo hi ⟨cs,h1,h2,h3⟩
    obtain ⟨cs0,g1,g2⟩:=lenM i cs h1
    exact ⟨cs0,g1,by rw [← g2];exact h2,by rw [← g2];exact h3⟩
  have row2:∀ i b,RowAt (leaveGh h h' s.r.length) ⟨s.t,impM s.r.length xp.bl xp.bl m' s.m,gones xp.rw s.r++r'⟩ i b→(i<s.r.length∧i ∉ xp.rw∧RowAt h s i b)∨(s.r.length≤i∧RowAt h' ⟨[v],m',r'⟩ (i - s.r.length) b):=by
    rintro i b ⟨z,xs,g,cap,h1,h2,h3⟩
    simp only [leaveGh] at h1 h2
    by_cases hi:i<s.r.length
    · rw [List.getElem?_append_left (by rw [aap];exact hi)] at h1
      rw [if_pos hi] at h2
      obtain ⟨g1,g2⟩:=ajd _ _ _ h1
      exact .inl ⟨hi,g1,z,xs,g,cap,g2,h2,h3⟩
    · rw [List.getElem?_append_right (by rw [aap];omega),aap] at h1
      rw [if_neg hi] at h2
      exact .inr ⟨by omega,z,xs,g,cap,h1,h2,h3⟩
  have newRow:∀ j b,RowAt h' ⟨[v],m',r'⟩ j b→(∃ id,id ∈ xp.rw∧RowAt h s id b)∨(∃ id lo hi,BlkAt h s id b lo hi∧lo<hi)∨w.heap.size≤b:=by
    intro j b hj
    rcases S'.ow b 0 (.inr ⟨j,hj⟩) with he | he
    · rcases he with ⟨j',id,off,k,base,len,h1,h2,h3,h4⟩ | he
      · obtain ⟨cs',hc',hl'⟩:=X.mlen h1
        obtain ⟨b2,base2,hB2,_⟩:=S.m id cs' hc'
        rw [h2] at hB2;cases hB2
        exact .inr (.inl ⟨id,base,base+cs'.length,⟨cs',hc',h2,rfl⟩,by omega⟩)
      · exact .inl he
    · exact .inr (.inr he)
  have noBlk:∀ j b id lo hi,RowAt h' ⟨[v],m',r'⟩ j b→BlkAt h s id b lo hi→lo<hi→False:=fun j b id lo hi h1 h2 h3=>
    noRow j b h1 lo (.inl ⟨id,lo,hi,h2,Nat.le_refl _,h3⟩) ⟨id,lo,hi,h2,h3⟩
  have noOld:∀ j i b,RowAt h' ⟨[v],m',r'⟩ j b→RowAt h s i b→i ∉ xp.rw→False:=by
    intro j i b h1 h2 h3
    rcases newRow j b h1 with ⟨id,g1,g2⟩ | ⟨id,lo,hi,g1,g2⟩ | g1
    · exact h3 (S.sW i id b h2 g2 ▸ g1)
    · exact noBlk j b id lo hi h1 g1 g2
    · have:=ahm S (o:=0) (.inr ⟨i,h2⟩)
      omega
  have notRp:∀ b o,Owned h s b o→¬ Exd h s xp b o→¬ h'.Rp b o:=by
    intro b o ho hn hp
    rcases S'.p1 b o hp with h1 | h1 | h1
    · exact S.sR b o (S.pl b o h1) ho
    · exact hn h1
    · have:=ahm S ho
      simp only [enterCx] at h1
      omega
  have exd':∀ b o,Exd h s xp b o→(∃ id lo hi,BlkAt h s id b lo hi∧lo≤o∧o<hi)→Owned h' ⟨[v],m',r'⟩ b o:=by
    rintro b o (he | ⟨id',h1,h2⟩) ⟨id,lo,hi,hb,g1,g2⟩
    · obtain ⟨j,lo',hi',g3,g4,g5⟩:=exdOwned' b o he
      exact .inl ⟨j,lo',hi',g3,g4,g5⟩
    · exact absurd h2 fun h2=>S.sX id id' b lo hi (by omega) hb h2
  have S2:Sim φ N c ⟨s.t,impM s.r.length xp.bl xp.bl m' s.m,gones xp.rw s.r++r'⟩ a w' (leaveGh h h' s.r.length):=by
    constructor
    case nt=>exact S.nt
    case df=>exact S.df
    case t=>exact fun j u hj=>(S.t j u hj).mono hle
    case m=>
      intro id cs hc
      obtain ⟨cs0,g1,g2⟩:=lenM id cs hc
      obtain ⟨b,base,hB,cc,T,fr,k1,k2,k3,k4⟩:=S.m id cs0 g1
      have hh:∃ cc' fr',w'.heap[b]?=some (.cells cc' T fr')∧cc'.size=cc.size∧(0<cs.length→fr'=(0,0)):=by
        rcases S'.fr.obj b (ad0 k1) with e | ⟨c1,T1,f1,c2,f2,e1,e2,e3,e4,e5⟩ | ⟨_,_,_,_,e1,_,_⟩
        · simp only [enterCx] at e
          exact ⟨cc,fr,by rw [e];exact k1,rfl,fun h0=>k4.1 (by omega)⟩
        · simp only [enterCx] at e1
          rw [k1] at e1;cases e1
          refine ⟨c2,f2,e2,e3,fun h0=>(e5.resolve_right fun hall=>?_).trans (k4.1 (by omega))⟩
          rcases hall cc.size with ⟨j,id',off,k,base',len',h1,h2,h3,h4⟩ | ⟨id',h1,h2⟩
          · obtain ⟨cs',hc',hl'⟩:=X.mlen h1
            obtain ⟨b2,base2,hB2,cc2,T2,fr2,q1,q2,_⟩:=S.m id' cs' hc'
            rw [h2] at hB2;cases hB2
            rw [k1] at q1;cases q1
            omega
          · exact S.sX id id' b base (base+cs0.length) (by omega) ⟨cs0,g1,hB,rfl⟩ h2
        · simp only [enterCx] at e1
          rw [k1] at e1;cases e1
      obtain ⟨cc',fr',hh,hs,hf'⟩:=hh
      exact ⟨b,base,by rw [g2];exact hB,cc',T,fr',hh,by omega,fun i u hi=>(mC id cs hc i u hi b base _ hB cc' T _ hh).1,hf',fun i hi=>(mC id cs hc i _ hi b base _ hB cc' T _ hh).2 rfl⟩
    case r=>
      intro i z fz xs hi
      by_cases hlt:i<s.r.length
      · rw [List.getElem?_append_left (by rw [aap];exact hlt)] at hi
        obtain ⟨g1,g2⟩:=ajd _ _ _ hi
        obtain ⟨g,h1,h2⟩:=S.r i z fz xs g2
        refine ⟨g,by simp only [leaveGh];rw [if_pos hlt];exact h1,abe S'.fr hle (fun b cap hl o he=>?_) h2⟩
        have he':Exd h s xp b o:=he
        cases fz with
        | true=>
          exact S.sR b o (S.pl _ _ (h2.rp hl o)) (sOwned b o he')
        | false=>
          have hat:RowAt h s i b:=⟨z,xs,g,cap,g2,h1,hl⟩
          rcases he' with ⟨j',id,off,k,base,len,h1,h2,h3,h4⟩ | ⟨id,h1,h2⟩
          · obtain ⟨cs',hc',hl'⟩:=X.mlen h1
            obtain ⟨b2,base2,hB2,_⟩:=S.m id cs' hc'
            rw [h2] at hB2;cases hB2
            exact S.sX id i b base (base+cs'.length) (by omega) ⟨cs',hc',h2,rfl⟩ hat
          · exact g1 (S.sW i id b hat h2 ▸ h1)
      · rw [List.getElem?_append_right (by rw [aap];omega),aap] at hi
        obtain ⟨g,h1,h2⟩:=S'.r _ z fz xs hi
        exact ⟨g,by simp only [leaveGh];rw [if_neg hlt];exact h1,h2⟩
    case bN=>exact fun id hi=>S.bN id (by simp only at hi;omega)
    case gN=>
      intro id hi
      simp only [List.length_append,aap] at hi
      simp only [leaveGh]
      rw [if_neg (by omega)]
      exact S'.gN _ (by simp only;omega)
    case sR=>
      rintro b o hR (⟨i,lo,hi,h1,h2,h3⟩ | ⟨i,h1⟩)
      · have hat:=blk2 i b lo hi h1
        have how:Owned h s b o:=.inl ⟨i,lo,hi,hat,h2,h3⟩
        rcases hR with hR | hR
        · exact S.sR b o hR how
        · by_cases he:Exd h s xp b o
          · exact S'.sR b o (S'.pl b o hR) (exd' b o he ⟨i,lo,hi,hat,h2,h3⟩)
          · exact notRp b o how he hR
      · rcases row2 i b h1 with ⟨g1,g2,g3⟩ | ⟨g1,g2⟩
        · have how:Owned h s b o:=.inr ⟨i,g3⟩
          rcases hR with hR | hR
          · exact S.sR b o hR how
          · by_cases he:Exd h s xp b o
            · rcases he with ⟨j',id,off,k,base,len,h1,h2,h3,h4⟩ | ⟨id,h1,h2⟩
              · obtain ⟨cs',hc',hl'⟩:=X.mlen h1
                obtain ⟨b2,base2,hB2,_⟩:=S.m id cs' hc'
                rw [h2] at hB2;cases hB2
                exact S.sX id i b base (base+cs'.length) (by omega) ⟨cs',hc',h2,rfl⟩ g3
              · exact g2 (S.sW i id b g3 h2 ▸ h1)
            · exact notRp b o how he hR
        · rcases hR with hR | hR
          · exact S'.sR b o (S'.l0 b o (.inl hR)) (.inr ⟨_,g2⟩)
          · exact S'.sR b o (S'.pl b o hR) (.inr ⟨_,g2⟩)
    case sM=>exact fun i j b lo hi lo' hi' hij h1 h2 h3 h4=>S.sM i j b lo hi lo' hi' hij h1 h2 (blk2 _ _ _ _ h3) (blk2 _ _ _ _ h4)
    case sX=>
      intro i id b lo hi hlt h1 h2
      rcases row2 id b h2 with ⟨g1,g2,g3⟩ | ⟨g1,g2⟩
      · exact S.sX i id b lo hi hlt (blk2 _ _ _ _ h1) g3
      · exact noBlk _ b i lo hi g2 (blk2 _ _ _ _ h1) hlt
    case sW=>
      intro i j b h1 h2
      rcases row2 i b h1 with ⟨g1,g2,g3⟩ | ⟨g1,g2⟩ <;> rcases row2 j b h2 with ⟨k1,k2,k3⟩ | ⟨k1,k2⟩
      · exact S.sW i j b g3 k3
      · exact (noOld _ i b k2 g3 g2).elim
      · exact (noOld _ j b g2 k3 k2).elim
      · have:=S'.sW _ _ b g2 k2
        omega
    case fr=>
      refine S.fr.trans S'.fr fun x o hx he=>?_
      rcases S.ow x o (sOwned x o he) with h1 | h1
      · exact h1
      · omega
    case ow=>
      rintro b o (⟨i,lo,hi,h1,h2,h3⟩ | ⟨i,h1⟩)
      · exact S.ow b o (.inl ⟨i,lo,hi,blk2 _ _ _ _ h1,h2,h3⟩)
      · rcases row2 i b h1 with ⟨g1,g2,g3⟩ | ⟨g1,g2⟩
        · exact S.ow b o (.inr ⟨i,g3⟩)
        · rcases S'.ow b o (.inr ⟨_,g2⟩) with he | he
          · exact S.ow b o (sOwned b o he)
          · right
            have:=S.fr.size
            simp only [enterCx] at he
            omega
    case pl=>exact fun b o hp=>.inr hp
    case p0=>exact fun b o hp=>S'.p0 b o (S.p0 b o hp)
    case l0=>exact fun b o hR=>.inl (S.l0 b o hR)
    case p1=>
      intro b o hp
      rcases S'.p1 b o hp with h1 | h1 | h1
      · exact S.p1 b o h1
      · exact .inr (S.ow b o (sOwned b o h1))
      · right;right
        have:=S.fr.size
        simp only [enterCx] at h1
        omega
    case l1=>
      rintro b o (hR | hR)
      · rcases S.l1 b o hR with h1 | h1
        · exact .inl h1
        · exact .inr (S'.p0 b o h1)
      · exact .inr hR
    case rb=>
      rintro b o (hR | hR)
      · exact Nat.lt_of_lt_of_le (S.rb b o hR) S'.fr.size
      · exact S'.rb b o (S'.pl b o hR)
    case lo=>
      rintro b o (⟨i,lo,hi,h1,h2,h3⟩ | ⟨i,h1⟩)
      · exact S.lo b o (.inl ⟨i,lo,hi,blk2 _ _ _ _ h1,h2,h3⟩)
      · rcases row2 i b h1 with ⟨g1,g2,g3⟩ | ⟨g1,g2⟩
        · exact S.lo b o (.inr ⟨i,g3⟩)
        · exact S'.lo b o (.inr ⟨_,g2⟩)
    case lN=>exact S.lN
    case oN=>exact S.oN
    case c0=>exact S.c0
    case b0=>exact S.b0
    case g0=>exact fun id x e=>hle.G _ _ (S.g0 id x e)
  unfold impo
  cases d with
  | none=>exact S2
  | some d=>exact S2.put (ava S X S' (S'.t 0 v rfl) hr)
end
end Go.VS
end
section
namespace Go.VS
open Go
section
variable {φ:Nat→FuncId} {N:Env} {c:Cx} {s:St} {a:Act} {w w':World} {h h':Gh} {P:Program}
def subGh (h:Gh) (nb:Nat) (ids:List Nat):Gh where
  Rp:=h.Rp
  Rl:=h.Rl
  B:=fun id=>if id<nb then h.B id else none
  G:=fun j=>(ids[j]?).bind h.G
theorem al0 {nb:Nat} {ids:List Nat} {v:V} {y:Value} (hk:KOk φ w h v y):KOk φ w (subGh h nb ids) (renL nb ids v) y:=by
  cases hk with
  | l hl=>
    have:KOk φ w (subGh h nb ids) v y:=.l hl
    cases hl with
    | pl hp=>cases hp <;> exact this
    | fn=>exact .l (.no _)
    | no=>exact this
    | view=>exact this
    | vp=>exact this
  | mr id b cap g hg hl hp=>
    simp only [renL]
    split
    · rename_i hin
      refine .mr _ b cap g ?_ hl hp
      simp only [subGh]
      rw [List.getElem?_eq_getElem (List.idxOf_lt_length_of_mem hin)]
      simp [hg]
    · exact .l (.no _)
  | sl id lo n tg A cap g hg hn hc ht hl ha hp=>
    simp only [renL]
    split
    · rename_i hin
      refine .sl _ lo n tg A cap g ?_ hn hc ht hl ha hp
      simp only [subGh]
      rw [List.getElem?_eq_getElem (List.idxOf_lt_length_of_mem hin)]
      simp [hg]
    · exact .l (.no _)
  | ptr j o b base k hB=>
    simp only [renL]
    split
    · rename_i hlt
      exact .ptr _ _ b base k (by simp only [subGh];rw [if_pos hlt];exact hB)
    · exact .l (.no _)
  | ep=>exact .l (.no _)
  | fn=>exact .l (.no _)
theorem ask {nb:Nat} {ids:List Nat} {v:V} {y:Value} (hv:VOk φ w h v y):VOk φ w (subGh h nb ids) (v.mapL (renL nb ids)) y:=by
  have lst:∀ {cs:List V} {f:Nat→Value},(∀ j v,cs[j]?=some v→KOk φ w h v (f j))→∀ j v,(cs.map (renL nb ids))[j]?=some v→KOk φ w (subGh h nb ids) v (f j):=by
    intro cs f h1 j v hj
    rw [List.getElem?_map] at hj
    obtain ⟨u,hu,rfl⟩:=Option.map_eq_some_iff.1 hj
    exact al0 (h1 j u hu)
  have agg:∀ {cs:List V} {cc:Array Value},cc.size=cs.length→(∀ j v,cs[j]?=some v→COk φ w h v (cc.getD j undef))→VOk φ w (subGh h nb ids) (.agg (cs.map (renL nb ids))) (.agg cc):=fun hs hall=>
    .agg _ _ (by simpa using hs) fun j v hj=>⟨lst (fun j v hj=>(hall j v hj).1) j v hj,by
      have hlt:=(List.getElem?_eq_some_iff.1 hj).1
      rw [List.length_map] at hlt
      exact (hall j _ (List.getElem?_eq_getElem hlt)).2⟩
  cases hv with
  | k hk=>
    cases v with
    | fn f caps=>
      obtain ⟨cc,rfl,hs,hall⟩:=(VOk.k hk).fn_inv
      exact .k (.fn f _ cc (by simpa using hs) (lst hall))
    | agg cs=>cases hk with | l hl=>cases hl with | pl hp=>cases hp
    | tup cs=>cases hk with | l hl=>cases hl with | pl hp=>cases hp
    | _=>exact .k (al0 hk)
  | agg cs cc hs hall=>exact agg hs hall
  | tup vs cc hs hall=>
    refine .tup _ cc (by simpa using hs) fun j v hj=>?_
    rw [List.getElem?_map] at hj
    obtain ⟨u,hu,rfl⟩:=Option.map_eq_some_iff.1 hj
    have hu2:=hall j u hu
    generalize cc.getD j undef=yy at hu2 ⊢
    cases hu2 with
    | k hk=>
      have h2:=al0 (nb:=nb) (ids:=ids) hk
      cases u with
      | agg=>cases hk with | l hl=>cases hl with | pl hp=>cases hp
      | _=>exact .k h2
    | agg cs cc' hs' hall'=>exact agg hs' hall'
    | tup vs' cc' hs' hall'=>exact .mkno _
theorem Sim.sub (S:Sim φ N c s a w h) {nb:Nat} {ids:List Nat} {t':List V} {a':Act} (hnd:ids.Nodup) (hB:∀ id x,c.B0 id=some x→id<nb) (hG:∀ id x,c.G0 id=some x→ids[id]?=some id) (hsz:a'.tmps.size=t'.length) (hdf:a'.defers=[])
    (ht:∀ j v,t'[j]?=some v→VOk φ w (subGh h nb ids) v (a'.tmps.getD j undef)):
    Sim φ N c ⟨t',(s.m.take nb).map fun cs=>cs.map (renL nb ids),ids.map fun id=>s.r.getD id .gone⟩ a' w (subGh h nb ids):=by
  have blk:∀ i b lo hi,BlkAt (subGh h nb ids) ⟨t',(s.m.take nb).map fun cs=>cs.map (renL nb ids),ids.map fun id=>s.r.getD id .gone⟩ i b lo hi→BlkAt h s i b lo hi:=by
    rintro i b lo hi ⟨cs,h1,h2,h3⟩
    simp only [List.getElem?_map] at h1
    obtain ⟨cs0,g1,rfl⟩:=Option.map_eq_some_iff.1 h1
    have hlt:=(List.getElem?_eq_some_iff.1 g1).1
    rw [List.length_take] at hlt
    rw [List.getElem?_take_of_lt (by omega)] at g1
    simp only [subGh] at h2
    rw [if_pos (by omega),List.length_map] at h2
    exact ⟨cs0,g1,h2,by rw [h3,List.length_map]⟩
  have row:∀ i b,RowAt (subGh h nb ids) ⟨t',(s.m.take nb).map fun cs=>cs.map (renL nb ids),ids.map fun id=>s.r.getD id .gone⟩ i b→∃ id,ids[i]?=some id∧RowAt h s id b:=by
    rintro i b ⟨z,xs,g,cap,h1,h2,h3⟩
    simp only [subGh] at h2
    obtain ⟨id,g1,g2⟩:=Option.bind_eq_some_iff.1 h2
    refine ⟨id,g1,z,xs,g,cap,?_,g2,h3⟩
    simp only [List.getElem?_map,g1,Option.map_some,Option.some.injEq] at h1
    exact aae h1 (by simp)
  have own:∀ b o,Owned (subGh h nb ids) ⟨t',(s.m.take nb).map fun cs=>cs.map (renL nb ids),ids.map fun id=>s.r.getD id .gone⟩ b o→Owned h s b o:=by
    rintro b o (⟨i,lo,hi,h1,h2,h3⟩ | ⟨i,h1⟩)
    · exact .inl ⟨i,lo,hi,blk i b lo hi h1,h2,h3⟩
    · obtain ⟨id,_,g2⟩:=row i b h1
      exact .inr ⟨id,g2⟩
  constructor
  case nt=>exact hsz
  case df=>exact hdf
  case t=>exact ht
  case m=>
    intro id cs hi
    simp only [List.getElem?_map] at hi
    obtain ⟨cs0,g1,rfl⟩:=Option.map_eq_some_iff.1 hi
    have hlt:=(List.getElem?_eq_some_iff.1 g1).1
    rw [List.length_take] at hlt
    rw [List.getElem?_take_of_lt (by omega)] at g1
    obtain ⟨b,base,hb,cc,T,fr,k1,k2,k3,k4⟩:=S.m id cs0 g1
    refine ⟨b,base,by simp only [subGh];rw [if_pos (by omega),List.length_map];exact hb,cc,T,fr,k1,by rw [List.length_map];exact k2,fun j v hj=>?_,by rw [List.length_map];exact k4.1,fun j hj=>?_⟩
    · rw [List.getElem?_map] at hj
      obtain ⟨u,hu,rfl⟩:=Option.map_eq_some_iff.1 hj
      exact ⟨al0 (k3 j u hu).1,(k3 j u hu).2⟩
    · rw [List.getElem?_map] at hj
      obtain ⟨u,hu,hz⟩:=Option.map_eq_some_iff.1 hj
      have hz':u=.bz:=by
        cases u <;> simp only [renL] at hz <;> first
          | rfl
          | (cases hz;done)
          | ((repeat' split at hz) <;> cases hz)
      subst hz'
      exact k4.2 j hu
  case r=>
    intro i z fz xs hi
    simp only [List.getElem?_map] at hi
    obtain ⟨id,h1,h2⟩:=Option.map_eq_some_iff.1 hi
    obtain ⟨g,h3,h4⟩:=S.r id z fz xs (aae h2 (by simp))
    exact ⟨g,by simp [subGh,h1,h3],h4⟩
  case bN=>
    intro id hi
    simp only [List.length_map,List.length_take] at hi
    simp only [subGh]
    split
    · exact S.bN id (by omega)
    · rfl
  case gN=>
    intro id hi
    simp only [List.length_map] at hi
    simp only [subGh]
    rw [List.getElem?_eq_none hi];rfl
  case sR=>exact fun b o hR ho=>S.sR b o hR (own b o ho)
  case sM=>exact fun i j b lo hi lo' hi' hij h1 h2 h3 h4=>S.sM i j b lo hi lo' hi' hij h1 h2 (blk _ _ _ _ h3) (blk _ _ _ _ h4)
  case sX=>
    intro i id b lo hi hlt h1 h2
    obtain ⟨id',_,g2⟩:=row id b h2
    exact S.sX i id' b lo hi hlt (blk _ _ _ _ h1) g2
  case sW=>
    intro i j b h1 h2
    obtain ⟨id,g1,g2⟩:=row i b h1
    obtain ⟨id',g1',g2'⟩:=row j b h2
    have:=S.sW id id' b g2 g2'
    subst this
    exact (List.getElem?_inj (List.getElem?_eq_some_iff.1 g1).1 hnd).1 (g1.trans g1'.symm)
  case fr=>exact S.fr
  case ow=>exact fun b o ho=>S.ow b o (own b o ho)
  case pl=>exact S.pl
  case p0=>exact S.p0
  case l0=>exact S.l0
  case p1=>exact S.p1
  case l1=>exact S.l1
  case rb=>exact S.rb
  case lo=>exact fun b o ho=>S.lo b o (own b o ho)
  case lN=>exact S.lN
  case oN=>exact S.oN
  case c0=>exact S.c0
  case b0=>
    intro id x hx
    simp only [subGh]
    rw [if_pos (hB id x hx)]
    exact S.b0 id x hx
  case g0=>
    intro id x hx
    simp only [subGh,hG id x hx]
    exact S.g0 id x hx
theorem akk (r:List Rw):∀ (vs:List V) (ids:List Nat),ids.Nodup→(rids r ids vs).Nodup:=by
  intro vs
  induction vs with
  | nil=>exact fun ids h=>h
  | cons v vs ih=>
    intro ids hn
    refine ih _ ?_
    unfold ridL
    split
    · split
      · exact hn
      · rename_i hnin
        split
        · refine List.nodup_append.2 ⟨hn,by simp,fun x hx y hy e=>?_⟩
          rw [List.mem_singleton.1 hy] at e
          exact hnin (e ▸ hx)
        · exact hn
    · split
      · exact hn
      · rename_i hnin
        split
        · refine List.nodup_append.2 ⟨hn,by simp,fun x hx y hy e=>?_⟩
          rw [List.mem_singleton.1 hy] at e
          exact hnin (e ▸ hx)
        · exact hn
    · exact hn
theorem apu (lv:List Nat):∀ (ts:List V) (k j:Nat) (v:V),(keep lv k ts)[j]?=some v→∃ u,ts[j]?=some u∧(v=u∨v=.no)
  | [],_,_,_,hj=>by simp [keep] at hj
  | t :: ts,k,j,v,hj=>by
    cases j with
    | zero=>
      simp only [keep,List.getElem?_cons_zero,Option.some.injEq] at hj
      refine ⟨t,rfl,?_⟩
      split at hj
      · exact .inl hj.symm
      · exact .inr hj.symm
    | succ j=>exact apu lv ts (k+1) j v (by simpa [keep] using hj)
theorem ajg (lv:List Nat):∀ (ts:List V) (k:Nat),(keep lv k ts).length=ts.length
  | [],_=>rfl
  | t :: ts,k=>by simp [keep,ajg lv ts (k+1)]
theorem ap7 (r:List Rw):∀ (vs:List V) (ids:List Nat) (i:Nat),i<ids.length→(rids r ids vs)[i]?=ids[i]?
  | [],_,_,_=>rfl
  | v :: vs,ids,i,h=>by
    have hl:i<(ridL r ids v).length∧(ridL r ids v)[i]?=ids[i]?:=by
      unfold ridL
      split
      · split
        · exact ⟨h,rfl⟩
        · split
          · exact ⟨by simp;omega,List.getElem?_append_left h⟩
          · exact ⟨h,rfl⟩
      · split
        · exact ⟨h,rfl⟩
        · split
          · exact ⟨by simp;omega,List.getElem?_append_left h⟩
          · exact ⟨h,rfl⟩
      · exact ⟨h,rfl⟩
    have:=ap7 r vs (ridL r ids v) i hl.1
    rw [hl.2] at this
    exact this
theorem akl (r:List Rw) (vs:List V) {pc i:Nat} (h:i<pc):(rids r (List.range pc) vs)[i]?=some i:=by
  rw [ap7 r vs _ i (by simpa using h),List.getElem?_range h]
theorem Sim.canonP (S:Sim φ N c s a w h) (pc:Nat) (lv:List Nat) {nb:Nat} (hB:∀ id x,c.B0 id=some x→id<nb) (hG:∀ id x,c.G0 id=some x→id<pc):∃ h',Sim φ N c (s.canonP pc lv nb) a w h':=by
  refine ⟨_,S.sub (akk _ _ _ List.nodup_range) hB (fun id x hx=>akl _ _ (hG id x hx)) (by simp [ajg,S.nt]) S.df fun j v hj=>?_⟩
  rw [List.getElem?_map] at hj
  obtain ⟨u,hu,rfl⟩:=Option.map_eq_some_iff.1 hj
  obtain ⟨x,hx,rfl | rfl⟩:=apu _ _ _ _ _ hu
  · exact ask (S.t j _ hx)
  · exact .mkno _
theorem Sim.canon (S:Sim φ N c s a w h) (lv:List Nat) {nb:Nat} (hB:∀ id x,c.B0 id=some x→id<nb) (hG:∀ id x,c.G0 id=some x→id<0):∃ h',Sim φ N c (s.canon lv nb) a w h':=S.canonP 0 lv hB hG
theorem Sim.ownT:∀ (ow:List (Nat × Nat)) {s:St} {h:Gh},Sim φ N c s a w h→∃ h',Sim φ N c (s.ownT ow) a w h'
  | [],s,h,S=>⟨h,S⟩
  | (d,z) :: ow,s,h,S=>by
    unfold St.ownT
    split
    · rename_i e
      obtain ⟨h1,S1⟩:=S.newNone (d:=d) z
      have e1:=S.slot d
      rw [e] at e1
      have e2:=e1.nil_inv
      have e3:a.put (some d) (.slice none 0 0)=a:=by
        have hlt:d<a.tmps.size:=by
          rw [S.nt]
          have:=aae e (by simp)
          exact (List.getElem?_eq_some_iff.1 this).1
        rw [← e2]
        have e4:a.tmps.setIfInBounds d (a.tmps.getD d undef)=a.tmps:=by
          apply Array.ext (by simp)
          intro i h1 h2
          rw [Array.getElem_setIfInBounds (by simpa using h2)]
          split
          · rename_i hi;subst hi;simp [Array.getD,hlt]
          · rfl
        cases a
        simp only [Act.put] at e4 ⊢
        rw [e4]
      rw [e3] at S1
      exact Sim.ownT ow S1
    · exact Sim.ownT ow S
theorem Sim.recell {s:St} {h:Gh} (S:Sim φ N c s a w h) {b o:Nat} {cs:List V} (hb:s.m[b]?=some cs) {v':V} (hnz:v'≠.bz) (hv:∀ y,COk φ w h (cs.getD o .no) y→COk φ w h v' y):Sim φ N c ⟨s.t,s.m.set b (cs.set o v'),s.r⟩ a w h:=by
  have hlt:=(List.getElem?_eq_some_iff.1 hb).1
  have blk:∀ i x lo hi,BlkAt h ⟨s.t,s.m.set b (cs.set o v'),s.r⟩ i x lo hi→BlkAt h s i x lo hi:=by
    rintro i x lo hi ⟨cs1,h1,h2,h3⟩
    simp only [List.getElem?_set] at h1
    split at h1
    · rename_i hi;subst hi
      cases h1
      exact ⟨cs,hb,by rw [List.length_set] at h2;exact h2,by rw [h3,List.length_set]⟩
    · exact ⟨cs1,h1,h2,h3⟩
  have own:∀ x y,Owned h ⟨s.t,s.m.set b (cs.set o v'),s.r⟩ x y→Owned h s x y:=by
    rintro x y (⟨i,lo,hi,h1,h2,h3⟩ | ⟨i,h1⟩)
    · exact .inl ⟨i,lo,hi,blk _ _ _ _ h1,h2,h3⟩
    · exact .inr ⟨i,h1⟩
  exact { S with
    m:=fun id cs1 h1=>by
      simp only [List.getElem?_set] at h1
      split at h1
      · rename_i hi;subst hi
        cases h1
        obtain ⟨x,base,g1,cc,T,fr,g2,g3,g4,g5⟩:=S.m b cs hb
        refine ⟨x,base,by rw [List.length_set];exact g1,cc,T,fr,g2,by rw [List.length_set];exact g3,fun j v hj=>?_,by rw [List.length_set];exact g5.1,fun j hj=>?_⟩
        rotate_left
        · rw [List.getElem?_set] at hj
          split at hj
          · split at hj
            · cases hj;exact absurd rfl hnz
            · cases hj
          · exact g5.2 j hj
        rw [List.getElem?_set] at hj
        split at hj
        · rename_i hoj;subst hoj
          split at hj
          · rename_i hol
            cases hj
            exact hv _ (by rw [List.getD_eq_getElem?_getD,List.getElem?_eq_getElem hol];exact g4 _ _ (List.getElem?_eq_getElem hol))
          · cases hj
        · exact g4 j v hj
      · exact S.m id cs1 h1
    bN:=fun id hid=>S.bN id (by simpa using hid)
    sR:=fun x y hR ho=>S.sR x y hR (own _ _ ho)
    sM:=fun i j x lo hi lo' hi' hij h1 h2 h3 h4=>S.sM i j x lo hi lo' hi' hij h1 h2 (blk _ _ _ _ h3) (blk _ _ _ _ h4)
    sX:=fun i id x lo hi hlt h1 h2=>S.sX i id x lo hi hlt (blk _ _ _ _ h1) h2
    sW:=S.sW
    ow:=fun x y ho=>S.ow x y (own _ _ ho)
    lo:=fun x y ho=>S.lo x y (own _ _ ho) }
theorem Sim.ownM:∀ (om:List (Nat × Nat × Nat)) {s:St} {h:Gh},Sim φ N c s a w h→∃ h',Sim φ N c (s.ownM om) a w h'
  | [],s,h,S=>⟨h,S⟩
  | (b,o,z) :: om,s,h,S=>by
    unfold St.ownM
    split
    · rename_i e
      have S2:=S.addRow (z:=if 5000≤z then z - 5000 else z) (xs:=[]) (g:=⟨if 5000≤z then z - 5000 else z,0,none,false⟩) (fun b cap' e=>by cases e) (.inl ⟨rfl,rfl,rfl,fun x hx=>by simp at hx,rfl⟩)
      have e1:=aae e (by simp)
      cases hb:s.m[b]? with
      | none=>rw [List.getD_eq_getElem?_getD,hb] at e1;simp at e1
      | some cs=>
        have e0:s.m.getD b []=cs:=by rw [List.getD_eq_getElem?_getD,hb];rfl
        rw [e0] at e ⊢
        have S3:=S2.recell (b:=b) (o:=o) (cs:=cs) hb (v':=.sl s.r.length 0 0 (5000≤z)) (fun e=>nomatch e) fun y hy=>by
          rw [e] at hy
          refine ⟨?_,hy.2⟩
          have:=(VOk.k hy.1).nil_inv
          subst this
          exact .sl _ 0 _ _ _ 0 ⟨if 5000≤z then z - 5000 else z,0,none,false⟩ (by simp) (by simp) (Nat.le_refl _) (fun _=>rfl) (by simp) rfl rfl
        exact Sim.ownM om S3
    · exact Sim.ownM om S
theorem Sim.keepT (S:Sim φ N c s a w h) (lv:List Nat):Sim φ N c ⟨keep lv 0 s.t,s.m,s.r⟩ a w h:=by
  have hl:∀ (lv:List Nat) (l:List V) (k:Nat),(keep lv k l).length=l.length:=by
    intro lv l
    induction l with
    | nil=>intro k;rfl
    | cons v l ih=>intro k;simp [keep,ih]
  have hg:∀ (lv:List Nat) (l:List V) (k j:Nat) (v:V),(keep lv k l)[j]?=some v→v=.no∨l[j]?=some v:=by
    intro lv l
    induction l with
    | nil=>intro k j v hj;simp [keep] at hj
    | cons u l ih=>
      intro k j v hj
      cases j with
      | zero=>
        simp only [keep,List.getElem?_cons_zero,Option.some.injEq] at hj
        split at hj
        · right;simp [hj]
        · left;exact hj.symm
      | succ j=>simpa using ih (k+1) j v (by simpa [keep] using hj)
  exact { S with
    nt:=by rw [S.nt];exact (hl _ _ _).symm
    df:=S.df
    t:=fun j v hj=>by
      rcases hg _ _ _ _ _ hj with rfl | h1
      · exact .k (.l (.no _))
      · exact S.t j v h1 }
theorem Sim.head (S:Sim φ N c s a w h) (lv:List Nat) (ow:List (Nat × Nat)) (om:List (Nat × Nat × Nat)) {nb:Nat} (hB:∀ id x,c.B0 id=some x→id<nb) (hG:isGl om=true∨∀ id x,c.G0 id=some x→id<pinsO om):∃ h',Sim φ N c (s.head lv ow om nb) a w h':=by
  by_cases hgl:isGl om=true
  · have e:s.head lv ow om nb=⟨keep lv 0 s.t,s.m,s.r⟩:=by
      unfold isGl at hgl;split at hgl
      · rfl
      · cases hgl
    rw [e]
    exact ⟨h,S.keepT lv⟩
  have hG:=hG.resolve_left hgl
  have hgn:∀ a b om',om≠(3000000,a,b) :: om':=fun a b om' e=>hgl (by rw [e];rfl)
  obtain ⟨h1,S1⟩:=Sim.ownT ow S
  by_cases hp:∃ pc z om',om=(1000000,pc,z) :: om'
  · obtain ⟨pc,z,om',rfl⟩:=hp
    obtain ⟨h2,S2⟩:=Sim.ownM om' S1
    exact S2.canonP pc lv hB hG
  · obtain ⟨h2,S2⟩:=Sim.ownM om S1
    have e1:s.head lv ow om nb=((s.ownT ow).ownM om).canon lv nb:=by
      unfold St.head;split
      · exact absurd rfl (hgn _ _ _)
      · exact absurd ⟨_,_,_,rfl⟩ hp
      · rfl
    have e2:pinsO om=0:=by
      unfold pinsO;split
      · exact absurd ⟨_,_,_,rfl⟩ hp
      · rfl
    rw [e1]
    rw [e2] at hG
    exact S2.canon lv hB hG
theorem anh {pc:Nat} {rs:List Rs} {nb:Nat} {o:Out} (ho:s.outP pc rs nb=some o):o.2.1.length≤nb∧o.1.leaves.all (okRet nb)=true∧o.2.1.all (·.all (okRet nb))=true:=by
  have ren:∀ (ids:List Nat) (u:V),okRet nb u=true→okRet nb (renL nb ids u)=true:=by
    intro ids u hu
    cases u with
    | sl id lo n tg=>simp only [renL];split <;> rfl
    | mr id=>simp only [renL];split <;> rfl
    | ptr id off => 
      simp only [renL]
      split
      · exact hu
      · rfl
    | _=>first | exact hu | rfl
  unfold St.outP at ho
  split at ho
  · cases ho
  · rename_i v hv
    simp only at ho
    split at ho
    · rename_i hr
      cases ho
      obtain ⟨r1,r2⟩:=hr
      refine ⟨by simp;omega,?_,?_⟩
      · rw [List.all_eq_true]
        intro x hx
        generalize hids:rids s.r (List.range pc) _=ids at hx
        have lst:∀ cs:List V,(∀ x,x ∈ cs→okRet nb x=true)→∀ x,x ∈ cs.map (renL nb ids)→okRet nb x=true:=by
          intro cs h1 x hx
          obtain ⟨u,hu,rfl⟩:=List.mem_map.1 hx
          exact ren ids u (h1 u hu)
        have r1':=List.all_eq_true.1 r1
        cases v with
        | agg cs=>exact lst cs r1' x hx
        | fn f caps=>exact lst caps r1' x hx
        | tup vs=>
          simp only [V.mapL,V.leaves,List.mem_flatMap] at hx
          obtain ⟨u',hu',hx⟩:=hx
          obtain ⟨u,hu,rfl⟩:=List.mem_map.1 hu'
          have hcs:∀ x,x ∈ u.cells→okRet nb x=true:=fun x hx=>r1' x (by simp only [V.leaves,List.mem_flatMap];exact ⟨u,hu,hx⟩)
          cases u with
          | agg cs=>exact lst cs hcs x hx
          | fn=>simp [V.cells,okRet] at hcs
          | tup=>simp [V.cells,okRet] at hcs
          | ep=>simp [V.cells,okRet] at hcs
          | vp=>simp [V.cells,okRet] at hcs
          | sl id lo n tg=>
            simp only [renL] at hx
            split at hx <;> (simp [V.cells] at hx;subst hx;rfl)
          | mr id=>
            simp only [renL] at hx
            split at hx <;> (simp [V.cells] at hx;subst hx;rfl)
          | ptr id off=>
            have h1:=hcs (.ptr id off) (by simp [V.cells])
            simp only [renL] at hx
            split at hx
            · simp [V.cells] at hx;subst hx;exact h1
            · simp [V.cells] at hx;subst hx;rfl
          | view q z xs=>
            have h1:=hcs (.view q z xs) (by simp [V.cells])
            simp [renL,V.cells] at hx;subst hx;exact h1
          | _=>simp [renL,V.cells] at hx;subst hx;rfl
        | sl id lo n tg=>
          simp only [V.mapL,renL] at hx
          split at hx <;> (simp [V.leaves] at hx;subst hx;rfl)
        | mr id=>
          simp only [V.mapL,renL] at hx
          split at hx <;> (simp [V.leaves] at hx;subst hx;rfl)
        | ptr id off=>
          have h1:=r1' (.ptr id off) (by simp [V.leaves])
          simp only [V.mapL,renL] at hx
          split at hx
          · simp [V.leaves] at hx;subst hx;exact h1
          · simp [V.leaves] at hx;subst hx;rfl
        | view q z xs=>
          have h1:=r1' (.view q z xs) (by simp [V.leaves])
          simp [V.mapL,renL,V.leaves] at hx;subst hx;exact h1
        | ep=>simp [V.leaves,okRet] at r1'
        | vp=>simp [V.leaves,okRet] at r1'
        | _=>simp [V.mapL,renL,V.leaves] at hx;subst hx;rfl
      · rw [List.all_eq_true]
        intro cs hcs
        obtain ⟨cs0,h1,rfl⟩:=List.mem_map.1 hcs
        rw [List.all_eq_true]
        intro x hx
        obtain ⟨u,hu,rfl⟩:=List.mem_map.1 hx
        exact ren _ u (List.all_eq_true.1 (List.all_eq_true.1 r2 cs0 h1) u hu)
    · cases ho
theorem asb (S:Sim φ N c s a w h) {pc:Nat} {rs:List Rs} {nb:Nat} {o:Out} (ho:s.outP pc rs nb=some o) (hB:∀ id x,c.B0 id=some x→id<nb) (hG:∀ id x,c.G0 id=some x→id<pc) {y:Value} (hy:∀ v,s.res rs=some v→VOk φ w h v y):
    ∃ h',Sim φ N c ⟨[o.1],o.2.1,o.2.2⟩ ⟨#[y],[]⟩ w h':=by
  unfold St.outP at ho
  split at ho
  · cases ho
  · rename_i v hv
    simp only at ho
    split at ho
    · cases ho
      refine ⟨_,S.sub (akk _ _ _ List.nodup_range) hB (fun id x hx=>akl _ _ (hG id x hx)) rfl rfl fun j u hj=>?_⟩
      cases j with
      | zero=>cases hj;exact ask (hy v hv)
      | succ j=>simp at hj
    · cases ho
theorem Sim.back (S:Sim φ N c s a w h) {i j:Nat} (hij:i≠j) (hi:i<s.r.length) (hj:j<s.r.length) (hG:h.G j=h.G i):Sim φ N c { s with r:=(s.r.set i (s.r.getD j .gone)).set j .gone } a w h:=by
  have row:∀ k b,RowAt h { s with r:=(s.r.set i (s.r.getD j .gone)).set j .gone } k b→k≠j∧RowAt h s (if k=i then j else k) b:=by
    rintro k b ⟨z,xs,g,cap,h1,h2,h3⟩
    replace h1:((s.r.set i (s.r.getD j .gone)).set j .gone)[k]?=_:=h1
    rw [List.getElem?_set] at h1
    by_cases e:j=k
    · rw [if_pos e] at h1;split at h1 <;> cases h1
    · rw [if_neg e,List.getElem?_set] at h1
      refine ⟨fun x=>e x.symm,?_⟩
      by_cases e2:i=k
      · rw [if_pos e2,if_pos hi] at h1
        rw [if_pos e2.symm]
        refine ⟨z,xs,g,cap,aae (Option.some.inj h1) (by simp),?_,h3⟩
        rw [hG,e2];exact h2
      · rw [if_neg e2] at h1
        rw [if_neg fun x=>e2 x.symm]
        exact ⟨z,xs,g,cap,h1,h2,h3⟩
  have own:∀ b o,Owned h { s with r:=(s.r.set i (s.r.getD j .gone)).set j .gone } b o→Owned h s b o:=by
    rintro b o (⟨k,lo,hi,h1,h2,h3⟩ | ⟨k,h1⟩)
    · exact .inl ⟨k,lo,hi,h1,h2,h3⟩
    · exact .inr ⟨_,(row k b h1).2⟩
  refine { S with m:=S.m,r:=?_,gN:=?_,sR:=fun b o x y=>S.sR b o x (own b o y),sX:=fun k l b lo hi hlt hb hr=>S.sX k _ b lo hi hlt hb (row l b hr).2,sW:=?_,ow:=fun b o x=>S.ow b o (own b o x),lo:=fun b o x=>S.lo b o (own b o x) }
  · intro k z fz xs hx
    replace hx:((s.r.set i (s.r.getD j .gone)).set j .gone)[k]?=_:=hx
    rw [List.getElem?_set] at hx
    by_cases e:j=k
    · rw [if_pos e] at hx;split at hx <;> cases hx
    · rw [if_neg e,List.getElem?_set] at hx
      by_cases e2:i=k
      · rw [if_pos e2,if_pos hi] at hx
        obtain ⟨g,g1,g2⟩:=S.r j z fz xs (aae (Option.some.inj hx) (by simp))
        exact ⟨g,by rw [← e2,← hG];exact g1,g2⟩
      · rw [if_neg e2] at hx
        exact S.r k z fz xs hx
  · intro k hk
    exact S.gN k (by simpa using hk)
  · intro k l b h1 h2
    obtain ⟨n1,r1⟩:=row k b h1
    obtain ⟨n2,r2⟩:=row l b h2
    have:=S.sW _ _ b r1 r2
    split at this <;> split at this <;> simp_all
end
end Go.VS
end
section
namespace Go.VS
open Go
section
variable {φ:Nat→FuncId} {N:Env} {c:Cx} {s:St} {a:Act} {w:World} {h:Gh} {P:Program} {o:Oper}
def keyD (str:Bool) (d:TypeDesc):Prop:=if str then d=.string else d=.int .i64
theorem ars {str:Bool} {k:V} {y:Value} (hk:isKey str k=true) (hv:VOk φ w h k y) {d:TypeDesc} (hd:keyD str d):MapKept.IsKey d y∧POk w h.Rp k y:=by
  unfold isKey at hk
  split at hk
  · rename_i n
    have:=hv.i_inv
    subst this
    cases str
    · cases hd
      exact ⟨by simp [MapKept.IsKey],.i .i64 n⟩
    · cases hk
  rotate_left
  · cases hk
  · obtain ⟨x,rfl,rfl⟩:=hv.s_inv
    cases str
    · cases hk
    · cases hd
      exact ⟨by simp [MapKept.IsKey],.s x⟩
theorem kEq_ok {str:Bool} {k kv:V} {y y':Value} {r:Bool} {R:Nat→Nat→Prop} (he:kEq str k kv=some r) (h1:POk w R k y) (h2:POk w R kv y') {d:TypeDesc} (hd:keyD str d):
    Instr.sameNow d y y'=some r∧(r=true→y'=y):=by
  unfold kEq at he
  split at he
  · split at he
    · cases he
    · rename_i hc
      have hc':str=false:=by simpa using hc
      subst hc'
      cases he
      cases hd
      cases h1;cases h2
      rename_i a b
      simp only [Instr.sameNow,if_true,decide_eq_true_eq,Option.some.injEq]
      refine ⟨?_,fun e=>by rw [e]⟩
      by_cases e:a=b <;> simp [e]
  · split at he
    · rename_i hc
      subst hc
      cases he
      cases hd
      generalize hu:V.s _=u at h1
      generalize hv:V.s _=v at h2
      cases h1 <;> (try (cases hu;done))
      cases h2 <;> (try (cases hv;done))
      rename_i a b
      cases hu;cases hv
      simp only [Instr.sameNow,decide_eq_true_eq,Option.some.injEq]
      have key:a.data.toList=b.data.toList ↔ a=b:=by
        obtain ⟨⟨a⟩⟩:=a
        obtain ⟨⟨b⟩⟩:=b
        simp
      refine ⟨?_,fun e=>by rw [key.1 e]⟩
      cases hb:(a == b) with
      | true=>rw [MapKept.bytes_beq] at hb;subst hb;simp
      | false=>
        have:¬ a=b:=fun e=>by rw [← MapKept.bytes_beq,hb] at e;cases e
        simp [key,this]
    · cases he
  · cases he
def Pair (w:World) (R:Nat→Nat→Prop) (x:V) (e:MapEntry):Prop:=∃ kv vv,x=.agg [kv,vv]∧POk w R kv e.key∧POk w R vv e.val∧e.val.oneCell'=true
theorem ai7 {str:Bool} {k:V} {y:Value} {R:Nat→Nat→Prop} (hy:POk w R k y) {d:TypeDesc} (hd:keyD str d):∀ (xs:List V) (es:List MapEntry) (i:Nat) {r:Option Nat},xs.length=es.length →
    (∀ (j:Nat) (x:V),xs[j]?=some x→∃ e:MapEntry,es[j]?=some e∧Pair w R x e)→mFind str k xs i=some r →
    match r with
    | none=>Instr.findNow d y es i=some none
    | some j=>i≤j∧∃ e,es[j - i]?=some e∧e.key=y∧Instr.findNow d y es i=some (some (j,e.val))
  | [],[],i,r,_,_,hf=>by
    simp only [mFind,Option.some.injEq] at hf
    subst hf
    rfl
  | x :: xs,e :: es,i,r,hl,hp,hf=>by
    obtain ⟨e',he',kv,vv,rfl,h1,h2,h3⟩:=hp 0 x rfl
    cases he'
    simp only [mFind] at hf
    split at hf
    · rename_i hq
      cases hf
      obtain ⟨g1,g2⟩:=kEq_ok hq hy h1 hd
      exact ⟨Nat.le_refl _,e,by simp,g2 rfl,by simp [Instr.findNow,g1]⟩
    · rename_i hq
      obtain ⟨g1,_⟩:=kEq_ok hq hy h1 hd
      have ih:=ai7 hy hd xs es (i+1) (by simpa using hl) (fun j x hj=>hp (j+1) x (by simpa using hj)) hf
      cases r with
      | none=>simp only [Instr.findNow,g1];exact ih
      | some j=>
        obtain ⟨k1,e2,k2,k3,k4⟩:=ih
        refine ⟨by omega,e2,?_,k3,by simp only [Instr.findNow,g1];exact k4⟩
        rw [show j - i=(j - (i+1))+1 by omega,List.getElem?_cons_succ]
        exact k2
    · cases hf
  | [],_ :: _,_,_,hl,_,_=>by simp at hl
  | _ :: _,[],_,_,hl,_,_=>by simp at hl
theorem Sim.putO (S:Sim φ N c s a w h) {d:Option Nat} {v:V} {cv:Value} (hv:VOk φ w h v cv):Sim φ N c (s.putO d v) (a.put d cv) w h:=by
  cases d with
  | none=>exact S
  | some d=>exact S.put hv
theorem at4 {el:V} {l:List Value} (hm:mVs el.cells l=true) (n:Int):el≠.bt n:=by
  rintro rfl
  cases l <;> simp [V.cells,mVs,mV] at hm
theorem ok_clr {d:Option Nat} {z:Nat} {x:X} {el:V} {t e:TypeId} {x':Operand} {i:TypeInfo} {zv:Value} (hd:o.dst=d) (hx:mX φ x x'=true) (ho:o.op=.call { callee:=.builtin .clear,args:=#[x'],argTypes:=#[t] })
    (ht:P.underlying t=some (.slice e)) (hi:P.info? e=some i) (hz:i.zero=some zv) (hzz:zv.cells.size=z) (hm:mVs el.cells zv.cells.toList=true):OpOk P φ o (.clr d x z el):=by
  intro N hNP c s s' a w h S he
  have vx:=mX_ok S hx
  simp only [evI] at he
  obtain ⟨s1,hs1,rfl⟩:=Option.map_eq_some_iff.1 he
  have unit:∀ {w:World} {h:Gh},VOk φ w h (.tup []) (.tuple #[]):=.tup [] #[] rfl fun j v hj=>by simp at hj
  have exec:∀ (r:Value) (w':World),(Builtin.clear_ #[t] o.type #[a.eval x']).run P w=.ok r w'→(execOp a.eval o).run P w=.ok (.value r) w':=by
    intro r w' hr
    simp [execOp,ho,resolve,invoke,builtin,hr]
  have hzr:∀ w:World,(zeroValue e).run P w=.ok zv w:=fun w=>by simp [zeroValue,typeInfo,hi,hz]
  unfold clrV at hs1
  split at hs1
  · rename_i e1
    cases hs1
    rw [e1] at vx
    refine Stp.value (w':=w) (exec _ _ ?_) (by rw [hd];exact S.putO unit)
    rw [vx.nil_inv]
    simp [Builtin.clear_,run_underlying ht]
  · rename_i id lo n tg e1
    rw [e1] at vx
    split at hs1
    · rename_i z' xs hr
      split at hs1
      · rename_i hzz'
        subst hzz'
        cases hs1
        obtain ⟨A,cap,g,f1,hg,f2,f3,f4,f5⟩:=vx.sl_inv
        have hmp:=vx.sl_mp hg
        have hx:=aae hr (by simp)
        obtain ⟨g',hg',hrw⟩:=S.r id z' false xs hx
        rw [hg] at hg';cases hg'
        obtain ⟨k1,k2,k3,k4⟩:=hrw.cells hmp
        cases n with
        | zero=>
          have e2:xs.take lo++(List.replicate 0 el++xs.drop (lo+0))=xs:=by simp
          rw [e2]
          have e3:s.r.set id (.row z' false xs)=s.r:=by
            apply List.ext_getElem?
            intro j
            rw [List.getElem?_set]
            split
            · rename_i hij;subst hij;rw [if_pos (List.getElem?_eq_some_iff.1 hx).1,hx]
            · rfl
          rw [e3]
          refine Stp.value (w':=w) (exec _ _ ?_) (by rw [hd];exact S.putO unit)
          rw [f1]
          cases A <;> simp [Builtin.clear_,run_underlying ht]
        | succ n=>
          cases hl:g.loc with
          | none=>rw [hl] at f5;simp only at f5;omega
          | some bc=>
            obtain ⟨b,room⟩:=bc
            rw [hl] at f5 k4
            simp only at f5 k4
            obtain ⟨cc,T,fr,u1,u2,u3,u4,u5,u6,u7⟩:=k4
            have hA:=f5.2 (by omega)
            subst hA
            have hel:el.cells.length=z':=by
              have:=(mVs_ok (φ:=φ) (w:=w) (h:=h) hm).1
              rw [this];simpa using hzz
            have hzc:(Builtin.zeroCells zv.cells (n+1)).toList.length=(n+1)*z':=by simp [Builtin.zeroCells,hzz]
            have hroom:(lo+(n+1))*z'≤cc.size:=by rw [u2];exact Nat.mul_le_mul_right _ (by omega)
            rw [Nat.add_mul] at hroom
            have hcell:∀ j,j<(n+1)*z'→(Builtin.zeroCells zv.cells (n+1)).toList[j]?=some (zv.cells.toList.getD (j % z') undef)∧0<z':=by
              intro j hj
              have hz0:0<z':=Nat.pos_of_ne_zero fun e=>by rw [e] at hj;omega
              have hjz:j % z'<zv.cells.size:=by rw [hzz];exact Nat.mod_lt j hz0
              refine ⟨?_,hz0⟩
              rw [list_getElem?_arr,Builtin.zeroCells,Array.getElem?_map,Array.getElem?_range,if_pos (by rw [hzz];exact hj),List.getD_eq_getElem?_getD,list_getElem?_arr]
              simp only [Option.map_some]
              rw [hzz,getElem!_pos zv.cells (j % z') hjz,Array.getElem?_eq_getElem hjz,Option.getD_some]
            have hone:∀ j,j<z'→∃ u,el.cells[j]?=some u∧POk w h.Rp u (zv.cells.toList.getD j undef)∧(zv.cells.toList.getD j undef).oneCell'=true:=by
              intro j hj
              have hj2:j<el.cells.length:=by omega
              exact ⟨_,List.getElem?_eq_getElem hj2,aor hm j _ (List.getElem?_eq_getElem hj2)⟩
            obtain ⟨w',hst,U⟩:=aef P b (lo*g.z) (Builtin.zeroCells zv.cells (n+1)).toList 0 cc w u1 (by rw [hzc,k1];omega) (fun j h2 h3=>u5 trivial j (by rw [hzc,k1] at h3;omega)) (by
              intro y hy
              obtain ⟨j,hj⟩:=List.getElem?_of_mem hy
              have hjl:=(List.getElem?_eq_some_iff.1 hj).1
              rw [hzc] at hjl
              obtain ⟨g1,g2⟩:=hcell j hjl
              rw [hj] at g1
              cases g1
              obtain ⟨_,_,_,h3⟩:=hone (j % z') (Nat.mod_lt j g2)
              exact h3)
            rw [Nat.add_zero] at U
            refine Stp.value (w':=w') (h':=h) (exec (.tuple #[]) _ ?_) ?_
            · rw [f1]
              simp [Builtin.clear_,run_underlying ht,hzr,hst]
            · rw [hd]
              refine Sim.putO ?_ unit
              refine S.setRow hx hg hl U fun hle'=>?_
              have hln:(xs.take lo).length=lo:=by rw [List.length_take];omega
              have hlen:(xs.take lo++(List.replicate (n+1) el++xs.drop (lo+(n+1)))).length=xs.length:=by
                simp only [List.length_append,List.length_replicate,List.length_drop,hln];omega
              have hset:∀ y,y ∈ xs.take lo++(List.replicate (n+1) el++xs.drop (lo+(n+1)))→y.cells.length=z':=by
                intro y hy
                rcases List.mem_append.1 hy with hy | hy
                · exact k3 y (List.mem_of_mem_take hy)
                · rcases List.mem_append.1 hy with hy | hy
                  · rw [(List.mem_replicate.1 hy).2];exact hel
                  · exact k3 y (List.mem_of_mem_drop hy)
              refine .inl ⟨hmp,k1,by rw [hlen];exact k2,hset,?_⟩
              rw [hl]
              refine ⟨_,T,fr,U.new,by rw [U.len];exact u2,by rw [hlen];exact u3,⟨u4.1,fun m hm'=>?_,fun e _=>u4.2.2 e trivial⟩,by rw [U.len];exact fun _=>u5 trivial,(fun e=>nomatch e),fun j u hj=>?_⟩
              · rcases List.mem_append.1 hm' with hy | hy
                · exact u4.2.1 m (List.mem_of_mem_take hy)
                · rcases List.mem_append.1 hy with hy | hy
                  · exact absurd (List.mem_replicate.1 hy).2.symm (at4 hm m)
                  · exact u4.2.1 m (List.mem_of_mem_drop hy)
              · have hf1:(flat (xs.take lo)).length=lo*z':=by rw [aaf (fun x hx=>k3 x (List.mem_of_mem_take hx)),hln]
                have hf2:(flat (List.replicate (n+1) el)).length=(n+1)*z':=by rw [aaf (z:=z') (fun x hx=>by rw [(List.mem_replicate.1 hx).2];exact hel),List.length_replicate]
                rw [acd,acd] at hj
                rw [k1]
                by_cases h1:j<lo*z'
                · rw [List.getElem?_append_left (by omega),aeb _ _ k3,List.getElem?_take_of_lt h1] at hj
                  rw [aaa,aaq _ _ _ _ (by omega),← aaa]
                  exact ⟨(u7 j u hj).1.mono hle'.kp hle'.p,(u7 j u hj).2⟩
                · rw [List.getElem?_append_right (by omega),hf1] at hj
                  by_cases h2:j - lo*z'<(n+1)*z'
                  · rw [List.getElem?_append_left (by omega)] at hj
                    obtain ⟨q,rfl⟩:∃ q,j=lo*z'+q:=⟨j - lo*z',by omega⟩
                    rw [Nat.add_sub_cancel_left] at hj h2
                    obtain ⟨g1,g2⟩:=hcell q h2
                    rw [aaa,aci _ _ _ _ (by rw [hzc];omega) (by rw [hzc];exact h2),g1,Option.getD_some]
                    obtain ⟨_,hd,e',he',hu⟩:=afr (z:=z') (fun x hx=>by rw [(List.mem_replicate.1 hx).2];exact hel) hj
                    obtain ⟨_,rfl⟩:=List.mem_replicate.1 (List.mem_of_getElem? he')
                    obtain ⟨u',v1,v2,v3⟩:=hone (q % z') (Nat.mod_lt q g2)
                    rw [hu] at v1;cases v1
                    exact ⟨v2.mono hle'.kp hle'.p,v3⟩
                  · rw [List.getElem?_append_right (by omega),hf2,afa _ _ k3,List.getElem?_drop] at hj
                    have e5:(lo+(n+1))*z'+(j - lo*z' - (n+1)*z')=j:=by rw [Nat.add_mul];omega
                    rw [e5] at hj
                    rw [aaa,aaq _ _ _ _ (by rw [hzc];omega),← aaa]
                    exact ⟨(u7 j u hj).1.mono hle'.kp hle'.p,(u7 j u hj).2⟩
      · cases hs1
    · cases hs1
  · cases hs1
theorem ai9:∀ l:List UInt8,flat (bytesV l)=bytesV l
  | []=>rfl
  | q :: l=>by
    show [V.i .u8 q.toNat]++flat (bytesV l)=V.i .u8 q.toNat :: bytesV l
    rw [ai9 l];rfl
theorem auz (t u ty:TypeId) (A:Option Addr) (n cap:Nat) (b:ByteArray):Builtin.copy_ #[t,u] ty #[.slice A n cap,.string b]=
    (underlying t >>= fun d=>match d with
      | .slice elem=>Builtin.lenOf (.string b) >>= fun ln=>sizeOf elem >>= fun z=>Builtin.firstCells z (Nat.min ln n) (.string b) >>= fun cells=>
        (match A with | some a=>storeCells a cells.toList | none=>pure ()) >>= fun _=>pure (goInt (Nat.min ln n))
      | _=>stuck "copy: slice type expected"):=by
  cases A <;> rfl
theorem ap9 {t u ty e:TypeId} {A:Option Addr} {n cap:Nat} {b:ByteArray} {w w':World} {cells:Array Value} (ht:P.underlying t=some (.slice e)) (hz:szT P e=some 1)
    (hfc:(Builtin.firstCells 1 (Nat.min b.size n) (.string b)).run P w=.ok cells w) (hst:(match A with | some a=>storeCells a cells.toList | none=>pure ()).run P w=.ok () w'):
    (Builtin.copy_ #[t,u] ty #[.slice A n cap,.string b]).run P w=.ok (.int .i64 (Nat.min b.size n)) w':=by
  rw [auz,Sem.run_bind,run_underlying ht]
  simp only [Result.andThen_ok,Sem.run_bind]
  have hl:(Builtin.lenOf (.string b)).run P w=.ok b.size w:=rfl
  rw [hl]
  simp only [Result.andThen_ok]
  rw [acf hz]
  simp only [Result.andThen_ok]
  rw [hfc]
  simp only [Result.andThen_ok]
  rw [hst]
  rfl
theorem ok_cpy {d:Option Nat} {x y:X} {t u e:TypeId} {x' y':Operand} (hd:o.dst=d) (hx:mX φ x x'=true) (hy:mX φ y y'=true) (ho:o.op=.call { callee:=.builtin .copy,args:=#[x',y'],argTypes:=#[t,u] })
    (ht:P.underlying t=some (.slice e)) (hz:szT P e=some 1):OpOk P φ o (.cpy d x y):=by
  intro N hNP c s s' a w h S he
  have vx:=mX_ok S hx
  have vy:=mX_ok S hy
  simp only [evI] at he
  obtain ⟨p,hs1,rfl⟩:=Option.map_eq_some_iff.1 he
  have exec:∀ (r:Value) (w':World),(Builtin.copy_ #[t,u] o.type #[a.eval x',a.eval y']).run P w=.ok r w'→(execOp a.eval o).run P w=.ok (.value r) w':=by
    intro r w' hr
    simp [execOp,ho,resolve,invoke,builtin,hr]
  unfold cpyV at hs1
  split at hs1
  · rename_i l e2
    rw [e2] at vy
    obtain ⟨b,f0,rfl⟩:=vy.s_inv
    have hbs:b.data.toList.length=b.size:=rfl
    have hfc:∀ (w:World) (n:Nat),(Builtin.firstCells 1 (Nat.min b.size n) (.string b)).run P w=.ok ((b.data.toList.take n).map fun (x:UInt8)=>Value.int .u8 x.toNat).toArray w:=by
      intro w n
      simp only [Builtin.firstCells,Sem.run_pure]
      congr 1
      apply Array.ext'
      have hm:Nat.min b.size n=min b.size n:=rfl
      simp only [Array.toList_map,ByteArray.data_extract,Array.toList_extract,List.extract,List.drop_zero,Nat.sub_zero,hm]
      rw [← hbs,Nat.min_comm,← List.take_eq_take_min]
    split at hs1
    · rename_i e1
      cases hs1
      rw [e1] at vx
      refine Stp.value (w':=w) (exec (.int .i64 0) _ ?_) (by rw [hd];exact S.putO (.mki _ _))
      rw [vx.nil_inv,f0]
      have h0:Nat.min b.size 0=0:=Nat.min_zero _
      have:=ap9 (u:=u) (ty:=o.type) (A:=none) (n:=0) (cap:=0) (b:=b) (w:=w) (w':=w) ht hz (hfc w 0) rfl
      rw [h0] at this
      exact this
    · rename_i id lo n tg e1
      rw [e1] at vx
      split at hs1
      · rename_i z' xs hr
        split at hs1
        · rename_i hzz'
          subst hzz'
          cases hs1
          obtain ⟨A,cap,g,f1,hg,f2,f3,f4,f5⟩:=vx.sl_inv
          have hmp:=vx.sl_mp hg
          have hx:=aae hr (by simp)
          obtain ⟨g',hg',hrw⟩:=S.r id 1 false xs hx
          rw [hg] at hg';cases hg'
          obtain ⟨k1,k2,k3,k4⟩:=hrw.cells hmp
          have hlen:(b.data.toList.take n).length=Nat.min b.size n:=by rw [List.length_take,hbs,Nat.min_comm]
          obtain ⟨ys,hys⟩:∃ ys,ys=b.data.toList.take n:=⟨_,rfl⟩
          have hfc:=fun w=>hfc w n
          rw [← hys] at hlen hfc ⊢
          have hyn:ys.length≤n:=by rw [hys,List.length_take];omega
          have runs:∀ (w':World),(match A with | some a=>storeCells a (ys.map fun (x:UInt8)=>Value.int .u8 x.toNat) | none=>pure ()).run P w=.ok () w'→(Builtin.copy_ #[t,u] o.type #[a.eval x',a.eval y']).run P w=.ok (.int .i64 ys.length) w':=by
            intro w' hst
            rw [f1,f0,hlen]
            exact ap9 ht hz (hfc w) hst
          by_cases h0:ys=[]
          · rw [h0]
            have e2:xs.take lo++(bytesV []++xs.drop (lo+([]:List UInt8).length))=xs:=by simp [bytesV]
            rw [e2]
            have e3:s.r.set id (.row 1 false xs)=s.r:=by
              apply List.ext_getElem?
              intro j
              rw [List.getElem?_set]
              split
              · rename_i hij;subst hij;rw [if_pos (List.getElem?_eq_some_iff.1 hx).1,hx]
              · rfl
            rw [e3]
            refine Stp.value (cv:=.int .i64 0) (w':=w) (exec _ _ ?_) (by rw [hd];exact S.putO (.mki _ _))
            have:=runs w (by rw [h0];cases A <;> rfl)
            rw [h0] at this
            exact this
          · have hpos:0<ys.length:=Nat.pos_of_ne_zero fun e=>h0 (List.eq_nil_of_length_eq_zero e)
            cases hl:g.loc with
            | none=>rw [hl] at f5;simp only at f5;omega
            | some bc=>
              obtain ⟨bb,room⟩:=bc
              rw [hl] at f5 k4
              simp only at f5 k4
              obtain ⟨cc,T,fr,u1,u2,u3,u4,u5,u6,u7⟩:=k4
              have hA:=f5.2 (by omega)
              subst hA
              obtain ⟨w',hst,U⟩:=aef P bb (lo*g.z) (ys.map fun (x:UInt8)=>Value.int .u8 x.toNat) 0 cc w u1 (by rw [List.length_map,k1];omega) (fun j h2 h3=>u5 trivial j (by rw [List.length_map,k1] at h3;omega)) (by
                intro y hy
                obtain ⟨q,_,rfl⟩:=List.mem_map.1 hy
                rfl)
              rw [Nat.add_zero] at U
              refine Stp.value (cv:=.int .i64 ys.length) (w':=w') (h':=h) (exec _ _ (runs w' hst)) ?_
              rw [hd]
              refine Sim.putO ?_ (.mki _ _)
              refine S.setRow hx hg hl U fun hle'=>?_
              have hln:(xs.take lo).length=lo:=by rw [List.length_take];omega
              have hby:(bytesV ys).length=ys.length:=by simp [bytesV]
              have hlen2:(xs.take lo++(bytesV ys++xs.drop (lo+ys.length))).length=xs.length:=by
                simp only [List.length_append,hby,List.length_drop,hln];omega
              have hone:∀ y,y ∈ bytesV ys→y.cells=[y]:=by
                intro y hy
                obtain ⟨q,_,rfl⟩:=List.mem_map.1 hy
                rfl
              have hset:∀ y,y ∈ xs.take lo++(bytesV ys++xs.drop (lo+ys.length))→y.cells.length=1:=by
                intro y hy
                rcases List.mem_append.1 hy with hy | hy
                · exact k3 y (List.mem_of_mem_take hy)
                · rcases List.mem_append.1 hy with hy | hy
                  · rw [hone y hy];rfl
                  · exact k3 y (List.mem_of_mem_drop hy)
              refine .inl ⟨hmp,k1,by rw [hlen2];exact k2,hset,?_⟩
              rw [hl]
              refine ⟨_,T,fr,U.new,by rw [U.len];exact u2,by rw [hlen2];exact u3,⟨u4.1,fun m hm'=>?_,fun e _=>u4.2.2 e trivial⟩,by rw [U.len];exact fun _=>u5 trivial,(fun e=>nomatch e),fun j v hj=>?_⟩
              · rcases List.mem_append.1 hm' with hy | hy
                · exact u4.2.1 m (List.mem_of_mem_take hy)
                · rcases List.mem_append.1 hy with hy | hy
                  · obtain ⟨q,_,hq⟩:=List.mem_map.1 hy
                    cases hq
                  · exact u4.2.1 m (List.mem_of_mem_drop hy)
              · have hfy:flat (bytesV ys)=bytesV ys:=ai9 ys
                have hf1:(flat (xs.take lo)).length=lo:=by rw [aaf (z:=1) (fun x hx=>k3 x (List.mem_of_mem_take hx)),hln,Nat.mul_one]
                rw [acd,acd,hfy] at hj
                rw [k1,Nat.mul_one]
                by_cases h1:j<lo
                · rw [List.getElem?_append_left (by omega),aeb _ _ k3,List.getElem?_take_of_lt (by omega)] at hj
                  rw [aaa,aaq _ _ _ _ (by omega),← aaa]
                  exact ⟨(u7 j v hj).1.mono hle'.kp hle'.p,(u7 j v hj).2⟩
                · rw [List.getElem?_append_right (by omega),hf1] at hj
                  by_cases h2:j - lo<ys.length
                  · rw [List.getElem?_append_left (by rw [hby];omega)] at hj
                    obtain ⟨q,rfl⟩:∃ q,j=lo+q:=⟨j - lo,by omega⟩
                    rw [Nat.add_sub_cancel_left] at hj h2
                    rw [aaa,aci _ _ _ _ (by rw [List.length_map];omega) (by rw [List.length_map];exact h2),List.getElem?_map,List.getElem?_eq_getElem h2]
                    simp only [bytesV,List.getElem?_map,List.getElem?_eq_getElem h2,Option.map_some,Option.some.injEq] at hj
                    subst hj
                    exact ⟨.i _ _,rfl⟩
                  · rw [List.getElem?_append_right (by rw [hby];omega),hby,afa _ _ k3,List.getElem?_drop,Nat.mul_one] at hj
                    have e5:lo+ys.length+(j - lo - ys.length)=j:=by omega
                    rw [e5] at hj
                    rw [aaa,aaq _ _ _ _ (by rw [List.length_map];omega),← aaa]
                    exact ⟨(u7 j v hj).1.mono hle'.kp hle'.p,(u7 j v hj).2⟩
        · cases hs1
      · cases hs1
    · cases hs1
  · cases hs1
theorem avw (t:TypeId):(Instr.makeMap t none).run P w=.ok (.map (some w.heap.size)) (w.alloc (.map #[] 0)):=rfl
theorem ok_mkm {d:Nat} {t:TypeId} (hd:o.dst=some d) (ho:o.op=.makeMap t none):OpOk P φ o (.mkm d):=by
  intro N hNP c s s' a w h S he
  simp only [evI] at he
  cases he
  obtain ⟨S1,F⟩:=S.alloc (.map #[] 0)
  have S2:=S1.addRow (z:=0) (xs:=[]) (g:=⟨0,0,some (w.heap.size,0),true⟩) (fun b cap' e=>by cases e;exact F)
    (.inr ⟨rfl,rfl,w.heap.size,0,#[],0,rfl,heap_alloc_new w _,rfl,fun j x hj=>by simp at hj⟩)
  refine Stp.value (cv:=.map (some w.heap.size)) (w':=w.alloc (.map #[] 0)) (by simp [execOp,ho,avw]) (by
    rw [hd]
    exact S2.put (v:=.mr s.r.length) (.k (.mr _ w.heap.size 0 ⟨0,0,some (w.heap.size,0),true⟩ (by simp) rfl rfl)))
theorem fr_map {b:Nat} {es es':Array MapEntry} {k k':Nat} (hb:w.heap[b]?=some (.map es k)):Fr (fun i _=>i=b) w { w with heap:=w.heap.setIfInBounds b (.map es' k') }:=
  ⟨rfl,rfl,rfl,by simp,fun i hi=>by
    by_cases e:i=b
    · subst e
      exact .inr (.inr ⟨es,k,es',k',hb,(MapKept.heap_set hb).1,fun _=>rfl⟩)
    · exact .inl ((MapKept.heap_set hb).2 i e)⟩
theorem ok_mup {str:Bool} {m k v:X} {t kt et:TypeId} {d:TypeDesc} {m' k' v':Operand} (hd:o.dst=none) (hm:mX φ m m'=true) (hk:mX φ k k'=true) (hv:mX φ v v'=true) (ho:o.op=.mapUpdate t m' k' v')
    (ht:P.underlying t=some (.map kt et)) (hkt:P.underlying kt=some d) (hdd:keyD str d):OpOk P φ o (.mup str m k v):=by
  intro N hNP c s s' a w h S he
  have vm:=mX_ok S hm
  have vk:=mX_ok S hk
  have vv:=mX_ok S hv
  simp only [evI,mupV] at he
  split at he
  · rename_i u s1 hf
    split at he
    · rename_i id em
      rw [em] at vm
      split at he
      · rename_i z xs hr
        split at he
        · rename_i hky
          obtain ⟨xs',hi,rfl⟩:=Option.map_eq_some_iff.1 he
          obtain ⟨b,cap,g,hg,hl,hp,f1⟩:=vm.mr_inv
          have hkv:KOk φ w h (s.ev v) (a.eval v'):=by
            have key:∀ (u:V) (y:Value) (r:V × St),VOk φ w h u y→frzL u s=some r→KOk φ w h u y:=by
              intro u y r hu hf
              cases hu with
              | k hk=>exact hk
              | agg=>simp [frzL] at hf
              | tup=>simp [frzL] at hf
            exact key _ _ _ vv hf
          obtain ⟨h1,F,hu⟩:=aoe S hkv hf
          obtain ⟨ik,pk⟩:=ars hky (vk.mono F.le) hdd
          have hx:=aae hr (by simp)
          have hg1:h1.G id=some g:=by rw [F.G];exact hg
          obtain ⟨g',hg',hrw⟩:=F.sim.r id z false xs hx
          rw [hg1] at hg';cases hg'
          obtain ⟨b',cap',es,clock,l1,l2,l3,l4⟩:=hrw.maps hp
          rw [hl] at l1;cases l1
          have hpair:∀ j x,xs[j]?=some x→∃ e,es.toList[j]?=some e∧Pair w h1.Rp x e:=fun j x hj=>by
            obtain ⟨e,kv,vv,q1,q2,q3,q4,q5⟩:=l4 j x hj
            exact ⟨e,(Array.getElem?_toList ..).trans q1,kv,vv,q2,q3,q4,q5⟩
          unfold mIns at hi
          split at hi
          · rename_i i hfi
            cases hi
            have:=ai7 pk hdd xs es.toList 0 (by simpa using l3.symm) hpair hfi
            obtain ⟨_,e,e1,e2,e3⟩:=this
            simp only [Nat.sub_zero] at e1
            have e1':es[i]?=some e:=by simpa using e1
            refine Stp.skip (h':=h1) (w':={ w with heap:=w.heap.setIfInBounds b (.map (es.modify i fun e=>{ e with key:=a.eval k',val:=a.eval v' }) clock) }) ?_ ?_
            · simp [execOp,ho,f1,Instr.mapUpdate,run_underlying ht,MapKept.run_getObj_map l2,MapKept.run_checkKey hkt ik,MapKept.run_findKey hkt e3,e1',e2,MapKept.run_keyThatStays ik,MapKept.run_setObj_map _ l2,Result.andThen]
            · rw [hd]
              refine F.sim.setRowF hx hg1 hl (fr_map l2) (by simp) fun hle=>.inr ⟨hp,rfl,b,cap,_,clock,hl,(MapKept.heap_set l2).1,by simp [l3],fun j x hj=>?_⟩
              rw [List.getElem?_set] at hj
              split at hj
              · rename_i hij;subst hij
                split at hj
                · cases hj
                  exact ⟨{ e with key:=a.eval k',val:=a.eval v' },_,_,by simp [Array.getElem?_modify,e1'],rfl,pk.mono hle.kp hle.p,hu.mono hle.kp hle.p,hu.leaf.2.1⟩
                · cases hj
              · rename_i hij
                obtain ⟨e',kv,vv,q1,q2,q3,q4,q5⟩:=l4 j x hj
                exact ⟨e',kv,vv,by simp [Array.getElem?_modify,hij,q1],q2,q3.mono hle.kp hle.p,q4.mono hle.kp hle.p,q5⟩
          · rename_i hfi
            cases hi
            have e3:=ai7 pk hdd xs es.toList 0 (by simpa using l3.symm) hpair hfi
            simp only at e3
            refine Stp.skip (h':=h1) (w':={ w with heap:=w.heap.setIfInBounds b (.map (es.push { key:=a.eval k',val:=a.eval v',born:=clock }) (clock+1)) }) ?_ ?_
            · simp [execOp,ho,f1,Instr.mapUpdate,run_underlying ht,MapKept.run_getObj_map l2,MapKept.run_checkKey hkt ik,MapKept.run_findKey hkt e3,MapKept.run_setObj_map _ l2,Result.andThen]
            · rw [hd]
              refine F.sim.setRowF hx hg1 hl (fr_map l2) (by simp) fun hle=>.inr ⟨hp,rfl,b,cap,_,clock+1,hl,(MapKept.heap_set l2).1,by simp [l3],fun j x hj=>?_⟩
              rcases getElem?_snoc hj with ⟨j1,j2⟩ | ⟨j1,j2⟩
              · obtain ⟨e',kv,vv,q1,q2,q3,q4,q5⟩:=l4 j x j2
                exact ⟨e',kv,vv,by rw [Array.getElem?_push,if_neg (by omega)];exact q1,q2,q3.mono hle.kp hle.p,q4.mono hle.kp hle.p,q5⟩
              · subst j2
                exact ⟨{ key:=a.eval k',val:=a.eval v',born:=clock },_,_,by rw [Array.getElem?_push,if_pos (by omega)],rfl,pk.mono hle.kp hle.p,hu.mono hle.kp hle.p,hu.leaf.2.1⟩
          · cases hi
        · cases he
      · cases he
    · cases he
  · cases he
theorem ok_mlk {d:Nat} {str ok:Bool} {zv:V} {m k:X} {t kt et:TypeId} {dd:TypeDesc} {m' k':Operand} {i:TypeInfo} {z:Value} (hd:o.dst=some d) (hm:mX φ m m'=true) (hk:mX φ k k'=true) (ho:o.op=.lookup t m' k' ok)
    (ht:P.underlying t=some (.map kt et)) (hkt:P.underlying kt=some dd) (hdd:keyD str dd) (hi:P.info? et=some i) (hz:i.zero=some z) (hzv:mV zv z=true):OpOk P φ o (.mlk d str zv m k ok):=by
  intro N hNP c s s' a w h S he
  have vm:=mX_ok S hm
  have vk:=mX_ok S hk
  simp only [evI] at he
  obtain ⟨v,he1,rfl⟩:=Option.map_eq_some_iff.1 he
  clear he
  have he:=he1
  unfold mlkV at he
  split at he
  · rename_i id em
    rw [em] at vm
    split at he
    · rename_i z0 fz xs hr
      split at he
      · rename_i hky
        obtain ⟨b,cap,g,hg,hl,hp,f1⟩:=vm.mr_inv
        obtain ⟨ik,pk⟩:=ars hky vk hdd
        have hx:=aae hr (by simp)
        obtain ⟨g',hg',hrw⟩:=S.r id z0 fz xs hx
        rw [hg] at hg';cases hg'
        obtain ⟨b',cap',es,clock,l1,l2,l3,l4⟩:=hrw.maps hp
        rw [hl] at l1;cases l1
        have hpair:∀ j x,xs[j]?=some x→∃ e,es.toList[j]?=some e∧Pair w h.Rp x e:=fun j x hj=>by
          obtain ⟨e,kv,vv,q1,q2,q3,q4,q5⟩:=l4 j x hj
          exact ⟨e,(Array.getElem?_toList ..).trans q1,kv,vv,q2,q3,q4,q5⟩
        have run:∀ (r:Option (Nat × Value)),Instr.findNow dd (a.eval k') es.toList 0=some r→(execOp a.eval o).run P w=.ok (.value (match r with | some (_,v)=>if ok then .tuple #[v,.bool true] else v | none=>if ok then .tuple #[z,.bool false] else z)) w:=by
          intro r hr
          have hzr:(zeroValue et).run P w=.ok z w:=by simp [zeroValue,typeInfo,hi,hz]
          cases r with
          | none=>simp [execOp,ho,f1,Instr.lookup,run_underlying ht,MapKept.run_getObj_map l2,MapKept.run_checkKey hkt ik,MapKept.run_findKey hkt hr,hzr,Result.andThen] <;> (try (cases ok <;> rfl))
          | some p=>simp [execOp,ho,f1,Instr.lookup,run_underlying ht,MapKept.run_getObj_map l2,MapKept.run_checkKey hkt ik,MapKept.run_findKey hkt hr,Result.andThen] <;> (try (cases ok <;> rfl))
        have two:∀ {u:V} {y:Value} (b:Bool),VOk φ w h u y→VOk φ w h (if ok then .tup [u,.b b] else u) (if ok then .tuple #[y,.bool b] else y):=by
          intro u y b hu
          cases ok
          · exact hu
          · refine .tup _ _ rfl fun j v hj=>?_
            match j with
            | 0=>cases hj;exact hu
            | 1=>cases hj;exact .mkb b
            | j+2=>simp at hj
        split at he
        · rename_i i hfi
          obtain ⟨u,hu,rfl⟩:=Option.map_eq_some_iff.1 he
          obtain ⟨_,e,e1,e2,e3⟩:=ai7 pk hdd xs es.toList 0 (by simpa using l3.symm) hpair hfi
          simp only [Nat.sub_zero] at e1
          unfold mGet at hu
          split at hu
          · rename_i kv uu hxi
            cases hu
            obtain ⟨e',q1,kv',vv',q2,q3,q4,q5⟩:=hpair i _ hxi
            cases q2
            rw [e1] at q1;cases q1
            exact Stp.val S hd (run _ e3) (two true (.mkp q4))
          · cases hu
        · rename_i hfi
          cases he
          have e3:=ai7 pk hdd xs es.toList 0 (by simpa using l3.symm) hpair hfi
          exact Stp.val S hd (run _ e3) (two false (mV_ok hzv))
        · cases he
      · cases he
    · cases he
  · cases he
end
end Go.VS
end
section
namespace Go.VS
open Go
abbrev TI:=TypeId→Option TypeInfo
structure TIok (P:Program) (tb:TI):Prop where
  ty:∀ t i,tb t=some i→P.types[t]?=some i
theorem TIok.i {P:Program} {tb:TI} (h:TIok P tb) (t:TypeId) (i:TypeInfo) (e:tb t=some i):P.info? t=some i:=by
  have h1:=h.ty t i e
  unfold Tables.info?
  rw [if_pos (Array.getElem?_eq_some_iff.1 h1).1,h1]
instance {P:Program} {tb:TI}:CoeFun (TIok P tb) fun _=>∀ t i,tb t=some i→P.info? t=some i:=⟨TIok.i⟩
def unT (tb:TI) (t:TypeId):Option TypeDesc:=
  match tb t with
  | some { desc:=.named _ u,.. }=>(tb u).map (·.desc)
  | some i=>some i.desc
  | none=>none
def isStr (tb:TI) (t:TypeId):Bool:=match unT tb t with | some .string=>true | _=>false
def isBool (tb:TI) (t:TypeId):Bool:=match unT tb t with | some .bool=>true | _=>false
def intT (tb:TI) (t:TypeId):Option IntKind:=match unT tb t with | some (.int k)=>some k | _=>none
def slcT (tb:TI) (t:TypeId):Option TypeId:=match unT tb t with | some (.slice e)=>some e | _=>none
def fldT (tb:TI) (t:TypeId) (i:Nat):Option Field:=match unT tb t with | some (.struct fs)=>fs[i]? | _=>none
def nilT (tb:TI) (t:TypeId):Option Nat:=match unT tb t with | some (.pointer _)=>some 0 | some (.slice _)=>some 1 | some (.func _ _ _)=>some 2 | _=>none
def mpT (tb:TI) (t:TypeId):Option (TypeId × TypeId):=match unT tb t with | some (.map k e)=>some (k,e) | _=>none
def keyT (tb:TI) (str:Bool) (t:TypeId):Bool:=match unT tb t with | some .string=>str | some (.int .i64)=>!str | _=>false
def sz' (tb:TI) (t:TypeId):Option Nat:=(tb t).map (·.size)
def ag' (tb:TI) (t:TypeId):Option Bool:=match unT tb t with | some (.struct _)=>some true | some (.array _ _)=>some true | some _=>some false | none=>none
def places' (tb:TI) (t:TypeId):Option (Nat→Option (Nat × Nat)):=
  match unT tb t with
  | some (.array _ e)=>(tb e).map fun ie i=>some (i*ie.size,ie.size)
  | some (.struct fields)=>(fields.toList.mapM (fun f=>(tb f.type).map fun i=>(f.offset,i.size))).map fun places=>(places.toArray[·]?)
  | _=>none
def app' (tb:TI) (t:TypeId):Bool:=match unT tb t with | some .string=>true | some (.slice _)=>true | _=>false
section
variable {P:Program} {tb:TI}
theorem unT_ok (h:TIok P tb) {t:TypeId} {d:TypeDesc} (e:unT tb t=some d):P.underlying t=some d:=by
  unfold unT at e
  unfold Program.underlying
  cases ht:tb t with
  | none=>rw [ht] at e;cases e
  | some i=>
    rw [ht] at e
    rw [h t i ht]
    obtain ⟨desc,_,_,_,_,_,_,_,_,_⟩:=i
    cases desc <;> simp only at e ⊢ <;> first
      | exact e
      | (obtain ⟨j,hj,rfl⟩:=Option.map_eq_some_iff.1 e
         simp [h _ j hj])
theorem ael (h:TIok P tb) {t:TypeId} (e:isStr tb t=true):P.underlying t=some .string:=by
  unfold isStr at e;split at e
  · rename_i h1;exact unT_ok h h1
  · cases e
theorem aro (h:TIok P tb) {t:TypeId} (e:isBool tb t=true):P.underlying t=some .bool:=by
  unfold isBool at e;split at e
  · rename_i h1;exact unT_ok h h1
  · cases e
theorem aok (h:TIok P tb) {t:TypeId} {k:IntKind} (e:intT tb t=some k):P.underlying t=some (.int k):=by
  unfold intT at e;split at e
  · rename_i h1;cases e;exact unT_ok h h1
  · cases e
theorem adm (h:TIok P tb) {t e:TypeId} (he:slcT tb t=some e):P.underlying t=some (.slice e):=by
  unfold slcT at he;split at he
  · rename_i h1;cases he;exact unT_ok h h1
  · cases he
theorem arf (h:TIok P tb) {t:TypeId} {i:Nat} {f:Field} (he:fldT tb t i=some f):∃ fs,P.underlying t=some (.struct fs)∧fs[i]?=some f:=by
  unfold fldT at he;split at he
  · rename_i fs h1;exact ⟨fs,unT_ok h h1,he⟩
  · cases he
theorem avl (h:TIok P tb) {t:TypeId} {k:Nat} (he:nilT tb t=some k):(k=0→∃ e,P.underlying t=some (.pointer e))∧(k=1→∃ e,P.underlying t=some (.slice e))∧(k=2→∃ p q b,P.underlying t=some (.func p q b)):=by
  unfold nilT at he;split at he
  · rename_i e h1;cases he;exact ⟨fun _=>⟨e,unT_ok h h1⟩,(fun e=>nomatch e),(fun e=>nomatch e)⟩
  · rename_i e h1;cases he;exact ⟨(fun e=>nomatch e),fun _=>⟨e,unT_ok h h1⟩,(fun e=>nomatch e)⟩
  · rename_i p q b h1;cases he;exact ⟨(fun e=>nomatch e),(fun e=>nomatch e),fun _=>⟨p,q,b,unT_ok h h1⟩⟩
  · cases he
theorem mpT_ok (h:TIok P tb) {t k e:TypeId} (he:mpT tb t=some (k,e)):P.underlying t=some (.map k e):=by
  unfold mpT at he;split at he
  · rename_i h1;cases he;exact unT_ok h h1
  · cases he
theorem arq (h:TIok P tb) {str:Bool} {t:TypeId} (he:keyT tb str t=true):∃ d,P.underlying t=some d∧keyD str d:=by
  unfold keyT at he;split at he
  · rename_i h1;subst he;exact ⟨_,unT_ok h h1,rfl⟩
  · rename_i h1;cases str
    · exact ⟨_,unT_ok h h1,rfl⟩
    · cases he
  · cases he
theorem sz_ok (h:TIok P tb) {t:TypeId} {z:Nat} (e:sz' tb t=some z):szT P t=some z:=by
  obtain ⟨i,hi,rfl⟩:=Option.map_eq_some_iff.1 e
  simp [szT,h t i hi]
theorem ag_ok (h:TIok P tb) {t:TypeId} {b:Bool} (e:ag' tb t=some b):agT P t=some b:=by
  unfold ag' at e
  unfold agT
  cases hu:unT tb t with
  | none=>rw [hu] at e;cases e
  | some d=>rw [hu] at e;rw [unT_ok h hu];exact e
theorem app_ok (h:TIok P tb) {t:TypeId} (e:app' tb t=true):appT P t=true:=by
  unfold app' at e
  unfold appT
  split at e
  · rename_i h1;rw [unT_ok h h1]
  · rename_i h1;rw [unT_ok h h1]
  · cases e
theorem arz (h:TIok P tb):∀ (fs:List Field) (pl:List (Nat × Nat)),fs.mapM (fun f=>(tb f.type).map fun i=>(f.offset,i.size))=some pl→fs.mapM (fun f=>(P.info? f.type).map fun i=>(f.offset,i.size))=some pl
  | [],pl,e=>e
  | f :: fs,pl,e=>by
    simp only [List.mapM_cons,Option.bind_eq_bind,Option.pure_def] at e ⊢
    obtain ⟨x,hx,e⟩:=Option.bind_eq_some_iff.1 e
    obtain ⟨xs,hxs,e⟩:=Option.bind_eq_some_iff.1 e
    obtain ⟨i,hi,rfl⟩:=Option.map_eq_some_iff.1 hx
    rw [h _ i hi,arz h fs xs hxs]
    simpa using e
theorem ase (h:TIok P tb) {t:TypeId} {p:Nat→Option (Nat × Nat)} (e:places' tb t=some p):placesOf P t=some p:=by
  unfold places' at e
  unfold placesOf
  split at e
  · rename_i h1
    obtain ⟨i,hi,rfl⟩:=Option.map_eq_some_iff.1 e
    rw [unT_ok h h1];simp [h _ i hi]
  · rename_i fs h1
    obtain ⟨pl,hpl,rfl⟩:=Option.map_eq_some_iff.1 e
    rw [unT_ok h h1]
    simp only [arz h _ _ hpl,Option.map_some]
  · cases e
end
def mAs (φ:Nat→FuncId):List (X × Md)→List Operand→Bool
  | [],[]=>true
  | (x,_) :: xs,y :: ys=>mX φ x y && mAs φ xs ys
  | _,_=>false
def mXs (φ:Nat→FuncId):List X→List Operand→Bool
  | [],[]=>true
  | x :: xs,y :: ys=>mX φ x y && mXs φ xs ys
  | _,_=>false
def mAlc (tb:TI) (zs:List V) (t:TypeId):Bool:=
  match zs with
  | [.bz,.nil]=>(match tb t with | some i=>isBld i.desc && (match i.zero with | some zv=>(match zv.cells.toList with | [.pointer none,.slice none 0 0]=>true | _=>false) | none=>false) | none=>false)
  | zs=>(match (tb t).bind (·.zero) with | some zv=>mVs zs zv.cells.toList | none=>false)
def mI (tb:TI) (φ:Nat→FuncId) (i:I) (o:Oper):Bool:=
  match i with
  | .mv d x=>o.dst == some d && match o.op with | .move y=>mX φ x y | .assign y=>mX φ x y | _=>false
  | .frz d x=>o.dst == some d && match o.op with | .move y=>mX φ x y | .assign y=>mX φ x y | _=>false
  | .bin d op x y=>o.dst == some d && match o.op with | .binOp op' _ x' y' _=>op == op' && mX φ x x' && mX φ y y' | _=>false
  | .un d op x=>o.dst == some d && match o.op with | .unOp op' _ x'=>op == op' && mX φ x x' | _=>false
  | .pick d x y z=>o.dst == some d && match o.op with | .pick x' y' z'=>mX φ x x' && mX φ y y' && mX φ z z' | _=>false
  | .cvi d k x=>o.dst == some d && match o.op with | .convert t u x'=>mX φ x x' && (unT tb t).isSome && intT tb u == some k | _=>false
  | .cvn d x=>o.dst == some d && match o.op with | .convert t u x'=>mX φ x x' && isStr tb t && isStr tb u | _=>false
  | .cvb d x=>o.dst == some d && match o.op with | .convert t u x'=>mX φ x x' && isStr tb t && (match slcT tb u with | some e=>intT tb e == some .u8 | none=>false) | _=>false
  | .cvs d x=>o.dst == some d && match o.op with | .convert t u x'=>mX φ x x' && isStr tb u && (match slcT tb t with | some e=>intT tb e == some .u8 | none=>false) | _=>false
  | .ext d x j=>o.dst == some d && match o.op with | .extract x' j'=>mX φ x x' && j == j' | _=>false
  | .fld d x off z ag=>o.dst == some d && match o.op with
    | .field t x' i=>mX φ x x' && (match fldT tb t i with | some f=>f.offset == off && sz' tb f.type == some z && ag' tb f.type == some ag | none=>false)
    | _=>false
  | .bld d zs ps=>o.dst == some d && match o.op with
    | .build t parts=>(match (tb t).bind (·.zero) with | some zv=>mVs zs zv.cells.toList | none=>false) && (match places' tb t with | some p=>mPs φ p ps parts.toList | none=>false)
    | _=>false
  | .bsl d z ps=>o.dst == some d && match o.op with
    | .buildSlice t len parts=>(match slcT tb t with | some e=>(match tb e with | some i=>i.zero.isSome && i.size == z | none=>false) | none=>false) && ps.length == len && mBs φ 0 ps parts.toList && decide (len*z≤16777216) && decide (len≤16777216)
    | _=>false
  | .mks d z el len cap=>o.dst == some d && match o.op with
    | .makeSlice t l c=>mX φ len l && mX φ cap c && (match slcT tb t with
      | some e=>(match tb e with | some i=>(match i.zero with | some zv=>zv.cells.size == z && mVs el.cells zv.cells.toList | none=>false) && i.size == z && decide (i.bytes≤65536) | none=>false)
      | none=>false)
    | _=>false
  | .alc d zs=>o.dst == some d && match o.op with | .alloc t=>mAlc tb zs t | _=>false
  | .box d x=>o.dst == some d && match o.op with | .box _ x'=>mX φ x x' | _=>false
  | .ld d x z ag=>o.dst == some d && match o.op with | .load t x'=>mX φ x x' && sz' tb t == some z && ag' tb t == some ag | _=>false
  | .st x v z=>o.dst == none && match o.op with | .store t x' v'=>mX φ x x' && mX φ v v' && sz' tb t == some z | _=>false
  | .nck d x=>o.dst == some d && match o.op with | .nilCheck x'=>mX φ x x' | _=>false
  | .fad d x off=>o.dst == some d && match o.op with
    | .fieldAddr t x' i=>mX φ x x' && (match fldT tb t i with | some f=>f.offset == off && (match sz' tb f.type with | some z=>z != 0 | none=>false) | none=>false)
    | _=>false
  | .ixa d x i z=>o.dst == some d && match o.op with
    | .indexAddr t x' i'=>mX φ x x' && mX φ i i' && (match slcT tb t with | some e=>sz' tb e == some z | none=>false) && z != 0
    | _=>false
  | .ixs d x i=>o.dst == some d && match o.op with | .index t x' i'=>mX φ x x' && mX φ i i' && isStr tb t | _=>false
  | .slc d x lo hi z=>o.dst == some d && match o.op with
    | .slice t x' lo' hi' none=>mX φ x x' && mXo φ lo lo' && mXo φ hi hi' && (if z == 0 then isStr tb t else (match slcT tb t with | some e=>sz' tb e == some z | none=>false))
    | _=>false
  | .len d str x=>o.dst == some d && match o.op with
    | .call ⟨.builtin .len,args,ats⟩=>(match args.toList,ats.toList with | [x'],[t]=>mX φ x x' && (if str then isStr tb t else (slcT tb t).isSome) | _,_=>false)
    | _=>false
  | .app d x y z=>o.dst == some d && match o.op with
    | .call ⟨.builtin .append,args,ats⟩=>(match args.toList,ats.toList with
      | [x',y'],[t,u]=>mX φ x x' && mX φ y y' && app' tb u && (match slcT tb t with
        | some e=>(match tb e with | some i=>(match i.zero with | some zv=>zv.cells.size == z | none=>false) && i.size == z && decide (i.bytes≤65536) | none=>false)
        | none=>false)
      | _,_=>false)
    | _=>false
  | .apb d x y=>o.dst == some d && match o.op with
    | .call ⟨.builtin .append,args,ats⟩=>(match args.toList,ats.toList with
      | [x',y'],[t,u]=>mX φ x x' && mX φ y y' && app' tb u && (match slcT tb t with
        | some e=>(match tb e with | some i=>(match i.zero with | some zv=>zv.cells.size == 1 | none=>false) && i.size == 1 && decide (i.bytes≤65536) && isU8 i.desc | none=>false)
        | none=>false)
      | _,_=>false)
    | _=>false
  | .mm d mx x y=>o.dst == some d && match o.op with
    | .call ⟨.builtin b,args,_⟩=>(match b with | .max=>mx | .min=>!mx | _=>false) && (match args.toList with | [x',y']=>mX φ x x' && mX φ y y' | _=>false)
    | _=>false
  | .mkf d f caps=>o.dst == some d && match o.op with | .makeFunc (.func g) first caps'=>φ f == g && first.toList.isEmpty && mXs φ caps caps'.toList | _=>false
  | .eqb d neq x y=>o.dst == some d && match o.op with | .binOp op t x' y' _=>op == (if neq then .neq else .eql) && mX φ x x' && mX φ y y' && isBool tb t | _=>false
  | .eqn d k neq x y=>o.dst == some d && match o.op with | .binOp op t x' y' _=>op == (if neq then .neq else .eql) && mX φ x x' && mX φ y y' && nilT tb t == some k | _=>false
  | .clr d x z el=>o.dst == d && match o.op with
    | .call ⟨.builtin .clear,args,ats⟩=>(match args.toList,ats.toList with
      | [x'],[t]=>mX φ x x' && (match slcT tb t with
        | some e=>(match tb e with | some i=>(match i.zero with | some zv=>zv.cells.size == z && mVs el.cells zv.cells.toList | none=>false) | none=>false)
        | none=>false)
      | _,_=>false)
    | _=>false
  | .cpy d x y=>o.dst == d && match o.op with
    | .call ⟨.builtin .copy,args,ats⟩=>(match args.toList,ats.toList with
      | [x',y'],[t,_]=>mX φ x x' && mX φ y y' && (match slcT tb t with
        | some e=>sz' tb e == some 1
        | none=>false)
      | _,_=>false)
    | _=>false
  | .mkm d=>o.dst == some d && match o.op with | .makeMap _ none=>true | _=>false
  | .mup str m k v=>o.dst == none && match o.op with
    | .mapUpdate t m' k' v'=>mX φ m m' && mX φ k k' && mX φ v v' && (match mpT tb t with | some (kt,_)=>keyT tb str kt | none=>false)
    | _=>false
  | .mlk d str zv m k ok=>o.dst == some d && match o.op with
    | .lookup t m' k' ok'=>mX φ m m' && mX φ k k' && ok == ok' && (match mpT tb t with | some (kt,et)=>keyT tb str kt && (match (tb et).bind (·.zero) with | some z=>mV zv z | none=>false) | none=>false)
    | _=>false
  | .call d f as=>o.dst == d && match o.op with | .call ⟨.value (.func g),args,_⟩=>φ f == g && mAs φ as args.toList | _=>false
  | .callv d x as=>o.dst == d && match o.op with | .call ⟨.value x',args,_⟩=>mX φ x x' && mAs φ as args.toList | _=>false
  | .callg d f as=>o.dst == d && match o.op with | .call ⟨.value (.func g),args,_⟩=>φ f == g && mXs φ as args.toList | _=>false
  | .callr d f as=>o.dst == d && match o.op with | .call ⟨.value (.func g),args,_⟩=>φ f == g && decide (f<5000) && mXs φ (as.map (·.1)) args.toList | _=>false
  | .eqs _ _ _ _=>false
  | .g _ _ _ _=>false
  | .ck _ _=>false
def isCall:I→Bool
  | .call _ _ _=>true
  | .callv _ _ _=>true
  | .callg _ _ _=>true
  | .callr _ _ _=>true
  | .g _ _ _ _=>true
  | .ck _ _=>true
  | _=>false
section
variable {P:Program} {tb:TI} {φ:Nat→FuncId}
theorem mXs_ok:∀ {xs:List X} {ys:List Operand},mXs φ xs ys=true→xs.length=ys.length∧∀ (j:Nat) (x:X) (y:Operand),xs[j]?=some x→ys[j]?=some y→mX φ x y=true
  | [],[],_=>⟨rfl,fun j x y hj=>by simp at hj⟩
  | x :: xs,y :: ys,hm=>by
    simp only [mXs,Bool.and_eq_true] at hm
    obtain ⟨l,p⟩:=mXs_ok hm.2
    refine ⟨by simp [l],fun j u v h1 h2=>?_⟩
    cases j with
    | zero=>cases h1;cases h2;exact hm.1
    | succ j=>exact p j u v (by simpa using h1) (by simpa using h2)
  | [],_ :: _,hm=>by simp [mXs] at hm
  | _ :: _,[],hm=>by simp [mXs] at hm
theorem afv {α:Type} {a:Array α} {x:α} (h:a.toList=[x]):a=#[x]:=by
  apply Array.ext';simpa using h
theorem acg {α:Type} {a:Array α} {x y:α} (h:a.toList=[x,y]):a=#[x,y]:=by
  apply Array.ext';simpa using h
theorem mI_ok (T:TIok P tb) {i:I} {o:Oper} (hm:mI tb φ i o=true) (hc:isCall i=false):OpOk P φ o i:=by
  have dst:∀ {d:Nat},(o.dst == some d)=true→o.dst=some d:=fun h=>by simpa using h
  cases i <;> simp only [mI,Bool.and_eq_true] at hm <;> (try (simp [isCall] at hc;done)) <;> (try (cases hm;done))
  case mv d x=>
    obtain ⟨hd,hm⟩:=hm
    split at hm <;> rename_i ho <;> first | exact ok_mv (dst hd) hm (.inl ho) | exact ok_mv (dst hd) hm (.inr ho) | cases hm
  case frz d x=>
    obtain ⟨hd,hm⟩:=hm
    split at hm <;> rename_i ho <;> first | exact ok_frz (dst hd) hm (.inl ho) | exact ok_frz (dst hd) hm (.inr ho) | cases hm
  case bin d op x y=>
    obtain ⟨hd,hm⟩:=hm
    split at hm
    · rename_i ho
      simp only [Bool.and_eq_true,beq_iff_eq] at hm
      obtain ⟨⟨rfl,h1⟩,h2⟩:=hm
      exact ok_bin (dst hd) h1 h2 ho
    · cases hm
  case un d op x=>
    obtain ⟨hd,hm⟩:=hm
    split at hm
    · rename_i ho
      simp only [Bool.and_eq_true,beq_iff_eq] at hm
      obtain ⟨rfl,h1⟩:=hm
      exact ok_un (dst hd) h1 ho
    · cases hm
  case pick d x y z=>
    obtain ⟨hd,hm⟩:=hm
    split at hm
    · rename_i ho
      simp only [Bool.and_eq_true] at hm
      exact avo (dst hd) hm.1.1 hm.1.2 hm.2 ho
    · cases hm
  case cvi d k x=>
    obtain ⟨hd,hm⟩:=hm
    split at hm
    · rename_i t u x' ho
      simp only [Bool.and_eq_true,beq_iff_eq] at hm
      obtain ⟨dd,hdd⟩:=Option.isSome_iff_exists.1 hm.1.2
      exact ok_cvi (dst hd) hm.1.1 ho (by rw [unT_ok T hdd];rfl) (aok T hm.2)
    · cases hm
  case cvn d x=>
    obtain ⟨hd,hm⟩:=hm
    split at hm
    · rename_i ho
      simp only [Bool.and_eq_true] at hm
      exact ok_cvn (dst hd) hm.1.1 ho (ael T hm.1.2) (ael T hm.2)
    · cases hm
  case cvb d x=>
    obtain ⟨hd,hm⟩:=hm
    split at hm
    · rename_i ho
      simp only [Bool.and_eq_true] at hm
      obtain ⟨⟨h1,h2⟩,h3⟩:=hm
      split at h3
      · rename_i he
        exact ok_cvb (dst hd) h1 ho (ael T h2) (adm T he) (aok T (by simpa using h3))
      · cases h3
    · cases hm
  case cvs d x=>
    obtain ⟨hd,hm⟩:=hm
    split at hm
    · rename_i ho
      simp only [Bool.and_eq_true] at hm
      obtain ⟨⟨h1,h2⟩,h3⟩:=hm
      split at h3
      · rename_i he
        exact ok_cvs (dst hd) h1 ho (adm T he) (aok T (by simpa using h3)) (ael T h2)
      · cases h3
    · cases hm
  case ext d x j=>
    obtain ⟨hd,hm⟩:=hm
    split at hm
    · rename_i ho
      simp only [Bool.and_eq_true,beq_iff_eq] at hm
      obtain ⟨h1,rfl⟩:=hm
      exact ok_ext (dst hd) h1 ho
    · cases hm
  case fld d x off z ag=>
    obtain ⟨hd,hm⟩:=hm
    split at hm
    · rename_i ho
      simp only [Bool.and_eq_true] at hm
      obtain ⟨h1,h2⟩:=hm
      split at h2
      · rename_i f hf
        simp only [Bool.and_eq_true,beq_iff_eq] at h2
        obtain ⟨fs,k1,k2⟩:=arf T hf
        exact ok_fld (dst hd) h1 ho k1 k2 h2.1.1 (sz_ok T h2.1.2) (ag_ok T h2.2)
      · cases h2
    · cases hm
  case bld d zs ps=>
    obtain ⟨hd,hm⟩:=hm
    split at hm
    · rename_i ho
      simp only [Bool.and_eq_true] at hm
      obtain ⟨h1,h2⟩:=hm
      split at h1
      · rename_i zv hz
        obtain ⟨i,hi,hiz⟩:=Option.bind_eq_some_iff.1 hz
        split at h2
        · rename_i p hp
          exact ok_bld (dst hd) ho (by rw [T _ i hi];exact hiz) h1 (ase T hp) h2
        · cases h2
      · cases h1
    · cases hm
  case bsl d z ps=>
    obtain ⟨hd,hm⟩:=hm
    split at hm
    · rename_i ho
      simp only [Bool.and_eq_true,beq_iff_eq,decide_eq_true_eq] at hm
      obtain ⟨⟨⟨⟨h1,h2⟩,h3⟩,h4⟩,h5⟩:=hm
      split at h1
      · rename_i e he
        split at h1
        · rename_i i hi
          simp only [Bool.and_eq_true,beq_iff_eq] at h1
          obtain ⟨zv,hzv⟩:=Option.isSome_iff_exists.1 h1.1
          exact ok_bsl (dst hd) ho (adm T he) (T _ i hi) hzv h1.2 h2 h3 h4 h5
        · cases h1
      · cases h1
    · cases hm
  case mks d z el len cap=>
    obtain ⟨hd,hm⟩:=hm
    split at hm
    · rename_i ho
      simp only [Bool.and_eq_true] at hm
      obtain ⟨⟨h1,h2⟩,h3⟩:=hm
      split at h3
      · rename_i e he
        split at h3
        · rename_i i hi
          simp only [Bool.and_eq_true,beq_iff_eq,decide_eq_true_eq] at h3
          obtain ⟨⟨h3,h4⟩,h5⟩:=h3
          split at h3
          · rename_i zv hzv
            simp only [Bool.and_eq_true,beq_iff_eq] at h3
            exact ok_mks (dst hd) h1 h2 ho (adm T he) (T _ i hi) hzv h4 h3.1 h3.2 h5
          · cases h3
        · cases h3
      · cases h3
    · cases hm
  case alc d zs=>
    obtain ⟨hd,hm⟩:=hm
    split at hm
    · rename_i ho
      unfold mAlc at hm
      split at hm
      · split at hm
        · rename_i i hi
          simp only [Bool.and_eq_true] at hm
          obtain ⟨h1,h2⟩:=hm
          split at h2
          · rename_i zv hzv
            split at h2
            · rename_i hl
              exact avn (dst hd) ho (T _ i hi) (T.ty _ i hi) hzv h1 (by apply Array.ext';simpa using hl)
            · cases h2
          · cases h2
        · cases hm
      · split at hm
        · rename_i zv hz
          obtain ⟨i,hi,hiz⟩:=Option.bind_eq_some_iff.1 hz
          exact ok_alc (dst hd) ho (by rw [T _ i hi];exact hiz) hm
        · cases hm
    · cases hm
  case box d x=>
    obtain ⟨hd,hm⟩:=hm
    split at hm
    · rename_i ho;exact ok_box (dst hd) hm ho
    · cases hm
  case ld d x z ag=>
    obtain ⟨hd,hm⟩:=hm
    split at hm
    · rename_i ho
      simp only [Bool.and_eq_true,beq_iff_eq] at hm
      exact ok_ld (dst hd) hm.1.1 ho (sz_ok T hm.1.2) (ag_ok T hm.2)
    · cases hm
  case st x v z=>
    obtain ⟨hd,hm⟩:=hm
    split at hm
    · rename_i ho
      simp only [Bool.and_eq_true,beq_iff_eq] at hm
      exact ok_st (by simpa using hd) hm.1.1 hm.1.2 ho (sz_ok T hm.2)
    · cases hm
  case nck d x=>
    obtain ⟨hd,hm⟩:=hm
    split at hm
    · rename_i ho;exact ok_nck (dst hd) hm ho
    · cases hm
  case fad d x off=>
    obtain ⟨hd,hm⟩:=hm
    split at hm
    · rename_i ho
      simp only [Bool.and_eq_true] at hm
      obtain ⟨h1,h2⟩:=hm
      split at h2
      · rename_i f hf
        simp only [Bool.and_eq_true,beq_iff_eq] at h2
        obtain ⟨h2,h3⟩:=h2
        split at h3
        · rename_i z hz
          obtain ⟨fs,k1,k2⟩:=arf T hf
          exact ok_fad (dst hd) h1 ho k1 k2 h2 (sz_ok T hz) (by simpa using h3)
        · cases h3
      · cases h2
    · cases hm
  case ixa d x i z=>
    obtain ⟨hd,hm⟩:=hm
    split at hm
    · rename_i ho
      simp only [Bool.and_eq_true] at hm
      obtain ⟨⟨⟨h1,h2⟩,h3⟩,h4⟩:=hm
      split at h3
      · rename_i e he
        exact ok_ixa (dst hd) h1 h2 ho (adm T he) (sz_ok T (by simpa using h3)) (Nat.pos_of_ne_zero (by simpa using h4))
      · cases h3
    · cases hm
  case ixs d x i=>
    obtain ⟨hd,hm⟩:=hm
    split at hm
    · rename_i ho
      simp only [Bool.and_eq_true] at hm
      exact ok_ixs (dst hd) hm.1.1 hm.1.2 ho (ael T hm.2)
    · cases hm
  case slc d x lo hi z=>
    obtain ⟨hd,hm⟩:=hm
    split at hm
    · rename_i ho
      simp only [Bool.and_eq_true] at hm
      obtain ⟨⟨⟨h1,h2⟩,h3⟩,h4⟩:=hm
      refine ok_slc (dst hd) h1 h2 h3 ho ?_
      split at h4
      · rename_i hz
        exact .inl ⟨by simpa using hz,ael T h4⟩
      · rename_i hz
        split at h4
        · rename_i e he
          exact .inr ⟨e,adm T he,sz_ok T (by simpa using h4),Nat.pos_of_ne_zero (by simpa using hz)⟩
        · cases h4
    · cases hm
  case len d str x=>
    obtain ⟨hd,hm⟩:=hm
    split at hm
    · rename_i args ats ho
      split at hm
      · rename_i x' t h1 h2
        simp only [Bool.and_eq_true] at hm
        rw [afv h1,afv h2] at ho
        refine ok_len (dst hd) hm.1 ho ?_
        cases str with
        | true=>simpa using ael T hm.2
        | false=>
          obtain ⟨e,he⟩:=Option.isSome_iff_exists.1 hm.2
          exact ⟨e,adm T he⟩
      · cases hm
    · cases hm
  case app d x y z=>
    obtain ⟨hd,hm⟩:=hm
    split at hm
    · rename_i args ats ho
      split at hm
      · rename_i x' y' t u h1 h2
        simp only [Bool.and_eq_true] at hm
        rw [acg h1,acg h2] at ho
        obtain ⟨⟨⟨k1,k2⟩,k3⟩,k4⟩:=hm
        split at k4
        · rename_i e he
          split at k4
          · rename_i i hi
            simp only [Bool.and_eq_true,beq_iff_eq,decide_eq_true_eq] at k4
            obtain ⟨⟨k4,k5⟩,k6⟩:=k4
            split at k4
            · rename_i zv hzv
              exact ok_app (dst hd) k1 k2 ho (adm T he) (T _ i hi) hzv k5 (by simpa using k4) (app_ok T k3) k6
            · cases k4
          · cases k4
        · cases k4
      · cases hm
    · cases hm
  case apb d x y=>
    obtain ⟨hd,hm⟩:=hm
    split at hm
    · rename_i args ats ho
      split at hm
      · rename_i x' y' t u h1 h2
        simp only [Bool.and_eq_true] at hm
        rw [acg h1,acg h2] at ho
        obtain ⟨⟨⟨k1,k2⟩,k3⟩,k4⟩:=hm
        split at k4
        · rename_i e he
          split at k4
          · rename_i i hi
            simp only [Bool.and_eq_true,beq_iff_eq,decide_eq_true_eq] at k4
            obtain ⟨⟨⟨k4,k5⟩,k6⟩,k7⟩:=k4
            split at k4
            · rename_i zv hzv
              exact ok_apb (dst hd) k1 k2 ho (adm T he) (T _ i hi) (T.ty _ i hi) hzv k5 (by simpa using k4) (app_ok T k3) k6 k7
            · cases k4
          · cases k4
        · cases k4
      · cases hm
    · cases hm
  case mm d mx x y=>
    obtain ⟨hd,hm⟩:=hm
    split at hm
    · rename_i b args ats ho
      simp only [Bool.and_eq_true] at hm
      obtain ⟨h1,h2⟩:=hm
      split at h2
      · rename_i x' y' h3
        simp only [Bool.and_eq_true] at h2
        rw [acg h3] at ho
        split at h1
        · subst h1;exact ok_mm (ts:=ats) (dst hd) h2.1 h2.2 (by rw [if_pos rfl];exact ho)
        · cases mx
          · exact ok_mm (ts:=ats) (dst hd) h2.1 h2.2 (by simpa using ho)
          · cases h1
        · cases h1
      · cases h2
    · cases hm
  case mkf d f caps=>
    obtain ⟨hd,hm⟩:=hm
    split at hm
    · rename_i g first caps' ho
      simp only [Bool.and_eq_true,beq_iff_eq] at hm
      obtain ⟨⟨h1,h2⟩,h3⟩:=hm
      obtain ⟨l,p⟩:=mXs_ok h3
      have hf:first=#[]:=by
        apply Array.ext'
        simpa using h2
      subst hf
      exact ok_mkf (dst hd) (by simpa using l) (fun j x y h4 h5=>p j x y h4 (by simpa using h5)) h1 ho
    · cases hm
  case eqb d neq x y=>
    obtain ⟨hd,hm⟩:=hm
    split at hm
    · rename_i ho
      simp only [Bool.and_eq_true,beq_iff_eq] at hm
      obtain ⟨⟨⟨rfl,h1⟩,h2⟩,h3⟩:=hm
      exact ok_eqb (dst hd) h1 h2 ho (aro T h3)
    · cases hm
  case eqn d k neq x y=>
    obtain ⟨hd,hm⟩:=hm
    split at hm
    · rename_i ho
      simp only [Bool.and_eq_true,beq_iff_eq] at hm
      obtain ⟨⟨⟨rfl,h1⟩,h2⟩,h3⟩:=hm
      exact ok_eqn (dst hd) h1 h2 ho (avl T h3)
    · cases hm
  case clr d x z el=>
    obtain ⟨hd,hm⟩:=hm
    split at hm
    · rename_i args ats ho
      split at hm
      · rename_i x' t h1 h2
        simp only [Bool.and_eq_true] at hm
        rw [afv h1,afv h2] at ho
        obtain ⟨k1,k4⟩:=hm
        split at k4
        · rename_i e he
          split at k4
          · rename_i i hi
            split at k4
            · rename_i zv hzv
              simp only [Bool.and_eq_true,beq_iff_eq] at k4
              exact ok_clr (by simpa using hd) k1 ho (adm T he) (T _ i hi) hzv k4.1 k4.2
            · cases k4
          · cases k4
        · cases k4
      · cases hm
    · cases hm
  case cpy d x y=>
    obtain ⟨hd,hm⟩:=hm
    split at hm
    · rename_i args ats ho
      split at hm
      · rename_i x' y' t u h1 h2
        simp only [Bool.and_eq_true] at hm
        rw [acg h1,acg h2] at ho
        obtain ⟨⟨k1,k2⟩,k4⟩:=hm
        split at k4
        · rename_i e he
          exact ok_cpy (by simpa using hd) k1 k2 ho (adm T he) (sz_ok T (by simpa using k4))
        · cases k4
      · cases hm
    · cases hm
  case mkm d=>
    obtain ⟨hd,hm⟩:=hm
    split at hm
    · rename_i ho;exact ok_mkm (dst hd) ho
    · cases hm
  case mup str m k v=>
    obtain ⟨hd,hm⟩:=hm
    split at hm
    · rename_i ho
      simp only [Bool.and_eq_true] at hm
      obtain ⟨⟨⟨h1,h2⟩,h3⟩,h4⟩:=hm
      split at h4
      · rename_i kt et ht
        obtain ⟨dd,g1,g2⟩:=arq T h4
        exact ok_mup (by simpa using hd) h1 h2 h3 ho (mpT_ok T ht) g1 g2
      · cases h4
    · cases hm
  case mlk d str zv m k ok=>
    obtain ⟨hd,hm⟩:=hm
    split at hm
    · rename_i ho
      simp only [Bool.and_eq_true,beq_iff_eq] at hm
      obtain ⟨⟨⟨h1,h2⟩,rfl⟩,h4⟩:=hm
      split at h4
      · rename_i kt et ht
        simp only [Bool.and_eq_true] at h4
        obtain ⟨h4,h5⟩:=h4
        obtain ⟨dd,g1,g2⟩:=arq T h4
        split at h5
        · rename_i z hz
          obtain ⟨i,hi,hiz⟩:=Option.bind_eq_some_iff.1 hz
          exact ok_mlk (dst hd) h1 h2 ho (mpT_ok T ht) g1 g2 (T _ i hi) hiz h5
        · cases h5
      · cases h4
    · cases hm
end
end Go.VS
end
section
namespace Go.VS
open Go
def Enters (P:Program) (f:FuncId) (args:Array Value) (w:World) (R:Value→World→Prop):Prop:=
  ((callFunc f args).run P w=.ok (.enter f args) w∧Calls P f args w fun e w'=>∃ v,e=.returned v∧R v w') ∨
  (∃ v w',(callFunc f args).run P w=.ok (.value v) w'∧R v w') ∨
  ∃ row as,(callFunc f args).run P w=.ok (.row row as) w∧Rows P row as w R
theorem Enters.mono {P:Program} {f:FuncId} {args:Array Value} {w:World} {R R':Value→World→Prop} (h:Enters P f args w R) (hr:∀ v w',R v w'→R' v w'):Enters P f args w R':=by
  rcases h with ⟨h1,h2⟩ | ⟨v,w',h1,h2⟩ | ⟨row,as,h1,h2⟩
  · exact .inl ⟨h1,h2.mono fun e w' ⟨v,e1,e2⟩=>⟨v,e1,hr v w' e2⟩⟩
  · exact .inr (.inl ⟨v,w',h1,hr v w' h2⟩)
  · exact .inr (.inr ⟨row,as,h1,h2.mono hr⟩)
structure Keep (P:Program) (N:Env) (J:World→Prop):Prop where
  p:N.P=P
  k:∀ w w',J w→w'.os=w.os→w'.tape=w.tape→(∀ b:Nat,b<N.n→w'.heap[b]?=w.heap[b]?)→w.heap.size≤w'.heap.size→J w'
def Good (P:Program) (φ:Nat→FuncId) (N:Env) (J:World→Prop) (pn:Bool) (f:FuncId) (s:St) (o:Out):Prop:=
  o.2.1.length≤s.m.length∧o.1.leaves.all (okRet s.m.length)=true∧o.2.1.all (·.all (okRet s.m.length))=true ∧
  ∀ (c:Cx) (a:Act) (w:World) (h:Gh),J c.w0→(∀ id x,c.G0 id=some x→pn=true∧id<s.r.length)→Sim φ N c s a w h→Enters P f a.tmps w fun y w'=>∃ h',Sim φ N c ⟨[o.1],o.2.1,o.2.2⟩ ⟨#[y],[]⟩ w' h'
def GoodG (P:Program) (φ:Nat→FuncId) (N:Env) (J:World→Prop) (f:FuncId) (s:St) (o:Out):Prop:=
  ∀ (c:Cx) (a:Act) (w:World) (h:Gh),J c.w0→Sim φ N c s a w h→Enters P f a.tmps w fun y w'=>∃ h',Sim φ N c ⟨[o.1],o.2.1,o.2.2⟩ ⟨#[y],[]⟩ w' h'
def Sound (P:Program) (φ:Nat→FuncId) (N:Env) (J:World→Prop) (call:Nat→St→Option Out):Prop:=
  ∀ f s o,call f s=some o→if 5000≤f then ∃ ts,s.t=gmk :: ts∧GoodG P φ N J (φ f) ⟨ts,s.m,s.r⟩ o else Good P φ N J (decide (1000≤f)) (φ f) s o
theorem apv (s:St) (xp:Xp) (n:Nat) (v:V) (l:List V):lend s xp n v≠.tup l:=by
  intro e
  cases n with
  | zero=>cases e
  | succ n=>
    cases v <;> simp only [lend] at e <;> (try (cases e;done))
    · split at e
      · cases e
      · split at e <;> cases e
      · cases e
    · split at e <;> cases e
    · split at e
      · split at e <;> cases e
      · cases e
theorem arw (s:St) (xp:Xp) (k:Nat) (v:V) (l:List V):lendA s xp k v≠.tup l:=by
  intro e
  unfold lendA at e
  split at e
  · split at e <;> cases e
  · split at e
    · exact apv _ _ _ _ _ e
    · split at e <;> cases e
  · split at e
    · split at e <;> cases e
    · exact apv _ _ _ _ _ e
theorem ape {s:St} {k:Nat} {v:V} {xp xp':Xp} {l:List V} (h:expL s k v xp=some (.tup l,xp')):False:=by
  cases v <;> simp only [expL] at h <;> (repeat' split at h) <;> simp at h
theorem atn {s:St} {k:Nat} {v:V} {xp xp':Xp} {l:List V} (h:expV s k v xp=some (.tup l,xp')):False:=by
  unfold expV at h
  split at h
  · split at h <;> cases h
  · split at h <;> cases h
  · exact ape h
theorem are {s:St} {as:List (X × Md)} {caps:List V} {s0:St} {xp:Xp} (h:expo s as caps=some (s0,xp)) {ts:List V} (e:s0.t=gmk :: ts):False:=by
  unfold expo at h
  split at h
  · cases h
  rename_i vs xp1 h1
  split at h
  · cases h
  rename_i cs xp2 h2
  split at h
  · cases h
  cases h
  simp only [gmk] at e
  cases as with
  | nil=>
    cases h1
    simp only [lends,List.nil_append] at e
    subst e
    cases caps with
    | nil=>cases h2
    | cons u us=>
      simp only [expLs] at h2
      split at h2
      · rename_i v' xp' e1
        split at h2
        · cases h2;exact ape e1
        · cases h2
      · cases h2
  | cons a as=>
    obtain ⟨x,m⟩:=a
    cases m with
    | b k=>
      simp only [expAs] at h1
      split at h1
      · cases h1
        simp only [lends,List.cons_append,List.cons.injEq] at e
        exact arw _ _ _ _ _ e.1
      · cases h1
    | m k=>
      simp only [expAs] at h1
      split at h1
      · rename_i v' xp' e1
        split at h1
        · cases h1
          simp only [lends,List.cons_append,List.cons.injEq] at e
          obtain ⟨rfl,_⟩:=e
          exact atn e1
        · cases h1
      · cases h1
theorem Sound.good {P:Program} {φ:Nat→FuncId} {N:Env} {J:World→Prop} {call:Nat→St→Option Out} (hc:Sound P φ N J call) {s:St} {as:List (X × Md)} {caps:List V} {s0:St} {xp:Xp} (h:expo s as caps=some (s0,xp)) {f:Nat} {o:Out} (e:call f s0=some o):Good P φ N J (decide (1000≤f)) (φ f) s0 o:=by
  have:=hc f s0 o e
  split at this
  · obtain ⟨ts,h1,_⟩:=this
    exact (are h h1).elim
  · exact this
def Stq (P:Program) (φ:Nat→FuncId) (N:Env) (c:Cx) (o:Oper) (s':St) (a:Act) (w:World):Prop:=
  ∀ (K:Act→World→Prop) (Q:Exit→Act→World→Prop),(∀ a' w' h',Sim φ N c s' a' w' h'→K a' w')→o.wp P a w K Q
section
variable {P:Program} {φ:Nat→FuncId} {N:Env} {J:World→Prop} {c:Cx} {s s':St} {a:Act} {w:World} {h:Gh} {tb:TI} {o:Oper} {call:Nat→St→Option Out}
theorem Stp.stq (hs:Stp P φ N c o s' a w):Stq P φ N c o s' a w:=fun K Q hK=>by
  obtain ⟨a',w',h',h1,h2⟩:=hs
  exact h1 K Q (hK a' w' h' h2)
theorem Sim.kept (S:Sim φ N c s a w h) (hJ:Keep P N J) (h0:J c.w0):J w:=
  hJ.k _ _ h0 S.fr.os S.fr.tape (fun b hb=>((S.fr.obj b (Nat.lt_of_lt_of_le hb S.lN)).mono (fun o ho=>absurd (S.oN b o ho) (by omega))).none) S.fr.size
theorem mAs_ok (S:Sim φ N c s a w h):∀ {as:List (X × Md)} {ys:List Operand},mAs φ as ys=true→ys.length=as.length∧∀ j x m,as[j]?=some (x,m)→VOk φ w h (s.ev x) ((ys.map a.eval).getD j undef)
  | [],[],_=>⟨rfl,fun j x m hj=>by simp at hj⟩
  | (x,m) :: as,y :: ys,hm=>by
    simp only [mAs,Bool.and_eq_true] at hm
    obtain ⟨l,p⟩:=mAs_ok S hm.2
    refine ⟨by simp [l],fun j u v hj=>?_⟩
    cases j with
    | zero=>cases hj;exact mX_ok S hm.1
    | succ j=>exact p j u v (by simpa using hj)
  | [],_ :: _,hm=>by simp [mAs] at hm
  | _ :: _,[],hm=>by simp [mAs] at hm
theorem putO_r (s:St) (d:Option Nat) (v:V):(s.putO d v).r=s.r:=by cases d <;> rfl
theorem ao4 {h2:Gh} {a2:Act} {w2:World} (base:Nat):∀ (ids:List Nat) (k:Nat) {s2:St},Sim φ N c s2 a2 w2 h2→(∀ j id,ids[j]?=some id→id<base∧base+(k+j)<s2.r.length∧h2.G (base+(k+j))=h2.G id) →
    Sim φ N c { s2 with r:=backs base k ids s2.r } a2 w2 h2
  | [],k,s2,S,_=>S
  | id :: ids,k,s2,S,hh=>by
    obtain ⟨h1,h2,h3⟩:=hh 0 id rfl
    have S1:=S.back (i:=id) (j:=base+k) (by omega) (by simp at h2;omega) (by simpa using h2) (by simpa using h3)
    refine ao4 base ids (k+1) S1 fun j id' hj=>?_
    obtain ⟨g1,g2,g3⟩:=hh (j+1) id' (by simpa using hj)
    refine ⟨g1,?_,?_⟩
    · simp only [List.length_set];rw [show k+1+j=k+(j+1) by omega];exact g2
    · rw [show k+1+j=k+(j+1) by omega];exact g3
theorem atb {h':Gh} {w':World} {xp:Xp} (S:Sim φ N c s a w h) (X:XpOk s xp) {v:V} {y:Value} {m':List (List V)} {r':List Rw} {d:Option Nat} {a2:Act} (S':Sim φ N (enterCx true h s xp w) ⟨[v],m',r'⟩ ⟨#[y],[]⟩ w' h')
    (S2:Sim φ N c (impo s xp d v m' r') a2 w' (leaveGh h h' s.r.length)):Sim φ N c { impo s xp d v m' r' with r:=backs s.r.length 0 xp.rw (impo s xp d v m' r').r } a2 w' (leaveGh h h' s.r.length):=by
  refine ao4 _ _ _ S2 fun j id hj=>?_
  obtain ⟨z,fz,xs,hx⟩:=X.rw id (List.mem_of_getElem? hj)
  obtain ⟨g,hg,_⟩:=S.r id z fz xs hx
  have hid:id<s.r.length:=(List.getElem?_eq_some_iff.1 hx).1
  have h1:(enterCx true h s xp w).G0 j=some g:=by simp [enterCx,Hx,hj,hg]
  have h2:=S'.g0 j g h1
  have hjl:j<r'.length:=Nat.lt_of_not_le fun hge=>by
    have:=S'.gN j hge
    rw [h2] at this;cases this
  refine ⟨hid,?_,?_⟩
  · have:(impo s xp d v m' r').r=gones xp.rw s.r++r':=by unfold impo;rw [putO_r]
    rw [this,List.length_append,aap];omega
  · simp only [leaveGh,Nat.zero_add]
    rw [if_neg (by omega),if_pos hid,hg,show s.r.length+j - s.r.length=j by omega]
    exact h2
theorem aq5 (hJ:Keep P N J) (h0:J c.w0) (hc:Sound P φ N J call) (S:Sim φ N c s a w h) {d:Option Nat} {f:Nat} {as:List (X × Md)} {args:Array Operand} {caps:List V} {cc:Array Value} (he:doCall call s d f as caps=some s') (hd:o.dst=d) (ha:mAs φ as args.toList=true)
    (hcs:cc.size=caps.length) (hcv:∀ j v,caps[j]?=some v→KOk φ w h v (cc.getD j undef)) (hr:(execOp a.eval o).run P w=(callFunc (φ f) (args.map a.eval++cc)).run P w):Stq P φ N c o s' a w:=by
  intro K Q hK
  unfold doCall at he
  split at he
  · cases he
  rename_i s0 xp e1
  split at he
  · cases he
  rename_i v m r e2
  cases he
  obtain ⟨l,p⟩:=mAs_ok S ha
  obtain ⟨X1,l1,S0⟩:=entry (decide (1000≤f)) S e1 (ys:=args.map a.eval) (cc:=cc) (by simpa using l) (fun j x m hj=>by
    have:=p j x m hj
    rw [aaa,← Array.getElem?_toList,Array.toList_map,← List.getD_eq_getElem?_getD]
    exact this) hcs hcv
  obtain ⟨g1,g2,g3,g4⟩:=hc.good e1 e2
  rw [l1] at g1 g2 g3
  have fin:∀ y w',(∃ h',Sim φ N (enterCx (decide (1000≤f)) h s xp w) ⟨[v],m,r⟩ ⟨#[y],[]⟩ w' h')→K (a.put o.dst y) w':=by
    rintro y w' ⟨h',S'⟩
    have hm:m.length=xp.bl.length:=by
      refine Nat.le_antisymm g1 (Nat.le_of_not_lt fun hlt=>?_)
      obtain ⟨⟨id,off,k⟩,hx⟩:∃ x,xp.bl[m.length]?=some x:=⟨_,List.getElem?_eq_getElem hlt⟩
      obtain ⟨cs,hc,hl⟩:=X1.mlen hx
      obtain ⟨b0,base0,hB0,_⟩:=S.m id cs hc
      have h1:(enterCx (decide (1000≤f)) h s xp w).B0 m.length=some (b0,base0+off,k):=by simp [enterCx,Hx,hx,hB0]
      have h2:=S'.b0 _ _ h1
      rw [S'.bN m.length (Nat.le_refl _)] at h2
      cases h2
    have S2:=leave S X1 S' hm g2 g3 d
    rw [hd]
    unfold impoF at hK
    split at hK
    · rename_i hf
      exact hK _ _ _ (atb S X1 (by rw [decide_eq_true hf] at S';exact S') S2)
    · exact hK _ _ _ S2
  have hJw:J w:=S.kept hJ h0
  unfold Oper.wp
  rw [hr]
  have hG:∀ id x,(enterCx (decide (1000≤f)) h s xp w).G0 id=some x→decide (1000≤f)=true∧id<s0.r.length:=by
    intro id x hx
    simp only [enterCx] at hx
    split at hx
    · rename_i hf
      refine ⟨hf,Nat.lt_of_not_le fun hge=>?_⟩
      have h1:=S0.gN id hge
      have h2:(enterGh h s xp).G id=(Hx h xp).G id:=rfl
      rw [h2,hx] at h1
      cases h1
    · cases hx
  rcases g4 _ _ w _ hJw hG S0 with ⟨h1,h2⟩ | ⟨y,w',h1,h2⟩ | ⟨row,as',h1,h2⟩
  · rw [h1]
    exact h2.mono fun e w' ⟨y,e1,e2⟩=>by subst e1;exact fin y w' e2
  · rw [h1]
    exact fin y w' h2
  · rw [h1]
    exact h2.mono fun y w' e2=>fin y w' e2
def gcx (h:Gh) (s:St) (w:World):Cx:=⟨w,Owned h s,h.Rp,h.Rl,h.B,h.G⟩
theorem enterG (S:Sim φ N c s a w h) {ts:List V} {ys:Array Value} (hs:ys.size=ts.length) (ht:∀ j v,ts[j]?=some v→VOk φ w h v (ys.getD j undef)):
    Sim φ N (gcx h s w) ⟨ts,s.m,s.r⟩ ⟨ys,[]⟩ w h:=
  { S with
    nt:=hs
    df:=rfl
    t:=ht
    fr:=.refl _ _
    ow:=fun _ _ x=>.inl x
    p0:=fun _ _ x=>x
    l0:=fun _ _ x=>x
    p1:=fun _ _ x=>.inl x
    l1:=fun _ _ x=>.inl x
    lN:=Nat.le_trans S.lN S.fr.size
    oN:=fun _ _ x=>S.lo _ _ x
    c0:=fun b o x=>⟨S.sR b o x,S.rb b o x⟩
    b0:=fun _ _ x=>x
    g0:=fun _ _ x=>x }
theorem leaveG (S:Sim φ N c s a w h) {v:V} {m:List (List V)} {r:List Rw} {y:Value} {w':World} {h':Gh} (S':Sim φ N (gcx h s w) ⟨[v],m,r⟩ ⟨#[y],[]⟩ w' h') (d:Option Nat):
    Sim φ N c ((St.mk s.t m r).putO d v) (a.put d y) w' h':=by
  have own:∀ b o,(gcx h s w).O b o→c.O b o∨c.w0.heap.size≤b:=fun b o x=>S.ow b o x
  have hle:h.Le h' w w':=⟨S'.p0,S'.l0,fun b o x=>S'.fr.cell (S.rb b o (S.pl b o x)) (S.sR b o (S.pl b o x)),fun b o x=>S'.fr.cell (S.rb b o x) (S.sR b o x),S'.b0,S'.g0⟩
  have S2:Sim φ N c ⟨s.t,m,r⟩ a w' h':=
    { S' with
      nt:=S.nt
      df:=S.df
      t:=fun j u hj=>(S.t j u hj).mono hle
      fr:=S.fr.trans S'.fr fun x o hx e=>by
        rcases own x o e with h1 | h1
        · exact h1
        · omega
      ow:=fun b o x=>by
        rcases S'.ow b o x with h1 | h1
        · exact own b o h1
        · exact .inr (Nat.le_trans S.fr.size h1)
      p0:=fun b o x=>S'.p0 b o (S.p0 b o x)
      l0:=fun b o x=>S'.l0 b o (S.l0 b o x)
      p1:=fun b o x=>by
        rcases S'.p1 b o x with h1 | h1 | h1
        · exact S.p1 b o h1
        · exact .inr (own b o h1)
        · exact .inr (.inr (Nat.le_trans S.fr.size h1))
      l1:=fun b o x=>by
        rcases S'.l1 b o x with h1 | h1
        · rcases S.l1 b o h1 with h2 | h2
          · exact .inl h2
          · exact .inr (S'.p0 b o h2)
        · exact .inr h1
      lN:=S.lN
      oN:=S.oN
      c0:=S.c0
      b0:=fun id x hx=>S'.b0 id x (S.b0 id x hx)
      g0:=fun id x hx=>S'.g0 id x (S.g0 id x hx) }
  have hv:VOk φ w' h' v y:=S'.t 0 v rfl
  cases d with
  | none=>exact S2
  | some d=>exact S2.put hv
theorem apx (S:Sim φ N c s a w h) {as:List X} {args:Array Operand} (ha:mXs φ as args.toList=true):(args.map a.eval).size=as.length∧∀ j x,as[j]?=some x→VOk φ w h (s.ev x) ((args.map a.eval).getD j undef):=by
  obtain ⟨l,p⟩:=mXs_ok ha
  have l':args.size=as.length:=by rw [l];simp
  refine ⟨by simpa using l',fun j x hj=>?_⟩
  have hlt:=(List.getElem?_eq_some_iff.1 hj).1
  have hy:args.toList[j]?=some args[j]:=by simp
  rw [aaa,Array.getElem?_map,Array.getElem?_eq_getElem (by omega)]
  exact mX_ok S (p j x _ hj hy)
theorem atc (hJ:Keep P N J) (h0:J c.w0) (hc:Sound P φ N J call) (S:Sim φ N c s a w h) {d:Option Nat} {f:Nat} {as:List X} {args:Array Operand} (he:ev1 call (.callg d f as) s=some s') (hd:o.dst=d) (ha:mXs φ as args.toList=true)
    (hr:(execOp a.eval o).run P w=(callFunc (φ f) (args.map a.eval)).run P w):Stq P φ N c o s' a w:=by
  intro K Q hK
  simp only [ev1] at he
  split at he
  case isFalse=>cases he
  rename_i hf
  obtain ⟨⟨v,m,r⟩,ho,rfl⟩:=Option.map_eq_some_iff.1 he
  have hG:=hc f _ _ ho
  rw [if_pos hf] at hG
  obtain ⟨ts,hts,G⟩:=hG
  simp only [List.cons.injEq,true_and] at hts
  subst hts
  obtain ⟨l,p⟩:=apx S ha
  have S0:=enterG S (ts:=as.map s.ev) (ys:=args.map a.eval) (by simpa using l) fun j v hj=>by
    rw [List.getElem?_map] at hj
    obtain ⟨x,hx,rfl⟩:=Option.map_eq_some_iff.1 hj
    exact p j x hx
  have fin:∀ y w',(∃ h',Sim φ N (gcx h s w) ⟨[v],m,r⟩ ⟨#[y],[]⟩ w' h')→K (a.put o.dst y) w':=by
    rintro y w' ⟨h',S'⟩
    rw [hd]
    exact hK _ _ _ (leaveG S S' d)
  have hJw:J w:=S.kept hJ h0
  unfold Oper.wp
  rw [hr]
  rcases G _ _ w _ hJw S0 with ⟨h1,h2⟩ | ⟨y,w',h1,h2⟩ | ⟨row,as',h1,h2⟩
  · rw [h1]
    exact h2.mono fun e w' ⟨y,e1,e2⟩=>by subst e1;exact fin y w' e2
  · rw [h1]
    exact fin y w' h2
  · rw [h1]
    exact h2.mono fun y w' e2=>fin y w' e2
def rR (w:World) (b _:Nat):Prop:=b<w.heap.size
def rgh (w:World):Gh:=⟨rR w,rR w,fun _=>none,fun _=>none⟩
def rcx (w:World):Cx:=⟨w,fun _ _=>False,rR w,rR w,fun _=>none,fun _=>none⟩
theorem enterR (hN:N.n≤w.heap.size) {vs:List V} {args:Array Value} (hs:args.size=vs.length) (ht:∀ j v,vs[j]?=some v→VOk φ w (rgh w) v (args.getD j undef)):
    Sim φ N (rcx w) ⟨vs,[],[]⟩ ⟨args,[]⟩ w (rgh w):=by
  have nb:∀ i b lo hi,¬ BlkAt (rgh w) ⟨vs,[],[]⟩ i b lo hi:=by rintro i b lo hi ⟨cs,h1,_⟩;simp at h1
  have nr:∀ i b,¬ RowAt (rgh w) ⟨vs,[],[]⟩ i b:=by rintro i b ⟨z,xs,g,cap,h1,_⟩;simp at h1
  have no:∀ b o,¬ Owned (rgh w) ⟨vs,[],[]⟩ b o:=by
    rintro b o (⟨i,lo,hi,h1,_⟩ | ⟨i,h1⟩)
    · exact nb _ _ _ _ h1
    · exact nr _ _ h1
  exact {
    nt:=hs,df:=rfl,t:=ht
    m:=fun id cs hc=>by simp at hc
    r:=fun id z fz xs hc=>by simp at hc
    bN:=fun _ _=>rfl,gN:=fun _ _=>rfl
    sR:=fun b o _=>no b o
    sM:=fun i j b lo hi lo' hi' _ _ _ h1=>absurd h1 (nb _ _ _ _)
    sX:=fun i id b lo hi _ h1=>absurd h1 (nb _ _ _ _)
    sW:=fun i j b h1=>absurd h1 (nr _ _)
    fr:=.refl _ _
    ow:=fun b o h1=>absurd h1 (no _ _)
    pl:=fun _ _ x=>x,p0:=fun _ _ x=>x,l0:=fun _ _ x=>x,p1:=fun _ _ x=>.inl x,l1:=fun _ _ x=>.inl x
    rb:=fun _ _ x=>x
    lo:=fun b o h1=>absurd h1 (no _ _)
    lN:=hN
    oN:=fun _ _ x=>x.elim
    c0:=fun b o hR=>⟨fun x=>x,hR⟩
    b0:=fun id x hx=>by cases hx
    g0:=fun id x hx=>by cases hx }
theorem ahp (S:Sim φ N c s a w h) {v:V} {y:Value} (hk:KOk φ w h v y):LOk φ w (rR w) (rR w) (rlend s v) y:=by
  have hP:∀ b o,h.Rp b o→rR w b o:=fun b o x=>S.rb b o (S.pl b o x)
  have hL:∀ b o,h.Rl b o→rR w b o:=fun b o x=>S.rb b o x
  have up:∀ {v:V} {y:Value},POk w h.Rp v y→POk w (rR w) v y:=fun x=>x.mono (fun _ _ _=>rfl) hP
  cases hk with
  | l hl=>
    cases hl with
    | pl hp=>cases hp <;> first | exact .pl (up (by constructor <;> assumption)) | exact .no _
    | no=>exact .no y
    | view z xs A cap f hc hz ha hv=>exact .pl (.view z xs A cap f hc hz (ha.mono (fun _ _ _=>rfl) hL) fun j v hj=>up (hv j v hj))
    | vp cs b o f ha hv=>exact .no _
    | fn f caps cc hs hv=>exact .no _
  | sl id lo k tg A cap g hg hn hc ht hl ha hmp=>
    simp only [rlend]
    split
    · rename_i z fz xs hr
      obtain ⟨g',hg',hrow⟩:=S.r id z fz xs (aae hr (by simp))
      rw [hg] at hg';cases hg'
      obtain ⟨f,r1,r2,r3,r4⟩:=ahq (R:=rR w) hrow hmp hn hc hl (fun b room hloc o=>hrow.lt hloc)
      have:=POk.view (w:=w) (R:=rR w) z _ A cap f (by rw [r4];exact hc) r3 r1 (fun j v hj=>up (r2 j v hj))
      rw [r4] at this
      exact .pl this
    · exact .no _
  | ptr id off b base len hB=>exact .no _
  | mr=>exact .no _
  | ep id idx off b cap g hg hi hl hmp=>exact .no _
  | fn f caps cc hs hv=>exact .no _
theorem asn (S:Sim φ N c s a w h) (k:Nat) {v:V} {y:Value} (hv:VOk φ w h v y):VOk φ w (rgh w) (rlendA s k v) y:=by
  cases hv with
  | k hk=>
    cases v <;> simp only [rlendA] <;> (try exact .k (.l (ahp S hk)))
    case agg cs=>
      cases hk with
      | l hl=>cases hl with
        | pl hp=>cases hp
    case nil=>
      split
      · exact .k (.l (ahp S hk))
      · have:=(VOk.k hk).nil_inv
        subst this
        exact .k (.l (.pl (.view _ [] none 0 (fun _=>undef) (Nat.le_refl _) (fun x hx=>by simp at hx) (fun h0=>by simp [flat] at h0) (fun j v hj=>by simp [flat] at hj))))
    case ptr id off=>
      split
      · rename_i cs hr
        obtain ⟨b,bb,len,hB,rfl⟩:=(VOk.k hk).ptr_inv
        cases hcs:s.m[id]? with
        | none=>exact absurd (S.bN id (List.getElem?_eq_none_iff.1 hcs)) (by rw [hB];simp)
        | some ds=>
          have hgd:s.m.getD id []=ds:=by rw [List.getD_eq_getElem?_getD,hcs];rfl
          rw [hgd] at hr
          obtain ⟨r1,r2⟩:=ac9 hr
          obtain ⟨b2,base2,hB2,cc,T,fr,hh,hsz,hcell,_⟩:=S.m id ds hcs
          rw [hB] at hB2;cases hB2
          have hin:∀ j,j<cs.length→off+j<ds.length:=fun j hj=>by
            have:=r2 j (by omega)
            rw [List.getElem?_eq_getElem hj] at this
            exact (List.getElem?_eq_some_iff.1 this.symm).1
          refine .k (.l (.vp _ b (bb+off) (fun j=>cc.getD (bb+off+j) undef) (fun j hj=>?_) fun j v hj=>?_))
          · rw [List.length_map] at hj
            have h1:=hin j hj
            have hlt:bb+off+j<cc.size:=by omega
            refine ⟨ad0 hh,aa7 hh hlt,?_⟩
            have:=hcell (off+j) _ (List.getElem?_eq_getElem h1)
            rw [← Nat.add_assoc] at this
            exact this.2
          · rw [List.getElem?_map] at hj
            obtain ⟨u,hu,rfl⟩:=Option.map_eq_some_iff.1 hj
            have hlt:=(List.getElem?_eq_some_iff.1 hu).1
            rw [r2 j (by omega)] at hu
            have:=hcell _ _ hu
            rw [← Nat.add_assoc] at this
            exact ahp S this.1
      · exact .k (.l (.no _))
    case vp cs=>
      obtain ⟨b,o,f,rfl,h1,h2⟩:=(VOk.k hk).vp_inv
      refine .k (.l (.vp _ b o f (fun j hj=>?_) fun j v hj=>?_))
      · rw [List.length_map,List.length_take] at hj
        obtain ⟨g1,g2,g3⟩:=h1 j (by omega)
        exact ⟨S.rb _ _ g1,g2,g3⟩
      · rw [List.getElem?_map] at hj
        obtain ⟨u,hu,rfl⟩:=Option.map_eq_some_iff.1 hj
        have hlt:=(List.getElem?_eq_some_iff.1 hu).1
        rw [List.length_take] at hlt
        rw [List.getElem?_take_of_lt (by omega)] at hu
        exact ahp S (.l (h2 j u hu))
  | agg cs cc hs hv=>
    simp only [rlendA]
    refine .agg _ cc (by simpa using hs) fun j v hj=>?_
    rw [List.getElem?_map] at hj
    obtain ⟨u,hu,rfl⟩:=Option.map_eq_some_iff.1 hj
    exact ⟨.l (ahp S (hv j u hu).1),(hv j u hu).2⟩
  | tup vs cc hs hv=>
    simp only [rlendA,rlend]
    exact .mkno _
theorem aso {v:V} {y:Value} {w':World} {h':Gh} (hs:scal v=true) (hv:VOk φ w h v y):VOk φ w' h' v y:=by
  cases v <;> simp only [scal] at hs <;> (try (cases hs;done))
  · have:=hv.b_inv;subst this;exact .mkb _
  · have:=hv.i_inv;subst this;exact .mki _ _
  · obtain ⟨x,rfl,h2⟩:=hv.s_inv;exact .mks h2
theorem auc {v:V} {y:Value} {w':World} {h':Gh} (hs:scalT v=true) (hv:VOk φ w h v y):VOk φ w' h' v y:=by
  cases v with
  | tup vs=>
    obtain ⟨cc,rfl,h1,h2⟩:=hv.tup_inv
    exact .tup vs cc h1 fun j u hj=>aso (List.all_eq_true.1 hs u (List.mem_of_getElem? hj)) (h2 j u hj)
  | _=>exact aso hs hv
theorem Sim.grown (S:Sim φ N c s a w h) {w':World} (F:Fr (fun _ _=>False) w w'):Sim φ N c s a w' h:=by
  have hle:h.Le h w w':=.fr F S.pl fun b o x=>⟨fun e=>e,S.rb b o x⟩
  refine { S with t:=fun j v hj=>(S.t j v hj).mono hle,m:=?_,r:=?_,fr:=S.fr.trans F (fun _ _ _ e=>e.elim),rb:=fun b o x=>Nat.lt_of_lt_of_le (S.rb b o x) F.size }
  · intro id cs hc
    obtain ⟨b,base,hb,hk⟩:=S.m id cs hc
    exact ⟨b,base,hb,abx F hle (fun _ _ _ e=>e) hk⟩
  · intro id z fz xs hx
    obtain ⟨g,hg,hk⟩:=S.r id z fz xs hx
    exact ⟨g,hg,abe F hle (fun _ _ _ _ e=>e) hk⟩
theorem atd (hJ:Keep P N J) (h0:J c.w0) (hc:Sound P φ N J call) (S:Sim φ N c s a w h) {d:Option Nat} {f:Nat} {as:List (X × Nat)} {args:Array Operand} (he:ev1 call (.callr d f as) s=some s') (hd:o.dst=d) (hf:f<5000) (ha:mXs φ (as.map (·.1)) args.toList=true)
    (hr:(execOp a.eval o).run P w=(callFunc (φ f) (args.map a.eval)).run P w):Stq P φ N c o s' a w:=by
  intro K Q hK
  simp only [ev1] at he
  split at he
  case h_2=>cases he
  rename_i ou ho
  split at he
  case isFalse=>cases he
  rename_i hs
  cases he
  obtain ⟨v,m,r⟩:=ou
  have hG:=hc f _ _ ho
  rw [if_neg (by omega)] at hG
  obtain ⟨_,_,_,G⟩:=hG
  obtain ⟨l,p⟩:=apx S ha
  have S0:=enterR (φ:=φ) (N:=N) (w:=w) (Nat.le_trans S.lN S.fr.size) (vs:=as.map fun a=>rlendA s a.2 (s.ev a.1)) (args:=args.map a.eval) (by simpa using l) fun j v hj=>by
    rw [List.getElem?_map] at hj
    obtain ⟨x,hx,rfl⟩:=Option.map_eq_some_iff.1 hj
    exact asn S x.2 (p j x.1 (by rw [List.getElem?_map,hx];rfl))
  have fin:∀ y w',(∃ h',Sim φ N (rcx w) ⟨[v],m,r⟩ ⟨#[y],[]⟩ w' h')→K (a.put o.dst y) w':=by
    rintro y w' ⟨h',S'⟩
    rw [hd]
    have S2:=S.grown S'.fr
    have hv:=auc (φ:=φ) (w':=w') (h':=h) hs (S'.t 0 v rfl)
    cases d with
    | none=>exact hK _ _ _ S2
    | some d=>exact hK _ _ _ (S2.put hv)
  have hJw:J w:=S.kept hJ h0
  unfold Oper.wp
  rw [hr]
  rcases G _ _ w _ hJw (fun id x hx=>by cases hx) S0 with ⟨h1,h2⟩ | ⟨y,w',h1,h2⟩ | ⟨row,as',h1,h2⟩
  · rw [h1]
    exact h2.mono fun e w' ⟨y,e1,e2⟩=>by subst e1;exact fin y w' e2
  · rw [h1]
    exact fin y w' h2
  · rw [h1]
    exact h2.mono fun y w' e2=>fin y w' e2
theorem asq (T:TIok P tb) (hJ:Keep P N J) (h0:J c.w0) (hc:Sound P φ N J call) {i:I} (hm:mI tb φ i o=true) (S:Sim φ N c s a w h) (he:ev1 call i s=some s'):Stq P φ N c o s' a w:=by
  cases hi:isCall i with
  | false=>
    have hev:evI i s=some s':=by
      cases i <;> first | exact he | (simp [isCall] at hi)
    exact (mI_ok T hm hi N hJ.p c s s' a w h S hev).stq
  | true=>
    cases i <;> (try (simp [isCall] at hi;done)) <;> simp only [mI,Bool.and_eq_true] at hm <;> (try (cases hm;done))
    case call d f as=>
      obtain ⟨hd,hm⟩:=hm
      split at hm
      · rename_i g args ats ho
        simp only [Bool.and_eq_true,beq_iff_eq] at hm
        obtain ⟨rfl,h2⟩:=hm
        refine aq5 hJ h0 hc S (cc:=#[]) he (by simpa using hd) h2 rfl (fun j v hj=>by simp at hj) ?_
        simp [execOp,ho,resolve,Deferred.ofValue,invoke,Act.eval]
      · cases hm
    case callv d x as=>
      obtain ⟨hd,hm⟩:=hm
      split at hm
      · rename_i x' args ats ho
        simp only [Bool.and_eq_true] at hm
        obtain ⟨h1,h2⟩:=hm
        simp only [ev1] at he
        split at he
        · rename_i f caps e1
          have vx:=mX_ok S h1
          rw [e1] at vx
          obtain ⟨cc,hfe,hs,hall⟩:=vx.fn_inv
          refine aq5 hJ h0 hc S (cc:=cc) he (by simpa using hd) h2 hs hall ?_
          simp [execOp,ho,resolve,hfe,Deferred.ofValue,invoke]
        · cases he
      · cases hm
    case callg d f as=>
      obtain ⟨hd,hm⟩:=hm
      split at hm
      · rename_i g args ats ho
        simp only [Bool.and_eq_true,beq_iff_eq] at hm
        obtain ⟨rfl,h2⟩:=hm
        refine atc hJ h0 hc S he (by simpa using hd) h2 ?_
        simp [execOp,ho,resolve,Deferred.ofValue,invoke,Act.eval]
      · cases hm
    case callr d f as=>
      obtain ⟨hd,hm⟩:=hm
      split at hm
      · rename_i g args ats ho
        simp only [Bool.and_eq_true,beq_iff_eq,decide_eq_true_eq] at hm
        obtain ⟨⟨rfl,h3⟩,h2⟩:=hm
        refine atd hJ h0 hc S he (by simpa using hd) h3 h2 ?_
        simp [execOp,ho,resolve,Deferred.ofValue,invoke,Act.eval]
      · cases hm
def I.strip:I→I
  | .ck _ i=>i.strip
  | i=>i
theorem ajt:∀ {i:I} {s s':St},ev1 call i s=some s'→ev1 call i.strip s=some s'
  | .ck c i,s,s',he=>by
    simp only [ev1] at he
    split at he
    · exact ajt (i:=i) he
    · cases he
  | .mv _ _,_,_,he=>he
  | .bin _ _ _ _,_,_,he=>he
  | .un _ _ _,_,_,he=>he
  | .pick _ _ _ _,_,_,he=>he
  | .cvi _ _ _,_,_,he=>he
  | .cvn _ _,_,_,he=>he
  | .cvb _ _,_,_,he=>he
  | .cvs _ _,_,_,he=>he
  | .ext _ _ _,_,_,he=>he
  | .fld _ _ _ _ _,_,_,he=>he
  | .bld _ _ _,_,_,he=>he
  | .bsl _ _ _,_,_,he=>he
  | .mks _ _ _ _ _,_,_,he=>he
  | .alc _ _,_,_,he=>he
  | .box _ _,_,_,he=>he
  | .ld _ _ _ _,_,_,he=>he
  | .st _ _ _,_,_,he=>he
  | .nck _ _,_,_,he=>he
  | .fad _ _ _,_,_,he=>he
  | .ixa _ _ _ _,_,_,he=>he
  | .ixs _ _ _,_,_,he=>he
  | .slc _ _ _ _ _,_,_,he=>he
  | .len _ _ _,_,_,he=>he
  | .app _ _ _ _,_,_,he=>he
  | .apb _ _ _,_,_,he=>he
  | .mm _ _ _ _,_,_,he=>he
  | .mkf _ _ _,_,_,he=>he
  | .eqs _ _ _ _,_,_,he=>he
  | .eqb _ _ _ _,_,_,he=>he
  | .eqn _ _ _ _ _,_,_,he=>he
  | .frz _ _,_,_,he=>he
  | .clr _ _ _ _,_,_,he=>he
  | .cpy _ _ _,_,_,he=>he
  | .mkm _,_,_,he=>he
  | .mup _ _ _ _,_,_,he=>he
  | .mlk _ _ _ _ _ _,_,_,he=>he
  | .call _ _ _,_,_,he=>he
  | .callv _ _ _,_,_,he=>he
  | .callg _ _ _,_,_,he=>he
  | .callr _ _ _,_,_,he=>he
  | .g _ _ _ _,_,_,he=>he
def mG (tb:TI) (φ:Nat→FuncId) (ops:Array Oper) (i:I) (o:Oper):Bool:=
  match i with
  | .g sl w d i=>(match o.guard with | some (g,want)=>want == w && ((ops[g]?).bind (·.dst)) == some sl | none=>false) && o.dst == d && mI tb φ i.strip o
  | i=>o.guard.isNone && mI tb φ i.strip o
def mRs (tb:TI) (φ:Nat→FuncId) (ops:Array Oper):List I→List Oper→Bool
  | [],[]=>true
  | i :: is,o :: os=>mG tb φ ops i o && mRs tb φ ops is os
  | _,_=>false
theorem alg (T:TIok P tb) (hJ:Keep P N J) (h0:J c.w0) (hc:Sound P φ N J call) {ops:Array Oper} {i:I} (hm:mG tb φ ops i o=true) (S:Sim φ N c s a w h) (he:ev1 call i s=some s') {K:Act→World→Prop} {Q:Exit→Act→World→Prop} (hK:∀ a' w' h',Sim φ N c s' a' w' h'→K a' w'):
    if Region.wanted o (yielded ops a.tmps) then o.wp P a w K Q∨(o.asks P a w∧LetsOut Q) else K (a.put o.dst undef) w:=by
  unfold mG at hm
  split at hm
  · rename_i sl wt d i
    simp only [Bool.and_eq_true] at hm
    obtain ⟨⟨h1,h2⟩,h3⟩:=hm
    split at h1
    · rename_i g want hg
      simp only [Bool.and_eq_true,beq_iff_eq] at h1
      obtain ⟨rfl,h4⟩:=h1
      simp only [ev1] at he
      have vs:=S.slot sl
      have key:∀ b,gd (s.t.getD sl .no) want=some b→Region.wanted o (yielded ops a.tmps)=b:=by
        intro b hb
        unfold gd at hb
        unfold Region.wanted
        rw [hg]
        simp only
        split at hb
        · rename_i cc hb0
          cases hb
          rw [hb0] at vs
          have hv:=vs.b_inv
          have hlt:sl<a.tmps.size:=Nat.lt_of_not_le fun hge=>by
            rw [aaa,Array.getElem?_eq_none hge] at hv
            cases hv
          have hy:yielded ops a.tmps g=some cc:=by
            unfold yielded
            rw [h4]
            rw [aaa,Array.getElem?_eq_getElem hlt] at hv
            simp only [Option.bind_some,Array.getElem?_eq_getElem hlt]
            rw [Option.getD_some] at hv
            rw [hv]
          rw [hy]
          cases cc <;> cases want <;> rfl
        · rename_i hb0
          cases hb
          rw [hb0] at vs
          have hy:yielded ops a.tmps g=none:=by
            unfold yielded
            rw [h4]
            simp only [Option.bind_some]
            split
            · rename_i bb hbb
              rw [aaa,hbb] at vs
              simp only [Option.getD_some] at vs
              cases vs with
              | k hk=>cases hk with
                | l hl=>cases hl with
                  | pl hp=>cases hp
            · rfl
          rw [hy]
          rfl
        · cases hb
      split at he
      · rename_i hb
        rw [key _ hb,if_pos rfl]
        exact .inl (asq T hJ h0 hc h3 S (ajt he) K Q hK)
      · rename_i hb
        cases he
        rw [key _ hb,if_neg (by simp)]
        have hd:o.dst=d:=by simpa using h2
        rw [hd]
        exact hK _ _ h (S.putO_un d)
      · cases he
    · cases h1
  · simp only [Bool.and_eq_true] at hm
    have hg:o.guard=none:=by simpa using hm.1
    have hw:Region.wanted o (yielded ops a.tmps)=true:=by unfold Region.wanted;rw [hg]
    rw [if_pos hw]
    exact .inl (asq T hJ h0 hc hm.2 S (ajt he) K Q hK)
theorem alr {ops:Array Oper}:∀ {is:List I} {os:List Oper},mRs tb φ ops is os=true→is.length=os.length
  | [],[],_=>rfl
  | i :: is,o :: os,hm=>by
    simp only [mRs,Bool.and_eq_true] at hm
    simp [alr hm.2]
  | [],_ :: _,hm=>by simp [mRs] at hm
  | _ :: _,[],hm=>by simp [mRs] at hm
theorem ops_ok (T:TIok P tb) (hJ:Keep P N J) (h0:J c.w0) (hc:Sound P φ N J call) {ops:Array Oper} {Q:Exit→Act→World→Prop}:∀ (is:List I) (os:List Oper) (k:Nat) {s:St} {a:Act} {w:World} {h:Gh},mRs tb φ ops is os=true→(∀ j,os[j]?=ops[k+j]?) →
    Sim φ N c s a w h→evIs call is s=some s'→(∀ a' w' h',Sim φ N c s' a' w' h'→Q .normal a' w')→wpOps P ops Q (List.range' k os.length) a w
  | [],[],k,s,a,w,h,_,_,S,he,hQ=>by cases he;exact hQ _ _ _ S
  | i :: is,o :: os,k,s,a,w,h,hm,ho,S,he,hQ=>by
    simp only [mRs,Bool.and_eq_true] at hm
    simp only [evIs] at he
    split at he
    · rename_i s1 e1
      rw [List.length_cons,List.range'_succ,wpOps_cons]
      have hk:ops[k]?=some o:=by have:=ho 0;simpa using this.symm
      unfold wpOp
      rw [hk]
      exact alg T hJ h0 hc hm.1 S e1 fun a' w' h' S'=>ops_ok T hJ h0 hc is os (k+1) hm.2 (fun j=>by
        have:=ho (j+1)
        rw [show k+(j+1)=k+1+j by omega] at this
        simpa using this) S' he hQ
    · cases he
  | [],_ :: _,_,_,_,_,_,hm,_,_,_,_=>by simp [mRs] at hm
  | _ :: _,[],_,_,_,_,_,hm,_,_,_,_=>by simp [mRs] at hm
end
end Go.VS
end
