/-
  The program's look at a type; types with numbers.
-/
import Derived.Test.YtmmbgajolgbhnaaGreatDoorD1
import Derived.Test.YtmmbgajolgbhnaaGreatDoorB4
set_option linter.all false
section
namespace Go.VS
set_option maxRecDepth 4000
attribute [-simp] isLeaf okRet
theorem anz (q q':Bool) (l l':List Bs) (hl:l.length≤lim) (K:Out→Prop):
    Call prog 565 ⟨[.view q 1 (l.map V.s),.view q' 1 (l'.map V.s)],[],[]⟩ K=K (.b (decide (l=l')),[],[]):=by
  refine Zc (f:=565) rfl rfl (by decide) ?_
  unfold lim at hl
  by_cases hn:l.length=l'.length
  case neg=>
    have:l≠l':=fun h=>hn (by rw [h])
    have hn':((l.length:Int)=(l'.length:Int))=False:=eq_false (by omega)
    simp -implicitDefEqProofs [hn',this]
  have hn':((l.length:Int)=(l'.length:Int))=True:=eq_true (by omega)
  simp -implicitDefEqProofs [hn']
  refine WL_for (fun i=>⟨sp 26 [(0,.view q 1 (l.map V.s)),(1,.view q' 1 (l'.map V.s)),(12,.i .i64 l.length),(13,.i .i64 i)],[],[]⟩) l.length (fun i=>∀ j,j<i→l[j]?=l'[j]?) _ (by simp -implicitDefEqProofs) (fun j hj=>absurd hj (by omega)) ?_
  intro i hi hP
  by_cases hlt:i<l.length
  · have hlt2:i<l'.length:=by omega
    have hw:=wrap_i64 (n:=(i:Int)+1) (by omega) (by omega)
    by_cases ne:l[i]=l'[i]
    · have:∀ j,j<i+1→l[j]?=l'[j]?:=fun j hj=>by
        rcases Nat.lt_succ_iff_lt_or_eq.mp hj with h | h
        · exact hP j h
        · subst h;rw [List.getElem?_eq_getElem hlt,List.getElem?_eq_getElem hlt2,ne]
      simp -implicitDefEqProofs [hlt,hlt2,hw,ne,Next]
      exact this
    · have:l≠l':=fun h=>ne (by simp only [h])
      simp -implicitDefEqProofs [hlt,hlt2,hw,ne,this]
  · have:l=l':=List.ext_getElem? fun j=>by
      by_cases hj:j<i
      · exact hP j hj
      · rw [List.getElem?_eq_none (by omega),List.getElem?_eq_none (by omega)]
    simp -implicitDefEqProofs [hlt]
    exact this
theorem anx (q q':Bool) (l l':List Int) (hl:l.length≤lim) (K:Out→Prop):
    Call prog 566 ⟨[.view q 1 (l.map (V.i .i64)),.view q' 1 (l'.map (V.i .i64))],[],[]⟩ K=K (.b (decide (l=l')),[],[]):=by
  refine Zc (f:=566) rfl rfl (by decide) ?_
  unfold lim at hl
  by_cases hn:l.length=l'.length
  case neg=>
    have:l≠l':=fun h=>hn (by rw [h])
    have hn':((l.length:Int)=(l'.length:Int))=False:=eq_false (by omega)
    simp -implicitDefEqProofs [hn',this]
  have hn':((l.length:Int)=(l'.length:Int))=True:=eq_true (by omega)
  simp -implicitDefEqProofs [hn']
  refine WL_for (fun i=>⟨sp 26 [(0,.view q 1 (l.map (V.i .i64))),(1,.view q' 1 (l'.map (V.i .i64))),(12,.i .i64 l.length),(13,.i .i64 i)],[],[]⟩) l.length (fun i=>∀ j,j<i→l[j]?=l'[j]?) _ (by simp -implicitDefEqProofs) (fun j hj=>absurd hj (by omega)) ?_
  intro i hi hP
  by_cases hlt:i<l.length
  · have hlt2:i<l'.length:=by omega
    have hw:=wrap_i64 (n:=(i:Int)+1) (by omega) (by omega)
    by_cases ne:l[i]=l'[i]
    · have:∀ j,j<i+1→l[j]?=l'[j]?:=fun j hj=>by
        rcases Nat.lt_succ_iff_lt_or_eq.mp hj with h | h
        · exact hP j h
        · subst h;rw [List.getElem?_eq_getElem hlt,List.getElem?_eq_getElem hlt2,ne]
      simp -implicitDefEqProofs [hlt,hlt2,hw,ne,Next]
      exact this
    · have:l≠l':=fun h=>ne (by simp only [h])
      simp -implicitDefEqProofs [hlt,hlt2,hw,ne,this]
  · have:l=l':=List.ext_getElem? fun j=>by
      by_cases hj:j<i
      · exact hP j hj
      · rw [List.getElem?_eq_none (by omega),List.getElem?_eq_none (by omega)]
    simp -implicitDefEqProofs [hlt]
    exact this
def Sub {α:Type} (l l':List α):Prop:=l'=l∨l'=[]
theorem aqz (q q':Bool) (l l':List Mb) (hl:l.length≤lim) (hs:Sub l l')
    (hx:∀ x,x ∈ l→∀ K:Out→Prop,Call prog 568 ⟨[x.w,x.w],[],[]⟩ K=K (.b true,[],[])) (K:Out→Prop):
    Call prog 567 ⟨[.view q 11 (l.map Mb.c),.view q' 11 (l'.map Mb.c),.fn 568 []],[],[]⟩ K=K (.b (decide (l.length=l'.length)),[],[]):=by
  refine Zc (f:=567) rfl rfl (by decide) ?_
  unfold lim at hl
  by_cases hn:l.length=l'.length
  case neg=>
    have hn':((l.length:Int)=(l'.length:Int))=False:=eq_false (by omega)
    simp -implicitDefEqProofs [hn',hn]
  have e:l'=l:=by
    rcases hs with h | h
    · exact h
    · rw [h] at hn;rw [h];exact (List.length_eq_zero_iff.mp hn).symm
  subst e
  simp -implicitDefEqProofs
  refine WL_for (fun i=>⟨sp 32 [(1,.view q' 11 (l'.map Mb.c)),(2,.fn 568 []),(15,.view q 11 (l'.map Mb.c)),(16,.i .i64 l'.length),(17,.i .i64 i)],[],[]⟩) l'.length (fun _=>True) _ (by simp -implicitDefEqProofs) trivial ?_
  intro i hi _
  by_cases hlt:i<l'.length
  · have hw:=wrap_i64 (n:=(i:Int)+1) (by omega) (by omega)
    have e1:=hx l'[i] (List.getElem_mem hlt)
    simp -implicitDefEqProofs [hlt,hw,e1,Mb.c_w,Next]
  · simp -implicitDefEqProofs [hlt]
theorem aq0 (q q':Bool) (l l':List Ty) (hl:l.length≤lim) (hs:Sub l l')
    (hx:∀ x,x ∈ l→∀ K:Out→Prop,Call prog 535 ⟨[x.w,x.w],[],[]⟩ K=K (.b true,[],[])) (K:Out→Prop):
    Call prog 569 ⟨[.view q 9 (l.map Ty.v),.view q' 9 (l'.map Ty.v),.fn 535 []],[],[]⟩ K=K (.b (decide (l.length=l'.length)),[],[]):=by
  refine Zc (f:=569) rfl rfl (by decide) ?_
  unfold lim at hl
  by_cases hn:l.length=l'.length
  case neg=>
    have hn':((l.length:Int)=(l'.length:Int))=False:=eq_false (by omega)
    simp -implicitDefEqProofs [hn',hn]
  have e:l'=l:=by
    rcases hs with h | h
    · exact h
    · rw [h] at hn;rw [h];exact (List.length_eq_zero_iff.mp hn).symm
  subst e
  simp -implicitDefEqProofs
  refine WL_for (fun i=>⟨sp 32 [(1,.view q' 9 (l'.map Ty.v)),(2,.fn 535 []),(15,.view q 9 (l'.map Ty.v)),(16,.i .i64 l'.length),(17,.i .i64 i)],[],[]⟩) l'.length (fun _=>True) _ (by simp -implicitDefEqProofs) trivial ?_
  intro i hi _
  by_cases hlt:i<l'.length
  · have hw:=wrap_i64 (n:=(i:Int)+1) (by omega) (by omega)
    have e1:=hx l'[i] (List.getElem_mem hlt)
    simp -implicitDefEqProofs [hlt,hw,e1,Ty.v_w,Next]
  · simp -implicitDefEqProofs [hlt]
theorem al5 (m:Mb) (hx:∀ K:Out→Prop,Call prog 535 ⟨[m.ty.w,m.ty.w],[],[]⟩ K=K (.b true,[],[])) (K:Out→Prop):
    Call prog 568 ⟨[m.w,m.w],[],[]⟩ K=K (.b true,[],[]):=by
  refine Zc (f:=568) rfl rfl (by decide) ?_
  simp -implicitDefEqProofs [hx]
structure SubT (t o:Ty):Prop where
  na:Sub t.names o.names
  nu:Sub t.nums o.nums
  ms:Sub t.ms o.ms
  ba:Sub t.base o.base
structure SameH (t o:Ty):Prop where
  k:t.kind=o.kind
  s:t.size=o.size
  g:t.sg=o.sg
  b:t.bg=o.bg
  c:t.count=o.count
  na:t.names=o.names
  nu:t.nums=o.nums
  ms:t.ms.length=o.ms.length
  ba:t.base.length=o.base.length
theorem ags (t:Ty):∀ (hb:t.tot≤lim) (o:Ty) (hs:SubT t o) (K:Out→Prop),Call prog 535 ⟨[t.w,o.w],[],[]⟩ K=K (.b (tB (SameH t o)),[],[]):=by
  refine Ty.ind (P:=fun t=>∀ (hb:t.tot≤lim) (o:Ty) (hs:SubT t o) (K:Out→Prop),Call prog 535 ⟨[t.w,o.w],[],[]⟩ K=K (.b (tB (SameH t o)),[],[])) ?_ t
  intro t hm hbs hb o hs K
  have ht:=t.tot_eq
  have t1:t.names.length≤totS t.names:=by unfold totS;omega
  have t2:=Mb.tots_eq t.ms
  have t3:=Ty.tots_eq t.base
  have self:∀ x:Ty,tB (SameH x x)=true:=fun x=>tB_t ⟨rfl,rfl,rfl,rfl,rfl,rfl,rfl,rfl,rfl⟩
  have sub:∀ x:Ty,SubT x x:=fun x=>⟨.inl rfl,.inl rfl,.inl rfl,.inl rfl⟩
  have eM:∀ m,m ∈ t.ms→∀ K:Out→Prop,Call prog 568 ⟨[m.w,m.w],[],[]⟩ K=K (.b true,[],[]):=
    fun m im K=>al5 m (fun K=>by rw [hm m im (by have:=ab7 Mb.tot im;rw [Mb.tot_eq] at this;omega) _ (sub _),self]) K
  have eB:∀ b,b ∈ t.base→∀ K:Out→Prop,Call prog 535 ⟨[b.w,b.w],[],[]⟩ K=K (.b true,[],[]):=
    fun b ib K=>by rw [hbs b ib (by have:=ab7 Ty.tot ib;omega) _ (sub _),self]
  have e1:=fun q q' K=>anz q q' t.names o.names (by omega) K
  have e2:=fun q q' K=>anx q q' t.nums o.nums (by omega) K
  have e3:=fun q q' K=>aqz q q' t.ms o.ms (by omega) hs.ms eM K
  have e4:=fun q q' K=>aq0 q q' t.base o.base (by omega) hs.ba eB K
  refine Zc (f:=535) rfl rfl (by decide) ?_
  by_cases c1:t.kind=o.kind
  case neg=>rw [tB_f fun h=>c1 h.k];simp -implicitDefEqProofs [c1]
  by_cases c2:t.size=o.size
  case neg=>rw [tB_f fun h=>c2 h.s];simp -implicitDefEqProofs [eq_true c1,c2]
  by_cases c3:t.sg=o.sg
  case neg=>rw [tB_f fun h=>c3 h.g];simp -implicitDefEqProofs [eq_true c1,eq_true c2,show (t.sg == o.sg)=false from beq_eq_false_iff_ne.mpr c3]
  have c3':(t.sg == o.sg)=true:=beq_iff_eq.mpr c3
  by_cases c4:t.bg=o.bg
  case neg=>rw [tB_f fun h=>c4 h.b];simp -implicitDefEqProofs [eq_true c1,eq_true c2,c3',show (t.bg == o.bg)=false from beq_eq_false_iff_ne.mpr c4]
  have c4':(t.bg == o.bg)=true:=beq_iff_eq.mpr c4
  by_cases c5:t.count=o.count
  case neg=>rw [tB_f fun h=>c5 h.c];simp -implicitDefEqProofs [eq_true c1,eq_true c2,c3',c4',c5]
  by_cases c6:t.names=o.names
  case neg=>rw [tB_f fun h=>c6 h.na];simp -implicitDefEqProofs [eq_true c1,eq_true c2,c3',c4',eq_true c5,e1,c6]
  by_cases c7:t.nums=o.nums
  case neg=>rw [tB_f fun h=>c7 h.nu];simp -implicitDefEqProofs [eq_true c1,eq_true c2,c3',c4',eq_true c5,e1,eq_true c6,e2,c7]
  by_cases c8:t.ms.length=o.ms.length
  case neg=>rw [tB_f fun h=>c8 h.ms];simp -implicitDefEqProofs [eq_true c1,eq_true c2,c3',c4',eq_true c5,e1,eq_true c6,e2,eq_true c7,e3,c8]
  by_cases c9:t.base.length=o.base.length
  case neg=>rw [tB_f fun h=>c9 h.ba];simp -implicitDefEqProofs [eq_true c1,eq_true c2,c3',c4',eq_true c5,e1,eq_true c6,e2,eq_true c7,e3,eq_true c8,e4,c9]
  rw [tB_t ⟨c1,c2,c3,c4,c5,c6,c7,c8,c9⟩]
  simp -implicitDefEqProofs [eq_true c1,eq_true c2,c3',c4',eq_true c5,e1,eq_true c6,e2,eq_true c7,e3,eq_true c8,e4,eq_true c9]
end Go.VS
end
section
namespace Go.VS
set_option maxRecDepth 4000
attribute [-simp] isLeaf okRet
theorem ait (q:Bool) (l:List Bs) (v:Bs) (hl:l.length≤lim) (K:Out→Prop):Call prog 283 ⟨[.view q 1 (l.map V.s),.s v],[],[]⟩ K=K (.i .i64 (idxF (fun x=>v == x) l 0),[],[]):=by
  refine Zc (f:=283) rfl rfl (by decide) ?_
  unfold lim at hl
  simp -implicitDefEqProofs
  refine WL_for (fun i=>⟨sp 19 [(0,.view q 1 (l.map V.s)),(1,.s v),(7,.i .i64 l.length),(8,.i .i64 i)],[],[]⟩) l.length (fun i=>idxF (fun x=>v == x) l 0=idxF (fun x=>v == x) (l.drop i) i) _ (by simp -implicitDefEqProofs) (by simp) ?_
  intro i hi hP
  by_cases hlt:i<l.length
  · have hw:=wrap_i64 (n:=(i:Int)+1) (by omega) (by omega)
    have hx:=ahd (pr:=fun x:Bs=>v == x) (List.getElem?_eq_getElem hlt)
    rw [hP,hx]
    by_cases hk:v=l[i]
    · simp -implicitDefEqProofs [hlt,← hk]
    · have hk':(v == l[i])=false:=by simpa using hk
      simp -implicitDefEqProofs [hlt,hk,hk',hw,Next]
  · rw [hP,ahe (by omega)]
    simp -implicitDefEqProofs [hlt]
theorem ajw (q:Bool) (l:List Bs) (v:Bs) (hl:l.length≤lim) (K:Out→Prop):Call prog 583 ⟨[.view q 1 (l.map V.s),.s v],[],[]⟩ K=K (.b (decide (v ∈ l)),[],[]):=by
  refine Zc (f:=583) rfl rfl (by decide) ?_
  have e:l.any (fun x=>v == x)=decide (v ∈ l):=by
    rw [Bool.eq_iff_iff];simp [List.any_eq_true]
  have ix:=fun K=>ait q l v hl K
  simp -implicitDefEqProofs [ix,aoj]
  exact e
def DifN (l:List Bs):Prop:=∀ i (h:i<l.length),isName l[i]=true∧∀ k,k<i→l.getD k []≠l[i]
def DifU (l:List Bs) (n:Nat):Prop:=∀ j,j<n→∀ h:j<l.length,isName l[j]=true∧∀ k,k<j→l.getD k []≠l[j]
theorem ada (q:Bool) (l:List Bs) (hl:l.length≤lim) (hs:∀ s,s ∈ l→s.length≤lim) (K:Out→Prop):
    Call prog 570 ⟨[.view q 1 (l.map V.s)],[],[]⟩ K=K (.b (tB (DifN l)),[],[]):=by
  refine Zc (f:=570) rfl rfl (by decide) ?_
  have hl':=hl
  unfold lim at hl'
  simp -implicitDefEqProofs
  refine WL_for (fun i=>⟨sp 23 [(0,.view q 1 (l.map V.s)),(5,.view q 1 (l.map V.s)),(6,.i .i64 l.length),(7,.i .i64 i)],[],[]⟩) l.length (fun i=>DifU l i) _ (by simp -implicitDefEqProofs) (fun j hj=>absurd hj (by omega)) ?_
  intro i hi hP
  by_cases hlt:i<l.length
  case neg=>
    rw [tB_t (show DifN l from fun j hj=>hP j (by omega) hj)]
    simp -implicitDefEqProofs [hlt]
  have hw:=wrap_i64 (n:=(i:Int)+1) (by omega) (by omega)
  have e1:=fun K=>an1 l[i] (hs _ (List.getElem_mem hlt)) K
  have e2:=fun q K=>ajw q (l.take i) l[i] (by rw [List.length_take];omega) K
  by_cases q1:isName l[i]=true
  case neg=>
    rw [tB_f fun h:DifN l=>q1 (h i hlt).1]
    simp -implicitDefEqProofs [hlt,e1,q1]
  rw [q1] at e1
  have hil:(i≤l.length)=True:=eq_true (by omega)
  rw [List.map_take] at e2
  have hmem:l[i] ∈ l.take i ↔ ∃ k,k<i∧l.getD k []=l[i]:=by
    rw [List.mem_iff_getElem]
    constructor
    · rintro ⟨k,hk,he⟩
      rw [List.length_take] at hk
      exact ⟨k,by omega,by rw [aal (by omega),← he,List.getElem_take]⟩
    · rintro ⟨k,hk,he⟩
      rw [aal (by omega)] at he
      exact ⟨k,by rw [List.length_take];omega,by rw [List.getElem_take];exact he⟩
  by_cases q2:l[i] ∈ l.take i
  · obtain ⟨k,hk,he⟩:=hmem.mp q2
    rw [tB_f fun h:DifN l=>(h i hlt).2 k hk he]
    simp -implicitDefEqProofs [hlt,hil,e1,e2,q2]
  · have:DifU l (i+1):=fun j hj h=>by
      rcases Nat.lt_succ_iff_lt_or_eq.mp hj with h' | h'
      · exact hP j h' h
      · subst h';exact ⟨q1,fun k hk he=>q2 (hmem.mpr ⟨k,hk,he⟩)⟩
    simp -implicitDefEqProofs [hlt,hil,hw,e1,e2,q2,Next]
    exact this
end Go.VS
end
section
namespace Go.VS
set_option maxRecDepth 4000
attribute [-simp] isLeaf okRet
def Ty.only (t:Ty):Ty:=
  if t.kind=1 then .mk t.kind t.size t.sg t.bg true [] true [] true [] true [] 0
  else if t.kind=2∨t.kind=6 then .mk t.kind t.size false false true [] true [] true [] true [] 0
  else if t.kind=3 then .mk t.kind 0 false false t.na t.names t.nb t.nums true [] t.nd t.base 0
  else if t.kind=4 then .mk t.kind t.size false false true [] true [] t.nc t.ms true [] 0
  else if t.kind=5 then .mk t.kind 0 false false true [] true [] true [] t.nd t.base t.count
  else .mk t.kind 0 false false true [] true [] true [] true [] 0
theorem afm (q:Bool) (z:Nat):slv true q z []=.nil:=rfl
theorem ang (t:Ty) (K:Out→Prop):Call prog 534 ⟨[t.w],[],[]⟩ K=K (t.only.w,[],[]):=by
  refine Zc (f:=534) rfl rfl (by decide) ?_
  unfold Ty.only Ty.w
  by_cases k1:t.kind=1
  · simp -implicitDefEqProofs [k1,afm]
  by_cases k2:t.kind=2∨t.kind=6
  · rw [if_neg k1,if_pos k2]
    rcases k2 with k2 | k2 <;> simp -implicitDefEqProofs [k2,afm]
  have k2':¬ t.kind=2:=fun h=>k2 (.inl h)
  have k6':¬ t.kind=6:=fun h=>k2 (.inr h)
  rw [if_neg k1,if_neg k2]
  by_cases k3:t.kind=3
  · simp -implicitDefEqProofs [k3,afm]
  by_cases k4:t.kind=4
  · simp -implicitDefEqProofs [k4,afm]
  by_cases k5:t.kind=5
  · simp -implicitDefEqProofs [k5,afm]
  simp -implicitDefEqProofs [k1,k2',k6',k3,k4,k5,afm]
theorem ap2 (t:Ty):SubT t t.only:=by
  unfold Ty.only
  repeat' split
  all_goals constructor <;> first | exact .inl rfl | exact .inr rfl
theorem ake (t:Ty) (K:Out→Prop):Call prog 536 ⟨[t.w],[],[]⟩ K=K (.b (tB (IntF t)),[],[]):=by
  refine Zc (f:=536) rfl rfl (by decide) ?_
  have e1:∀ q v K,Call prog 96 ⟨[.view q 1 [.i .i64 1,.i .i64 2,.i .i64 4,.i .i64 8],.i .i64 v],[],[]⟩ K=K (.b (decide (v ∈ [(1:Int),2,4,8])),[],[]):=fun q v K=>aei q [1,2,4,8] v (by decide) K
  by_cases c1:t.size=1∨t.size=2∨t.size=4∨t.size=8
  case neg=>
    rw [tB_f fun h=>c1 h.s]
    simp -implicitDefEqProofs [e1,c1]
  have hB:tB (IntF t)=(decide (t.size=8→t.sg=true) && decide (t.size=1→t.bg=false)):=by
    rw [Bool.eq_iff_iff,tB_iff]
    simp only [Bool.and_eq_true,decide_eq_true_eq]
    exact ⟨fun h=>⟨h.g,h.b⟩,fun h=>⟨c1,h.1,h.2⟩⟩
  rw [hB]
  rcases c1 with h | h | h | h <;> cases h1:t.sg <;> cases h2:t.bg <;> simp -implicitDefEqProofs [e1,h,h1,h2]
theorem ahg (t:Ty) (h:IntF t) (K:Out→Prop):Call prog 514 ⟨[t.w],[],[]⟩ K=K (.tup [.i .i64 (lo t.size t.sg),.i .i64 (hi t.size t.sg)],[],[]):=by
  refine Zc (f:=514) rfl rfl (by decide) ?_
  rcases h.s with e | e | e | e <;> cases h1:t.sg
  all_goals first | (have:=h.g e;rw [h1] at this;cases this) | skip
  all_goals simp -implicitDefEqProofs [h1,e,lo,hi]
  all_goals decide
theorem aeg {d:Nat} {t:Ty} (h:Gd d t):∀ K:Out→Prop,Call prog 498 ⟨[t.w],[],[]⟩ K=K (.i .i64 t.sz,[],[]):=by
  have base:∀ b:Ty,b.kind=1→∀ K:Out→Prop,Call prog 498 ⟨[b.w],[],[]⟩ K=K (.i .i64 b.size,[],[]):=fun b hb K=>by
    refine Zc (f:=498) rfl rfl (by decide) ?_
    simp -implicitDefEqProofs [hb]
  induction d generalizing t with
  | zero=>exact h.elim
  | succ d ih=>
    intro K
    refine Zc (f:=498) rfl rfl (by decide) ?_
    have hz:=h.sz
    rw [Ty.sz_eq] at hz ⊢
    by_cases k3:t.kind=3
    · rcases h with h | h | h | h | h | h <;> (try (have:=h.1;omega))
      obtain ⟨b,hb,kb,_⟩:=h.2.ba
      have e:=base b kb
      rw [if_pos k3,hb,Ty.hsize]
      simp -implicitDefEqProofs [k3,hb,Ty.v_w,e]
    · by_cases k5:t.kind=5
      · rcases h with h | h | h | h | h | h <;> (try (have:=h.1;omega))
        obtain ⟨_,h2,b,hb,hg,_⟩:=h
        have e:=ih hg
        rw [if_neg k3,if_pos k5,hb,Ty.hsz] at hz ⊢
        have hw:=wrap_i64 (n:=t.count*b.sz) (by omega) (by omega)
        simp -implicitDefEqProofs [k3,k5,hb,Ty.v_w,e,hw]
      · rw [if_neg k3,if_neg k5]
        simp -implicitDefEqProofs [k3,k5]
end Go.VS
end
section
namespace Go.VS
set_option maxRecDepth 4000
attribute [-simp] isLeaf okRet
theorem asx (b:Ty) (hb:b.tot≤lim) (k1:b.kind=1) (d:Nat) (h1:1≤d) (K:Out→Prop):
    Call prog 495 ⟨[b.w,.i .i64 d],[],[]⟩ K=K (.b (tB (IntG b)),[],[]):=by
  have e1:=ang b
  have e2:=ags b hb b.only (ap2 b)
  have e3:=ake b
  have ho:b.only=.mk b.kind b.size b.sg b.bg true [] true [] true [] true [] 0:=by unfold Ty.only;rw [if_pos k1]
  have hS:SameH b b.only ↔ Bare b:=by
    rw [ho]
    exact ⟨fun h=>⟨h.na,h.nu,List.length_eq_zero_iff.mp h.ms,List.length_eq_zero_iff.mp h.ba,h.c⟩,
      fun h=>⟨rfl,rfl,rfl,rfl,h.co,h.na,h.nu,List.length_eq_zero_iff.mpr h.ms,List.length_eq_zero_iff.mpr h.ba⟩⟩
  rw [aaw hS] at e2
  refine Zc (f:=495) rfl rfl (by decide) ?_
  have d1:((d:Int)<1)=False:=eq_false (by omega)
  have f1:=eq_true k1
  by_cases g:Bare b
  case neg=>
    rw [tB_f fun h=>g h.toBare]
    rw [tB_f g] at e2
    simp -implicitDefEqProofs [d1,e1,e2]
  have:tB (IntG b)=tB (IntF b):=aaw ⟨fun h=>h.toIntF,fun h=>⟨h,g⟩⟩
  rw [this]
  rw [tB_t g] at e2
  simp -implicitDefEqProofs [d1,e1,e2,f1,e3]
def NumU (l:List Int) (L H:Int) (n:Nat):Prop:=∀ j,j<n→∀ h:j<l.length,(L≤l[j]∧l[j]≤H)∧(0<j→l.getD (j - 1) 0<l[j])
structure EnumH (t:Ty):Prop where
  ba:∃ b,t.base=[b]∧b.kind=1∧IntG b∧NumU t.nums (lo b.size b.sg) (hi b.size b.sg) t.nums.length
  n1:1≤t.nums.length
  n6:t.nums.length≤6
  nn:t.names.length=t.nums.length
  nd:DifN t.names
theorem amp (t:Ty) (p:Plain t) (s:t.size=0) (c:t.count=0) (m:t.ms=[]):EnumH t ↔ EnumG t:=by
  constructor
  · rintro ⟨⟨b,h1,h2,h3,h4⟩,n1,n6,nn,nd⟩
    refine ⟨p,s,c,m,by omega,by omega,nn.symm,b,h1,h2,h3,fun i hi=>?_⟩
    have hi2:i<t.nums.length:=by omega
    have a1:=h4 i hi2 hi2
    have a2:=nd i hi
    exact ⟨by rw [aal hi];exact a2.1,by rw [aal hi2];exact a1.1.1,by rw [aal hi2];exact a1.1.2,fun h=>by rw [aal hi2];exact a1.2 h,fun k hk=>by rw [aal hi];exact a2.2 k hk⟩
  · intro h
    obtain ⟨b,h1,h2,h3,h4⟩:=h.ba
    have nn:=h.nn
    refine ⟨⟨b,h1,h2,h3,fun j hj hjl=>?_⟩,by have:=h.n1;omega,by have:=h.n6;omega,nn.symm,fun i hi=>?_⟩
    · have hj2:j<t.names.length:=by omega
      have a:=h4 j hj2
      have a1:=a.lo;have a2:=a.hi;have a3:=a.as
      rw [aal hjl] at a1 a2 a3
      exact ⟨⟨a1,a2⟩,a3⟩
    · have a:=h4 i hi
      have a1:=a.nm;have a2:=a.df
      rw [aal hi] at a1 a2
      exact ⟨a1,a2⟩
theorem an9 (t:Ty) (hb:t.tot≤lim) (K:Out→Prop):Call prog 537 ⟨[t.w],[],[]⟩ K=K (.b (tB (EnumH t)),[],[]):=by
  have ht:=t.tot_eq
  have t1:totS t.names=t.names.length+sumL t.names:=rfl
  have t3:=Ty.tots_eq t.base
  have hs1:∀ s,s ∈ t.names→s.length≤lim:=fun s hs=>by
    have:=ab7 List.length hs
    have:sumL t.names=sumG List.length t.names:=rfl
    omega
  have hbt:∀ b,b ∈ t.base→b.tot≤lim:=fun b ib=>by have:=ab7 Ty.tot ib;omega
  have hnl:t.nums.length≤lim:=by omega
  have hll:t.names.length≤lim:=by omega
  clear ht t1 t3
  refine Zc (f:=537) rfl rfl (by decide) ?_
  by_cases n4:t.base.length=1
  case neg=>
    rw [tB_f fun h=>n4 (by obtain ⟨b,hb,_⟩:=h.ba;rw [hb];rfl)]
    have n4':¬ (t.base.length:Int)=1:=by omega
    simp -implicitDefEqProofs [n4,n4',List.length_pos_iff]
  have n5:0<t.base.length:=by omega
  have hb:=len1 n4 n5
  have n4':((t.base.length:Int)=1)=True:=eq_true (by omega)
  replace n4:=eq_true n4
  have hE:∀ b,t.base=[b]→b=t.base[0]:=fun b h=>by simp only [h,List.getElem_cons_zero]
  have hbm:=hbt _ (List.getElem_mem n5)
  generalize hbb:t.base[0]=b at hb hE hbm
  by_cases k1:b.kind=1
  case neg=>
    rw [tB_f fun h=>k1 (by obtain ⟨b',h1,h2,_⟩:=h.ba;rw [← hE b' h1];exact h2)]
    simp -implicitDefEqProofs [n4,n4',n5,hbb,k1,Ty.v_w,List.length_pos_iff]
  have k1':=eq_true k1
  have e2:∀ K,Call prog 495 ⟨[b.w,.i .i64 1],[],[]⟩ K=K (.b (tB (IntG b)),[],[]):=asx b hbm k1 1 (by omega)
  by_cases ig:IntG b
  case neg=>
    rw [tB_f fun h=>ig (by obtain ⟨b',h1,_,h2,_⟩:=h.ba;rw [← hE b' h1];exact h2)]
    rw [tB_f ig] at e2
    simp -implicitDefEqProofs [n4,n4',n5,hbb,k1',e2,Ty.v_w,List.length_pos_iff]
  rw [tB_t ig] at e2
  have e3:=ahg b ig.toIntF
  generalize hL:lo b.size b.sg=L at e3
  generalize hH:hi b.size b.sg=H at e3
  have hEq:EnumH t ↔ NumU t.nums L H t.nums.length∧1≤t.nums.length∧t.nums.length≤6∧t.names.length=t.nums.length∧DifN t.names:=
    ⟨fun h=>⟨by obtain ⟨b',h1,_,_,h2⟩:=h.ba;rw [← hL,← hH,← hE b' h1];exact h2,h.n1,h.n6,h.nn,h.nd⟩,
     fun h=>⟨⟨b,hb,k1,ig,by rw [hL,hH];exact h.1⟩,h.2.1,h.2.2.1,h.2.2.2.1,h.2.2.2.2⟩⟩
  rw [aaw hEq]
  have hnl':=hnl
  unfold lim at hnl'
  simp -implicitDefEqProofs [n4,n4',n5,hbb,k1',e2,e3,Ty.v_w,List.length_pos_iff]
  refine WL_for (fun i=>⟨sp 81 [(1,.ptr 0 0),(3,.i .i64 L),(4,.i .i64 H),(36,slv t.nb true 1 (t.nums.map (.i .i64))),(37,.i .i64 t.nums.length),(38,.i .i64 i)],[t.k],[]⟩) t.nums.length (fun i=>NumU t.nums L H i) _ (by simp -implicitDefEqProofs) (fun j hj=>absurd hj (by omega)) ?_
  intro i hi hP
  by_cases hlt:i<t.nums.length
  case neg=>
    have:i=t.nums.length:=by omega
    subst this
    have e4:=aat t.nums.length 1 6
    by_cases q1:1≤t.nums.length∧t.nums.length≤6
    case neg=>
      rw [tB_f fun h=>q1 ⟨h.2.1,h.2.2.1⟩]
      rw [inI_f (by omega)] at e4
      simp -implicitDefEqProofs [e4]
    rw [inI_t (by omega)] at e4
    by_cases q2:t.names.length=t.nums.length
    case neg=>
      rw [tB_f fun h=>q2 h.2.2.2.1]
      have q2':((t.names.length:Int)=(t.nums.length:Int))=False:=eq_false (by omega)
      simp -implicitDefEqProofs [e4,q2']
    have q2':((t.names.length:Int)=(t.nums.length:Int))=True:=eq_true (by omega)
    have e5:=fun q K=>ada q t.names hll hs1 K
    have:tB (NumU t.nums L H t.nums.length∧1≤t.nums.length∧t.nums.length≤6∧t.names.length=t.nums.length∧DifN t.names)=tB (DifN t.names):=aaw ⟨fun h=>h.2.2.2.2,fun h=>⟨hP,q1.1,q1.2,q2,h⟩⟩
    rw [this]
    simp -implicitDefEqProofs [e4,q2',e5]
  have hw:=wrap_i64 (n:=(i:Int)+1) (by omega) (by omega)
  have bad:¬ ((L≤t.nums[i]∧t.nums[i]≤H)∧(0<i→t.nums.getD (i - 1) 0<t.nums[i]))→tB (NumU t.nums L H t.nums.length∧1≤t.nums.length∧t.nums.length≤6∧t.names.length=t.nums.length∧DifN t.names)=false:=fun h=>tB_f fun h'=>h (h'.1 i hlt hlt)
  have e5:=aat t.nums[i] L H
  by_cases q2:L≤t.nums[i]∧t.nums[i]≤H
  case neg=>
    rw [bad fun h=>q2 h.1]
    rw [inI_f q2] at e5
    simp -implicitDefEqProofs [hlt,e5]
  rw [inI_t q2] at e5
  rcases Nat.eq_zero_or_pos i with z | z
  · have zf:(0<i)=False:=eq_false (by omega)
    have:NumU t.nums L H (i+1):=fun j hj hjl=>by
      have:j=i:=by omega
      subst this
      exact ⟨q2,fun h=>absurd h (by omega)⟩
    simp -implicitDefEqProofs [hlt,zf,e5,hw,Next]
    exact this
  · have zf:(0<i)=True:=eq_true (by omega)
    have hw1:=wrap_i64 (n:=(i:Int) - 1) (by omega) (by omega)
    have y1:((1:Int)≤(i:Int))=True:=eq_true (by omega)
    have y2:((i:Int) - 1<(t.nums.length:Int))=True:=eq_true (by omega)
    have y3:t.nums[i - 1]?=some t.nums[i - 1]:=List.getElem?_eq_getElem (by omega)
    have g1:t.nums.getD (i - 1) 0=t.nums[i - 1]:=aal (by omega)
    by_cases q3:t.nums[i - 1]<t.nums[i]
    · have z3:(t.nums[i]≤t.nums[i - 1])=False:=eq_false (by omega)
      have:NumU t.nums L H (i+1):=fun j hj hjl=>by
        rcases Nat.lt_succ_iff_lt_or_eq.mp hj with h | h
        · exact hP j h hjl
        · subst h;exact ⟨q2,fun _=>by rw [g1];exact q3⟩
      simp -implicitDefEqProofs [hlt,zf,e5,hw,hw1,y1,y2,y3,z3,Next]
      exact this
    · rw [bad fun h=>q3 (by rw [← g1];exact h.2 z)]
      have z3:(t.nums[i]≤t.nums[i - 1])=True:=eq_true (by omega)
      simp -implicitDefEqProofs [hlt,zf,e5,hw1,y1,y2,y3,z3]
end Go.VS
end
section
namespace Go.VS
set_option maxRecDepth 4000
attribute [-simp] isLeaf okRet ridL V.leaves
def MbU (d:Nat) (l:List Mb) (n:Nat):Prop:=∀ j,j<n→∀ h:j<l.length,Gd d l[j].ty∧endOf l j≤l[j].off∧l[j].off≤24
structure CompH (d:Nat) (t:Ty):Prop where
  s1:1≤t.size
  s2:t.size≤24
  n1:1≤t.ms.length
  n4:t.ms.length≤4
  ms:MbU d t.ms t.ms.length
  en:endOf t.ms t.ms.length≤t.size
  nd:DifN (t.ms.map Mb.name)
theorem MbU.nn {d:Nat} {l:List Mb} {i:Nat} (h:MbU d l i) (hl:i≤l.length):0≤endOf l i:=by
  induction i with
  | zero=>unfold endOf;simp
  | succ i ih=>
    rw [aah (by omega)]
    have h1:=ih (fun j hj=>h j (by omega)) (by omega)
    have h2:=h i (by omega) (by omega)
    have h4:=h2.1.sz
    omega
theorem ak5 (d:Nat) (hd:d≤3) (t:Ty) (hb:t.tot≤lim)
    (hx:∀ m,m ∈ t.ms→∀ K:Out→Prop,Call prog 495 ⟨[m.ty.w,.i .i64 d],[],[]⟩ K=K (.b (tB (Gd d m.ty)),[],[])) (K:Out→Prop):
    Call prog 538 ⟨[t.w,.i .i64 d],[],[]⟩ K=K (.b (tB (CompH d t)),[],[]):=by
  have ht:=t.tot_eq
  have t2:=Mb.tots_eq t.ms
  have hs:∀ s,s ∈ t.ms.map Mb.name→s.length≤lim:=fun s hs=>by
    obtain ⟨m,im,rfl⟩:=List.mem_map.mp hs
    have:=ab7 Mb.tot im;rw [Mb.tot_eq] at this;omega
  clear ht t2
  refine Zc (f:=538) rfl rfl (by decide) ?_
  have e0:=aat t.size 1 24
  by_cases c1:1≤t.size∧t.size≤24
  case neg=>rw [tB_f fun h=>c1 ⟨h.s1,h.s2⟩];rw [inI_f c1] at e0;simp -implicitDefEqProofs [e0]
  rw [inI_t c1] at e0
  have e1:=aat t.ms.length 1 4
  by_cases c2:1≤t.ms.length∧t.ms.length≤4
  case neg=>rw [tB_f fun h=>c2 ⟨h.n1,h.n4⟩];rw [inI_f (by omega)] at e1;simp -implicitDefEqProofs [e0,e1]
  rw [inI_t (by omega)] at e1
  simp -implicitDefEqProofs [e0,e1]
  refine WL_for (fun i=>⟨sp 63 [(1,.i .i64 d),(2,.ptr 0 0),(5,.i .i64 (endOf t.ms i)),(6,.sl 0 0 i false),(21,slv t.nc true 11 (t.ms.map Mb.c)),(22,.i .i64 t.ms.length),(23,.i .i64 i)],[t.k],[.row 1 false (((t.ms.map Mb.name).take i).map V.s)]⟩) t.ms.length (fun i=>MbU d t.ms i) _ (by simp -implicitDefEqProofs [endOf]) (fun j hj=>absurd hj (by omega)) ?_
  intro i hi hP
  by_cases hlt:i<t.ms.length
  case neg=>
    have:i=t.ms.length:=by omega
    subst this
    by_cases q1:endOf t.ms t.ms.length≤t.size
    case neg=>
      rw [tB_f fun h=>q1 h.en]
      simp -implicitDefEqProofs [q1]
    have e2:=fun q K=>ada q (t.ms.map Mb.name) (by rw [List.length_map];unfold lim;omega) hs K
    have:tB (CompH d t)=tB (DifN (t.ms.map Mb.name)):=aaw ⟨fun h=>h.nd,fun h=>⟨c1.1,c1.2,c2.1,c2.2,hP,q1,h⟩⟩
    rw [this]
    rw [List.map_map] at e2
    have htk:(t.ms.map Mb.name).take t.ms.length=t.ms.map Mb.name:=by rw [List.take_of_length_le (by simp)]
    simp -implicitDefEqProofs [q1,e2,htk]
  have hw:=wrap_i64 (n:=(i:Int)+1) (by omega) (by omega)
  have bad:¬ (Gd d t.ms[i].ty∧endOf t.ms i≤t.ms[i].off∧t.ms[i].off≤24)→tB (CompH d t)=false:=fun h=>tB_f fun h'=>h (h'.ms i hlt hlt)
  have hes:=aah hlt
  have e5:=hx t.ms[i] (List.getElem_mem hlt)
  have hnm:(t.ms.map (V.s ∘ Mb.name)).take i++[V.s t.ms[i].name]=(t.ms.map (V.s ∘ Mb.name)).take (i+1):=by
    rw [← List.take_append_getElem (by simpa using hlt)];simp
  have hnb:noBt ((t.ms.map (V.s ∘ Mb.name)).take i)=true:=by
    rw [← List.map_take];exact aeo _ (fun _=>rfl) _
  have hmi:min i t.ms.length=i:=by omega
  generalize hm:t.ms[i]=m at *
  have hE0:=hP.nn hi
  generalize hE:endOf t.ms i=E at *
  by_cases q4:Gd d m.ty
  case neg=>
    rw [bad fun h=>q4 h.1]
    rw [tB_f q4] at e5
    simp -implicitDefEqProofs [hlt,hm,Mb.c_w,e5]
  rw [tB_t q4] at e5
  by_cases q2:E≤m.off
  case neg=>
    rw [bad fun h=>q2 h.2.1]
    have q2':(m.off<E)=True:=eq_true (by omega)
    simp -implicitDefEqProofs [hlt,hm,Mb.c_w,e5,q2']
  have q2':(m.off<E)=False:=eq_false (by omega)
  by_cases q3:m.off≤24
  case neg=>
    rw [bad fun h=>q3 h.2.2]
    have q3':(24<m.off)=True:=eq_true (by omega)
    simp -implicitDefEqProofs [hlt,hm,Mb.c_w,e5,q2',q3']
  have q3':(24<m.off)=False:=eq_false (by omega)
  have e6:=aeg q4
  have hsz:=q4.sz
  have hw2:=wrap_i64 (n:=m.off+m.ty.sz) (by omega) (by omega)
  have c3:i+1≤lim:=by unfold lim;omega
  have:MbU d t.ms (i+1):=fun j hj hjl=>by
    rcases Nat.lt_succ_iff_lt_or_eq.mp hj with h | h
    · exact hP j h hjl
    · subst h;rw [hm];exact ⟨q4,by rw [hE];exact q2,q3⟩
  simp -implicitDefEqProofs [hlt,hm,Mb.c_w,e5,q2',q3',e6,hw,hw2,hes,c3,hnm,hnb,hmi,Next]
  exact ⟨this,by rw [List.take_take,Nat.min_self];exact hnm⟩
theorem atj (d:Nat) (t:Ty) (p:Plain t) (c:t.count=0) (na:t.names=[]) (nu:t.nums=[]) (ba:t.base=[]):
    CompH d t ↔ CompG t∧∀ m,m ∈ t.ms→Gd d m.ty:=by
  constructor
  · intro h
    refine ⟨⟨p,h.s1,h.s2,c,na,nu,ba,h.n1,h.n4,h.en,fun i m hm=>?_⟩,fun m hm=>?_⟩
    · obtain ⟨hi,rfl⟩:=List.getElem?_eq_some_iff.mp hm
      have a:=h.ms i hi hi
      have b:=h.nd i (by simpa using hi)
      simp only [List.getElem_map] at b
      refine ⟨b.1,a.2.1,a.2.2,fun k m' hk hm'=>?_⟩
      obtain ⟨hkl,rfl⟩:=List.getElem?_eq_some_iff.mp hm'
      have:=b.2 k hk
      rw [aal (by simpa using hkl),List.getElem_map] at this
      exact this
    · obtain ⟨i,hi,rfl⟩:=List.getElem_of_mem hm
      exact (h.ms i hi hi).1
  · rintro ⟨h,hg⟩
    refine ⟨h.s1,h.s2,h.n1,h.n4,fun j hj hjl=>?_,h.en,fun i hi=>?_⟩
    · have a:=h.ms j _ (List.getElem?_eq_getElem hjl)
      exact ⟨hg _ (List.getElem_mem hjl),a.lo,a.hi⟩
    · have hi':i<t.ms.length:=by simpa using hi
      have a:=h.ms i _ (List.getElem?_eq_getElem hi')
      rw [List.getElem_map]
      refine ⟨a.nm,fun k hk=>?_⟩
      have hkl:k<t.ms.length:=by omega
      rw [aal (by simpa using hkl),List.getElem_map]
      exact a.df k _ hk (List.getElem?_eq_getElem hkl)
theorem size5 (t:Ty) (k5:t.kind=5) {b:Ty} (hb:t.base=[b]) (c1:1≤t.count) (c4:t.count≤4) {d:Nat} (g:Gd d b) (K:Out→Prop):
    Call prog 498 ⟨[t.w],[],[]⟩ K=K (.i .i64 t.sz,[],[]):=by
  refine Zc (f:=498) rfl rfl (by decide) ?_
  have e:=aeg g
  have hz:=g.sz
  have hm:0≤t.count*b.sz:=Int.mul_nonneg (by omega) (by omega)
  have hm2:t.count*b.sz≤4*24:=Int.mul_le_mul c4 hz.2 (by omega) (by omega)
  have hw:=wrap_i64 (n:=t.count*b.sz) (by omega) (by omega)
  rw [Ty.sz_eq,if_neg (by omega),if_pos k5,hb,Ty.hsz]
  simp -implicitDefEqProofs [k5,hb,Ty.v_w,e,hw]
theorem aqx (d:Nat) (hd:d≤3):∀ (t:Ty) (hb:t.tot≤lim) (K:Out→Prop),Call prog 495 ⟨[t.w,.i .i64 d],[],[]⟩ K=K (.b (tB (Gd d t)),[],[]):=by
  induction d with
  | zero=>
    intro t hb K
    refine Zc (f:=495) rfl rfl (by decide) ?_
    rw [tB_f (show ¬ Gd 0 t from fun h=>h)]
    simp -implicitDefEqProofs
  | succ d ih=>
    intro t hb K
    replace ih:=ih (by omega)
    have ht:=t.tot_eq
    have t2:=Mb.tots_eq t.ms
    have t3:=Ty.tots_eq t.base
    have eM:∀ m,m ∈ t.ms→∀ K:Out→Prop,Call prog 495 ⟨[m.ty.w,.i .i64 d],[],[]⟩ K=K (.b (tB (Gd d m.ty)),[],[]):=
      fun m im K=>ih m.ty (by have:=ab7 Mb.tot im;rw [Mb.tot_eq] at this;omega) K
    have eB:∀ b,b ∈ t.base→∀ K:Out→Prop,Call prog 495 ⟨[b.w,.i .i64 d],[],[]⟩ K=K (.b (tB (Gd d b)),[],[]):=
      fun b ib K=>ih b (by have:=ab7 Ty.tot ib;omega) K
    clear ht t2 t3
    have e1:=ang t
    have e2:=ags t hb t.only (ap2 t)
    have d1:((d:Int)+1<1)=False:=eq_false (by omega)
    have wd:=wrap_i64 (n:=(d:Int)) (by omega) (by omega)
    have ns:¬ SameH t t.only→Call prog 495 ⟨[t.w,.i .i64 ((d+1:Nat):Int)],[],[]⟩ K=K (.b false,[],[]):=fun g=>by
      rw [tB_f g] at e2
      refine Zc (f:=495) rfl rfl (by decide) ?_
      simp -implicitDefEqProofs [d1,e1,e2]
    by_cases g:SameH t t.only
    case neg=>
      rw [ns g,tB_f]
      intro h
      apply g
      rcases h with ⟨k,h⟩ | ⟨k,_,_,p,h⟩ | ⟨k,h⟩ | ⟨k,h,_⟩ | ⟨k,h,b,hb,_⟩ | ⟨k,_,p,h⟩
      · unfold Ty.only;rw [if_pos k];exact ⟨rfl,rfl,rfl,rfl,h.co,h.na,h.nu,List.length_eq_zero_iff.mpr h.ms,List.length_eq_zero_iff.mpr h.ba⟩
      · unfold Ty.only;rw [if_neg (by omega),if_pos (.inl k)];exact ⟨rfl,rfl,p.s,p.b,h.co,h.na,h.nu,List.length_eq_zero_iff.mpr h.ms,List.length_eq_zero_iff.mpr h.ba⟩
      · unfold Ty.only;rw [if_neg (by omega),if_neg (by omega),if_pos k];exact ⟨rfl,h.s,h.p.s,h.p.b,h.c,rfl,rfl,List.length_eq_zero_iff.mpr h.ms,rfl⟩
      · unfold Ty.only;rw [if_neg (by omega),if_neg (by omega),if_neg (by omega),if_pos k];exact ⟨rfl,rfl,h.p.s,h.p.b,h.c,h.na,h.nu,rfl,List.length_eq_zero_iff.mpr h.ba⟩
      · unfold Ty.only;rw [if_neg (by omega),if_neg (by omega),if_neg (by omega),if_neg (by omega),if_pos k];exact ⟨rfl,h.s,h.p.s,h.p.b,rfl,h.na,h.nu,List.length_eq_zero_iff.mpr h.ms,rfl⟩
      · unfold Ty.only;rw [if_neg (by omega),if_pos (.inr k)];exact ⟨rfl,rfl,p.s,p.b,h.co,h.na,h.nu,List.length_eq_zero_iff.mpr h.ms,List.length_eq_zero_iff.mpr h.ba⟩
    clear ns
    rw [tB_t g] at e2
    refine Zc (f:=495) rfl rfl (by decide) ?_
    by_cases k1:t.kind=1
    · have f1:(t.kind=1)=True:=eq_true k1
      have e3:=ake t
      have g':=g
      unfold Ty.only at g';rw [if_pos k1] at g'
      have hb:Bare t:=⟨g'.na,g'.nu,List.length_eq_zero_iff.mp g'.ms,List.length_eq_zero_iff.mp g'.ba,g'.c⟩
      have:tB (Gd (d+1) t)=tB (IntF t):=aaw ⟨fun h=>by rcases h with h | h | h | h | h | h <;> first | exact h.2.toIntF | (have:=h.1;omega),fun h=>.inl ⟨k1,h,hb⟩⟩
      rw [this]
      simp -implicitDefEqProofs [d1,e1,e2,f1,e3]
    have f1:(t.kind=1)=False:=eq_false k1
    by_cases k2:t.kind=2
    · have f2:(t.kind=2)=True:=eq_true k2
      have e3:=aat t.size 1 16
      have g':=g
      unfold Ty.only at g';rw [if_neg k1,if_pos (.inl k2)] at g'
      have hb:Bare t:=⟨g'.na,g'.nu,List.length_eq_zero_iff.mp g'.ms,List.length_eq_zero_iff.mp g'.ba,g'.c⟩
      have:tB (Gd (d+1) t)=inI t.size 1 16:=by
        by_cases q:1≤t.size∧t.size≤16
        · rw [inI_t q];exact tB_t (.inr (.inl ⟨k2,q.1,q.2,⟨g'.g,g'.b⟩,hb⟩))
        · rw [inI_f q];exact tB_f fun h=>q (by rcases h with h | h | h | h | h | h <;> first | exact ⟨h.2.1,h.2.2.1⟩ | (have:=h.1;omega))
      rw [this]
      simp -implicitDefEqProofs [d1,e1,e2,f1,f2,e3]
    have f2:(t.kind=2)=False:=eq_false k2
    by_cases k3:t.kind=3
    · have f3:(t.kind=3)=True:=eq_true k3
      have e3:=an9 t hb
      have g':=g
      unfold Ty.only at g';rw [if_neg k1,if_neg (by omega),if_pos k3] at g'
      have:tB (Gd (d+1) t)=tB (EnumH t):=aaw ⟨fun h=>by
          rcases h with h | h | h | h | h | h <;> first | (have:=h.1;omega) | skip
          exact (amp t h.2.p h.2.s h.2.c h.2.ms).mpr h.2,
        fun h=>.inr (.inr (.inl ⟨k3,(amp t ⟨g'.g,g'.b⟩ g'.s g'.c (List.length_eq_zero_iff.mp g'.ms)).mp h⟩))⟩
      rw [this]
      simp -implicitDefEqProofs [d1,e1,e2,f1,f2,f3,e3]
    have f3:(t.kind=3)=False:=eq_false k3
    by_cases k4:t.kind=4
    · have f4:(t.kind=4)=True:=eq_true k4
      have e3:=ak5 d (by omega) t hb eM
      have g':=g
      unfold Ty.only at g';rw [if_neg k1,if_neg (by omega),if_neg k3,if_pos k4] at g'
      have hi:=atj d t ⟨g'.g,g'.b⟩ g'.c g'.na g'.nu (List.length_eq_zero_iff.mp g'.ba)
      have:tB (Gd (d+1) t)=tB (CompH d t):=aaw ⟨fun h=>by
          rcases h with h | h | h | h | h | h <;> first | (have:=h.1;omega) | skip
          exact hi.mpr h.2,
        fun h=>.inr (.inr (.inr (.inl ⟨k4,hi.mp h⟩)))⟩
      rw [this]
      simp -implicitDefEqProofs [d1,wd,e1,e2,f1,f2,f3,f4,e3]
    have f4:(t.kind=4)=False:=eq_false k4
    by_cases k5:t.kind=5
    · have f5:(t.kind=5)=True:=eq_true k5
      have e3:=aat t.count 1 4
      have g':=g
      unfold Ty.only at g';rw [if_neg k1,if_neg (by omega),if_neg k3,if_neg k4,if_pos k5] at g'
      by_cases q1:1≤t.count∧t.count≤4
      case neg=>
        rw [inI_f q1] at e3
        rw [tB_f fun h=>q1 (by rcases h with h | h | h | h | h | h <;> first | (have:=h.1;omega) | exact ⟨h.2.1.c1,h.2.1.c4⟩)]
        simp -implicitDefEqProofs [d1,e1,e2,f1,f2,f3,f4,f5,e3]
      rw [inI_t q1] at e3
      by_cases n4:t.base.length=1
      case neg=>
        rw [tB_f fun h=>n4 (by
          rcases h with h | h | h | h | h | h <;> first | (have:=h.1;omega) | skip
          obtain ⟨_,_,b,hb,_⟩:=h;rw [hb];rfl)]
        have n4':¬ (t.base.length:Int)=1:=by omega
        simp -implicitDefEqProofs [d1,e1,e2,f1,f2,f3,f4,f5,e3,n4,n4']
      have n5:0<t.base.length:=by omega
      have hbs:=len1 n4 n5
      have n4':((t.base.length:Int)=1)=True:=eq_true (by omega)
      replace n4:=eq_true n4
      have hE:∀ b,t.base=[b]→b=t.base[0]:=fun b h=>by simp only [h,List.getElem_cons_zero]
      have e4:=eB _ (List.getElem_mem n5)
      generalize hbb:t.base[0]=b at *
      by_cases q2:Gd d b
      case neg=>
        rw [tB_f q2] at e4
        rw [tB_f fun h=>q2 (by
          rcases h with h | h | h | h | h | h <;> first | (have:=h.1;omega) | skip
          obtain ⟨_,_,b',hb',hg,_⟩:=h;rw [← hE b' hb'];exact hg)]
        simp -implicitDefEqProofs [d1,wd,e1,e2,f1,f2,f3,f4,f5,e3,n4,n4',n5,hbb,Ty.v_w,e4]
      rw [tB_t q2] at e4
      have e5:=size5 t k5 hbs q1.1 q1.2 q2
      have:tB (Gd (d+1) t)=decide (t.sz≤24):=by
        by_cases q3:t.sz≤24
        · rw [decide_eq_true q3]
          exact tB_t (.inr (.inr (.inr (.inr (.inl ⟨k5,⟨⟨g'.g,g'.b⟩,g'.s,g'.na,g'.nu,List.length_eq_zero_iff.mp g'.ms,q1.1,q1.2⟩,b,hbs,q2,q3⟩)))))
        · rw [decide_eq_false q3]
          exact tB_f fun h=>q3 h.sz.2
      rw [this]
      simp -implicitDefEqProofs [d1,wd,e1,e2,f1,f2,f3,f4,f5,e3,n4,n4',n5,hbb,Ty.v_w,e4,e5]
    have f5:(t.kind=5)=False:=eq_false k5
    by_cases k6:t.kind=6
    · have f6:(t.kind=6)=True:=eq_true k6
      have g':=g
      unfold Ty.only at g';rw [if_neg k1,if_pos (.inr k6)] at g'
      have hb:Bare t:=⟨g'.na,g'.nu,List.length_eq_zero_iff.mp g'.ms,List.length_eq_zero_iff.mp g'.ba,g'.c⟩
      have:tB (Gd (d+1) t)=decide (t.size=2):=by
        by_cases q:t.size=2
        · rw [decide_eq_true q];exact tB_t (.inr (.inr (.inr (.inr (.inr ⟨k6,q,⟨g'.g,g'.b⟩,hb⟩)))))
        · rw [decide_eq_false q];exact tB_f fun h=>q (by rcases h with h | h | h | h | h | h <;> first | exact h.2.1 | (have:=h.1;omega))
      rw [this]
      simp -implicitDefEqProofs [d1,e1,e2,f1,f2,f3,f4,f5,f6]
    · have f6:(t.kind=6)=False:=eq_false k6
      rw [tB_f fun h=>by rcases h with h | h | h | h | h | h <;> first | (exact k1 h.1) | (exact k2 h.1) | (exact k3 h.1) | (exact k4 h.1) | (exact k5 h.1) | (exact k6 h.1)]
      simp -implicitDefEqProofs [d1,e1,e2,f1,f2,f3,f4,f5,f6]
theorem adz (t:Ty) (hb:t.tot≤lim) (K:Out→Prop):Call prog 441 ⟨[t.w],[],[]⟩ K=K (.b (tB (Gd 3 t)),[],[]):=by
  have e1:∀ K,Call prog 495 ⟨[t.w,.i .i64 3],[],[]⟩ K=K (.b (tB (Gd 3 t)),[],[]):=aqx 3 (by omega) t hb
  refine Zc (f:=441) rfl rfl (by decide) ?_
  simp -implicitDefEqProofs [e1]
end Go.VS
end
section
namespace Go.VS
set_option maxRecDepth 4000
attribute [-simp] isLeaf okRet ridL V.leaves
def Ty.zero:Ty:=.mk 0 0 false false true [] true [] true [] true [] 0
def Ty.ref2:Ty:=.mk 1 2 false false true [] true [] true [] true [] 0
def Ty.it (t:Ty):Ty:=if t.kind=1 then t else if t.kind=3 then t.base.headD Ty.zero else if t.kind=6 then Ty.ref2 else Ty.zero
def Ty.isN (t:Ty):Bool:=decide (t.kind=1∨t.kind=3∨t.kind=6)
structure GdN (t:Ty):Prop where
  g:∃ d,Gd d t
  n:t.kind=1∨t.kind=3∨t.kind=6
theorem GdN.en {t:Ty} (h:GdN t) (k:t.kind=3):EnumG t:=by
  obtain ⟨d,g⟩:=h.g
  cases d with
  | zero=>exact g.elim
  | succ d=>rcases g with h | h | h | h | h | h <;> first | exact h.2 | (have:=h.1;omega)
theorem GdN.int {t:Ty} (h:GdN t) (k:t.kind=1):IntG t:=by
  obtain ⟨d,g⟩:=h.g
  cases d with
  | zero=>exact g.elim
  | succ d=>rcases g with h | h | h | h | h | h <;> first | exact h.2 | (have:=h.1;omega)
theorem GdN.ref {t:Ty} (h:GdN t) (k:t.kind=6):t.size=2∧Plain t∧Bare t:=by
  obtain ⟨d,g⟩:=h.g
  cases d with
  | zero=>exact g.elim
  | succ d=>rcases g with h | h | h | h | h | h <;> first | exact h.2 | (have:=h.1;omega)
theorem GdN.it {t:Ty} (h:GdN t):IntF t.it:=by
  unfold Ty.it
  rcases h.n with k | k | k
  · rw [if_pos k];exact (h.int k).toIntF
  · obtain ⟨b,hb,_,ig,_⟩:=(h.en k).ba
    rw [if_neg (by omega),if_pos k,hb];exact ig.toIntF
  · rw [if_neg (by omega),if_neg (by omega),if_pos k]
    exact ⟨.inr (.inl rfl),fun h=>absurd h (by decide),fun h=>absurd h (by decide)⟩
theorem agm (t:Ty) (h3:t.kind=3→∃ b,t.base=[b]) (K:Out→Prop):Call prog 463 ⟨[t.w],[],[]⟩ K=K (.tup [t.it.w,.b t.isN],[],[]):=by
  refine Zc (f:=463) rfl rfl (by decide) ?_
  unfold Ty.it Ty.isN Ty.w
  by_cases k1:t.kind=1
  · simp -implicitDefEqProofs [k1]
  by_cases k3:t.kind=3
  · obtain ⟨b,hb⟩:=h3 k3
    simp -implicitDefEqProofs [k3,hb,Ty.v_w]
  by_cases k6:t.kind=6
  · simp -implicitDefEqProofs [k6,Ty.ref2,afm]
  simp -implicitDefEqProofs [k1,k3,k6,Ty.zero,afm]
theorem GdN.l03 {t:Ty} (h:GdN t) (K:Out→Prop):Call prog 463 ⟨[t.w],[],[]⟩ K=K (.tup [t.it.w,.b true],[],[]):=by
  have:=agm t (fun k=>by obtain ⟨b,hb,_⟩:=(h.en k).ba;exact ⟨b,hb⟩) K
  rw [this]
  have e:t.isN=true:=decide_eq_true h.n
  rw [e]
def Ty.holds (t:Ty) (n:Int):Bool:=if t.kind=3 then decide (n ∈ t.nums) else inI n (lo t.it.size t.it.sg) (hi t.it.size t.it.sg)
theorem aen {t:Ty} (h:GdN t) (n:Int) (K:Out→Prop):Call prog 477 ⟨[t.w,.i .i64 n],[],[]⟩ K=K (.b (t.holds n),[],[]):=by
  refine Zc (f:=477) rfl rfl (by decide) ?_
  unfold Ty.holds
  by_cases k3:t.kind=3
  · have hl:t.nums.length≤lim:=by have:=h.en k3;have h1:=this.n6;have h2:=this.nn;unfold lim;omega
    have e1:=fun q K=>agl q t.nums n hl K
    simp -implicitDefEqProofs [k3,e1]
  · have f3:(t.kind=3)=False:=eq_false k3
    have e1:=h.l03
    have e2:=ac7 t.it h.it
    have e3:=aee n (lo t.it.size t.it.sg) (hi t.it.size t.it.sg)
    simp -implicitDefEqProofs [f3,e1,e2,e3]
theorem afd {t:Ty} (h:GdN t) (n:Int) (K:Out→Prop):Call prog 475 ⟨[t.w,.i .i64 n],[],[]⟩ K=K (.b (t.holds n),[],[]):=by
  refine Zc (f:=475) rfl rfl (by decide) ?_
  unfold Ty.holds
  by_cases k3:t.kind=3
  · have hl:t.nums.length≤lim:=by have:=h.en k3;have h1:=this.n6;have h2:=this.nn;unfold lim;omega
    have e1:=fun q K=>aei q t.nums n hl K
    simp -implicitDefEqProofs [k3,e1]
  have f3:(t.kind=3)=False:=eq_false k3
  rw [if_neg k3]
  unfold Ty.it
  by_cases k1:t.kind=1
  · have f1:(t.kind=1)=True:=eq_true k1
    have e2:=ahg t (h.int k1).toIntF
    have e3:=aat n (lo t.size t.sg) (hi t.size t.sg)
    simp -implicitDefEqProofs [f1,f3,e2,e3]
  · have f1:(t.kind=1)=False:=eq_false k1
    have f6:(t.kind=6)=True:=eq_true (by have:=h.n;omega)
    have e3:=aat n 0 65535
    simp -implicitDefEqProofs [f1,f3,f6,e3,Ty.ref2,lo,hi]
end Go.VS
end
