/-
  Elements converted; the laws of ConvertElement and ConvertBytes.
-/
import Derived.Test.YtmmbgajolgbhnaaGreatDoorD4
set_option linter.all false
section
namespace Go.VS
set_option maxRecDepth 4000
attribute [-simp] isLeaf okRet ridL V.leaves
noncomputable def cv:Nat→Ty→Ty→Bs→Bs × Bool
  | 0,_,_,_=>([],false)
  | d+1,f,t,b=>if f.nmr=true then cvN f t (f.it.num b)
    else if f.kind=2 then cvT t b
    else if f.kind=6 then (b,true)
    else if f.kind=5 then (((f.parts b).map fun x=>(cv d x.1 (t.base.headD Ty.zero) x.2).1).flatten,(f.parts b).all fun x=>(cv d x.1 (t.base.headD Ty.zero) x.2).2)
    else (lay t.size.toNat 0 (itm (fun m=>(match f.mem m.name with
        | none=>(Zr d m.ty,true)
        | some y=>cv d y.ty m.ty (sl b y.off (y.off+y.ty.sz))).1) t.ms),t.ms.all fun m=>(match f.mem m.name with
        | none=>(Zr d m.ty,true)
        | some y=>cv d y.ty m.ty (sl b y.off (y.off+y.ty.sz))).2)
noncomputable def cvM (d:Nat) (f:Ty) (b:Bs) (m:Mb):Bs × Bool:=match f.mem m.name with
  | none=>(Zr d m.ty,true)
  | some y=>cv d y.ty m.ty (sl b y.off (y.off+y.ty.sz))
theorem amm {d:Nat} {f t:Ty} {b:Bs} (h1:¬ f.nmr=true) (h2:f.kind≠2) (h6:f.kind≠6) (h5:f.kind≠5):
    cv (d+1) f t b=(lay t.size.toNat 0 (itm (fun m=>(cvM d f b m).1) t.ms),t.ms.all fun m=>(cvM d f b m).2):=by
  rw [cv,if_neg h1,if_neg h2,if_neg h6,if_neg h5];rfl
theorem cv_arr {d:Nat} {f t:Ty} {b:Bs} (h5:f.kind=5):
    cv (d+1) f t b=(((f.parts b).map fun x=>(cv d x.1 (t.base.headD Ty.zero) x.2).1).flatten,(f.parts b).all fun x=>(cv d x.1 (t.base.headD Ty.zero) x.2).2):=by
  have:¬ f.nmr=true:=by unfold Ty.nmr;simp;omega
  rw [cv,if_neg this,if_neg (by omega),if_neg (by omega),if_pos h5]
theorem Can.kinds {d:Nat} {f t:Ty} (h:Can (d+1) f t=true):(f.nmr=true∧t.nmr=true)∨(f.nmr=false∧t.nmr=false∧f.kind=t.kind):=by
  rw [Can] at h
  by_cases c:f.nmr=true∨t.nmr=true
  · rw [if_pos c] at h
    left;simpa using h
  · rw [if_neg c] at h
    right
    refine ⟨by cases q:f.nmr;rfl;exact absurd (.inl q) c,by cases q:t.nmr;rfl;exact absurd (.inr q) c,?_⟩
    by_cases k:f.kind=t.kind
    · exact k
    · rw [if_pos k] at h;cases h
theorem Can.arr {d:Nat} {f t:Ty} (h:Can (d+1) f t=true) (k:f.kind=5):f.count=t.count∧Can d (f.base.headD Ty.zero) (t.base.headD Ty.zero)=true:=by
  have hn:¬ f.nmr=true:=by unfold Ty.nmr;simp;omega
  rcases (Can.kinds h) with q | ⟨q1,q2,q3⟩
  · exact absurd q.1 hn
  rw [Can,if_neg (by rw [q1,q2];simp),if_neg (fun h=>h q3),if_pos k] at h
  simpa using h
theorem Can.comp {d:Nat} {f t:Ty} (h:Can (d+1) f t=true) (k:f.kind=4):∀ m,m ∈ t.ms→∀ y,f.mem m.name=some y→Can d y.ty m.ty=true:=by
  have hn:¬ f.nmr=true:=by unfold Ty.nmr;simp;omega
  rcases (Can.kinds h) with q | ⟨q1,q2,q3⟩
  · exact absurd q.1 hn
  rw [Can,if_neg (by rw [q1,q2];simp),if_neg (fun h=>h q3),if_neg (by omega),Can_ms,List.all_eq_true] at h
  intro m hm y hy
  have:=h m hm
  unfold CanM at this
  rwa [hy] at this
theorem nmr_n {t:Ty} (h:t.nmr=true):t.kind=1∨t.kind=3:=by unfold Ty.nmr at h;simpa using h
theorem it_sz {d:Nat} {t:Ty} (g:Gd (d+1) t) (h:t.nmr=true):t.it.size=t.sz:=by
  rcases nmr_n h with k | k
  · rw [sz0 (by omega) (by omega)];unfold Ty.it;rw [if_pos k]
  · obtain ⟨c,hc,_⟩:=(g.enum k).ba
    rw [it3 k hc,sz3 k hc]
theorem Ok.mb {d:Nat} {t:Ty} {b:Bs} (h:Ok (d+1) t b) (k:t.kind=4):∀ m,m ∈ t.ms→Ok d m.ty (sl b m.off (m.off+m.ty.sz)):=by
  intro m hm
  obtain ⟨i,hi,rfl⟩:=List.getElem_of_mem hm
  exact (h.2.2.2.1 k i (Nat.le_of_lt hi)).2 hi
theorem parts5 {d:Nat} {t:Ty} (g:Gd (d+1) t) (k:t.kind=5) (b:Bs):∃ c n,t.base=[c]∧Gd d c∧t.count=(n:Nat)∧1≤n∧n≤4∧t.base.headD Ty.zero=c∧t.sz=n*c.sz ∧
    t.parts b=(List.range n).map fun k:Nat=>(c,sl b (k*c.sz) (((k:Int)+1)*c.sz)):=by
  obtain ⟨ag,c,hc,gc,_⟩:=g.arr k
  have c1:=ag.c1
  have c4:=ag.c4
  refine ⟨c,t.count.toNat,hc,gc,by omega,by omega,by omega,by rw [hc];rfl,by rw [sz5 k hc];congr 1;omega,?_⟩
  unfold Ty.parts;rw [if_neg (by omega),if_pos k,hc];rfl
theorem Ok.pt {d:Nat} {t:Ty} {b:Bs} (g:Gd (d+1) t) (h:Ok (d+1) t b) (k:t.kind=5):∀ x,x ∈ t.parts b→x.1=t.base.headD Ty.zero∧Gd d x.1∧Ok d x.1 x.2:=by
  obtain ⟨c,n,hc,gc,hn,n1,n4,hh,_,hp⟩:=parts5 g k b
  intro x hx
  rw [hp] at hx
  obtain ⟨j,hj,rfl⟩:=List.mem_map.mp hx
  refine ⟨hh.symm,gc,h.2.2.2.2 k c (by rw [hc];simp) j ?_⟩
  have:=List.mem_range.mp hj
  omega
theorem afa {α:Type} (g:α→Bs) (z:Nat):∀ l:List α,(∀ x,x ∈ l→(g x).length=z)→((l.map g).flatten).length=l.length*z
  | [],_=>by simp
  | x :: l,h=>by
    rw [List.map_cons,List.flatten_cons,List.length_append,afa g z l fun y hy=>h y (by simp [hy]),h x (by simp),List.length_cons,Nat.succ_mul,Nat.add_comm]
theorem cv_len:∀ {d:Nat} {f t:Ty} {b:Bs} (_:Gd d f) (_:Gd d t) (_:Can d f t=true) (_:Ok d f b),(cv d f t b).1.length=t.sz.toNat
  | 0,_,_,_,g,_,_,_=>g.elim
  | d+1,f,t,b,gf,gt,hc,ho=>by
    have hkf:=gf.kind
    rcases (Can.kinds hc) with ⟨q1,q2⟩ | ⟨q1,q2,q3⟩
    · rw [cv,if_pos q1]
      unfold cvN
      have:=it_sz gt q2
      (repeat' split) <;> (rw [aq9,this])
    have hn:¬ f.nmr=true:=by rw [q1];simp
    by_cases k2:f.kind=2
    · rw [cv,if_neg hn,if_pos k2]
      have s:=gt.txt (by omega)
      rw [sz0 (t:=t) (by omega) (by omega)]
      unfold cvT
      split
      · simp;omega
      · simp;omega
    by_cases k6:f.kind=6
    · rw [cv,if_neg hn,if_neg k2,if_pos k6]
      have h1:=ho.1
      rw [sz0 (t:=f) (by omega) (by omega),((gf.n (.inr (.inr k6))).ref k6).1] at h1
      rw [sz0 (t:=t) (by omega) (by omega),((gt.n (.inr (.inr (by omega)))).ref (by omega)).1]
      show b.length=_
      omega
    by_cases k5:f.kind=5
    · rw [cv_arr k5]
      obtain ⟨c1,c2⟩:=Can.arr hc k5
      obtain ⟨c,n,hb,gc,hn,n1,n4,hh,hs,hp⟩:=parts5 gf k5 b
      obtain ⟨c',n',hb',gc',hn',n1',n4',hh',hs',_⟩:=parts5 gt (by omega) b
      rw [hh,hh'] at c2
      have:=afa (fun x:Ty × Bs=>(cv d x.1 (t.base.headD Ty.zero) x.2).1) c'.sz.toNat (f.parts b) (fun x hx=>by
        obtain ⟨e1,e2,e3⟩:=ho.pt gf k5 x hx
        rw [hh'] 
        refine cv_len e2 gc' ?_ e3
        rw [e1,hh];exact c2)
      show List.length ((List.map _ _).flatten)=_
      rw [this,hp]
      have e:n=n':=by omega
      subst e
      have:=gc'.sz
      rw [hs',List.length_map,List.length_range,Int.toNat_mul (by omega) (by omega),Int.toNat_natCast]
    have k4:f.kind=4:=by
      have:f.kind≠1∧f.kind≠3:=by unfold Ty.nmr at q1;simp at q1;exact q1
      omega
    rw [amm hn k2 k6 k5,sz4 (t:=t) (by omega)]
    refine aqg (gt.lay (by omega)) fun m hm=>?_
    unfold cvM
    cases h:f.mem m.name with
    | none=>exact Zr_len (gt.mss m hm)
    | some y=>exact cv_len (gf.mss y (mem_in h)) (gt.mss m hm) (Can.comp hc k4 m hm y h) (ho.mb k4 y (mem_in h))
def CvS (d:Nat) (f t:Ty) (b:Bs) (cl:Bool):Prop:=
  ∃ out,(((cv d f t b).2 || cl)=true→out=(cv d f t b).1)∧∀ K:Out→Prop,Call prog 438 ⟨[f.w,t.w,.s b,.b cl],[],[]⟩ K=K (.tup [.s out,.b ((cv d f t b).2 || cl)],[],[])
end Go.VS
end
section
namespace Go.VS
set_option maxRecDepth 4000
attribute [-simp] isLeaf okRet ridL V.leaves
theorem Gd.le24 {d:Nat} {t:Ty} {b:Bs} (g:Gd d t) (h:Ok d t b):b.length≤24:=by
  cases d with
  | zero=>exact g.elim
  | succ d=>have:=g.sz;have:=h.1;omega
theorem acj:∀ (d:Nat) {f t:Ty} {b:Bs} (cl:Bool) (_:Gd d f) (_:Gd d t) (_:Can d f t=true) (_:Ok d f b),CvS d f t b cl
  | 0,_,_,_,_,g,_,_,_=>g.elim
  | d+1,f,t,b,cl,gf,gt,hc,ho=>by
    have ih:=fun {f t:Ty} {b:Bs} (gf:Gd d f) (gt:Gd d t) (hc:Can d f t=true) (ho:Ok d f b)=>acj d cl gf gt hc ho
    have hkf:=gf.kind
    have hl:=gf.le24 ho
    have hl':b.length≤lim:=by unfold lim;omega
    have e1:=ack f
    have q0:decide (f.kind=1∨f.kind=3)=f.nmr:=rfl
    rw [q0] at e1
    unfold CvS
    rcases (Can.kinds hc) with ⟨q1,q2⟩ | ⟨q1,q2,q3⟩
    · rw [cv,if_pos q1]
      refine ⟨_,fun _=>rfl,fun K=>?_⟩
      refine Zc (f:=438) rfl rfl (by decide) ?_
      have nf:=gf.n (by have:=nmr_n q1;omega)
      have nt:=gt.n (by have:=nmr_n q2;omega)
      have e2:=ajb nf nt b cl (by have:=it_sz gf q1;have:=ho.1;omega) (fun k=>ho.2.2.1 k)
      rw [q1] at e1
      simp -implicitDefEqProofs [e1,e2]
    have hn:¬ f.nmr=true:=by rw [q1];simp
    rw [q1] at e1
    by_cases k2:f.kind=2
    · rw [cv,if_neg hn,if_pos k2]
      refine ⟨_,fun _=>rfl,fun K=>?_⟩
      refine Zc (f:=438) rfl rfl (by decide) ?_
      have s:=gt.txt (by omega)
      have e2:=alr t s.1 s.2.1 b cl hl' (ho.2.1 k2)
      have f2:=eq_true k2
      simp -implicitDefEqProofs [e1,f2,e2]
    have f2:=eq_false k2
    by_cases k6:f.kind=6
    · rw [cv,if_neg hn,if_neg k2,if_pos k6]
      refine ⟨_,fun _=>rfl,fun K=>?_⟩
      refine Zc (f:=438) rfl rfl (by decide) ?_
      have f6:=eq_true k6
      simp -implicitDefEqProofs [e1,f2,f6]
    have f6:=eq_false k6
    by_cases k5:f.kind=5
    · obtain ⟨cc,c2⟩:=Can.arr hc k5
      obtain ⟨c,n,hb,gc,hn',n1,n4,hh,hs,hp⟩:=parts5 gf k5 b
      obtain ⟨c',n',hb',gc',_,_,_,hh',hs',_⟩:=parts5 gt (by omega) b
      obtain ⟨a1,a2⟩:=base0 hb
      obtain ⟨b1,b2⟩:=base0 hb'
      rw [hh,hh'] at c2
      rw [cv_arr k5,hh',hp]
      have f5:=eq_true k5
      have e2:=aar gc
      have hcs:=gc.sz
      have hcs':=gc'.sz
      have hbl:=ho.1
      rw [hs] at hbl
      obtain ⟨z,hz⟩:∃ z:Nat,c.sz=z:=⟨c.sz.toNat,by omega⟩
      have bl:b.length=n*z:=by rw [hz] at hbl;exact_mod_cast hbl
      let G:Nat→Bs × Bool:=fun k:Nat=>cv d c c' (sl b (k*c.sz) (((k:Int)+1)*c.sz))
      have hG:∀ k,G k=cv d c c' (sl b (k*c.sz) (((k:Int)+1)*c.sz)):=fun _=>rfl
      have hm1:(List.map (fun x:Ty × Bs=>(cv d x.1 c' x.2).1) (List.map (fun k:Nat=>(c,sl b (↑k*c.sz) ((↑k+1)*c.sz))) (List.range n)))=(List.range n).map fun k=>(G k).1:=by rw [List.map_map];rfl
      have hm2:(List.map (fun k:Nat=>(c,sl b (↑k*c.sz) ((↑k+1)*c.sz))) (List.range n)).all (fun x:Ty × Bs=>(cv d x.1 c' x.2).2)=(List.range n).all fun k=>(G k).2:=by rw [List.all_map];rfl
      rw [hm1,hm2]
      have hok:∀ k,k<n→Ok d c (sl b (k*c.sz) (((k:Int)+1)*c.sz)):=fun k hk=>ho.2.2.2.2 k5 c (by rw [hb];simp) k (by omega)
      have hstep:∀ k,k<n→∃ out,(((G k).2 || cl)=true→out=(G k).1)∧∀ K:Out→Prop,Call prog 438 ⟨[c.w,c'.w,.s (sl b (k*c.sz) (((k:Int)+1)*c.sz)),.b cl],[],[]⟩ K=K (.tup [.s out,.b ((G k).2 || cl)],[],[]):=
        fun k hk=>ih gc gc' c2 (hok k hk)
      have hlen:∀ k,k<n→(G k).1.length=c'.sz.toNat:=fun k hk=>cv_len gc gc' c2 (hok k hk)
      clear_value G
      by_cases hall:((List.range n).all fun k=>(G k).2)=true∨cl=true
      · have hA:(((List.range n).all fun k=>(G k).2) || cl)=true:=by simpa using hall
        have hEach:∀ k,k<n→((G k).2 || cl)=true:=fun k hk=>by
          rcases hall with h | h
          · have:(G k).2=true:=List.all_eq_true.mp h k (List.mem_range.mpr hk)
            rw [this];rfl
          · rw [h];simp
        refine ⟨_,fun _=>rfl,fun K=>?_⟩
        simp only
        rw [hA]
        refine Zc (f:=438) rfl rfl (by decide) ?_
        simp -implicitDefEqProofs [e1,f2,f6,f5,a1,a2,Ty.v_w,e2]
        refine WL_for (fun i=>⟨sp 157 [(2,.s b),(3,.b cl),(4,.ptr 0 0),(5,.ptr 1 0),(10,.s ((List.range i).map fun k=>(G k).1).flatten),(11,.i .i64 c.sz),(12,.i .i64 i)],[f.k,t.k],[]⟩) n (fun _=>True) _ (by simp -implicitDefEqProofs) trivial ?_
        intro i hi _
        by_cases hlt:i<n
        · have h1:((i:Int)<f.count)=True:=eq_true (by omega)
          have hw:=wrap_i64 (n:=(i:Int)+1) (by omega) (by omega)
          have m1:(i+1)*z≤n*z:=Nat.mul_le_mul_right _ hlt
          have m2:(i+1)*z=i*z+z:=Nat.succ_mul i z
          have i1:(i:Int)*c.sz=((i*z:Nat):Int):=by rw [hz];push_cast;rfl
          have i2:((i:Int)+1)*c.sz=(((i+1)*z:Nat):Int):=by rw [hz];push_cast;rfl
          have w1:=wrap_i64 (n:=(i:Int)*c.sz) (by omega) (by omega)
          have w2:=wrap_i64 (n:=((i:Int)+1)*c.sz) (by omega) (by omega)
          have hB:=bndsI (n:=b.length) (lo:=(i:Int)*c.sz) (hi:=((i:Int)+1)*c.sz) (by omega)
          obtain ⟨out,ho1,ho2⟩:=hstep i hlt
          have hE:=hEach i hlt
          rw [hE] at ho2
          rw [ho1 hE] at ho2
          have hfl:=afa (fun k=>(G k).1) c'.sz.toNat (List.range i) (fun k hk=>hlen k (by have:=List.mem_range.mp hk;omega))
          rw [List.length_range] at hfl
          have hgl:=hlen i hlt
          have hm:i*c'.sz.toNat≤4*24:=Nat.mul_le_mul (by omega) (by omega)
          have hsn:((List.range (i+1)).map fun k=>(G k).1).flatten=((List.range i).map fun k=>(G k).1).flatten++(G i).1:=by
            rw [List.range_succ,List.map_append,List.flatten_append];simp
          generalize ((List.range i).map fun k=>(G k).1).flatten=O at *
          have c3:O.length+(G i).1.length≤lim:=by unfold lim;omega
          simp -implicitDefEqProofs [h1,hlt,a1,a2,b1,b2,Ty.v_w,hw,w1,w2,hB,ho2,c3,hsn,Next]
        · obtain rfl:i=n:=by omega
          have h1:((i:Int)<f.count)=False:=eq_false (by omega)
          simp -implicitDefEqProofs [h1]
      · have hcl:cl=false:=by cases cl;rfl;exact absurd (.inr rfl) hall
        have hA:((List.range n).all fun k=>(G k).2)=false:=by cases h:(List.range n).all fun k=>(G k).2;rfl;exact absurd (.inl h) hall
        refine ⟨[],fun h=>(by rw [hcl] at h;rw [show ((List.range n).all fun k=>(G k).2)=false from hA] at h;cases h),fun K=>?_⟩
        simp only
        rw [hA,hcl]
        subst hcl
        refine Zc (f:=438) rfl rfl (by decide) ?_
        simp -implicitDefEqProofs [e1,f2,f6,f5,a1,a2,Ty.v_w,e2]
        refine WL_for (fun i=>⟨sp 157 [(2,.s b),(3,.b false),(4,.ptr 0 0),(5,.ptr 1 0),(10,.s ((List.range i).map fun k=>(G k).1).flatten),(11,.i .i64 c.sz),(12,.i .i64 i)],[f.k,t.k],[]⟩) n (fun i=>∀ k,k<i→(G k).2=true) _ (by simp -implicitDefEqProofs) (fun k hk=>by omega) ?_
        intro i hi hP
        by_cases hlt:i<n
        · have h1:((i:Int)<f.count)=True:=eq_true (by omega)
          have hw:=wrap_i64 (n:=(i:Int)+1) (by omega) (by omega)
          have m1:(i+1)*z≤n*z:=Nat.mul_le_mul_right _ hlt
          have m2:(i+1)*z=i*z+z:=Nat.succ_mul i z
          have i1:(i:Int)*c.sz=((i*z:Nat):Int):=by rw [hz];push_cast;rfl
          have i2:((i:Int)+1)*c.sz=(((i+1)*z:Nat):Int):=by rw [hz];push_cast;rfl
          have w1:=wrap_i64 (n:=(i:Int)*c.sz) (by omega) (by omega)
          have w2:=wrap_i64 (n:=((i:Int)+1)*c.sz) (by omega) (by omega)
          have hB:=bndsI (n:=b.length) (lo:=(i:Int)*c.sz) (hi:=((i:Int)+1)*c.sz) (by omega)
          obtain ⟨out,ho1,ho2⟩:=hstep i hlt
          cases hE:(G i).2
          · rw [hE] at ho2
            simp only [Bool.or_false] at ho2
            simp -implicitDefEqProofs [h1,hlt,a1,a2,b1,b2,Ty.v_w,hw,w1,w2,hB,ho2,Next]
          · rw [hE] at ho2 ho1
            rw [ho1 rfl] at ho2
            simp only [Bool.or_false] at ho2
            have hfl:=afa (fun k=>(G k).1) c'.sz.toNat (List.range i) (fun k hk=>hlen k (by have:=List.mem_range.mp hk;omega))
            rw [List.length_range] at hfl
            have hgl:=hlen i hlt
            have hm:i*c'.sz.toNat≤4*24:=Nat.mul_le_mul (by omega) (by omega)
            have hsn:((List.range (i+1)).map fun k=>(G k).1).flatten=((List.range i).map fun k=>(G k).1).flatten++(G i).1:=by
              rw [List.range_succ,List.map_append,List.flatten_append];simp
            generalize ((List.range i).map fun k=>(G k).1).flatten=O at *
            have c3:O.length+(G i).1.length≤lim:=by unfold lim;omega
            simp -implicitDefEqProofs [h1,hlt,a1,a2,b1,b2,Ty.v_w,hw,w1,w2,hB,ho2,c3,hsn,Next]
            intro k hk
            by_cases e:k<i
            · exact hP k e
            · obtain rfl:k=i:=by omega
              exact hE
        · exfalso
          have:((List.range n).all fun k=>(G k).2)=true:=List.all_eq_true.mpr fun k hk=>hP k (by have:=List.mem_range.mp hk;omega)
          rw [this] at hA;cases hA
    have k4:f.kind=4:=by
      have:f.kind≠1∧f.kind≠3:=by unfold Ty.nmr at q1;simp at q1;exact q1
      omega
    have f4:=eq_true k4
    have f5:=eq_false k5
    have t4:t.kind=4:=by omega
    rw [amm hn k2 k6 k5]
    have gm:=gt.mss
    have gy:=gf.mss
    have Lf:=gf.lay k4
    have Lt:=gt.lay t4
    have fn4:=gf.msl
    have tn4:=gt.msl
    have tsz:=gt.sz
    have fsz:=gf.sz
    rw [sz4 t4] at tsz
    rw [sz4 k4] at fsz
    have hbl:=ho.1
    rw [sz4 k4] at hbl
    have hf:∀ m,m ∈ t.ms→((fun m=>(cvM d f b m).1) m).length=m.ty.sz.toNat:=fun m hm=>by
      show ((cvM d f b m).1).length=_
      unfold cvM
      cases h:f.mem m.name with
      | none=>exact Zr_len (gm m hm)
      | some y=>exact cv_len (gy y (mem_in h)) (gm m hm) (Can.comp hc k4 m hm y h) (ho.mb k4 y (mem_in h))
    have hst:∀ m,m ∈ t.ms→∀ y,f.mem m.name=some y→∃ out,(((cvM d f b m).2 || cl)=true→out=(cvM d f b m).1) ∧
        ∀ K:Out→Prop,Call prog 438 ⟨[y.ty.w,m.ty.w,.s (sl b y.off (y.off+y.ty.sz)),.b cl],[],[]⟩ K=K (.tup [.s out,.b ((cvM d f b m).2 || cl)],[],[]):=fun m hm y hy=>by
      have:=ih (gy y (mem_in hy)) (gm m hm) (Can.comp hc k4 m hm y hy) (ho.mb k4 y (mem_in hy))
      unfold CvS at this
      unfold cvM
      rw [hy]
      exact this
    have hno:∀ m,f.mem m.name=none→cvM d f b m=(Zr d m.ty,true):=fun m h=>by unfold cvM;rw [h]
    generalize hG:cvM d f b=G at *
    obtain ⟨F,hF⟩:∃ F,((t.ms.all fun m=>(G m).2) || cl)=F:=⟨_,rfl⟩
    refine ⟨if F=true then lay t.size.toNat 0 (itm (fun m=>(G m).1) t.ms) else [],fun h=>by rw [show ((t.ms.all fun m=>(G m).2) || cl)=true from h] at hF;rw [if_pos hF.symm],fun K=>?_⟩
    simp only
    rw [hF]
    have hFf:∀ m,m ∈ t.ms→((G m).2 || cl)=false→F=false:=fun m hm h=>by
      rw [← hF]
      simp only [Bool.or_eq_false_iff] at h ⊢
      exact ⟨by rw [List.all_eq_false];exact ⟨m,hm,by rw [h.1];simp⟩,h.2⟩
    refine Zc (f:=438) rfl rfl (by decide) ?_
    simp -implicitDefEqProofs [e1,f2,f4,f5,f6]
    refine WL_for (fun i=>⟨sp 157 [(2,.s b),(3,.b cl),(4,.ptr 0 0),(5,.ptr 1 0),(15,.s (outI (fun m=>(G m).1) [] (t.ms.take i))),(16,.i .i64 i)],[f.k,t.k],[]⟩) t.ms.length
      (fun i=>∀ k (_:k<i) (h:k<t.ms.length),((G t.ms[k]).2 || cl)=true) _ (by simp -implicitDefEqProofs [outI]) (fun k hk=>by omega) ?_
    intro i hi hP
    have hol:=akh Lt hf i hi
    have h0:=Lt.nn hi
    have hle:=Lt.le hi
    by_cases hlt:i<t.ms.length
    · have hw:=wrap_i64 (n:=(i:Int)+1) (by omega) (by omega)
      have hmem:=List.getElem_mem hlt
      have gz:=gm _ hmem
      have hsz:=gz.sz
      have h1:=Lt.lo i hlt
      have hle2:=Lt.le (i:=i+1) hlt
      rw [aah hlt] at hle2
      have e2:=ahp d gz
      have e3:=afy f t.ms[i].name (by unfold lim;omega)
      have hnm:(t.ms.take (i+1))=t.ms.take i++[t.ms[i]]:=(List.take_append_getElem hlt).symm
      have hos:=ag1 (fun m=>(G m).1) (t.ms.take i) [] t.ms[i]
      rw [← hnm] at hos
      have hfm:(G t.ms[i]).1.length=t.ms[i].ty.sz.toNat:=hf _ hmem
      have hnx:((G t.ms[i]).2 || cl)=true→∀ k (_:k<i+1) (h:k<t.ms.length),((G t.ms[k]).2 || cl)=true:=fun h k hk hl=>by
        by_cases e:k<i
        · exact hP k e hl
        · obtain rfl:k=i:=by omega
          exact h
      generalize hm:t.ms[i]=m at *
      generalize hO:outI (fun m=>(G m).1) [] (t.ms.take i)=O at *
      have hw2:=wrap_i64 (n:=m.off - (O.length:Int)) (by omega) (by omega)
      have e4:=aa5 (m.off.toNat - O.length) (by unfold lim;omega)
      rw [show ((m.off.toNat - O.length:Nat):Int)=m.off - O.length by omega] at e4
      have c1:(m.off.toNat - O.length)+(G m).1.length≤lim:=by unfold lim;omega
      have c2:O.length+((m.off.toNat - O.length)+(G m).1.length)≤lim:=by unfold lim;omega
      rcases ais f m.name with ⟨p1,p2⟩ | ⟨j,hj,p1,p2⟩
      · rw [p1] at e3
        have hgm:=hno m p2
        rw [hgm] at c1 c2 hos hnx
        simp only at c1 c2 hos
        simp -implicitDefEqProofs [hlt,hm,Mb.c_w,hw,hw2,e2,e3,e4,c1,c2,hos,Next]
        exact fun k hk h=>by have:=hnx rfl k hk h;simpa using this
      · rw [p1] at e3
        have c0:(0≤(j:Int))=True:=eq_true (by omega)
        obtain ⟨out,ho1,ho2⟩:=hst m hmem _ p2
        have gyy:=gy _ (List.getElem_mem hj)
        have ys:=gyy.sz
        have y1:=Lf.lo j hj
        have y0:=Lf.nn (Nat.le_of_lt hj)
        have y2:=Lf.le (i:=j+1) hj
        rw [aah hj] at y2
        have e5:=aar gyy
        generalize hy:f.ms[j]=y at *
        have wy:=wrap_i64 (n:=y.off+y.ty.sz) (by omega) (by omega)
        have hB:=bndsI (n:=b.length) (lo:=y.off) (hi:=y.off+y.ty.sz) (by omega)
        cases hE:((G m).2 || cl)
        · rw [hE] at ho2
          rw [hFf m hmem hE]
          simp -implicitDefEqProofs [hlt,hj,hm,hy,Mb.c_w,hw,hw2,e2,e3,e4,e5,c0,wy,hB,ho2,Next]
        · rw [hE] at ho2
          rw [ho1 hE] at ho2
          simp -implicitDefEqProofs [hlt,hj,hm,hy,Mb.c_w,hw,hw2,e2,e3,e4,e5,c0,wy,hB,ho2,c1,c2,hos,Next]
          exact fun k hk h=>by have:=hnx hE k hk h;simpa using this
    · obtain rfl:i=t.ms.length:=by omega
      have hFt:F=true:=by
        rw [← hF]
        cases cl
        · rw [Bool.or_false,List.all_eq_true]
          intro m hm
          obtain ⟨k,hk,rfl⟩:=List.getElem_of_mem hm
          simpa using hP k hk hk
        · simp
      rw [hFt]
      have ha:=aon Lt hf
      rw [List.take_length] at hol ⊢
      generalize hO:outI (fun m=>(G m).1) [] t.ms=O at *
      have hw2:=wrap_i64 (n:=t.size - (O.length:Int)) (by omega) (by omega)
      have e4:=aa5 (t.size.toNat - O.length) (by unfold lim;omega)
      rw [show ((t.size.toNat - O.length:Nat):Int)=t.size - O.length by omega] at e4
      have c2:O.length+(t.size.toNat - O.length)≤lim:=by unfold lim;omega
      simp -implicitDefEqProofs [hw2,e4,c2,ha]
end Go.VS
end
section
namespace Go.VS
set_option maxRecDepth 4000
attribute [-simp] isLeaf okRet ridL V.leaves
theorem fl_and (a b cl fd:Bool):fl b cl (fl a cl fd)=fl (a && b) cl fd:=by
  cases a <;> cases b <;> cases cl <;> cases fd <;> rfl
theorem aqq {f g:Mb→Bs} {l:List Mb} {i:Nat} (hi:i<l.length) (h:f l[i]=g l[i]):mixM f g l (i+1)=mixM f g l i:=by
  rw [← aoh f g hi]
  obtain ⟨h1,h2⟩:=aog f g hi
  rw [h,← h2,List.set_getElem_self]
def advB (i:Nat):V:=if i=0 then .bz else .ptr 3 0
theorem ahh:∀ (d:Nat) {f t:Ty} {b:Bs} (cl:Bool) (_:Gd d f) (_:Gd d t) (_:Can d f t=true) (_:Ok d f b) (fd:Bool) (K:Out→Prop),
    Call prog 496 ⟨[.ptr 0 0,f.w,t.w,.s b],[[.b cl,.b fd]],[]⟩ K=K (.s (cv d f t b).1,[[.b cl,.b (fl (cv d f t b).2 cl fd)]],[])
  | 0,_,_,_,_,g,_,_,_,_,_=>g.elim
  | d+1,f,t,b,cl,gf,gt,hc,ho,fd,K=>by
    have ih:=fun {f t:Ty} {b:Bs} (gf:Gd d f) (gt:Gd d t) (hc:Can d f t=true) (ho:Ok d f b)=>ahh d cl gf gt hc ho
    have hkf:=gf.kind
    have hl:=gf.le24 ho
    have hl':b.length≤lim:=by unfold lim;omega
    have e1:=ac2 f
    have q0:decide (f.kind=1∨f.kind=3)=f.nmr:=rfl
    rw [q0] at e1
    refine Zc (f:=496) rfl rfl (by decide) ?_
    rcases (Can.kinds hc) with ⟨q1,q2⟩ | ⟨q1,q2,q3⟩
    · rw [cv,if_pos q1]
      have nf:=gf.n (by have:=nmr_n q1;omega)
      have nt:=gt.n (by have:=nmr_n q2;omega)
      have e2:=aiw nf b (by have:=it_sz gf q1;have:=ho.1;omega)
      have e3:=akz nf nt (f.it.num b) cl fd (fun k=>ho.2.2.1 k)
      rw [q1] at e1
      simp -implicitDefEqProofs [e1,e2,e3]
    have hn:¬ f.nmr=true:=by rw [q1];simp
    rw [q1] at e1
    by_cases k2:f.kind=2
    · rw [cv,if_neg hn,if_pos k2]
      have s:=gt.txt (by omega)
      have e2:=ao2 t s.1 s.2.1 b cl fd hl'
      have f2:=eq_true k2
      simp -implicitDefEqProofs [e1,f2,e2]
    have f2:=eq_false k2
    by_cases k6:f.kind=6
    · rw [cv,if_neg hn,if_neg k2,if_pos k6]
      have f6:=eq_true k6
      have f5:=eq_false (show ¬ f.kind=5 by omega)
      simp -implicitDefEqProofs [e1,f2,f5,f6,fl]
    have f6:=eq_false k6
    by_cases k5:f.kind=5
    · obtain ⟨cc,c2⟩:=Can.arr hc k5
      obtain ⟨c,n,hb,gc,hn',n1,n4,hh,hs,hp⟩:=parts5 gf k5 b
      obtain ⟨c',n',hb',gc',_,_,_,hh',hs',_⟩:=parts5 gt (by omega) b
      obtain ⟨b1,b2⟩:=base0 hb'
      rw [hh,hh'] at c2
      have f5:=eq_true k5
      have hcs':=gc'.sz
      have e2:=alx gf k5 b ho.1
      have hpl:=aly gf b
      have hpt:=ho.pt gf k5
      rw [hh] at hpt
      rw [cv_arr k5,hh']
      have hstep:∀ x,x ∈ f.parts b→∀ (fd:Bool) (K:Out→Prop),Call prog 496 ⟨[.ptr 0 0,x.1.w,c'.w,.s x.2],[[.b cl,.b fd]],[]⟩ K=K (.s (cv d x.1 c' x.2).1,[[.b cl,.b (fl (cv d x.1 c' x.2).2 cl fd)]],[]):=fun x hx=>by
        obtain ⟨p1,p2,p3⟩:=hpt x hx
        exact ih p2 gc' (by rw [p1];exact c2) p3
      have hlen:∀ x,x ∈ f.parts b→(cv d x.1 c' x.2).1.length=c'.sz.toNat:=fun x hx=>by
        obtain ⟨p1,p2,p3⟩:=hpt x hx
        exact cv_len p2 gc' (by rw [p1];exact c2) p3
      generalize f.parts b=P at *
      simp -implicitDefEqProofs [e1,f2,f5,f6,e2]
      refine WL_for (fun i=>⟨sp 107 [(0,.ptr 0 0),(6,.ptr 2 0),(9,.ptr 3 0),(41,.sl 1 0 P.length false),(42,.i .i64 P.length),(43,.i .i64 i)],
          [[.b cl,.b (fl ((P.take i).all fun x=>(cv d x.1 c' x.2).2) cl fd)],f.k,t.k,[advB i,.sl 0 0 (((P.take i).map fun x=>(cv d x.1 c' x.2).1).flatten).length (decide (((P.take i).map fun x=>(cv d x.1 c' x.2).1).flatten=[]))]],
          [.row 1 false (bytesT (((P.take i).map fun x=>(cv d x.1 c' x.2).1).flatten)),.row 10 false (P.map ptV)]⟩) P.length (fun _=>True) _ (by simp -implicitDefEqProofs [advB,fl,bytesT]) trivial ?_
      intro i hi _
      by_cases hlt:i<P.length
      · have hw:=wrap_i64 (n:=(i:Int)+1) (by omega) (by omega)
        have hmem:=List.getElem_mem hlt
        have e3:=hstep _ hmem
        have hgl:=hlen _ hmem
        have hfl:=afa (fun x:Ty × Bs=>(cv d x.1 c' x.2).1) c'.sz.toNat (P.take i) (fun x hx=>hlen x (List.mem_of_mem_take hx))
        have htl:(P.take i).length≤4:=by rw [List.length_take];omega
        have hm4:(P.take i).length*c'.sz.toNat≤4*24:=Nat.mul_le_mul htl (by omega)
        have hnm:(P.take (i+1))=P.take i++[P[i]]:=(List.take_append_getElem hlt).symm
        have hsn:((P.take (i+1)).map fun x=>(cv d x.1 c' x.2).1).flatten=((P.take i).map fun x=>(cv d x.1 c' x.2).1).flatten++(cv d P[i].1 c' P[i].2).1:=by
          rw [hnm,List.map_append,List.flatten_append];simp
        have hal:((P.take (i+1)).all fun x=>(cv d x.1 c' x.2).2)=(((P.take i).all fun x=>(cv d x.1 c' x.2).2) && (cv d P[i].1 c' P[i].2).2):=by
          rw [hnm,List.all_append];simp
        rw [hsn,hal]
        generalize hx:P[i]=x at *
        generalize ((P.take i).map fun x=>(cv d x.1 c' x.2).1).flatten=O at *
        generalize ((P.take i).all fun x=>(cv d x.1 c' x.2).2)=A at *
        have e4:∀ a (ha:isSelf a=true) K,_:=fun a ha K=>adu a O (cv d x.1 c' x.2).1 ha (by unfold lim;omega) K
        have had:isSelf (if i=0 then V.bz else .ptr 0 0)=true:=by split <;> rfl
        have hfa:=fl_and A (cv d x.1 c' x.2).2 cl fd
        by_cases i0:i=0
        · have e5:=e4 .bz rfl
          have a1:advB i=.bz:=by simp [advB,i0]
          have a2:advB (i+1)=.ptr 3 0:=by simp [advB]
          simp -implicitDefEqProofs [hlt,hx,ptV,a1,a2,b1,b2,Ty.v_w,hw,e3,e5,hfa,Next]
        · have e5:=e4 (.ptr 0 0) rfl
          have a1:advB i=.ptr 3 0:=by simp [advB,i0]
          have a2:advB (i+1)=.ptr 3 0:=by simp [advB]
          simp -implicitDefEqProofs [hlt,hx,ptV,a1,a2,b1,b2,Ty.v_w,hw,e3,e5,hfa,Next]
      · obtain rfl:i=P.length:=by omega
        rw [List.take_length]
        generalize ((P.map fun x=>(cv d x.1 c' x.2).1).flatten)=O at *
        by_cases i0:P.length=0
        · have e5:=aeb .bz O rfl
          have a1:advB P.length=.bz:=by simp [advB,i0]
          simp -implicitDefEqProofs [a1,e5]
        · have e5:=aeb (.ptr 0 0) O rfl
          have a1:advB P.length=.ptr 3 0:=by simp [advB,i0]
          simp -implicitDefEqProofs [a1,e5]
    have k4:f.kind=4:=by
      have:f.kind≠1∧f.kind≠3:=by unfold Ty.nmr at q1;simp at q1;exact q1
      omega
    have f4:=eq_true k4
    have f5:=eq_false k5
    have t4:t.kind=4:=by omega
    rw [amm hn k2 k6 k5]
    have gm:=gt.mss
    have gy:=gf.mss
    have Lf:=gf.lay k4
    have Lt:=gt.lay t4
    have fn4:=gf.msl
    have tn4:=gt.msl
    have tsz:=gt.sz
    have fsz:=gf.sz
    rw [sz4 t4] at tsz
    rw [sz4 k4] at fsz
    have hbl:=ho.1
    rw [sz4 k4] at hbl
    have hf:∀ m,m ∈ t.ms→((fun m=>(cvM d f b m).1) m).length=m.ty.sz.toNat:=fun m hm=>by
      show ((cvM d f b m).1).length=_
      unfold cvM
      cases h:f.mem m.name with
      | none=>exact Zr_len (gm m hm)
      | some y=>exact cv_len (gy y (mem_in h)) (gm m hm) (Can.comp hc k4 m hm y h) (ho.mb k4 y (mem_in h))
    have hg:∀ m,m ∈ t.ms→((fun m=>Zr d m.ty) m).length=m.ty.sz.toNat:=fun m hm=>Zr_len (gm m hm)
    have hst:∀ m,m ∈ t.ms→∀ y,f.mem m.name=some y→∀ (fd:Bool) (K:Out→Prop),
        Call prog 496 ⟨[.ptr 0 0,y.ty.w,m.ty.w,.s (sl b y.off (y.off+y.ty.sz))],[[.b cl,.b fd]],[]⟩ K=K (.s (cvM d f b m).1,[[.b cl,.b (fl (cvM d f b m).2 cl fd)]],[]):=fun m hm y hy=>by
      have:=ih (gy y (mem_in hy)) (gm m hm) (Can.comp hc k4 m hm y hy) (ho.mb k4 y (mem_in hy))
      unfold cvM
      rw [hy]
      exact this
    have hno:∀ m,f.mem m.name=none→cvM d f b m=(Zr d m.ty,true):=fun m h=>by unfold cvM;rw [h]
    generalize hG:cvM d f b=G at *
    have hml:=ake Lt hf hg
    have h0:=aiu (fun m=>(G m).1) (fun m=>Zr d m.ty) t.ms
    have e2:=amd (d+1) gt
    have hzr:Zr (d+1) t=lay t.size.toNat 0 (mixM (fun m=>(G m).1) (fun m=>Zr d m.ty) t.ms 0):=by
      rw [Zr,if_neg (by omega),if_pos t4,h0]
    rw [hzr] at e2
    have hml0:=hml 0
    have hlm:t.size.toNat≤lim:=by unfold lim;omega
    simp -implicitDefEqProofs [e1,f2,f4,f5,f6,e2,hml0,hlm]
    refine WL_for (fun i=>⟨sp 107 [(0,.ptr 0 0),(3,.s b),(5,.ptr 1 0),(12,.sl 0 0 t.size.toNat false),(69,slv t.nc true 11 (t.ms.map Mb.c)),(70,.i .i64 t.ms.length),(71,.i .i64 i)],
        [[.b cl,.b (fl ((t.ms.take i).all fun m=>(G m).2) cl fd)],f.k,t.k],[.row 1 false (bytesV (lay t.size.toNat 0 (mixM (fun m=>(G m).1) (fun m=>Zr d m.ty) t.ms i)))]⟩) t.ms.length (fun _=>True) _ (by simp -implicitDefEqProofs [fl]) trivial ?_
    intro i hi _
    have hmi:=hml i
    by_cases hlt:i<t.ms.length
    · have hw:=wrap_i64 (n:=(i:Int)+1) (by omega) (by omega)
      have hmem:=List.getElem_mem hlt
      have gz:=gm _ hmem
      have hsz:=gz.sz
      have h1:=Lt.lo i hlt
      have h00:=Lt.nn hi
      have hle2:=Lt.le (i:=i+1) hlt
      rw [aah hlt] at hle2
      have e3:=ait f t.ms[i].name (by unfold lim;omega)
      have hmst:=alv Lt hf hg hlt
      have hsame:=aqq (f:=fun m=>(G m).1) (g:=fun m=>Zr d m.ty) hlt
      have hfm:(G t.ms[i]).1.length=t.ms[i].ty.sz.toNat:=hf _ hmem
      have hnm:(t.ms.take (i+1))=t.ms.take i++[t.ms[i]]:=(List.take_append_getElem hlt).symm
      have hal:((t.ms.take (i+1)).all fun m=>(G m).2)=(((t.ms.take i).all fun m=>(G m).2) && (G t.ms[i]).2):=by
        rw [hnm,List.all_append];simp
      rw [hal]
      generalize hm:t.ms[i]=m at *
      generalize ((t.ms.take i).all fun m=>(G m).2)=A at *
      cases hy:f.mem m.name with
      | none=>
        rw [hy] at e3
        simp only [Option.getD_none,Option.isSome_none] at e3
        have hgm:=hno m hy
        have hs2:=hsame (by rw [hgm])
        have hA:(A && (G m).2)=A:=by rw [hgm];simp
        rw [hs2,hA]
        simp -implicitDefEqProofs [hlt,hm,Mb.c_w,hw,e3,Mb.zero,Ty.zero,acn,Next]
      | some y=>
        rw [hy] at e3
        simp only [Option.getD_some,Option.isSome_some] at e3
        have gyy:=gy _ (mem_in hy)
        have ys:=gyy.sz
        obtain ⟨j,hj,hyj⟩:=List.getElem_of_mem (mem_in hy)
        have y1:=Lf.lo j hj
        have y0:=Lf.nn (Nat.le_of_lt hj)
        have y2:=Lf.le (i:=j+1) hj
        rw [aah hj,hyj] at y2
        rw [hyj] at y1
        have e5:=abl gyy
        have wy:=wrap_i64 (n:=y.off+y.ty.sz) (by omega) (by omega)
        have hB:=bndsI (n:=b.length) (lo:=y.off) (hi:=y.off+y.ty.sz) (by omega)
        have e6:=hst m hmem y hy (fl A cl fd)
        rw [fl_and] at e6
        obtain ⟨o,ho'⟩:∃ o:Nat,m.off=o:=⟨m.off.toNat,by omega⟩
        obtain ⟨S,hS⟩:∃ S:Nat,t.size=S:=⟨t.size.toNat,by omega⟩
        rw [ho',hS,Int.toNat_natCast,Int.toNat_natCast] at hmst
        have hr:=aq2 (lay S 0 (mixM (fun m=>(G m).1) (fun m=>Zr d m.ty) t.ms i)) (G m).1 o
        rw [hmst] at hr
        have c1:((o:Int)≤S)=True:=eq_true (by omega)
        have c1':o≤S:=by omega
        have c2:(G m).1.take (S - o)=(G m).1:=List.take_of_length_le (by omega)
        rw [hS,Int.toNat_natCast] at hmi
        simp -implicitDefEqProofs [hlt,hm,Mb.c_w,hw,e3,e5,e6,wy,hB,ho',hS,c1,c1',c2,hr,hmi,Next]
    · obtain rfl:i=t.ms.length:=by omega
      rw [aof] at hmi ⊢
      rw [List.take_length]
      have ht:=ac5 _ hmi
      simp -implicitDefEqProofs [cvsV,ht]
end Go.VS
end
section
namespace Go.VS
set_option maxRecDepth 4000
attribute [-simp] isLeaf okRet ridL V.leaves
noncomputable def cvO (f t:Ty) (es:List Bs):Bs:=(es.map fun e=>(cv 3 f t e).1).flatten
noncomputable def cvX (f t:Ty) (es:List Bs):Bool:=es.all fun e=>(cv 3 f t e).2
noncomputable def cvR (f t:Ty) (es:List Bs) (cl:Bool):Bs × Int:=
  if Can 3 f t=true then (if (cvX f t es || cl)=true then (cvO f t es,0) else ([],8)) else ([],7)
theorem ant (f t:Ty) (es:List Bs) (e:Bs):cvO f t (es++[e])=cvO f t es++(cv 3 f t e).1:=by
  unfold cvO;rw [List.map_append,List.flatten_append];simp
theorem anu (f t:Ty) (es:List Bs) (e:Bs):cvX f t (es++[e])=(cvX f t es && (cv 3 f t e).2):=by
  unfold cvX;rw [List.all_append];simp
theorem cvO_le {f t:Ty} {es:List Bs} (gf:Gd 3 f) (gt:Gd 3 t) (hc:Can 3 f t=true) (ho:∀ e,e ∈ es→Ok 3 f e):(cvO f t es).length≤es.length*24:=by
  have:=afa (fun e=>(cv 3 f t e).1) t.sz.toNat es (fun e he=>cv_len gf gt hc (ho e he))
  unfold cvO
  rw [this]
  have:=gt.sz
  exact Nat.mul_le_mul_left _ (by omega)
theorem ahg {f t:Ty} (gf:Gd 3 f) (gt:Gd 3 t) (q:Bool) (es:List Bs) (hl:es.length≤1048576) (ho:∀ e,e ∈ es→Ok 3 f e) (cl:Bool) (K:Out→Prop):
    Call prog 442 ⟨[f.w,t.w,.view q 1 (es.map V.s),.b cl],[],[]⟩ K=K (.tup [.s (cvR f t es cl).1,.i .i64 (cvR f t es cl).2],[],[]):=by
  refine Zc (f:=442) rfl rfl (by decide) ?_
  have e1:=adv 3 gf gt
  unfold cvR
  by_cases hc:Can 3 f t=true
  case neg=>
    rw [if_neg hc]
    have hc':Can 3 f t=false:=by simpa using hc
    rw [hc'] at e1
    simp -implicitDefEqProofs [e1]
  rw [if_pos hc]
  rw [hc] at e1
  simp -implicitDefEqProofs [e1]
  refine WL_for (fun i=>⟨sp 39 [(4,.ptr 0 0),(5,.ptr 1 0),(10,.ptr 2 0),(11,.ptr 3 0),(21,.view q 1 (es.map V.s)),(22,.i .i64 es.length),(23,.i .i64 i)],
      [f.k,t.k,[.b cl,.b (fl (cvX f t (es.take i)) cl false)],[advB i,.sl 0 0 (cvO f t (es.take i)).length (decide (cvO f t (es.take i)=[]))]],
      [.row 1 false (bytesT (cvO f t (es.take i)))]⟩) es.length (fun _=>True) _ (by simp -implicitDefEqProofs [advB,fl,bytesT,cvX,cvO]) trivial ?_
  intro i hi _
  by_cases hlt:i<es.length
  · have hw:=wrap_i64 (n:=(i:Int)+1) (by omega) (by omega)
    have hmem:=List.getElem_mem hlt
    have e3:=ahh 3 cl gf gt hc (ho _ hmem)
    have hgl:=cv_len gf gt hc (ho _ hmem)
    have gts:=gt.sz
    have hO:=cvO_le gf gt hc (es:=es.take i) (fun e he=>ho e (List.mem_of_mem_take he))
    rw [List.length_take] at hO
    have hnm:(es.take (i+1))=es.take i++[es[i]]:=(List.take_append_getElem hlt).symm
    rw [hnm,ant,anu]
    generalize hx:es[i]=x at *
    generalize cvO f t (es.take i)=O at *
    generalize cvX f t (es.take i)=A at *
    have e4:∀ a (ha:isSelf a=true) K,_:=fun a ha K=>adu a O (cv 3 f t x).1 ha (by unfold lim;omega) K
    have hfa:=fl_and A (cv 3 f t x).2 cl false
    by_cases i0:i=0
    · have e5:=e4 .bz rfl
      have a1:advB i=.bz:=by simp [advB,i0]
      have a2:advB (i+1)=.ptr 3 0:=by simp [advB]
      simp -implicitDefEqProofs [hlt,hx,a1,a2,hw,e3,e5,hfa,Next]
    · have e5:=e4 (.ptr 0 0) rfl
      have a1:advB i=.ptr 3 0:=by simp [advB,i0]
      have a2:advB (i+1)=.ptr 3 0:=by simp [advB]
      simp -implicitDefEqProofs [hlt,hx,a1,a2,hw,e3,e5,hfa,Next]
  · obtain rfl:i=es.length:=by omega
    rw [List.take_length]
    generalize cvO f t es=O at *
    generalize cvX f t es=A at *
    have e5:∀ a (ha:isSelf a=true) K,_:=fun a ha K=>aeb a O ha K
    have had:advB es.length=.bz∨advB es.length=.ptr 3 0:=by unfold advB;split;exact .inl rfl;exact .inr rfl
    cases A <;> cases cl
    · simp -implicitDefEqProofs [fl]
    · rcases had with a1 | a1
      · have e6:=e5 .bz rfl
        simp -implicitDefEqProofs [fl,a1,e6]
      · have e6:=e5 (.ptr 0 0) rfl
        simp -implicitDefEqProofs [fl,a1,e6]
    · rcases had with a1 | a1
      · have e6:=e5 .bz rfl
        simp -implicitDefEqProofs [fl,a1,e6]
      · have e6:=e5 (.ptr 0 0) rfl
        simp -implicitDefEqProofs [fl,a1,e6]
    · rcases had with a1 | a1
      · have e6:=e5 .bz rfl
        simp -implicitDefEqProofs [fl,a1,e6]
      · have e6:=e5 (.ptr 0 0) rfl
        simp -implicitDefEqProofs [fl,a1,e6]
theorem af0 (f t:Ty) (hf:f.tot≤lim) (ht:t.tot≤lim) (b:Bs) (hb:b.length≤1048576) (cl:Bool) (K:Out→Prop):
    Call prog 410 ⟨[f.w,t.w,.s b,.b cl],[],[]⟩ K=K (.tup [.s (@ite _ (Gd 3 f∧Ok 3 f b∧Gd 3 t) (Classical.propDecidable _) (cvR f t [b] cl).1 []),.i .i64 (@ite _ (Gd 3 f∧Ok 3 f b∧Gd 3 t) (Classical.propDecidable _) (cvR f t [b] cl).2 1)],[],[]):=by
  refine Zc (f:=410) rfl rfl (by decide) ?_
  have e1:=aha f hf b (by unfold lim;omega)
  have e2:=abr t ht
  by_cases c1:Gd 3 f∧Ok 3 f b
  case neg=>
    rw [tB_f c1] at e1
    rw [if_neg (fun h=>c1 ⟨h.1,h.2.1⟩),if_neg (fun h=>c1 ⟨h.1,h.2.1⟩)]
    simp -implicitDefEqProofs [e1]
  rw [tB_t c1] at e1
  by_cases c2:Gd 3 t
  case neg=>
    rw [tB_f c2] at e2
    rw [if_neg (fun h=>c2 h.2.2),if_neg (fun h=>c2 h.2.2)]
    simp -implicitDefEqProofs [e1,e2]
  rw [tB_t c2] at e2
  rw [if_pos ⟨c1.1,c1.2,c2⟩,if_pos ⟨c1.1,c1.2,c2⟩]
  have e3:=fun q=>ahg c1.1 c2 q [b] (by simp) (fun e he=>by obtain rfl:e=b:=(by simpa using he);exact c1.2) cl
  simp only [List.map_cons,List.map_nil,Tag_eq] at e3
  simp -implicitDefEqProofs [e1,e2,e3]
theorem afi (f t:Ty) (hf:f.tot≤lim) (ht:t.tot≤lim) (b:Bs) (hb:b.length≤1048576) (cl:Bool) (K:Out→Prop):
    Call prog 409 ⟨[f.w,t.w,.s b,.b cl],[],[]⟩ K=K (.tup [.s (@ite _ (Gd 3 f∧Ok 3 f b∧Gd 3 t) (Classical.propDecidable _) (cvR f t [b] cl).1 []),.i .i64 (@ite _ (Gd 3 f∧Ok 3 f b∧Gd 3 t) (Classical.propDecidable _) (cvR f t [b] cl).2 1)],[],[]):=by
  refine Zc (f:=409) rfl rfl (by decide) ?_
  have e1:=af9 f hf b (by unfold lim;omega)
  have e2:=afd t ht
  by_cases c1:Gd 3 f∧Ok 3 f b
  case neg=>
    rw [tB_f c1] at e1
    rw [if_neg (fun h=>c1 ⟨h.1,h.2.1⟩),if_neg (fun h=>c1 ⟨h.1,h.2.1⟩)]
    simp -implicitDefEqProofs [e1]
  rw [tB_t c1] at e1
  by_cases c2:Gd 3 t
  case neg=>
    rw [tB_f c2] at e2
    rw [if_neg (fun h=>c2 h.2.2),if_neg (fun h=>c2 h.2.2)]
    simp -implicitDefEqProofs [e1,e2]
  rw [tB_t c2] at e2
  rw [if_pos ⟨c1.1,c1.2,c2⟩,if_pos ⟨c1.1,c1.2,c2⟩]
  have e3:=af5 3 c1.1 c2
  unfold cvR
  by_cases hc:Can 3 f t=true
  case neg=>
    rw [if_neg hc]
    have hc':Can 3 f t=false:=by simpa using hc
    rw [hc'] at e3
    simp -implicitDefEqProofs [e1,e2,e3]
  rw [if_pos hc]
  rw [hc] at e3
  obtain ⟨out,h1,h2⟩:=acj 3 cl c1.1 c2 hc c1.2
  have hX:cvX f t [b]=(cv 3 f t b).2:=by simp [cvX]
  have hO:cvO f t [b]=(cv 3 f t b).1:=by simp [cvO]
  rw [hX,hO]
  cases hE:((cv 3 f t b).2 || cl)
  · rw [hE] at h2
    simp -implicitDefEqProofs [e1,e2,e3,h2]
  · rw [hE] at h2
    rw [h1 hE] at h2
    simp -implicitDefEqProofs [e1,e2,e3,h2]
end Go.VS
end
section
namespace Go.VS
set_option maxRecDepth 4000
attribute [-simp] isLeaf okRet ridL V.leaves
def ckB (z:Nat) (b:Bs) (k:Nat):Bs:=(b.drop (k*z)).take z
def cks (z:Nat) (b:Bs) (n:Nat):List Bs:=(List.range n).map (ckB z b)
structure Dt (f:Ty) (b:Bs):Prop where
  m:b.length % f.sz.toNat=0
  e:∀ k,k<b.length / f.sz.toNat→Ok 3 f (ckB f.sz.toNat b k)
@[simp] theorem cks_len (z:Nat) (b:Bs) (n:Nat):(cks z b n).length=n:=by simp [cks]
theorem ap2 (b:Bs) (i z:Nat):((b.drop (i*z)).take (b.length - i*z)).drop z=b.drop ((i+1)*z):=by
  rw [List.take_of_length_le (by simp),List.drop_drop,Nat.succ_mul]
theorem ajw (z:Nat) (b:Bs) (n:Nat):cks z b (n+1)=cks z b n++[ckB z b n]:=by
  unfold cks;rw [List.range_succ,List.map_append];rfl
theorem sl_ck (b:Bs) (k z:Nat):(b.take (k*z+z)).drop (k*z)=ckB z b k:=by
  unfold ckB
  rw [List.drop_take];congr 1;omega
theorem ahv {l z i:Nat} (hz:1≤z) (hi:i<l / z):i*z+z≤l:=by
  have h1:(i+1)*z≤l / z*z:=Nat.mul_le_mul_right _ hi
  have h2:=Nat.div_mul_le_self l z
  rw [Nat.succ_mul] at h1
  omega
theorem amn {l z:Nat} (hz:1≤z):l - l / z*z=l % z∧l / z*z≤l:=by
  have h1:=Nat.div_add_mod l z
  have h2:=Nat.div_mul_le_self l z
  rw [Nat.mul_comm] at h1
  omega
theorem agc {f:Ty} (gf:Gd 3 f) (b:Bs) (hb:b.length≤1048576) (K:Out→Prop):
    (Dt f b→Call prog 447 ⟨[f.w,.s b],[],[]⟩ K=K (.tup [.sl 0 0 (b.length / f.sz.toNat) false,.b true],[],[.row 1 false ((cks f.sz.toNat b (b.length / f.sz.toNat)).map V.s)])) ∧
    (¬ Dt f b→Call prog 447 ⟨[f.w,.s b],[],[]⟩ K=K (.tup [.nil,.b false],[],[])):=by
  have gs:=gf.sz
  have e1:=abl gf
  obtain ⟨z,hz⟩:∃ z:Nat,f.sz=z:=⟨f.sz.toNat,by omega⟩
  have hz1:1≤z:=by omega
  have hN:b.length / z≤b.length:=Nat.div_le_self _ _
  obtain ⟨d1,d2⟩:=amn (l:=b.length) hz1
  constructor
  · intro hd
    refine Zc (f:=447) rfl rfl (by decide) ?_
    have hm:=hd.m
    have he:=hd.e
    rw [hz,Int.toNat_natCast] at hm he ⊢
    rw [hz] at e1
    simp -implicitDefEqProofs [e1]
    refine WL_for (fun i=>⟨sp 34 [(1,.s (b.drop (i*z))),(2,.ptr 0 0),(6,.sl 0 0 i false),(7,.i .i64 z)],[f.k],[.row 1 false ((cks z b i).map V.s)]⟩) (b.length / z) (fun _=>True) _ (by simp -implicitDefEqProofs [cks]) trivial ?_
    intro i hi _
    by_cases hlt:i<b.length / z
    · have hs:=ahv hz1 hlt
      have e2:=abu 3 gf (ckB z b i) (by unfold ckB lim;simp;omega)
      rw [tB_t (he i hlt)] at e2
      have hne:(b.drop (i*z)=[])=False:=eq_false (by rw [List.drop_eq_nil_iff];omega)
      have c1:(((b.length - i*z:Nat):Int)<z)=False:=eq_false (by omega)
      have c2:z≤b.length - i*z:=by omega
      have c3:i+1≤lim:=by unfold lim;omega
      have hdd:i*z+z=(i+1)*z:=(Nat.succ_mul i z).symm
      have hnb:noBt ((cks z b i).map V.s)=true:=acz _ (fun _=>rfl) _
      have htk:((cks z b i).map V.s).take i=(cks z b i).map V.s:=List.take_of_length_le (by simp [cks])
      have e3:∀ K:Out→Prop,Call prog 480 ⟨[f.w,.s ((b.drop (i*z)).take z)],[],[]⟩ K=K (.b true,[],[]):=e2
      have hcs:=ajw z b i
      have hck:ckB z b i=(b.drop (i*z)).take z:=rfl
      rw [hck] at hcs
      have c1':¬ b.length - i*z<z:=by omega
      simp -implicitDefEqProofs [hlt,hne,c1,c1',c2,c3,hdd,hnb,htk,e3,hcs,ap2,Next]
    · obtain rfl:i=b.length / z:=by omega
      have hem:b.drop (b.length / z*z)=[]:=List.drop_eq_nil_of_le (by omega)
      simp -implicitDefEqProofs [hem]
  · intro hd
    refine Zc (f:=447) rfl rfl (by decide) ?_
    have hnd:¬ (b.length % z=0∧∀ k,k<b.length / z→Ok 3 f (ckB z b k)):=fun h=>hd ⟨by rw [hz,Int.toNat_natCast];exact h.1,by rw [hz,Int.toNat_natCast];exact h.2⟩
    rw [hz] at e1
    simp -implicitDefEqProofs [e1]
    refine WL_for (fun i=>⟨sp 34 [(1,.s (b.drop (i*z))),(2,.ptr 0 0),(6,.sl 0 0 i false),(7,.i .i64 z)],[f.k],[.row 1 false ((cks z b i).map V.s)]⟩) (b.length / z) (fun i=>∀ k,k<i→Ok 3 f (ckB z b k)) _ (by simp -implicitDefEqProofs [cks]) (fun k hk=>by omega) ?_
    intro i hi hP
    by_cases hlt:i<b.length / z
    · have hs:=ahv hz1 hlt
      have e2:=abu 3 gf (ckB z b i) (by unfold ckB lim;simp;omega)
      have hne:(b.drop (i*z)=[])=False:=eq_false (by rw [List.drop_eq_nil_iff];omega)
      have c1:(((b.length - i*z:Nat):Int)<z)=False:=eq_false (by omega)
      have c1':¬ b.length - i*z<z:=by omega
      have c2:z≤b.length - i*z:=by omega
      have c3:i+1≤lim:=by unfold lim;omega
      have hdd:i*z+z=(i+1)*z:=(Nat.succ_mul i z).symm
      have hnb:noBt ((cks z b i).map V.s)=true:=acz _ (fun _=>rfl) _
      have htk:((cks z b i).map V.s).take i=(cks z b i).map V.s:=List.take_of_length_le (by simp [cks])
      by_cases q:Ok 3 f (ckB z b i)
      · rw [tB_t q] at e2
        have e3:∀ K:Out→Prop,Call prog 480 ⟨[f.w,.s ((b.drop (i*z)).take z)],[],[]⟩ K=K (.b true,[],[]):=e2
        have hcs:=ajw z b i
        have hck:ckB z b i=(b.drop (i*z)).take z:=rfl
        rw [hck] at hcs
        simp -implicitDefEqProofs [hlt,hne,c1,c1',c2,c3,hdd,hnb,htk,e3,hcs,ap2,Next]
        intro k hk
        by_cases e:k<i
        · exact hP k e
        · obtain rfl:k=i:=by omega
          exact q
      · rw [tB_f q] at e2
        have e3:∀ K:Out→Prop,Call prog 480 ⟨[f.w,.s ((b.drop (i*z)).take z)],[],[]⟩ K=K (.b false,[],[]):=e2
        simp -implicitDefEqProofs [hlt,hne,c1,c1',c2,e3]
    · obtain rfl:i=b.length / z:=by omega
      have hm:¬ b.length % z=0:=fun h=>hnd ⟨h,hP⟩
      have hlt2:=Nat.mod_lt b.length (show 0<z by omega)
      have hne:(b.drop (b.length / z*z)=[])=False:=eq_false (by rw [List.drop_eq_nil_iff];omega)
      have c1:(((b.length - b.length / z*z:Nat):Int)<z)=True:=eq_true (by omega)
      have c1':b.length - b.length / z*z<z:=by omega
      simp -implicitDefEqProofs [hne,c1,c1']
end Go.VS
end
section
namespace Go.VS
set_option maxRecDepth 4000
attribute [-simp] isLeaf okRet ridL V.leaves
theorem aln {f:Ty} (gf:Gd 3 f) (b:Bs) (hb:b.length≤1048576) (K:Out→Prop):Call prog 445 ⟨[f.w,.s b],[],[]⟩ K=K (.b (tB (Dt f b)),[],[]):=by
  refine Zc (f:=445) rfl rfl (by decide) ?_
  have gs:=gf.sz
  have e1:=aar gf
  obtain ⟨z,hz⟩:∃ z:Nat,f.sz=z:=⟨f.sz.toNat,by omega⟩
  have hz1:1≤z:=by omega
  have hN:b.length / z≤b.length:=Nat.div_le_self _ _
  obtain ⟨d1,d2⟩:=amn (l:=b.length) hz1
  have hD:Dt f b ↔ (b.length % z=0∧∀ k,k<b.length / z→Ok 3 f (ckB z b k)):=
    ⟨fun h=>by have h1:=h.m;have h2:=h.e;rw [hz,Int.toNat_natCast] at h1 h2;exact ⟨h1,h2⟩,fun h=>⟨by rw [hz,Int.toNat_natCast];exact h.1,by rw [hz,Int.toNat_natCast];exact h.2⟩⟩
  rw [hz] at e1
  have hr:(b.length:Int).tmod (z:Int)=((b.length % z:Nat):Int):=(Int.ofNat_tmod _ _).symm
  obtain ⟨r,hrr⟩:∃ r,b.length % z=r:=⟨_,rfl⟩
  rw [hrr] at hr
  have z0:¬ (z:Int)=0:=by omega
  have z0':¬ z=0:=by omega
  by_cases c0:r=0
  case neg=>
    rw [tB_f fun h=>c0 (by rw [← hrr];exact (hD.mp h).1)]
    have c1:((r:Int)=0)=False:=eq_false (by omega)
    simp -implicitDefEqProofs [e1,hr,z0,z0',c0,c1]
  have c1:((r:Int)=0)=True:=eq_true (by omega)
  simp -implicitDefEqProofs [e1,hr,z0,z0',c0,c1]
  obtain ⟨ofs,ho⟩:∃ ofs:Nat→Int,∀ i,ofs i=((i*z:Nat):Int):=⟨_,fun _=>rfl⟩
  have ho0:ofs 0=0:=by rw [ho];simp
  refine WL_for (fun i=>⟨sp 30 [(1,.s b),(2,.ptr 0 0),(5,.i .i64 z),(6,.i .i64 (ofs i))],[f.k],[]⟩) (b.length / z) (fun i=>∀ k,k<i→Ok 3 f (ckB z b k)) _ (by simp -implicitDefEqProofs [ho0]) (fun k hk=>by omega) ?_
  intro i hi hP
  by_cases hlt:i<b.length / z
  · have hs:=ahv hz1 hlt
    have h1:ofs i+z=ofs (i+1):=by rw [ho,ho,Nat.succ_mul];push_cast;rfl
    have h2:(ofs i).toNat=i*z:=by rw [ho];rfl
    have h3:(ofs (i+1)).toNat=i*z+z:=by rw [ho,Nat.succ_mul];rfl
    have c2:(0≤ofs i)=True:=eq_true (by rw [ho];omega)
    have c3:(ofs i≤ofs (i+1))=True:=eq_true (by rw [← h1];omega)
    have c4:(ofs (i+1)≤(b.length:Int))=True:=eq_true (by rw [ho,Nat.succ_mul];omega)
    have c5:(ofs i<(b.length:Int))=True:=eq_true (by rw [ho];omega)
    have w1:=wrap_i64 (n:=ofs (i+1)) (by rw [ho];omega) (by have:=c4;simp at this;omega)
    have e2:=ahe 3 gf (ckB z b i) (by unfold ckB lim;simp;omega)
    have hsl:=sl_ck b i z
    by_cases q:Ok 3 f (ckB z b i)
    · rw [tB_t q] at e2
      simp -implicitDefEqProofs [h1,h2,h3,c2,c3,c4,c5,w1,hsl,e2,hlt,Next]
      intro k hk
      by_cases e:k<i
      · exact hP k e
      · obtain rfl:k=i:=by omega
        exact q
    · rw [tB_f q] at e2
      rw [tB_f fun h=>q ((hD.mp h).2 i hlt)]
      simp -implicitDefEqProofs [h1,h2,h3,c2,c3,c4,c5,w1,hsl,e2,hlt,Next]
  · obtain rfl:i=b.length / z:=by omega
    rw [tB_t (hD.mpr ⟨by omega,hP⟩)]
    have c5:(ofs (b.length / z)<(b.length:Int))=False:=eq_false (by rw [ho];omega)
    simp -implicitDefEqProofs [c5]
theorem am7 {f t:Ty} (gf:Gd 3 f) (gt:Gd 3 t) (hc:Can 3 f t=true) (b:Bs) (hb:b.length≤1048576) (hd:Dt f b) (cl:Bool) (K:Out→Prop):
    Call prog 446 ⟨[f.w,t.w,.s b,.b cl],[],[]⟩ K=K (.tup [.s (cvR f t (cks f.sz.toNat b (b.length / f.sz.toNat)) cl).1,.i .i64 (cvR f t (cks f.sz.toNat b (b.length / f.sz.toNat)) cl).2],[],[]):=by
  refine Zc (f:=446) rfl rfl (by decide) ?_
  have gs:=gf.sz
  have gts:=gt.sz
  have e1:=aar gf
  have hm:=hd.m
  have he:=hd.e
  obtain ⟨z,hz⟩:∃ z:Nat,f.sz=z:=⟨f.sz.toNat,by omega⟩
  have hz1:1≤z:=by omega
  have hN:b.length / z≤b.length:=Nat.div_le_self _ _
  obtain ⟨d1,d2⟩:=amn (l:=b.length) hz1
  rw [hz,Int.toNat_natCast] at hm he ⊢
  rw [hz] at e1
  unfold cvR
  rw [if_pos hc]
  obtain ⟨F,hF⟩:∃ F,(cvX f t (cks z b (b.length / z)) || cl)=F:=⟨_,rfl⟩
  rw [hF]
  simp -implicitDefEqProofs [e1]
  obtain ⟨ofs,ho⟩:∃ ofs:Nat→Int,∀ i,ofs i=((i*z:Nat):Int):=⟨_,fun _=>rfl⟩
  have ho0:ofs 0=0:=by rw [ho];simp
  refine WL_for (fun i=>⟨sp 43 [(2,.s b),(3,.b cl),(4,.ptr 0 0),(5,.ptr 1 0),(10,.s (cvO f t (cks z b i))),(11,.i .i64 z),(12,.i .i64 (ofs i))],[f.k,t.k],[]⟩) (b.length / z) (fun i=>(cvX f t (cks z b i) || cl)=true) _ (by simp -implicitDefEqProofs [ho0,cks,cvO]) (by simp [cvX,cks]) ?_
  intro i hi hP
  by_cases hlt:i<b.length / z
  · have hs:=ahv hz1 hlt
    have h1:ofs i+z=ofs (i+1):=by rw [ho,ho,Nat.succ_mul];push_cast;rfl
    have h2:(ofs i).toNat=i*z:=by rw [ho];rfl
    have h3:(ofs (i+1)).toNat=i*z+z:=by rw [ho,Nat.succ_mul];rfl
    have c2:(0≤ofs i)=True:=eq_true (by rw [ho];omega)
    have c3:(ofs i≤ofs (i+1))=True:=eq_true (by rw [← h1];omega)
    have c4:(ofs (i+1)≤(b.length:Int))=True:=eq_true (by rw [ho,Nat.succ_mul];omega)
    have c5:(ofs i<(b.length:Int))=True:=eq_true (by rw [ho];omega)
    have w1:=wrap_i64 (n:=ofs (i+1)) (by rw [ho];omega) (by have:=c4;simp at this;omega)
    obtain ⟨out,p1,p2⟩:=acj 3 cl gf gt hc (he i hlt)
    have hgl:=cv_len gf gt hc (he i hlt)
    have hsl:=sl_ck b i z
    have hO:=cvO_le gf gt hc (es:=cks z b i) (fun e hm=>by
      obtain ⟨k,hk,rfl⟩:=List.mem_map.mp hm
      exact he k (by have:=List.mem_range.mp hk;omega))
    rw [cks_len] at hO
    have hoS:=ant f t (cks z b i) (ckB z b i)
    have hxS:=anu f t (cks z b i) (ckB z b i)
    rw [← ajw] at hoS hxS
    cases hE:((cv 3 f t (ckB z b i)).2 || cl)
    · rw [hE] at p2
      have hFf:F=false:=by
        rw [← hF]
        simp only [Bool.or_eq_false_iff] at hE ⊢
        refine ⟨?_,hE.2⟩
        unfold cvX
        rw [List.all_eq_false]
        exact ⟨ckB z b i,List.mem_map.mpr ⟨i,List.mem_range.mpr hlt,rfl⟩,by rw [hE.1];simp⟩
      rw [hFf]
      simp -implicitDefEqProofs [h1,h2,h3,c2,c3,c4,c5,w1,hsl,p2,hlt,Next]
    · rw [hE] at p2
      rw [p1 hE] at p2
      have hnx:(cvX f t (cks z b (i+1)) || cl)=true:=by
        rw [hxS]
        revert hE hP
        cases cvX f t (cks z b i) <;> cases (cv 3 f t (ckB z b i)).2 <;> cases cl <;> simp
      generalize cvO f t (cks z b i)=O at *
      have c6:O.length+(cv 3 f t (ckB z b i)).1.length≤lim:=by unfold lim;omega
      simp -implicitDefEqProofs [h1,h2,h3,c2,c3,c4,c5,c6,w1,hsl,p2,hlt,hoS,Next]
      simpa using hnx
  · obtain rfl:i=b.length / z:=by omega
    rw [← hF,hP]
    have c5:(ofs (b.length / z)<(b.length:Int))=False:=eq_false (by rw [ho];omega)
    simp -implicitDefEqProofs [c5]
noncomputable def cbR (f t:Ty) (b:Bs) (cl:Bool):Bs × Int:=
  @ite _ (Gd 3 f∧Gd 3 t∧Dt f b) (Classical.propDecidable _) (cvR f t (cks f.sz.toNat b (b.length / f.sz.toNat)) cl) ([],1)
theorem Dt.ok {f:Ty} {b:Bs} (h:Dt f b):∀ e,e ∈ cks f.sz.toNat b (b.length / f.sz.toNat)→Ok 3 f e:=fun e hm=>by
  obtain ⟨k,hk,rfl⟩:=List.mem_map.mp hm
  exact h.e k (List.mem_range.mp hk)
theorem ag9 (f t:Ty) (hf:f.tot≤lim) (ht:t.tot≤lim) (b:Bs) (hb:b.length≤1048576) (cl:Bool) (K:Out→Prop):
    Call prog 413 ⟨[f.w,t.w,.s b,.b cl],[],[]⟩ K=K (.tup [.s (cbR f t b cl).1,.i .i64 (cbR f t b cl).2],[],[]):=by
  refine Zc (f:=413) rfl rfl (by decide) ?_
  have e1:=abr f hf
  have e2:=abr t ht
  unfold cbR
  by_cases c1:Gd 3 f
  case neg=>
    rw [tB_f c1] at e1
    rw [if_neg (fun h=>c1 h.1)]
    simp -implicitDefEqProofs [e1]
  rw [tB_t c1] at e1
  by_cases c2:Gd 3 t
  case neg=>
    rw [tB_f c2] at e2
    rw [if_neg (fun h=>c2 h.2.1)]
    simp -implicitDefEqProofs [e1,e2]
  rw [tB_t c2] at e2
  by_cases c3:Dt f b
  case neg=>
    have e3:=fun K=>(agc c1 b hb K).2 c3
    rw [if_neg (fun h=>c3 h.2.2)]
    simp -implicitDefEqProofs [e1,e2,e3]
  have e3:=fun K=>(agc c1 b hb K).1 c3
  rw [if_pos ⟨c1,c2,c3⟩]
  have hN:b.length / f.sz.toNat≤b.length:=Nat.div_le_self _ _
  have e4:=fun q=>ahg c1 c2 q (cks f.sz.toNat b (b.length / f.sz.toNat)) (by rw [cks_len];omega) c3.ok cl
  have htk:((cks f.sz.toNat b (b.length / f.sz.toNat)).map V.s).take (b.length / f.sz.toNat)=(cks f.sz.toNat b (b.length / f.sz.toNat)).map V.s:=List.take_of_length_le (by simp)
  simp -implicitDefEqProofs [e1,e2,e3,htk,e4]
theorem af7 (f t:Ty) (hf:f.tot≤lim) (ht:t.tot≤lim) (b:Bs) (hb:b.length≤1048576) (cl:Bool) (K:Out→Prop):
    Call prog 412 ⟨[f.w,t.w,.s b,.b cl],[],[]⟩ K=K (.tup [.s (cbR f t b cl).1,.i .i64 (cbR f t b cl).2],[],[]):=by
  refine Zc (f:=412) rfl rfl (by decide) ?_
  have e1:=afd f hf
  have e2:=afd t ht
  unfold cbR
  by_cases c1:Gd 3 f
  case neg=>
    rw [tB_f c1] at e1
    rw [if_neg (fun h=>c1 h.1)]
    simp -implicitDefEqProofs [e1]
  rw [tB_t c1] at e1
  by_cases c2:Gd 3 t
  case neg=>
    rw [tB_f c2] at e2
    rw [if_neg (fun h=>c2 h.2.1)]
    simp -implicitDefEqProofs [e1,e2]
  rw [tB_t c2] at e2
  have e3:=aln c1 b hb
  by_cases c3:Dt f b
  case neg=>
    rw [tB_f c3] at e3
    rw [if_neg (fun h=>c3 h.2.2)]
    simp -implicitDefEqProofs [e1,e2,e3]
  rw [tB_t c3] at e3
  rw [if_pos ⟨c1,c2,c3⟩]
  have e4:=af5 3 c1 c2
  by_cases hc:Can 3 f t=true
  · rw [hc] at e4
    have e5:=am7 c1 c2 hc b hb c3 cl
    simp -implicitDefEqProofs [e1,e2,e3,e4,e5]
  · have hc':Can 3 f t=false:=by simpa using hc
    rw [hc'] at e4
    unfold cvR
    rw [if_neg hc]
    simp -implicitDefEqProofs [e1,e2,e3,e4]
end Go.VS
end
section
namespace Go.VS
set_option maxRecDepth 4000
attribute [-simp] isLeaf okRet ridL V.leaves
theorem akg (t:Ty):t.nrm.tot=t.tot:=by
  refine Ty.ind (P:=fun t=>t.nrm.tot=t.tot) ?_ t
  intro t hm hb
  have e1:Mb.tots (t.ms.map Mb.nrm)=Mb.tots t.ms:=by
    rw [Mb.tots_eq,Mb.tots_eq,List.length_map]
    congr 1
    unfold sumG
    rw [List.map_map]
    congr 1
    refine List.map_congr_left fun m im=>?_
    show m.nrm.tot=m.tot
    rw [Mb.tot_eq,Mb.tot_eq,Mb.nrm_eq]
    show m.name.length+m.ty.nrm.tot=_
    rw [hm m im]
  have e2:Ty.tots (t.base.map Ty.nrm)=Ty.tots t.base:=by
    rw [Ty.tots_eq,Ty.tots_eq,List.length_map]
    congr 1
    unfold sumG
    rw [List.map_map]
    congr 1
    exact List.map_congr_left fun m im=>hb m im
  rw [Ty.tot_eq t.nrm,Ty.tot_eq t]
  rw [Ty.nrm_eq]
  show totS t.names+t.nums.length+Mb.tots (t.ms.map Mb.nrm)+Ty.tots (t.base.map Ty.nrm)=_
  rw [e1,e2]
theorem adl (t:Ty) (hb:t.tot≤lim) (K:Out→Prop):Call prog 411 ⟨[t.w,t.w],[],[]⟩ K=K (.b true,[],[]):=by
  have:=ams t hb ⟨true,true,true,true⟩ ⟨true,true,true,true⟩ K
  exact this
theorem ceLaw (x y:Q4) (f t:Ty) (hf:f.Big) (ht:t.Big) (b:Bs) (cl:Bool) (K:Out→Prop):
    Call prog 612 ⟨[.agg (f.q x),.agg (t.q y),.s b,.b cl],[],[]⟩ K=K (.b true,[],[]):=by
  refine Zc (f:=612) rfl rfl (by decide) ?_
  by_cases cb:b.length≤1048576
  case neg=>
    have c0:(1048576<(b.length:Int))=True:=eq_true (by omega)
    simp -implicitDefEqProofs [Ty.q,c0]
  have cb':(1048576<(b.length:Int))=False:=eq_false (by omega)
  have e0:=fun K=>ads f hf x 1048576 (by decide) (by decide) K
  by_cases c0:(f.tot:Int)≤1048576
  case neg=>
    have m0:minus 1048576 f.tot=-1:=if_neg c0
    rw [m0] at e0
    simp only [Ty.q,Tag_eq] at e0
    simp -implicitDefEqProofs [Ty.q,cb',e0]
  have m0:minus 1048576 f.tot=1048576 - (f.tot:Int):=if_pos c0
  rw [m0] at e0
  have e1:=fun K=>ads t ht y (1048576 - (f.tot:Int)) (by omega) (by omega) K
  have l0:¬ (1048576 - (f.tot:Int))<0:=by omega
  have hft:f.tot≤lim:=by unfold lim;omega
  by_cases c1:(t.tot:Int)≤1048576 - (f.tot:Int)
  case neg=>
    have m1:minus (1048576 - (f.tot:Int)) t.tot=-1:=if_neg c1
    rw [m1] at e1
    simp only [Ty.q,Tag_eq] at e0 e1
    generalize f.tot=F at *
    simp -implicitDefEqProofs [Ty.q,cb',e0,l0,e1]
  have m1:minus (1048576 - (f.tot:Int)) t.tot=1048576 - (f.tot:Int) - (t.tot:Int):=if_pos c1
  rw [m1] at e1
  have l1:¬ (1048576 - (f.tot:Int) - (t.tot:Int))<0:=by omega
  have htt:t.tot≤lim:=by unfold lim;omega
  have e2:=fun K=>adt f hft x K
  have e3:=fun K=>adt t htt y K
  have hfn:f.nrm.tot≤lim:=by rw [akg];exact hft
  have htn:t.nrm.tot≤lim:=by rw [akg];exact htt
  have e4:=adl f.nrm hfn
  have e5:=adl t.nrm htn
  have e6:=afi f.nrm t.nrm hfn htn b cb cl
  have e7:=af0 f.nrm t.nrm hfn htn b cb cl
  generalize @ite _ (Gd 3 f.nrm∧Ok 3 f.nrm b∧Gd 3 t.nrm) (Classical.propDecidable _) (cvR f.nrm t.nrm [b] cl).1 []=R1 at e6 e7
  generalize @ite _ (Gd 3 f.nrm∧Ok 3 f.nrm b∧Gd 3 t.nrm) (Classical.propDecidable _) (cvR f.nrm t.nrm [b] cl).2 1=R2 at e6 e7
  rw [Ty.v_w] at e2 e3
  generalize f.nrm=f' at *
  generalize t.nrm=t' at *
  generalize f.tot=F at *
  generalize t.tot=T at *
  simp only [Ty.q,Tag_eq] at e0 e1 e2 e3
  simp -implicitDefEqProofs [Ty.q,cb',e0,l0,e1,l1,e2,e3,e4,e5,e6,e7]
theorem cbLaw (x y:Q4) (f t:Ty) (hf:f.Big) (ht:t.Big) (b:Bs) (cl:Bool) (K:Out→Prop):
    Call prog 613 ⟨[.agg (f.q x),.agg (t.q y),.s b,.b cl],[],[]⟩ K=K (.b true,[],[]):=by
  refine Zc (f:=613) rfl rfl (by decide) ?_
  by_cases cb:b.length≤1048576
  case neg=>
    have c0:(1048576<(b.length:Int))=True:=eq_true (by omega)
    simp -implicitDefEqProofs [Ty.q,c0]
  have cb':(1048576<(b.length:Int))=False:=eq_false (by omega)
  have e0:=fun K=>ads f hf x 1048576 (by decide) (by decide) K
  by_cases c0:(f.tot:Int)≤1048576
  case neg=>
    have m0:minus 1048576 f.tot=-1:=if_neg c0
    rw [m0] at e0
    simp only [Ty.q,Tag_eq] at e0
    simp -implicitDefEqProofs [Ty.q,cb',e0]
  have m0:minus 1048576 f.tot=1048576 - (f.tot:Int):=if_pos c0
  rw [m0] at e0
  have e1:=fun K=>ads t ht y (1048576 - (f.tot:Int)) (by omega) (by omega) K
  have l0:¬ (1048576 - (f.tot:Int))<0:=by omega
  have hft:f.tot≤lim:=by unfold lim;omega
  by_cases c1:(t.tot:Int)≤1048576 - (f.tot:Int)
  case neg=>
    have m1:minus (1048576 - (f.tot:Int)) t.tot=-1:=if_neg c1
    rw [m1] at e1
    simp only [Ty.q,Tag_eq] at e0 e1
    generalize f.tot=F at *
    simp -implicitDefEqProofs [Ty.q,cb',e0,l0,e1]
  have m1:minus (1048576 - (f.tot:Int)) t.tot=1048576 - (f.tot:Int) - (t.tot:Int):=if_pos c1
  rw [m1] at e1
  have l1:¬ (1048576 - (f.tot:Int) - (t.tot:Int))<0:=by omega
  have htt:t.tot≤lim:=by unfold lim;omega
  have e2:=fun K=>adt f hft x K
  have e3:=fun K=>adt t htt y K
  have hfn:f.nrm.tot≤lim:=by rw [akg];exact hft
  have htn:t.nrm.tot≤lim:=by rw [akg];exact htt
  have e4:=adl f.nrm hfn
  have e5:=adl t.nrm htn
  have e6:=af7 f.nrm t.nrm hfn htn b cb cl
  have e7:=ag9 f.nrm t.nrm hfn htn b cb cl
  generalize cbR f.nrm t.nrm b cl=R at e6 e7
  obtain ⟨R1,R2⟩:=R
  simp only at e6 e7
  rw [Ty.v_w] at e2 e3
  generalize f.nrm=f' at *
  generalize t.nrm=t' at *
  generalize f.tot=F at *
  generalize t.tot=T at *
  simp only [Ty.q,Tag_eq] at e0 e1 e2 e3
  simp -implicitDefEqProofs [Ty.q,cb',e0,l0,e1,l1,e2,e3,e4,e5,e6,e7]
end Go.VS
end
