/-
  Zero elements, ranges, members, numbers and texts converted.
-/
import Derived.Test.YtmmbgajolgbhnaaGreatDoorD3
set_option linter.all false
section
namespace Go.VS
set_option maxRecDepth 4000
def lay (size:Nat):Nat→List (Nat × Bs)→Bs
  | pos,[]=>List.replicate (size - pos) 0
  | pos,x :: l=>List.replicate (x.1 - pos) 0++(x.2++lay size (x.1+x.2.length) l)
def OrdN (size:Nat):Nat→List (Nat × Nat)→Prop
  | pos,[]=>pos≤size
  | pos,x :: l=>pos≤x.1∧OrdN size (x.1+x.2) l
def shp (l:List (Nat × Bs)):List (Nat × Nat):=l.map fun x=>(x.1,x.2.length)
theorem OrdN.le {size:Nat}:∀ {pos:Nat} {l:List (Nat × Nat)},OrdN size pos l→pos≤size
  | _,[],h=>h
  | _,_ :: _,h=>by have:=OrdN.le h.2;have:=h.1;omega
theorem aql {size:Nat}:∀ {pos:Nat} {l:List (Nat × Bs)},OrdN size pos (shp l)→(lay size pos l).length=size - pos
  | _,[],_=>by simp [lay]
  | pos,x :: l,h=>by
    have h1:pos≤x.1:=h.1
    have h2:OrdN size (x.1+x.2.length) (shp l):=h.2
    have h3:=h2.le
    rw [lay,List.length_append,List.length_append,aql h2,List.length_replicate]
    omega
def ovw (b:Bs) (o:Nat) (x:Bs):Bs:=b.take o++(x++b.drop (o+x.length))
theorem aq0 (a b:Bs) (k:Nat) (x:Bs):ovw (a++b) (a.length+k) x=a++ovw b k x:=by
  unfold ovw
  rw [List.take_length_add_append,Nat.add_assoc,List.drop_length_add_append,List.append_assoc]
theorem aq1 {size:Nat}:∀ {pos:Nat} {l:List (Nat × Bs)} {i:Nat} (h:OrdN size pos (shp l)) (hi:i<l.length) (x:Bs),x.length=l[i].2.length →
    ovw (lay size pos l) (l[i].1 - pos) x=lay size pos (l.set i (l[i].1,x))∧pos≤l[i].1
  | _,[],_,_,hi,_,_=>by simp at hi
  | pos,y :: l,0,h,_,x,hx=>by
    have h1:pos≤y.1:=h.1
    simp only [List.getElem_cons_zero] at hx ⊢
    refine ⟨?_,h1⟩
    rw [List.set_cons_zero,lay,lay]
    have e:=aq0 (List.replicate (y.1 - pos) 0) (y.2++lay size (y.1+y.2.length) l) 0 x
    rw [List.length_replicate,Nat.add_zero] at e
    rw [e]
    congr 1
    unfold ovw
    rw [List.take_zero,List.nil_append,Nat.zero_add,hx,List.drop_left]
  | pos,y :: l,i+1,h,hi,x,hx=>by
    have h1:pos≤y.1:=h.1
    have h2:OrdN size (y.1+y.2.length) (shp l):=h.2
    simp only [List.getElem_cons_succ] at hx ⊢
    have hi':i<l.length:=by simpa using hi
    obtain ⟨e1,e2⟩:=aq1 h2 hi' x hx
    refine ⟨?_,by omega⟩
    rw [List.set_cons_succ,lay,lay,← List.append_assoc,← List.append_assoc]
    have e:=aq0 (List.replicate (y.1 - pos) 0++y.2) (lay size (y.1+y.2.length) l) (l[i].1 - (y.1+y.2.length)) x
    rw [List.length_append,List.length_replicate,e1] at e
    rw [show l[i].1 - pos=y.1 - pos+y.2.length+(l[i].1 - (y.1+y.2.length)) by omega]
    exact e
theorem aoc {size:Nat}:∀ {pos:Nat} {l:List (Nat × Bs)} (_:OrdN size pos (shp l)) (_:∀ x,x ∈ l→x.2=List.replicate x.2.length 0),lay size pos l=List.replicate (size - pos) 0
  | _,[],_,_=>rfl
  | pos,x :: l,h,hz=>by
    have h1:pos≤x.1:=h.1
    have h2:OrdN size (x.1+x.2.length) (shp l):=h.2
    have h3:=h2.le
    rw [lay,aoc h2 fun y hy=>hz y (by simp [hy]),hz x (by simp),List.length_replicate,← List.append_assoc,List.replicate_append_replicate,List.replicate_append_replicate]
    congr 1
    omega
def offs (l:List Mb):List (Nat × Nat):=l.map fun m=>(m.off.toNat,m.ty.sz.toNat)
theorem Lay.ord {l:List Mb} {s:Int} (h:Lay l s):∀ k,k≤l.length→OrdN s.toNat (endOf l (l.length - k)).toNat (offs (l.drop (l.length - k)))
  | 0,_=>by
    rw [Nat.sub_zero,List.drop_length]
    have:=h.en
    show (endOf l l.length).toNat≤s.toNat
    omega
  | k+1,hk=>by
    have ih:=h.ord k (by omega)
    have hi:l.length - (k+1)<l.length:=by omega
    rw [List.drop_eq_getElem_cons hi,show l.length - (k+1)+1=l.length - k by omega]
    have h1:=h.lo _ hi
    have h2:=h.sz _ hi
    have h0:=h.nn (Nat.le_of_lt hi)
    have e:=aah hi
    rw [show l.length - (k+1)+1=l.length - k by omega] at e
    rw [e] at ih
    refine ⟨?_,?_⟩
    · show (endOf l (l.length - (k+1))).toNat≤(l[l.length - (k+1)].off).toNat
      omega
    · show OrdN s.toNat ((l[l.length - (k+1)].off).toNat+(l[l.length - (k+1)].ty.sz).toNat) (offs (l.drop (l.length - k)))
      rw [show (l[l.length - (k+1)].off).toNat+(l[l.length - (k+1)].ty.sz).toNat=(l[l.length - (k+1)].off+l[l.length - (k+1)].ty.sz).toNat by omega]
      exact ih
theorem Lay.ord0 {l:List Mb} {s:Int} (h:Lay l s):OrdN s.toNat 0 (offs l):=by
  have:=h.ord l.length (Nat.le_refl _)
  rw [Nat.sub_self,List.drop_zero] at this
  exact this
def itm (f:Mb→Bs) (l:List Mb):List (Nat × Bs):=l.map fun m=>(m.off.toNat,f m)
def mixM (f g:Mb→Bs) (l:List Mb) (i:Nat):List (Nat × Bs):=itm f (l.take i)++itm g (l.drop i)
theorem ako {f:Mb→Bs} {l:List Mb} (h:∀ m,m ∈ l→(f m).length=m.ty.sz.toNat):shp (itm f l)=offs l:=by
  unfold shp itm offs
  rw [List.map_map]
  exact List.map_congr_left fun m hm=>by simp [h m hm]
theorem aov {f g:Mb→Bs} {l:List Mb} (hf:∀ m,m ∈ l→(f m).length=m.ty.sz.toNat) (hg:∀ m,m ∈ l→(g m).length=m.ty.sz.toNat) (i:Nat):shp (mixM f g l i)=offs l:=by
  have e:shp (mixM f g l i)=shp (itm f (l.take i))++shp (itm g (l.drop i)):=by simp [shp,mixM]
  rw [e,ako fun m hm=>hf m (List.mem_of_mem_take hm),ako fun m hm=>hg m (List.mem_of_mem_drop hm)]
  unfold offs
  rw [← List.map_append,List.take_append_drop]
theorem aiu (f g:Mb→Bs) (l:List Mb):mixM f g l 0=itm g l:=by simp [mixM,itm]
theorem aof (f g:Mb→Bs) (l:List Mb):mixM f g l l.length=itm f l:=by simp [mixM,itm]
theorem aog (f g:Mb→Bs) {l:List Mb} {i:Nat} (hi:i<l.length):∃ h:i<(mixM f g l i).length,(mixM f g l i)[i]=(l[i].off.toNat,g l[i]):=by
  refine ⟨by simp [mixM,itm];omega,?_⟩
  unfold mixM itm
  rw [List.getElem_append_right (by simp;omega)]
  simp [Nat.min_eq_left (Nat.le_of_lt hi)]
theorem aoh (f g:Mb→Bs) {l:List Mb} {i:Nat} (hi:i<l.length):(mixM f g l i).set i (l[i].off.toNat,f l[i])=mixM f g l (i+1):=by
  unfold mixM itm
  rw [List.set_append_right _ _ (by simp;omega),List.length_map,List.length_take,Nat.min_eq_left (Nat.le_of_lt hi),Nat.sub_self,List.drop_eq_getElem_cons hi,List.map_cons,List.set_cons_zero,← List.take_append_getElem hi,
    List.map_append,List.append_assoc]
  rfl
theorem alv {l:List Mb} {s:Int} (L:Lay l s) {f g:Mb→Bs} (hf:∀ m,m ∈ l→(f m).length=m.ty.sz.toNat) (hg:∀ m,m ∈ l→(g m).length=m.ty.sz.toNat) {i:Nat} (hi:i<l.length):
    ovw (lay s.toNat 0 (mixM f g l i)) l[i].off.toNat (f l[i])=lay s.toNat 0 (mixM f g l (i+1)):=by
  obtain ⟨h,e⟩:=aog f g hi
  have o:OrdN s.toNat 0 (shp (mixM f g l i)):=by rw [aov hf hg];exact L.ord0
  have:=(aq1 o h (f l[i]) (by rw [e];show (f l[i]).length=(g l[i]).length;rw [hf _ (List.getElem_mem hi),hg _ (List.getElem_mem hi)])).1
  rw [e] at this
  rw [Nat.sub_zero] at this
  rw [this,aoh f g hi]
theorem ake {l:List Mb} {s:Int} (L:Lay l s) {f g:Mb→Bs} (hf:∀ m,m ∈ l→(f m).length=m.ty.sz.toNat) (hg:∀ m,m ∈ l→(g m).length=m.ty.sz.toNat) (i:Nat):(lay s.toNat 0 (mixM f g l i)).length=s.toNat:=by
  have o:OrdN s.toNat 0 (shp (mixM f g l i)):=by rw [aov hf hg];exact L.ord0
  rw [aql o];omega
theorem aqg {l:List Mb} {s:Int} (L:Lay l s) {f:Mb→Bs} (hf:∀ m,m ∈ l→(f m).length=m.ty.sz.toNat):(lay s.toNat 0 (itm f l)).length=s.toNat:=by
  have:=ake L hf hf 0
  rwa [aiu] at this
def outI (f:Mb→Bs):Bs→List Mb→Bs
  | out,[]=>out
  | out,m :: l=>outI f (out++(List.replicate (m.off.toNat - out.length) 0++f m)) l
theorem ag1 (f:Mb→Bs):∀ (l:List Mb) (out:Bs) (m:Mb),outI f out (l++[m])=outI f out l++(List.replicate (m.off.toNat - (outI f out l).length) 0++f m)
  | [],_,_=>rfl
  | x :: l,out,m=>by rw [List.cons_append,outI,outI,ag1 f l]
theorem aoo (f:Mb→Bs) (size:Nat):∀ (l:List Mb) (out:Bs),(∀ m,m ∈ l→out.length≤m.off.toNat∨True)→OrdN size out.length (shp (itm f l)) →
    outI f out l++List.replicate (size - (outI f out l).length) 0=out++lay size out.length (itm f l)
  | [],out,_,_=>rfl
  | m :: l,out,_,h=>by
    have h1:out.length≤m.off.toNat:=h.1
    have h2:OrdN size (m.off.toNat+(f m).length) (shp (itm f l)):=h.2
    have e:(out++(List.replicate (m.off.toNat - out.length) 0++f m)).length=m.off.toNat+(f m).length:=by
      rw [List.length_append,List.length_append,List.length_replicate];omega
    have:=aoo f size l (out++(List.replicate (m.off.toNat - out.length) 0++f m)) (fun _ _=>.inr trivial) (by rw [e];exact h2)
    rw [outI,this,e]
    show _=out++(List.replicate (m.off.toNat - out.length) 0++(f m++lay size (m.off.toNat+(f m).length) (itm f l)))
    simp only [List.append_assoc]
theorem aon {l:List Mb} {s:Int} (L:Lay l s) {f:Mb→Bs} (hf:∀ m,m ∈ l→(f m).length=m.ty.sz.toNat):
    outI f [] l++List.replicate (s.toNat - (outI f [] l).length) 0=lay s.toNat 0 (itm f l):=by
  have:=aoo f s.toNat l [] (fun _ _=>.inr trivial) (by rw [ako hf];exact L.ord0)
  rw [this];rfl
theorem akh {l:List Mb} {s:Int} (L:Lay l s) {f:Mb→Bs} (hf:∀ m,m ∈ l→(f m).length=m.ty.sz.toNat):∀ i,i≤l.length→((outI f [] (l.take i)).length:Int)=endOf l i
  | 0,_=>rfl
  | i+1,hi=>by
    have ih:=akh L hf i (by omega)
    have hl:i<l.length:=by omega
    have h1:=L.lo i hl
    have h2:=L.sz i hl
    rw [← List.take_append_getElem hl,ag1,aah hl]
    simp only [List.length_append,List.length_replicate,hf _ (List.getElem_mem hl)]
    omega
end Go.VS
end
section
namespace Go.VS
set_option maxRecDepth 4000
attribute [-simp] isLeaf okRet ridL V.leaves
def Zr:Nat→Ty→Bs
  | 0,_=>[]
  | d+1,t=>if t.kind=3 then t.it.put (t.nums.headD 0)
    else if t.kind=4 then lay t.size.toNat 0 (itm (fun m=>Zr d m.ty) t.ms)
    else if t.kind=5 then (List.replicate t.count.toNat (Zr d (t.base.headD Ty.zero))).flatten
    else List.replicate t.size.toNat 0
theorem aq9 (t:Ty) (n:Int):(t.put n).length=t.size.toNat:=by simp [Ty.put]
theorem sz0 {t:Ty} (k3:t.kind≠3) (k5:t.kind≠5):t.sz=t.size:=by rw [Ty.sz_eq,if_neg k3,if_neg k5]
theorem ane (x:Bs):∀ n:Nat,((List.replicate n x).flatten).length=n*x.length
  | 0=>by simp
  | n+1=>by rw [List.replicate_succ,List.flatten_cons,List.length_append,ane x n,Nat.succ_mul,Nat.add_comm]
theorem asj (x:Bs) (n:Nat):(List.replicate (n+1) x).flatten=(List.replicate n x).flatten++x:=by
  rw [List.replicate_succ',List.flatten_append];simp
theorem Zr_len:∀ {d:Nat} {t:Ty},Gd d t→(Zr d t).length=t.sz.toNat
  | 0,_,g=>g.elim
  | d+1,t,g=>by
    rw [Zr]
    by_cases k3:t.kind=3
    · obtain ⟨c,hc,_⟩:=(g.enum k3).ba
      rw [if_pos k3,aq9,it3 k3 hc,sz3 k3 hc]
    rw [if_neg k3]
    by_cases k4:t.kind=4
    · rw [if_pos k4,sz4 k4]
      exact aqg (g.lay k4) fun m hm=>Zr_len ((g.comp k4).2 m hm)
    rw [if_neg k4]
    by_cases k5:t.kind=5
    · obtain ⟨ag,c,hc,gc,_⟩:=g.arr k5
      have:=ag.c1
      have:=gc.sz
      rw [if_pos k5,ane,hc]
      show t.count.toNat * (Zr d c).length=t.sz.toNat
      rw [Zr_len gc,sz5 k5 hc,Int.toNat_mul (by omega) (by omega)]
    · rw [if_neg k5,List.length_replicate,sz0 k3 k5]
theorem ale:∀ {l:List Int} (h:0<l.length),l.headD 0=l[0]
  | _ :: _,_=>rfl
theorem aoz (x:Bs) (n:Nat) (h:n≤lim) (h2:x.length*n≤lim) (K:Out→Prop):Call prog 286 ⟨[.s x,.i .i64 n],[],[]⟩ K=K (.s (List.replicate n x).flatten,[],[]):=by
  rw [aec (p:=prog) (f:=286) rfl]
  have:nRepeat ⟨[.s x,.i .i64 n],[],[]⟩=some (.s (List.replicate n x).flatten,[],[]):=by
    simp only [nRepeat]
    rw [if_pos ⟨by omega,by omega,by simpa using h2⟩,Int.toNat_natCast]
  rw [this,ae8]
theorem ahp:∀ (d:Nat) {t:Ty} (_:Gd d t) (K:Out→Prop),Call prog 493 ⟨[t.w],[],[]⟩ K=K (.s (Zr d t),[],[])
  | 0,_,g,_=>g.elim
  | d+1,t,g,K=>by
    have ih:=fun {t:Ty} (g:Gd d t)=>ahp d g
    refine Zc (f:=493) rfl rfl (by decide) ?_
    have hl:=Zr_len g
    have hsz:=g.sz
    rw [Zr] at hl ⊢
    by_cases k3:t.kind=3
    · have f3:=eq_true k3
      have en:=g.enum k3
      obtain ⟨c,hc,k1,ig,_⟩:=en.ba
      obtain ⟨b1,b2⟩:=base0 hc
      have n0:0<t.nums.length:=by rw [en.nn];exact en.n1
      have hn:=ale n0
      have e1:=alm c ig.toIntF t.nums[0]
      rw [if_pos k3,it3 k3 hc,hn]
      simp -implicitDefEqProofs [f3,b1,b2,n0,Ty.v_w,e1]
    have f3:=eq_false k3
    rw [if_neg k3] at hl ⊢
    by_cases k4:t.kind=4
    · have f4:=eq_true k4
      rw [if_pos k4] at hl ⊢
      obtain ⟨c,gm⟩:=g.comp k4
      have L:=g.lay k4
      have hs:=c.s2
      have hn:=c.n4
      have hf:∀ m,m ∈ t.ms→((fun m:Mb=>Zr d m.ty) m).length=m.ty.sz.toNat:=fun m hm=>Zr_len (gm m hm)
      simp -implicitDefEqProofs [f3,f4]
      refine WL_for (fun i=>⟨sp 80 [(1,.ptr 0 0),(3,.s (outI (fun m=>Zr d m.ty) [] (t.ms.take i))),(4,.i .i64 i)],[t.k],[]⟩) t.ms.length (fun _=>True) _ (by simp -implicitDefEqProofs [outI]) trivial ?_
      intro i hi _
      have hol:=akh L hf i hi
      have h0:=L.nn hi
      have hle:=L.le hi
      by_cases hlt:i<t.ms.length
      · have hw:=wrap_i64 (n:=(i:Int)+1) (by omega) (by omega)
        have gz:=gm _ (List.getElem_mem hlt)
        have hsz:=gz.sz
        have h1:=L.lo i hlt
        have hle2:=L.le (i:=i+1) hlt
        rw [aah hlt] at hle2
        have e2:=ih gz
        have hnm:(t.ms.take (i+1))=t.ms.take i++[t.ms[i]]:=(List.take_append_getElem hlt).symm
        have hos:=ag1 (fun m=>Zr d m.ty) (t.ms.take i) [] t.ms[i]
        rw [← hnm] at hos
        have hfm:(Zr d t.ms[i].ty).length=t.ms[i].ty.sz.toNat:=hf _ (List.getElem_mem hlt)
        generalize hm:t.ms[i]=m at *
        generalize hO:outI (fun m=>Zr d m.ty) [] (t.ms.take i)=O at *
        have hw2:=wrap_i64 (n:=m.off - (O.length:Int)) (by omega) (by omega)
        have e1:=aa5 (m.off.toNat - O.length) (by unfold lim;omega)
        rw [show ((m.off.toNat - O.length:Nat):Int)=m.off - O.length by omega] at e1
        have c1:(m.off.toNat - O.length)+(Zr d m.ty).length≤lim:=by unfold lim;omega
        have c2:O.length+((m.off.toNat - O.length)+(Zr d m.ty).length)≤lim:=by unfold lim;omega
        simp -implicitDefEqProofs [hlt,hm,Mb.c_w,hw,hw2,e1,e2,c1,c2,hos,Next]
      · obtain rfl:i=t.ms.length:=by omega
        have ha:=aon L hf
        rw [List.take_length] at hol ⊢
        generalize hO:outI (fun m=>Zr d m.ty) [] t.ms=O at *
        have hw2:=wrap_i64 (n:=t.size - (O.length:Int)) (by omega) (by omega)
        have e1:=aa5 (t.size.toNat - O.length) (by unfold lim;omega)
        rw [show ((t.size.toNat - O.length:Nat):Int)=t.size - O.length by omega] at e1
        have c2:O.length+(t.size.toNat - O.length)≤lim:=by unfold lim;omega
        simp -implicitDefEqProofs [hw2,e1,c2,ha]
    have f4:=eq_false k4
    rw [if_neg k4] at hl ⊢
    by_cases k5:t.kind=5
    · have f5:=eq_true k5
      obtain ⟨ag,c,hc,gc,h24⟩:=g.arr k5
      have c1:=ag.c1
      have c4:=ag.c4
      obtain ⟨b1,b2⟩:=base0 hc
      have e1:=ih gc
      have hz:=Zr_len gc
      have hcs:=gc.sz
      obtain ⟨n,hn⟩:∃ n:Nat,t.count=n:=⟨t.count.toNat,by omega⟩
      rw [if_pos k5,hc,hn] 
      show _ 
      have ehd:([c]:List Ty).headD Ty.zero=c:=rfl
      rw [ehd,Int.toNat_natCast]
      simp -implicitDefEqProofs [f3,f4,f5,b1,b2,Ty.v_w]
      refine WL_for (fun i=>⟨sp 80 [(1,.ptr 0 0),(6,.s (List.replicate i (Zr d c)).flatten),(7,.i .i64 i)],[t.k],[]⟩) n (fun _=>True) _ (by simp -implicitDefEqProofs) trivial ?_
      intro i hi _
      by_cases hlt:i<n
      · have h1:((i:Int)<t.count)=True:=eq_true (by omega)
        have hw:=wrap_i64 (n:=(i:Int)+1) (by omega) (by omega)
        have hr:=ane (Zr d c) i
        have hm:i*(Zr d c).length≤4*24:=Nat.mul_le_mul (by omega) (by omega)
        have c2:((List.replicate i (Zr d c)).flatten).length+(Zr d c).length≤lim:=by unfold lim;omega
        have hs:=asj (Zr d c) i
        generalize hX:(List.replicate i (Zr d c)).flatten=X at *
        simp -implicitDefEqProofs [h1,hlt,b1,b2,Ty.v_w,hw,e1,c2,hs,Next]
      · obtain rfl:i=n:=by omega
        have h1:((i:Int)<t.count)=False:=eq_false (by omega)
        simp -implicitDefEqProofs [h1]
    · have f5:=eq_false k5
      rw [if_neg k5] at hl ⊢
      rw [sz0 k3 k5] at hsz
      have e1:=aa5 t.size.toNat (by unfold lim;omega)
      rw [show ((t.size.toNat:Nat):Int)=t.size by omega] at e1
      simp -implicitDefEqProofs [f3,f4,f5,e1]
end Go.VS
end
section
namespace Go.VS
set_option maxRecDepth 4000
attribute [-simp] isLeaf okRet ridL V.leaves
theorem aq2 (b x:Bs) (o:Nat):(bytesV b).take o++(bytesV x++(bytesV b).drop (o+x.length))=bytesV (ovw b o x):=by
  simp [bytesV,ovw]
theorem layz (l:List Mb) {s:Int} (L:Lay l s):lay s.toNat 0 (itm (fun m=>List.replicate m.ty.sz.toNat 0) l)=List.replicate s.toNat 0:=by
  have:=aoc (size:=s.toNat) (pos:=0) (l:=itm (fun m=>List.replicate m.ty.sz.toNat 0) l) (by rw [ako fun m _=>by simp];exact L.ord0) (fun x hx=>by
    obtain ⟨m,hm,rfl⟩:=List.mem_map.mp hx
    simp)
  rw [this,Nat.sub_zero]
theorem amd:∀ (d:Nat) {t:Ty} (_:Gd d t) (K:Out→Prop),Call prog 542 ⟨[t.w],[],[]⟩ K=K (.s (Zr d t),[],[])
  | 0,_,g,_=>g.elim
  | d+1,t,g,K=>by
    have ih:=fun {t:Ty} (g:Gd d t)=>amd d g
    refine Zc (f:=542) rfl rfl (by decide) ?_
    have hl:=Zr_len g
    have hsz:=g.sz
    rw [Zr] at hl ⊢
    by_cases k3:t.kind=3
    · have f3:=eq_true k3
      have en:=g.enum k3
      have n0:0<t.nums.length:=by rw [en.nn];exact en.n1
      have hn:=ale n0
      have e1:=ajf (g.n (.inr (.inl k3))) t.nums[0]
      rw [if_pos k3,hn]
      simp -implicitDefEqProofs [f3,n0,e1]
    have f3:=eq_false k3
    rw [if_neg k3] at hl ⊢
    by_cases k4:t.kind=4
    · have f4:=eq_true k4
      have f5:=eq_false (show t.kind≠5 by omega)
      rw [if_pos k4] at hl ⊢
      obtain ⟨c,gm⟩:=g.comp k4
      have L:=g.lay k4
      have hs:=c.s2
      have hn:=c.n4
      have hf:∀ m,m ∈ t.ms→((fun m:Mb=>Zr d m.ty) m).length=m.ty.sz.toNat:=fun m hm=>Zr_len (gm m hm)
      have hg:∀ m,m ∈ t.ms→((fun m:Mb=>(List.replicate m.ty.sz.toNat 0:Bs)) m).length=m.ty.sz.toNat:=fun m hm=>by simp
      have s1:=c.s1
      have e0:=afh t.size.toNat (by unfold lim;omega)
      rw [show ((t.size.toNat:Nat):Int)=t.size by omega] at e0
      have hz:=layz t.ms L
      have hlm:t.size.toNat≤lim:=by unfold lim;omega
      rw [← hz] at e0
      have h0:=aiu (fun m:Mb=>Zr d m.ty) (fun m:Mb=>(List.replicate m.ty.sz.toNat 0:Bs)) t.ms
      rw [← h0] at e0
      have hml:=ake L hf hg
      have hml0:=hml 0
      simp -implicitDefEqProofs [f3,f4,f5,e0,hlm,hml0]
      refine WL_for (fun i=>⟨sp 53 [(3,.sl 0 0 t.size.toNat false),(33,slv t.nc true 11 (t.ms.map Mb.c)),(34,.i .i64 t.ms.length),(35,.i .i64 i)],[t.k],[.row 1 false (bytesV (lay t.size.toNat 0 (mixM (fun m:Mb=>Zr d m.ty) (fun m:Mb=>(List.replicate m.ty.sz.toNat 0:Bs)) t.ms i)))]⟩) t.ms.length (fun _=>True) _ (by simp -implicitDefEqProofs) trivial ?_
      intro i hi _
      have hmi:=hml i
      by_cases hlt:i<t.ms.length
      · have hw:=wrap_i64 (n:=(i:Int)+1) (by omega) (by omega)
        have gz:=gm _ (List.getElem_mem hlt)
        have hsz:=gz.sz
        have h1:=L.lo i hlt
        have h0:=L.nn hi
        have hle:=L.le (i:=i+1) hlt
        rw [aah hlt] at hle
        have e2:=ih gz
        have hst:=alv L hf hg hlt
        have hfm:(Zr d t.ms[i].ty).length=t.ms[i].ty.sz.toNat:=hf _ (List.getElem_mem hlt)
        generalize hm:t.ms[i]=m at *
        obtain ⟨o,ho⟩:∃ o:Nat,m.off=o:=⟨m.off.toNat,by omega⟩
        obtain ⟨S,hS⟩:∃ S:Nat,t.size=S:=⟨t.size.toNat,by omega⟩
        rw [ho,hS,Int.toNat_natCast,Int.toNat_natCast] at hst
        have hr:=aq2 (lay S 0 (mixM (fun m:Mb=>Zr d m.ty) (fun m:Mb=>(List.replicate m.ty.sz.toNat 0:Bs)) t.ms i)) (Zr d m.ty) o
        rw [hst] at hr
        have c1:((o:Int)≤S)=True:=eq_true (by omega)
        have c1':o≤S:=by omega
        have c2:(Zr d m.ty).take (S - o)=Zr d m.ty:=List.take_of_length_le (by omega)
        rw [hS,Int.toNat_natCast] at hmi
        simp -implicitDefEqProofs [hlt,hm,Mb.c_w,hw,e2,ho,hS,c1,c1',c2,hr,hmi,Next]
      · obtain rfl:i=t.ms.length:=by omega
        rw [aof] at hmi ⊢
        have ht:=ac5 _ hmi
        simp -implicitDefEqProofs [cvsV,ht]
    have f4:=eq_false k4
    rw [if_neg k4] at hl ⊢
    by_cases k5:t.kind=5
    · have f5:=eq_true k5
      obtain ⟨ag,c,hc,gc,h24⟩:=g.arr k5
      have c1:=ag.c1
      have c4:=ag.c4
      obtain ⟨b1,b2⟩:=base0 hc
      have e1:=ih gc
      have hz:=Zr_len gc
      have hcs:=gc.sz
      obtain ⟨n,hn⟩:∃ n:Nat,t.count=n:=⟨t.count.toNat,by omega⟩
      rw [if_pos k5,hc,hn]
      have ehd:([c]:List Ty).headD Ty.zero=c:=rfl
      have hm:(Zr d c).length*n≤24*4:=Nat.mul_le_mul (by omega) (by omega)
      have e2:=aoz (Zr d c) n (by unfold lim;omega) (by unfold lim;omega)
      rw [ehd,Int.toNat_natCast]
      rw [← hn] at e2
      simp -implicitDefEqProofs [f3,f4,f5,b1,b2,Ty.v_w,e1,e2]
    · have f5:=eq_false k5
      rw [if_neg k5] at hl ⊢
      have hs2:=sz0 k3 k5
      have e1:=abl g
      have e2:=afh t.size.toNat (by unfold lim;omega)
      rw [show ((t.size.toNat:Nat):Int)=t.size by omega] at e2
      rw [hs2] at e1
      simp -implicitDefEqProofs [f3,f4,f5,e1,e2]
end Go.VS
end
section
namespace Go.VS
set_option maxRecDepth 4000
attribute [-simp] isLeaf okRet ridL V.leaves
def Srt (l:List Int):Prop:=∀ i j (_:i<j) (h:j<l.length),l[i]<l[j]
structure LbAt (l:List Int) (x:Int) (r:Nat):Prop where
  le:r≤l.length
  lo:∀ k (_:k<r) (h:k<l.length),l[k]<x
  hi:∀ k (_:r≤k) (h:k<l.length),x≤l[k]
theorem LbAt.uniq {l:List Int} {x:Int} {r s:Nat} (h:LbAt l x r) (g:LbAt l x s):r=s:=by
  have h1:=h.le
  have h2:=g.le
  rcases Nat.lt_trichotomy r s with c | c | c
  · have:=g.lo r c (by omega);have:=h.hi r (Nat.le_refl _) (by omega);omega
  · exact c
  · have:=h.lo s c (by omega);have:=g.hi s (Nat.le_refl _) (by omega);omega
theorem lb_ex {l:List Int} (h:Srt l) (x:Int):∃ r,LbAt l x r:=by
  have:∀ n,n≤l.length→∃ r,r≤n∧(∀ k (_:k<r) (h:k<l.length),l[k]<x)∧(∀ k (_:r≤k) (_:k<n) (h:k<l.length),x≤l[k]):=by
    intro n
    induction n with
    | zero=>intro _;exact ⟨0,Nat.le_refl _,fun k hk=>by omega,fun k _ hk=>by omega⟩
    | succ n ih=>
      intro hn
      obtain ⟨r,h1,h2,h3⟩:=ih (by omega)
      by_cases c:r=n∧l[n]<x
      · refine ⟨n+1,Nat.le_refl _,fun k hk hl=>?_,fun k hk=>by omega⟩
        by_cases e:k<r
        · exact h2 k e hl
        · obtain rfl:k=n:=by omega
          exact c.2
      · refine ⟨r,by omega,h2,fun k hk hn' hl=>?_⟩
        by_cases e:k<n
        · exact h3 k hk e hl
        · obtain rfl:k=n:=by omega
          by_cases e2:r=k
          · have:¬ l[k]<x:=fun q=>c ⟨e2,q⟩
            omega
          · have:=h3 r (Nat.le_refl _) (by omega) (by omega)
            have:=h r k (by omega) hl
            omega
  obtain ⟨r,h1,h2,h3⟩:=this l.length (Nat.le_refl _)
  exact ⟨r,h1,h2,fun k hk hl=>h3 k hk hl hl⟩
theorem aky (x y:Int) (K:Out→Prop):Call prog 591 ⟨[.i .i64 x,.i .i64 y],[],[]⟩ K=K (.b (decide (x<y)),[],[]):=by
  refine Zc (f:=591) rfl rfl (by decide) ?_
  have e:=ao6 x
  simp -implicitDefEqProofs [e]
theorem apf (x:Int) (K:Out→Prop):Call prog 592 ⟨[.i .i64 x],[],[]⟩ K=K (.b false,[],[]):=by
  refine Zc (f:=592) rfl rfl (by decide) ?_
  simp -implicitDefEqProofs
theorem ag8 (q:Bool) (l:List Int) (x:Int) (hl:l.length≤lim) {r:Nat} (hr:LbAt l x r) (hs:Srt l) (K:Out→Prop):
    Call prog 584 ⟨[.view q 1 (l.map (V.i .i64)),.i .i64 x],[],[]⟩ K=K (.tup [.i .i64 r,.b (decide (l[r]?=some x))],[],[]):=by
  refine Zc (f:=584) rfl rfl (by decide) ?_
  unfold lim at hl
  simp -implicitDefEqProofs
  refine WL_st (α:=Nat × Nat) (fun a=>⟨sp 54 [(0,.view q 1 (l.map (V.i .i64))),(1,.i .i64 x),(6,.i .i64 l.length),(7,.i .i64 a.1),(8,.i .i64 a.2)],[],[]⟩) (fun a=>a.2 - a.1)
    (fun a=>a.1≤r∧r≤a.2∧a.2≤l.length) (0,l.length) _ (by simp -implicitDefEqProofs) ⟨Nat.zero_le _,hr.le,Nat.le_refl _⟩ ?_
  rintro ⟨i,j⟩ ⟨h1,h2,h3⟩
  simp only at h1 h2 h3 ⊢
  by_cases c:i<j
  · obtain ⟨h,hh⟩:∃ h:Nat,h=(i+j) / 2:=⟨_,rfl⟩
    have w1:=wrap_i64 (n:=(i:Int)+j) (by omega) (by omega)
    have w2:=wrap_u64 (n:=(i:Int)+j) (by omega) (by omega)
    have s1:shrI .u64 ((i:Int)+j) 1=(h:Int):=by
      unfold shrI
      rw [Int.fdiv_eq_ediv_of_nonneg _ (by decide)]
      show ((i:Int)+j) / 2=h
      omega
    have w3:=wrap_i64 (n:=(h:Int)) (by omega) (by omega)
    have w4:=wrap_i64 (n:=(h:Int)+1) (by omega) (by omega)
    have hl':h<l.length:=by omega
    have e1:=aky l[h] x
    by_cases lt:l[h]<x
    · have lt':=eq_true lt
      have hrr:h<r:=by
        by_cases e:h<r
        · exact e
        · have:=hr.hi h (by omega) hl';omega
      simp -implicitDefEqProofs [c,w1,w2,w3,w4,s1,hl',e1,lt']
      exact NextS.mk (h+1,j) ⟨by omega,by omega,h3⟩ (by simp only;omega) (by simp)
    · have lt':=eq_false lt
      have hrr:r≤h:=by
        by_cases e:h<r
        · have:=hr.lo h e hl';omega
        · omega
      simp -implicitDefEqProofs [c,w1,w2,w3,w4,s1,hl',e1,lt']
      exact NextS.mk (i,h) ⟨by omega,by omega,by omega⟩ (by simp only;omega) (by simp)
  · obtain rfl:i=r:=by omega
    obtain rfl:j=i:=by omega
    by_cases c2:j<l.length
    · have e:l[j]?=some l[j]:=List.getElem?_eq_getElem c2
      rw [e]
      have n1:=apf l[j]
      by_cases c3:l[j]=x
      · have c3':=eq_true c3
        simp -implicitDefEqProofs [c2,c3,n1]
      · have c3':=eq_false c3
        simp -implicitDefEqProofs [c2,c3',n1]
    · have e:l[j]?=none:=List.getElem?_eq_none (by omega)
      rw [e]
      simp -implicitDefEqProofs [c2]
def Ty.rL (t:Ty):Int:=if t.kind=3 then t.nums.getD 0 0 else lo t.it.size t.it.sg
def Ty.rH (t:Ty):Int:=if t.kind=3 then t.nums.getD (t.nums.length - 1) 0 else hi t.it.size t.it.sg
theorem ahu {t:Ty} (h:GdN t) (K:Out→Prop):Call prog 466 ⟨[t.w],[],[]⟩ K=K (.tup [.i .i64 t.rL,.i .i64 t.rH],[],[]):=by
  refine Zc (f:=466) rfl rfl (by decide) ?_
  unfold Ty.rL Ty.rH
  by_cases k3:t.kind=3
  · have en:=h.en k3
    have f3:=eq_true k3
    have n0:0<t.nums.length:=by rw [en.nn];exact en.n1
    have n6:=en.n6
    have nn:=en.nn
    have w:=wrap_i64 (n:=(t.nums.length:Int) - 1) (by omega) (by omega)
    obtain ⟨z,hz⟩:∃ z,t.nums.length - 1=z:=⟨_,rfl⟩
    have e1:(t.nums.length:Int) - 1=(z:Int):=by omega
    have hl:z<t.nums.length:=by omega
    rw [e1] at w
    rw [hz]
    simp -implicitDefEqProofs [f3,n0,w,e1,hl]
  have f3:=eq_false k3
  unfold Ty.it
  by_cases k6:t.kind=6
  · have f6:=eq_true k6
    have f1:=eq_false (show t.kind≠1 by omega)
    simp -implicitDefEqProofs [f3,f6,f1,Ty.ref2,lo,hi]
  · have f6:=eq_false k6
    have k1:t.kind=1:=by have:=h.n;omega
    have f1:=eq_true k1
    have e1:=adn t (h.int k1).toIntF
    simp -implicitDefEqProofs [f3,f6,f1,e1]
theorem aj9 {t:Ty} (h:GdN t) (K:Out→Prop):Call prog 564 ⟨[t.w],[],[]⟩ K=K (.tup [.i .i64 t.rL,.i .i64 t.rH],[],[]):=by
  refine Zc (f:=564) rfl rfl (by decide) ?_
  unfold Ty.rL Ty.rH
  by_cases k3:t.kind=3
  · have en:=h.en k3
    have f3:=eq_true k3
    have n0:0<t.nums.length:=by rw [en.nn];exact en.n1
    have n6:=en.n6
    have nn:=en.nn
    have w:=wrap_i64 (n:=(t.nums.length:Int) - 1) (by omega) (by omega)
    obtain ⟨z,hz⟩:∃ z,t.nums.length - 1=z:=⟨_,rfl⟩
    have e1:(t.nums.length:Int) - 1=(z:Int):=by omega
    have hl:z<t.nums.length:=by omega
    rw [e1] at w
    rw [hz]
    simp -implicitDefEqProofs [f3,n0,w,e1,hl]
  have f3:=eq_false k3
  have e1:=h.l03
  have e2:=adp t.it h.it
  simp -implicitDefEqProofs [f3,e1,e2]
end Go.VS
end
section
namespace Go.VS
set_option maxRecDepth 4000
attribute [-simp] isLeaf okRet ridL V.leaves
noncomputable def lbN (l:List Int) (x:Int):Nat:=@dite _ (∃ r,LbAt l x r) (Classical.propDecidable _) (fun h=>h.choose) (fun _=>0)
theorem lbN_at {l:List Int} (h:Srt l) (x:Int):LbAt l x (lbN l x):=by
  have e:=lb_ex h x
  unfold lbN
  rw [dif_pos e]
  exact e.choose_spec
def near (l:List Int) (n:Int) (r:Nat):Int:=if n - l.getD (r - 1) 0≤l.getD r 0 - n then l.getD (r - 1) 0 else l.getD r 0
noncomputable def Ty.clp (t:Ty) (n:Int):Int:=if n≤t.rL then t.rL else if t.rH≤n then t.rH else if t.kind=3 then near t.nums n (lbN t.nums n) else n
theorem IntF.bd {t:Ty} (h:IntF t):-9223372036854775808≤lo t.size t.sg∧hi t.size t.sg≤9223372036854775807:=by
  have g:=h.g
  unfold lo hi
  rcases h.s with s | s | s | s
  · rw [s];cases t.sg <;> simp
  · rw [s];cases t.sg <;> simp
  · rw [s];cases t.sg <;> simp
  · rw [s];rw [g s];simp
theorem EnumG.srt {t:Ty} (h:EnumG t):Srt t.nums:=by
  obtain ⟨b,_,_,_,e⟩:=h.ba
  have key:∀ d i (hd:i+d+1<t.nums.length),t.nums[i]'(by omega)<t.nums[i+d+1]:=by
    intro d
    induction d with
    | zero=>
      intro i hd
      have:=(e (i+1) (by rw [← h.nn];omega)).as (by omega)
      rw [aae (by omega),aae (by omega)] at this
      exact this
    | succ d ih=>
      intro i hd
      have h1:=ih i (by omega)
      have:=(e (i+d+1+1) (by rw [← h.nn];omega)).as (by omega)
      rw [aae (by omega),aae (by omega)] at this
      exact Int.lt_trans h1 this
  intro i j hij hj
  have:=key (j - i - 1) i (by omega)
  have e:i+(j - i - 1)+1=j:=by omega
  simp only [e] at this
  exact this
theorem EnumG.bd {t:Ty} (h:EnumG t):∀ i (hi:i<t.nums.length),-9223372036854775808≤t.nums[i]∧t.nums[i]≤9223372036854775807:=by
  obtain ⟨b,_,_,ig,e⟩:=h.ba
  intro i hi
  have:=e i (by rw [← h.nn];exact hi)
  have h1:=this.lo
  have h2:=this.hi
  rw [aae hi] at h1 h2
  have:=ig.toIntF.bd
  omega
theorem usub {x y:Int} (h0:0≤x - y) (h1:x - y<18446744073709551616):IntKind.u64.wrap (IntKind.u64.wrap x - IntKind.u64.wrap y)=x - y:=by
  simp [IntKind.wrap,IntKind.bits,IntKind.signed];omega
theorem akx {t:Ty} (h:GdN t) (n:Int) (K:Out→Prop):Call prog 571 ⟨[t.w,.i .i64 n],[],[]⟩ K=K (.i .i64 (t.clp n),[],[]):=by
  refine Zc (f:=571) rfl rfl (by decide) ?_
  have e1:=ahu h
  unfold Ty.clp
  by_cases c1:n≤t.rL
  · have c1':=eq_true c1
    simp -implicitDefEqProofs [e1,c1']
  have c1':=eq_false c1
  by_cases c2:t.rH≤n
  · have c2':=eq_true c2
    simp -implicitDefEqProofs [e1,c1',c2']
  have c2':=eq_false c2
  by_cases k3:t.kind=3
  case neg=>
    have f3:=eq_false k3
    simp -implicitDefEqProofs [e1,c1',c2',f3]
  have f3:=eq_true k3
  have en:=h.en k3
  have n6:=en.n6
  have n1:=en.n1
  have nn:=en.nn
  have srt:=en.srt
  have hL:=lbN_at srt n
  rw [if_neg c1,if_neg c2,if_pos k3]
  have e2:=fun q=>ag8 q t.nums n (by unfold lim;omega) hL srt
  generalize lbN t.nums n=r at *
  have eL:t.rL=t.nums[0]:=by unfold Ty.rL;rw [if_pos k3,aae (by omega)]
  have eH:t.rH=t.nums[t.nums.length - 1]:=by unfold Ty.rH;rw [if_pos k3,aae (by omega)]
  have r0:1≤r:=by
    by_cases e:r=0
    · have:=hL.hi 0 (by omega) (by omega);omega
    · omega
  have r1:r<t.nums.length:=by
    have hle:=hL.le
    by_cases e:r=t.nums.length
    · have:=hL.lo (t.nums.length - 1) (by omega) (by omega);omega
    · omega
  have b1:=en.bd r r1
  have b2:=en.bd (r - 1) (by omega)
  have q1:=hL.lo (r - 1) (by omega) (by omega)
  have q2:=hL.hi r (Nat.le_refl _) r1
  have w1:=wrap_i64 (n:=(r:Int) - 1) (by omega) (by omega)
  obtain ⟨s,hs⟩:∃ s,r - 1=s:=⟨_,rfl⟩
  have es:(r:Int) - 1=(s:Int):=by omega
  have hsl:s<t.nums.length:=by omega
  unfold near
  rw [aae r1,aae (by omega)]
  simp only [hs] at q1 b2 ⊢
  generalize hA:t.nums[r]=A at *
  generalize hB:t.nums[s]=B at *
  have u1:=usub (x:=A) (y:=n) (by omega) (by omega)
  have u2:=usub (x:=n) (y:=B) (by omega) (by omega)
  rw [es] at w1
  by_cases c:n - B≤A - n
  · have c':=eq_true c
    simp -implicitDefEqProofs [e1,c1',c2',f3,e2,w1,es,hsl,r1,hA,hB,u1,u2,c']
  · have c':=eq_false c
    simp -implicitDefEqProofs [e1,c1',c2',f3,e2,w1,es,hsl,r1,hA,hB,u1,u2,c']
theorem aj8 {t:Ty} (h:GdN t) (n:Int) (K:Out→Prop):Call prog 533 ⟨[t.w,.i .i64 n],[],[]⟩ K=K (.i .i64 (t.clp n),[],[]):=by
  refine Zc (f:=533) rfl rfl (by decide) ?_
  have e1:=aj9 h
  have e2:=am3 t.rH n
  have e3:=af4 t.rL (min t.rH n)
  have hLH:t.rL≤t.rH:=by
    unfold Ty.rL Ty.rH
    by_cases k3:t.kind=3
    · have en:=h.en k3
      have n1:=en.n1
      have nn:=en.nn
      rw [if_pos k3,if_pos k3,aae (by omega),aae (by omega)]
      by_cases e:t.nums.length - 1=0
      · simp only [e];exact Int.le_refl _
      · exact Int.le_of_lt (en.srt _ _ (by omega) (by omega))
    · rw [if_neg k3,if_neg k3]
      unfold lo hi
      have:=h.it.s
      split
      · have:(0:Int)<2 ^ (8*t.it.size.toNat - 1):=Int.pow_pos (by decide)
        omega
      · have:(0:Int)<2 ^ (8*t.it.size.toNat):=Int.pow_pos (by decide)
        omega
  obtain ⟨m,hm⟩:∃ m,(if min t.rH n<t.rL then t.rL else min t.rH n)=m:=⟨_,rfl⟩
  rw [hm] at e3
  have hm':m=if n≤t.rL then t.rL else if t.rH≤n then t.rH else n:=by rw [← hm];(repeat' split) <;> omega
  clear hm
  by_cases k3:t.kind=3
  case neg=>
    have f3:=eq_false k3
    have e:t.clp n=m:=by unfold Ty.clp;rw [if_neg k3,hm']
    rw [e]
    simp -implicitDefEqProofs [e1,e2,e3,f3]
  have f3:=eq_true k3
  have en:=h.en k3
  have n6:=en.n6
  have n1:=en.n1
  have nn:=en.nn
  have srt:=en.srt
  have bd:=en.bd
  have eL:t.rL=t.nums[0]:=by unfold Ty.rL;rw [if_pos k3,aae (by omega)]
  have eH:t.rH=t.nums[t.nums.length - 1]:=by unfold Ty.rH;rw [if_pos k3,aae (by omega)]
  have hR2:(∀ j (hj:j<t.nums.length),t.nums[j]≤m)→t.clp n=t.nums.getD (t.nums.length - 1) 0:=by
    intro hh
    have:=hh (t.nums.length - 1) (by omega)
    rw [aae (by omega),← eH]
    rw [← eH] at this
    unfold Ty.clp
    (repeat' split at hm') <;> (repeat' split) <;> omega
  have hR1:∀ k (hk:k<t.nums.length),(∀ j (_:j<k) (hj:j<t.nums.length),t.nums[j]≤m)→m<t.nums[k] →
      1≤k∧0≤m - t.nums[k - 1]∧t.clp n=if t.nums[k] - m<m - t.nums[k - 1] then t.nums[k] else t.nums[k - 1]:=by
    intro k hk hh hlt
    have hmL:t.rL≤m:=by (repeat' split at hm') <;> omega
    have k1:1≤k:=by
      by_cases e:k=0
      · subst e;omega
      · omega
    have hp:=hh (k - 1) (by omega) (by omega)
    refine ⟨k1,by omega,?_⟩
    unfold Ty.clp
    by_cases c1:n≤t.rL
    · rw [if_pos c1] at hm' ⊢
      have e:k - 1=0:=by
        by_cases e:k - 1=0
        · exact e
        · have:=srt 0 (k - 1) (by omega) (by omega);omega
      simp only [e] at hp ⊢
      rw [if_neg (by omega)];exact eL
    rw [if_neg c1] at hm' ⊢
    by_cases c2:t.rH≤n
    · rw [if_pos c2] at hm'
      exfalso
      by_cases e:k=t.nums.length - 1
      · subst e;omega
      · have:=srt k (t.nums.length - 1) (by omega) (by omega);omega
    rw [if_neg c2] at hm' ⊢
    rw [if_pos k3]
    subst hm'
    have hL:=lbN_at srt m
    by_cases ce:t.nums[k - 1]=m
    · have er:lbN t.nums m=k - 1:=hL.uniq ⟨by omega,fun j hj hl=>by have:=srt j (k - 1) hj (by omega);omega,fun j hj hl=>by
        by_cases e:j=k - 1
        · subst e;omega
        · have:=srt (k - 1) j (by omega) hl;omega⟩
      have k2:1≤k - 1:=by
        by_cases e:k - 1=0
        · simp only [e] at ce;omega
        · omega
      have:=srt (k - 1 - 1) (k - 1) (by omega) (by omega)
      unfold near
      rw [er,aae (by omega),aae (by omega),if_neg (by omega),if_neg (by omega)]
    · have er:lbN t.nums m=k:=hL.uniq ⟨by omega,fun j hj hl=>by
        by_cases e:j=k - 1
        · subst e;omega
        · have:=hh j hj hl
          have:=srt j (k - 1) (by omega) (by omega)
          omega,fun j hj hl=>by
        by_cases e:j=k
        · subst e;omega
        · have:=srt k j (by omega) hl;omega⟩
      unfold near
      rw [er,aae (by omega),aae (by omega)]
      (repeat' split) <;> omega
  have hmb:t.rL≤m∧m≤t.rH:=by (repeat' split at hm') <;> omega
  have bL:=bd 0 (by omega)
  have bH:=bd (t.nums.length - 1) (by omega)
  rw [← eL] at bL
  rw [← eH] at bH
  generalize t.clp n=R at *
  have n0:0<t.nums.length:=by omega
  simp -implicitDefEqProofs [e1,e2,e3,f3,n0]
  refine WL_for (fun i=>⟨sp 57 [(1,.i .i64 m),(2,.ptr 0 0),(7,.i .i64 (t.nums.getD (i - 1) 0)),(8,.i .i64 i)],[t.k],[]⟩) t.nums.length (fun i=>∀ j (_:j<i) (hj:j<t.nums.length),t.nums[j]≤m) _ (by simp -implicitDefEqProofs [n0]) (fun j hj=>by omega) ?_
  intro i hi hP
  by_cases hlt:i<t.nums.length
  · have hw:=wrap_i64 (n:=(i:Int)+1) (by omega) (by omega)
    have b1:=bd i hlt
    by_cases c:t.nums[i]≤m
    · have c':=eq_true c
      simp -implicitDefEqProofs [hlt,hw,c',Next]
      intro j hj hjl
      by_cases e:j<i
      · exact hP j e hjl
      · obtain rfl:j=i:=by omega
        exact c
    · have c':=eq_false c
      obtain ⟨k1,k2,k3⟩:=hR1 i hlt hP (by omega)
      have u1:=usub (x:=t.nums[i]) (y:=m) (by omega) (by omega)
      have b2:=bd (i - 1) (by omega)
      have u2:=usub (x:=m) (y:=t.nums[i - 1]) (by omega) (by omega)
      have i1:i - 1<t.nums.length:=by omega
      by_cases d:t.nums[i] - m<m - t.nums[i - 1]
      · rw [if_pos d] at k3
        have d':=eq_true d
        rw [k3]
        simp -implicitDefEqProofs [hlt,hw,c',i1,u1,u2,d',Next]
      · rw [if_neg d] at k3
        have d':=eq_false d
        rw [k3]
        simp -implicitDefEqProofs [hlt,hw,c',i1,u1,u2,d',Next]
  · obtain rfl:i=t.nums.length:=by omega
    rw [hR2 fun j hj=>hP j hj hj]
    simp -implicitDefEqProofs
end Go.VS
end
section
namespace Go.VS
set_option maxRecDepth 4000
attribute [-simp] isLeaf okRet ridL V.leaves
def isNmM (s:Bs) (m:Mb):Bool:=decide (m.name=s)
def Ty.memI (t:Ty) (s:Bs):Int:=idxF (isNmM s) t.ms 0
def Ty.mem (t:Ty) (s:Bs):Option Mb:=t.ms.find? (isNmM s)
theorem afc {α:Type} (pr:α→Bool):∀ (l:List α) (k:Nat),(idxF pr l k=-1∧l.find? pr=none)∨∃ i,∃ h:i<l.length,idxF pr l k=((k+i:Nat):Int)∧l.find? pr=some l[i]
  | [],_=>.inl ⟨rfl,rfl⟩
  | x :: l,k=>by
    rw [idxF,List.find?_cons]
    by_cases h:pr x=true
    · right;rw [if_pos h,h];exact ⟨0,by simp,rfl,rfl⟩
    · rw [if_neg h]
      have h':pr x=false:=by simpa using h
      rw [h']
      rcases afc pr l (k+1) with q | ⟨i,hi,q1,q2⟩
      · exact .inl q
      · refine .inr ⟨i+1,by simpa using hi,?_,q2⟩
        rw [q1];congr 1;omega
theorem ais (t:Ty) (s:Bs):(t.memI s=-1∧t.mem s=none)∨∃ i,∃ h:i<t.ms.length,t.memI s=(i:Int)∧t.mem s=some t.ms[i]:=by
  rcases afc (isNmM s) t.ms 0 with h | ⟨i,h,a,b⟩
  · exact .inl h
  · exact .inr ⟨i,h,by rw [Ty.memI,a,Nat.zero_add],b⟩
theorem mem_in {t:Ty} {s:Bs} {m:Mb} (h:t.mem s=some m):m ∈ t.ms:=List.mem_of_find?_eq_some h
theorem afy (t:Ty) (s:Bs) (hl:t.ms.length≤lim) (K:Out→Prop):Call prog 490 ⟨[t.w,.s s],[],[]⟩ K=K (.i .i64 (t.memI s),[],[]):=by
  refine Zc (f:=490) rfl rfl (by decide) ?_
  unfold lim at hl
  simp -implicitDefEqProofs
  refine WL_for (fun i=>⟨sp 22 [(1,.s s),(2,.ptr 0 0),(5,.i .i64 i)],[t.k],[]⟩) t.ms.length (fun i=>t.memI s=idxF (isNmM s) (t.ms.drop i) i) _ (by simp -implicitDefEqProofs) (by simp [Ty.memI]) ?_
  intro i hi hP
  by_cases hlt:i<t.ms.length
  · have hw:=wrap_i64 (n:=(i:Int)+1) (by omega) (by omega)
    rw [hP,List.drop_eq_getElem_cons hlt,idxF]
    unfold isNmM
    generalize hm:t.ms[i]=m at *
    by_cases d:m.name=s
    · have d':=eq_true d
      simp -implicitDefEqProofs [hlt,hm,Mb.c_w,hw,d']
    · have d':=eq_false d
      simp -implicitDefEqProofs [hlt,hm,Mb.c_w,hw,d',Next]
  · rw [hP,List.drop_eq_nil_of_le (by omega),idxF]
    obtain rfl:i=t.ms.length:=by omega
    simp -implicitDefEqProofs
theorem asg (s:Bs) (m:Mb) (K:Out→Prop):Call prog 572 ⟨[m.c,.vp [.s s]],[],[]⟩ K=K (.b (isNmM s m),[],[]):=by
  refine Zc (f:=572) rfl rfl (by decide) ?_
  rw [Mb.c_w]
  unfold isNmM
  simp -implicitDefEqProofs
theorem ar6 (pr:Mb→Bool) (g:Nat) (caps:List V) (q:Bool) (xs:List Mb) (hl:xs.length≤lim) (hcap:capsOk caps=true)
    (hc:∀ x,x ∈ xs→∀ K:Out→Prop,Call prog g ⟨x.c :: caps,[],[]⟩ K=K (.b (pr x),[],[])) (K:Out→Prop):
    Call prog 573 ⟨[.view q 11 (xs.map Mb.c),.fn g caps],[],[]⟩ K=K (.i .i64 (idxF pr xs 0),[],[]):=
  aoa (p:=prog) (f:=573) (z:=11) (ag:=true) rfl Mb.c pr g caps q xs hl hcap (fun x=>by simp) (fun s x=>Mb.lendA_c s _ 0 x) hc K
theorem apq (pr:Mb→Bool) (g:Nat) (caps:List V) (q:Bool) (xs:List Mb) (hl:xs.length≤lim) (hcap:capsOk caps=true)
    (hc:∀ x,x ∈ xs→∀ K:Out→Prop,Call prog g ⟨x.c :: caps,[],[]⟩ K=K (.b (pr x),[],[])) (K:Out→Prop):
    Call prog 547 ⟨[.view q 11 (xs.map Mb.c),.fn g caps],[],[]⟩ K=K (.b (xs.any pr),[],[]):=
  ans (p:=prog) (f:=547) (ix:=573) (z:=11) (ag:=true) rfl rfl Mb.c pr g caps q xs hl hcap (fun x=>by simp) (fun s x=>Mb.lendA_c s _ 0 x) hc K
def Mb.zero:Mb:=.mk [] 0 Ty.zero
theorem ait (t:Ty) (s:Bs) (hl:t.ms.length≤lim) (K:Out→Prop):
    Call prog 543 ⟨[t.w,.s s],[],[]⟩ K=K (.tup [((t.mem s).getD Mb.zero).w,.b (t.mem s).isSome],[],[]):=by
  refine Zc (f:=543) rfl rfl (by decide) ?_
  have e1:=fun q K=>ar6 (isNmM s) 572 [.vp [.s s]] q t.ms hl rfl (fun x _=>asg s x) K
  have e2:idxF (isNmM s) t.ms 0=t.memI s:=rfl
  rw [e2] at e1
  rcases ais t s with ⟨h1,h2⟩ | ⟨i,hi,h1,h2⟩
  · rw [h1] at e1
    rw [h2]
    simp -implicitDefEqProofs [e1,Mb.zero,Ty.zero,acn]
  · rw [h1] at e1
    rw [h2]
    generalize hm:t.ms[i]=m at *
    have c0:((i:Int)<0)=False:=eq_false (by omega)
    simp -implicitDefEqProofs [e1,hi,hm,Mb.c_w,c0]
def Ty.nmr (t:Ty):Bool:=decide (t.kind=1∨t.kind=3)
def Can:Nat→Ty→Ty→Bool
  | 0,_,_=>false
  | d+1,f,t=>if f.nmr=true∨t.nmr=true then f.nmr && t.nmr
    else if f.kind≠t.kind then false
    else if f.kind=5 then decide (f.count=t.count) && Can d (f.base.headD Ty.zero) (t.base.headD Ty.zero)
    else t.ms.all fun m=>match f.mem m.name with
      | none=>true
      | some y=>Can d y.ty m.ty
theorem Gd.base5 {d:Nat} {t:Ty} (g:Gd (d+1) t) (k:t.kind=5):∃ b,t.base=[b]∧Gd d b:=by
  obtain ⟨_,b,h1,h2,_⟩:=g.arr k;exact ⟨b,h1,h2⟩
theorem Gd.msl {d:Nat} {t:Ty} (g:Gd (d+1) t):t.ms.length≤4:=by
  by_cases k:t.kind=4
  · exact (g.comp k).1.n4
  · rw [g.ms_nil k];simp
theorem Gd.mss {d:Nat} {t:Ty} (g:Gd (d+1) t):∀ m,m ∈ t.ms→Gd d m.ty:=by
  by_cases k:t.kind=4
  · exact (g.comp k).2
  · rw [g.ms_nil k];simp
def CanM (d:Nat) (f:Ty) (m:Mb):Bool:=match f.mem m.name with
  | none=>true
  | some y=>Can d y.ty m.ty
theorem Can_ms (d:Nat) (f:Ty) (l:List Mb):(l.all fun m=>match f.mem m.name with
      | none=>true
      | some y=>Can d y.ty m.ty)=l.all (CanM d f):=rfl
theorem af5:∀ (d:Nat) {f t:Ty} (_:Gd d f) (_:Gd d t) (K:Out→Prop),Call prog 437 ⟨[f.w,t.w],[],[]⟩ K=K (.b (Can d f t),[],[])
  | 0,_,_,g,_,_=>g.elim
  | d+1,f,t,gf,gt,K=>by
    have ih:=fun {f t:Ty} (gf:Gd d f) (gt:Gd d t)=>af5 d gf gt
    refine Zc (f:=437) rfl rfl (by decide) ?_
    have e1:=ack f
    have e2:=ack t
    have q1:decide (f.kind=1∨f.kind=3)=f.nmr:=rfl
    have q2:decide (t.kind=1∨t.kind=3)=t.nmr:=rfl
    rw [q1] at e1
    rw [q2] at e2
    rw [Can]
    by_cases c:f.nmr=true∨t.nmr=true
    · rw [if_pos c]
      cases hf:f.nmr <;> cases ht:t.nmr
      · rw [hf,ht] at c;simp at c
      · rw [hf] at e1;rw [ht] at e2;simp -implicitDefEqProofs [e1,e2]
      · rw [hf] at e1;rw [ht] at e2;simp -implicitDefEqProofs [e1,e2]
      · rw [hf] at e1;rw [ht] at e2;simp -implicitDefEqProofs [e1,e2]
    rw [if_neg c]
    have hf:f.nmr=false:=by cases h:f.nmr;rfl;exact absurd (.inl h) c
    have ht:t.nmr=false:=by cases h:t.nmr;rfl;exact absurd (.inr h) c
    rw [hf] at e1
    rw [ht] at e2
    by_cases k:f.kind=t.kind
    case neg=>
      rw [if_pos k]
      have k':=eq_false k
      simp -implicitDefEqProofs [e1,e2,k']
    have k':=eq_true k
    rw [if_neg (fun h=>h k)]
    by_cases k5:f.kind=5
    · rw [if_pos k5]
      have f5:=eq_true k5
      have t5:=eq_true (show t.kind=5 by omega)
      obtain ⟨a,ha,ga⟩:=gf.base5 k5
      obtain ⟨b,hb,gb⟩:=gt.base5 (by omega)
      obtain ⟨a1,a2⟩:=base0 ha
      obtain ⟨b1,b2⟩:=base0 hb
      have e3:=ih ga gb
      have h1:f.base.headD Ty.zero=a:=by rw [ha];rfl
      have h2:t.base.headD Ty.zero=b:=by rw [hb];rfl
      rw [h1,h2]
      by_cases cc:f.count=t.count
      · have cc':=eq_true cc
        simp -implicitDefEqProofs [e1,e2,k',f5,t5,cc',a1,a2,b1,b2,Ty.v_w,e3]
      · have cc':=eq_false cc
        simp -implicitDefEqProofs [e1,e2,k',f5,t5,cc',a1,a2,b1,b2,Ty.v_w,e3]
    have f5:=eq_false k5
    have t5:=eq_false (show ¬ t.kind=5 by omega)
    rw [if_neg k5,Can_ms]
    have fl:=gf.msl
    have tl:=gt.msl
    simp -implicitDefEqProofs [e1,e2,k',f5,t5]
    refine WL_for (fun i=>⟨sp 76 [(2,.ptr 0 0),(3,.ptr 1 0),(5,.i .i64 i)],[f.k,t.k],[]⟩) t.ms.length (fun i=>t.ms.all (CanM d f)=(t.ms.drop i).all (CanM d f)) _ (by simp -implicitDefEqProofs) rfl ?_
    intro i hi hP
    by_cases hlt:i<t.ms.length
    · have hw:=wrap_i64 (n:=(i:Int)+1) (by omega) (by omega)
      rw [hP,List.drop_eq_getElem_cons hlt,List.all_cons]
      have gm:=gt.mss _ (List.getElem_mem hlt)
      have e3:=afy f t.ms[i].name (by unfold lim;omega)
      unfold CanM
      generalize hm:t.ms[i]=m at *
      rcases ais f m.name with ⟨h1,h2⟩ | ⟨j,hj,h1,h2⟩
      · rw [h1] at e3
        rw [h2]
        simp -implicitDefEqProofs [hlt,hm,Mb.c_w,hw,e3,Next]
      · rw [h1] at e3
        rw [h2]
        have gy:=gf.mss _ (List.getElem_mem hj)
        have e4:=ih gy gm
        have c0:(0≤(j:Int))=True:=eq_true (by omega)
        generalize hy:f.ms[j]=y at *
        cases hc:Can d y.ty m.ty
        · rw [hc] at e4
          simp -implicitDefEqProofs [hlt,hj,hy,hm,Mb.c_w,hw,e3,e4,c0,Next,hc]
        · rw [hc] at e4
          simp -implicitDefEqProofs [hlt,hj,hy,hm,Mb.c_w,hw,e3,e4,c0,Next,hc]
    · obtain rfl:i=t.ms.length:=by omega
      rw [hP,List.drop_length,List.all_nil]
      simp -implicitDefEqProofs
end Go.VS
end
section
namespace Go.VS
set_option maxRecDepth 4000
attribute [-simp] isLeaf okRet ridL V.leaves
@[simp] theorem isLeaf_fn' (f cs):isLeaf (.fn f cs)=true:=rfl
theorem aiv (p:Mb→Bool):∀ l:List Mb,(!l.any fun m=>!p m)=l.all p
  | []=>rfl
  | m :: l=>by rw [List.any_cons,List.all_cons,← aiv p l];cases p m <;> simp
def CanH (d:Nat):Prop:=∀ {f t:Ty} (_:Gd d f) (_:Gd d t) (K:Out→Prop),Call prog 462 ⟨[f.w,t.w],[],[]⟩ K=K (.b (Can d f t),[],[])
theorem apn {d:Nat} (ih:CanH d) {f:Ty} (gf:Gd (d+1) f) (m:Mb) (gm:Gd d m.ty) (K:Out→Prop):
    Call prog 546 ⟨[m.c,.vp f.k,.vp [.fn 462 []]],[],[]⟩ K=K (.b (!CanM d f m),[],[]):=by
  refine Zc (f:=546) rfl rfl (by decide) ?_
  have fl:=gf.msl
  have e1:=ait f m.name (by unfold lim;omega)
  rw [Mb.c_w]
  unfold CanM
  cases h:f.mem m.name with
  | none=>
    rw [h] at e1
    simp only [Option.getD_none,Option.isSome_none] at e1
    simp -implicitDefEqProofs [e1,Mb.zero,Ty.zero,acn]
  | some y=>
    rw [h] at e1
    simp only [Option.getD_some,Option.isSome_some] at e1
    have gy:=gf.mss _ (mem_in h)
    have e2:=ih gy gm
    simp -implicitDefEqProofs [e1,e2]
theorem arp {d:Nat} (ih:CanH d) {f t:Ty} (gf:Gd (d+1) f) (gt:Gd (d+1) t) (K:Out→Prop):
    Call prog 513 ⟨[f.w,t.w,.fn 462 []],[],[]⟩ K=K (.b (Can (d+1) f t),[],[]):=by
  refine Zc (f:=513) rfl rfl (by decide) ?_
  have e1:=ac2 f
  have e2:=ac2 t
  have q1:decide (f.kind=1∨f.kind=3)=f.nmr:=rfl
  have q2:decide (t.kind=1∨t.kind=3)=t.nmr:=rfl
  rw [q1] at e1
  rw [q2] at e2
  by_cases c:f.nmr=true∧t.nmr=true
  · rw [Can,if_pos (.inl c.1),c.1,c.2]
    rw [c.1] at e1
    rw [c.2] at e2
    simp -implicitDefEqProofs [e1,e2]
  by_cases k:f.kind=t.kind
  case neg=>
    have k':=eq_false k
    have hh:Can (d+1) f t=false:=by
      rw [Can]
      by_cases c2:f.nmr=true∨t.nmr=true
      · rw [if_pos c2];cases hf:f.nmr <;> cases ht:t.nmr <;> simp [hf,ht] at c ⊢
      · rw [if_neg c2,if_pos k]
    rw [hh]
    cases hf:f.nmr
    · rw [hf] at e1;simp -implicitDefEqProofs [e1,e2,k']
    · cases ht:t.nmr
      · rw [hf] at e1;rw [ht] at e2;simp -implicitDefEqProofs [e1,e2,k']
      · exact absurd ⟨hf,ht⟩ c
  have k':=eq_true k
  have hq:f.nmr=t.nmr:=by unfold Ty.nmr;rw [k]
  have hf:f.nmr=false:=by cases h:f.nmr;rfl;exact absurd ⟨h,by rw [← hq];exact h⟩ c
  have ht:t.nmr=false:=by rw [← hq];exact hf
  rw [hf] at e1
  rw [ht] at e2
  rw [Can,if_neg (by rw [hf,ht];simp),if_neg (fun h=>h k)]
  by_cases k5:f.kind=5
  · rw [if_pos k5]
    have f5:=eq_true k5
    have t5:=eq_true (show t.kind=5 by omega)
    obtain ⟨a,ha,ga⟩:=gf.base5 k5
    obtain ⟨b,hb,gb⟩:=gt.base5 (by omega)
    obtain ⟨a1,a2⟩:=base0 ha
    obtain ⟨b1,b2⟩:=base0 hb
    have e3:=ih ga gb
    have h1:f.base.headD Ty.zero=a:=by rw [ha];rfl
    have h2:t.base.headD Ty.zero=b:=by rw [hb];rfl
    rw [h1,h2]
    by_cases cc:f.count=t.count
    · have cc':=eq_true cc
      simp -implicitDefEqProofs [e1,e2,k',f5,t5,cc',a1,a2,b1,b2,Ty.v_w,e3]
    · have cc':=eq_false cc
      simp -implicitDefEqProofs [e1,e2,k',f5,t5,cc',a1,a2,b1,b2,Ty.v_w,e3]
  have f5:=eq_false k5
  have t5:=eq_false (show ¬ t.kind=5 by omega)
  rw [if_neg k5,Can_ms]
  have fl:=gf.msl
  have tl:=gt.msl
  have e3:=fun q=>apq (fun m=>!CanM d f m) 546 [.vp f.k,.vp [.fn 462 []]] q t.ms (by unfold lim;omega) rfl (fun m hm=>apn ih gf m (gt.mss m hm))
  have ea:(!t.ms.any fun m=>!CanM d f m)=t.ms.all (CanM d f):=aiv _ _
  rw [← ea]
  simp -implicitDefEqProofs [e1,e2,k',f5,t5,e3]
theorem adv:∀ (d:Nat),CanH d
  | 0,_,_,g,_,_=>g.elim
  | d+1,f,t,gf,gt,K=>by
    have ih:=fun {f t:Ty} (gf:Gd d f) (gt:Gd d t)=>adv d gf gt
    refine Zc (f:=462) rfl rfl (by decide) ?_
    have e:=arp ih gf gt
    simp -implicitDefEqProofs [e]
end Go.VS
end
section
namespace Go.VS
set_option maxRecDepth 4000
attribute [-simp] isLeaf okRet ridL V.leaves
def ixN (l:List Int) (n:Int):Int:=idxF (fun x=>n == x) l 0
def ixS (l:List Bs) (s:Bs):Int:=idxF (fun x=>s == x) l 0
def nmAt (f:Ty) (n:Int):Bs:=f.names.getD (ixN f.nums n).toNat []
noncomputable def cvN (f t:Ty) (n:Int):Bs × Bool:=
  if f.kind=3∧t.kind=3 then
    (if 0≤ixS t.names (nmAt f n) then (t.it.put (t.nums.getD (ixS t.names (nmAt f n)).toNat 0),true) else (t.it.put (t.clp n),false))
  else if t.holds n=true then (t.it.put n,true) else (t.it.put (t.clp n),false)
def cvT (t:Ty) (b:Bs):Bs × Bool:=
  if t.size<(trimR 0 b).length then ((trimR 0 b).take t.size.toNat,false) else (trimR 0 b++List.replicate (t.size.toNat - (trimR 0 b).length) 0,true)
theorem amh (q:Bool) (l:List Int) (v:Int) (hl:l.length≤lim) (K:Out→Prop):Call prog 125 ⟨[.view q 1 (l.map (V.i .i64)),.i .i64 v],[],[]⟩ K=K (.i .i64 (ixN l v),[],[]):=by
  refine Zc (f:=125) rfl rfl (by decide) ?_
  unfold lim at hl
  unfold ixN
  simp -implicitDefEqProofs
  refine WL_for (fun i=>⟨sp 19 [(0,.view q 1 (l.map (V.i .i64))),(1,.i .i64 v),(7,.i .i64 l.length),(8,.i .i64 i)],[],[]⟩) l.length (fun i=>idxF (fun x=>v == x) l 0=idxF (fun x=>v == x) (l.drop i) i) _ (by simp -implicitDefEqProofs) (by simp) ?_
  intro i hi hP
  by_cases hlt:i<l.length
  · have hw:=wrap_i64 (n:=(i:Int)+1) (by omega) (by omega)
    have hx:=agw (pr:=fun x:Int=>v == x) (List.getElem?_eq_getElem hlt)
    rw [hP,hx]
    by_cases hk:v=l[i]
    · simp -implicitDefEqProofs [hlt,← hk]
    · have hk':(v == l[i])=false:=by simpa using hk
      simp -implicitDefEqProofs [hlt,hk,hk',hw,Next]
  · rw [hP,ahy (by omega)]
    simp -implicitDefEqProofs [hlt]
theorem ixN_in {l:List Int} {n:Int} (h:n ∈ l):∃ i,i<l.length∧ixN l n=(i:Int):=by
  rcases afc (fun x:Int=>n == x) l 0 with ⟨_,q⟩ | ⟨i,hi,q,_⟩
  · rw [List.find?_eq_none] at q
    exact absurd (q n h) (by simp)
  · exact ⟨i,hi,by unfold ixN;rw [q,Nat.zero_add]⟩
theorem alh (l:List Bs) (s:Bs):ixS l s=-1∨∃ i,i<l.length∧ixS l s=(i:Int):=by
  rcases afc (fun x:Bs=>s == x) l 0 with ⟨q,_⟩ | ⟨i,hi,q,_⟩
  · exact .inl q
  · exact .inr ⟨i,hi,by unfold ixS;rw [q,Nat.zero_add]⟩
theorem alq (t:Ty) (s:Bs) (hl:t.names.length≤lim) (K:Out→Prop):Call prog 532 ⟨[t.w,.s s],[],[]⟩ K=K (.i .i64 (ixS t.names s),[],[]):=by
  refine Zc (f:=532) rfl rfl (by decide) ?_
  unfold lim at hl
  simp -implicitDefEqProofs
  refine WL_for (fun i=>⟨sp 21 [(1,.s s),(2,.ptr 0 0),(5,.i .i64 i)],[t.k],[]⟩) t.names.length (fun i=>ixS t.names s=idxF (fun x=>s == x) (t.names.drop i) i) _ (by simp -implicitDefEqProofs) (by simp [ixS]) ?_
  intro i hi hP
  by_cases hlt:i<t.names.length
  · have hw:=wrap_i64 (n:=(i:Int)+1) (by omega) (by omega)
    rw [hP,List.drop_eq_getElem_cons hlt,idxF]
    generalize hm:t.names[i]=m at *
    by_cases d:m=s
    · have d1:(s == m)=true:=by rw [d];simp
      rw [if_pos d1]
      have d':=eq_true d
      simp -implicitDefEqProofs [hlt,hm,hw,d']
    · have d1:¬ (s == m)=true:=by simp;exact fun h=>d h.symm
      rw [if_neg d1]
      have d':=eq_false d
      simp -implicitDefEqProofs [hlt,hm,hw,d',Next]
  · rw [hP,List.drop_eq_nil_of_le (by omega),idxF]
    obtain rfl:i=t.names.length:=by omega
    simp -implicitDefEqProofs
theorem alo {t:Ty} (en:EnumG t) (k:t.kind=3) (b:Bs) (hb:b.length=t.it.size.toNat) (hin:t.it.num b ∈ t.nums) (K:Out→Prop):
    Call prog 468 ⟨[t.w,.s b],[],[]⟩ K=K (.s (nmAt t (t.it.num b)),[],[]):=by
  refine Zc (f:=468) rfl rfl (by decide) ?_
  obtain ⟨c,hc,k1,ig,_⟩:=en.ba
  obtain ⟨b1,b2⟩:=base0 hc
  have n6:=en.n6
  have nn:=en.nn
  rw [it3 k hc] at hb hin ⊢
  have e1:=ac3 c ig.toIntF b hb
  have f1:=eq_false (show t.kind≠1 by omega)
  have f2:=eq_false (show t.kind≠2 by omega)
  have f6:=eq_false (show t.kind≠6 by omega)
  have f3:=eq_true k
  generalize c.num b=n at *
  simp -implicitDefEqProofs [f1,f2,f3,f6,b1,b2,Ty.v_w,e1]
  refine WL_for (fun i=>⟨sp 131 [(2,.ptr 0 0),(5,.i .i64 n),(6,.i .i64 i)],[t.k],[]⟩) t.nums.length (fun i=>ixN t.nums n=idxF (fun x=>n == x) (t.nums.drop i) i) _ (by simp -implicitDefEqProofs) (by simp [ixN]) ?_
  intro i hi hP
  by_cases hlt:i<t.nums.length
  · have hw:=wrap_i64 (n:=(i:Int)+1) (by omega) (by omega)
    rw [List.drop_eq_getElem_cons hlt,idxF] at hP
    have hl2:i<t.names.length:=by omega
    generalize hm:t.nums[i]=m at *
    by_cases d:m=n
    · have d1:(n == m)=true:=by rw [d];simp
      rw [if_pos d1] at hP
      have d':=eq_true d
      unfold nmAt
      rw [hP,Int.toNat_natCast,aae hl2]
      simp -implicitDefEqProofs [hlt,hl2,hm,hw,d']
    · have d1:¬ (n == m)=true:=by simp;exact fun h=>d h.symm
      rw [if_neg d1] at hP
      have d':=eq_false d
      simp -implicitDefEqProofs [hlt,hm,hw,d',Next]
      exact hP
  · obtain ⟨j,hj,e⟩:=ixN_in hin
    rw [List.drop_eq_nil_of_le (by omega),idxF,e] at hP
    omega
theorem ajb {f t:Ty} (hf:GdN f) (ht:GdN t) (b:Bs) (cl:Bool) (hb:b.length=f.it.size.toNat) (hin:f.kind=3→f.it.num b ∈ f.nums) (K:Out→Prop):
    Call prog 491 ⟨[f.w,t.w,.s b,.b cl],[],[]⟩ K=K (.tup [.s (cvN f t (f.it.num b)).1,.b ((cvN f t (f.it.num b)).2 || cl)],[],[]):=by
  refine Zc (f:=491) rfl rfl (by decide) ?_
  have e1:=hf.l03
  have e2:=ac3 f.it hf.it b hb
  have e3:∀ n K,_:=fun n K=>aj6 ht n K
  have e4:=aj8 ht (f.it.num b)
  have e5:=aj7 ht (f.it.num b)
  unfold cvN
  by_cases c:f.kind=3∧t.kind=3
  · rw [if_pos c]
    have f3:=eq_true c.1
    have t3:=eq_true c.2
    have e6:=alo (hf.en c.1) c.1 b hb (hin c.1)
    have en:=ht.en c.2
    have n6:=en.n6
    have nn:=en.nn
    have e7:=alq t (nmAt f (f.it.num b)) (by unfold lim;omega)
    rcases alh t.names (nmAt f (f.it.num b)) with q | ⟨i,hi,q⟩
    · rw [q] at e7 ⊢
      simp -implicitDefEqProofs [e1,e2,e3,e4,f3,t3,e6,e7]
    · rw [q] at e7 ⊢
      have hi2:i<t.nums.length:=by omega
      have c0:(0≤(i:Int))=True:=eq_true (by omega)
      simp -implicitDefEqProofs [e1,e2,e3,e4,f3,t3,e6,e7,hi2,c0]
  · rw [if_neg c]
    have h3:∀ {P:Prop},(f.kind=3→t.kind=3→P):=fun h1 h2=>absurd ⟨h1,h2⟩ c
    by_cases k3:f.kind=3
    · have f3:=eq_true k3
      have t3:=eq_false (show ¬ t.kind=3 from fun h=>c ⟨k3,h⟩)
      cases q:t.holds (f.it.num b)
      · rw [q] at e5
        simp -implicitDefEqProofs [e1,e2,e3,e4,f3,t3,e5]
      · rw [q] at e5
        simp -implicitDefEqProofs [e1,e2,e3,e4,f3,t3,e5]
    · have f3:=eq_false k3
      cases q:t.holds (f.it.num b)
      · rw [q] at e5
        simp -implicitDefEqProofs [e1,e2,e3,e4,f3,e5]
      · rw [q] at e5
        simp -implicitDefEqProofs [e1,e2,e3,e4,f3,e5]
def fl (ex cl fd:Bool):Bool:=if ex then fd else fd || !cl
theorem akz {f t:Ty} (hf:GdN f) (ht:GdN t) (n:Int) (cl fd:Bool) (hin:f.kind=3→n ∈ f.nums) (K:Out→Prop):
    Call prog 540 ⟨[.ptr 0 0,f.w,t.w,.i .i64 n],[[.b cl,.b fd]],[]⟩ K=K (.s (cvN f t n).1,[[.b cl,.b (fl (cvN f t n).2 cl fd)]],[]):=by
  refine Zc (f:=540) rfl rfl (by decide) ?_
  have e3:∀ n K,_:=fun n K=>ajf ht n K
  have e4:=akx ht n
  have e5:=aik ht n
  unfold cvN
  by_cases c:f.kind=3∧t.kind=3
  · rw [if_pos c]
    have f3:=eq_true c.1
    have t3:=eq_true c.2
    have enf:=hf.en c.1
    have en:=ht.en c.2
    have n6:=en.n6
    have nn:=en.nn
    have m6:=enf.n6
    have mn:=enf.nn
    have e6:=fun q=>amh q f.nums n (by unfold lim;omega)
    obtain ⟨j,hj,ej⟩:=ixN_in (hin c.1)
    rw [ej] at e6
    have hj2:j<f.names.length:=by omega
    have hnm:nmAt f n=f.names[j]:=by unfold nmAt;rw [ej,Int.toNat_natCast,aae hj2]
    have e7:=fun q=>ah5 q t.names (nmAt f n) (by unfold lim;omega)
    have e8:idxF (fun x=>nmAt f n == x) t.names 0=ixS t.names (nmAt f n):=rfl
    rw [e8] at e7
    generalize hN:nmAt f n=N at *
    rcases alh t.names N with q | ⟨i,hi,q⟩
    · rw [q] at e7 ⊢
      cases cl <;> cases fd <;> simp -implicitDefEqProofs [e3,e4,f3,t3,e6,e7,hj2,← hnm,fl]
    · rw [q] at e7 ⊢
      have hi2:i<t.nums.length:=by omega
      have c0:(0≤(i:Int))=True:=eq_true (by omega)
      simp -implicitDefEqProofs [e3,e4,f3,t3,e6,e7,hi2,hj2,← hnm,c0,fl]
  · rw [if_neg c]
    by_cases k3:f.kind=3
    · have f3:=eq_true k3
      have t3:=eq_false (show ¬ t.kind=3 from fun h=>c ⟨k3,h⟩)
      cases q:t.holds n
      · rw [q] at e5
        cases cl <;> cases fd <;> simp -implicitDefEqProofs [e3,e4,f3,t3,e5,fl]
      · rw [q] at e5
        simp -implicitDefEqProofs [e3,e4,f3,t3,e5,fl]
    · have f3:=eq_false k3
      cases q:t.holds n
      · rw [q] at e5
        cases cl <;> cases fd <;> simp -implicitDefEqProofs [e3,e4,f3,e5,fl]
      · rw [q] at e5
        simp -implicitDefEqProofs [e3,e4,f3,e5,fl]
end Go.VS
end
section
namespace Go.VS
set_option maxRecDepth 4000
attribute [-simp] isLeaf okRet ridL V.leaves
theorem alr (t:Ty) (h1:1≤t.size) (h16:t.size≤16) (b:Bs) (cl:Bool) (hl:b.length≤lim) (hb:TxtOk b) (K:Out→Prop):
    Call prog 492 ⟨[t.w,.s b,.b cl],[],[]⟩ K=K (.tup [.s (cvT t b).1,.b ((cvT t b).2 || cl)],[],[]):=by
  refine Zc (f:=492) rfl rfl (by decide) ?_
  have hle:=ai2 b
  obtain ⟨k,hk⟩:=ai3 b
  unfold TxtOk at hb
  unfold cvT
  unfold lim at hl
  generalize hx:trimR 0 b=x at *
  simp -implicitDefEqProofs
  refine WL_for (fun i=>⟨sp 39 [(1,.s b),(2,.b cl),(3,.ptr 0 0),(8,.i .i64 i)],[t.k],[]⟩) x.length (fun _=>True) _ (by simp -implicitDefEqProofs) trivial ?_
  intro i hi _
  by_cases hlt:i<x.length
  · have hw:=wrap_i64 (n:=(i:Int)+1) (by omega) (by omega)
    have hlb:i<b.length:=by omega
    have hbi:b[i]=x[i]:=by
      have:b[i]?=x[i]?:=(congrArg (fun l:Bs=>l[i]?) hk).trans (List.getElem?_append_left hlt)
      rw [List.getElem?_eq_getElem hlb,List.getElem?_eq_getElem hlt] at this
      exact Option.some.inj this
    have hnz:¬ b[i]=0:=fun h=>hb (by rw [← h,hbi];exact List.getElem_mem hlt)
    have z1:¬ (b[i].toNat:Int)=0:=fun h=>hnz (UInt8.toNat_inj.1 (by simpa using h))
    have z2:¬ b[i].toNat=0:=by omega
    simp -implicitDefEqProofs [hlt,hlb,hw,hnz,z1,z2,Next]
  · obtain rfl:i=x.length:=by omega
    have htk:b.take x.length=x:=(congrArg (List.take x.length) hk).trans List.take_left
    obtain ⟨S,hS⟩:∃ S:Nat,t.size=S:=⟨t.size.toNat,by omega⟩
    by_cases c:t.size<x.length
    · rw [if_pos c]
      have c':((S:Int)<x.length)=True:=eq_true (by omega)
      have c2:S<x.length:=by omega
      have c3:S≤b.length:=by omega
      have hts:b.take S=x.take S:=(congrArg (List.take S) hk).trans (List.take_append_of_le_length (by omega))
      rw [hS,Int.toNat_natCast]
      by_cases e:x.length<b.length
      · have hz:b[x.length]=0:=by
          have:b[x.length]?=(List.replicate k (0:UInt8))[0]?:=(congrArg (fun l:Bs=>l[x.length]?) hk).trans (by show (x++List.replicate k 0)[x.length]?=_;rw [List.getElem?_append_right (Nat.le_refl _),Nat.sub_self])
          rw [List.getElem?_eq_getElem e] at this
          have:=List.mem_of_getElem? this.symm
          exact (List.mem_replicate.mp this).2
        simp -implicitDefEqProofs [e,hz,hS,c',c2,c3,hts]
      · have e':x.length=b.length:=by omega
        have e2:¬ x.length<b.length:=e
        simp -implicitDefEqProofs [e2,hS,c',c2,c3,hts]
    · rw [if_neg c]
      have c':((S:Int)<x.length)=False:=eq_false (by omega)
      have c2:¬ S<x.length:=by omega
      have w:=wrap_i64 (n:=(S:Int) - x.length) (by omega) (by omega)
      have e1:=aa5 (S - x.length) (by unfold lim;omega)
      rw [show ((S - x.length:Nat):Int)=(S:Int) - x.length by omega] at e1
      have c4:x.length+(S - x.length)≤lim:=by unfold lim;omega
      have c5:x.length≤b.length:=hle
      rw [hS,Int.toNat_natCast]
      by_cases e:x.length<b.length
      · have hz:b[x.length]=0:=by
          have:b[x.length]?=(List.replicate k (0:UInt8))[0]?:=(congrArg (fun l:Bs=>l[x.length]?) hk).trans (by show (x++List.replicate k 0)[x.length]?=_;rw [List.getElem?_append_right (Nat.le_refl _),Nat.sub_self])
          rw [List.getElem?_eq_getElem e] at this
          have:=List.mem_of_getElem? this.symm
          exact (List.mem_replicate.mp this).2
        simp -implicitDefEqProofs [e,hz,hS,c',c2,w,e1,c4,c5,htk]
      · have e2:¬ x.length<b.length:=e
        simp -implicitDefEqProofs [e2,hS,c',c2,w,e1,c4,c5,htk]
theorem ao2 (t:Ty) (h1:1≤t.size) (h16:t.size≤16) (b:Bs) (cl fd:Bool) (hl:b.length≤lim) (K:Out→Prop):
    Call prog 541 ⟨[.ptr 0 0,t.w,.s b],[[.b cl,.b fd]],[]⟩ K=K (.s (cvT t b).1,[[.b cl,.b (fl (cvT t b).2 cl fd)]],[]):=by
  refine Zc (f:=541) rfl rfl (by decide) ?_
  have hle:=ai2 b
  have e0:=ae5 b hl
  unfold cvT
  unfold lim at hl
  generalize hx:trimR 0 b=x at *
  obtain ⟨S,hS⟩:∃ S:Nat,t.size=S:=⟨t.size.toNat,by omega⟩
  by_cases c:t.size<x.length
  · rw [if_pos c]
    have c':((S:Int)<x.length)=True:=eq_true (by omega)
    have c2:S<x.length:=by omega
    have c3:S≤x.length:=by omega
    have hml:min S x.length=S:=by omega
    have w:=wrap_i64 (n:=(S:Int) - S) (by omega) (by omega)
    have e1:∀ K:Out→Prop,Call prog 277 ⟨[.i .i64 0],[],[]⟩ K=K (.s [],[],[]):=afh 0 (by unfold lim;omega)
    rw [hS,Int.toNat_natCast]
    have c4:S≤lim:=by unfold lim;omega
    cases cl <;> cases fd <;> simp -implicitDefEqProofs [hS,e0,c',c2,c3,hml,w,e1,c4,fl]
  · rw [if_neg c]
    have c':((S:Int)<x.length)=False:=eq_false (by omega)
    have c2:¬ S<x.length:=by omega
    have w:=wrap_i64 (n:=(S:Int) - x.length) (by omega) (by omega)
    have e1:=afh (S - x.length) (by unfold lim;omega)
    rw [show ((S - x.length:Nat):Int)=(S:Int) - x.length by omega] at e1
    have c4:x.length+(S - x.length)≤lim:=by unfold lim;omega
    rw [hS,Int.toNat_natCast]
    simp -implicitDefEqProofs [hS,e0,c',c2,w,e1,c4,fl]
end Go.VS
end
