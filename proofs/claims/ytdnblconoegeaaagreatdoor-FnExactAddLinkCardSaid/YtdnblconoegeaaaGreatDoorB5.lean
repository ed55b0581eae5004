/-
  The laws' measures, copies, marks of a pager.
-/
import Derived.Test.YtdnblconoegeaaaGreatDoorB3
import Derived.Test.YtdnblconoegeaaaGreatDoorB4
set_option linter.all false
section
namespace Go.VS
def big:Nat:=9223372036854775808
def sumL (l:List Bs):Nat:=(l.map List.length).sum
def totS (l:List Bs):Nat:=l.length+sumL l
theorem azy {l:List Bs} {i:Nat} (h:i<l.length):sumL (l.take (i+1))=sumL (l.take i)+l[i].length:=by
  unfold sumL
  rw [← List.take_append_getElem h,List.map_append,List.sum_append];simp
theorem azz {l:List Bs} (i:Nat):sumL (l.take i)≤sumL l:=by
  unfold sumL
  conv=>rhs;rw [← List.take_append_drop i l,List.map_append,List.sum_append]
  omega
def minus (k:Int) (n:Nat):Int:=if (n:Int)≤k then k - n else -1
theorem ap6 (q:Bool) (l:List Bs) (k:Int) (hl:l.length<big) (hs:∀ s,s ∈ l→s.length<big) (k0:0≤k) (k1:k≤1048576) (K:Out→Prop):
    Call prog 33 ⟨[.view q 1 (l.map .s),.i .i64 k],[],[]⟩ K=K (.i .i64 (minus k (totS l)),[],[]):=by
  refine Zc (f:=33) rfl rfl (by decide) ?_
  unfold big at hl hs
  have w0:=wrap_i64 (n:=k - l.length) (by omega) (by omega)
  by_cases c0:k - l.length<0
  · have:minus k (totS l)=-1:=by unfold minus totS;rw [if_neg (by push_cast;omega)]
    rw [this]
    simp -implicitDefEqProofs [w0,c0]
  · simp -implicitDefEqProofs [w0,c0]
    refine WL_for (fun i=>⟨sp 28 [(0,.view q 1 (l.map .s)),(1,.i .i64 (k - l.length - sumL (l.take i))),(5,.i .i64 i)],[],[]⟩) l.length (fun i=>(0:Int)≤k - l.length - sumL (l.take i)) _ (by simp -implicitDefEqProofs [sumL]) (by simp [sumL];omega) ?_
    intro i hi hP
    by_cases hlt:i<l.length
    · have hw:=wrap_i64 (n:=(i:Int)+1) (by omega) (by omega)
      have hb:=hs _ (List.getElem_mem hlt)
      have hx:=azy hlt
      have ht:=azz (l:=l) (i+1)
      have w1:=wrap_i64 (n:=k - l.length - sumL (l.take i) - l[i].length) (by omega) (by omega)
      have hx2:k - l.length - (sumL (l.take (i+1)):Int)=k - l.length - sumL (l.take i) - l[i].length:=by omega
      by_cases c1:k - l.length - sumL (l.take i) - l[i].length<0
      · have:minus k (totS l)=-1:=by unfold minus totS;rw [if_neg (by push_cast;omega)]
        rw [this]
        simp -implicitDefEqProofs [hlt,hw,w1,c1]
      · have c2:(l[i].length:Int)≤k - l.length - sumL (l.take i):=by omega
        simp -implicitDefEqProofs [hlt,hw,w1,c1,c2,hx2,Next]
    · have:i=l.length:=by omega
      subst this
      rw [List.take_length] at hP ⊢
      have:minus k (totS l)=k - l.length - sumL l:=by unfold minus totS;rw [if_pos (by push_cast;omega)];push_cast;omega
      rw [this]
      simp -implicitDefEqProofs
def sumP (l:List Pg):Nat:=(l.map fun p=>p.data.length).sum
def totP (l:List Pg):Nat:=l.length+sumP l
theorem aui {l:List Pg} {i:Nat} (h:i<l.length):sumP (l.take (i+1))=sumP (l.take i)+l[i].data.length:=by
  unfold sumP
  rw [← List.take_append_getElem h,List.map_append,List.sum_append];simp
theorem auj {l:List Pg} (i:Nat):sumP (l.take i)≤sumP l:=by
  unfold sumP
  conv=>rhs;rw [← List.take_append_drop i l,List.map_append,List.sum_append]
  omega
theorem axx (p:Pg) (k:Int) (hs:p.data.length<big) (k0:0≤k) (k1:k≤1048576) (K:Out→Prop):
    Call prog 67 ⟨[pgV p,.i .i64 k],[],[]⟩ K=K (.i .i64 (minus k p.data.length),[],[]):=by
  refine Zc (f:=67) rfl rfl (by decide) ?_
  unfold big at hs
  have w0:=wrap_i64 (n:=k - p.data.length) (by omega) (by omega)
  unfold minus
  by_cases c0:(p.data.length:Int)≤k
  · have c1:¬ k - p.data.length<0:=by omega
    simp -implicitDefEqProofs [pgV,w0,c0,c1]
  · have c1:k - p.data.length<0:=by omega
    simp -implicitDefEqProofs [pgV,w0,c0,c1]
theorem avu (q:Bool) (l:List Pg) (k:Int) (hl:l.length<big) (hs:∀ s,s ∈ l→s.data.length<big) (k0:0≤k) (k1:k≤1048576) (K:Out→Prop):
    Call prog 34 ⟨[.view q 2 (l.map pgV),.i .i64 k],[],[]⟩ K=K (.i .i64 (minus k (totP l)),[],[]):=by
  refine Zc (f:=34) rfl rfl (by decide) ?_
  have hl':=hl
  have hs':=hs
  unfold big at hl hs
  have w0:=wrap_i64 (n:=k - l.length) (by omega) (by omega)
  by_cases c0:k - l.length<0
  · have:minus k (totP l)=-1:=by unfold minus totP;rw [if_neg (by push_cast;omega)]
    rw [this]
    simp -implicitDefEqProofs [w0,c0]
  · simp -implicitDefEqProofs [w0,c0]
    refine WL_for (fun i=>⟨sp 27 [(0,.view q 2 (l.map pgV)),(1,.i .i64 (k - l.length - sumP (l.take i))),(5,.i .i64 i)],[],[]⟩) l.length (fun i=>(0:Int)≤k - l.length - sumP (l.take i)) _ (by simp -implicitDefEqProofs [sumP]) (by simp [sumP];omega) ?_
    intro i hi hP
    by_cases hlt:i<l.length
    · have hw:=wrap_i64 (n:=(i:Int)+1) (by omega) (by omega)
      have hb:=hs _ (List.getElem_mem hlt)
      have hx:=aui hlt
      have ht:=auj (l:=l) (i+1)
      have e1:=fun K=>axx l[i] (k - l.length - sumP (l.take i)) (hs' _ (List.getElem_mem hlt)) hP (by omega) K
      simp only [pgV] at e1
      have hx2:k - l.length - (sumP (l.take (i+1)):Int)=k - l.length - sumP (l.take i) - l[i].data.length:=by omega
      by_cases c1:(l[i].data.length:Int)≤k - l.length - sumP (l.take i)
      · have e2:minus (k - l.length - sumP (l.take i)) l[i].data.length=k - l.length - sumP (l.take i) - l[i].data.length:=if_pos c1
        rw [e2] at e1
        have c2:0≤k - l.length - sumP (l.take i) - l[i].data.length:=by omega
        have c3:¬ k - l.length - sumP (l.take i) - l[i].data.length<0:=by omega
        simp -implicitDefEqProofs [hlt,hw,pgV,e1,c1,c2,c3,hx2,Next]
      · have e2:minus (k - l.length - sumP (l.take i)) l[i].data.length=-1:=if_neg c1
        rw [e2] at e1
        have:minus k (totP l)=-1:=by unfold minus totP;rw [if_neg (by push_cast;omega)]
        rw [this]
        simp -implicitDefEqProofs [hlt,hw,pgV,e1]
    · have:i=l.length:=by omega
      subst this
      rw [List.take_length] at hP ⊢
      have:minus k (totP l)=k - l.length - sumP l:=by unfold minus totP;rw [if_pos (by push_cast;omega)];push_cast;omega
      rw [this]
      simp -implicitDefEqProofs
theorem avt (p:Pg) (k:Int) (hs:p.data.length<big) (k0:0≤k) (k1:k≤1048576) (K:Out→Prop):
    Call prog 35 ⟨[pgV p,.i .i64 k],[],[]⟩ K=K (.i .i64 (minus k p.data.length),[],[]):=by
  refine Zc (f:=35) rfl rfl (by decide) ?_
  unfold big at hs
  have w0:=wrap_i64 (n:=k - p.data.length) (by omega) (by omega)
  unfold minus
  by_cases c0:(p.data.length:Int)≤k
  · have c1:¬ k - p.data.length<0:=by omega
    simp -implicitDefEqProofs [pgV,w0,c0,c1]
  · have c1:k - p.data.length<0:=by omega
    simp -implicitDefEqProofs [pgV,w0,c0,c1]
theorem am9 (q:Bool) (l:List Pg) (k:Int) (hl:l.length<big) (hs:∀ s,s ∈ l→s.data.length<big) (k0:0≤k) (k1:k≤1048576) (K:Out→Prop):
    Call prog 14 ⟨[.view q 2 (l.map pgV),.i .i64 k],[],[]⟩ K=K (.i .i64 (minus k (totP l)),[],[]):=by
  refine Zc (f:=14) rfl rfl (by decide) ?_
  have hl':=hl
  have hs':=hs
  unfold big at hl hs
  have w0:=wrap_i64 (n:=k - l.length) (by omega) (by omega)
  by_cases c0:k - l.length<0
  · have:minus k (totP l)=-1:=by unfold minus totP;rw [if_neg (by push_cast;omega)]
    rw [this]
    simp -implicitDefEqProofs [w0,c0]
  · simp -implicitDefEqProofs [w0,c0]
    refine WL_for (fun i=>⟨sp 27 [(0,.view q 2 (l.map pgV)),(1,.i .i64 (k - l.length - sumP (l.take i))),(5,.i .i64 i)],[],[]⟩) l.length (fun i=>(0:Int)≤k - l.length - sumP (l.take i)) _ (by simp -implicitDefEqProofs [sumP]) (by simp [sumP];omega) ?_
    intro i hi hP
    by_cases hlt:i<l.length
    · have hw:=wrap_i64 (n:=(i:Int)+1) (by omega) (by omega)
      have hb:=hs _ (List.getElem_mem hlt)
      have hx:=aui hlt
      have ht:=auj (l:=l) (i+1)
      have e1:=fun K=>avt l[i] (k - l.length - sumP (l.take i)) (hs' _ (List.getElem_mem hlt)) hP (by omega) K
      simp only [pgV] at e1
      have hx2:k - l.length - (sumP (l.take (i+1)):Int)=k - l.length - sumP (l.take i) - l[i].data.length:=by omega
      by_cases c1:(l[i].data.length:Int)≤k - l.length - sumP (l.take i)
      · have e2:minus (k - l.length - sumP (l.take i)) l[i].data.length=k - l.length - sumP (l.take i) - l[i].data.length:=if_pos c1
        rw [e2] at e1
        have c2:0≤k - l.length - sumP (l.take i) - l[i].data.length:=by omega
        have c3:¬ k - l.length - sumP (l.take i) - l[i].data.length<0:=by omega
        simp -implicitDefEqProofs [hlt,hw,pgV,e1,c1,c2,c3,hx2,Next]
      · have e2:minus (k - l.length - sumP (l.take i)) l[i].data.length=-1:=if_neg c1
        rw [e2] at e1
        have:minus k (totP l)=-1:=by unfold minus totP;rw [if_neg (by push_cast;omega)]
        rw [this]
        simp -implicitDefEqProofs [hlt,hw,pgV,e1]
    · have:i=l.length:=by omega
      subst this
      rw [List.take_length] at hP ⊢
      have:minus k (totP l)=k - l.length - sumP l:=by unfold minus totP;rw [if_pos (by push_cast;omega)];push_cast;omega
      rw [this]
      simp -implicitDefEqProofs
end Go.VS
end
section
namespace Go.VS
def slc (n:Bool) (z:Nat) (xs:List V):V:=if n=true∧xs=[] then .nil else .view true z xs
@[simp] theorem noPtrL_slc (n:Bool) (z:Nat) (xs:List V):noPtrL (slc n z xs)=true:=by unfold slc;split <;> rfl
@[simp] theorem noPtr_slc (n:Bool) (z:Nat) (xs:List V):noPtr (slc n z xs)=true:=by unfold slc;split <;> rfl
theorem alp (n:Bool) (z:Nat) (xs:List V):(slc n z xs=.nil∧xs=[])∨slc n z xs=.view true z xs:=by
  unfold slc;split
  · rename_i h;exact .inl ⟨rfl,h.2⟩
  · exact .inr rfl
@[simp] theorem lend_slc {s:St} {xp:Xp} {k:Nat} (n:Bool) (z:Nat) (xs:List V):lend s xp (k+1) (slc n z xs)=slc n z xs:=by
  rcases alp n z xs with ⟨h,_⟩ | h <;> rw [h] <;> rfl
@[simp] theorem lendA_slc1 {s:St} {xp:Xp} (n:Bool) (xs:List V):lendA s xp 1 (slc n 1 xs)=.view true 1 xs:=by
  rcases alp n 1 xs with ⟨h,h2⟩ | h <;> rw [h]
  · rw [h2];rfl
  · rfl
@[simp] theorem lendA_slc2 {s:St} {xp:Xp} (n:Bool) (xs:List V):lendA s xp 2 (slc n 2 xs)=.view true 2 xs:=by
  rcases alp n 2 xs with ⟨h,h2⟩ | h <;> rw [h]
  · rw [h2];rfl
  · rfl
@[simp] theorem isLeaf_slc (n:Bool) (z:Nat) (xs:List V):isLeaf (slc n z xs)=true:=by
  rcases alp n z xs with ⟨h,_⟩ | h <;> rw [h] <;> rfl
attribute [-simp] isLeaf
@[simp] theorem isLeaf_i (k x):isLeaf (.i k x)=true:=rfl
@[simp] theorem isLeaf_b (x):isLeaf (.b x)=true:=rfl
@[simp] theorem isLeaf_s (x):isLeaf (.s x)=true:=rfl
@[simp] theorem isLeaf_nil:isLeaf .nil=true:=rfl
@[simp] theorem isLeaf_view (q z xs):isLeaf (.view q z xs)=true:=rfl
@[simp] theorem isLeaf_sl (a b c d):isLeaf (.sl a b c d)=true:=rfl
@[simp] theorem isLeaf_ptr (a b):isLeaf (.ptr a b)=true:=rfl
structure N4 where
  a:Bool
  b:Bool
  c:Bool
  d:Bool
def dkR (n:N4) (d:Dk):List V:=[slc n.a 1 (d.blocks.map .s),slc n.b 2 (d.pend.map pgV),.i .i64 d.fuse,.b d.off]
def prR (n:N4) (p:Pr):List V:=[slc n.a 1 (p.disk.blocks.map .s),slc n.b 2 (p.disk.pend.map pgV),.i .i64 p.disk.fuse,.b p.disk.off,
  .i .i64 p.su.blocks,.i .i64 p.su.log,.i .i64 p.su.seq,.i .i64 p.su.turn,.i .i64 p.seq,.i .i64 p.at_,slc n.c 2 (p.logged.map pgV),slc n.d 2 (p.dirty.map pgV)]
def Dk.tot (d:Dk):Nat:=totS d.blocks+totP d.pend
def Pr.tot (p:Pr):Nat:=p.disk.tot+totP p.logged+totP p.dirty
structure Dk.big (d:Dk):Prop where
  b:d.blocks.length<Go.VS.big
  bs:∀ s,s ∈ d.blocks→s.length<Go.VS.big
  p:d.pend.length<Go.VS.big
  ps:∀ s,s ∈ d.pend→s.data.length<Go.VS.big
structure Pr.big (p:Pr):Prop where
  d:p.disk.big
  l:p.logged.length<Go.VS.big
  ls:∀ s,s ∈ p.logged→s.data.length<Go.VS.big
  y:p.dirty.length<Go.VS.big
  ys:∀ s,s ∈ p.dirty→s.data.length<Go.VS.big
theorem aw0 {k:Int} {a:Nat} (h:minus k a<0):minus k a=-1:=by
  unfold minus at h ⊢;split
  · rename_i c;rw [if_pos c] at h;omega
  · rfl
theorem ao6 {k:Int} {a:Nat} (b:Nat) (h:¬ (a:Int)≤k):minus k a=-1∧minus k (a+b)=-1:=by
  unfold minus;constructor
  · exact if_neg h
  · exact if_neg (by push_cast;omega)
theorem ao7 {k:Int} {a:Nat} (b:Nat) (h:(a:Int)≤k):minus k a=k - a∧minus (k - a) b=minus k (a+b):=by
  unfold minus;constructor
  · exact if_pos h
  · by_cases c:(b:Int)≤k - a
    · rw [if_pos c,if_pos (by push_cast;omega)];push_cast;omega
    · rw [if_neg c,if_neg (by push_cast;omega)]
theorem avs (n:N4) (d:Dk) (h:d.big) (k:Int) (k0:0≤k) (k1:k≤1048576) (K:Out→Prop):
    Call prog 13 ⟨[.agg (dkR n d),.i .i64 k],[],[]⟩ K=K (.i .i64 (minus k d.tot),[],[]):=by
  refine Zc (f:=13) rfl rfl (by decide) ?_
  have e1:=fun K=>ap6 true d.blocks k h.b h.bs k0 k1 K
  unfold Dk.tot dkR
  by_cases c1:(totS d.blocks:Int)≤k
  · obtain ⟨m1,m2⟩:=ao7 (totP d.pend) c1
    rw [m1] at e1
    have e2:=fun K=>avu true d.pend (k - totS d.blocks) h.p h.ps (by omega) (by omega) K
    rw [m2] at e2
    have c2:¬ k - totS d.blocks<0:=by omega
    by_cases c3:minus k (totS d.blocks+totP d.pend)<0
    · have:minus k (totS d.blocks+totP d.pend)=-1:=aw0 c3
      rw [this] at e2 ⊢
      simp -implicitDefEqProofs [e1,e2,c2]
    · simp -implicitDefEqProofs [e1,e2,c2,c3]
  · obtain ⟨m1,m2⟩:=ao6 (totP d.pend) c1
    rw [m1] at e1
    rw [m2]
    simp -implicitDefEqProofs [e1]
theorem ah3 (n:N4) (p:Pr) (h:p.big) (k:Int) (k0:0≤k) (k1:k≤1048576) (K:Out→Prop):
    Call prog 0 ⟨[.agg (prR n p),.i .i64 k],[],[]⟩ K=K (.i .i64 (minus k p.tot),[],[]):=by
  refine Zc (f:=0) rfl rfl (by decide) ?_
  have e1:=fun K=>avs n p.disk h.d k k0 k1 K
  unfold dkR at e1
  unfold Pr.tot prR
  by_cases c1:(p.disk.tot:Int)≤k
  · obtain ⟨m1,m2⟩:=ao7 (totP p.logged) c1
    rw [m1] at e1
    have e2:=fun K=>am9 true p.logged (k - p.disk.tot) h.l h.ls (by omega) (by omega) K
    rw [m2] at e2
    have c2:¬ k - p.disk.tot<0:=by omega
    by_cases c3:((p.disk.tot+totP p.logged:Nat):Int)≤k
    · obtain ⟨m3,m4⟩:=ao7 (totP p.dirty) c3
      rw [m3] at e2
      have e3:=fun K=>am9 true p.dirty (k - (p.disk.tot+totP p.logged:Nat)) h.y h.ys (by omega) (by omega) K
      rw [m4] at e3
      have c4:¬ k - ((p.disk.tot+totP p.logged:Nat):Int)<0:=by omega
      generalize ((p.disk.tot+totP p.logged:Nat):Int)=z at e2 e3 c4
      by_cases c5:minus k (p.disk.tot+totP p.logged+totP p.dirty)<0
      · have:minus k (p.disk.tot+totP p.logged+totP p.dirty)=-1:=aw0 c5
        rw [this] at e3 ⊢
        simp -implicitDefEqProofs [e1,e2,e3,c2,c4]
      · simp -implicitDefEqProofs [e1,e2,e3,c2,c4,c5]
    · obtain ⟨m3,m4⟩:=ao6 (totP p.dirty) c3
      rw [m3] at e2
      rw [m4]
      simp -implicitDefEqProofs [e1,e2,c2]
  · obtain ⟨m1,m2⟩:=ao6 (totP p.logged+totP p.dirty) c1
    rw [m1] at e1
    rw [Nat.add_assoc,m2]
    simp -implicitDefEqProofs [e1]
end Go.VS
end
section
namespace Go.VS
set_option maxRecDepth 4000
theorem aq9 {α:Type} {xs:List α} {d e:α} {i n:Nat} (h:i<n) (hn:xs.length=n):(xs.take i++List.replicate (n - i) d)[i]?.getD e=d:=by
  have h1:(xs.take i).length=i:=by rw [List.length_take];omega
  rw [List.getElem?_append_right (by omega),h1,Nat.sub_self,List.getElem?_replicate,if_pos (by omega)];rfl
theorem ara {α:Type} {xs:List α} {d x:α} {i n:Nat} (h:i<n) (hn:xs.length=n) (hx:xs[i]?=some x):(xs.take i++List.replicate (n - i) d).set i x=xs.take (i+1)++List.replicate (n - (i+1)) d:=by
  have h1:(xs.take i).length=i:=by rw [List.length_take];omega
  obtain ⟨h2,h3⟩:=List.getElem?_eq_some_iff.1 hx
  rw [List.set_append_right _ _ (by omega),h1,Nat.sub_self,show n - i=(n - (i+1))+1 by omega,List.replicate_succ,List.set_cons_zero,← List.take_append_getElem h2,h3,List.append_assoc];rfl
theorem avw (p:Pg) (K:Out→Prop):Call prog 48 ⟨[pgV p],[],[]⟩ K=K (pgV p,[],[]):=by
  refine Zc (f:=48) rfl rfl (by decide) ?_
  simp -implicitDefEqProofs [pgV]
theorem axy (p:Pg) (K:Out→Prop):Call prog 77 ⟨[pgV p],[],[]⟩ K=K (pgV p,[],[]):=by
  refine Zc (f:=77) rfl rfl (by decide) ?_
  simp -implicitDefEqProofs [pgV]
theorem auk (s:Su) (K:Out→Prop):Call prog 19 ⟨[.agg (suC s)],[],[]⟩ K=K (.agg (suC s),[],[]):=by
  refine Zc (f:=19) rfl rfl (by decide) ?_
  obtain ⟨a,b,c,d⟩:=s
  simp -implicitDefEqProofs [suC,-Int.natCast_eq_zero]
theorem ap7 (q:Bool) (l:List Bs) (hl:l.length≤lim) (K:Out→Prop):Call prog 46 ⟨[.view q 1 (l.map V.s)],[],[]⟩ K=K (.sl 0 0 l.length false,[],[.row 1 false (l.map V.s)]):=by
  refine Zc (f:=46) rfl rfl (by decide) ?_
  have hl':=hl
  unfold lim at hl'
  simp -implicitDefEqProofs [hl]
  refine WL_for (fun i=>⟨sp 22 [(0,.view q 1 (l.map V.s)),(3,.sl 0 0 l.length false),(4,.i .i64 i)],[],[.row 1 false ((l.map V.s).take i++List.replicate (l.length - i) (V.s []))]⟩) l.length (fun _=>True) _ (by simp -implicitDefEqProofs) trivial ?_
  intro i hi _
  by_cases hlt:i<l.length
  · have hw:=wrap_i64 (n:=(i:Int)+1) (by omega) (by omega)
    have h1:=aq9 (xs:=l.map V.s) (d:=V.s []) (e:=V.no) hlt (by simp)
    have h2:=ara (xs:=l.map V.s) (d:=V.s []) (x:=V.s l[i]) hlt (by simp) (by simp [hlt])
    simp -implicitDefEqProofs [hlt,hw,h1,h2,Next]
  · have:i=l.length:=by omega
    subst this
    have ht:(l.map V.s).take l.length=l.map V.s:=by rw [List.take_of_length_le (by simp)]
    simp -implicitDefEqProofs [ht]
theorem avx (q:Bool) (l:List Pg) (hl:l.length≤lim) (K:Out→Prop):Call prog 47 ⟨[.view q 2 (l.map pgV)],[],[]⟩ K=K (.sl 0 0 l.length false,[],[.row 2 false (l.map pgV)]):=by
  refine Zc (f:=47) rfl rfl (by decide) ?_
  have hl':=hl
  unfold lim at hl'
  simp -implicitDefEqProofs [hl]
  refine WL_for (fun i=>⟨sp 23 [(0,.view q 2 (l.map pgV)),(3,.sl 0 0 l.length false),(4,.i .i64 i)],[],[.row 2 false ((l.map pgV).take i++List.replicate (l.length - i) (V.agg [.i .i64 0,.s []]))]⟩) l.length (fun _=>True) _ (by simp -implicitDefEqProofs) trivial ?_
  intro i hi _
  by_cases hlt:i<l.length
  · have hw:=wrap_i64 (n:=(i:Int)+1) (by omega) (by omega)
    have h1:=aq9 (xs:=l.map pgV) (d:=V.agg [.i .i64 0,.s []]) (e:=V.no) hlt (by simp)
    have h2:=ara (xs:=l.map pgV) (d:=V.agg [.i .i64 0,.s []]) (x:=pgV l[i]) hlt (by simp) (by simp [hlt])
    have e1:=fun K=>axy l[i] K
    simp only [pgV] at e1
    simp only [pgV] at h2
    simp -implicitDefEqProofs [hlt,hw,h1,h2,e1,pgV,Next]
  · have:i=l.length:=by omega
    subst this
    have ht:(l.map pgV).take l.length=l.map pgV:=by rw [List.take_of_length_le (by simp)]
    simp -implicitDefEqProofs [ht]
theorem ana (q:Bool) (l:List Pg) (hl:l.length≤lim) (K:Out→Prop):Call prog 20 ⟨[.view q 2 (l.map pgV)],[],[]⟩ K=K (.sl 0 0 l.length false,[],[.row 2 false (l.map pgV)]):=by
  refine Zc (f:=20) rfl rfl (by decide) ?_
  have hl':=hl
  unfold lim at hl'
  simp -implicitDefEqProofs [hl]
  refine WL_for (fun i=>⟨sp 23 [(0,.view q 2 (l.map pgV)),(3,.sl 0 0 l.length false),(4,.i .i64 i)],[],[.row 2 false ((l.map pgV).take i++List.replicate (l.length - i) (V.agg [.i .i64 0,.s []]))]⟩) l.length (fun _=>True) _ (by simp -implicitDefEqProofs) trivial ?_
  intro i hi _
  by_cases hlt:i<l.length
  · have hw:=wrap_i64 (n:=(i:Int)+1) (by omega) (by omega)
    have h1:=aq9 (xs:=l.map pgV) (d:=V.agg [.i .i64 0,.s []]) (e:=V.no) hlt (by simp)
    have h2:=ara (xs:=l.map pgV) (d:=V.agg [.i .i64 0,.s []]) (x:=pgV l[i]) hlt (by simp) (by simp [hlt])
    have e1:=fun K=>avw l[i] K
    simp only [pgV] at e1
    simp only [pgV] at h2
    simp -implicitDefEqProofs [hlt,hw,h1,h2,e1,pgV,Next]
  · have:i=l.length:=by omega
    subst this
    have ht:(l.map pgV).take l.length=l.map pgV:=by rw [List.take_of_length_le (by simp)]
    simp -implicitDefEqProofs [ht]
end Go.VS
end
section
namespace Go.VS
set_option maxRecDepth 4000
attribute [-simp] isLeaf
def dkW (d:Dk):List V:=[.sl 0 0 d.blocks.length false,.sl 1 0 d.pend.length false,.i .i64 d.fuse,.b d.off]
def dkRows (d:Dk):List Rw:=[.row 1 false (d.blocks.map .s),.row 2 false (d.pend.map pgV)]
def prW (p:Pr):List V:=[.sl 0 0 p.disk.blocks.length false,.sl 1 0 p.disk.pend.length false,.i .i64 p.disk.fuse,.b p.disk.off,
  .i .i64 p.su.blocks,.i .i64 p.su.log,.i .i64 p.su.seq,.i .i64 p.su.turn,.i .i64 p.seq,.i .i64 p.at_,.sl 2 0 p.logged.length false,.sl 3 0 p.dirty.length false]
def prRows (p:Pr):List Rw:=[.row 1 false (p.disk.blocks.map .s),.row 2 false (p.disk.pend.map pgV),.row 2 false (p.logged.map pgV),.row 2 false (p.dirty.map pgV)]
theorem avv (n:N4) (d:Dk) (h1:d.blocks.length≤lim) (h2:d.pend.length≤lim) (K:Out→Prop):
    Call prog 18 ⟨[.agg (dkR n d)],[],[]⟩ K=K (.agg (dkW d),[],dkRows d):=by
  refine Zc (f:=18) rfl rfl (by decide) ?_
  obtain ⟨bl,pe,fu,off⟩:=d
  have e1:=fun K=>ap7 true bl h1 K
  have e2:=fun K=>avx true pe h2 K
  simp -implicitDefEqProofs [dkR,dkW,dkRows,e1,e2]
theorem ah4 (n:N4) (p:Pr) (h:p.sm) (K:Out→Prop):
    Call prog 1 ⟨[.agg (prR n p)],[],[]⟩ K=K (.agg (prW p),[],prRows p):=by
  refine Zc (f:=1) rfl rfl (by decide) ?_
  have e1:=fun K=>avv n p.disk h.sb h.sp K
  have e2:=fun K=>auk p.su K
  have e3:=fun K=>ana true p.logged h.sl K
  have e4:=fun K=>ana true p.dirty h.sd K
  obtain ⟨⟨bl,pe,fu,off⟩,⟨a,b,c,d⟩,sq,at_,lo,di⟩:=p
  simp only [dkR,dkW,dkRows,suC] at e1 e2 e3 e4
  simp -implicitDefEqProofs [prR,prW,prRows,e1,e2,e3,e4]
end Go.VS
end
section
namespace Go.VS
set_option maxRecDepth 4000
attribute [-simp] isLeaf
theorem auw (p:Pg) (K:Out→Prop):Call prog 58 ⟨[pgV p,pgV p],[],[]⟩ K=K (.b true,[],[]):=by
  refine Zc (f:=58) rfl rfl (by decide) ?_
  obtain ⟨a,b⟩:=p
  simp -implicitDefEqProofs [pgV]
theorem axl (p:Pg) (K:Out→Prop):Call prog 91 ⟨[pgV p,pgV p],[],[]⟩ K=K (.b true,[],[]):=by
  refine Zc (f:=91) rfl rfl (by decide) ?_
  obtain ⟨a,b⟩:=p
  simp -implicitDefEqProofs [pgV]
theorem amm (s:Su) (K:Out→Prop):Call prog 25 ⟨[.agg (suC s),.agg (suC s)],[],[]⟩ K=K (.b true,[],[]):=by
  refine Zc (f:=25) rfl rfl (by decide) ?_
  obtain ⟨a,b,c,d⟩:=s
  simp -implicitDefEqProofs [suC]
theorem aij (q q':Bool) (l:List Bs) (hl:l.length≤lim) (K:Out→Prop):Call prog 56 ⟨[.view q 1 (l.map V.s),.view q' 1 (l.map V.s)],[],[]⟩ K=K (.b true,[],[]):=by
  refine Zc (f:=56) rfl rfl (by decide) ?_
  unfold lim at hl
  simp -implicitDefEqProofs
  refine WL_for (fun i=>⟨sp 26 [(0,.view q 1 (l.map V.s)),(1,.view q' 1 (l.map V.s)),(5,.i .i64 i)],[],[]⟩) l.length (fun _=>True) _ (by simp -implicitDefEqProofs) trivial ?_
  intro i hi _
  by_cases hlt:i<l.length
  · have hw:=wrap_i64 (n:=(i:Int)+1) (by omega) (by omega)
    simp -implicitDefEqProofs [hlt,hw,Next]
  · simp -implicitDefEqProofs [hlt]
theorem aoc (q q':Bool) (l:List Pg) (hl:l.length≤lim) (K:Out→Prop):Call prog 57 ⟨[.view q 2 (l.map pgV),.view q' 2 (l.map pgV)],[],[]⟩ K=K (.b true,[],[]):=by
  refine Zc (f:=57) rfl rfl (by decide) ?_
  unfold lim at hl
  simp -implicitDefEqProofs
  refine WL_for (fun i=>⟨sp 27 [(0,.view q 2 (l.map pgV)),(1,.view q' 2 (l.map pgV)),(5,.i .i64 i)],[],[]⟩) l.length (fun _=>True) _ (by simp -implicitDefEqProofs) trivial ?_
  intro i hi _
  by_cases hlt:i<l.length
  · have hw:=wrap_i64 (n:=(i:Int)+1) (by omega) (by omega)
    have e1:=fun K=>axl l[i] K
    simp only [pgV] at e1
    simp -implicitDefEqProofs [hlt,hw,e1,pgV,Next]
  · simp -implicitDefEqProofs [hlt]
theorem ag5 (q q':Bool) (l:List Pg) (hl:l.length≤lim) (K:Out→Prop):Call prog 26 ⟨[.view q 2 (l.map pgV),.view q' 2 (l.map pgV)],[],[]⟩ K=K (.b true,[],[]):=by
  refine Zc (f:=26) rfl rfl (by decide) ?_
  unfold lim at hl
  simp -implicitDefEqProofs
  refine WL_for (fun i=>⟨sp 27 [(0,.view q 2 (l.map pgV)),(1,.view q' 2 (l.map pgV)),(5,.i .i64 i)],[],[]⟩) l.length (fun _=>True) _ (by simp -implicitDefEqProofs) trivial ?_
  intro i hi _
  by_cases hlt:i<l.length
  · have hw:=wrap_i64 (n:=(i:Int)+1) (by omega) (by omega)
    have e1:=fun K=>auw l[i] K
    simp only [pgV] at e1
    simp -implicitDefEqProofs [hlt,hw,e1,pgV,Next]
  · simp -implicitDefEqProofs [hlt]
theorem auv (q q':Bool) (d:Dk) (h1:d.blocks.length≤lim) (h2:d.pend.length≤lim) (K:Out→Prop):
    Call prog 24 ⟨[.agg (dkC q d),.agg (dkC q' d)],[],[]⟩ K=K (.b true,[],[]):=by
  refine Zc (f:=24) rfl rfl (by decide) ?_
  obtain ⟨bl,pe,fu,off⟩:=d
  have e1:=fun K=>aij q q' bl h1 K
  have e2:=fun K=>aoc q q' pe h2 K
  cases off <;> simp -implicitDefEqProofs [dkC,e1,e2]
theorem ab8 (q q':Bool) (p:Pr) (h:p.sm) (K:Out→Prop):
    Call prog 4 ⟨[.agg (prC q p),.agg (prC q' p)],[],[]⟩ K=K (.b true,[],[]):=by
  refine Zc (f:=4) rfl rfl (by decide) ?_
  have e1:=fun K=>auv q q' p.disk h.sb h.sp K
  have e2:=fun K=>amm p.su K
  have e3:=fun K=>ag5 q q' p.logged h.sl K
  have e4:=fun K=>ag5 q q' p.dirty h.sd K
  obtain ⟨⟨bl,pe,fu,off⟩,⟨a,b,c,d⟩,sq,at_,lo,di⟩:=p
  simp only [dkC,suC] at e1 e2 e3 e4
  simp -implicitDefEqProofs [prC,e1,e2,e3,e4]
@[simp] theorem canonP_sp0 {n:Nat} {lv:List Nat} (h:srt 0 n lv=true) (pc:Nat) (l:List (Nat × V)) (m:List (List V)) (nb:Nat):
    St.canonP pc ⟨sp n l,m,[]⟩ lv nb=canE nb n (kp lv l) (m.take nb) [] (List.range pc):=by
  rw [asq h,anu,ape]
end Go.VS
end
section
namespace Go.VS
set_option maxRecDepth 4000
attribute [-simp] isLeaf
def dig (k:Nat):UInt8:=UInt8.ofNat (48+k % 10)
def mtext:Nat→Nat→Bs→Bs
  | 0,_,o=>o
  | n+1,k,o=>if k=0 then o else mtext n (k / 10) (dig k :: o)
theorem ar3 (k:Nat) (k0:0<k) (k1:k≤16777216) (K:Out→Prop):Call prog 64 ⟨[.i .i64 k],[],[]⟩ K=K (.s (109 :: mtext k k []),[],[]):=by
  refine Zc (f:=64) rfl rfl (by decide) ?_
  have c0:¬ k=0:=by omega
  simp -implicitDefEqProofs [c0]
  refine WL_st (α:=Nat × Nat × Bs) (fun x=>⟨sp 20 [(0,.i .i64 x.2.1),(3,.s x.2.2)],[],[]⟩) (fun x=>x.1) (fun x=>mtext k k []=mtext x.1 x.2.1 x.2.2∧x.2.1≤x.1∧x.2.1≤16777216∧x.2.2.length+x.2.1≤16777216) (k,k,[]) _ (by simp -implicitDefEqProofs) ⟨rfl,by simp,by simpa using k1,by simpa using k1⟩ ?_
  rintro ⟨n,j,o⟩ ⟨hP,h1,h2,h3⟩
  simp only at hP h1 h2 h3
  by_cases hj:j=0
  · subst hj
    have:mtext n 0 o=o:=by cases n <;> simp [mtext]
    rw [this] at hP
    rw [hP]
    have c1:1+o.length≤lim:=by unfold lim;omega
    simp -implicitDefEqProofs [c1]
  · cases n with
    | zero=>omega
    | succ n=>
      rw [mtext,if_neg hj] at hP
      have hj0:0<j:=by omega
      have e1:(j:Int).tmod 10=((j % 10:Nat):Int):=rfl
      have e2:(j:Int).tdiv 10=((j / 10:Nat):Int):=rfl
      have w0:IntKind.i64.wrap (48+(j:Int).tmod 10)=48+((j % 10:Nat):Int):=by rw [e1];exact wrap_i64 (by omega) (by omega)
      have hd:(dig j).toNat=48+j % 10:=by unfold dig;simp;omega
      have hu:IntKind.u8.wrap (48+((j % 10:Nat):Int))=((dig j).toNat:Int):=by
        rw [hd,wrap_u8 (by omega) (by omega)];push_cast;rfl
      have hu2:IntKind.u8.wrap (48+(j:Int) % 10)=((dig j).toNat:Int):=by rw [← hu];push_cast;rfl
      have w3:IntKind.i64.wrap ((j:Int).tdiv 10)=((j / 10:Nat):Int):=by rw [e2];exact wrap_i64 (by omega) (by omega)
      have w4:IntKind.i64.wrap ((j:Int) / 10)=(j:Int) / 10:=wrap_i64 (by omega) (by omega)
      have cv:∀ t m,cvsV ⟨t,m,[.row 1 false [.i .u8 ((dig j).toNat:Int)]]⟩ (.sl 0 0 1 false)=some (.s [dig j]):=by
        intro t m;simp [cvsV,vbytes]
      have c1:1+o.length≤lim:=by unfold lim;omega
      simp -implicitDefEqProofs [hj0,w0,hu,hu2,cv,c1,w3,w4]
      refine NextS.mk (n,j / 10,dig j :: o) ⟨hP,by simp only;omega,by simp only;omega,by simp;omega⟩ (by simp) (by simp)
def mtx (k:Nat):Bs:=109 :: mtext k k []
theorem aib (k:Nat) (k0:0<k) (k1:k≤16777216) (K:Out→Prop):Call prog 64 ⟨[.i .i64 k],[],[]⟩ K=K (.s (mtx k),[],[]):=ar3 k k0 k1 K
def mix (f:Nat→V) (xs:List V) (i:Nat):List V:=(List.range i).map f++xs.drop i
theorem ar4 (f:Nat→V) (xs:List V):mix f xs 0=xs:=by simp [mix]
theorem avi (f:Nat→V) (xs:List V):mix f xs xs.length=(List.range xs.length).map f:=by simp [mix]
theorem avj {f:Nat→V} {xs:List V} {i:Nat} (h:i<xs.length):(mix f xs i).set i (f i)=mix f xs (i+1):=by
  unfold mix
  rw [List.set_append_right _ _ (by simp),List.length_map,List.length_range,Nat.sub_self,List.drop_eq_getElem_cons h,List.set_cons_zero,List.range_succ,List.map_append,List.append_assoc];rfl
def mkS (k n:Nat):List Bs:=(List.range n).map fun i=>mtx (k+i)
def mkP (k n:Nat):List Pg:=(List.range n).map fun i=>⟨((k+2*i:Nat):Int),mtx (k+2*i+1)⟩
def mkM (k n:Nat):List Ms:=(List.range n).map fun i=>⟨((k+3*i:Nat):Int),((k+3*i+1:Nat):Int),mtx (k+3*i+2)⟩
@[simp] theorem mkS_len (k n:Nat):(mkS k n).length=n:=by simp [mkS]
@[simp] theorem mkP_len (k n:Nat):(mkP k n).length=n:=by simp [mkP]
@[simp] theorem mkM_len (k n:Nat):(mkM k n).length=n:=by simp [mkM]
theorem ank (xs:List V) (k:Nat) (k0:0<k) (k1:k+1*xs.length≤16777216) (hx:∀ x,x ∈ xs→∃ l,x=.s l) (K:Out→Prop):
    Call prog 1062 ⟨[.sl 0 0 xs.length false,.i .i64 k],[],[.row 1 false xs]⟩ K=K (.i .i64 ((k+1*xs.length:Nat):Int),[],[.row 1 false ((mkS k xs.length).map .s)]):=by
  refine aax ?_ K
  rw [aaz (p:=prog) (f:=1062) rfl _ _ _ rfl (by decide) rfl]
  have hmk:(List.range xs.length).map (fun i=>V.s (mtx (k+i)))=(mkS k xs.length).map .s:=by simp [mkS,pgV,msV,Function.comp_def]
  simp -implicitDefEqProofs
  refine WL_st (α:=Nat × List V) (fun x=>⟨sp 20 [(0,.sl 0 0 xs.length false),(1,.i .i64 ((k+1*x.1:Nat):Int)),(5,.i .i64 x.1)],[],[.row 1 false x.2]⟩) (fun x=>xs.length - x.1) (fun x=>x.1≤xs.length∧x.2.length=xs.length∧(∀ y,y ∈ x.2→∃ l,y=.s l)∧x.2=mix (fun i=>V.s (mtx (k+i))) xs x.1) (0,xs) _ (by simp -implicitDefEqProofs) ⟨by simp,rfl,hx,(ar4 _ _).symm⟩ ?_
  rintro ⟨i,ys⟩ ⟨h1,h2,h3,h4⟩
  simp only at h1 h2 h3 h4
  by_cases hlt:i<xs.length
  · have hw:=wrap_i64 (n:=(i:Int)+1) (by omega) (by omega)
    have hw2:=wrap_i64 (n:=(k:Int)+i+1) (by omega) (by omega)
    have ea:(k:Int)+((i:Int)+1)=k+i+1:=by omega
    have hlt2:i<ys.length:=by omega
    obtain ⟨l,hl⟩:=h3 ys[i] (List.getElem_mem hlt2)
    have hg:ys[i]?.getD .no=.s l:=by rw [List.getElem?_eq_getElem hlt2,hl];rfl
    have e1:=fun K=>aib (k+i) (by omega) (by omega) K
    simp only [Int.natCast_add,Tag_eq] at e1
    simp -implicitDefEqProofs [hlt,hlt2,h2,hw,hg,hl,hw2,e1]
    refine NextS.mk (i+1,ys.set i ((fun i=>V.s (mtx (k+i))) i)) ⟨by simp only;omega,by simp;omega,?_,by rw [h4,avj hlt]⟩ (by simp only;omega) (by simp [ea])
    intro y hy
    rcases List.mem_or_eq_of_mem_set hy with hy | hy
    · exact h3 y hy
    · exact ⟨_,hy⟩
  · have:i=xs.length:=by omega
    subst this
    rw [h4,avi,hmk]
    simp -implicitDefEqProofs
theorem ao5 (k:Nat) (K:Out→Prop):Call prog 1062 ⟨[.nil,.i .i64 k],[],[]⟩ K=K (.i .i64 k,[],[]):=by
  refine aax ?_ K
  rw [aaz (p:=prog) (f:=1062) rfl _ _ _ rfl (by decide) rfl]
  simp -implicitDefEqProofs
  refine WL_for (fun i=>⟨sp 20 [(0,.nil),(1,.i .i64 k),(5,.i .i64 0)],[],[.gone]⟩) 0 (fun _=>True) _ (by simp -implicitDefEqProofs) trivial ?_
  intro i hi _
  simp -implicitDefEqProofs
theorem ar2 (xs:List V) (k:Nat) (k0:0<k) (k1:k+2*xs.length≤16777216) (hx:∀ x,x ∈ xs→∃ b l,x=.agg [.i .i64 b,.s l]) (K:Out→Prop):
    Call prog 1063 ⟨[.sl 0 0 xs.length false,.i .i64 k],[],[.row 2 false xs]⟩ K=K (.i .i64 ((k+2*xs.length:Nat):Int),[],[.row 2 false ((mkP k xs.length).map pgV)]):=by
  refine aax ?_ K
  rw [aaz (p:=prog) (f:=1063) rfl _ _ _ rfl (by decide) rfl]
  have hmk:(List.range xs.length).map (fun i=>V.agg [.i .i64 ((k+2*i:Nat):Int),.s (mtx (k+2*i+1))])=(mkP k xs.length).map pgV:=by simp [mkP,pgV,msV,Function.comp_def]
  simp -implicitDefEqProofs
  refine WL_st (α:=Nat × List V) (fun x=>⟨sp 28 [(0,.sl 0 0 xs.length false),(1,.i .i64 ((k+2*x.1:Nat):Int)),(5,.i .i64 x.1)],[],[.row 2 false x.2]⟩) (fun x=>xs.length - x.1) (fun x=>x.1≤xs.length∧x.2.length=xs.length∧(∀ y,y ∈ x.2→∃ b l,y=.agg [.i .i64 b,.s l])∧x.2=mix (fun i=>V.agg [.i .i64 ((k+2*i:Nat):Int),.s (mtx (k+2*i+1))]) xs x.1) (0,xs) _ (by simp -implicitDefEqProofs) ⟨by simp,rfl,hx,(ar4 _ _).symm⟩ ?_
  rintro ⟨i,ys⟩ ⟨h1,h2,h3,h4⟩
  simp only at h1 h2 h3 h4
  by_cases hlt:i<xs.length
  · have hw:=wrap_i64 (n:=(i:Int)+1) (by omega) (by omega)
    have hw2:=wrap_i64 (n:=(k:Int)+2*i+1) (by omega) (by omega)
    have hw3:=wrap_i64 (n:=(k:Int)+2*i+1+1) (by omega) (by omega)
    have ea:(k:Int)+2*((i:Int)+1)=k+2*i+1+1:=by omega
    have hlt2:i<ys.length:=by omega
    obtain ⟨b,l,hl⟩:=h3 ys[i] (List.getElem_mem hlt2)
    have hg:ys[i]?.getD .no=.agg [.i .i64 b,.s l]:=by rw [List.getElem?_eq_getElem hlt2,hl];rfl
    have e1:=fun K=>aib (k+2*i+1) (by omega) (by omega) K
    simp only [Int.natCast_add,Int.natCast_mul,Int.cast_ofNat_Int,Int.natCast_one,Tag_eq] at e1
    simp -implicitDefEqProofs [hlt,hlt2,h2,hw,hg,hl,hw2,hw3,e1]
    refine NextS.mk (i+1,ys.set i ((fun i=>V.agg [.i .i64 ((k+2*i:Nat):Int),.s (mtx (k+2*i+1))]) i)) ⟨by simp only;omega,by simp;omega,?_,by rw [h4,avj hlt]⟩ (by simp only;omega) (by simp [ea])
    intro y hy
    rcases List.mem_or_eq_of_mem_set hy with hy | hy
    · exact h3 y hy
    · exact ⟨_,_,hy⟩
  · have:i=xs.length:=by omega
    subst this
    rw [h4,avi,hmk]
    simp -implicitDefEqProofs
theorem att (k:Nat) (K:Out→Prop):Call prog 1063 ⟨[.nil,.i .i64 k],[],[]⟩ K=K (.i .i64 k,[],[]):=by
  refine aax ?_ K
  rw [aaz (p:=prog) (f:=1063) rfl _ _ _ rfl (by decide) rfl]
  simp -implicitDefEqProofs
  refine WL_for (fun i=>⟨sp 28 [(0,.nil),(1,.i .i64 k),(5,.i .i64 0)],[],[.gone]⟩) 0 (fun _=>True) _ (by simp -implicitDefEqProofs) trivial ?_
  intro i hi _
  simp -implicitDefEqProofs
theorem ajr (xs:List V) (k:Nat) (k0:0<k) (k1:k+2*xs.length≤16777216) (hx:∀ x,x ∈ xs→∃ b l,x=.agg [.i .i64 b,.s l]) (K:Out→Prop):
    Call prog 1030 ⟨[.sl 0 0 xs.length false,.i .i64 k],[],[.row 2 false xs]⟩ K=K (.i .i64 ((k+2*xs.length:Nat):Int),[],[.row 2 false ((mkP k xs.length).map pgV)]):=by
  refine aax ?_ K
  rw [aaz (p:=prog) (f:=1030) rfl _ _ _ rfl (by decide) rfl]
  have hmk:(List.range xs.length).map (fun i=>V.agg [.i .i64 ((k+2*i:Nat):Int),.s (mtx (k+2*i+1))])=(mkP k xs.length).map pgV:=by simp [mkP,pgV,msV,Function.comp_def]
  simp -implicitDefEqProofs
  refine WL_st (α:=Nat × List V) (fun x=>⟨sp 28 [(0,.sl 0 0 xs.length false),(1,.i .i64 ((k+2*x.1:Nat):Int)),(5,.i .i64 x.1)],[],[.row 2 false x.2]⟩) (fun x=>xs.length - x.1) (fun x=>x.1≤xs.length∧x.2.length=xs.length∧(∀ y,y ∈ x.2→∃ b l,y=.agg [.i .i64 b,.s l])∧x.2=mix (fun i=>V.agg [.i .i64 ((k+2*i:Nat):Int),.s (mtx (k+2*i+1))]) xs x.1) (0,xs) _ (by simp -implicitDefEqProofs) ⟨by simp,rfl,hx,(ar4 _ _).symm⟩ ?_
  rintro ⟨i,ys⟩ ⟨h1,h2,h3,h4⟩
  simp only at h1 h2 h3 h4
  by_cases hlt:i<xs.length
  · have hw:=wrap_i64 (n:=(i:Int)+1) (by omega) (by omega)
    have hw2:=wrap_i64 (n:=(k:Int)+2*i+1) (by omega) (by omega)
    have hw3:=wrap_i64 (n:=(k:Int)+2*i+1+1) (by omega) (by omega)
    have ea:(k:Int)+2*((i:Int)+1)=k+2*i+1+1:=by omega
    have hlt2:i<ys.length:=by omega
    obtain ⟨b,l,hl⟩:=h3 ys[i] (List.getElem_mem hlt2)
    have hg:ys[i]?.getD .no=.agg [.i .i64 b,.s l]:=by rw [List.getElem?_eq_getElem hlt2,hl];rfl
    have e1:=fun K=>aib (k+2*i+1) (by omega) (by omega) K
    simp only [Int.natCast_add,Int.natCast_mul,Int.cast_ofNat_Int,Int.natCast_one,Tag_eq] at e1
    simp -implicitDefEqProofs [hlt,hlt2,h2,hw,hg,hl,hw2,hw3,e1]
    refine NextS.mk (i+1,ys.set i ((fun i=>V.agg [.i .i64 ((k+2*i:Nat):Int),.s (mtx (k+2*i+1))]) i)) ⟨by simp only;omega,by simp;omega,?_,by rw [h4,avj hlt]⟩ (by simp only;omega) (by simp [ea])
    intro y hy
    rcases List.mem_or_eq_of_mem_set hy with hy | hy
    · exact h3 y hy
    · exact ⟨_,_,hy⟩
  · have:i=xs.length:=by omega
    subst this
    rw [h4,avi,hmk]
    simp -implicitDefEqProofs
theorem ar1 (k:Nat) (K:Out→Prop):Call prog 1030 ⟨[.nil,.i .i64 k],[],[]⟩ K=K (.i .i64 k,[],[]):=by
  refine aax ?_ K
  rw [aaz (p:=prog) (f:=1030) rfl _ _ _ rfl (by decide) rfl]
  simp -implicitDefEqProofs
  refine WL_for (fun i=>⟨sp 28 [(0,.nil),(1,.i .i64 k),(5,.i .i64 0)],[],[.gone]⟩) 0 (fun _=>True) _ (by simp -implicitDefEqProofs) trivial ?_
  intro i hi _
  simp -implicitDefEqProofs
theorem agw (q:Bool) (k n:Nat) (k0:0<k) (k1:k+n≤16777216) (K:Out→Prop):
    Call prog 229 ⟨[.view q 1 ((mkS k n).map .s),.i .i64 k],[],[]⟩ K=K (.i .i64 ((k+n:Nat):Int),[],[]):=by
  refine Zc (f:=229) rfl rfl (by decide) ?_
  simp -implicitDefEqProofs
  refine WL_for (fun i=>⟨sp 22 [(0,.view q 1 ((mkS k n).map .s)),(1,.i .i64 ((k+i:Nat):Int)),(5,.i .i64 i)],[],[]⟩) n (fun _=>True) _ (by simp -implicitDefEqProofs) trivial ?_
  intro i hi _
  by_cases hlt:i<n
  · have hw:=wrap_i64 (n:=(i:Int)+1) (by omega) (by omega)
    have hw2:=wrap_i64 (n:=(k:Int)+i+1) (by omega) (by omega)
    have ea:(k:Int)+((i:Int)+1)=k+i+1:=by omega
    have e1:=fun K=>aib (k+i) (by omega) (by omega) K
    simp only [Int.natCast_add,Tag_eq] at e1
    have hg:∀ h,(mkS k n)[i]'h=mtx (k+i):=fun h=>by simp [mkS]
    simp -implicitDefEqProofs [hlt,hw,hw2,hg,e1,ea,Next]
  · have:i=n:=by omega
    subst this
    simp -implicitDefEqProofs
theorem ak9 (q:Bool) (k n:Nat) (k0:0<k) (k1:k+2*n≤16777216) (K:Out→Prop):
    Call prog 230 ⟨[.view q 2 ((mkP k n).map pgV),.i .i64 k],[],[]⟩ K=K (.i .i64 ((k+2*n:Nat):Int),[],[]):=by
  refine Zc (f:=230) rfl rfl (by decide) ?_
  simp -implicitDefEqProofs
  refine WL_for (fun i=>⟨sp 32 [(0,.view q 2 ((mkP k n).map pgV)),(1,.i .i64 ((k+2*i:Nat):Int)),(5,.i .i64 i)],[],[]⟩) n (fun _=>True) _ (by simp -implicitDefEqProofs) trivial ?_
  intro i hi _
  by_cases hlt:i<n
  · have hw:=wrap_i64 (n:=(i:Int)+1) (by omega) (by omega)
    have hw2:=wrap_i64 (n:=(k:Int)+2*i+1) (by omega) (by omega)
    have hw3:=wrap_i64 (n:=(k:Int)+2*i+1+1) (by omega) (by omega)
    have ea:(k:Int)+2*((i:Int)+1)=k+2*i+1+1:=by omega
    have e1:=fun K=>aib (k+2*i+1) (by omega) (by omega) K
    simp only [Int.natCast_add,Int.natCast_mul,Int.cast_ofNat_Int,Int.natCast_one,Tag_eq] at e1
    have hg:∀ h,(mkP k n)[i]'h=⟨(k:Int)+2*i,mtx (k+2*i+1)⟩:=fun h=>by simp [mkP]
    simp -implicitDefEqProofs [hlt,hw,hw2,hw3,hg,pgV,e1,ea,Next]
  · have:i=n:=by omega
    subst this
    simp -implicitDefEqProofs
theorem ae3 (q:Bool) (k n:Nat) (k0:0<k) (k1:k+2*n≤16777216) (K:Out→Prop):
    Call prog 205 ⟨[.view q 2 ((mkP k n).map pgV),.i .i64 k],[],[]⟩ K=K (.i .i64 ((k+2*n:Nat):Int),[],[]):=by
  refine Zc (f:=205) rfl rfl (by decide) ?_
  simp -implicitDefEqProofs
  refine WL_for (fun i=>⟨sp 32 [(0,.view q 2 ((mkP k n).map pgV)),(1,.i .i64 ((k+2*i:Nat):Int)),(5,.i .i64 i)],[],[]⟩) n (fun _=>True) _ (by simp -implicitDefEqProofs) trivial ?_
  intro i hi _
  by_cases hlt:i<n
  · have hw:=wrap_i64 (n:=(i:Int)+1) (by omega) (by omega)
    have hw2:=wrap_i64 (n:=(k:Int)+2*i+1) (by omega) (by omega)
    have hw3:=wrap_i64 (n:=(k:Int)+2*i+1+1) (by omega) (by omega)
    have ea:(k:Int)+2*((i:Int)+1)=k+2*i+1+1:=by omega
    have e1:=fun K=>aib (k+2*i+1) (by omega) (by omega) K
    simp only [Int.natCast_add,Int.natCast_mul,Int.cast_ofNat_Int,Int.natCast_one,Tag_eq] at e1
    have hg:∀ h,(mkP k n)[i]'h=⟨(k:Int)+2*i,mtx (k+2*i+1)⟩:=fun h=>by simp [mkP]
    simp -implicitDefEqProofs [hlt,hw,hw2,hw3,hg,pgV,e1,ea,Next]
  · have:i=n:=by omega
    subst this
    simp -implicitDefEqProofs
end Go.VS
end
section
namespace Go.VS
set_option maxRecDepth 8000
attribute [-simp] isLeaf
def mkPr (p:Pr) (k:Nat):Pr:=
  { p with disk:={ p.disk with blocks:=mkS k p.disk.blocks.length,pend:=mkP (k+p.disk.blocks.length) p.disk.pend.length },
           logged:=mkP (k+p.disk.blocks.length+2*p.disk.pend.length) p.logged.length,
           dirty:=mkP (k+p.disk.blocks.length+2*p.disk.pend.length+2*p.logged.length) p.dirty.length }
def cntPr (p:Pr):Nat:=p.disk.blocks.length+2*p.disk.pend.length+2*p.logged.length+2*p.dirty.length
theorem pgs_ex (l:List Pg):∀ x,x ∈ l.map pgV→∃ b s,x=.agg [.i .i64 b,.s s]:=fun x hx=>by
  obtain ⟨y,_,rfl⟩:=List.mem_map.1 hx
  exact ⟨_,_,rfl⟩
theorem a2e (l:List Bs):∀ x,x ∈ l.map V.s→∃ s,x=.s s:=fun x hx=>by
  obtain ⟨y,_,rfl⟩:=List.mem_map.1 hx
  exact ⟨_,rfl⟩
theorem ar0 (d:Dk) (k:Nat) (k0:0<k) (k1:k+d.blocks.length+2*d.pend.length≤16777216) (K:Out→Prop):
    Call prog 1029 ⟨[.agg (dkW d),.i .i64 k],[],dkRows d⟩ K=K (.i .i64 ((k+d.blocks.length+2*d.pend.length:Nat):Int),[],[.row 1 false ((mkS k d.blocks.length).map .s),.row 2 false ((mkP (k+d.blocks.length) d.pend.length).map pgV)]):=by
  have e1:=fun K=>ank (d.blocks.map .s) k k0 (by simp;omega) (a2e _) K
  have e2:=fun K=>ar2 (d.pend.map pgV) (k+d.blocks.length) (by omega) (by simp;omega) (pgs_ex _) K
  simp only [List.length_map,Nat.one_mul,Tag_eq] at e1 e2
  refine aax ?_ K
  rw [aaz (p:=prog) (f:=1029) rfl _ _ _ rfl (by decide) rfl]
  obtain ⟨bl,pe,fu,off⟩:=d
  simp only [Tag_eq] at e1 e2
  generalize (k+bl.length+2*pe.length)=j at *
  generalize (k+bl.length)=i at *
  simp -implicitDefEqProofs [dkW,dkRows,e1,e2]
@[simp] theorem range_4:List.range 4=[0,1,2,3]:=rfl
theorem abb (p:Pr) (k:Nat) (k0:0<k) (k1:k+cntPr p≤16777216) (K:Out→Prop):
    Call prog 1008 ⟨[.agg (pmC 0 p),.i .i64 k],[],pmR p⟩ K=K (.i .i64 ((k+cntPr p:Nat):Int),[],pmR (mkPr p k)):=by
  unfold cntPr at *
  have e1:=fun K=>ar0 p.disk k k0 (by omega) K
  have e2:=fun K=>ajr (p.logged.map pgV) (k+p.disk.blocks.length+2*p.disk.pend.length) (by omega) (by simp;omega) (pgs_ex _) K
  have e3:=fun K=>ajr (p.dirty.map pgV) (k+p.disk.blocks.length+2*p.disk.pend.length+2*p.logged.length) (by omega) (by simp;omega) (pgs_ex _) K
  simp only [List.length_map,Tag_eq] at e1 e2 e3
  refine aax ?_ K
  rw [aaz (p:=prog) (f:=1008) rfl _ _ _ rfl (by decide) rfl]
  obtain ⟨⟨bl,pe,fu,off⟩,⟨a,b,c,d⟩,sq,at_,lo,di⟩:=p
  simp only [dkW,dkRows,mkPr,Tag_eq,← Nat.add_assoc] at e1 e2 e3 ⊢
  generalize h4:(k+bl.length+2*pe.length+2*lo.length+2*di.length)=j4 at *
  generalize h3:(k+bl.length+2*pe.length+2*lo.length)=j3 at *
  generalize h2:(k+bl.length+2*pe.length)=j at *
  generalize h1:(k+bl.length)=i at *
  simp -implicitDefEqProofs [pmC,pmR,e1,e2,e3]
  refine ⟨by omega,?_⟩
  have g3:j+2*lo.length=j3:=by omega
  have g2:i+2*pe.length=j:=by omega
  have g1:k+bl.length=i:=by omega
  simp only [mkPr,g3,g2,g1,and_self]
theorem atr (k:Nat) (K:Out→Prop):Call prog 1029 ⟨[.agg [.nil,.nil,.i .i64 0,.b false],.i .i64 k],[],[]⟩ K=K (.i .i64 k,[],[]):=by
  have e1:=fun K=>ao5 k K
  have e2:=fun K=>att k K
  refine aax ?_ K
  rw [aaz (p:=prog) (f:=1029) rfl _ _ _ rfl (by decide) rfl]
  simp -implicitDefEqProofs [e1,e2]
theorem af3 (k:Nat) (K:Out→Prop):Call prog 1008 ⟨[.agg prZ,.i .i64 k],[],[]⟩ K=K (.i .i64 k,[],[]):=by
  have e1:=fun K=>atr k K
  have e2:=fun K=>ar1 k K
  refine aax ?_ K
  rw [aaz (p:=prog) (f:=1008) rfl _ _ _ rfl (by decide) rfl]
  simp -implicitDefEqProofs [prZ,e1,e2]
theorem arj (q:Bool) (fu:Int) (off:Bool) (k n m:Nat) (k0:0<k) (k1:k+n+2*m≤16777216) (K:Out→Prop):
    Call prog 204 ⟨[.agg [.view q 1 ((mkS k n).map .s),.view q 2 ((mkP (k+n) m).map pgV),.i .i64 fu,.b off],.i .i64 k],[],[]⟩ K=K (.i .i64 ((k+n+2*m:Nat):Int),[],[]):=by
  have e1:=fun K=>agw q k n k0 (by omega) K
  have e2:=fun K=>ak9 q (k+n) m (by omega) (by omega) K
  refine Zc (f:=204) rfl rfl (by decide) ?_
  generalize (k+n+2*m)=j at *
  generalize (k+n)=i at *
  have c1:¬ (i:Int)<0:=by omega
  have c2:¬ (j:Int)<0:=by omega
  simp -implicitDefEqProofs [e1,e2,c1,c2]
theorem ae4 (q:Bool) (p:Pr) (k:Nat) (k0:0<k) (k1:k+cntPr p≤16777216) (K:Out→Prop):
    Call prog 189 ⟨[.agg (prC q (mkPr p k)),.i .i64 k],[],[]⟩ K=K (.i .i64 ((k+cntPr p:Nat):Int),[],[]):=by
  unfold cntPr at *
  have e1:=fun K=>arj q p.disk.fuse p.disk.off k p.disk.blocks.length p.disk.pend.length k0 (by omega) K
  have e2:=fun K=>ae3 q (k+p.disk.blocks.length+2*p.disk.pend.length) p.logged.length (by omega) (by omega) K
  have e3:=fun K=>ae3 q (k+p.disk.blocks.length+2*p.disk.pend.length+2*p.logged.length) p.dirty.length (by omega) (by omega) K
  refine Zc (f:=189) rfl rfl (by decide) ?_
  obtain ⟨⟨bl,pe,fu,off⟩,⟨a,b,c,d⟩,sq,at_,lo,di⟩:=p
  simp only [mkPr,Tag_eq,← Nat.add_assoc] at e1 e2 e3 ⊢
  generalize (k+bl.length+2*pe.length+2*lo.length+2*di.length)=j4 at *
  generalize (k+bl.length+2*pe.length+2*lo.length)=j3 at *
  generalize (k+bl.length+2*pe.length)=j at *
  generalize (k+bl.length)=i at *
  have c1:¬ (j:Int)<0:=by omega
  have c2:¬ (j3:Int)<0:=by omega
  have c3:¬ (j4:Int)<0:=by omega
  simp -implicitDefEqProofs [prC,e1,e2,e3,c1,c2,c3]
theorem afz (k:Nat) (k0:0<k) (k1:k≤16777216) (K:Out→Prop):Call prog 189 ⟨[.agg prZ,.i .i64 k],[],[]⟩ K=K (.i .i64 k,[],[]):=by
  have e1:∀ K:Out→Prop,Call prog 229 ⟨[.view true 1 [],.i .i64 k],[],[]⟩ K=K (.i .i64 k,[],[]):=fun K=>agw true k 0 k0 (by omega) K
  have e2:∀ K:Out→Prop,Call prog 230 ⟨[.view true 2 [],.i .i64 k],[],[]⟩ K=K (.i .i64 k,[],[]):=fun K=>ak9 true k 0 k0 (by omega) K
  have e3:∀ K:Out→Prop,Call prog 205 ⟨[.view true 2 [],.i .i64 k],[],[]⟩ K=K (.i .i64 k,[],[]):=fun K=>ae3 true k 0 k0 (by omega) K
  have c1:¬ (k:Int)<0:=by omega
  have e4:∀ K:Out→Prop,Call prog 204 ⟨[.agg [.nil,.nil,.i .i64 0,.b false],.i .i64 k],[],[]⟩ K=K (.i .i64 k,[],[]):=by
    intro K
    refine Zc (f:=204) rfl rfl (by decide) ?_
    simp -implicitDefEqProofs [e1,e2,c1]
  refine Zc (f:=189) rfl rfl (by decide) ?_
  simp -implicitDefEqProofs [prZ,e3,e4,c1]
theorem ajx (K:Out→Prop):Call prog 4 ⟨[.agg prZ,.agg prZ],[],[]⟩ K=K (.b true,[],[]):=by
  have e1:∀ K:Out→Prop,Call prog 56 ⟨[.view true 1 [],.view true 1 []],[],[]⟩ K=K (.b true,[],[]):=fun K=>aij true true [] (by unfold lim;simp) K
  have e2:∀ K:Out→Prop,Call prog 57 ⟨[.view true 2 [],.view true 2 []],[],[]⟩ K=K (.b true,[],[]):=fun K=>aoc true true [] (by unfold lim;simp) K
  have e3:∀ K:Out→Prop,Call prog 26 ⟨[.view true 2 [],.view true 2 []],[],[]⟩ K=K (.b true,[],[]):=fun K=>ag5 true true [] (by unfold lim;simp) K
  have e4:∀ K:Out→Prop,Call prog 24 ⟨[.agg [.nil,.nil,.i .i64 0,.b false],.agg [.nil,.nil,.i .i64 0,.b false]],[],[]⟩ K=K (.b true,[],[]):=by
    intro K
    refine Zc (f:=24) rfl rfl (by decide) ?_
    simp -implicitDefEqProofs [e1,e2]
  have e5:∀ K:Out→Prop,Call prog 25 ⟨[.agg [.i .i64 0,.i .i64 0,.i .i64 0,.i .i64 0],.agg [.i .i64 0,.i .i64 0,.i .i64 0,.i .i64 0]],[],[]⟩ K=K (.b true,[],[]):=fun K=>amm ⟨0,0,0,0⟩ K
  refine Zc (f:=4) rfl rfl (by decide) ?_
  simp -implicitDefEqProofs [prZ,e3,e4,e5]
end Go.VS
end
section
namespace Go.VS
theorem Pr.sm_of {p:Pr} (h:(p.tot:Int)≤1048576):p.sm∧p.disk.blocks.length+p.disk.pend.length+p.logged.length+p.dirty.length≤1048576:=by
  unfold Pr.tot Dk.tot totS totP at h
  constructor
  · constructor <;> (unfold lim;omega)
  · omega
theorem aq3 {p:Pr} (h:p.Ok):cntPr p≤4096:=by
  have:=h.nb
  have:=h.np
  have:=h.lg.1
  have:=h.dt.1
  unfold cntPr;omega
end Go.VS
end
