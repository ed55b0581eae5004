/-
  The laws' measures, copies, marks of a pager.
-/
import Derived.Test.YtdnblconoegeaaaGreatDoorB3
import Derived.Test.YtdnblconoegeaaaGreatDoorB4
set_option linter.all false
section
namespace Go.VS
def big:Nat:=9223372036854775808
def sumL (l:List Bs):Nat:=(l.map List.length).sum
def totS (l:List Bs):Nat:=l.length+sumL l
theorem ate {l:List Bs} {i:Nat} (h:i<l.length):sumL (l.take (i+1))=sumL (l.take i)+l[i].length:=by
  unfold sumL
  rw [← List.take_append_getElem h,List.map_append,List.sum_append];simp
theorem atf {l:List Bs} (i:Nat):sumL (l.take i)≤sumL l:=by
  unfold sumL
  conv=>rhs;rw [← List.take_append_drop i l,List.map_append,List.sum_append]
  omega
def minus (k:Int) (n:Nat):Int:=if (n:Int)≤k then k - n else -1
theorem akt (q:Bool) (l:List Bs) (k:Int) (hl:l.length<big) (hs:∀ s,s ∈ l→s.length<big) (k0:0≤k) (k1:k≤1048576) (K:Out→Prop):
    Call prog 33 ⟨[.view q 1 (l.map .s),.i .i64 k],[],[]⟩ K=K (.i .i64 (minus k (totS l)),[],[]):=by
  refine Zc (f:=33) rfl rfl (by decide) ?_
  unfold big at hl hs
  have w0:=wrap_i64 (n:=k - l.length) (by omega) (by omega)
  by_cases c0:k - l.length<0
  · have:minus k (totS l)=-1:=by unfold minus totS;rw [if_neg (by push_cast;omega)]
    rw [this]
    simp -implicitDefEqProofs [w0,c0]
  · simp -implicitDefEqProofs [w0,c0]
    refine WL_for (fun i=>⟨sp 28 [(0,.view q 1 (l.map .s)),(1,.i .i64 (k - l.length - sumL (l.take i))),(5,.i .i64 i)],[],[]⟩) l.length (fun i=>(0:Int)≤k - l.length - sumL (l.take i)) _ (by simp -implicitDefEqProofs [sumL]) (by simp [sumL];omega) ?_
    intro i hi hP
    by_cases hlt:i<l.length
    · have hw:=wrap_i64 (n:=(i:Int)+1) (by omega) (by omega)
      have hb:=hs _ (List.getElem_mem hlt)
      have hx:=ate hlt
      have ht:=atf (l:=l) (i+1)
      have w1:=wrap_i64 (n:=k - l.length - sumL (l.take i) - l[i].length) (by omega) (by omega)
      have hx2:k - l.length - (sumL (l.take (i+1)):Int)=k - l.length - sumL (l.take i) - l[i].length:=by omega
      by_cases c1:k - l.length - sumL (l.take i) - l[i].length<0
      · have:minus k (totS l)=-1:=by unfold minus totS;rw [if_neg (by push_cast;omega)]
        rw [this]
        simp -implicitDefEqProofs [hlt,hw,w1,c1]
      · have c2:(l[i].length:Int)≤k - l.length - sumL (l.take i):=by omega
        simp -implicitDefEqProofs [hlt,hw,w1,c1,c2,hx2,Next]
    · have:i=l.length:=by omega
      subst this
      rw [List.take_length] at hP ⊢
      have:minus k (totS l)=k - l.length - sumL l:=by unfold minus totS;rw [if_pos (by push_cast;omega)];push_cast;omega
      rw [this]
      simp -implicitDefEqProofs
def sumP (l:List Pg):Nat:=(l.map fun p=>p.data.length).sum
def totP (l:List Pg):Nat:=l.length+sumP l
theorem an6 {l:List Pg} {i:Nat} (h:i<l.length):sumP (l.take (i+1))=sumP (l.take i)+l[i].data.length:=by
  unfold sumP
  rw [← List.take_append_getElem h,List.map_append,List.sum_append];simp
theorem an7 {l:List Pg} (i:Nat):sumP (l.take i)≤sumP l:=by
  unfold sumP
  conv=>rhs;rw [← List.take_append_drop i l,List.map_append,List.sum_append]
  omega
theorem arh (p:Pg) (k:Int) (hs:p.data.length<big) (k0:0≤k) (k1:k≤1048576) (K:Out→Prop):
    Call prog 67 ⟨[pgV p,.i .i64 k],[],[]⟩ K=K (.i .i64 (minus k p.data.length),[],[]):=by
  refine Zc (f:=67) rfl rfl (by decide) ?_
  unfold big at hs
  have w0:=wrap_i64 (n:=k - p.data.length) (by omega) (by omega)
  unfold minus
  by_cases c0:(p.data.length:Int)≤k
  · have c1:¬ k - p.data.length<0:=by omega
    simp -implicitDefEqProofs [pgV,w0,c0,c1]
  · have c1:k - p.data.length<0:=by omega
    simp -implicitDefEqProofs [pgV,w0,c0,c1]
theorem apc (q:Bool) (l:List Pg) (k:Int) (hl:l.length<big) (hs:∀ s,s ∈ l→s.data.length<big) (k0:0≤k) (k1:k≤1048576) (K:Out→Prop):
    Call prog 34 ⟨[.view q 2 (l.map pgV),.i .i64 k],[],[]⟩ K=K (.i .i64 (minus k (totP l)),[],[]):=by
  refine Zc (f:=34) rfl rfl (by decide) ?_
  have hl':=hl
  have hs':=hs
  unfold big at hl hs
  have w0:=wrap_i64 (n:=k - l.length) (by omega) (by omega)
  by_cases c0:k - l.length<0
  · have:minus k (totP l)=-1:=by unfold minus totP;rw [if_neg (by push_cast;omega)]
    rw [this]
    simp -implicitDefEqProofs [w0,c0]
  · simp -implicitDefEqProofs [w0,c0]
    refine WL_for (fun i=>⟨sp 27 [(0,.view q 2 (l.map pgV)),(1,.i .i64 (k - l.length - sumP (l.take i))),(5,.i .i64 i)],[],[]⟩) l.length (fun i=>(0:Int)≤k - l.length - sumP (l.take i)) _ (by simp -implicitDefEqProofs [sumP]) (by simp [sumP];omega) ?_
    intro i hi hP
    by_cases hlt:i<l.length
    · have hw:=wrap_i64 (n:=(i:Int)+1) (by omega) (by omega)
      have hb:=hs _ (List.getElem_mem hlt)
      have hx:=an6 hlt
      have ht:=an7 (l:=l) (i+1)
      have e1:=fun K=>arh l[i] (k - l.length - sumP (l.take i)) (hs' _ (List.getElem_mem hlt)) hP (by omega) K
      simp only [pgV] at e1
      have hx2:k - l.length - (sumP (l.take (i+1)):Int)=k - l.length - sumP (l.take i) - l[i].data.length:=by omega
      by_cases c1:(l[i].data.length:Int)≤k - l.length - sumP (l.take i)
      · have e2:minus (k - l.length - sumP (l.take i)) l[i].data.length=k - l.length - sumP (l.take i) - l[i].data.length:=if_pos c1
        rw [e2] at e1
        have c2:0≤k - l.length - sumP (l.take i) - l[i].data.length:=by omega
        have c3:¬ k - l.length - sumP (l.take i) - l[i].data.length<0:=by omega
        simp -implicitDefEqProofs [hlt,hw,pgV,e1,c1,c2,c3,hx2,Next]
      · have e2:minus (k - l.length - sumP (l.take i)) l[i].data.length=-1:=if_neg c1
        rw [e2] at e1
        have:minus k (totP l)=-1:=by unfold minus totP;rw [if_neg (by push_cast;omega)]
        rw [this]
        simp -implicitDefEqProofs [hlt,hw,pgV,e1]
    · have:i=l.length:=by omega
      subst this
      rw [List.take_length] at hP ⊢
      have:minus k (totP l)=k - l.length - sumP l:=by unfold minus totP;rw [if_pos (by push_cast;omega)];push_cast;omega
      rw [this]
      simp -implicitDefEqProofs
theorem apa (p:Pg) (k:Int) (hs:p.data.length<big) (k0:0≤k) (k1:k≤1048576) (K:Out→Prop):
    Call prog 35 ⟨[pgV p,.i .i64 k],[],[]⟩ K=K (.i .i64 (minus k p.data.length),[],[]):=by
  refine Zc (f:=35) rfl rfl (by decide) ?_
  unfold big at hs
  have w0:=wrap_i64 (n:=k - p.data.length) (by omega) (by omega)
  unfold minus
  by_cases c0:(p.data.length:Int)≤k
  · have c1:¬ k - p.data.length<0:=by omega
    simp -implicitDefEqProofs [pgV,w0,c0,c1]
  · have c1:k - p.data.length<0:=by omega
    simp -implicitDefEqProofs [pgV,w0,c0,c1]
theorem ait (q:Bool) (l:List Pg) (k:Int) (hl:l.length<big) (hs:∀ s,s ∈ l→s.data.length<big) (k0:0≤k) (k1:k≤1048576) (K:Out→Prop):
    Call prog 14 ⟨[.view q 2 (l.map pgV),.i .i64 k],[],[]⟩ K=K (.i .i64 (minus k (totP l)),[],[]):=by
  refine Zc (f:=14) rfl rfl (by decide) ?_
  have hl':=hl
  have hs':=hs
  unfold big at hl hs
  have w0:=wrap_i64 (n:=k - l.length) (by omega) (by omega)
  by_cases c0:k - l.length<0
  · have:minus k (totP l)=-1:=by unfold minus totP;rw [if_neg (by push_cast;omega)]
    rw [this]
    simp -implicitDefEqProofs [w0,c0]
  · simp -implicitDefEqProofs [w0,c0]
    refine WL_for (fun i=>⟨sp 27 [(0,.view q 2 (l.map pgV)),(1,.i .i64 (k - l.length - sumP (l.take i))),(5,.i .i64 i)],[],[]⟩) l.length (fun i=>(0:Int)≤k - l.length - sumP (l.take i)) _ (by simp -implicitDefEqProofs [sumP]) (by simp [sumP];omega) ?_
    intro i hi hP
    by_cases hlt:i<l.length
    · have hw:=wrap_i64 (n:=(i:Int)+1) (by omega) (by omega)
      have hb:=hs _ (List.getElem_mem hlt)
      have hx:=an6 hlt
      have ht:=an7 (l:=l) (i+1)
      have e1:=fun K=>apa l[i] (k - l.length - sumP (l.take i)) (hs' _ (List.getElem_mem hlt)) hP (by omega) K
      simp only [pgV] at e1
      have hx2:k - l.length - (sumP (l.take (i+1)):Int)=k - l.length - sumP (l.take i) - l[i].data.length:=by omega
      by_cases c1:(l[i].data.length:Int)≤k - l.length - sumP (l.take i)
      · have e2:minus (k - l.length - sumP (l.take i)) l[i].data.length=k - l.length - sumP (l.take i) - l[i].data.length:=if_pos c1
        rw [e2] at e1
        have c2:0≤k - l.length - sumP (l.take i) - l[i].data.length:=by omega
        have c3:¬ k - l.length - sumP (l.take i) - l[i].data.length<0:=by omega
        simp -implicitDefEqProofs [hlt,hw,pgV,e1,c1,c2,c3,hx2,Next]
      · have e2:minus (k - l.length - sumP (l.take i)) l[i].data.length=-1:=if_neg c1
        rw [e2] at e1
        have:minus k (totP l)=-1:=by unfold minus totP;rw [if_neg (by push_cast;omega)]
        rw [this]
        simp -implicitDefEqProofs [hlt,hw,pgV,e1]
    · have:i=l.length:=by omega
      subst this
      rw [List.take_length] at hP ⊢
      have:minus k (totP l)=k - l.length - sumP l:=by unfold minus totP;rw [if_pos (by push_cast;omega)];push_cast;omega
      rw [this]
      simp -implicitDefEqProofs
end Go.VS
end
section
namespace Go.VS
def slc (n:Bool) (z:Nat) (xs:List V):V:=if n=true∧xs=[] then .nil else .view true z xs
@[simp] theorem noPtrL_slc (n:Bool) (z:Nat) (xs:List V):noPtrL (slc n z xs)=true:=by unfold slc;split <;> rfl
@[simp] theorem noPtr_slc (n:Bool) (z:Nat) (xs:List V):noPtr (slc n z xs)=true:=by unfold slc;split <;> rfl
theorem ae8 (n:Bool) (z:Nat) (xs:List V):(slc n z xs=.nil∧xs=[])∨slc n z xs=.view true z xs:=by
  unfold slc;split
  · rename_i h;exact .inl ⟨rfl,h.2⟩
  · exact .inr rfl
@[simp] theorem lend_slc {s:St} {xp:Xp} {k:Nat} (n:Bool) (z:Nat) (xs:List V):lend s xp (k+1) (slc n z xs)=slc n z xs:=by
  rcases ae8 n z xs with ⟨h,_⟩ | h <;> rw [h] <;> rfl
@[simp] theorem lendA_slc1 {s:St} {xp:Xp} (n:Bool) (xs:List V):lendA s xp 1 (slc n 1 xs)=.view true 1 xs:=by
  rcases ae8 n 1 xs with ⟨h,h2⟩ | h <;> rw [h]
  · rw [h2];rfl
  · rfl
@[simp] theorem lendA_slc2 {s:St} {xp:Xp} (n:Bool) (xs:List V):lendA s xp 2 (slc n 2 xs)=.view true 2 xs:=by
  rcases ae8 n 2 xs with ⟨h,h2⟩ | h <;> rw [h]
  · rw [h2];rfl
  · rfl
@[simp] theorem isLeaf_slc (n:Bool) (z:Nat) (xs:List V):isLeaf (slc n z xs)=true:=by
  rcases ae8 n z xs with ⟨h,_⟩ | h <;> rw [h] <;> rfl
attribute [-simp] isLeaf
@[simp] theorem isLeaf_i (k x):isLeaf (.i k x)=true:=rfl
@[simp] theorem isLeaf_b (x):isLeaf (.b x)=true:=rfl
@[simp] theorem isLeaf_s (x):isLeaf (.s x)=true:=rfl
@[simp] theorem isLeaf_nil:isLeaf .nil=true:=rfl
@[simp] theorem isLeaf_view (q z xs):isLeaf (.view q z xs)=true:=rfl
@[simp] theorem isLeaf_sl (a b c d):isLeaf (.sl a b c d)=true:=rfl
@[simp] theorem isLeaf_ptr (a b):isLeaf (.ptr a b)=true:=rfl
structure N4 where
  a:Bool
  b:Bool
  c:Bool
  d:Bool
def dkR (n:N4) (d:Dk):List V:=[slc n.a 1 (d.blocks.map .s),slc n.b 2 (d.pend.map pgV),.i .i64 d.fuse,.b d.off]
def prR (n:N4) (p:Pr):List V:=[slc n.a 1 (p.disk.blocks.map .s),slc n.b 2 (p.disk.pend.map pgV),.i .i64 p.disk.fuse,.b p.disk.off,
  .i .i64 p.su.blocks,.i .i64 p.su.log,.i .i64 p.su.seq,.i .i64 p.su.turn,.i .i64 p.seq,.i .i64 p.at_,slc n.c 2 (p.logged.map pgV),slc n.d 2 (p.dirty.map pgV)]
def Dk.tot (d:Dk):Nat:=totS d.blocks+totP d.pend
def Pr.tot (p:Pr):Nat:=p.disk.tot+totP p.logged+totP p.dirty
structure Dk.big (d:Dk):Prop where
  b:d.blocks.length<Go.VS.big
  bs:∀ s,s ∈ d.blocks→s.length<Go.VS.big
  p:d.pend.length<Go.VS.big
  ps:∀ s,s ∈ d.pend→s.data.length<Go.VS.big
structure Pr.big (p:Pr):Prop where
  d:p.disk.big
  l:p.logged.length<Go.VS.big
  ls:∀ s,s ∈ p.logged→s.data.length<Go.VS.big
  y:p.dirty.length<Go.VS.big
  ys:∀ s,s ∈ p.dirty→s.data.length<Go.VS.big
theorem aqj {k:Int} {a:Nat} (h:minus k a<0):minus k a=-1:=by
  unfold minus at h ⊢;split
  · rename_i c;rw [if_pos c] at h;omega
  · rfl
theorem aj3 {k:Int} {a:Nat} (b:Nat) (h:¬ (a:Int)≤k):minus k a=-1∧minus k (a+b)=-1:=by
  unfold minus;constructor
  · exact if_neg h
  · exact if_neg (by push_cast;omega)
theorem aj4 {k:Int} {a:Nat} (b:Nat) (h:(a:Int)≤k):minus k a=k - a∧minus (k - a) b=minus k (a+b):=by
  unfold minus;constructor
  · exact if_pos h
  · by_cases c:(b:Int)≤k - a
    · rw [if_pos c,if_pos (by push_cast;omega)];push_cast;omega
    · rw [if_neg c,if_neg (by push_cast;omega)]
theorem ao9 (n:N4) (d:Dk) (h:d.big) (k:Int) (k0:0≤k) (k1:k≤1048576) (K:Out→Prop):
    Call prog 13 ⟨[.agg (dkR n d),.i .i64 k],[],[]⟩ K=K (.i .i64 (minus k d.tot),[],[]):=by
  refine Zc (f:=13) rfl rfl (by decide) ?_
  have e1:=fun K=>akt true d.blocks k h.b h.bs k0 k1 K
  unfold Dk.tot dkR
  by_cases c1:(totS d.blocks:Int)≤k
  · obtain ⟨m1,m2⟩:=aj4 (totP d.pend) c1
    rw [m1] at e1
    have e2:=fun K=>apc true d.pend (k - totS d.blocks) h.p h.ps (by omega) (by omega) K
    rw [m2] at e2
    have c2:¬ k - totS d.blocks<0:=by omega
    by_cases c3:minus k (totS d.blocks+totP d.pend)<0
    · have:minus k (totS d.blocks+totP d.pend)=-1:=aqj c3
      rw [this] at e2 ⊢
      simp -implicitDefEqProofs [e1,e2,c2]
    · simp -implicitDefEqProofs [e1,e2,c2,c3]
  · obtain ⟨m1,m2⟩:=aj3 (totP d.pend) c1
    rw [m1] at e1
    rw [m2]
    simp -implicitDefEqProofs [e1]
theorem an8 (n:N4) (p:Pr) (h:p.big) (k:Int) (k0:0≤k) (k1:k≤1048576) (K:Out→Prop):
    Call prog 0 ⟨[.agg (prR n p),.i .i64 k],[],[]⟩ K=K (.i .i64 (minus k p.tot),[],[]):=by
  refine Zc (f:=0) rfl rfl (by decide) ?_
  have e1:=fun K=>ao9 n p.disk h.d k k0 k1 K
  unfold dkR at e1
  unfold Pr.tot prR
  by_cases c1:(p.disk.tot:Int)≤k
  · obtain ⟨m1,m2⟩:=aj4 (totP p.logged) c1
    rw [m1] at e1
    have e2:=fun K=>ait true p.logged (k - p.disk.tot) h.l h.ls (by omega) (by omega) K
    rw [m2] at e2
    have c2:¬ k - p.disk.tot<0:=by omega
    by_cases c3:((p.disk.tot+totP p.logged:Nat):Int)≤k
    · obtain ⟨m3,m4⟩:=aj4 (totP p.dirty) c3
      rw [m3] at e2
      have e3:=fun K=>ait true p.dirty (k - (p.disk.tot+totP p.logged:Nat)) h.y h.ys (by omega) (by omega) K
      rw [m4] at e3
      have c4:¬ k - ((p.disk.tot+totP p.logged:Nat):Int)<0:=by omega
      generalize ((p.disk.tot+totP p.logged:Nat):Int)=z at e2 e3 c4
      by_cases c5:minus k (p.disk.tot+totP p.logged+totP p.dirty)<0
      · have:minus k (p.disk.tot+totP p.logged+totP p.dirty)=-1:=aqj c5
        rw [this] at e3 ⊢
        simp -implicitDefEqProofs [e1,e2,e3,c2,c4]
      · simp -implicitDefEqProofs [e1,e2,e3,c2,c4,c5]
    · obtain ⟨m3,m4⟩:=aj3 (totP p.dirty) c3
      rw [m3] at e2
      rw [m4]
      simp -implicitDefEqProofs [e1,e2,c2]
  · obtain ⟨m1,m2⟩:=aj3 (totP p.logged+totP p.dirty) c1
    rw [m1] at e1
    rw [Nat.add_assoc,m2]
    simp -implicitDefEqProofs [e1]
end Go.VS
end
section
namespace Go.VS
set_option maxRecDepth 4000
theorem alm {α:Type} {xs:List α} {d e:α} {i n:Nat} (h:i<n) (hn:xs.length=n):(xs.take i++List.replicate (n - i) d)[i]?.getD e=d:=by
  have h1:(xs.take i).length=i:=by rw [List.length_take];omega
  rw [List.getElem?_append_right (by omega),h1,Nat.sub_self,List.getElem?_replicate,if_pos (by omega)];rfl
theorem aln {α:Type} {xs:List α} {d x:α} {i n:Nat} (h:i<n) (hn:xs.length=n) (hx:xs[i]?=some x):(xs.take i++List.replicate (n - i) d).set i x=xs.take (i+1)++List.replicate (n - (i+1)) d:=by
  have h1:(xs.take i).length=i:=by rw [List.length_take];omega
  obtain ⟨h2,h3⟩:=List.getElem?_eq_some_iff.1 hx
  rw [List.set_append_right _ _ (by omega),h1,Nat.sub_self,show n - i=(n - (i+1))+1 by omega,List.replicate_succ,List.set_cons_zero,← List.take_append_getElem h2,h3,List.append_assoc];rfl
theorem ape (p:Pg) (K:Out→Prop):Call prog 48 ⟨[pgV p],[],[]⟩ K=K (pgV p,[],[]):=by
  refine Zc (f:=48) rfl rfl (by decide) ?_
  simp -implicitDefEqProofs [pgV]
theorem ari (p:Pg) (K:Out→Prop):Call prog 77 ⟨[pgV p],[],[]⟩ K=K (pgV p,[],[]):=by
  refine Zc (f:=77) rfl rfl (by decide) ?_
  simp -implicitDefEqProofs [pgV]
theorem aoa (s:Su) (K:Out→Prop):Call prog 19 ⟨[.agg (suC s)],[],[]⟩ K=K (.agg (suC s),[],[]):=by
  refine Zc (f:=19) rfl rfl (by decide) ?_
  obtain ⟨a,b,c,d⟩:=s
  simp -implicitDefEqProofs [suC,-Int.natCast_eq_zero]
theorem aku (q:Bool) (l:List Bs) (hl:l.length≤lim) (K:Out→Prop):Call prog 46 ⟨[.view q 1 (l.map V.s)],[],[]⟩ K=K (.sl 0 0 l.length false,[],[.row 1 false (l.map V.s)]):=by
  refine Zc (f:=46) rfl rfl (by decide) ?_
  have hl':=hl
  unfold lim at hl'
  simp -implicitDefEqProofs [hl]
  refine WL_for (fun i=>⟨sp 22 [(0,.view q 1 (l.map V.s)),(3,.sl 0 0 l.length false),(4,.i .i64 i)],[],[.row 1 false ((l.map V.s).take i++List.replicate (l.length - i) (V.s []))]⟩) l.length (fun _=>True) _ (by simp -implicitDefEqProofs) trivial ?_
  intro i hi _
  by_cases hlt:i<l.length
  · have hw:=wrap_i64 (n:=(i:Int)+1) (by omega) (by omega)
    have h1:=alm (xs:=l.map V.s) (d:=V.s []) (e:=V.no) hlt (by simp)
    have h2:=aln (xs:=l.map V.s) (d:=V.s []) (x:=V.s l[i]) hlt (by simp) (by simp [hlt])
    simp -implicitDefEqProofs [hlt,hw,h1,h2,Next]
  · have:i=l.length:=by omega
    subst this
    have ht:(l.map V.s).take l.length=l.map V.s:=by rw [List.take_of_length_le (by simp)]
    simp -implicitDefEqProofs [ht]
theorem apf (q:Bool) (l:List Pg) (hl:l.length≤lim) (K:Out→Prop):Call prog 47 ⟨[.view q 2 (l.map pgV)],[],[]⟩ K=K (.sl 0 0 l.length false,[],[.row 2 false (l.map pgV)]):=by
  refine Zc (f:=47) rfl rfl (by decide) ?_
  have hl':=hl
  unfold lim at hl'
  simp -implicitDefEqProofs [hl]
  refine WL_for (fun i=>⟨sp 23 [(0,.view q 2 (l.map pgV)),(3,.sl 0 0 l.length false),(4,.i .i64 i)],[],[.row 2 false ((l.map pgV).take i++List.replicate (l.length - i) (V.agg [.i .i64 0,.s []]))]⟩) l.length (fun _=>True) _ (by simp -implicitDefEqProofs) trivial ?_
  intro i hi _
  by_cases hlt:i<l.length
  · have hw:=wrap_i64 (n:=(i:Int)+1) (by omega) (by omega)
    have h1:=alm (xs:=l.map pgV) (d:=V.agg [.i .i64 0,.s []]) (e:=V.no) hlt (by simp)
    have h2:=aln (xs:=l.map pgV) (d:=V.agg [.i .i64 0,.s []]) (x:=pgV l[i]) hlt (by simp) (by simp [hlt])
    have e1:=fun K=>ari l[i] K
    simp only [pgV] at e1
    simp only [pgV] at h2
    simp -implicitDefEqProofs [hlt,hw,h1,h2,e1,pgV,Next]
  · have:i=l.length:=by omega
    subst this
    have ht:(l.map pgV).take l.length=l.map pgV:=by rw [List.take_of_length_le (by simp)]
    simp -implicitDefEqProofs [ht]
theorem aiu (q:Bool) (l:List Pg) (hl:l.length≤lim) (K:Out→Prop):Call prog 20 ⟨[.view q 2 (l.map pgV)],[],[]⟩ K=K (.sl 0 0 l.length false,[],[.row 2 false (l.map pgV)]):=by
  refine Zc (f:=20) rfl rfl (by decide) ?_
  have hl':=hl
  unfold lim at hl'
  simp -implicitDefEqProofs [hl]
  refine WL_for (fun i=>⟨sp 23 [(0,.view q 2 (l.map pgV)),(3,.sl 0 0 l.length false),(4,.i .i64 i)],[],[.row 2 false ((l.map pgV).take i++List.replicate (l.length - i) (V.agg [.i .i64 0,.s []]))]⟩) l.length (fun _=>True) _ (by simp -implicitDefEqProofs) trivial ?_
  intro i hi _
  by_cases hlt:i<l.length
  · have hw:=wrap_i64 (n:=(i:Int)+1) (by omega) (by omega)
    have h1:=alm (xs:=l.map pgV) (d:=V.agg [.i .i64 0,.s []]) (e:=V.no) hlt (by simp)
    have h2:=aln (xs:=l.map pgV) (d:=V.agg [.i .i64 0,.s []]) (x:=pgV l[i]) hlt (by simp) (by simp [hlt])
    have e1:=fun K=>ape l[i] K
    simp only [pgV] at e1
    simp only [pgV] at h2
    simp -implicitDefEqProofs [hlt,hw,h1,h2,e1,pgV,Next]
  · have:i=l.length:=by omega
    subst this
    have ht:(l.map pgV).take l.length=l.map pgV:=by rw [List.take_of_length_le (by simp)]
    simp -implicitDefEqProofs [ht]
end Go.VS
end
section
namespace Go.VS
set_option maxRecDepth 4000
attribute [-simp] isLeaf
def dkW (d:Dk):List V:=[.sl 0 0 d.blocks.length false,.sl 1 0 d.pend.length false,.i .i64 d.fuse,.b d.off]
def dkRows (d:Dk):List Rw:=[.row 1 false (d.blocks.map .s),.row 2 false (d.pend.map pgV)]
def prW (p:Pr):List V:=[.sl 0 0 p.disk.blocks.length false,.sl 1 0 p.disk.pend.length false,.i .i64 p.disk.fuse,.b p.disk.off,
  .i .i64 p.su.blocks,.i .i64 p.su.log,.i .i64 p.su.seq,.i .i64 p.su.turn,.i .i64 p.seq,.i .i64 p.at_,.sl 2 0 p.logged.length false,.sl 3 0 p.dirty.length false]
def prRows (p:Pr):List Rw:=[.row 1 false (p.disk.blocks.map .s),.row 2 false (p.disk.pend.map pgV),.row 2 false (p.logged.map pgV),.row 2 false (p.dirty.map pgV)]
theorem apd (n:N4) (d:Dk) (h1:d.blocks.length≤lim) (h2:d.pend.length≤lim) (K:Out→Prop):
    Call prog 18 ⟨[.agg (dkR n d)],[],[]⟩ K=K (.agg (dkW d),[],dkRows d):=by
  refine Zc (f:=18) rfl rfl (by decide) ?_
  obtain ⟨bl,pe,fu,off⟩:=d
  have e1:=fun K=>aku true bl h1 K
  have e2:=fun K=>apf true pe h2 K
  simp -implicitDefEqProofs [dkR,dkW,dkRows,e1,e2]
theorem an9 (n:N4) (p:Pr) (h:p.sm) (K:Out→Prop):
    Call prog 1 ⟨[.agg (prR n p)],[],[]⟩ K=K (.agg (prW p),[],prRows p):=by
  refine Zc (f:=1) rfl rfl (by decide) ?_
  have e1:=fun K=>apd n p.disk h.sb h.sp K
  have e2:=fun K=>aoa p.su K
  have e3:=fun K=>aiu true p.logged h.sl K
  have e4:=fun K=>aiu true p.dirty h.sd K
  obtain ⟨⟨bl,pe,fu,off⟩,⟨a,b,c,d⟩,sq,at_,lo,di⟩:=p
  simp only [dkR,dkW,dkRows,suC] at e1 e2 e3 e4
  simp -implicitDefEqProofs [prR,prW,prRows,e1,e2,e3,e4]
end Go.VS
end
section
namespace Go.VS
set_option maxRecDepth 4000
attribute [-simp] isLeaf
theorem aol (p:Pg) (K:Out→Prop):Call prog 58 ⟨[pgV p,pgV p],[],[]⟩ K=K (.b true,[],[]):=by
  refine Zc (f:=58) rfl rfl (by decide) ?_
  obtain ⟨a,b⟩:=p
  simp -implicitDefEqProofs [pgV]
theorem aq4 (p:Pg) (K:Out→Prop):Call prog 91 ⟨[pgV p,pgV p],[],[]⟩ K=K (.b true,[],[]):=by
  refine Zc (f:=91) rfl rfl (by decide) ?_
  obtain ⟨a,b⟩:=p
  simp -implicitDefEqProofs [pgV]
theorem amv (s:Su) (K:Out→Prop):Call prog 25 ⟨[.agg (suC s),.agg (suC s)],[],[]⟩ K=K (.b true,[],[]):=by
  refine Zc (f:=25) rfl rfl (by decide) ?_
  obtain ⟨a,b,c,d⟩:=s
  simp -implicitDefEqProofs [suC]
theorem akj (q q':Bool) (l:List Bs) (hl:l.length≤lim) (K:Out→Prop):Call prog 56 ⟨[.view q 1 (l.map V.s),.view q' 1 (l.map V.s)],[],[]⟩ K=K (.b true,[],[]):=by
  refine Zc (f:=56) rfl rfl (by decide) ?_
  unfold lim at hl
  simp -implicitDefEqProofs
  refine WL_for (fun i=>⟨sp 26 [(0,.view q 1 (l.map V.s)),(1,.view q' 1 (l.map V.s)),(5,.i .i64 i)],[],[]⟩) l.length (fun _=>True) _ (by simp -implicitDefEqProofs) trivial ?_
  intro i hi _
  by_cases hlt:i<l.length
  · have hw:=wrap_i64 (n:=(i:Int)+1) (by omega) (by omega)
    simp -implicitDefEqProofs [hlt,hw,Next]
  · simp -implicitDefEqProofs [hlt]
theorem aom (q q':Bool) (l:List Pg) (hl:l.length≤lim) (K:Out→Prop):Call prog 57 ⟨[.view q 2 (l.map pgV),.view q' 2 (l.map pgV)],[],[]⟩ K=K (.b true,[],[]):=by
  refine Zc (f:=57) rfl rfl (by decide) ?_
  unfold lim at hl
  simp -implicitDefEqProofs
  refine WL_for (fun i=>⟨sp 27 [(0,.view q 2 (l.map pgV)),(1,.view q' 2 (l.map pgV)),(5,.i .i64 i)],[],[]⟩) l.length (fun _=>True) _ (by simp -implicitDefEqProofs) trivial ?_
  intro i hi _
  by_cases hlt:i<l.length
  · have hw:=wrap_i64 (n:=(i:Int)+1) (by omega) (by omega)
    have e1:=fun K=>aq4 l[i] K
    simp only [pgV] at e1
    simp -implicitDefEqProofs [hlt,hw,e1,pgV,Next]
  · simp -implicitDefEqProofs [hlt]
theorem ah5 (q q':Bool) (l:List Pg) (hl:l.length≤lim) (K:Out→Prop):Call prog 26 ⟨[.view q 2 (l.map pgV),.view q' 2 (l.map pgV)],[],[]⟩ K=K (.b true,[],[]):=by
  refine Zc (f:=26) rfl rfl (by decide) ?_
  unfold lim at hl
  simp -implicitDefEqProofs
  refine WL_for (fun i=>⟨sp 27 [(0,.view q 2 (l.map pgV)),(1,.view q' 2 (l.map pgV)),(5,.i .i64 i)],[],[]⟩) l.length (fun _=>True) _ (by simp -implicitDefEqProofs) trivial ?_
  intro i hi _
  by_cases hlt:i<l.length
  · have hw:=wrap_i64 (n:=(i:Int)+1) (by omega) (by omega)
    have e1:=fun K=>aol l[i] K
    simp only [pgV] at e1
    simp -implicitDefEqProofs [hlt,hw,e1,pgV,Next]
  · simp -implicitDefEqProofs [hlt]
theorem aok (q q':Bool) (d:Dk) (h1:d.blocks.length≤lim) (h2:d.pend.length≤lim) (K:Out→Prop):
    Call prog 24 ⟨[.agg (dkC q d),.agg (dkC q' d)],[],[]⟩ K=K (.b true,[],[]):=by
  refine Zc (f:=24) rfl rfl (by decide) ?_
  obtain ⟨bl,pe,fu,off⟩:=d
  have e1:=fun K=>akj q q' bl h1 K
  have e2:=fun K=>aom q q' pe h2 K
  cases off <;> simp -implicitDefEqProofs [dkC,e1,e2]
theorem amu (q q':Bool) (p:Pr) (h:p.sm) (K:Out→Prop):
    Call prog 4 ⟨[.agg (prC q p),.agg (prC q' p)],[],[]⟩ K=K (.b true,[],[]):=by
  refine Zc (f:=4) rfl rfl (by decide) ?_
  have e1:=fun K=>aok q q' p.disk h.sb h.sp K
  have e2:=fun K=>amv p.su K
  have e3:=fun K=>ah5 q q' p.logged h.sl K
  have e4:=fun K=>ah5 q q' p.dirty h.sd K
  obtain ⟨⟨bl,pe,fu,off⟩,⟨a,b,c,d⟩,sq,at_,lo,di⟩:=p
  simp only [dkC,suC] at e1 e2 e3 e4
  simp -implicitDefEqProofs [prC,e1,e2,e3,e4]
@[simp] theorem canonP_sp0 {n:Nat} {lv:List Nat} (h:srt 0 n lv=true) (pc:Nat) (l:List (Nat × V)) (m:List (List V)) (nb:Nat):
    St.canonP pc ⟨sp n l,m,[]⟩ lv nb=canE nb n (kp lv l) (m.take nb) [] (List.range pc):=by
  rw [amo h,ai6,aj6]
end Go.VS
end
section
namespace Go.VS
set_option maxRecDepth 4000
attribute [-simp] isLeaf
def dig (k:Nat):UInt8:=UInt8.ofNat (48+k % 10)
def mtext:Nat→Nat→Bs→Bs
  | 0,_,o=>o
  | n+1,k,o=>if k=0 then o else mtext n (k / 10) (dig k :: o)
def mtx (k:Nat):Bs:=109 :: mtext k k []
def mkS (k n:Nat):List Bs:=(List.range n).map fun i=>mtx (k+i)
def mkP (k n:Nat):List Pg:=(List.range n).map fun i=>⟨((k+2*i:Nat):Int),mtx (k+2*i+1)⟩
def mkM (k n:Nat):List Ms:=(List.range n).map fun i=>⟨((k+3*i:Nat):Int),((k+3*i+1:Nat):Int),mtx (k+3*i+2)⟩
@[simp] theorem mkS_len (k n:Nat):(mkS k n).length=n:=by simp [mkS]
@[simp] theorem mkP_len (k n:Nat):(mkP k n).length=n:=by simp [mkP]
@[simp] theorem mkM_len (k n:Nat):(mkM k n).length=n:=by simp [mkM]
end Go.VS
end
section
namespace Go.VS
set_option maxRecDepth 8000
attribute [-simp] isLeaf
@[simp] theorem range_4:List.range 4=[0,1,2,3]:=rfl
end Go.VS
end
section
namespace Go.VS
theorem Pr.sm_of {p:Pr} (h:(p.tot:Int)≤1048576):p.sm∧p.disk.blocks.length+p.disk.pend.length+p.logged.length+p.dirty.length≤1048576:=by
  unfold Pr.tot Dk.tot totS totP at h
  constructor
  · constructor <;> (unfold lim;omega)
  · omega
end Go.VS
end
