/-
  What the law of WalkStore answers: true, for all arguments.
-/
import Derived.Test.YtmmbgajolgbhnaaGreatDoorB3
import Derived.Test.YtmmbgajolgbhnaaGreatDoorB4
set_option linter.all false
section
namespace Go.VS
def big:Nat:=9223372036854775808
def sumL (l:List Bs):Nat:=(l.map List.length).sum
def totS (l:List Bs):Nat:=l.length+sumL l
def sumP (l:List Pg):Nat:=(l.map fun p=>p.data.length).sum
def totP (l:List Pg):Nat:=l.length+sumP l
end Go.VS
end
section
namespace Go.VS
def slc (n:Bool) (z:Nat) (xs:List V):V:=if n=true∧xs=[] then .nil else .view true z xs
@[simp] theorem noPtrL_slc (n:Bool) (z:Nat) (xs:List V):noPtrL (slc n z xs)=true:=by unfold slc;split <;> rfl
@[simp] theorem noPtr_slc (n:Bool) (z:Nat) (xs:List V):noPtr (slc n z xs)=true:=by unfold slc;split <;> rfl
theorem afl (n:Bool) (z:Nat) (xs:List V):(slc n z xs=.nil∧xs=[])∨slc n z xs=.view true z xs:=by
  unfold slc;split
  · rename_i h;exact .inl ⟨rfl,h.2⟩
  · exact .inr rfl
@[simp] theorem lend_slc {s:St} {xp:Xp} {k:Nat} (n:Bool) (z:Nat) (xs:List V):lend s xp (k+1) (slc n z xs)=slc n z xs:=by
  rcases afl n z xs with ⟨h,_⟩ | h <;> rw [h] <;> rfl
@[simp] theorem lendA_slc1 {s:St} {xp:Xp} (n:Bool) (xs:List V):lendA s xp 1 (slc n 1 xs)=.view true 1 xs:=by
  rcases afl n 1 xs with ⟨h,h2⟩ | h <;> rw [h]
  · rw [h2];rfl
  · rfl
@[simp] theorem lendA_slc2 {s:St} {xp:Xp} (n:Bool) (xs:List V):lendA s xp 2 (slc n 2 xs)=.view true 2 xs:=by
  rcases afl n 2 xs with ⟨h,h2⟩ | h <;> rw [h]
  · rw [h2];rfl
  · rfl
@[simp] theorem isLeaf_slc (n:Bool) (z:Nat) (xs:List V):isLeaf (slc n z xs)=true:=by
  rcases afl n z xs with ⟨h,_⟩ | h <;> rw [h] <;> rfl
attribute [-simp] isLeaf
@[simp] theorem isLeaf_i (k x):isLeaf (.i k x)=true:=rfl
@[simp] theorem isLeaf_b (x):isLeaf (.b x)=true:=rfl
@[simp] theorem isLeaf_s (x):isLeaf (.s x)=true:=rfl
@[simp] theorem isLeaf_nil:isLeaf .nil=true:=rfl
@[simp] theorem isLeaf_view (q z xs):isLeaf (.view q z xs)=true:=rfl
@[simp] theorem isLeaf_sl (a b c d):isLeaf (.sl a b c d)=true:=rfl
@[simp] theorem isLeaf_ptr (a b):isLeaf (.ptr a b)=true:=rfl
structure N4 where
  a:Bool
  b:Bool
  c:Bool
  d:Bool
def Dk.tot (d:Dk):Nat:=totS d.blocks+totP d.pend
def Pr.tot (p:Pr):Nat:=p.disk.tot+totP p.logged+totP p.dirty
structure Dk.big (d:Dk):Prop where
  b:d.blocks.length<Go.VS.big
  bs:∀ s,s ∈ d.blocks→s.length<Go.VS.big
  p:d.pend.length<Go.VS.big
  ps:∀ s,s ∈ d.pend→s.data.length<Go.VS.big
structure Pr.big (p:Pr):Prop where
  d:p.disk.big
  l:p.logged.length<Go.VS.big
  ls:∀ s,s ∈ p.logged→s.data.length<Go.VS.big
  y:p.dirty.length<Go.VS.big
  ys:∀ s,s ∈ p.dirty→s.data.length<Go.VS.big
end Go.VS
end
section
namespace Go.VS
set_option maxRecDepth 4000
end Go.VS
end
section
namespace Go.VS
set_option maxRecDepth 4000
attribute [-simp] isLeaf
end Go.VS
end
section
namespace Go.VS
set_option maxRecDepth 4000
attribute [-simp] isLeaf
@[simp] theorem canonP_sp0 {n:Nat} {lv:List Nat} (h:srt 0 n lv=true) (pc:Nat) (l:List (Nat × V)) (m:List (List V)) (nb:Nat):
    St.canonP pc ⟨sp n l,m,[]⟩ lv nb=canE nb n (kp lv l) (m.take nb) [] (List.range pc):=by
  rw [amm h,ain,ajo]
end Go.VS
end
section
namespace Go.VS
set_option maxRecDepth 4000
attribute [-simp] isLeaf
def dig (k:Nat):UInt8:=UInt8.ofNat (48+k % 10)
def mtext:Nat→Nat→Bs→Bs
  | 0,_,o=>o
  | n+1,k,o=>if k=0 then o else mtext n (k / 10) (dig k :: o)
def mtx (k:Nat):Bs:=109 :: mtext k k []
def mkS (k n:Nat):List Bs:=(List.range n).map fun i=>mtx (k+i)
def mkP (k n:Nat):List Pg:=(List.range n).map fun i=>⟨((k+2*i:Nat):Int),mtx (k+2*i+1)⟩
def mkM (k n:Nat):List Ms:=(List.range n).map fun i=>⟨((k+3*i:Nat):Int),((k+3*i+1:Nat):Int),mtx (k+3*i+2)⟩
@[simp] theorem mkS_len (k n:Nat):(mkS k n).length=n:=by simp [mkS]
@[simp] theorem mkP_len (k n:Nat):(mkP k n).length=n:=by simp [mkP]
@[simp] theorem mkM_len (k n:Nat):(mkM k n).length=n:=by simp [mkM]
end Go.VS
end
section
namespace Go.VS
set_option maxRecDepth 8000
attribute [-simp] isLeaf
@[simp] theorem range_4:List.range 4=[0,1,2,3]:=rfl
end Go.VS
end
section
namespace Go.VS
set_option maxRecDepth 8000
attribute [-simp] isLeaf
@[simp] theorem lendA_slc3 {s:St} {xp:Xp} (n:Bool) (xs:List V):lendA s xp 3 (slc n 3 xs)=.view true 3 xs:=by
  rcases afl n 3 xs with ⟨h,h2⟩ | h <;> rw [h]
  · rw [h2];rfl
  · rfl
structure Hd.big (h:Hd):Prop where
  m:h.msgs.length<Go.VS.big
  d:∀ s,s ∈ h.msgs→s.data.length<Go.VS.big
end Go.VS
end
section
namespace Go.VS
theorem abr (c:UInt8) (K:Out→Prop):Call prog 68 ⟨[.i .u8 c.toNat],[],[]⟩ K=K (.b (isLet c),[],[]):=by
  refine Zc (f:=68) rfl rfl (by decide) ?_
  unfold isLet
  generalize (c.toNat:Int)=x
  by_cases h1:65≤x <;> by_cases h2:x≤90 <;> by_cases h3:97≤x <;> simp -implicitDefEqProofs [h1,h2,h3]
set_option maxHeartbeats 1000000 in
theorem an1 (s:Bs) (hs:s.length≤lim) (K:Out→Prop):Call prog 117 ⟨[.s s],[],[]⟩ K=K (.b (isName s),[],[]):=by
  refine Zc (f:=117) rfl rfl (by decide) ?_
  unfold lim at hs
  unfold isName
  simp -implicitDefEqProofs
  refine WL_for (fun i=>⟨sp 55 [(0,.s s),(7,.i .i64 s.length),(8,.i .i64 i)],[],[]⟩) s.length (fun i=>anyFrom (chBad s) 0 s.length=anyFrom (chBad s) i (s.length - i)) _ (by simp -implicitDefEqProofs) (by simp) ?_
  intro i hi hP
  by_cases hlt:i<s.length
  · have hw:=wrap_i64 (n:=(i:Int)+1) (by omega) (by omega)
    rw [hP,aex hlt]
    have hb:chBad s i=if i=0 then !isLet s[i] else !isRest s[i]:=by
      unfold chBad
      by_cases h0:i=0
      · subst h0;simp [hlt]
      · simp [h0,hlt]
    rw [hb]
    unfold isRest isLet isDig
    have hx:∃ x:Int,x=(s[i].toNat:Int):=⟨_,rfl⟩
    obtain ⟨x,hx⟩:=hx
    simp only [← hx]
    by_cases h0:i=0
    · subst h0
      by_cases h1:65≤x <;> by_cases h2:x≤90 <;> by_cases h3:97≤x <;> by_cases h4:x≤122 <;> simp -implicitDefEqProofs [hlt,← hx,h1,h2,h3,h4,hw,Next]
    · by_cases h1:65≤x <;> by_cases h2:x≤90 <;> by_cases h3:97≤x <;> by_cases h4:x≤122 <;>
        (first
          | (simp -implicitDefEqProofs [hlt,← hx,h0,h1,h2,h3,h4,hw,Next];done)
          | (by_cases h5:x<48
             · have h5':¬ 48≤x:=by omega
               by_cases h7:x=95
               · omega
               · simp -implicitDefEqProofs [hlt,← hx,h0,h1,h2,h3,h4,h5,h5',h7,hw,Next]
             · have h5':48≤x:=by omega
               by_cases h6:57<x
               · have h6':¬ x≤57:=by omega
                 by_cases h7:x=95 <;> simp -implicitDefEqProofs [hlt,← hx,h0,h1,h2,h3,h4,h5,h5',h6,h6',h7,hw,Next]
               · have h6':x≤57:=by omega
                 simp -implicitDefEqProofs [hlt,← hx,h0,h1,h2,h3,h4,h5,h5',h6,h6',hw,Next]))
  · rw [hP,aix (by omega)]
    by_cases h1:(1:Int)≤s.length <;> simp -implicitDefEqProofs [hlt,h1]
end Go.VS
end
section
namespace Go.VS
set_option maxHeartbeats 1000000 in
theorem afk (s:Bs) (hs:s.length≤lim) (K:Out→Prop):Call prog 36 ⟨[.s s],[],[]⟩ K=K (.b (isName s),[],[]):=by
  refine Zc (f:=36) rfl rfl (by decide) ?_
  unfold lim at hs
  by_cases c0:s.length=0
  · have:isName s=false:=by unfold isName;simp [c0]
    rw [this]
    simp -implicitDefEqProofs [c0]
  by_cases c1:(12:Int)<s.length
  · have c1':¬ (s.length:Int)≤12:=by omega
    have:isName s=false:=by unfold isName;simp [c1']
    rw [this]
    simp -implicitDefEqProofs [c0,c1]
  have hpos:0<s.length:=by omega
  have n1:isName s=!(anyFrom (chBad s) 0 s.length):=by
    have a1:(1:Int)≤s.length:=by omega
    have a2:(s.length:Int)≤12:=by omega
    unfold isName;simp [a1,a2]
  have n2:=aex (f:=chBad s) hpos
  rw [Nat.sub_zero] at n2
  have hb0:chBad s 0=!isLet s[0]:=by simp [chBad,hpos]
  cases c2:isLet s[0] with
  | false=>
    rw [n1,n2,hb0,c2]
    simp -implicitDefEqProofs [c0,c1,hpos,abr,c2]
  | true=>
    rw [n1,n2,hb0,c2]
    simp -implicitDefEqProofs [c0,c1,hpos,abr,c2]
    refine WL_st (α:=Nat) (fun i=>⟨sp 48 [(0,.s s),(3,.i .i64 i)],[],[]⟩) (fun i=>s.length - i) (fun i=>1≤i∧i≤s.length∧anyFrom (chBad s) 1 (s.length - 1)=anyFrom (chBad s) i (s.length - i)) 1 _ (by simp -implicitDefEqProofs) ⟨by omega,by omega,rfl⟩ ?_
    rintro i ⟨h1,h2,hP⟩
    by_cases hlt:i<s.length
    · have hw:=wrap_i64 (n:=(i:Int)+1) (by omega) (by omega)
      rw [aex hlt] at hP
      have hb:chBad s i=!isRest s[i]:=by
        have:¬ i=0:=by omega
        simp [chBad,this,hlt]
      rw [hb] at hP
      unfold isRest isDig at hP
      have nx:isRest s[i]=true→NextS (fun i:Nat=>⟨sp 48 [(0,.s s),(3,.i .i64 i)],[],[]⟩) (fun i:Nat=>1≤i∧i≤s.length∧anyFrom (chBad s) 1 (s.length - 1)=anyFrom (chBad s) i (s.length - i)) (fun i:Nat=>s.length - i) (s.length - i) ⟨sp 48 [(0,.s s),(3,.i .i64 ((i:Int)+1))],[],[]⟩:=by
        intro hr
        refine NextS.mk (i+1) ⟨by omega,by omega,?_⟩ (by omega) (by simp)
        unfold isRest isDig at hr
        rw [hP,hr];rfl
      unfold isRest isDig at nx
      cases d1:isLet s[i] with
      | true=>
        rw [d1] at nx hP
        simp -implicitDefEqProofs [hlt,abr,d1,hw]
        exact nx rfl
      | false=>
        rw [d1] at nx hP
        by_cases d2:(48:Int)≤s[i].toNat
        · by_cases d3:(s[i].toNat:Int)≤57
          · have hr:(false || (decide ((48:Int)≤s[i].toNat) && decide ((s[i].toNat:Int)≤57)) || decide ((s[i].toNat:Int)=95))=true:=by simp only [d2,d3,decide_true,Bool.and_self,Bool.false_or,Bool.true_or]
            simp -implicitDefEqProofs [hlt,abr,d1,d2,d3,hw]
            exact nx hr
          · by_cases d4:(s[i].toNat:Int)=95
            · have hr:(false || (decide ((48:Int)≤s[i].toNat) && decide ((s[i].toNat:Int)≤57)) || decide ((s[i].toNat:Int)=95))=true:=by rw [decide_eq_true d4,Bool.or_true]
              have d4':s[i].toNat=95:=by omega
              have d2':¬ (95:Int)≤57:=by omega
              have el:∀ K,Call prog 68 ⟨[.i .u8 95],[],[]⟩ K=K (.b false,[],[]):=by
                intro K
                have:=abr s[i] K
                rw [d1,d4'] at this
                exact this
              simp -implicitDefEqProofs [hlt,d4',el,hw]
              exact nx hr
            · have:anyFrom (chBad s) 1 (s.length - 1)=true:=by
                rw [hP,decide_eq_false d3,decide_eq_false d4,Bool.and_false];rfl
              have d4':¬ s[i].toNat=95:=by omega
              simp -implicitDefEqProofs [hlt,abr,d1,d2,d3,d4,d4',this]
        · have d4:¬ (s[i].toNat:Int)=95:=by omega
          have d4':¬ s[i].toNat=95:=by omega
          have:anyFrom (chBad s) 1 (s.length - 1)=true:=by
            rw [hP,decide_eq_false d2,decide_eq_false d4,Bool.false_and];rfl
          simp -implicitDefEqProofs [hlt,abr,d1,d2,d4,d4',this]
    · have he:=aix (f:=chBad s) (i:=i) (N:=s.length) (by omega)
      rw [he] at hP
      rw [hP]
      simp -implicitDefEqProofs [hlt]
end Go.VS
end
section
namespace Go.VS
end Go.VS
end
section
namespace Go.VS
def scanP (cur:Bs):Bs→List Bs→Option (List Bs)
  | [],out=>if isName cur=true then some (out++[cur]) else none
  | c :: s,out=>if c=47 then (if isName cur=true then scanP [] s (out++[cur]) else none) else scanP (cur++[c]) s out
def pathOf (s:Bs):Option (List Bs):=
  if s=[47] then some [] else match s with
  | []=>none
  | c :: t=>if c=47 then (if (splitB 47 t).all isName=true then (if (splitB 47 t).length≤6 then some (splitB 47 t) else none) else none) else none
end Go.VS
end
section
namespace Go.VS
def left (s:Bs) (i k:Nat) (out:List Bs):Option (List Bs):=if i≤s.length then scanP ((s.take i).drop k) (s.drop i) out else some out
end Go.VS
end
section
namespace Go.VS
structure Lk where
  name:Bs
  block:Int
  target:Bs
  deriving DecidableEq,Inhabited
def Lk.ok (l:Lk):Bool:=isName l.name && (if l.target=[] then inI l.block 1 255 else decide (l.block=0) && (pathOf l.target).isSome)
def nmLe (a b:Bs):Bool:=!Op.bytesLess b a
def lksBad (l:List Lk) (i:Nat):Bool:=if h:i<l.length then !l[i].ok || (decide (0<i) && nmLe l[i].name (l[i - 1]'(by omega)).name) else true
def lksOk (l:List Lk):Bool:=!(anyFrom (lksBad l) 0 l.length) && decide ((l.length:Int)≤12)
end Go.VS
end
section
namespace Go.VS
def lkI (h:List Bs) (s:Bs) (bad:Bool):Lk × Bs × Bool:=
  let k:=dTake 1 s bad
  let n:=dTake 1 k.2.1 k.2.2
  if n.2.2=true∨heapUsed h (leI k.1)=false then (⟨[],0,[]⟩,n.2.1,true)
  else if leI n.1=0 then let b:=dTake 2 n.2.1 n.2.2;(⟨h.getD (leI k.1).toNat [],leI b.1,[]⟩,b.2.1,b.2.2)
  else let t:=dTake (leI n.1).toNat n.2.1 n.2.2;(⟨h.getD (leI k.1).toNat [],0,t.1⟩,t.2.1,t.2.2)
def rdLks (h:List Bs):Nat→Bs→Bool→List Lk→Option (List Lk)
  | n,s,bad,acc=>if bad=true then none else if s=[] then some acc else match n with
    | 0=>none
    | n+1=>let d:=lkI h s false;rdLks h n d.2.1 d.2.2 (acc++[d.1])
def decLinks (h:List Bs) (s:Bs):Option (List Lk):=
  if heapOk h=true then match rdLks h s.length s false [] with
    | some l=>if lksOk l=true∧usedSlots h=l.length then some l else none
    | none=>none
  else none
end Go.VS
end
section
namespace Go.VS
end Go.VS
end
section
namespace Go.VS
end Go.VS
end
section
namespace Go.VS
end Go.VS
end
section
namespace Go.VS
theorem Hd.ok_facts {h:Hd} (e:h.ok=true):h.msgs.length≤24∧∀ m,m ∈ h.msgs→m.data.length≤200:=by
  unfold Hd.ok at e
  simp only [Bool.and_eq_true,decide_eq_true_eq,Bool.not_eq_true',List.any_eq_false] at e
  refine ⟨by omega,fun m hm=>?_⟩
  have:=e.2 m hm
  unfold msBad at this
  simp only [Bool.not_eq_true',Bool.not_eq_false,Bool.and_eq_true,decide_eq_true_eq] at this
  omega
structure Gr where
  hd:Hd
  heap:List Bs
  links:List Lk
def Pr.grp (p:Pr) (k:Int):Except Int Gr:=
  match p.hdr k with
  | none=>.error 10
  | some h=>if h.kind≠1 then .error 7 else if onlyB h.msgs 9=true∧onlyB h.msgs 7=true then
      match decHeap (h.msgs.getD (onlyX h.msgs 9).toNat default).data with
      | none=>.error 10
      | some hp=>match decLinks hp (h.msgs.getD (onlyX h.msgs 7).toNat default).data with
        | none=>.error 10
        | some l=>.ok ⟨h,hp,l⟩
    else .error 10
section
variable {p:Pr} {k:Int} {h:Hd}
variable {m n:Ms}
end
end Go.VS
end
section
namespace Go.VS
def hards (l:List Lk):List Int:=(l.filter fun x=>decide (x.target=[])).map Lk.block
def Pr.tg (p:Pr) (k:Int):List Int:=match p.grp k with
  | .error _=>[]
  | .ok g=>hards g.links
end Go.VS
end
section
namespace Go.VS
end Go.VS
end
section
namespace Go.VS
set_option maxRecDepth 8000
structure Nn where
  name:Bs
  dims:List Int
  nums:List Int
  deriving DecidableEq,Inhabited
end Go.VS
end
section
namespace Go.VS
set_option maxRecDepth 8000
end Go.VS
end
section
namespace Go.VS
set_option maxRecDepth 8000
structure NnSm (l:List Nn):Prop where
  n:l.length≤1048576
  s:∀ x,x ∈ l→x.name.length≤lim∧x.dims.length≤lim∧x.nums.length≤lim
end Go.VS
end
section
namespace Go.VS
set_option maxRecDepth 8000
end Go.VS
end
section
namespace Go.VS
set_option maxRecDepth 8000
end Go.VS
end
section
namespace Go.VS
set_option maxRecDepth 8000
attribute [-simp] isLeaf
structure Ni where
  x:Nn
  a:Bool
  b:Bool
  deriving Inhabited
structure Ni.big (y:Ni):Prop where
  s:y.x.name.length<Go.VS.big
  d:y.x.dims.length<Go.VS.big
  n:y.x.nums.length<Go.VS.big
end Go.VS
end
