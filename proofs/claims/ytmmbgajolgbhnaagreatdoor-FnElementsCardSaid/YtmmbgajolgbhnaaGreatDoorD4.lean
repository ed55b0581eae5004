/-
  Zero elements, ranges, members, numbers and texts converted.
-/
import Derived.Test.YtmmbgajolgbhnaaGreatDoorD3
set_option linter.all false
section
namespace Go.VS
set_option maxRecDepth 4000
def lay (size:Nat):Nat→List (Nat × Bs)→Bs
  | pos,[]=>List.replicate (size - pos) 0
  | pos,x :: l=>List.replicate (x.1 - pos) 0++(x.2++lay size (x.1+x.2.length) l)
def OrdN (size:Nat):Nat→List (Nat × Nat)→Prop
  | pos,[]=>pos≤size
  | pos,x :: l=>pos≤x.1∧OrdN size (x.1+x.2) l
theorem OrdN.le {size:Nat}:∀ {pos:Nat} {l:List (Nat × Nat)},OrdN size pos l→pos≤size
  | _,[],h=>h
  | _,_ :: _,h=>by have:=OrdN.le h.2;have:=h.1;omega
def ovw (b:Bs) (o:Nat) (x:Bs):Bs:=b.take o++(x++b.drop (o+x.length))
def offs (l:List Mb):List (Nat × Nat):=l.map fun m=>(m.off.toNat,m.ty.sz.toNat)
theorem Lay.ord {l:List Mb} {s:Int} (h:Lay l s):∀ k,k≤l.length→OrdN s.toNat (endOf l (l.length - k)).toNat (offs (l.drop (l.length - k)))
  | 0,_=>by
    rw [Nat.sub_zero,List.drop_length]
    have:=h.en
    show (endOf l l.length).toNat≤s.toNat
    omega
  | k+1,hk=>by
    have ih:=h.ord k (by omega)
    have hi:l.length - (k+1)<l.length:=by omega
    rw [List.drop_eq_getElem_cons hi,show l.length - (k+1)+1=l.length - k by omega]
    have h1:=h.lo _ hi
    have h2:=h.sz _ hi
    have h0:=h.nn (Nat.le_of_lt hi)
    have e:=aah hi
    rw [show l.length - (k+1)+1=l.length - k by omega] at e
    rw [e] at ih
    refine ⟨?_,?_⟩
    · show (endOf l (l.length - (k+1))).toNat≤(l[l.length - (k+1)].off).toNat
      omega
    · show OrdN s.toNat ((l[l.length - (k+1)].off).toNat+(l[l.length - (k+1)].ty.sz).toNat) (offs (l.drop (l.length - k)))
      rw [show (l[l.length - (k+1)].off).toNat+(l[l.length - (k+1)].ty.sz).toNat=(l[l.length - (k+1)].off+l[l.length - (k+1)].ty.sz).toNat by omega]
      exact ih
def itm (f:Mb→Bs) (l:List Mb):List (Nat × Bs):=l.map fun m=>(m.off.toNat,f m)
end Go.VS
end
section
namespace Go.VS
set_option maxRecDepth 4000
attribute [-simp] isLeaf okRet ridL V.leaves
def Zr:Nat→Ty→Bs
  | 0,_=>[]
  | d+1,t=>if t.kind=3 then t.it.put (t.nums.headD 0)
    else if t.kind=4 then lay t.size.toNat 0 (itm (fun m=>Zr d m.ty) t.ms)
    else if t.kind=5 then (List.replicate t.count.toNat (Zr d (t.base.headD Ty.zero))).flatten
    else List.replicate t.size.toNat 0
theorem alw (t:Ty) (n:Int):(t.put n).length=t.size.toNat:=by simp [Ty.put]
end Go.VS
end
section
namespace Go.VS
set_option maxRecDepth 4000
attribute [-simp] isLeaf okRet ridL V.leaves
end Go.VS
end
section
namespace Go.VS
set_option maxRecDepth 4000
attribute [-simp] isLeaf okRet ridL V.leaves
def Srt (l:List Int):Prop:=∀ i j (_:i<j) (h:j<l.length),l[i]<l[j]
structure LbAt (l:List Int) (x:Int) (r:Nat):Prop where
  le:r≤l.length
  lo:∀ k (_:k<r) (h:k<l.length),l[k]<x
  hi:∀ k (_:r≤k) (h:k<l.length),x≤l[k]
def Ty.rL (t:Ty):Int:=if t.kind=3 then t.nums.getD 0 0 else lo t.it.size t.it.sg
def Ty.rH (t:Ty):Int:=if t.kind=3 then t.nums.getD (t.nums.length - 1) 0 else hi t.it.size t.it.sg
end Go.VS
end
section
namespace Go.VS
set_option maxRecDepth 4000
attribute [-simp] isLeaf okRet ridL V.leaves
noncomputable def lbN (l:List Int) (x:Int):Nat:=@dite _ (∃ r,LbAt l x r) (Classical.propDecidable _) (fun h=>h.choose) (fun _=>0)
def near (l:List Int) (n:Int) (r:Nat):Int:=if n - l.getD (r - 1) 0≤l.getD r 0 - n then l.getD (r - 1) 0 else l.getD r 0
noncomputable def Ty.clp (t:Ty) (n:Int):Int:=if n≤t.rL then t.rL else if t.rH≤n then t.rH else if t.kind=3 then near t.nums n (lbN t.nums n) else n
theorem IntF.bd {t:Ty} (h:IntF t):-9223372036854775808≤lo t.size t.sg∧hi t.size t.sg≤9223372036854775807:=by
  have g:=h.g
  unfold lo hi
  rcases h.s with s | s | s | s
  · rw [s];cases t.sg <;> simp
  · rw [s];cases t.sg <;> simp
  · rw [s];cases t.sg <;> simp
  · rw [s];rw [g s];simp
theorem EnumG.srt {t:Ty} (h:EnumG t):Srt t.nums:=by
  obtain ⟨b,_,_,_,e⟩:=h.ba
  have key:∀ d i (hd:i+d+1<t.nums.length),t.nums[i]'(by omega)<t.nums[i+d+1]:=by
    intro d
    induction d with
    | zero=>
      intro i hd
      have:=(e (i+1) (by rw [← h.nn];omega)).as (by omega)
      rw [aal (by omega),aal (by omega)] at this
      exact this
    | succ d ih=>
      intro i hd
      have h1:=ih i (by omega)
      have:=(e (i+d+1+1) (by rw [← h.nn];omega)).as (by omega)
      rw [aal (by omega),aal (by omega)] at this
      exact Int.lt_trans h1 this
  intro i j hij hj
  have:=key (j - i - 1) i (by omega)
  have e:i+(j - i - 1)+1=j:=by omega
  simp only [e] at this
  exact this
theorem EnumG.bd {t:Ty} (h:EnumG t):∀ i (hi:i<t.nums.length),-9223372036854775808≤t.nums[i]∧t.nums[i]≤9223372036854775807:=by
  obtain ⟨b,_,_,ig,e⟩:=h.ba
  intro i hi
  have:=e i (by rw [← h.nn];exact hi)
  have h1:=this.lo
  have h2:=this.hi
  rw [aal hi] at h1 h2
  have:=ig.toIntF.bd
  omega
end Go.VS
end
section
namespace Go.VS
set_option maxRecDepth 4000
attribute [-simp] isLeaf okRet ridL V.leaves
def isNmM (s:Bs) (m:Mb):Bool:=decide (m.name=s)
def Ty.mem (t:Ty) (s:Bs):Option Mb:=t.ms.find? (isNmM s)
theorem aec {α:Type} (pr:α→Bool):∀ (l:List α) (k:Nat),(idxF pr l k=-1∧l.find? pr=none)∨∃ i,∃ h:i<l.length,idxF pr l k=((k+i:Nat):Int)∧l.find? pr=some l[i]
  | [],_=>.inl ⟨rfl,rfl⟩
  | x :: l,k=>by
    rw [idxF,List.find?_cons]
    by_cases h:pr x=true
    · right;rw [if_pos h,h];exact ⟨0,by simp,rfl,rfl⟩
    · rw [if_neg h]
      have h':pr x=false:=by simpa using h
      rw [h']
      rcases aec pr l (k+1) with q | ⟨i,hi,q1,q2⟩
      · exact .inl q
      · refine .inr ⟨i+1,by simpa using hi,?_,q2⟩
        rw [q1];congr 1;omega
def Mb.zero:Mb:=.mk [] 0 Ty.zero
def Ty.nmr (t:Ty):Bool:=decide (t.kind=1∨t.kind=3)
def Can:Nat→Ty→Ty→Bool
  | 0,_,_=>false
  | d+1,f,t=>if f.nmr=true∨t.nmr=true then f.nmr && t.nmr
    else if f.kind≠t.kind then false
    else if f.kind=5 then decide (f.count=t.count) && Can d (f.base.headD Ty.zero) (t.base.headD Ty.zero)
    else t.ms.all fun m=>match f.mem m.name with
      | none=>true
      | some y=>Can d y.ty m.ty
def CanM (d:Nat) (f:Ty) (m:Mb):Bool:=match f.mem m.name with
  | none=>true
  | some y=>Can d y.ty m.ty
theorem Can_ms (d:Nat) (f:Ty) (l:List Mb):(l.all fun m=>match f.mem m.name with
      | none=>true
      | some y=>Can d y.ty m.ty)=l.all (CanM d f):=rfl
end Go.VS
end
section
namespace Go.VS
set_option maxRecDepth 4000
attribute [-simp] isLeaf okRet ridL V.leaves
@[simp] theorem isLeaf_fn' (f cs):isLeaf (.fn f cs)=true:=rfl
end Go.VS
end
section
namespace Go.VS
set_option maxRecDepth 4000
attribute [-simp] isLeaf okRet ridL V.leaves
def ixN (l:List Int) (n:Int):Int:=idxF (fun x=>n == x) l 0
def ixS (l:List Bs) (s:Bs):Int:=idxF (fun x=>s == x) l 0
def nmAt (f:Ty) (n:Int):Bs:=f.names.getD (ixN f.nums n).toNat []
noncomputable def cvN (f t:Ty) (n:Int):Bs × Bool:=
  if f.kind=3∧t.kind=3 then
    (if 0≤ixS t.names (nmAt f n) then (t.it.put (t.nums.getD (ixS t.names (nmAt f n)).toNat 0),true) else (t.it.put (t.clp n),false))
  else if t.holds n=true then (t.it.put n,true) else (t.it.put (t.clp n),false)
def cvT (t:Ty) (b:Bs):Bs × Bool:=
  if t.size<(trimR 0 b).length then ((trimR 0 b).take t.size.toNat,false) else (trimR 0 b++List.replicate (t.size.toNat - (trimR 0 b).length) 0,true)
theorem an0 (q:Bool) (l:List Int) (v:Int) (hl:l.length≤lim) (K:Out→Prop):Call prog 125 ⟨[.view q 1 (l.map (V.i .i64)),.i .i64 v],[],[]⟩ K=K (.i .i64 (ixN l v),[],[]):=by
  refine Zc (f:=125) rfl rfl (by decide) ?_
  unfold lim at hl
  unfold ixN
  simp -implicitDefEqProofs
  refine WL_for (fun i=>⟨sp 19 [(0,.view q 1 (l.map (V.i .i64))),(1,.i .i64 v),(7,.i .i64 l.length),(8,.i .i64 i)],[],[]⟩) l.length (fun i=>idxF (fun x=>v == x) l 0=idxF (fun x=>v == x) (l.drop i) i) _ (by simp -implicitDefEqProofs) (by simp) ?_
  intro i hi hP
  by_cases hlt:i<l.length
  · have hw:=wrap_i64 (n:=(i:Int)+1) (by omega) (by omega)
    have hx:=ahd (pr:=fun x:Int=>v == x) (List.getElem?_eq_getElem hlt)
    rw [hP,hx]
    by_cases hk:v=l[i]
    · simp -implicitDefEqProofs [hlt,← hk]
    · have hk':(v == l[i])=false:=by simpa using hk
      simp -implicitDefEqProofs [hlt,hk,hk',hw,Next]
  · rw [hP,ahe (by omega)]
    simp -implicitDefEqProofs [hlt]
theorem ixN_in {l:List Int} {n:Int} (h:n ∈ l):∃ i,i<l.length∧ixN l n=(i:Int):=by
  rcases aec (fun x:Int=>n == x) l 0 with ⟨_,q⟩ | ⟨i,hi,q,_⟩
  · rw [List.find?_eq_none] at q
    exact absurd (q n h) (by simp)
  · exact ⟨i,hi,by unfold ixN;rw [q,Nat.zero_add]⟩
def fl (ex cl fd:Bool):Bool:=if ex then fd else fd || !cl
end Go.VS
end
section
namespace Go.VS
set_option maxRecDepth 4000
attribute [-simp] isLeaf okRet ridL V.leaves
end Go.VS
end
