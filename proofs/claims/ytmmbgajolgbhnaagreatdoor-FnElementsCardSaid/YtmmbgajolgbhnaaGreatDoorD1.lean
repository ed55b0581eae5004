/-
  Datatypes as values; the laws' measures and copies of them; the reference's look at a type.
-/
import Derived.Test.YtmmbgajolgbhnaaGreatDoorB3
import Derived.Test.YtmmbgajolgbhnaaGreatDoorB1
import Derived.Test.YtmmbgajolgbhnaaGreatDoorB5
set_option linter.all false
section
namespace Go.VS
def slv (n q:Bool) (z:Nat) (xs:List V):V:=if n=true∧xs=[] then .nil else .view q z xs
def qn (n q:Bool) (xs:List V):Bool:=if n=true∧xs=[] then true else q
theorem aai (n q:Bool) (z:Nat) (xs:List V):(slv n q z xs=.nil∧xs=[]∧qn n q xs=true)∨(slv n q z xs=.view q z xs∧qn n q xs=q):=by
  unfold slv qn;split
  · rename_i h;exact .inl ⟨rfl,h.2,rfl⟩
  · exact .inr ⟨rfl,rfl⟩
section
variable (n q:Bool) (z:Nat) (xs:List V)
@[simp] theorem cells_slv:V.cells (slv n q z xs)=[slv n q z xs]:=by rcases aai n q z xs with ⟨h,_⟩ | ⟨h,_⟩ <;> rw [h] <;> rfl
@[simp] theorem leaves_slv:V.leaves (slv n q z xs)=[slv n q z xs]:=by rcases aai n q z xs with ⟨h,_⟩ | ⟨h,_⟩ <;> rw [h] <;> rfl
@[simp] theorem mapL_slv (f:V→V):V.mapL f (slv n q z xs)=f (slv n q z xs):=by rcases aai n q z xs with ⟨h,_⟩ | ⟨h,_⟩ <;> rw [h] <;> rfl
@[simp] theorem isLeaf_slv:isLeaf (slv n q z xs)=true:=by rcases aai n q z xs with ⟨h,_⟩ | ⟨h,_⟩ <;> rw [h] <;> rfl
@[simp] theorem isCap_slv:isCap (slv n q z xs)=true:=by rcases aai n q z xs with ⟨h,_⟩ | ⟨h,_⟩ <;> rw [h] <;> rfl
@[simp] theorem capOk_slv:capOk (slv n q z xs)=true:=by rcases aai n q z xs with ⟨h,_⟩ | ⟨h,_⟩ <;> rw [h] <;> rfl
@[simp] theorem noPtrL_slv:noPtrL (slv n q z xs)=true:=by rcases aai n q z xs with ⟨h,_⟩ | ⟨h,_⟩ <;> rw [h] <;> rfl
@[simp] theorem noPtr_slv:noPtr (slv n q z xs)=true:=by rcases aai n q z xs with ⟨h,_⟩ | ⟨h,_⟩ <;> rw [h] <;> rfl
@[simp] theorem impL_slv (bl base):impL bl base (slv n q z xs)=slv n q z xs:=by rcases aai n q z xs with ⟨h,_⟩ | ⟨h,_⟩ <;> rw [h] <;> rfl
@[simp] theorem renL_slv (nb ids):renL nb ids (slv n q z xs)=slv n q z xs:=by rcases aai n q z xs with ⟨h,_⟩ | ⟨h,_⟩ <;> rw [h] <;> rfl
@[simp] theorem ridL_slv (r ids):ridL r ids (slv n q z xs)=ids:=by rcases aai n q z xs with ⟨h,_⟩ | ⟨h,_⟩ <;> rw [h] <;> rfl
@[simp high] theorem okRet_slv (nb):okRet nb (slv n q z xs)=qn n q xs:=by rcases aai n q z xs with ⟨h,_,h2⟩ | ⟨h,h2⟩ <;> rw [h,h2] <;> rfl
@[simp] theorem leaves_b' (x):V.leaves (.b x)=[(.b x)]:=rfl
@[simp] theorem leaves_i' (k x):V.leaves (.i k x)=[(.i k x)]:=rfl
@[simp] theorem leaves_s' (x):V.leaves (.s x)=[(.s x)]:=rfl
@[simp] theorem leaves_nil':V.leaves .nil=[.nil]:=rfl
@[simp] theorem leaves_np':V.leaves .np=[.np]:=rfl
@[simp] theorem leaves_nf':V.leaves .nf=[.nf]:=rfl
@[simp] theorem leaves_no':V.leaves .no=[.no]:=rfl
@[simp] theorem leaves_bz':V.leaves .bz=[.bz]:=rfl
@[simp] theorem leaves_view' (q z xs):V.leaves (.view q z xs)=[(.view q z xs)]:=rfl
@[simp] theorem leaves_vp' (cs):V.leaves (.vp cs)=[(.vp cs)]:=rfl
@[simp] theorem leaves_ptr' (id off):V.leaves (.ptr id off)=[(.ptr id off)]:=rfl
@[simp] theorem leaves_ep' (a b c):V.leaves (.ep a b c)=[(.ep a b c)]:=rfl
@[simp] theorem leaves_sl' (id lo k t):V.leaves (.sl id lo k t)=[(.sl id lo k t)]:=rfl
@[simp] theorem leaves_agg' (cs):V.leaves (.agg cs)=cs:=rfl
@[simp] theorem leaves_tup' (vs):V.leaves (.tup vs)=vs.flatMap V.cells:=rfl
@[simp] theorem leaves_fn' (f cs):V.leaves (.fn f cs)=cs:=rfl
@[simp] theorem ridL_b' (r ids x):ridL r ids (.b x)=ids:=rfl
@[simp] theorem ridL_i' (r ids k x):ridL r ids (.i k x)=ids:=rfl
@[simp] theorem ridL_s' (r ids x):ridL r ids (.s x)=ids:=rfl
@[simp] theorem ridL_nil' (r ids):ridL r ids .nil=ids:=rfl
@[simp] theorem ridL_np' (r ids):ridL r ids .np=ids:=rfl
@[simp] theorem ridL_nf' (r ids):ridL r ids .nf=ids:=rfl
@[simp] theorem ridL_no' (r ids):ridL r ids .no=ids:=rfl
@[simp] theorem ridL_bz' (r ids):ridL r ids .bz=ids:=rfl
@[simp] theorem ridL_view' (r ids q z xs):ridL r ids (.view q z xs)=ids:=rfl
@[simp] theorem ridL_vp' (r ids cs):ridL r ids (.vp cs)=ids:=rfl
@[simp] theorem ridL_fn' (r ids f cs):ridL r ids (.fn f cs)=ids:=rfl
@[simp] theorem ridL_ptr' (r ids id off):ridL r ids (.ptr id off)=ids:=rfl
@[simp] theorem ridL_ep' (r ids a b c):ridL r ids (.ep a b c)=ids:=rfl
@[simp] theorem ridL_sl' (r ids id lo k t):ridL r ids (.sl id lo k t)=if id ∈ ids then ids else match r.getD id .gone with | .row _ _ _=>ids++[id] | .gone=>ids:=rfl
@[simp] theorem okRet_b' (nb x):okRet nb (.b x)=true:=rfl
@[simp] theorem okRet_i' (nb k x):okRet nb (.i k x)=true:=rfl
@[simp] theorem okRet_s' (nb x):okRet nb (.s x)=true:=rfl
@[simp] theorem okRet_nil' (nb):okRet nb .nil=true:=rfl
@[simp] theorem okRet_np' (nb):okRet nb .np=true:=rfl
@[simp] theorem okRet_no' (nb):okRet nb .no=true:=rfl
@[simp] theorem okRet_sl' (nb id lo k t):okRet nb (.sl id lo k t)=true:=rfl
@[simp] theorem okRet_view' (nb q z xs):okRet nb (.view q z xs)=q:=rfl
@[simp] theorem okRet_ptr' (nb id off):okRet nb (.ptr id off)=decide (id<nb):=rfl
@[simp] theorem lend_slv (s xp k):lend s xp (k+1) (slv n q z xs)=slv n q z xs:=by rcases aai n q z xs with ⟨h,_⟩ | ⟨h,_⟩ <;> rw [h] <;> rfl
@[simp] theorem lenP_slv:lenP false (slv n q z xs)=some (.i .i64 (xs.length:Int)):=by
  rcases aai n q z xs with ⟨h,h2,_⟩ | ⟨h,_⟩ <;> rw [h]
  · rw [h2];rfl
  · rfl
@[simp] theorem idx_slv (s k i):idxV s z (slv n q z xs) (.i k i)=if 0≤i∧i<xs.length then some (.vp (xs.getD i.toNat .no).cells) else none:=by
  rcases aai n q z xs with ⟨h,h2,_⟩ | ⟨h,_⟩ <;> rw [h]
  · rw [h2]
    rw [if_neg (by simp only [List.length_nil];omega)]
    rfl
  · simp [idxV]
@[simp] theorem cont_slv (s:St):s.cont z (slv n q z xs)=some xs:=by
  rcases aai n q z xs with ⟨h,h2,_⟩ | ⟨h,_⟩ <;> rw [h]
  · rw [h2];rfl
  · simp [St.cont]
@[simp] theorem lendA_slv (s xp) (hz:z≠0):lendA s xp z (slv n q z xs)=.view (qn n q xs) z xs:=by
  rcases aai n q z xs with ⟨h,h2,h3⟩ | ⟨h,h3⟩ <;> rw [h,h3]
  · rw [h2];simp [lendA,hz]
  · simp [lendA,lend]
end
@[simp] theorem qn_t (n:Bool) (xs:List V):qn n true xs=true:=by unfold qn;split <;> rfl
@[simp] theorem frzL_slv (n:Bool) (z:Nat) (xs:List V) (s:St):frzL (slv n true z xs) s=some (slv n true z xs,s):=by
  rcases aai n true z xs with ⟨h,_⟩ | ⟨h,_⟩ <;> rw [h] <;> rfl
mutual
inductive Ty where
  | mk (kind size:Int) (sg bg:Bool) (na:Bool) (names:List Bs) (nb:Bool) (nums:List Int) (nc:Bool) (ms:List Mb) (nd:Bool) (base:List Ty) (count:Int)
inductive Mb where
  | mk (name:Bs) (off:Int) (ty:Ty)
end
namespace Ty
def kind:Ty→Int | .mk k _ _ _ _ _ _ _ _ _ _ _ _=>k
def size:Ty→Int | .mk _ s _ _ _ _ _ _ _ _ _ _ _=>s
def sg:Ty→Bool | .mk _ _ x _ _ _ _ _ _ _ _ _ _=>x
def bg:Ty→Bool | .mk _ _ _ x _ _ _ _ _ _ _ _ _=>x
def na:Ty→Bool | .mk _ _ _ _ x _ _ _ _ _ _ _ _=>x
def names:Ty→List Bs | .mk _ _ _ _ _ x _ _ _ _ _ _ _=>x
def nb:Ty→Bool | .mk _ _ _ _ _ _ x _ _ _ _ _ _=>x
def nums:Ty→List Int | .mk _ _ _ _ _ _ _ x _ _ _ _ _=>x
def nc:Ty→Bool | .mk _ _ _ _ _ _ _ _ x _ _ _ _=>x
def ms:Ty→List Mb | .mk _ _ _ _ _ _ _ _ _ x _ _ _=>x
def nd:Ty→Bool | .mk _ _ _ _ _ _ _ _ _ _ x _ _=>x
def base:Ty→List Ty | .mk _ _ _ _ _ _ _ _ _ _ _ x _=>x
def count:Ty→Int | .mk _ _ _ _ _ _ _ _ _ _ _ _ x=>x
end Ty
namespace Mb
def name:Mb→Bs | .mk n _ _=>n
def off:Mb→Int | .mk _ o _=>o
def ty:Mb→Ty | .mk _ _ t=>t
end Mb
section
variable (k s:Int) (sg bg na:Bool) (ns:List Bs) (nb:Bool) (nu:List Int) (nc:Bool) (ms:List Mb) (nd:Bool) (bs:List Ty) (c:Int)
@[simp] theorem Ty.kind_mk:(Ty.mk k s sg bg na ns nb nu nc ms nd bs c).kind=k:=rfl
@[simp] theorem Ty.size_mk:(Ty.mk k s sg bg na ns nb nu nc ms nd bs c).size=s:=rfl
@[simp] theorem Ty.sg_mk:(Ty.mk k s sg bg na ns nb nu nc ms nd bs c).sg=sg:=rfl
@[simp] theorem Ty.bg_mk:(Ty.mk k s sg bg na ns nb nu nc ms nd bs c).bg=bg:=rfl
@[simp] theorem Ty.na_mk:(Ty.mk k s sg bg na ns nb nu nc ms nd bs c).na=na:=rfl
@[simp] theorem Ty.names_mk:(Ty.mk k s sg bg na ns nb nu nc ms nd bs c).names=ns:=rfl
@[simp] theorem Ty.nb_mk:(Ty.mk k s sg bg na ns nb nu nc ms nd bs c).nb=nb:=rfl
@[simp] theorem Ty.nums_mk:(Ty.mk k s sg bg na ns nb nu nc ms nd bs c).nums=nu:=rfl
@[simp] theorem Ty.nc_mk:(Ty.mk k s sg bg na ns nb nu nc ms nd bs c).nc=nc:=rfl
@[simp] theorem Ty.ms_mk:(Ty.mk k s sg bg na ns nb nu nc ms nd bs c).ms=ms:=rfl
@[simp] theorem Ty.nd_mk:(Ty.mk k s sg bg na ns nb nu nc ms nd bs c).nd=nd:=rfl
@[simp] theorem Ty.base_mk:(Ty.mk k s sg bg na ns nb nu nc ms nd bs c).base=bs:=rfl
@[simp] theorem Ty.count_mk:(Ty.mk k s sg bg na ns nb nu nc ms nd bs c).count=c:=rfl
end
@[simp] theorem Mb.name_mk (n o t):(Mb.mk n o t).name=n:=rfl
@[simp] theorem Mb.off_mk (n o t):(Mb.mk n o t).off=o:=rfl
@[simp] theorem Mb.ty_mk (n o t):(Mb.mk n o t).ty=t:=rfl
theorem Ty.base_lt {t:Ty} {b:Ty} (h:b ∈ t.base):SizeOf.sizeOf b<SizeOf.sizeOf t:=by
  obtain ⟨k,s,sg,bg,na,ns,nb,nu,nc,ms,nd,bs,c⟩:=t
  have:=List.sizeOf_lt_of_mem h
  simp only [Ty.base] at this
  simp
  omega
theorem Ty.ms_lt {t:Ty} {m:Mb} (h:m ∈ t.ms):SizeOf.sizeOf m.ty<SizeOf.sizeOf t:=by
  obtain ⟨k,s,sg,bg,na,ns,nb,nu,nc,ms,nd,bs,c⟩:=t
  have:=List.sizeOf_lt_of_mem h
  simp only [Ty.ms] at this
  obtain ⟨n,o,ty⟩:=m
  simp [Mb.ty] at this ⊢
  omega
theorem Ty.ind {P:Ty→Prop} (h:∀ t,(∀ m,m ∈ t.ms→P m.ty)→(∀ b,b ∈ t.base→P b)→P t) (t:Ty):P t:=by
  have key:∀ (n:Nat) (t:Ty),SizeOf.sizeOf t≤n→P t:=by
    intro n
    induction n with
    | zero=>intro t ht;exact h t (fun m hm=>absurd (Ty.ms_lt hm) (by omega)) (fun b hb=>absurd (Ty.base_lt hb) (by omega))
    | succ n ih=>intro t ht;exact h t (fun m hm=>ih _ (by have:=Ty.ms_lt hm;omega)) (fun b hb=>ih _ (by have:=Ty.base_lt hb;omega))
  exact key _ t (Nat.le_refl _)
mutual
def Ty.c:Ty→List V
  | .mk k s sg bg na ns nb nu nc ms nd bs c=>[.i .i64 k,.i .i64 s,.b sg,.b bg,slv na true 1 (ns.map .s),slv nb true 1 (nu.map (.i .i64)),slv nc true 11 (Mb.cs ms),slv nd true 9 (Ty.cs bs),.i .i64 c]
def Mb.c:Mb→V
  | .mk n o t=>.agg (.s n :: .i .i64 o :: t.c)
def Mb.cs:List Mb→List V
  | []=>[]
  | m :: ms=>m.c :: Mb.cs ms
def Ty.cs:List Ty→List V
  | []=>[]
  | t :: ts=>.agg t.c :: Ty.cs ts
end
def Ty.v (t:Ty):V:=.agg t.c
theorem Mb.cs_map:∀ l:List Mb,Mb.cs l=l.map Mb.c
  | []=>rfl
  | m :: l=>by rw [Mb.cs,Mb.cs_map l];rfl
theorem Ty.cs_map:∀ l:List Ty,Ty.cs l=l.map Ty.v
  | []=>rfl
  | m :: l=>by rw [Ty.cs,Ty.cs_map l];rfl
structure Q4 where
  a:Bool
  b:Bool
  c:Bool
  d:Bool
def Ty.q (x:Q4) (t:Ty):List V:=[.i .i64 t.kind,.i .i64 t.size,.b t.sg,.b t.bg,slv t.na x.a 1 (t.names.map .s),slv t.nb x.b 1 (t.nums.map (.i .i64)),slv t.nc x.c 11 (t.ms.map Mb.c),slv t.nd x.d 9 (t.base.map Ty.v),.i .i64 t.count]
theorem Ty.c_q:∀ t:Ty,t.c=t.q ⟨true,true,true,true⟩
  | .mk k s sg bg na ns nb nu nc ms nd bs c=>by
    rw [Ty.c,Ty.q,Mb.cs_map,Ty.cs_map];rfl
theorem Mb.c_eq:∀ m:Mb,m.c=.agg (.s m.name :: .i .i64 m.off :: m.ty.q ⟨true,true,true,true⟩)
  | .mk n o t=>by rw [Mb.c,Ty.c_q];rfl
theorem Ty.v_eq (t:Ty):t.v=.agg (t.q ⟨true,true,true,true⟩):=by rw [Ty.v,Ty.c_q]
theorem Mb.cells_c (m:Mb):m.c.cells=.s m.name :: .i .i64 m.off :: m.ty.q ⟨true,true,true,true⟩:=by
  rw [Mb.c_eq];simp [Ty.q]
@[simp] theorem Mb.len_c (m:Mb):m.c.cells.length=11:=by rw [Mb.cells_c];rfl
@[simp] theorem Mb.take_c (m:Mb):m.c.cells.take 11=m.c.cells:=List.take_of_length_le (by simp)
@[simp] theorem Mb.mk_c (m:Mb):mkV true m.c.cells=some m.c:=by rw [Mb.cells_c,Mb.c_eq];rfl
@[simp] theorem Mb.agg_c (m:Mb):V.agg m.c.cells=m.c:=by rw [Mb.cells_c,Mb.c_eq]
theorem Ty.q_lend (s:St) (xp) (k) (t:Ty) (x:Q4):(t.q x).map (lend s xp (k+1))=t.q x:=by
  simp [Ty.q]
@[simp] theorem Mb.lend_c (s:St) (xp) (k) (m:Mb):lend s xp (k+2) m.c=m.c:=by
  rw [Mb.c_eq]
  show V.agg (List.map (lend s xp (k+1)) _)=_
  rw [List.map_cons,List.map_cons,Ty.q_lend];rfl
@[simp] theorem Mb.lendA_c (s:St) (xp) (z) (m:Mb):lendA s xp z m.c=m.c:=by
  have h:=Mb.lend_c s xp 2 m
  revert h
  rw [Mb.c_eq]
  exact fun h=>h
theorem Ty.cells_v (m:Ty):m.v.cells=m.q ⟨true,true,true,true⟩:=by
  rw [Ty.v_eq];simp [Ty.q]
@[simp] theorem Ty.len_v (m:Ty):m.v.cells.length=9:=by rw [Ty.cells_v];rfl
@[simp] theorem Ty.take_v (m:Ty):m.v.cells.take 9=m.v.cells:=List.take_of_length_le (by simp)
@[simp] theorem Ty.mk_v (m:Ty):mkV true m.v.cells=some m.v:=by rw [Ty.cells_v,Ty.v_eq];rfl
@[simp] theorem Ty.agg_v (m:Ty):V.agg m.v.cells=m.v:=by rw [Ty.cells_v,Ty.v_eq]
@[simp] theorem Ty.lend_v (s:St) (xp) (k) (m:Ty):lend s xp (k+2) m.v=m.v:=by
  rw [Ty.v_eq]
  show V.agg (List.map (lend s xp (k+1)) _)=_
  rw [Ty.q_lend]
@[simp] theorem Ty.lendA_v (s:St) (xp) (z) (m:Ty):lendA s xp z m.v=m.v:=by
  have h:=Ty.lend_v s xp 2 m
  revert h
  rw [Ty.v_eq]
  exact fun h=>h
@[simp] theorem Mb.imp_c (bl base) (m:Mb):V.mapL (impL bl base) m.c=m.c:=by rw [Mb.c_eq];simp [Ty.q]
@[simp] theorem Mb.ren_c (nb ids) (m:Mb):V.mapL (renL nb ids) m.c=m.c:=by rw [Mb.c_eq];simp [Ty.q]
@[simp] theorem Mb.frz_c (s:St) (m:Mb):frzs m.c.cells s=some (m.c.cells,s):=by rw [Mb.cells_c];simp [Ty.q]
@[simp] theorem Mb.frzV_c (s:St) (m:Mb):frzV m.c s=some (m.c,s):=by
  have h:=Mb.frz_c s m
  rw [Mb.cells_c] at h
  rw [Mb.c_eq];simp only [frzV];rw [h]
@[simp] theorem Mb.leaf_c (m:Mb):isLeaf m.c=false:=by rw [Mb.c_eq];rfl
@[simp] theorem Ty.imp_v (bl base) (m:Ty):V.mapL (impL bl base) m.v=m.v:=by rw [Ty.v_eq];simp [Ty.q]
@[simp] theorem Ty.ren_v (nb ids) (m:Ty):V.mapL (renL nb ids) m.v=m.v:=by rw [Ty.v_eq];simp [Ty.q]
@[simp] theorem Ty.frz_v (s:St) (m:Ty):frzs m.v.cells s=some (m.v.cells,s):=by rw [Ty.cells_v];simp [Ty.q]
@[simp] theorem Ty.frzV_v (s:St) (m:Ty):frzV m.v s=some (m.v,s):=by
  have h:=Ty.frz_v s m
  rw [Ty.cells_v] at h
  rw [Ty.v_eq];simp only [frzV];rw [h]
@[simp] theorem Ty.leaf_v (m:Ty):isLeaf m.v=false:=by rw [Ty.v_eq];rfl
end Go.VS
end
section
namespace Go.VS
set_option maxRecDepth 4000
attribute [-simp] isLeaf
@[simp] theorem slv_f (q:Bool) (z:Nat) (xs:List V):slv false q z xs=.view q z xs:=rfl
mutual
def Ty.tot:Ty→Nat
  | .mk _ _ _ _ _ ns _ nu _ ms _ bs _=>totS ns+nu.length+Mb.tots ms+Ty.tots bs
def Mb.tot:Mb→Nat
  | .mk n _ t=>n.length+t.tot
def Mb.tots:List Mb→Nat
  | []=>0
  | m :: ms=>1+m.tot+Mb.tots ms
def Ty.tots:List Ty→Nat
  | []=>0
  | t :: ts=>1+t.tot+Ty.tots ts
end
theorem Ty.tot_eq:∀ t:Ty,t.tot=totS t.names+t.nums.length+Mb.tots t.ms+Ty.tots t.base
  | .mk ..=>by rw [Ty.tot];rfl
theorem Mb.tot_eq:∀ m:Mb,m.tot=m.name.length+m.ty.tot
  | .mk ..=>by rw [Mb.tot];rfl
def sumG {α:Type} (f:α→Nat) (l:List α):Nat:=(l.map f).sum
theorem ab7 {α:Type} (f:α→Nat) {l:List α} {a:α} (h:a ∈ l):f a≤sumG f l:=by
  unfold sumG
  induction l with
  | nil=>simp at h
  | cons b l ih=>
    rcases List.mem_cons.mp h with h | h
    · subst h;simp
    · have:=ih h;simp only [List.map_cons,List.sum_cons];omega
theorem Mb.tots_eq:∀ l:List Mb,Mb.tots l=l.length+sumG Mb.tot l
  | []=>rfl
  | m :: l=>by rw [Mb.tots,Mb.tots_eq l];simp [sumG];omega
theorem Ty.tots_eq:∀ l:List Ty,Ty.tots l=l.length+sumG Ty.tot l
  | []=>rfl
  | m :: l=>by rw [Ty.tots,Ty.tots_eq l];simp [sumG];omega
inductive Ty.Big:Ty→Prop
  | mk (t:Ty) (h1:t.names.length<big) (h2:∀ s,s ∈ t.names→s.length<big) (h3:t.nums.length<big) (h4:t.ms.length<big) (h5:t.base.length<big)
      (h6:∀ m,m ∈ t.ms→m.name.length<big) (h7:∀ m,m ∈ t.ms→m.ty.Big) (h8:∀ b,b ∈ t.base→b.Big):Ty.Big t
end Go.VS
end
section
namespace Go.VS
set_option maxRecDepth 4000
attribute [-simp] isLeaf okRet
mutual
def Ty.nrm:Ty→Ty
  | .mk k s sg bg _ ns _ nu _ ms _ bs c=>.mk k s sg bg false ns false nu false (Mb.nrms ms) false (Ty.nrms bs) c
def Mb.nrm:Mb→Mb
  | .mk n o t=>.mk n o t.nrm
def Mb.nrms:List Mb→List Mb
  | []=>[]
  | m :: ms=>m.nrm :: Mb.nrms ms
def Ty.nrms:List Ty→List Ty
  | []=>[]
  | t :: ts=>t.nrm :: Ty.nrms ts
end
theorem Mb.nrms_map:∀ l:List Mb,Mb.nrms l=l.map Mb.nrm
  | []=>rfl
  | m :: l=>by rw [Mb.nrms,Mb.nrms_map l];rfl
theorem Ty.nrms_map:∀ l:List Ty,Ty.nrms l=l.map Ty.nrm
  | []=>rfl
  | m :: l=>by rw [Ty.nrms,Ty.nrms_map l];rfl
theorem Ty.nrm_eq (t:Ty):t.nrm=.mk t.kind t.size t.sg t.bg false t.names false t.nums false (t.ms.map Mb.nrm) false (t.base.map Ty.nrm) t.count:=by
  obtain ⟨⟩:=t
  rw [Ty.nrm,Mb.nrms_map,Ty.nrms_map];rfl
theorem Mb.nrm_eq (m:Mb):m.nrm=.mk m.name m.off m.ty.nrm:=by
  obtain ⟨⟩:=m
  rw [Mb.nrm];rfl
end Go.VS
end
section
namespace Go.VS
set_option maxRecDepth 4000
attribute [-simp] isLeaf okRet
end Go.VS
end
section
namespace Go.VS
set_option maxRecDepth 4000
attribute [-simp] isLeaf okRet
abbrev Ty.w (t:Ty):V:=.agg [.i .i64 t.kind,.i .i64 t.size,.b t.sg,.b t.bg,slv t.na true 1 (t.names.map .s),slv t.nb true 1 (t.nums.map (.i .i64)),slv t.nc true 11 (t.ms.map Mb.c),slv t.nd true 9 (t.base.map Ty.v),.i .i64 t.count]
abbrev Mb.w (m:Mb):V:=.agg [.s m.name,.i .i64 m.off,.i .i64 m.ty.kind,.i .i64 m.ty.size,.b m.ty.sg,.b m.ty.bg,slv m.ty.na true 1 (m.ty.names.map .s),slv m.ty.nb true 1 (m.ty.nums.map (.i .i64)),slv m.ty.nc true 11 (m.ty.ms.map Mb.c),slv m.ty.nd true 9 (m.ty.base.map Ty.v),.i .i64 m.ty.count]
theorem Ty.v_w (t:Ty):t.v=t.w:=Ty.v_eq t
theorem Mb.c_w (t:Mb):t.c=t.w:=Mb.c_eq t
noncomputable def tB (p:Prop):Bool:=@decide p (Classical.propDecidable p)
theorem tB_t {p:Prop} (h:p):tB p=true:=@decide_eq_true p (Classical.propDecidable p) h
theorem tB_f {p:Prop} (h:¬p):tB p=false:=@decide_eq_false p (Classical.propDecidable p) h
theorem tB_iff {p:Prop}:tB p=true ↔ p:=⟨fun h=>Classical.byContradiction fun n=>Bool.noConfusion ((tB_f n).symm.trans h),tB_t⟩
theorem aaw {p q:Prop} (h:p ↔ q):tB p=tB q:=by rw [propext h]
mutual
def Ty.sz:Ty→Int
  | .mk k s _ _ _ _ _ _ _ _ _ bs c=>if k=3 then Ty.hsize bs else if k=5 then c*Ty.hsz bs else s
def Ty.hsz:List Ty→Int
  | []=>0
  | t :: _=>t.sz
def Ty.hsize:List Ty→Int
  | []=>0
  | t :: _=>t.size
def Ty.dep:Ty→Nat
  | .mk k _ _ _ _ _ _ _ _ ms _ bs _=>if k=4 then Mb.deps ms+1 else if k=5 then Ty.hdep bs+1 else 1
def Ty.hdep:List Ty→Nat
  | []=>0
  | t :: _=>t.dep
def Mb.dep:Mb→Nat
  | .mk _ _ t=>t.dep
def Mb.deps:List Mb→Nat
  | []=>0
  | m :: ms=>max m.dep (Mb.deps ms)
end
theorem Ty.sz_eq:∀ t:Ty,t.sz=if t.kind=3 then Ty.hsize t.base else if t.kind=5 then t.count*Ty.hsz t.base else t.size
  | .mk ..=>by rw [Ty.sz];rfl
theorem Ty.dep_eq:∀ t:Ty,t.dep=if t.kind=4 then Mb.deps t.ms+1 else if t.kind=5 then Ty.hdep t.base+1 else 1
  | .mk ..=>by rw [Ty.dep];rfl
theorem Mb.dep_eq:∀ m:Mb,m.dep=m.ty.dep
  | .mk ..=>by rw [Mb.dep];rfl
theorem Mb.deps_le {n:Nat}:∀ {l:List Mb},Mb.deps l≤n ↔ ∀ m,m ∈ l→m.ty.dep≤n
  | []=>by simp [Mb.deps]
  | m :: l=>by
    rw [Mb.deps,Mb.dep_eq]
    have:=@Mb.deps_le n l
    simp only [List.mem_cons,forall_eq_or_imp,← this]
    omega
structure IntF (t:Ty):Prop where
  s:t.size=1∨t.size=2∨t.size=4∨t.size=8
  g:t.size=8→t.sg=true
  b:t.size=1→t.bg=false
def lo (size:Int) (sg:Bool):Int:=if sg then -(2 ^ (8*size.toNat - 1)) else 0
def hi (size:Int) (sg:Bool):Int:=if sg then 2 ^ (8*size.toNat - 1) - 1 else 2 ^ (8*size.toNat) - 1
structure Bare (t:Ty):Prop where
  na:t.names=[]
  nu:t.nums=[]
  ms:t.ms=[]
  ba:t.base=[]
  co:t.count=0
structure IntG (t:Ty):Prop extends IntF t,Bare t
structure Plain (t:Ty):Prop where
  s:t.sg=false
  b:t.bg=false
structure EnC (t b:Ty) (i:Nat):Prop where
  nm:isName (t.names.getD i [])=true
  lo:lo b.size b.sg≤t.nums.getD i 0
  hi:t.nums.getD i 0≤hi b.size b.sg
  as:0<i→t.nums.getD (i - 1) 0<t.nums.getD i 0
  df:∀ k,k<i→t.names.getD k []≠t.names.getD i []
structure EnumG (t:Ty):Prop where
  p:Plain t
  s:t.size=0
  c:t.count=0
  ms:t.ms=[]
  n1:1≤t.names.length
  n6:t.names.length≤6
  nn:t.nums.length=t.names.length
  ba:∃ b,t.base=[b]∧b.kind=1∧IntG b∧∀ i,i<t.names.length→EnC t b i
def endOf (l:List Mb) (i:Nat):Int:=if i=0 then 0 else match l[i - 1]? with
  | some m=>m.off+m.ty.sz
  | none=>0
structure MbC (l:List Mb) (i:Nat) (m:Mb):Prop where
  nm:isName m.name=true
  lo:endOf l i≤m.off
  hi:m.off≤24
  df:∀ k m',k<i→l[k]?=some m'→m'.name≠m.name
structure CompG (t:Ty):Prop where
  p:Plain t
  s1:1≤t.size
  s2:t.size≤24
  c:t.count=0
  na:t.names=[]
  nu:t.nums=[]
  ba:t.base=[]
  n1:1≤t.ms.length
  n4:t.ms.length≤4
  en:endOf t.ms t.ms.length≤t.size
  ms:∀ i m,t.ms[i]?=some m→MbC t.ms i m
structure ArrG (t:Ty):Prop where
  p:Plain t
  s:t.size=0
  na:t.names=[]
  nu:t.nums=[]
  ms:t.ms=[]
  c1:1≤t.count
  c4:t.count≤4
def Gd:Nat→Ty→Prop
  | 0,_=>False
  | d+1,t=>(t.kind=1∧IntG t)∨(t.kind=2∧1≤t.size∧t.size≤16∧Plain t∧Bare t)∨(t.kind=3∧EnumG t) ∨
    (t.kind=4∧CompG t∧∀ m,m ∈ t.ms→Gd d m.ty)∨(t.kind=5∧ArrG t∧∃ b,t.base=[b]∧Gd d b∧t.sz≤24) ∨
    (t.kind=6∧t.size=2∧Plain t∧Bare t)
theorem Gd.mono:∀ {d:Nat} {t:Ty},Gd d t→Gd (d+1) t
  | 0,_,h=>h.elim
  | d+1,t,h=>by
    rcases h with h | h | h | ⟨h1,h2,h3⟩ | ⟨h1,h2,b,h3,h4,h5⟩ | h
    · exact .inl h
    · exact .inr (.inl h)
    · exact .inr (.inr (.inl h))
    · exact .inr (.inr (.inr (.inl ⟨h1,h2,fun m hm=>(h3 m hm).mono⟩)))
    · exact .inr (.inr (.inr (.inr (.inl ⟨h1,h2,b,h3,h4.mono,h5⟩))))
    · exact .inr (.inr (.inr (.inr (.inr h))))
theorem Gd.le {d e:Nat} {t:Ty} (h:Gd d t) (hde:d≤e):Gd e t:=by
  induction hde with
  | refl=>exact h
  | step _ ih=>exact ih.mono
theorem Gd.dep:∀ {d:Nat} {t:Ty},Gd d t→t.dep≤d
  | 0,_,h=>h.elim
  | d+1,t,h=>by
    rw [Ty.dep_eq]
    rcases h with h | h | h | ⟨h1,h2,h3⟩ | ⟨h1,h2,b,h3,h4,h5⟩ | h
    · simp [h.1]
    · simp [h.1]
    · simp [h.1]
    · rw [if_pos h1];exact Nat.succ_le_succ (Mb.deps_le.mpr fun m hm=>(h3 m hm).dep)
    · rw [if_neg (by omega),if_pos h1,h3,Ty.hdep];exact Nat.succ_le_succ h4.dep
    · simp [h.1]
theorem Gd.of_dep:∀ {e d:Nat} {t:Ty},Gd e t→t.dep≤d→Gd d t
  | 0,_,_,h,_=>h.elim
  | e+1,0,t,h,hd=>by rw [Ty.dep_eq] at hd;split at hd <;> (try split at hd) <;> omega
  | e+1,d+1,t,h,hd=>by
    rw [Ty.dep_eq] at hd
    rcases h with h | h | h | ⟨h1,h2,h3⟩ | ⟨h1,h2,b,h3,h4,h5⟩ | h
    · exact .inl h
    · exact .inr (.inl h)
    · exact .inr (.inr (.inl h))
    · rw [if_pos h1] at hd
      have hd2:=Mb.deps_le.mp (Nat.le_of_succ_le_succ hd)
      exact .inr (.inr (.inr (.inl ⟨h1,h2,fun m hm=>(h3 m hm).of_dep (hd2 m hm)⟩)))
    · rw [if_neg (by omega),if_pos h1,h3,Ty.hdep] at hd
      exact .inr (.inr (.inr (.inr (.inl ⟨h1,h2,b,h3,h4.of_dep (Nat.le_of_succ_le_succ hd),h5⟩))))
    · exact .inr (.inr (.inr (.inr (.inr h))))
theorem Gd.sz {d:Nat} {t:Ty} (h:Gd d t):1≤t.sz∧t.sz≤24:=by
  induction d generalizing t with
  | zero=>exact h.elim
  | succ d ih=>
    rw [Ty.sz_eq]
    rcases h with ⟨h1,h2⟩ | ⟨h1,h2,h3,_⟩ | ⟨h1,h2⟩ | ⟨h1,h2,h3⟩ | ⟨h1,h2,b,h3,h4,h5⟩ | ⟨h1,h2,_⟩
    · have:=h2.s;rw [if_neg (by omega),if_neg (by omega)];omega
    · rw [if_neg (by omega),if_neg (by omega)];omega
    · obtain ⟨b,hb,_,hi,_⟩:=h2.ba
      have:=hi.s
      rw [if_pos h1,hb,Ty.hsize];omega
    · rw [if_neg (by omega),if_neg (by omega)];exact ⟨h2.s1,h2.s2⟩
    · have hb:=ih h4
      rw [Ty.sz_eq,if_neg (by omega),if_pos h1] at h5
      rw [if_neg (by omega),if_pos h1]
      refine ⟨?_,h5⟩
      rw [h3,Ty.hsz]
      have hc:=h2.c1
      have:=Int.mul_le_mul hc hb.1 (by omega) (by omega)
      omega
    · rw [if_neg (by omega),if_neg (by omega)];omega
end Go.VS
end
section
namespace Go.VS
set_option maxRecDepth 4000
attribute [-simp] isLeaf okRet
theorem ac6 (t:Ty) (K:Out→Prop):Call prog 486 ⟨[t.w],[],[]⟩ K=K (.b (!t.sg && !t.bg),[],[]):=by
  refine Zc (f:=486) rfl rfl (by decide) ?_
  cases h1:t.sg <;> cases h2:t.bg <;> simp -implicitDefEqProofs [h1,h2]
theorem ac7 (t:Ty) (h:IntF t) (K:Out→Prop):Call prog 526 ⟨[t.w],[],[]⟩ K=K (.tup [.i .i64 (lo t.size t.sg),.i .i64 (hi t.size t.sg)],[],[]):=by
  refine Zc (f:=526) rfl rfl (by decide) ?_
  rcases h.s with e | e | e | e <;> cases h1:t.sg
  all_goals first | (have:=h.g e;rw [h1] at this;cases this) | skip
  all_goals simp -implicitDefEqProofs [h1,e,lo,hi]
  all_goals decide
theorem ajh (t:Ty) (K:Out→Prop):Call prog 482 ⟨[t.w],[],[]⟩ K=K (.b (tB (IntG t)),[],[]):=by
  refine Zc (f:=482) rfl rfl (by decide) ?_
  have e1:∀ q v K,Call prog 92 ⟨[.view q 1 [.i .i64 1,.i .i64 2,.i .i64 4,.i .i64 8],.i .i64 v],[],[]⟩ K=K (.b (decide (v ∈ [(1:Int),2,4,8])),[],[]):=fun q v K=>agl q [1,2,4,8] v (by decide) K
  by_cases c1:t.size=1∨t.size=2∨t.size=4∨t.size=8
  case neg=>
    rw [tB_f fun h=>c1 h.s]
    simp -implicitDefEqProofs [e1,c1]
  by_cases c2:t.size=8∧t.sg=false
  case pos=>
    rw [tB_f fun h=>by have:=h.g c2.1;rw [c2.2] at this;cases this]
    simp -implicitDefEqProofs [e1,c2.1,c2.2]
  by_cases c3:t.size=1∧t.bg=true
  case pos=>
    rw [tB_f fun h=>by have:=h.b c3.1;rw [c3.2] at this;cases this]
    simp -implicitDefEqProofs [e1,c3.1,c3.2]
  have f:IntF t:=⟨c1,fun h=>by cases hs:t.sg;exact absurd ⟨h,hs⟩ c2;rfl,fun h=>by cases hs:t.bg;rfl;exact absurd ⟨h,hs⟩ c3⟩
  have hB:tB (IntG t)=(decide (t.names=[]) && decide (t.nums=[]) && decide (t.ms=[]) && decide (t.base=[]) && decide (t.count=0)):=by
    rw [Bool.eq_iff_iff,tB_iff]
    simp only [Bool.and_eq_true,decide_eq_true_eq]
    exact ⟨fun h=>⟨⟨⟨⟨h.na,h.nu⟩,h.ms⟩,h.ba⟩,h.co⟩,fun h=>⟨f,⟨h.1.1.1.1,h.1.1.1.2,h.1.1.2,h.1.2,h.2⟩⟩⟩
  rw [hB]
  have hb:=f.b
  have hg:=f.g
  rcases c1 with h | h | h | h
  all_goals
    by_cases n1:t.names=[]
    case neg=>simp -implicitDefEqProofs [e1,h,hb,hg,n1]
    by_cases n2:t.nums=[]
    case neg=>simp -implicitDefEqProofs [e1,h,hb,hg,n1,n2]
    by_cases n3:t.ms=[]
    case neg=>simp -implicitDefEqProofs [e1,h,hb,hg,n1,n2,n3]
    by_cases n4:t.base=[]
    case neg=>simp -implicitDefEqProofs [e1,h,hb,hg,n1,n2,n3,n4]
    simp -implicitDefEqProofs [e1,h,hb,hg,n1,n2,n3,n4]
theorem ac8 (t:Ty) (h3:t.kind=3→∃ b,t.base=[b])
    (h5:t.kind=5→∃ b,t.base=[b]∧0≤t.count∧t.count≤4∧0≤b.sz∧b.sz≤24∧∀ K:Out→Prop,Call prog 487 ⟨[b.w],[],[]⟩ K=K (.i .i64 b.sz,[],[])) (K:Out→Prop):
    Call prog 487 ⟨[t.w],[],[]⟩ K=K (.i .i64 t.sz,[],[]):=by
  refine Zc (f:=487) rfl rfl (by decide) ?_
  rw [Ty.sz_eq]
  by_cases k3:t.kind=3
  · obtain ⟨b,hb⟩:=h3 k3
    rw [if_pos k3,hb,Ty.hsize]
    simp -implicitDefEqProofs [k3,hb,Ty.v_w]
  · by_cases k5:t.kind=5
    · obtain ⟨b,hb,c1,c2,s1,s2,e⟩:=h5 k5
      have hm:0≤t.count*b.sz:=Int.mul_nonneg c1 s1
      have hm2:t.count*b.sz≤4*24:=Int.mul_le_mul c2 s2 s1 (by omega)
      have hw:=wrap_i64 (n:=t.count*b.sz) (by omega) (by omega)
      rw [if_neg k3,if_pos k5,hb,Ty.hsz]
      simp -implicitDefEqProofs [k3,k5,hb,Ty.v_w,e,hw]
    · rw [if_neg k3,if_neg k5]
      simp -implicitDefEqProofs [k3,k5]
theorem aa9 {d:Nat} {t:Ty} (h:Gd d t):∀ K:Out→Prop,Call prog 487 ⟨[t.w],[],[]⟩ K=K (.i .i64 t.sz,[],[]):=by
  induction d generalizing t with
  | zero=>exact h.elim
  | succ d ih=>
    intro K
    refine ac8 t (fun k=>?_) (fun k=>?_) K
    · rcases h with h | h | h | h | h | h <;> (try (have:=h.1;omega))
      obtain ⟨b,hb,_⟩:=h.2.ba;exact ⟨b,hb⟩
    · rcases h with h | h | h | h | h | h <;> (try (have:=h.1;omega))
      obtain ⟨_,h2,b,hb,hg,_⟩:=h
      exact ⟨b,hb,by have:=h2.c1;omega,h2.c4,by have:=hg.sz;omega,hg.sz.2,ih hg⟩
end Go.VS
end
section
namespace Go.VS
set_option maxRecDepth 4000
attribute [-simp] isLeaf okRet
theorem Mb.deps_succ:∀ {l:List Mb} {i:Nat} (h:i<l.length),Mb.deps (l.take (i+1))=max (Mb.deps (l.take i)) l[i].ty.dep
  | m :: l,0,h=>by simp [Mb.deps,Mb.dep_eq]
  | m :: l,i+1,h=>by
    have:=@Mb.deps_succ l i (by simpa using h)
    rw [List.take_succ_cons,List.take_succ_cons,Mb.deps,Mb.deps,this]
    simp only [List.getElem_cons_succ]
    omega
theorem alk {d:Nat} (hd:d≤1000) {t:Ty} (h:Gd d t):∀ K:Out→Prop,Call prog 488 ⟨[t.w],[],[]⟩ K=K (.i .i64 t.dep,[],[]):=by
  induction d generalizing t with
  | zero=>exact h.elim
  | succ d ih=>
    intro K
    have hdep:=h.dep
    refine Zc (f:=488) rfl rfl (by decide) ?_
    rw [Ty.dep_eq] at hdep ⊢
    rcases h with h | h | h | h | h | h
    · simp -implicitDefEqProofs [h.1]
    · simp -implicitDefEqProofs [h.1]
    · simp -implicitDefEqProofs [h.1]
    · obtain ⟨h1,h2,h3⟩:=h
      rw [if_pos h1] at hdep ⊢
      have hl:=h2.n4
      have w1:=wrap_i64 (n:=(Mb.deps t.ms:Int)+1) (by omega) (by omega)
      simp -implicitDefEqProofs [h1]
      refine WL_for (fun i=>⟨sp 34 [(1,.ptr 0 0),(3,.i .i64 (Mb.deps (t.ms.take i))),(4,.i .i64 i)],[[.i .i64 t.kind,.i .i64 t.size,.b t.sg,.b t.bg,slv t.na true 1 (t.names.map .s),slv t.nb true 1 (t.nums.map (.i .i64)),slv t.nc true 11 (t.ms.map Mb.c),slv t.nd true 9 (t.base.map Ty.v),.i .i64 t.count]],[]⟩) t.ms.length (fun _=>True) _ (by simp -implicitDefEqProofs [h1,Mb.deps]) trivial ?_
      intro i hi _
      by_cases hlt:i<t.ms.length
      · have hw:=wrap_i64 (n:=(i:Int)+1) (by omega) (by omega)
        have e1:=ih (by omega) (h3 t.ms[i] (List.getElem_mem hlt))
        have hs:=Mb.deps_succ hlt
        have e2:(if t.ms[i].ty.dep<Mb.deps (t.ms.take i) then (Mb.deps (t.ms.take i):Int) else (t.ms[i].ty.dep:Int))=(Mb.deps (t.ms.take (i+1)):Int):=by
          rw [hs];split <;> omega
        simp -implicitDefEqProofs [hlt,hw,e1,aem,Mb.c_w,e2,Next]
      · have:i=t.ms.length:=by omega
        subst this
        simp -implicitDefEqProofs [w1]
    · obtain ⟨h1,h2,b,h3,h4,h5⟩:=h
      have e1:=ih (by omega) h4
      rw [if_neg (by omega),if_pos h1,h3,Ty.hdep] at hdep ⊢
      have w1:=wrap_i64 (n:=(b.dep:Int)+1) (by omega) (by omega)
      simp -implicitDefEqProofs [h1,h3,e1,Ty.v_w,w1]
    · simp -implicitDefEqProofs [h.1]
theorem len1 {α:Type} {l:List α} (h:l.length=1) (h0:0<l.length):l=[l[0]]:=by
  match l,h with
  | [b],_=>rfl
theorem aom (t:Ty) (hx:∀ b,b ∈ t.base→∀ K:Out→Prop,Call prog 436 ⟨[b.w],[],[]⟩ K=K (.b (tB (Gd 3 b)),[],[])) (K:Out→Prop):
    Call prog 485 ⟨[t.w],[],[]⟩ K=K (.b (tB (ArrG t∧∃ b,t.base=[b]∧Gd 3 b)),[],[]):=by
  refine Zc (f:=485) rfl rfl (by decide) ?_
  have e1:=ac6 t
  by_cases c1:t.size=0
  case neg=>rw [tB_f fun h=>c1 h.1.s];simp -implicitDefEqProofs [c1]
  have f1:=eq_true c1
  by_cases c2:t.sg=false∧t.bg=false
  case neg=>
    rw [tB_f fun h=>c2 ⟨h.1.p.s,h.1.p.b⟩]
    have:(!t.sg && !t.bg)=false:=by cases h1:t.sg <;> cases h2:t.bg <;> simp_all
    rw [this] at e1
    simp -implicitDefEqProofs [f1,e1]
  have:(!t.sg && !t.bg)=true:=by rw [c2.1,c2.2];rfl
  rw [this] at e1
  by_cases n1:t.names=[]
  case neg=>rw [tB_f fun h=>n1 h.1.na];simp -implicitDefEqProofs [f1,e1,n1,List.length_pos_iff]
  replace n1:=eq_true n1
  by_cases n2:t.nums=[]
  case neg=>rw [tB_f fun h=>n2 h.1.nu];simp -implicitDefEqProofs [f1,e1,n1,n2,List.length_pos_iff]
  replace n2:=eq_true n2
  by_cases n3:t.ms=[]
  case neg=>rw [tB_f fun h=>n3 h.1.ms];simp -implicitDefEqProofs [f1,e1,n1,n2,n3,List.length_pos_iff]
  replace n3:=eq_true n3
  by_cases n4:t.base.length=1
  case neg=>
    rw [tB_f fun h=>n4 (by obtain ⟨b,hb,_⟩:=h.2;rw [hb];rfl)]
    have n4':¬ (t.base.length:Int)=1:=by omega
    simp -implicitDefEqProofs [f1,e1,n1,n2,n3,n4,n4',List.length_pos_iff]
  have n5:0<t.base.length:=by omega
  have hb:=len1 n4 n5
  have n4':((t.base.length:Int)=1)=True:=eq_true (by omega)
  replace n4:=eq_true n4
  have e2:=hx t.base[0] (List.getElem_mem n5)
  have e3:=aee t.count 1 4
  by_cases c3:1≤t.count∧t.count≤4
  case neg=>
    have:inI t.count 1 4=false:=by unfold inI;simp;omega
    rw [this] at e3
    rw [tB_f fun h=>c3 ⟨h.1.c1,h.1.c4⟩]
    simp -implicitDefEqProofs [f1,e1,n1,n2,n3,n4,n4',e3,List.length_pos_iff]
  have:inI t.count 1 4=true:=by unfold inI;simp;omega
  rw [this] at e3
  have hR:tB (ArrG t∧∃ b,t.base=[b]∧Gd 3 b)=tB (Gd 3 t.base[0]):=aaw ⟨fun h=>by obtain ⟨_,b',h1,h2⟩:=h;simp only [h1,List.getElem_cons_zero];exact h2,
    fun h=>⟨⟨⟨c2.1,c2.2⟩,c1,of_eq_true n1,of_eq_true n2,of_eq_true n3,c3.1,c3.2⟩,_,hb,h⟩⟩
  rw [hR]
  simp -implicitDefEqProofs [f1,e1,n1,n2,n3,n4,n4',e3,e2,n5,Ty.v_w,List.length_pos_iff]
abbrev Ty.k (t:Ty):List V:=[.i .i64 t.kind,.i .i64 t.size,.b t.sg,.b t.bg,slv t.na true 1 (t.names.map .s),slv t.nb true 1 (t.nums.map (.i .i64)),slv t.nc true 11 (t.ms.map Mb.c),slv t.nd true 9 (t.base.map Ty.v),.i .i64 t.count]
theorem aal {α:Type} {l:List α} {i:Nat} {d:α} (h:i<l.length):l.getD i d=l[i]:=by simp [List.getD,h]
theorem inI_t {n a b:Int} (h:a≤n∧n≤b):inI n a b=true:=by unfold inI;simp;omega
theorem inI_f {n a b:Int} (h:¬(a≤n∧n≤b)):inI n a b=false:=by unfold inI;simp;omega
theorem am6 (t:Ty) (hs:∀ s,s ∈ t.names→s.length≤lim) (K:Out→Prop):
    Call prog 483 ⟨[t.w],[],[]⟩ K=K (.b (tB (EnumG t)),[],[]):=by
  refine Zc (f:=483) rfl rfl (by decide) ?_
  have e1:=ac6 t
  by_cases c1:t.size=0
  case neg=>rw [tB_f fun h=>c1 h.s];simp -implicitDefEqProofs [c1]
  have f1:=eq_true c1
  by_cases c2:t.sg=false∧t.bg=false
  case neg=>
    rw [tB_f fun h=>c2 ⟨h.p.s,h.p.b⟩]
    have:(!t.sg && !t.bg)=false:=by cases h1:t.sg <;> cases h2:t.bg <;> simp_all
    rw [this] at e1
    simp -implicitDefEqProofs [f1,e1]
  have:(!t.sg && !t.bg)=true:=by rw [c2.1,c2.2];rfl
  rw [this] at e1
  by_cases n3:t.ms=[]
  case neg=>rw [tB_f fun h=>n3 h.ms];simp -implicitDefEqProofs [f1,e1,n3,List.length_pos_iff]
  replace n3:=eq_true n3
  by_cases c0:t.count=0
  case neg=>rw [tB_f fun h=>c0 h.c];simp -implicitDefEqProofs [f1,e1,n3,c0,List.length_pos_iff]
  have f0:=eq_true c0
  by_cases n4:t.base.length=1
  case neg=>
    rw [tB_f fun h=>n4 (by obtain ⟨b,hb,_⟩:=h.ba;rw [hb];rfl)]
    have n4':¬ (t.base.length:Int)=1:=by omega
    simp -implicitDefEqProofs [f1,e1,n3,f0,n4,n4',List.length_pos_iff]
  have n5:0<t.base.length:=by omega
  have hb:=len1 n4 n5
  have n4':((t.base.length:Int)=1)=True:=eq_true (by omega)
  replace n4:=eq_true n4
  have hE:∀ b,t.base=[b]→b=t.base[0]:=fun b h=>by simp only [h,List.getElem_cons_zero]
  generalize hbb:t.base[0]=b at hb hE
  by_cases k1:b.kind=1
  case neg=>
    rw [tB_f fun h=>k1 (by obtain ⟨b',h1,h2,_⟩:=h.ba;rw [← hE b' h1];exact h2)]
    simp -implicitDefEqProofs [f1,e1,n3,f0,n4,n4',n5,hbb,k1,Ty.v_w,List.length_pos_iff]
  have k1':=eq_true k1
  have e2:=ajh b
  by_cases ig:IntG b
  case neg=>
    rw [tB_f fun h=>ig (by obtain ⟨b',h1,_,h2,_⟩:=h.ba;rw [← hE b' h1];exact h2)]
    rw [tB_f ig] at e2
    simp -implicitDefEqProofs [f1,e1,n3,f0,n4,n4',n5,hbb,k1',e2,Ty.v_w,List.length_pos_iff]
  rw [tB_t ig] at e2
  by_cases m1:1≤t.names.length
  case neg=>
    rw [tB_f fun h=>m1 h.n1]
    have:(t.names=[])=True:=eq_true (List.length_eq_zero_iff.mp (by omega))
    have h0:((t.names.length:Int)<1)=True:=eq_true (by omega)
    simp -implicitDefEqProofs [f1,e1,n3,f0,n4,n4',n5,hbb,k1',e2,this,h0,Ty.v_w,List.length_pos_iff]
  have m1':((t.names.length:Int)<1)=False:=eq_false (by omega)
  by_cases m6:t.names.length≤6
  case neg=>
    rw [tB_f fun h=>m6 h.n6]
    have m6':((6:Int)<(t.names.length:Int))=True:=eq_true (by omega)
    simp -implicitDefEqProofs [f1,e1,n3,f0,n4,n4',n5,hbb,k1',e2,m1',m6',Ty.v_w,List.length_pos_iff]
  have m6':((6:Int)<(t.names.length:Int))=False:=eq_false (by omega)
  by_cases mn:t.nums.length=t.names.length
  case neg=>
    rw [tB_f fun h=>mn h.nn]
    replace mn:((t.nums.length:Int)=(t.names.length:Int))=False:=eq_false (by omega)
    simp -implicitDefEqProofs [f1,e1,n3,f0,n4,n4',n5,hbb,k1',e2,m1',m6',mn,Ty.v_w,List.length_pos_iff]
  have mn':((t.nums.length:Int)=(t.names.length:Int))=True:=eq_true (by omega)
  have e3:=ac7 b ig.toIntF
  have hEn:EnumG t ↔ ∀ i,i<t.names.length→EnC t b i:=⟨fun h=>by obtain ⟨b',h1,_,_,h2⟩:=h.ba;rw [← hE b' h1];exact h2,
    fun h=>⟨⟨c2.1,c2.2⟩,c1,c0,of_eq_true n3,m1,m6,mn,b,hb,k1,ig,h⟩⟩
  rw [aaw hEn]
  generalize hL:lo b.size b.sg=L at e3
  generalize hH:hi b.size b.sg=H at e3
  simp -implicitDefEqProofs [f1,e1,n3,f0,n4,n4',n5,hbb,k1',e2,e3,m1',m6',mn',Ty.v_w,List.length_pos_iff]
  refine WL_for (fun i=>⟨sp 134 [(1,.ptr 0 0),(3,.i .i64 L),(4,.i .i64 H),(5,.i .i64 i)],[t.k],[]⟩) t.names.length (fun i=>∀ j,j<i→EnC t b j) _ (by simp -implicitDefEqProofs) (fun j hj=>absurd hj (by omega)) ?_
  intro i hi hP
  by_cases hlt:i<t.names.length
  case neg=>
    have:i=t.names.length:=by omega
    subst this
    rw [tB_t hP]
    simp -implicitDefEqProofs
  have hlt2:i<t.nums.length:=by omega
  have hw:=wrap_i64 (n:=(i:Int)+1) (by omega) (by omega)
  have g1:t.names.getD i []=t.names[i]:=aal hlt
  have g2:t.nums.getD i 0=t.nums[i]:=aal hlt2
  have e4:=afk t.names[i] (hs _ (List.getElem_mem hlt))
  have bad:¬ EnC t b i→tB (∀ i,i<t.names.length→EnC t b i)=false:=fun h=>tB_f fun h'=>h (h' i hlt)
  by_cases q1:isName t.names[i]=true
  case neg=>
    rw [bad fun h=>q1 (g1 ▸ h.nm)]
    simp -implicitDefEqProofs [hlt,e4,q1]
  rw [q1] at e4
  have e5:=aee t.nums[i] L H
  by_cases q2:L≤t.nums[i]∧t.nums[i]≤H
  case neg=>
    rw [bad fun h=>q2 (by have h1:=h.lo;have h2:=h.hi;rw [g2] at h1 h2;omega)]
    rw [inI_f q2] at e5
    simp -implicitDefEqProofs [hlt,hlt2,e4,e5]
  rw [inI_t q2] at e5
  by_cases q3:0<i→t.nums.getD (i - 1) 0<t.nums[i]
  case neg=>
    rw [bad fun h=>q3 (by have h1:=h.as;rw [g2] at h1;exact h1)]
    cases i with
    | zero=>exact absurd (fun h=>absurd h (by omega)) q3
    | succ j=>
      have hj:j<t.nums.length:=by omega
      have hj3:t.nums.getD (j+1 - 1) 0=t.nums[j]:=by rw [Nat.add_sub_cancel];exact aal hj
      have q3':t.nums[j+1]≤t.nums[j]:=by rw [hj3] at q3;exact Int.not_lt.mp fun h=>q3 fun _=>h
      have hw1:=wrap_i64 (n:=(j:Int)) (by omega) (by omega)
      have hlt':((j:Int)+1<(t.names.length:Int))=True:=eq_true (by omega)
      have hlt2':((j:Int)+1<(t.nums.length:Int))=True:=eq_true (by omega)
      have hj0:((0:Int)≤(j:Int)+1)=True:=eq_true (by omega)
      simp -implicitDefEqProofs [hlt,hlt2,hlt',hlt2',hj0,hj,hw1,e4,e5,q3']
  have hz:i=0∨(0<i∧t.nums.getD (i - 1) 0<t.nums[i]):=by
    rcases Nat.eq_zero_or_pos i with z | z
    · exact .inl z
    · exact .inr ⟨z,q3 z⟩
  rcases hz with z | ⟨z,z2⟩
  case' inl=>
    have zf:(0<i)=False:=eq_false (by omega)
    simp -implicitDefEqProofs [hlt,hlt2,zf,e4,e5]
  case' inr=>
    have zf:(0<i)=True:=eq_true (by omega)
    have hw1:=wrap_i64 (n:=(i:Int) - 1) (by omega) (by omega)
    have y1:((1:Int)≤(i:Int))=True:=eq_true (by omega)
    have y2:((i:Int) - 1<(t.nums.length:Int))=True:=eq_true (by omega)
    have y3:t.nums[i - 1]?=some t.nums[i - 1]:=List.getElem?_eq_getElem (by omega)
    have z3:(t.nums[i]≤t.nums[i - 1])=False:=eq_false (by rw [aal (by omega)] at z2;omega)
    simp -implicitDefEqProofs [hlt,hlt2,zf,e4,e5,hw1,y1,y2,y3,z3]
  all_goals
    refine WL_for (fun k=>⟨sp 134 [(1,.ptr 0 0),(3,.i .i64 L),(4,.i .i64 H),(5,.i .i64 i),(6,.i .i64 k)],[t.k],[]⟩) i (fun k=>∀ j,j<k→t.names.getD j []≠t.names[i]) _ (by simp -implicitDefEqProofs) (fun j hj=>absurd hj (by omega)) ?_
    intro k hk hQ
    by_cases hki:k<i
    · have hkl:k<t.names.length:=by omega
      have hwk:=wrap_i64 (n:=(k:Int)+1) (by omega) (by omega)
      by_cases ne:t.names[k]=t.names[i]
      · rw [bad fun h=>h.df k hki (by rw [g1,aal hkl];exact ne)]
        simp -implicitDefEqProofs [hlt,hki,hkl,ne]
      · have:∀ j,j<k+1→t.names.getD j []≠t.names[i]:=fun j hj=>by
          rcases Nat.lt_succ_iff_lt_or_eq.mp hj with h | h
          · exact hQ j h
          · subst h;rw [aal hkl];exact ne
        simp -implicitDefEqProofs [hlt,hki,hkl,ne,hwk,Next]
        exact this
    · have:k=i:=by omega
      subst this
      have:∀ j,j<k+1→EnC t b j:=fun j hj=>by
        rcases Nat.lt_succ_iff_lt_or_eq.mp hj with h | h
        · exact hP j h
        · subst h
          exact ⟨by rw [g1];exact q1,by rw [g2,hL];exact q2.1,by rw [g2,hH];exact q2.2,fun h0=>by rw [g2];exact q3 h0,fun k hk=>by rw [g1];exact hQ k hk⟩
      simp -implicitDefEqProofs [hlt,hw,Next]
      exact this
end Go.VS
end
section
namespace Go.VS
set_option maxRecDepth 4000
attribute [-simp] isLeaf okRet
abbrev Mb.k (m:Mb):List V:=[.s m.name,.i .i64 m.off,.i .i64 m.ty.kind,.i .i64 m.ty.size,.b m.ty.sg,.b m.ty.bg,slv m.ty.na true 1 (m.ty.names.map .s),slv m.ty.nb true 1 (m.ty.nums.map (.i .i64)),slv m.ty.nc true 11 (m.ty.ms.map Mb.c),slv m.ty.nd true 9 (m.ty.base.map Ty.v),.i .i64 m.ty.count]
theorem aah {l:List Mb} {i:Nat} (h:i<l.length):endOf l (i+1)=l[i].off+l[i].ty.sz:=by
  unfold endOf
  rw [if_neg (by omega),Nat.add_sub_cancel,List.getElem?_eq_getElem h]
theorem atk {l:List Mb} {i:Nat} (h:∀ j,j<i→∀ (h:j<l.length),MbC l j l[j]∧Gd 3 l[j].ty):0≤endOf l i:=by
  induction i with
  | zero=>unfold endOf;simp
  | succ i ih=>
    by_cases hl:i<l.length
    · rw [aah hl]
      have h1:=ih fun j hj=>h j (by omega)
      have h2:=h i (by omega) hl
      have h3:=h2.1.lo
      have h4:=h2.2.sz
      omega
    · unfold endOf
      rw [if_neg (by omega),Nat.add_sub_cancel,List.getElem?_eq_none (by omega)]
      exact Int.le_refl 0
theorem aj2 (t:Ty) (hs:∀ m,m ∈ t.ms→m.name.length≤lim) (hx:∀ m,m ∈ t.ms→∀ K:Out→Prop,Call prog 436 ⟨[m.ty.w],[],[]⟩ K=K (.b (tB (Gd 3 m.ty)),[],[])) (K:Out→Prop):
    Call prog 484 ⟨[t.w],[],[]⟩ K=K (.b (tB (CompG t∧∀ m,m ∈ t.ms→Gd 3 m.ty)),[],[]):=by
  refine Zc (f:=484) rfl rfl (by decide) ?_
  have e0:=aee t.size 1 24
  by_cases c1:1≤t.size∧t.size≤24
  case neg=>rw [tB_f fun h=>c1 ⟨h.1.s1,h.1.s2⟩];rw [inI_f c1] at e0;simp -implicitDefEqProofs [e0]
  rw [inI_t c1] at e0
  have e1:=ac6 t
  by_cases c2:t.sg=false∧t.bg=false
  case neg=>
    rw [tB_f fun h=>c2 ⟨h.1.p.s,h.1.p.b⟩]
    have:(!t.sg && !t.bg)=false:=by cases h1:t.sg <;> cases h2:t.bg <;> simp_all
    rw [this] at e1
    simp -implicitDefEqProofs [e0,e1]
  have:(!t.sg && !t.bg)=true:=by rw [c2.1,c2.2];rfl
  rw [this] at e1
  by_cases n1:t.names=[]
  case neg=>rw [tB_f fun h=>n1 h.1.na];simp -implicitDefEqProofs [e0,e1,n1,List.length_pos_iff]
  replace n1:=eq_true n1
  by_cases n2:t.nums=[]
  case neg=>rw [tB_f fun h=>n2 h.1.nu];simp -implicitDefEqProofs [e0,e1,n1,n2,List.length_pos_iff]
  replace n2:=eq_true n2
  by_cases n4:t.base=[]
  case neg=>rw [tB_f fun h=>n4 h.1.ba];simp -implicitDefEqProofs [e0,e1,n1,n2,n4,List.length_pos_iff]
  replace n4:=eq_true n4
  by_cases c0:t.count=0
  case neg=>rw [tB_f fun h=>c0 h.1.c];simp -implicitDefEqProofs [e0,e1,n1,n2,n4,c0,List.length_pos_iff]
  have f0:=eq_true c0
  by_cases m1:1≤t.ms.length
  case neg=>
    rw [tB_f fun h=>m1 h.1.n1]
    have:(t.ms=[])=True:=eq_true (List.length_eq_zero_iff.mp (by omega))
    have h0:((t.ms.length:Int)<1)=True:=eq_true (by omega)
    simp -implicitDefEqProofs [e0,e1,n1,n2,n4,f0,this,h0,List.length_pos_iff]
  have m1':((t.ms.length:Int)<1)=False:=eq_false (by omega)
  by_cases m4:t.ms.length≤4
  case neg=>
    rw [tB_f fun h=>m4 h.1.n4]
    have m4':((4:Int)<(t.ms.length:Int))=True:=eq_true (by omega)
    simp -implicitDefEqProofs [e0,e1,n1,n2,n4,f0,m1',m4',List.length_pos_iff]
  have m4':((4:Int)<(t.ms.length:Int))=False:=eq_false (by omega)
  have hC:(CompG t∧∀ m,m ∈ t.ms→Gd 3 m.ty) ↔ (∀ i (h:i<t.ms.length),MbC t.ms i t.ms[i]∧Gd 3 t.ms[i].ty)∧endOf t.ms t.ms.length≤t.size:=
    ⟨fun h=>⟨fun i hi=>⟨h.1.ms i _ (List.getElem?_eq_getElem hi),h.2 _ (List.getElem_mem hi)⟩,h.1.en⟩,
     fun h=>⟨⟨⟨c2.1,c2.2⟩,c1.1,c1.2,c0,of_eq_true n1,of_eq_true n2,of_eq_true n4,m1,m4,h.2,fun i m hm=>by
        obtain ⟨hi,rfl⟩:=List.getElem?_eq_some_iff.mp hm;exact (h.1 i hi).1⟩,fun m hm=>by
        obtain ⟨i,hi,rfl⟩:=List.getElem_of_mem hm;exact (h.1 i hi).2⟩⟩
  rw [aaw hC]
  simp -implicitDefEqProofs [e0,e1,n1,n2,n4,f0,m1',m4',List.length_pos_iff]
  refine WL_for (fun i=>⟨sp 106 [(1,.ptr 0 0),(3,.i .i64 (endOf t.ms i)),(4,.i .i64 i)],[t.k],[]⟩) t.ms.length (fun i=>∀ j,j<i→∀ (h:j<t.ms.length),MbC t.ms j t.ms[j]∧Gd 3 t.ms[j].ty) _ (by simp -implicitDefEqProofs [endOf]) (fun j hj=>absurd hj (by omega)) ?_
  intro i hi hP
  by_cases hlt:i<t.ms.length
  case neg=>
    have:i=t.ms.length:=by omega
    subst this
    have:tB ((∀ i (h:i<t.ms.length),MbC t.ms i t.ms[i]∧Gd 3 t.ms[i].ty)∧endOf t.ms t.ms.length≤t.size)=decide (endOf t.ms t.ms.length≤t.size):=by
      rw [Bool.eq_iff_iff,tB_iff,decide_eq_true_eq]
      exact ⟨fun h=>h.2,fun h=>⟨fun i hi=>hP i hi hi,h⟩⟩
    rw [this]
    simp -implicitDefEqProofs
  have hw:=wrap_i64 (n:=(i:Int)+1) (by omega) (by omega)
  have bad:¬ (MbC t.ms i t.ms[i]∧Gd 3 t.ms[i].ty)→tB ((∀ i (h:i<t.ms.length),MbC t.ms i t.ms[i]∧Gd 3 t.ms[i].ty)∧endOf t.ms t.ms.length≤t.size)=false:=fun h=>tB_f fun h'=>h (h'.1 i hlt)
  have hes:=aah hlt
  have e4:=afk t.ms[i].name (hs _ (List.getElem_mem hlt))
  have e5:=hx t.ms[i] (List.getElem_mem hlt)
  have hP1:=hP
  generalize hm:t.ms[i]=m at *
  have hgi:t.ms[i]?=some m:=by rw [← hm];exact List.getElem?_eq_getElem hlt
  generalize hE:endOf t.ms i=E at *
  by_cases q1:isName m.name=true
  case neg=>
    rw [bad fun h=>q1 h.1.nm]
    simp -implicitDefEqProofs [hlt,hm,Mb.c_w,e4,q1]
  rw [q1] at e4
  by_cases q2:E≤m.off
  case neg=>
    rw [bad fun h=>q2 (by have:=h.1.lo;omega)]
    have q2':(m.off<E)=True:=eq_true (by omega)
    simp -implicitDefEqProofs [hlt,hm,Mb.c_w,e4,q2']
  have q2':(m.off<E)=False:=eq_false (by omega)
  by_cases q3:m.off≤24
  case neg=>
    rw [bad fun h=>q3 h.1.hi]
    have q3':(24<m.off)=True:=eq_true (by omega)
    simp -implicitDefEqProofs [hlt,hm,Mb.c_w,e4,q2',q3']
  have q3':(24<m.off)=False:=eq_false (by omega)
  by_cases q4:Gd 3 m.ty
  case neg=>
    rw [bad fun h=>q4 h.2]
    rw [tB_f q4] at e5
    simp -implicitDefEqProofs [hlt,hm,Mb.c_w,e4,q2',q3',e5]
  rw [tB_t q4] at e5
  have e6:=aa9 q4
  simp -implicitDefEqProofs [hlt,hm,Mb.c_w,e4,q2',q3',e5]
  have hsz:=q4.sz
  refine WL_for (fun k=>⟨sp 106 [(1,.ptr 0 0),(4,.i .i64 i),(5,.ptr 1 0),(6,.i .i64 k)],[t.k,m.k],[]⟩) i (fun k=>∀ j,j<k→∀ m',t.ms[j]?=some m'→m'.name≠m.name) _ (by simp -implicitDefEqProofs) (fun j hj=>absurd hj (by omega)) ?_
  intro k hk hQ
  by_cases hki:k<i
  · have hkl:k<t.ms.length:=by omega
    have hwk:=wrap_i64 (n:=(k:Int)+1) (by omega) (by omega)
    by_cases ne:t.ms[k].name=m.name
    · rw [bad fun h=>h.1.df k _ hki (List.getElem?_eq_getElem hkl) ne]
      simp -implicitDefEqProofs [hlt,hki,hkl,Mb.c_w,ne]
    · have:∀ j,j<k+1→∀ m',t.ms[j]?=some m'→m'.name≠m.name:=fun j hj m' hm'=>by
        rcases Nat.lt_succ_iff_lt_or_eq.mp hj with h | h
        · exact hQ j h m' hm'
        · subst h;rw [List.getElem?_eq_getElem hkl] at hm';cases hm';exact ne
      simp -implicitDefEqProofs [hlt,hki,hkl,Mb.c_w,ne,hwk,Next]
      exact this
  · have:k=i:=by omega
    subst this
    have hE0:0≤E:=by rw [← hE];exact atk hP1
    have hw2:=wrap_i64 (n:=m.off+m.ty.sz) (by omega) (by omega)
    have:∀ j,j<k+1→∀ (h:j<t.ms.length),MbC t.ms j t.ms[j]∧Gd 3 t.ms[j].ty:=fun j hj hjl=>by
      rcases Nat.lt_succ_iff_lt_or_eq.mp hj with h | h
      · exact hP j h hjl
      · subst h
        rw [hm]
        exact ⟨⟨q1,by rw [hE];exact q2,q3,fun k m' hk hm'=>hQ k hk m' hm'⟩,q4⟩
    simp -implicitDefEqProofs [hlt,hw,hw2,e6,hes,Next]
    exact this
theorem afq (t:Ty) (hF:t.sz≤24→Gd 4 t):
    (t.sz≤24∧(∀ K:Out→Prop,Call prog 488 ⟨[t.w],[],[]⟩ K=K (.i .i64 t.dep,[],[]))∧tB (Gd 3 t)=decide ((t.dep:Int)≤3))∨(¬ t.sz≤24∧tB (Gd 3 t)=false):=by
  by_cases h:t.sz≤24
  · have g:=hF h
    refine .inl ⟨h,alk (by omega) g,?_⟩
    rw [Bool.eq_iff_iff,tB_iff,decide_eq_true_eq]
    exact ⟨fun h=>by have:=h.dep;omega,fun hd=>g.of_dep (by omega)⟩
  · exact .inr ⟨h,tB_f fun g=>h g.sz.2⟩
theorem akf (t:Ty):∀ (hb:t.tot≤lim) (K:Out→Prop),Call prog 436 ⟨[t.w],[],[]⟩ K=K (.b (tB (Gd 3 t)),[],[]):=by
  refine Ty.ind (P:=fun t=>∀ (hb:t.tot≤lim) (K:Out→Prop),Call prog 436 ⟨[t.w],[],[]⟩ K=K (.b (tB (Gd 3 t)),[],[])) ?_ t
  intro t hm hbs hb K
  have ht:=t.tot_eq
  have t2:=Mb.tots_eq t.ms
  have t3:=Ty.tots_eq t.base
  have eM:∀ m,m ∈ t.ms→∀ K:Out→Prop,Call prog 436 ⟨[m.ty.w],[],[]⟩ K=K (.b (tB (Gd 3 m.ty)),[],[]):=
    fun m im K=>hm m im (by have:=ab7 Mb.tot im;rw [Mb.tot_eq] at this;omega) K
  have eB:∀ b,b ∈ t.base→∀ K:Out→Prop,Call prog 436 ⟨[b.w],[],[]⟩ K=K (.b (tB (Gd 3 b)),[],[]):=
    fun b ib K=>hbs b ib (by have:=ab7 Ty.tot ib;omega) K
  have hs1:∀ s,s ∈ t.names→s.length≤lim:=fun s hs=>by
    have:=ab7 List.length hs
    have:sumL t.names=sumG List.length t.names:=rfl
    have:totS t.names=t.names.length+sumL t.names:=rfl
    omega
  have hs2:∀ m,m ∈ t.ms→m.name.length≤lim:=fun m im=>by
    have:=ab7 Mb.tot im;rw [Mb.tot_eq] at this;omega
  clear hm hbs ht t2 t3
  refine Zc (f:=436) rfl rfl (by decide) ?_
  by_cases k1:t.kind=1
  · have f1:(t.kind=1)=True:=eq_true k1
    have f2:(t.kind=2)=False:=eq_false (by omega)
    have f6:(t.kind=6)=False:=eq_false (by omega)
    have e1:=ajh t
    by_cases g:IntG t
    case neg=>
      rw [tB_f g] at e1
      rw [tB_f fun h=>g (by rcases h with h | h | h | h | h | h <;> first | exact h.2 | (have:=h.1;omega))]
      simp -implicitDefEqProofs [f1,f2,f6,e1]
    rw [tB_t g] at e1
    have es:=ac8 t (fun h=>absurd h (by omega)) (fun h=>absurd h (by omega))
    rcases afq t (fun _=>.inl ⟨k1,g⟩) with ⟨s1,ed,hr⟩ | ⟨s1,hr⟩
    · rw [hr];simp -implicitDefEqProofs [f1,f2,f6,e1,es,s1,ed]
    · rw [hr];simp -implicitDefEqProofs [f1,f2,f6,e1,es,s1]
  have f1:(t.kind=1)=False:=eq_false k1
  by_cases k3:t.kind=3
  · have f2:(t.kind=2)=False:=eq_false (by omega)
    have f3:(t.kind=3)=True:=eq_true k3
    have f6:(t.kind=6)=False:=eq_false (by omega)
    have e1:=am6 t hs1
    by_cases g:EnumG t
    case neg=>
      rw [tB_f g] at e1
      rw [tB_f fun h=>g (by rcases h with h | h | h | h | h | h <;> first | exact h.2 | (have:=h.1;omega))]
      simp -implicitDefEqProofs [f1,f2,f3,f6,e1]
    rw [tB_t g] at e1
    have es:=ac8 t (fun h=>by obtain ⟨b,hb,_⟩:=g.ba;exact ⟨b,hb⟩) (fun h=>absurd h (by omega))
    rcases afq t (fun _=>.inr (.inr (.inl ⟨k3,g⟩))) with ⟨s1,ed,hr⟩ | ⟨s1,hr⟩
    · rw [hr];simp -implicitDefEqProofs [f1,f2,f3,f6,e1,es,s1,ed]
    · rw [hr];simp -implicitDefEqProofs [f1,f2,f3,f6,e1,es,s1]
  have f3:(t.kind=3)=False:=eq_false k3
  by_cases k4:t.kind=4
  · have f2:(t.kind=2)=False:=eq_false (by omega)
    have f4:(t.kind=4)=True:=eq_true k4
    have f6:(t.kind=6)=False:=eq_false (by omega)
    have e1:=aj2 t hs2 eM
    by_cases g:CompG t∧∀ m,m ∈ t.ms→Gd 3 m.ty
    case neg=>
      rw [tB_f g] at e1
      rw [tB_f fun h=>g (by rcases h with h | h | h | h | h | h <;> first | exact ⟨h.2.1,fun m hm=>(h.2.2 m hm).mono⟩ | (have:=h.1;omega))]
      simp -implicitDefEqProofs [f1,f2,f3,f4,f6,e1]
    rw [tB_t g] at e1
    have es:=ac8 t (fun h=>absurd h (by omega)) (fun h=>absurd h (by omega))
    rcases afq t (fun _=>.inr (.inr (.inr (.inl ⟨k4,g⟩)))) with ⟨s1,ed,hr⟩ | ⟨s1,hr⟩
    · rw [hr];simp -implicitDefEqProofs [f1,f2,f3,f4,f6,e1,es,s1,ed]
    · rw [hr];simp -implicitDefEqProofs [f1,f2,f3,f4,f6,e1,es,s1]
  have f4:(t.kind=4)=False:=eq_false k4
  by_cases k5:t.kind=5
  · have f2:(t.kind=2)=False:=eq_false (by omega)
    have f5:(t.kind=5)=True:=eq_true k5
    have f6:(t.kind=6)=False:=eq_false (by omega)
    have e1:=aom t eB
    by_cases g:ArrG t∧∃ b,t.base=[b]∧Gd 3 b
    case neg=>
      rw [tB_f g] at e1
      rw [tB_f fun h=>g (by rcases h with h | h | h | h | h | h <;> first | (have:=h.1;omega) | skip;obtain ⟨_,h2,b,h3,h4,_⟩:=h;exact ⟨h2,b,h3,h4.mono⟩)]
      simp -implicitDefEqProofs [f1,f2,f3,f4,f5,f6,e1]
    rw [tB_t g] at e1
    obtain ⟨ga,b,gb,gg⟩:=g
    have es:=ac8 t (fun h=>absurd h (by omega)) (fun h=>⟨b,gb,by have:=ga.c1;omega,ga.c4,by have:=gg.sz;omega,gg.sz.2,aa9 gg⟩)
    rcases afq t (fun h=>.inr (.inr (.inr (.inr (.inl ⟨k5,ga,b,gb,gg,h⟩))))) with ⟨s1,ed,hr⟩ | ⟨s1,hr⟩
    · rw [hr];simp -implicitDefEqProofs [f1,f2,f3,f4,f5,f6,e1,es,s1,ed]
    · rw [hr];simp -implicitDefEqProofs [f1,f2,f3,f4,f5,f6,e1,es,s1]
  have f5:(t.kind=5)=False:=eq_false k5
  have e1:=ac6 t
  have ein:=aee t.size 1 16
  by_cases k26:t.kind=2∨t.kind=6
  case neg=>
    have f2:(t.kind=2)=False:=eq_false fun h=>k26 (.inl h)
    have f6:(t.kind=6)=False:=eq_false fun h=>k26 (.inr h)
    rw [tB_f fun h=>by rcases h with h | h | h | h | h | h <;> first | (exact k1 h.1) | (exact k3 h.1) | (exact k4 h.1) | (exact k5 h.1) | (exact k26 (.inl h.1)) | (exact k26 (.inr h.1))]
    simp -implicitDefEqProofs [f1,f2,f3,f4,f5,f6]
  by_cases g:(t.kind=2∧1≤t.size∧t.size≤16∧Plain t∧Bare t)∨(t.kind=6∧t.size=2∧Plain t∧Bare t)
  case pos=>
    have es:=ac8 t (fun h=>absurd h k3) (fun h=>absurd h k5)
    have hp:Plain t:=g.elim (fun h=>h.2.2.2.1) (fun h=>h.2.2.1)
    have hbr:Bare t:=g.elim (fun h=>h.2.2.2.2) (fun h=>h.2.2.2)
    have hpl:(!t.sg && !t.bg)=true:=by rw [hp.s,hp.b];rfl
    rw [hpl] at e1
    have n1:=eq_true hbr.na
    have n2:=eq_true hbr.nu
    have n3:=eq_true hbr.ms
    have n4:=eq_true hbr.ba
    have n5:=eq_true hbr.co
    rcases g with g | g
    · have f2:=eq_true g.1
      rw [inI_t ⟨g.2.1,g.2.2.1⟩] at ein
      rcases afq t (fun _=>.inr (.inl g)) with ⟨s1,ed,hr⟩ | ⟨s1,hr⟩
      · rw [hr];simp -implicitDefEqProofs [f1,f2,e1,ein,n1,n2,n3,n4,n5,es,s1,ed]
      · rw [hr];simp -implicitDefEqProofs [f1,f2,e1,ein,n1,n2,n3,n4,n5,es,s1]
    · have f6:=eq_true g.1
      have f2:(t.kind=2)=False:=eq_false (by omega)
      have q:=eq_true g.2.1
      rcases afq t (fun _=>.inr (.inr (.inr (.inr (.inr g))))) with ⟨s1,ed,hr⟩ | ⟨s1,hr⟩
      · rw [hr];simp -implicitDefEqProofs [f1,f2,f3,f4,f5,f6,q,e1,n1,n2,n3,n4,n5,es,s1,ed]
      · rw [hr];simp -implicitDefEqProofs [f1,f2,f3,f4,f5,f6,q,e1,n1,n2,n3,n4,n5,es,s1]
  rw [tB_f fun h=>g (by rcases h with h | h | h | h | h | h <;> first | (exact absurd h.1 k1) | (exact absurd h.1 k3) | (exact absurd h.1 k4) | (exact absurd h.1 k5) | (exact .inl h) | (exact .inr h))]
  rcases k26 with k2 | k6
  · have f2:(t.kind=2)=True:=eq_true k2
    by_cases z:1≤t.size∧t.size≤16
    case neg=>
      rw [inI_f z] at ein
      simp -implicitDefEqProofs [f1,f2,ein]
    rw [inI_t z] at ein
    by_cases p:t.sg=false∧t.bg=false
    case neg=>
      have:(!t.sg && !t.bg)=false:=by cases h1:t.sg <;> cases h2:t.bg <;> simp_all
      rw [this] at e1
      simp -implicitDefEqProofs [f1,f2,ein,e1]
    have:(!t.sg && !t.bg)=true:=by rw [p.1,p.2];rfl
    rw [this] at e1
    by_cases n1:t.names=[]
    case neg=>simp -implicitDefEqProofs [f1,f2,ein,e1,n1,List.length_pos_iff]
    have m1:=eq_true n1
    by_cases n2:t.nums=[]
    case neg=>simp -implicitDefEqProofs [f1,f2,ein,e1,m1,n2,List.length_pos_iff]
    have m2:=eq_true n2
    by_cases n3:t.ms=[]
    case neg=>simp -implicitDefEqProofs [f1,f2,ein,e1,m1,m2,n3,List.length_pos_iff]
    have m3:=eq_true n3
    by_cases n4:t.base=[]
    case neg=>simp -implicitDefEqProofs [f1,f2,ein,e1,m1,m2,m3,n4,List.length_pos_iff]
    have m4:=eq_true n4
    by_cases n5:t.count=0
    case neg=>simp -implicitDefEqProofs [f1,f2,ein,e1,m1,m2,m3,m4,n5,List.length_pos_iff]
    exact absurd (.inl ⟨k2,z.1,z.2,⟨p.1,p.2⟩,⟨n1,n2,n3,n4,n5⟩⟩) g
  · have f6:(t.kind=6)=True:=eq_true k6
    have f2:(t.kind=2)=False:=eq_false (by omega)
    by_cases z:t.size=2
    case neg=>simp -implicitDefEqProofs [f1,f2,f3,f4,f5,f6,z]
    have z':=eq_true z
    by_cases p:t.sg=false∧t.bg=false
    case neg=>
      have:(!t.sg && !t.bg)=false:=by cases h1:t.sg <;> cases h2:t.bg <;> simp_all
      rw [this] at e1
      simp -implicitDefEqProofs [f1,f2,f3,f4,f5,f6,z',e1]
    have:(!t.sg && !t.bg)=true:=by rw [p.1,p.2];rfl
    rw [this] at e1
    by_cases n1:t.names=[]
    case neg=>simp -implicitDefEqProofs [f1,f2,f3,f4,f5,f6,z',e1,n1,List.length_pos_iff]
    have m1:=eq_true n1
    by_cases n2:t.nums=[]
    case neg=>simp -implicitDefEqProofs [f1,f2,f3,f4,f5,f6,z',e1,m1,n2,List.length_pos_iff]
    have m2:=eq_true n2
    by_cases n3:t.ms=[]
    case neg=>simp -implicitDefEqProofs [f1,f2,f3,f4,f5,f6,z',e1,m1,m2,n3,List.length_pos_iff]
    have m3:=eq_true n3
    by_cases n4:t.base=[]
    case neg=>simp -implicitDefEqProofs [f1,f2,f3,f4,f5,f6,z',e1,m1,m2,m3,n4,List.length_pos_iff]
    have m4:=eq_true n4
    by_cases n5:t.count=0
    case neg=>simp -implicitDefEqProofs [f1,f2,f3,f4,f5,f6,z',e1,m1,m2,m3,m4,n5,List.length_pos_iff]
    exact absurd (.inr ⟨k6,z,⟨p.1,p.2⟩,⟨n1,n2,n3,n4,n5⟩⟩) g
end Go.VS
end
