/-
  What the functions of the program answer (first part): bytes, tables, pagers, blocks, headers, heaps.
-/
import Derived.Test.YtmmbgajolgbhnaaGreatDoorB2
import Derived.Test.YtmmbgajolgbhnaaGreatDoorB1
set_option linter.all false
section
namespace Go.VS
structure Dk where
  blocks:List Bs
  pend:List Pg
  fuse:Int
  off:Bool
structure Su where
  blocks:Int
  log:Int
  seq:Int
  turn:Int
structure Pr where
  disk:Dk
  su:Su
  seq:Int
  at_:Int
  logged:List Pg
  dirty:List Pg
def dkC (q:Bool) (d:Dk):List V:=[.view q 1 (d.blocks.map .s),.view q 2 (d.pend.map pgV),.i .i64 d.fuse,.b d.off]
def suC (s:Su):List V:=[.i .i64 s.blocks,.i .i64 s.log,.i .i64 s.seq,.i .i64 s.turn]
def prC (q:Bool) (p:Pr):List V:=[.view q 1 (p.disk.blocks.map .s),.view q 2 (p.disk.pend.map pgV),.i .i64 p.disk.fuse,.b p.disk.off,
  .i .i64 p.su.blocks,.i .i64 p.su.log,.i .i64 p.su.seq,.i .i64 p.su.turn,.i .i64 p.seq,.i .i64 p.at_,.view q 2 (p.logged.map pgV),.view q 2 (p.dirty.map pgV)]
def inI (n lo hi:Int):Bool:=decide (lo≤n∧n≤hi)
def blk (l:Bs):Bool:=decide ((l.length:Int)=64)
def putBad (n:Nat) (p:Pg):Bool:=!(inI p.block 0 (n - 1) && blk p.data)
def Dk.ok (d:Dk):Bool:=
  inI d.blocks.length 16 256 && !decide ((600:Int)<d.pend.length) && inI d.fuse (-1) 100000 && !(d.blocks.any fun b=>!blk b) && !(d.pend.any (putBad d.blocks.length))
def Su.ok (s:Su):Bool:=inI s.blocks 16 256 && (inI s.log 8 64 && decide (s.log≤s.blocks - 4)) && inI s.seq 0 1000000000000 && inI s.turn 0 1000000000000
def anyFrom (f:Nat→Bool):Nat→Nat→Bool
  | _,0=>false
  | i,n+1=>f i || anyFrom f (i+1) n
theorem aex {f:Nat→Bool} {i N:Nat} (h:i<N):anyFrom f i (N - i)=(f i || anyFrom f (i+1) (N - (i+1))):=by
  obtain ⟨k,hk⟩:∃ k,N - i=k+1:=⟨N - i - 1,by omega⟩
  rw [hk,show N - (i+1)=k by omega];rfl
theorem aix {f:Nat→Bool} {i N:Nat} (h:N≤i):anyFrom f i (N - i)=false:=by
  rw [show N - i=0 by omega];rfl
def pgBad (l:List Pg) (i:Nat):Bool:=
  !inI (l.getD i default).block 0 255 || (decide (0<i) && decide ((l.getD i default).block≤(l.getD (i - 1) default).block)) || !blk (l.getD i default).data
def pagesOk (l:List Pg):Bool:=!(anyFrom (pgBad l) 0 l.length) && decide ((l.length:Int)≤256)
def Su.out (s:Su) (p:Pg):Bool:=!inI p.block (2+s.log) (s.blocks - 1)
def Su.holds (s:Su) (l:List Pg):Bool:=!(l.any s.out)
def tblocks (n:Int):Int:=(2*n+63) / 64
def rblocks (n:Int):Int:=1+tblocks n+n
def Su.fits (s:Su) (n:Int):Bool:=decide (n=0) || (decide (n≤60) && decide (rblocks n≤s.log))
def Pr.ok (p:Pr):Bool:=
  p.disk.ok && p.su.ok && decide (p.su.blocks=p.disk.blocks.length) && !(decide ((1:Int)<p.disk.pend.length) && !p.disk.off) && inI p.seq p.su.seq 1000000000000 && inI p.at_ 0 p.su.log &&
  pagesOk p.logged && pagesOk p.dirty && p.su.holds p.logged && p.su.holds p.dirty && p.su.fits p.dirty.length
structure Pr.sm (p:Pr):Prop where
  sb:p.disk.blocks.length≤lim
  sp:p.disk.pend.length≤lim
  sl:p.logged.length≤lim
  sd:p.dirty.length≤lim
section
variable (q:Bool) (d:Dk) (p:Pr)
@[simp] theorem prC_len:(prC q p).length=12:=rfl
@[simp] theorem dkC_len:(dkC q d).length=4:=rfl
@[simp] theorem suC_len (s:Su):(suC s).length=4:=rfl
@[simp] theorem prC_d1:(prC q p).tail=[.view q 2 (p.disk.pend.map pgV),.i .i64 p.disk.fuse,.b p.disk.off,.i .i64 p.su.blocks,.i .i64 p.su.log,.i .i64 p.su.seq,.i .i64 p.su.turn,.i .i64 p.seq,.i .i64 p.at_,.view q 2 (p.logged.map pgV),.view q 2 (p.dirty.map pgV)]:=rfl
@[simp] theorem prC_d2:(prC q p).drop 2=[.i .i64 p.disk.fuse,.b p.disk.off,.i .i64 p.su.blocks,.i .i64 p.su.log,.i .i64 p.su.seq,.i .i64 p.su.turn,.i .i64 p.seq,.i .i64 p.at_,.view q 2 (p.logged.map pgV),.view q 2 (p.dirty.map pgV)]:=rfl
@[simp] theorem prC_d3:(prC q p).drop 3=[.b p.disk.off,.i .i64 p.su.blocks,.i .i64 p.su.log,.i .i64 p.su.seq,.i .i64 p.su.turn,.i .i64 p.seq,.i .i64 p.at_,.view q 2 (p.logged.map pgV),.view q 2 (p.dirty.map pgV)]:=rfl
@[simp] theorem prC_d4:(prC q p).drop 4=[.i .i64 p.su.blocks,.i .i64 p.su.log,.i .i64 p.su.seq,.i .i64 p.su.turn,.i .i64 p.seq,.i .i64 p.at_,.view q 2 (p.logged.map pgV),.view q 2 (p.dirty.map pgV)]:=rfl
@[simp] theorem prC_d5:(prC q p).drop 5=[.i .i64 p.su.log,.i .i64 p.su.seq,.i .i64 p.su.turn,.i .i64 p.seq,.i .i64 p.at_,.view q 2 (p.logged.map pgV),.view q 2 (p.dirty.map pgV)]:=rfl
@[simp] theorem prC_d6:(prC q p).drop 6=[.i .i64 p.su.seq,.i .i64 p.su.turn,.i .i64 p.seq,.i .i64 p.at_,.view q 2 (p.logged.map pgV),.view q 2 (p.dirty.map pgV)]:=rfl
@[simp] theorem prC_d8:(prC q p).drop 8=[.i .i64 p.seq,.i .i64 p.at_,.view q 2 (p.logged.map pgV),.view q 2 (p.dirty.map pgV)]:=rfl
@[simp] theorem prC_d9:(prC q p).drop 9=[.i .i64 p.at_,.view q 2 (p.logged.map pgV),.view q 2 (p.dirty.map pgV)]:=rfl
@[simp] theorem prC_d10:(prC q p).drop 10=[.view q 2 (p.logged.map pgV),.view q 2 (p.dirty.map pgV)]:=rfl
@[simp] theorem prC_d11:(prC q p).drop 11=[.view q 2 (p.dirty.map pgV)]:=rfl
@[simp] theorem prC_t12:(prC q p).take 12=prC q p:=rfl
@[simp] theorem prC_t4:(prC q p).take 4=dkC q p.disk:=rfl
@[simp] theorem prC_t1:(prC q p).take 1=[.view q 1 (p.disk.blocks.map .s)]:=rfl
@[simp] theorem prC_lend (s xp n):(prC q p).map (lend s xp (n+1))=prC q p:=rfl
@[simp] theorem prC_ren (nb ids):(prC q p).map (renL nb ids)=prC q p:=rfl
@[simp] theorem prC_leaf:(prC q p).all isLeaf=true:=rfl
@[simp] theorem dkC_d1:(dkC q d).tail=[.view q 2 (d.pend.map pgV),.i .i64 d.fuse,.b d.off]:=rfl
@[simp] theorem dkC_d2:(dkC q d).drop 2=[.i .i64 d.fuse,.b d.off]:=rfl
@[simp] theorem dkC_d3:(dkC q d).drop 3=[.b d.off]:=rfl
@[simp] theorem dkC_t4:(dkC q d).take 4=dkC q d:=rfl
@[simp] theorem dkC_t1:(dkC q d).take 1=[.view q 1 (d.blocks.map .s)]:=rfl
@[simp] theorem dkC_lend (s xp n):(dkC q d).map (lend s xp (n+1))=dkC q d:=rfl
@[simp] theorem dkC_ren (nb ids):(dkC q d).map (renL nb ids)=dkC q d:=rfl
@[simp] theorem dkC_leaf:(dkC q d).all isLeaf=true:=rfl
variable (s:Su)
@[simp] theorem suC_fold:[.i .i64 s.blocks,.i .i64 s.log,.i .i64 s.seq,.i .i64 s.turn]=suC s:=rfl
@[simp] theorem suC_d1:(suC s).tail=[.i .i64 s.log,.i .i64 s.seq,.i .i64 s.turn]:=rfl
@[simp] theorem suC_d2:(suC s).drop 2=[.i .i64 s.seq,.i .i64 s.turn]:=rfl
@[simp] theorem suC_d3:(suC s).drop 3=[.i .i64 s.turn]:=rfl
@[simp] theorem suC_t4:(suC s).take 4=suC s:=rfl
@[simp] theorem suC_t1:(suC s).take 1=[.i .i64 s.blocks]:=rfl
@[simp] theorem suC_lend (st xp n):(suC s).map (lend st xp (n+1))=suC s:=rfl
@[simp] theorem suC_ren (nb ids):(suC s).map (renL nb ids)=suC s:=rfl
@[simp] theorem suC_leaf:(suC s).all isLeaf=true:=rfl
@[simp] theorem pgV_cells (x:Pg):(pgV x).cells=[.i .i64 x.block,.s x.data]:=rfl
end
end Go.VS
end
section
namespace Go.VS
theorem aat (n lo hi:Int) (K:Out→Prop):Call prog 50 ⟨[.i .i64 n,.i .i64 lo,.i .i64 hi],[],[]⟩ K=K (.b (inI n lo hi),[],[]):=by
  refine Zc (f:=50) rfl rfl (by decide) ?_
  by_cases h:lo≤n <;> simp -implicitDefEqProofs [h,inI]
theorem aee (n lo hi:Int) (K:Out→Prop):Call prog 39 ⟨[.i .i64 n,.i .i64 lo,.i .i64 hi],[],[]⟩ K=K (.b (inI n lo hi),[],[]):=by
  refine Zc (f:=39) rfl rfl (by decide) ?_
  by_cases h:lo≤n <;> simp -implicitDefEqProofs [h,inI]
end Go.VS
end
section
namespace Go.VS
theorem Su.bd {s:Su} (h:s.ok=true):(16≤s.blocks∧s.blocks≤256)∧(8≤s.log∧s.log≤64)∧s.log≤s.blocks - 4∧(0≤s.seq∧s.seq≤1000000000000)∧(0≤s.turn∧s.turn≤1000000000000):=by
  simp only [Su.ok,inI,Bool.and_eq_true,decide_eq_true_eq] at h
  omega
end Go.VS
end
section
namespace Go.VS
end Go.VS
end
section
namespace Go.VS
end Go.VS
end
section
namespace Go.VS
structure Turn {α:Type} (cm:α→Int) (xs:List α) (t:Nat):Prop where
  le:t≤xs.length
  lo:∀ j (h:j<xs.length),j<t→cm xs[j]<0
  hi:∀ j (h:j<xs.length),t≤j→0≤cm xs[j]
end Go.VS
end
section
namespace Go.VS
section
variable {p:Prog} {is:List I} {s:St} {K:St→Prop}
@[simp] theorem WI_mkm (d) (t:List V) (m:List (List V)) (r:List Rw):WI p (.mkm d :: is) ⟨t,m,r⟩ K=WI p is ⟨t.set d (.mr r.length),m,r++[.row 0 false []]⟩ K:=by rw [aac rfl];exact akv _ _
@[simp] theorem WI_mup (str m k v):WI p (.mup str m k v :: is) s K=Do (mupV s str (s.ev m) (s.ev k) (s.ev v)) (fun s'=>WI p is s' K):=aac rfl _ _ _
@[simp] theorem WI_mlk (d str zv m k ok):WI p (.mlk d str zv m k ok :: is) s K=DoV (mlkV s str zv (s.ev m) (s.ev k) ok) (fun v=>WI p is (s.put d v) K):=by rw [aac rfl];exact aas _ _ _
@[simp] theorem WI_clr (d x z el):WI p (.clr d x z el :: is) s K=Do (clrV s (s.ev x) z el) (fun s'=>WI p is (s'.putO d (.tup [])) K):=by
  rw [aac rfl]
  apply propext
  simp only [evI]
  constructor
  · rintro ⟨s',h,hk⟩
    obtain ⟨s1,h1,rfl⟩:=Option.map_eq_some_iff.1 h
    exact ⟨s1,h1,hk⟩
  · rintro ⟨s1,h1,hk⟩
    exact ⟨_,by rw [h1];rfl,hk⟩
@[simp] theorem WI_cpy (d x y):WI p (.cpy d x y :: is) s K=Do ((cpyV s (s.ev x) (s.ev y)).map fun q=>q.1.putO d (.i .i64 (q.2:Int))) (fun s'=>WI p is s' K):=aac rfl _ _ _
end
@[simp] theorem cells_mr (id):V.cells (.mr id)=[.mr id]:=rfl
@[simp] theorem leaves_mr (id):V.leaves (.mr id)=[.mr id]:=rfl
@[simp] theorem mapL_mr (f:V→V) (id):V.mapL f (.mr id)=f (.mr id):=rfl
@[simp] theorem impL_mr (bl base id):impL bl base (.mr id)=.mr (base+id):=rfl
@[simp] theorem renL_mr (nb ids id):renL nb ids (.mr id)=if id ∈ ids then .mr (ids.idxOf id) else .no:=rfl
@[simp] theorem ridL_mr (r ids id):ridL r ids (.mr id)=if id ∈ ids then ids else match r.getD id .gone with | .row _ _ _=>ids++[id] | .gone=>ids:=rfl
@[simp] theorem okRet_mr (nb id):okRet nb (.mr id)=true:=rfl
@[simp] theorem isLent_mr (id):isLent (.mr id)=false:=rfl
@[simp] theorem isLeaf_mr (id):isLeaf (.mr id)=true:=rfl
@[simp] theorem lend_mr (s xp n id):lend s xp n (.mr id)=.no:=by cases n <;> rfl
@[simp] theorem expL_mr (s k id xp):expL s k (.mr id) xp=match s.r.getD id .gone with
    | .row _ _ _=>if id ∈ xp.rw then some (.mr (xp.rw.idxOf id),xp) else some (.mr xp.rw.length,{ xp with rw:=xp.rw++[id] })
    | .gone=>none:=rfl
@[simp] theorem expV_mr (s k id xp):expV s k (.mr id) xp=expL s k (.mr id) xp:=rfl
@[simp] theorem clr_nil (s z el):clrV s .nil z el=some s:=rfl
@[simp] theorem clr_sl (t m r id lo n tg z el):clrV ⟨t,m,r⟩ (.sl id lo n tg) z el=match r.getD id .gone with
    | .row z' false xs=>if z'=z then some ⟨t,m,r.set id (.row z' false (xs.take lo++(List.replicate n el++xs.drop (lo+n))))⟩ else none
    | _=>none:=rfl
@[simp] theorem cpy_nil (s l):cpyV s .nil (.s l)=some (s,0):=rfl
@[simp] theorem cpy_sl (t m r id lo n tg l):cpyV ⟨t,m,r⟩ (.sl id lo n tg) (.s l)=match r.getD id .gone with
    | .row z' false xs=>if z'=1 then some (⟨t,m,r.set id (.row z' false (xs.take lo++(bytesV (l.take n)++xs.drop (lo+(l.take n).length))))⟩,(l.take n).length) else none
    | _=>none:=rfl
section
variable {α:Type}
end
end Go.VS
end
section
namespace Go.VS
theorem aej {f:Nat→Bool}:∀ (n i:Nat),anyFrom f i n=false→∀ j,i≤j→j<i+n→f j=false
  | 0,i,_,j,h1,h2=>by omega
  | n+1,i,h,j,h1,h2=>by
    simp only [anyFrom,Bool.or_eq_false_iff] at h
    by_cases e:j=i
    · subst e;exact h.1
    · exact aej n (i+1) h.2 j (by omega) (by omega)
def Sorted (l:List Pg):Prop:=∀ i j (hi:i<l.length) (hj:j<l.length),i<j→l[i].block<l[j].block
theorem ahn {l:List Pg} (h:pagesOk l=true):l.length≤256∧Sorted l∧∀ x,x ∈ l→(0≤x.block∧x.block≤255)∧x.data.length=64:=by
  simp only [pagesOk,Bool.and_eq_true,Bool.not_eq_true',decide_eq_true_eq] at h
  have hb:∀ i (hi:i<l.length),pgBad l i=false:=fun i hi=>aej _ _ h.1 i (Nat.zero_le _) (by omega)
  have hg:∀ i (hi:i<l.length),((0≤l[i].block∧l[i].block≤255)∧l[i].data.length=64)∧∀ j,i=j+1→∀ hj:j<l.length,l[j].block<l[i].block:=by
    intro i hi
    have:=hb i hi
    have e:l.getD i default=l[i]:=by simp [hi]
    simp only [pgBad,Bool.or_eq_false_iff,e,inI,blk,Bool.not_eq_false',decide_eq_true_eq] at this
    refine ⟨⟨this.1.1,by have:=this.2;omega⟩,?_⟩
    rintro j rfl hj
    have h2:=this.1.2
    have e2:l.getD (j+1 - 1) default=l[j]:=by simp [hj]
    rw [e2] at h2
    simp only [Bool.and_eq_false_iff,decide_eq_false_iff_not] at h2
    omega
  refine ⟨by omega,?_,?_⟩
  · intro i j hi hj hij
    induction j with
    | zero=>omega
    | succ j ih=>
      have h1:=(hg (j+1) hj).2 j rfl (by omega)
      by_cases e:i=j
      · subst e;exact h1
      · have:=ih (by omega) (by omega);omega
  · intro x hx
    obtain ⟨i,hi,rfl⟩:=List.getElem_of_mem hx
    exact (hg i hi).1
def cmpI (x y:Int):Int:=if x<y then -1 else if y<x then 1 else 0
def pgAt (l:List Pg) (k:Int):Option Pg:=l.find? fun p=>p.block == k
def lowI (l:List Pg) (k:Int):Nat:=(l.takeWhile fun p=>decide (p.block<k)).length
theorem ary (l:List Pg) (k:Int):lowI l k≤l.length:=by
  unfold lowI
  exact (List.takeWhile_prefix _).length_le
theorem ahj:∀ (l:List Pg) (k:Int),(∀ j (h:j<l.length),j<lowI l k→l[j].block<k)∧∀ h:lowI l k<l.length,¬ l[lowI l k].block<k
  | [],k=>⟨fun j h=>by simp at h,fun h=>by simp at h⟩
  | x :: l,k=>by
    obtain ⟨h1,h2⟩:=ahj l k
    by_cases hx:x.block<k
    · have e:lowI (x :: l) k=lowI l k+1:=by simp [lowI,List.takeWhile_cons,hx]
      rw [e]
      refine ⟨fun j h hj=>?_,fun h=>?_⟩
      · cases j with
        | zero=>exact hx
        | succ j=>exact h1 j (by simpa using h) (by omega)
      · exact h2 (by simpa using h)
    · have e:lowI (x :: l) k=0:=by simp [lowI,List.takeWhile_cons,hx]
      rw [e]
      exact ⟨fun j h hj=>by omega,fun h=>hx⟩
theorem at3 {l:List Pg} (hs:Sorted l) (k:Int):Turn (fun p:Pg=>cmpI p.block k) l (lowI l k):=by
  obtain ⟨h1,h2⟩:=ahj l k
  refine ⟨ary l k,fun j h hj=>?_,fun j h hj=>?_⟩
  · have:=h1 j h hj
    simp [cmpI,this]
  · have hlt:lowI l k<l.length:=by omega
    have h3:=h2 hlt
    have:¬ l[j].block<k:=by
      by_cases e:j=lowI l k
      · subst e;exact h3
      · have:=hs _ _ hlt h (by omega);omega
    unfold cmpI
    rw [if_neg this]
    split <;> omega
theorem ap3 {l:List Pg} (hs:Sorted l) (k:Int):pgAt l k=match l[lowI l k]? with | some x=>if cmpI x.block k=0 then some x else none | none=>none:=by
  have T:=at3 hs k
  unfold pgAt
  cases hx:l[lowI l k]? with
  | none=>
    have hlen:=List.getElem?_eq_none_iff.1 hx
    simp only
    rw [List.find?_eq_none]
    intro x hx2
    obtain ⟨i,hi,rfl⟩:=List.getElem_of_mem hx2
    have:=T.lo i hi (by omega)
    unfold cmpI at this
    simp only [beq_iff_eq]
    intro e
    rw [e] at this
    simp at this
  | some x=>
    obtain ⟨hlt,rfl⟩:=List.getElem?_eq_some_iff.1 hx
    simp only
    split
    · rename_i h0
      have hk:l[lowI l k].block=k:=by
        unfold cmpI at h0
        split at h0
        · cases h0
        · split at h0
          · cases h0
          · omega
      rw [List.find?_eq_some_iff_append]
      refine ⟨by simpa using hk,l.take (lowI l k),l.drop (lowI l k+1),?_,?_⟩
      · rw [← List.drop_eq_getElem_cons hlt];exact (List.take_append_drop _ _).symm
      · intro a ha
        obtain ⟨i,hi,rfl⟩:=List.getElem_of_mem ha
        rw [List.getElem_take]
        rw [List.length_take] at hi
        have:=hs i (lowI l k) (by omega) hlt (by omega)
        simp only [Bool.not_eq_true',beq_eq_false_iff_ne,ne_eq]
        omega
    · rename_i h0
      rw [List.find?_eq_none]
      intro x hx2
      obtain ⟨i,hi,rfl⟩:=List.getElem_of_mem hx2
      simp only [beq_iff_eq]
      intro e
      by_cases hl:i<lowI l k
      · have:=T.lo i hi hl
        unfold cmpI at this
        rw [e] at this
        simp at this
      · have h3:=T.hi _ hlt (Nat.le_refl _)
        have hne:l[lowI l k].block≠k:=by
          intro e2
          exact h0 (by simp [cmpI,e2])
        have:k<l[lowI l k].block:=by
          unfold cmpI at h3
          split at h3
          · omega
          · omega
        by_cases e3:i=lowI l k
        · subst e3;exact hne e
        · have:=hs _ _ hlt hi (by omega)
          omega
def Pr.com (p:Pr) (k:Int):Bs:=
  match pgAt p.logged k with
  | some x=>x.data
  | none=>diskRead p.disk.blocks p.disk.pend k
def Pr.get (p:Pr) (k:Int):Bs:=
  match pgAt p.dirty k with
  | some x=>x.data
  | none=>p.com k
structure Pr.Ok (p:Pr):Prop where
  nb:16≤p.disk.blocks.length∧p.disk.blocks.length≤256
  np:p.disk.pend.length≤600
  bl:∀ b,b ∈ p.disk.blocks→b.length=64
  pd:∀ x,x ∈ p.disk.pend→(0≤x.block∧x.block<p.disk.blocks.length)∧x.data.length=64
  su:p.su.ok=true
  sb:p.su.blocks=p.disk.blocks.length
  lg:p.logged.length≤256∧Sorted p.logged∧∀ x,x ∈ p.logged→(0≤x.block∧x.block≤255)∧x.data.length=64
  dt:p.dirty.length≤256∧Sorted p.dirty∧∀ x,x ∈ p.dirty→(0≤x.block∧x.block≤255)∧x.data.length=64
  sm:p.sm
theorem Pr.ok_facts {p:Pr} (h:p.ok=true):p.Ok:=by
  simp only [Pr.ok,Dk.ok,Bool.and_eq_true,Bool.not_eq_true',decide_eq_true_eq,decide_eq_false_iff_not,inI] at h
  obtain ⟨⟨⟨⟨⟨⟨⟨⟨⟨⟨⟨⟨⟨⟨h1,h2⟩,h3⟩,h4⟩,h5⟩,h6⟩,h7⟩,h8⟩,h9⟩,h10⟩,h11⟩,h12⟩,h13⟩,h14⟩,h15⟩:=h
  have hl:=ahn h11
  have hd:=ahn h12
  have e1:p.disk.blocks.length≤256:=by omega
  have e2:p.disk.pend.length≤600:=by omega
  refine ⟨by omega,e2,?_,?_,h6,h7,hl,hd,⟨by unfold lim;omega,by unfold lim;omega,by unfold lim;omega,by unfold lim;omega⟩⟩
  · intro b hb
    rw [List.any_eq_false] at h4
    have:=h4 b hb
    simp only [blk,Bool.not_eq_true',Bool.not_eq_false',decide_eq_true_eq,Bool.not_eq_true,Bool.not_eq_false,decide_eq_false_iff_not,Decidable.not_not] at this
    omega
  · intro x hx
    rw [List.any_eq_false] at h5
    have:=h5 x hx
    simp only [putBad,blk,inI,Bool.not_eq_true',Bool.not_eq_false',Bool.and_eq_true,decide_eq_true_eq,Bool.not_eq_true,Bool.not_eq_false] at this
    omega
theorem Pr.Ok.sub {p:Pr} (h:p.Ok):(8≤p.su.log∧p.su.log≤64)∧p.su.log≤p.su.blocks - 4∧16≤p.su.blocks∧p.su.blocks≤256:=by
  have hs:=h.su
  simp only [Su.ok,inI,Bool.and_eq_true,decide_eq_true_eq] at hs
  omega
theorem amn {p:Pr} (h:p.Ok) (k:Int) (hk:0≤k∧k<p.disk.blocks.length):(diskRead p.disk.blocks p.disk.pend k).length=64:=by
  unfold diskRead lastOf
  cases e:p.disk.pend.reverse.find? (fun x=>x.block == k) with
  | none=>
    simp only [Option.map_none,Option.getD_none]
    have hlt:k.toNat<p.disk.blocks.length:=by omega
    rw [List.getD_eq_getElem?_getD,List.getElem?_eq_getElem hlt]
    exact h.bl _ (List.getElem_mem _)
  | some x=>
    have:=List.mem_of_find?_eq_some e
    exact (h.pd x (by simpa using this)).2
theorem Pr.get_len {p:Pr} (h:p.Ok) (k:Int) (hk:0≤k∧k<p.disk.blocks.length):(p.get k).length=64:=by
  unfold Pr.get Pr.com pgAt
  cases e:p.dirty.find? (fun x=>x.block == k) with
  | some x=>exact (h.dt.2.2 x (List.mem_of_find?_eq_some e)).2
  | none=>
    simp only
    cases e2:p.logged.find? (fun x=>x.block == k) with
    | some x=>exact (h.lg.2.2 x (List.mem_of_find?_eq_some e2)).2
    | none=>exact amn h k hk
def leI:Bs→Int
  | []=>0
  | b :: l=>(b.toNat:Int)+256*leI l
theorem leI_bd:∀ l:Bs,0≤leI l∧leI l<256 ^ l.length
  | []=>by simp [leI]
  | b :: l=>by
    have ih:=leI_bd l
    have hb:=b.toNat_lt
    rw [leI,List.length_cons,Int.pow_succ]
    omega
theorem aik:∀ (l:Bs) (b:UInt8),leI (l++[b])=leI l+b.toNat * 256 ^ l.length
  | [],b=>by simp [leI]
  | a :: l,b=>by
    rw [List.cons_append,leI,aik l b,leI,List.length_cons,Int.pow_succ]
    have:(256:Int)*(leI l+b.toNat * 256 ^ l.length)=256*leI l+b.toNat * (256 ^ l.length*256):=by
      rw [Int.mul_add,Int.mul_left_comm,Int.mul_comm 256 (256 ^ l.length)]
    omega
theorem or_add {m:Nat} {x:Int} {b:Nat} (hx:0≤x) (hx2:x<2 ^ m) (hb:b<256) (hm:m+8≤64):borI .u64 x (b*2 ^ m)=x+b*2 ^ m:=by
  obtain ⟨n,rfl⟩:∃ n:Nat,x=n:=⟨x.toNat,by omega⟩
  have hn:n<2 ^ m:=by exact_mod_cast hx2
  have h8:b*2 ^ m<2 ^ 64:=by
    have:b*2 ^ m<256*2 ^ m:=Nat.mul_lt_mul_of_pos_right hb (Nat.two_pow_pos m)
    have e:256*2 ^ m=2 ^ (m+8):=by rw [Nat.pow_add,Nat.mul_comm]
    have:=Nat.pow_le_pow_right (n:=2) (by omega) hm
    omega
  have hsum:n+b*2 ^ m<2 ^ 64:=by
    have h1:n+b*2 ^ m<(b+1)*2 ^ m:=by rw [Nat.add_mul,Nat.one_mul];omega
    have h2:(b+1)*2 ^ m≤256*2 ^ m:=Nat.mul_le_mul_right _ hb
    have e:256*2 ^ m=2 ^ (m+8):=by rw [Nat.pow_add,Nat.mul_comm]
    have:=Nat.pow_le_pow_right (n:=2) (by omega) hm
    omega
  have hor:n ||| b*2 ^ m=n+b*2 ^ m:=by
    have:=Nat.two_pow_add_eq_or_of_lt hn b
    rw [Nat.or_comm,Nat.mul_comm b]
    omega
  have e1:(BitVec.ofInt 64 (n:Int)).toNat=n:=by
    rw [BitVec.toNat_ofInt]
    have:n<2 ^ 64:=by omega
    omega
  have e2:(BitVec.ofInt 64 ((b:Int)*2 ^ m)).toNat=b*2 ^ m:=by
    have e:(b:Int)*2 ^ m=((b*2 ^ m:Nat):Int):=by push_cast;rfl
    rw [e,BitVec.toNat_ofInt]
    omega
  have e3:(BitVec.ofInt IntKind.u64.bits (n:Int) ||| BitVec.ofInt IntKind.u64.bits ((b:Int)*2 ^ m)).toNat=n+b*2 ^ m:=by
    rw [BitVec.toNat_or,show IntKind.u64.bits=64 from rfl,e1,e2,hor]
  unfold borI
  rw [e3]
  have e:(b:Int)*2 ^ m=((b*2 ^ m:Nat):Int):=by push_cast;rfl
  rw [e,wrap_u64 (by omega) (by omega)]
  push_cast;rfl
def bitE (area:Bs) (k:Int):Bool:=decide (bandI .u8 (shrI .u8 ((area.getD (4+k / 8).toNat 0).toNat:Int) (k % 8)) 1=1)
end Go.VS
namespace Go.VS
theorem avf {l:Bs} {i:Nat} (h:i<l.length) (h8:l.length≤8):borI .u64 (leI (l.take i)) (shlI .u64 (l[i].toNat:Int) (8*(i:Int)))=leI (l.take (i+1)):=by
  have hb:=leI_bd (l.take i)
  rw [List.length_take,Nat.min_eq_left (by omega)] at hb
  have e256:(256:Int) ^ i=2 ^ (8*i):=by rw [Int.pow_mul];rfl
  have hbyte:=l[i].toNat_lt
  have e1:shlI .u64 (l[i].toNat:Int) (8*(i:Int))=(l[i].toNat:Int)*2 ^ (8*i):=by
    unfold shlI
    rw [show (8*(i:Int)).toNat=8*i by omega,show min (8*i) IntKind.u64.bits=8*i by show min (8*i) 64=8*i;omega]
    have h0:l[i].toNat * 2 ^ (8*i)<2 ^ 64:=by
      have h1:l[i].toNat * 2 ^ (8*i)<256*2 ^ (8*i):=Nat.mul_lt_mul_of_pos_right hbyte (Nat.two_pow_pos _)
      have e:256*2 ^ (8*i)=2 ^ (8*i+8):=by rw [Nat.pow_add,Nat.mul_comm]
      have:=Nat.pow_le_pow_right (n:=2) (by omega) (show 8*i+8≤64 by omega)
      omega
    have e:(l[i].toNat:Int)*2 ^ (8*i)=((l[i].toNat * 2 ^ (8*i):Nat):Int):=by push_cast;rfl
    rw [e]
    exact wrap_u64 (by omega) (by omega)
  rw [e1,or_add hb.1 (by rw [← e256];exact hb.2) hbyte (by omega),← List.take_append_getElem h,aik,List.length_take,Nat.min_eq_left (by omega),e256]
theorem alo {l:Bs} {i:Nat} (h:i<l.length):leI (l.drop i)=l[i].toNat+256*leI (l.drop (i+1)):=by
  rw [List.drop_eq_getElem_cons h,leI]
theorem ao5 {i:Nat} (h:i≤7):(256:Int) ^ i≤72057594037927936:=by
  have h1:(256:Nat) ^ i≤256 ^ 7:=Nat.pow_le_pow_right (by omega) h
  have h2:(256:Nat) ^ 7=72057594037927936:=rfl
  have h3:((256 ^ i:Nat):Int)=(256:Int) ^ i:=Int.natCast_pow 256 i
  rw [h2] at h1
  generalize (256:Nat) ^ i=x at h1 h3
  omega
def Pr.area (p:Pr):Bs:=p.get (2+p.su.log)
def Pr.data (p:Pr) (k:Int):Bool:=decide (2+p.su.log<k) && decide (k≤p.su.blocks - 1)
def Pr.alloc (p:Pr) (k:Int):Bool:=p.data k && bitE p.area k
theorem Pr.area_len {p:Pr} (h:p.Ok):p.area.length=64:=by
  have b:=h.sub
  have hb:=h.sb
  exact p.get_len h _ (by omega)
end Go.VS
namespace Go.VS
def dTake (n:Nat) (s:Bs) (bad:Bool):Bs × Bs × Bool:=if n≤s.length then (s.take n,s.drop n,bad) else ([],s,true)
end Go.VS
end
section
namespace Go.VS
end Go.VS
end
section
namespace Go.VS
theorem afc (l:Bs) (hl:l.length≤8) (K:Out→Prop):Call prog 95 ⟨[.s l],[],[]⟩ K=K (.i .u64 (leI l),[],[]):=by
  refine Zc (f:=95) rfl rfl (by decide) ?_
  simp -implicitDefEqProofs
  refine WL_for (fun i=>⟨sp 21 [(0,.s l),(3,.i .u64 (leI (l.take i))),(6,.i .i64 l.length),(7,.i .i64 i)],[],[]⟩) l.length (fun _=>True) _ (by simp -implicitDefEqProofs [leI]) trivial ?_
  intro i hi _
  by_cases hlt:i<l.length
  · have hw:=wrap_i64 (n:=(i:Int)+1) (by omega) (by omega)
    have hw8:=wrap_i64 (n:=8*(i:Int)) (by omega) (by omega)
    have hb:=l[i].toNat_lt
    have hb64:IntKind.u64.wrap (l[i].toNat:Int)=l[i].toNat:=wrap_u64 (by omega) (by omega)
    have h8:¬ 8*(i:Int)<0:=by omega
    have hs:=avf hlt hl
    simp -implicitDefEqProofs [hlt,hw,hw8,hb64,h8,hs,Next]
  · have:i=l.length:=by omega
    subst this
    simp -implicitDefEqProofs
theorem Pr.data_bd {p:Pr} (h:p.Ok) {k:Int} (hk:p.data k=true):0≤k∧k≤255∧k<p.disk.blocks.length:=by
  have b:=h.sub
  have:=h.sb
  simp only [Pr.data,Bool.and_eq_true,decide_eq_true_eq] at hk
  omega
end Go.VS
end
section
namespace Go.VS
structure Ms where
  kind:Int
  flags:Int
  data:Bs
  deriving Inhabited,DecidableEq
structure Hd where
  kind:Int
  refs:Int
  msgs:List Ms
def msV (m:Ms):V:=.agg [.i .i64 m.kind,.i .i64 m.flags,.s m.data]
@[simp] theorem msV_cells (m:Ms):(msV m).cells=[.i .i64 m.kind,.i .i64 m.flags,.s m.data]:=rfl
def msBad (m:Ms):Bool:=!(inI m.kind 1 9 && inI m.flags 0 255 && decide ((m.data.length:Int)≤200))
def Hd.ok (h:Hd):Bool:=inI h.kind 1 3 && inI h.refs 0 1000 && decide ((h.msgs.length:Int)≤24) && !(h.msgs.any msBad)
def rdMs (s:Bs) (bad:Bool):Ms × Bs × Bool:=
  let a:=dTake 1 s bad
  let b:=dTake 1 a.2.1 a.2.2
  let c:=dTake 1 b.2.1 b.2.2
  let d:=dTake (leI c.1).toNat c.2.1 c.2.2
  (⟨leI a.1,leI b.1,d.1⟩,d.2.1,d.2.2)
def rdMsgs:Nat→Bs→Bool→List Ms→List Ms × Bs × Bool
  | 0,s,bad,ms=>(ms,s,bad)
  | n+1,s,bad,ms=>if bad=true then (ms,s,bad) else rdMsgs n (rdMs s bad).2.1 (rdMs s bad).2.2 (ms++[(rdMs s bad).1])
def decHdr (s:Bs):Option Hd:=
  if s.length<4 then none else
  let x:=rdMsgs (leI ((s.drop 3).take 1)).toNat (s.drop 4) false []
  let h:Hd:=⟨leI (s.take 1),leI ((s.drop 1).take 2),x.1⟩
  if x.2.2=false∧x.2.1=[]∧h.ok=true then some h else none
end Go.VS
namespace Go.VS
end Go.VS
namespace Go.VS
end Go.VS
namespace Go.VS
def trimR (c:UInt8) (s:Bs):Bs:=(s.reverse.dropWhile (· == c)).reverse
theorem agv {α:Type} (p:α→Bool):∀ l:List α,l.dropWhile p=[] ↔ ∀ x,x ∈ l→p x=true
  | []=>by simp
  | a :: l=>by
    rw [List.dropWhile_cons]
    cases h:p a
    · simp [h]
    · simp [h,agv p l]
theorem asv (s:Bs):trimR 0 s=[] ↔ s=List.replicate s.length 0:=by
  unfold trimR
  rw [List.reverse_eq_nil_iff,agv,List.eq_replicate_iff]
  simp only [List.mem_reverse,beq_iff_eq,true_and]
def chN (pg:Bs):Int:=leI ((pg.drop 2).take 2)
def chX (pg:Bs):Int:=leI (pg.take 2)
def chainB (pg:Bs):Option (Int × Bs):=
  if inI (chN pg) 1 60=true∧trimR 0 (pg.drop (4+(chN pg).toNat))=[]∧(chN pg=60∨chX pg=0) then some (chX pg,(pg.drop 4).take (chN pg).toNat) else none
def chainF (p:Pr):Nat→Int→List Int→Bs→Option (List Int × Bs)
  | 0,_,_,_=>none
  | f+1,k,bl,fm=>if p.alloc k=true∧¬ k ∈ bl then match chainB (p.get k) with
      | none=>none
      | some x=>if x.1=0 then some (bl++[k],fm++x.2) else chainF p f x.1 (bl++[k]) (fm++x.2)
    else none
theorem chX_bd {pg:Bs}:0≤chX pg∧chX pg≤65535:=by
  have:=leI_bd (pg.take 2)
  have h:(pg.take 2).length≤2:=by rw [List.length_take];omega
  have h2:(256:Int) ^ (pg.take 2).length≤65536:=by
    generalize (pg.take 2).length=n at h
    match n,h with
    | 0,_=>decide
    | 1,_=>decide
    | 2,_=>decide
  unfold chX
  omega
theorem aqj {pg:Bs} {x:Int × Bs} (h:chainB pg=some x):x.2.length≤60∧0≤x.1∧x.1≤65535:=by
  unfold chainB at h
  split at h
  · rename_i c
    cases h
    have:=chX_bd (pg:=pg)
    simp only [inI,decide_eq_true_eq] at c
    refine ⟨?_,this⟩
    rw [List.length_take]
    omega
  · cases h
theorem apz:∀ (n:Nat) (l:List Int),l.Nodup→(∀ x,x ∈ l→0≤x∧x<n)→l.length≤n
  | 0,l,_,h=>by
    cases l with
    | nil=>simp
    | cons a l=>have:=h a (by simp);omega
  | n+1,l,hn,h=>by
    have h1:=apz n (l.erase (n:Int)) (hn.erase _) fun x hx=>by
      have:=(List.Nodup.mem_erase_iff hn).1 hx
      have h2:=h x this.2
      have h3:x≠(n:Int):=this.1
      omega
    by_cases hm:(n:Int) ∈ l
    · rw [List.length_erase_of_mem hm] at h1;omega
    · rw [List.erase_of_not_mem hm] at h1;omega
theorem akp:∀ n:Nat,vbytes (List.replicate n (V.i .u8 0))=some (List.replicate n 0)
  | 0=>rfl
  | n+1=>by rw [List.replicate_succ,vbytes,akp n];rfl
end Go.VS
namespace Go.VS
def Pr.hdr (p:Pr) (k:Int):Option Hd:=
  match chainF p 257 k [] [] with
  | none=>none
  | some x=>decHdr x.2
def isK (k:Int) (m:Ms):Bool:=decide (m.kind=k)
def onlyX (ms:List Ms) (k:Int):Int:=if idxF (isK k) ms 0<0∨(ms.getD (idxF (isK k) ms 0).toNat default).flags≠0 then 0 else idxF (isK k) ms 0
def onlyB (ms:List Ms) (k:Int):Bool:=if idxF (isK k) ms 0<0∨(ms.getD (idxF (isK k) ms 0).toNat default).flags≠0 then false else !((ms.drop ((idxF (isK k) ms 0).toNat+1)).any (isK k))
end Go.VS
namespace Go.VS
def isLet (c:UInt8):Bool:=(decide ((65:Int)≤c.toNat) && decide ((c.toNat:Int)≤90)) || (decide ((97:Int)≤c.toNat) && decide ((c.toNat:Int)≤122))
def isDig (c:UInt8):Bool:=decide ((48:Int)≤c.toNat) && decide ((c.toNat:Int)≤57)
def isRest (c:UInt8):Bool:=isLet c || isDig c || decide ((c.toNat:Int)=95)
def chBad (s:Bs) (i:Nat):Bool:=if i=0 then !isLet (s.getD 0 0) else !isRest (s.getD i 0)
def isName (s:Bs):Bool:=!(anyFrom (chBad s) 0 s.length) && (decide ((1:Int)≤s.length) && decide ((s.length:Int)≤12))
def heapBad (s:Bs):Bool:=decide (s≠[]) && !isName s
def heapOk (l:List Bs):Bool:=decide ((l.length:Int)≤30) && (decide (l=[]) || decide (l.getD (l.length - 1) []≠[])) && !(l.any heapBad)
def heapUsed (l:List Bs) (k:Int):Bool:=inI k 0 (l.length - 1) && decide (l.getD k.toNat []≠[])
end Go.VS
namespace Go.VS
def rdNm (s:Bs) (bad:Bool):Bs × Bs × Bool:=
  let c:=dTake 1 s bad
  dTake (leI c.1).toNat c.2.1 c.2.2
def rdNms:Nat→Bs→Bool→List Bs→List Bs × Bs × Bool
  | 0,s,bad,ls=>(ls,s,bad)
  | n+1,s,bad,ls=>if bad=true then (ls,s,bad) else rdNms n (rdNm s bad).2.1 (rdNm s bad).2.2 (ls++[(rdNm s bad).1])
def decHeap (s:Bs):Option (List Bs):=
  let c:=dTake 1 s false
  let x:=rdNms (leI c.1).toNat c.2.1 c.2.2 []
  if x.2.2=false∧x.2.1=[]∧heapOk x.1=true then some x.1 else none
end Go.VS
end
section
namespace Go.VS
theorem ao9 (s:Bs) (n:Nat) (hs:s.length≤lim) (hn:n≤4294967296) (K:Out→Prop):Call prog 170 ⟨[.s s,.i .i64 0,.i .i64 n],[],[]⟩ K=K (.tup [.s (dTake n s false).1,.b (!(dTake n s false).2.2)],[],[]):=by
  refine Zc (f:=170) rfl rfl (by decide) ?_
  unfold lim at hs
  have w:=wrap_i64 (n:=(s.length:Int) - n) (by omega) (by omega)
  have w2:=wrap_i64 (n:=(n:Int)) (by omega) (by omega)
  have c0:¬ (n:Int)<0:=by omega
  unfold dTake
  by_cases h:n≤s.length
  · have c:inI 0 0 ((s.length:Int) - n)=true:=by simp [inI];omega
    simp -implicitDefEqProofs [c0,w,w2,aat,c,h]
  · have c:inI 0 0 ((s.length:Int) - n)=false:=by simp [inI];omega
    simp -implicitDefEqProofs [c0,w,aat,c,h]
theorem ahu (s:Bs) (c:UInt8) (hs:s.length≤lim) (K:Out→Prop):Call prog 173 ⟨[.s s,.i .u8 c.toNat],[],[]⟩ K=K (.s (trimR c s),[],[]):=by
  refine Zc (f:=173) rfl rfl (by decide) ?_
  unfold lim at hs
  simp -implicitDefEqProofs
  refine WL_st (α:=Bs) (fun x=>⟨sp 23 [(0,.s x),(1,.i .u8 c.toNat)],[],[]⟩) (fun x=>x.length) (fun x=>x.length≤1073741824∧trimR c s=trimR c x) s _ (by simp -implicitDefEqProofs) ⟨hs,rfl⟩ ?_
  rintro x ⟨hx,he⟩
  rw [he]
  rcases List.eq_nil_or_concat x with rfl | ⟨l,b,rfl⟩
  · simp -implicitDefEqProofs [trimR]
  · have hlen:(l.concat b).length=l.length+1:=by simp
    rw [hlen] at hx
    have w:=wrap_i64 (n:=(l.length:Int)) (by omega) (by omega)
    have c1:(0:Int)<(l.length:Int)+1:=by omega
    have c2:(l.length:Int)<(l.length:Int)+1:=by omega
    have c3:(l.length:Int)≤(l.length:Int)+1:=by omega
    have e1:(l++[b])[l.length]?.getD 0=b:=by simp
    by_cases hb:b=c
    · subst hb
      simp -implicitDefEqProofs [w,c1,c2,c3,e1]
      exact NextS.mk l ⟨by omega,by simp [trimR]⟩ (by simp) rfl
    · have hb':¬ (b.toNat:Int)=c.toNat:=by
        intro h;exact hb (UInt8.toNat_inj.1 (by omega))
      have hb'':¬ b.toNat=c.toNat:=fun h=>hb (UInt8.toNat_inj.1 h)
      simp -implicitDefEqProofs [w,c1,c2,e1,hb',hb'',hb,trimR]
theorem afo (s:Bs) (hs:s.length≤lim) (K:Out→Prop):Call prog 167 ⟨[.s s],[],[]⟩ K=K (.s (trimR 0 s),[],[]):=by
  have e:∀ K,Call prog 171 ⟨[.s s,.s [0]],[],[]⟩ K=K (.s (trimR 0 s),[],[]):=by
    intro K
    refine Zc (f:=171) rfl rfl (by decide) ?_
    have e1:=fun K=>ahu s 0 hs K
    by_cases h:s=[]
    · subst h
      simp -implicitDefEqProofs [trimR]
    · have e2:(0:UInt8).toNat=0:=rfl
      rw [e2] at e1
      simp only [Int.cast_ofNat_Int,Int.natCast_zero] at e1
      simp -implicitDefEqProofs [h,e1]
  refine Zc (f:=167) rfl rfl (by decide) ?_
  simp -implicitDefEqProofs [e]
end Go.VS
end
section
namespace Go.VS
end Go.VS
end
section
namespace Go.VS
end Go.VS
end
section
namespace Go.VS
theorem aei (q:Bool) (l:List Int) (v:Int) (hl:l.length≤lim) (K:Out→Prop):Call prog 96 ⟨[.view q 1 (l.map (V.i .i64)),.i .i64 v],[],[]⟩ K=K (.b (decide (v ∈ l)),[],[]):=by
  have ix:∀ K,Call prog 125 ⟨[.view q 1 (l.map (V.i .i64)),.i .i64 v],[],[]⟩ K=K (.i .i64 (idxF (fun x=>v == x) l 0),[],[]):=by
    intro K
    refine Zc (f:=125) rfl rfl (by decide) ?_
    unfold lim at hl
    simp -implicitDefEqProofs
    refine WL_for (fun i=>⟨sp 19 [(0,.view q 1 (l.map (V.i .i64))),(1,.i .i64 v),(7,.i .i64 l.length),(8,.i .i64 i)],[],[]⟩) l.length (fun i=>idxF (fun x=>v == x) l 0=idxF (fun x=>v == x) (l.drop i) i) _ (by simp -implicitDefEqProofs) (by simp) ?_
    intro i hi hP
    by_cases hlt:i<l.length
    · have hw:=wrap_i64 (n:=(i:Int)+1) (by omega) (by omega)
      have hx:=ahd (pr:=fun x:Int=>v == x) (List.getElem?_eq_getElem hlt)
      rw [hP,hx]
      by_cases hk:v=l[i]
      · have hk':(v == l[i])=true:=by simpa using hk
        simp -implicitDefEqProofs [hlt,← hk]
      · have hk':(v == l[i])=false:=by simpa using hk
        simp -implicitDefEqProofs [hlt,hk,hk',hw,Next]
    · rw [hP,ahe (by omega)]
      simp -implicitDefEqProofs [hlt]
  refine Zc (f:=96) rfl rfl (by decide) ?_
  have e:l.any (fun x=>v == x)=decide (v ∈ l):=by
    rw [Bool.eq_iff_iff];simp [List.any_eq_true]
  simp -implicitDefEqProofs [ix,aoj]
  exact e
theorem agl (q:Bool) (l:List Int) (v:Int) (hl:l.length≤lim) (K:Out→Prop):Call prog 92 ⟨[.view q 1 (l.map (V.i .i64)),.i .i64 v],[],[]⟩ K=K (.b (decide (v ∈ l)),[],[]):=by
  refine Zc (f:=92) rfl rfl (by decide) ?_
  unfold lim at hl
  have e:l.any (fun x=>x == v)=decide (v ∈ l):=by
    rw [Bool.eq_iff_iff];simp [List.any_eq_true]
  rw [← e]
  simp -implicitDefEqProofs
  refine WL_for (fun i=>⟨sp 18 [(0,.view q 1 (l.map (V.i .i64))),(1,.i .i64 v),(5,.i .i64 i)],[],[]⟩) l.length (fun i=>l.any (fun x=>x == v)=(l.drop i).any (fun x=>x == v)) _ (by simp -implicitDefEqProofs) (by simp) ?_
  intro i hi hP
  by_cases hlt:i<l.length
  · have hw:=wrap_i64 (n:=(i:Int)+1) (by omega) (by omega)
    rw [hP,as6 hlt]
    by_cases hk:l[i]=v
    · simp -implicitDefEqProofs [hlt,hk]
    · have hk':(l[i] == v)=false:=by simpa using hk
      simp -implicitDefEqProofs [hlt,hk,hk',hw,Next]
  · rw [hP,aup (by omega)]
    simp -implicitDefEqProofs [hlt]
theorem aem (a b:Int) (K:Out→Prop):Call prog 155 ⟨[.i .i64 a,.i .i64 b],[],[]⟩ K=K (.i .i64 (if b<a then a else b),[],[]):=by
  refine Zc (f:=155) rfl rfl (by decide) ?_
  by_cases h:b<a <;> simp -implicitDefEqProofs [h]
theorem aao (n:Nat) (hn:n≤lim) (K:Out→Prop):Call prog 130 ⟨[.i .i64 n],[],[]⟩ K=K (.s (List.replicate n 0),[],[]):=by
  refine Zc (f:=130) rfl rfl (by decide) ?_
  have e:∀ K,Call prog 155 ⟨[.i .i64 n,.i .i64 0],[],[]⟩ K=K (.i .i64 n,[],[]):=by
    intro K
    rw [aem]
    have:(if (0:Int)<n then (n:Int) else 0)=n:=by split <;> omega
    rw [this]
  have e2:(List.replicate n (V.i .u8 0)).take n=List.replicate n (V.i .u8 0):=List.take_of_length_le (by simp)
  simp -implicitDefEqProofs [e,hn,cvsV,e2,akp]
end Go.VS
end
section
namespace Go.VS
theorem afy (a:V) (n:Nat) (tg:Bool) (xs:List V) (ha:isSelf a=true) (K:Out→Prop):Call prog 178 ⟨[.ptr 0 0],[[a,.sl 0 0 n tg]],[.row 1 false xs]⟩ K=K (.tup [],[[.ptr 0 0,.sl 0 0 n tg]],[.row 1 false xs]):=by
  rw [abw (p:=prog) (f:=178) rfl]
  have:nCopyCheck ⟨[.ptr 0 0],[[a,.sl 0 0 n tg]],[.row 1 false xs]⟩=some (.tup [],[[.ptr 0 0,.sl 0 0 n tg]],[.row 1 false xs]):=by
    simp only [nCopyCheck,ha,if_true]
  rw [this,ac3]
theorem aed {a:V} (h:isSelf a=true):a=.bz∨a=.ptr 0 0:=by
  unfold isSelf at h
  split at h
  · exact .inl rfl
  · exact .inr rfl
  · cases h
theorem aih (a:V) (fm l:Bs) (ha:isSelf a=true) (hl:fm.length+l.length≤lim) (K:Out→Prop):
    Call prog 150 ⟨[.ptr 0 0,.s l],[[a,.sl 0 0 fm.length (decide (fm=[]))]],[.row 1 false (bytesT fm)]⟩ K=
    K (.tup [.i .i64 l.length,.no],[[.ptr 0 0,.sl 0 0 (fm++l).length (decide (fm++l=[]))]],[.row 1 false (bytesT (fm++l))]):=by
  refine Zc (f:=150) rfl rfl (by decide) ?_
  obtain ⟨tg,htg⟩:∃ tg,tg=decide (fm=[]):=⟨_,rfl⟩
  have e:=fun K=>afy a fm.length tg (bytesT fm) ha K
  have hl2:l.length≤lim:=by omega
  have e2:=fun t m r d id (h:r.getD id .gone=.row 1 false (bytesT fm))=>aq2 t m r d id h htg hl
  rw [← htg]
  by_cases h0:l=[]
  · subst h0
    have e3:decide (fm++[]=[])=tg:=by rw [htg];simp
    rw [e3]
    rcases aed ha with rfl | rfl <;> simp -implicitDefEqProofs [e,e2]
  · have e3:decide (fm++l=[])=false:=by simp [h0]
    rw [e3]
    by_cases h1:fm=[]
    · subst h1
      simp only [List.length_nil] at e2 e
      rcases aed ha with rfl | rfl <;> simp -implicitDefEqProofs [e,e2,h0]
    · rcases aed ha with rfl | rfl <;> simp -implicitDefEqProofs [e,e2,h0,h1]
theorem ahs:∀ l:Bs,tbytes (bytesT l)=some l
  | []=>rfl
  | x :: l=>by
    have:=ahs l
    unfold bytesT at this ⊢
    rw [List.map_cons,tbytes,this,Option.map_some]
    simp
theorem al9 (a:V) (fm:Bs) (ha:isSelf a=true) (K:Out→Prop):Call prog 151 ⟨[.ptr 0 0],[[a,.sl 0 0 fm.length (decide (fm=[]))]],[.row 1 false (bytesT fm)]⟩ K=
    K (.s fm,[[a,.sl 0 0 fm.length (decide (fm=[]))]],[.row 1 true (bytesT fm)]):=by
  rw [abw (p:=prog) (f:=151) rfl]
  have:nBuilderString ⟨[.ptr 0 0],[[a,.sl 0 0 fm.length (decide (fm=[]))]],[.row 1 false (bytesT fm)]⟩=some (.s fm,[[a,.sl 0 0 fm.length (decide (fm=[]))]],[.row 1 true (bytesT fm)]):=by
    simp only [nBuilderString]
    rw [if_pos ⟨ha,by simp⟩,ahs,Option.map_some]
  rw [this,ac3]
structure ChP (p:Pr) (k0 k:Int) (bl:List Int) (fm:Bs):Prop where
  nd:bl.Nodup
  bd:∀ x,x ∈ bl→0≤x∧x<((256:Nat):Int)
  fl:fm.length≤60*bl.length
theorem ChP.len {p:Pr} {k0 k:Int} {bl:List Int} {fm:Bs} (h:ChP p k0 k bl fm):bl.length≤256:=apz 256 bl h.nd h.bd
theorem ChP.step {p:Pr} (hp:p.Ok) {k0 k:Int} {bl:List Int} {fm:Bs} (h:ChP p k0 k bl fm) (ha:p.alloc k=true) (hn:¬ k ∈ bl) {x:Int × Bs} (hx:chainB (p.get k)=some x):ChP p k0 x.1 (bl++[k]) (fm++x.2):=by
  have hk:p.data k=true:=by
    unfold Pr.alloc at ha
    simp only [Bool.and_eq_true] at ha
    exact ha.1
  have hb:=p.data_bd hp hk
  have hl:=aqj hx
  refine ⟨?_,?_,?_⟩
  · rw [List.nodup_append]
    refine ⟨h.nd,by simp,fun a ha b hb e=>hn ?_⟩
    simp only [List.mem_singleton] at hb
    rw [← hb,← e];exact ha
  · intro y hy
    rcases List.mem_append.1 hy with h1 | h1
    · exact h.bd y h1
    · simp only [List.mem_singleton] at h1
      subst h1
      omega
  · have:=h.fl
    rw [List.length_append,List.length_append,List.length_singleton]
    omega
end Go.VS
end
section
namespace Go.VS
end Go.VS
end
section
namespace Go.VS
end Go.VS
end
