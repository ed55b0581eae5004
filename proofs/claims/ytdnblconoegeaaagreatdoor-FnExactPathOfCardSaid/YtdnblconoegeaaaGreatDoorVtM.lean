import Derived.Test.YtdnblconoegeaaaGreatDoorB3
set_option linter.all false
namespace Go.VS
section
variable {p:Prog} {is:List I} {s:St} {K:St→Prop}
@[simp] theorem WI_mkm (d) (t:List V) (m:List (List V)) (r:List Rw):WI p (.mkm d :: is) ⟨t,m,r⟩ K=WI p is ⟨t.set d (.mr r.length),m,r++[.row 0 false []]⟩ K:=by rw [aad rfl];exact ale _ _
@[simp] theorem WI_mup (str m k v):WI p (.mup str m k v :: is) s K=Do (mupV s str (s.ev m) (s.ev k) (s.ev v)) (fun s'=>WI p is s' K):=aad rfl _ _ _
@[simp] theorem WI_mlk (d str zv m k ok):WI p (.mlk d str zv m k ok :: is) s K=DoV (mlkV s str zv (s.ev m) (s.ev k) ok) (fun v=>WI p is (s.put d v) K):=by rw [aad rfl];exact aav _ _ _
@[simp] theorem WI_clr (d x z el):WI p (.clr d x z el :: is) s K=Do (clrV s (s.ev x) z el) (fun s'=>WI p is (s'.putO d (.tup [])) K):=by
  rw [aad rfl]
  apply propext
  simp only [evI]
  constructor
  · rintro ⟨s',h,hk⟩
    obtain ⟨s1,h1,rfl⟩:=Option.map_eq_some_iff.1 h
    exact ⟨s1,h1,hk⟩
  · rintro ⟨s1,h1,hk⟩
    exact ⟨_,by rw [h1];rfl,hk⟩
end
@[simp] theorem cells_mr (id):V.cells (.mr id)=[.mr id]:=rfl
@[simp] theorem leaves_mr (id):V.leaves (.mr id)=[.mr id]:=rfl
@[simp] theorem mapL_mr (f:V→V) (id):V.mapL f (.mr id)=f (.mr id):=rfl
@[simp] theorem impL_mr (bl base id):impL bl base (.mr id)=.mr (base+id):=rfl
@[simp] theorem renL_mr (nb ids id):renL nb ids (.mr id)=if id ∈ ids then .mr (ids.idxOf id) else .no:=rfl
@[simp] theorem ridL_mr (r ids id):ridL r ids (.mr id)=if id ∈ ids then ids else match r.getD id .gone with | .row _ _ _=>ids++[id] | .gone=>ids:=rfl
@[simp] theorem okRet_mr (nb id):okRet nb (.mr id)=true:=rfl
@[simp] theorem isLent_mr (id):isLent (.mr id)=false:=rfl
@[simp] theorem isLeaf_mr (id):isLeaf (.mr id)=true:=rfl
@[simp] theorem lend_mr (s xp n id):lend s xp n (.mr id)=.no:=by cases n <;> rfl
@[simp] theorem expL_mr (s k id xp):expL s k (.mr id) xp=match s.r.getD id .gone with
    | .row _ _ _=>if id ∈ xp.rw then some (.mr (xp.rw.idxOf id),xp) else some (.mr xp.rw.length,{ xp with rw:=xp.rw++[id] })
    | .gone=>none:=rfl
@[simp] theorem expV_mr (s k id xp):expV s k (.mr id) xp=expL s k (.mr id) xp:=rfl
@[simp] theorem clr_nil (s z el):clrV s .nil z el=some s:=rfl
@[simp] theorem clr_sl (t m r id lo n tg z el):clrV ⟨t,m,r⟩ (.sl id lo n tg) z el=match r.getD id .gone with
    | .row z' false xs=>if z'=z then some ⟨t,m,r.set id (.row z' false (xs.take lo++(List.replicate n el++xs.drop (lo+n))))⟩ else none
    | _=>none:=rfl
section
variable {α:Type}
def mpE (e:α→V) (x:Int × α):V:=.agg [.i .i64 x.1,e x.2]
def mpR (e:α→V) (l:List (Int × α)):Rw:=.row 0 false (l.map (mpE e))
def aGet (a:Int):List (Int × α)→Option α
  | []=>none
  | x :: l=>if x.1=a then some x.2 else aGet a l
def aSet (a:Int) (v:α):List (Int × α)→List (Int × α)
  | []=>[(a,v)]
  | x :: l=>if x.1=a then (a,v) :: l else x :: aSet a v l
theorem aj2 (e:α→V) (a:Int):∀ (l:List (Int × α)) (i:Nat),
    (aGet a l=none∧mFind false (.i .i64 a) (l.map (mpE e)) i=some none) ∨
    ∃ j x,l[j]?=some x∧aGet a l=some x.2∧mFind false (.i .i64 a) (l.map (mpE e)) i=some (some (i+j))∧∀ v,aSet a v l=l.set j (a,v)
  | [],i=>.inl ⟨rfl,rfl⟩
  | x :: l,i=>by
    have hk:mFind false (.i .i64 a) ((x :: l).map (mpE e)) i=if x.1=a then some (some i) else mFind false (.i .i64 a) (l.map (mpE e)) (i+1):=by
      simp only [List.map_cons,mpE,mFind,kEq]
      by_cases h:x.1=a
      · simp [h]
      · simp [h,Ne.symm h]
    by_cases h:x.1=a
    · exact .inr ⟨0,x,rfl,by simp [aGet,h],by rw [hk,if_pos h];rfl,fun v=>by simp [aSet,h]⟩
    · rcases aj2 e a l (i+1) with ⟨h1,h2⟩ | ⟨j,y,h1,h2,h3,h4⟩
      · exact .inl ⟨by simp [aGet,h,h1],by rw [hk,if_neg h];exact h2⟩
      · exact .inr ⟨j+1,y,by simpa using h1,by simp [aGet,h,h2],by rw [hk,if_neg h,h3];congr 2;omega,fun v=>by simp [aSet,h,h4]⟩
theorem ai1 (a:Int) (v:α):∀ l:List (Int × α),aGet a l=none→aSet a v l=l++[(a,v)]
  | [],_=>rfl
  | x :: l,h=>by
    unfold aGet at h
    split at h
    · cases h
    · rename_i hx
      simp [aSet,hx,ai1 a v l h]
theorem at6 (e:α→V) (a:Int) (v:α) (l:List (Int × α)):mIns false (.i .i64 a) (e v) (l.map (mpE e))=some ((aSet a v l).map (mpE e)):=by
  unfold mIns
  rcases aj2 e a l 0 with ⟨h1,h2⟩ | ⟨j,x,h1,h2,h3,h4⟩
  · rw [h2,ai1 a v l h1];simp [mpE]
  · rw [h3,h4 v,Nat.zero_add];simp [mpE,List.map_set]
theorem au4 (e:α→V) (t m r) (id:Nat) (a:Int) (v:α) (l:List (Int × α)) (hr:r.getD id .gone=mpR e l) (hf:frzL (e v) ⟨t,m,r⟩=some (e v,⟨t,m,r⟩)):
    mupV ⟨t,m,r⟩ false (.mr id) (.i .i64 a) (e v)=some ⟨t,m,r.set id (mpR e (aSet a v l))⟩:=by
  unfold mupV
  rw [hf]
  simp only [hr,mpR,isKey,Bool.not_false,if_true,at6,Option.map_some]
theorem asr (e:α→V) (t m r) (id:Nat) (a:Int) (z:V) (l:List (Int × α)) (hr:r.getD id .gone=mpR e l) (ok:Bool):
    mlkV ⟨t,m,r⟩ false z (.mr id) (.i .i64 a) ok=some (match aGet a l with
      | some v=>if ok then .tup [e v,.b true] else e v
      | none=>if ok then .tup [z,.b false] else z):=by
  unfold mlkV
  simp only [hr,mpR,isKey,Bool.not_false,if_true]
  rcases aj2 e a l 0 with ⟨h1,h2⟩ | ⟨j,x,h1,h2,h3,h4⟩
  · rw [h2,h1]
  · rw [h3,h2,Nat.zero_add]
    simp only [mGet,List.getElem?_map,h1,Option.map_some,mpE]
theorem mlk_r0 (e:α→V) (t m rs) (a:Int) (z:V) (l:List (Int × α)) (ok:Bool):mlkV ⟨t,m,.row 0 false (l.map (mpE e)) :: rs⟩ false z (.mr 0) (.i .i64 a) ok=some (match aGet a l with
      | some v=>if ok then .tup [e v,.b true] else e v
      | none=>if ok then .tup [z,.b false] else z):=asr e t m _ 0 a z l rfl ok
theorem mup_r0 (t m rs) (a:Int) (v:List UInt8) (l:List (Int × List UInt8)):mupV ⟨t,m,.row 0 false (l.map (mpE V.s)) :: rs⟩ false (.mr 0) (.i .i64 a) (.s v)=some ⟨t,m,.row 0 false ((aSet a v l).map (mpE V.s)) :: rs⟩:=
  au4 V.s t m _ 0 a v l rfl rfl
theorem agl (a b:Int) (v:α):∀ l:List (Int × α),aGet b (aSet a v l)=if b=a then some v else aGet b l
  | []=>by simp [aSet,aGet,eq_comm]
  | x :: l=>by
    unfold aSet
    by_cases h:x.1=a
    · rw [if_pos h]
      by_cases h2:b=a
      · simp [aGet,h2]
      · simp [aGet,h2,Ne.symm h2,h]
    · rw [if_neg h]
      by_cases h2:x.1=b
      · have:¬ b=a:=fun e=>h (h2.trans e)
        simp [aGet,h2,this]
      · simp [aGet,h2,agl a b v l]
def mpK (l:List (Int × α)):List Int:=l.map (·.1)
theorem arj {a:Int}:∀ {l:List (Int × α)},aGet a l=none ↔ a ∉ mpK l
  | []=>by simp [aGet,mpK]
  | x :: l=>by
    unfold aGet
    by_cases h:x.1=a
    · simp [h,mpK]
    · rw [if_neg h,arj (l:=l)]
      simp [mpK,Ne.symm h]
end
end Go.VS
