/-
  Rewriting laws for the evaluator; the meaning of the library functions that it does not run.
-/
import Derived.Test.YtmmbgajolgbhnaaGreatDoorVsB
import Derived.Lib.ParseIntB
import Derived.Lib.Join
import Derived.Lib.ItoaNum
set_option linter.all false
section
namespace Go.VS
def lk (k:Nat):List (Nat × V)→V
  | []=>.no
  | (d,v) :: l=>if (d == k)=true then v else lk k l
def sp (n:Nat) (l:List (Nat × V)):List V:=(List.range n).map fun k=>lk k l
def en:Nat→List V→List (Nat × V)
  | _,[]=>[]
  | k,v :: vs=>(k,v) :: en (k+1) vs
@[simp] theorem lk_hit (k:Nat) (v:V) (l:List (Nat × V)):lk k ((k,v) :: l)=v:=by simp [lk]
@[simp] theorem lk_miss {d k:Nat} (v:V) (l:List (Nat × V)) (h:(d == k)=false):lk k ((d,v) :: l)=lk k l:=by simp only [lk,h,Bool.false_eq_true,if_false]
@[simp] theorem lk_nil (k:Nat):lk k []=.no:=rfl
@[simp] theorem sp_length (n:Nat) (l:List (Nat × V)):(sp n l).length=n:=by simp [sp]
theorem sp_get (n:Nat) (l:List (Nat × V)) (k:Nat):(sp n l)[k]?=if k<n then some (lk k l) else none:=by
  unfold sp
  rw [List.getElem?_map]
  split
  · rename_i h;rw [List.getElem?_range h];rfl
  · rename_i h;rw [List.getElem?_eq_none (by simpa using h)];rfl
theorem auf (n:Nat) (l:List (Nat × V)) (k:Nat):(sp n l).getD k .no=if k<n then lk k l else .no:=by
  rw [List.getD_eq_getElem?_getD,sp_get]
  split <;> rfl
def gt (t:List V) (n:Nat):V:=t.getD n .no
@[simp] theorem gt_sp {n k:Nat} (l:List (Nat × V)) (h:k<n):gt (sp n l) k=lk k l:=by unfold gt;rw [auf,if_pos h]
@[simp] theorem sp_set (n:Nat) (l:List (Nat × V)) (d:Nat) (v:V):(sp n l).set d v=sp n ((d,v) :: l):=by
  apply List.ext_getElem?
  intro j
  rw [List.getElem?_set,sp_get,sp_get,sp_length]
  by_cases hj:j<n
  · by_cases hd:d=j
    · subst hd;simp [hj]
    · rw [if_neg hd,if_pos hj,if_pos hj,lk_miss _ _ (by simpa using hd)]
  · rw [if_neg hj,if_neg hj]
    split
    · rename_i h;subst h;simp [hj]
    · rfl
theorem lk_en:∀ (vs:List V) (i j:Nat),lk j (en i vs)=if i≤j then vs.getD (j - i) .no else .no
  | [],i,j=>by simp [en]
  | v :: vs,i,j=>by
    simp only [en,lk,lk_en vs (i+1) j]
    by_cases h:i=j
    · subst h;simp
    · simp only [beq_iff_eq,h,if_false]
      by_cases h2:i≤j
      · rw [if_pos (by omega),if_pos h2,show j - i=(j - (i+1))+1 by omega,List.getD_cons_succ]
      · rw [if_neg (by omega),if_neg h2]
theorem app_sp (vs:List V) (k:Nat):vs++List.replicate k .no=sp (vs.length+k) (en 0 vs):=by
  apply List.ext_getElem?
  intro j
  rw [sp_get,lk_en]
  simp only [Nat.zero_le,if_true,Nat.sub_zero]
  by_cases h:j<vs.length
  · rw [List.getElem?_append_left h,if_pos (by omega),List.getD_eq_getElem?_getD,List.getElem?_eq_getElem h];rfl
  · rw [List.getElem?_append_right (by omega),List.getElem?_replicate]
    by_cases h2:j<vs.length+k
    · rw [if_pos (by omega),if_pos h2,List.getD_eq_getElem?_getD,List.getElem?_eq_none (by omega)];rfl
    · rw [if_neg (by omega),if_neg h2]
attribute [simp] en
@[simp] theorem put_mk (t:List V) (m:List (List V)) (r:List Rw) (d:Nat) (v:V):St.put ⟨t,m,r⟩ d v=⟨t.set d v,m,r⟩:=rfl
@[simp] theorem putO_mk (s:St) (d:Nat) (v:V):St.putO s (some d) v=s.put d v:=rfl
@[simp] theorem putO_none (s:St) (v:V):St.putO s none v=s:=rfl
@[simp] theorem ev_t (t:List V) (m:List (List V)) (r:List Rw) (n:Nat):St.ev ⟨t,m,r⟩ (.t n)=gt t n:=rfl
@[simp] theorem ev_c (s:St) (v:V):St.ev s (.c v)=v:=rfl
def DoV (o:Option V) (K:V→Prop):Prop:=∃ v,o=some v∧K v
@[congr] theorem DoV_congr {o o':Option V} {K:V→Prop} (h:Tag o=o'):DoV o K=DoV o' K:=by rw [← h,Tag_eq]
@[simp] theorem DoV_some (v:V) (K:V→Prop):DoV (some v) K=K v:=by simp [DoV]
theorem aas (o:Option V) (f:V→St) (K:St→Prop):Do (o.map f) K=DoV o (fun v=>K (f v)):=by
  apply propext
  constructor
  · rintro ⟨s,h,hk⟩
    obtain ⟨v,hv,rfl⟩:=Option.map_eq_some_iff.1 h
    exact ⟨v,hv,hk⟩
  · rintro ⟨v,rfl,hk⟩;exact ⟨_,rfl,hk⟩
def DoL (o:Option (List V × St)) (K:List V→St→Prop):Prop:=∃ vs s,o=some (vs,s)∧K vs s
@[congr] theorem DoL_congr {o o':Option (List V × St)} {K:List V→St→Prop} (h:Tag o=o'):DoL o K=DoL o' K:=by rw [← h,Tag_eq]
@[simp] theorem DoL_some (v:List V) (s:St) (K:List V→St→Prop):DoL (some (v,s)) K=K v s:=by
  apply propext;constructor
  · rintro ⟨a,b,h,hk⟩;cases h;exact hk
  · intro h;exact ⟨_,_,rfl,h⟩
attribute [simp] W_r W_ra isD W_seq W_cond W_blk W_loop W_ex W_ret W_skip WI_nil akz akv aku ac3 DoF_fn av4 av6 av5 blkQ_n blkQ_x blkQ_r finQ_n finQ_r auy aux gW_t gW_f gW_tf gW_ft gW_u
section
variable {p:Prog} (is:List I) (s:St) (K:St→Prop)
@[simp] theorem WI_gt (t:List V) (m:List (List V)) (r:List Rw) (sl w d i):WI p (.g sl w d i :: is) ⟨t,m,r⟩ K=gW (gt t sl) w (WI p (i :: is) ⟨t,m,r⟩ K) (WI p is (St.putO ⟨t,m,r⟩ d (.tup [])) K):=WI_g _ _ _ _ _ _ _
@[simp] theorem notEp_ptr (a b):notEp (.ptr a b)=true:=rfl
@[simp] theorem notEp_vp (a):notEp (.vp a)=true:=rfl
@[simp] theorem notEp_view (a b c):notEp (.view a b c)=true:=rfl
@[simp] theorem notEp_nil:notEp .nil=true:=rfl
@[simp] theorem notEp_s (l):notEp (.s l)=true:=rfl
@[simp] theorem isRow_row (z fz xs):isRow (.row z fz xs)=true:=rfl
@[simp] theorem notIn_ptr (s xp a b):notIn s xp (.ptr a b)=!(xp.bl.map (·.1)).contains a:=rfl
@[simp] theorem notIn_sl (s xp a b c d):notIn s xp (.sl a b c d)=(isRow (s.r.getD a .gone) && !xp.rw.contains a):=rfl
@[simp] theorem notIn_ep (s xp a b c):notIn s xp (.ep a b c)=(isRow (s.r.getD a .gone) && !xp.rw.contains a):=rfl
@[simp] theorem notIn_vp (s xp a):notIn s xp (.vp a)=true:=rfl
@[simp] theorem notIn_view (s xp a b c):notIn s xp (.view a b c)=true:=rfl
@[simp] theorem notIn_nil (s xp):notIn s xp .nil=true:=rfl
@[simp] theorem notIn_s (s xp l):notIn s xp (.s l)=true:=rfl
@[simp] theorem sameP_ptr (a b c d):sameP (.ptr a b) (.ptr c d)=(a == c):=rfl
@[simp] theorem sameP_sl (a b c d e f g h):sameP (.sl a b c d) (.sl e f g h)=(a == e):=rfl
@[simp] theorem sameP_se (a b c d e f g):sameP (.sl a b c d) (.ep e f g)=(a == e):=rfl
@[simp] theorem sameP_es (a b c e f g h):sameP (.ep a b c) (.sl e f g h)=(a == e):=rfl
@[simp] theorem sameP_ee (a b c e f g):sameP (.ep a b c) (.ep e f g)=(a == e):=rfl
@[simp] theorem sameP_vp (a v):sameP (.vp a) v=true:=by cases v <;> rfl
@[simp] theorem sameP_view (a b c v):sameP (.view a b c) v=true:=by cases v <;> rfl
@[simp] theorem sameP_nil (v):sameP .nil v=true:=by cases v <;> rfl
@[simp] theorem sameP_s (l v):sameP (.s l) v=true:=by cases v <;> rfl
@[simp] theorem WI_sb (y z i):WI p (.ck (.sb y z) i :: is) s K=(sameP (s.ev y) (s.ev z)=true∧WI p (i :: is) s K):=WI_ck _ _ _ _ _
@[simp] theorem WI_djbsl (ys d z ps):WI p (.ck (.dj ys) (.bsl d z ps) :: is) s K=((ys.all fun y=>notIn s ⟨[],[]⟩ (s.ev y))=true∧WI p (.bsl d z ps :: is) s K):=WI_ck _ _ _ _ _
@[simp] theorem WI_djapp (ys d x y z):WI p (.ck (.dj ys) (.app d x y z) :: is) s K=((ys.all fun y=>notIn s ⟨[],match s.ev x with | .sl id _ _ _=>[id] | _=>[]⟩ (s.ev y))=true∧WI p (.app d x y z :: is) s K):=WI_ck _ _ _ _ _
@[simp] theorem WI_df (y z i):WI p (.ck (.df y z) i :: is) s K=(diffP (s.ev y) (s.ev z)=true∧WI p (i :: is) s K):=WI_ck _ _ _ _ _
@[simp] theorem WI_dq (ys i):WI p (.ck (.dq ys) i :: is) s K=(nqS s i=true∧WI p (.ck (.dj ys) i :: is) s K):=by
  rw [WI_ck,WI_ck]
  show ((nqS s i && djB s ys i)=true∧_)=(_∧djB s ys i=true∧_)
  rw [Bool.and_eq_true,and_assoc]
@[simp] theorem nqS_call (d f as):nqS s (.call d f as)=as.all fun a=>noPtr (s.ev a.1):=rfl
@[simp] theorem noPtr_agg (cs):noPtr (.agg cs)=cs.all noPtrL:=rfl
@[simp] theorem noPtr_b (x):noPtr (.b x)=true:=rfl
@[simp] theorem noPtr_i (k n):noPtr (.i k n)=true:=rfl
@[simp] theorem noPtr_s (l):noPtr (.s l)=true:=rfl
@[simp] theorem noPtr_nil:noPtr .nil=true:=rfl
@[simp] theorem noPtr_view (q z xs):noPtr (.view q z xs)=true:=rfl
@[simp] theorem noPtr_vp (cs):noPtr (.vp cs)=true:=rfl
@[simp] theorem noPtr_sl (a b c d):noPtr (.sl a b c d)=true:=rfl
@[simp] theorem noPtrL_b (x):noPtrL (.b x)=true:=rfl
@[simp] theorem noPtrL_i (k n):noPtrL (.i k n)=true:=rfl
@[simp] theorem noPtrL_s (l):noPtrL (.s l)=true:=rfl
@[simp] theorem noPtrL_nil:noPtrL .nil=true:=rfl
@[simp] theorem noPtrL_view (q z xs):noPtrL (.view q z xs)=true:=rfl
@[simp] theorem noPtrL_vp (cs):noPtrL (.vp cs)=true:=rfl
@[simp] theorem noPtrL_sl (a b c d):noPtrL (.sl a b c d)=true:=rfl
@[simp] theorem diffP_ptr (a b c d):diffP (.ptr a b) (.ptr c d)=(a != c):=rfl
@[simp] theorem diffP_vp (cs v):diffP (.vp cs) v=true:=by cases v <;> rfl
@[simp] theorem WI_np (y i):WI p (.ck (.np y) i :: is) s K=(notEp (s.ev y)=true∧WI p (i :: is) s K):=WI_ck _ _ _ _ _
def djS (s:St) (ys:List X) (xp:Xp):Bool:=ys.all fun y=>notIn s xp (s.ev y)
@[simp] theorem djS_nil (xp):djS s [] xp=true:=rfl
@[simp] theorem djS_cons (y ys xp):djS s (y :: ys) xp=(notIn s xp (s.ev y) && djS s ys xp):=by simp only [djS,List.all_cons]
@[simp] theorem WI_dj (ys d f as):WI p (.ck (.dj ys) (.call d f as) :: is) s K=DoX (expo s as []) (fun s0 xp=>djS s ys xp=true∧Call p f s0 (fun o=>WI p is (impoF f s xp d o.1 o.2.1 o.2.2) K)):=by
  have e:ckS s (.dj ys) (.call d f as)=match expo s as [] with | some (_,xp)=>djS s ys xp | none=>false:=by
    show (match (expo s as []).map (·.2) with | some xp=>ys.all fun y=>notIn s xp (s.ev y) | none=>false)=_
    cases expo s as [] <;> rfl
  rw [WI_ck,an3,e]
  unfold DoX
  apply propext
  constructor
  · rintro ⟨h1,s0,xp,h2,h3⟩
    rw [h2] at h1
    exact ⟨s0,xp,h2,h1,h3⟩
  · rintro ⟨s0,xp,h2,h1,h3⟩
    rw [h2]
    exact ⟨h1,s0,xp,rfl,h3⟩
@[simp] theorem WI_mv (d x):WI p (.mv d x :: is) s K=WI p is (s.put d (s.ev x)) K:=by rw [aac rfl];exact akv _ _
@[simp] theorem WI_bin (d op x y):WI p (.bin d op x y :: is) s K=DoV (binV op (s.ev x) (s.ev y)) (fun v=>WI p is (s.put d v) K):=by rw [aac rfl];exact aas _ _ _
@[simp] theorem WI_un (d op x):WI p (.un d op x :: is) s K=DoV (unV op (s.ev x)) (fun v=>WI p is (s.put d v) K):=by rw [aac rfl];exact aas _ _ _
@[simp] theorem WI_pick (d c x y):WI p (.pick d c x y :: is) s K=DoV (pickV (s.ev c) (s.ev x) (s.ev y)) (fun v=>WI p is (s.put d v) K):=by rw [aac rfl];exact aas _ _ _
def cviV (k:IntKind):V→Option V
  | .i _ n=>some (.i k (k.wrap n))
  | _=>none
@[simp] theorem cviV_i (k k':IntKind) (n:Int):cviV k (.i k' n)=some (.i k (k.wrap n)):=rfl
@[simp] theorem WI_cvi (d k x):WI p (.cvi d k x :: is) s K=DoV (cviV k (s.ev x)) (fun v=>WI p is (s.put d v) K):=by
  rw [aac rfl,← aas _ (s.put d) (fun s'=>WI p is s' K)];simp only [evI];cases s.ev x <;> rfl
def cvnV:V→Option V
  | .s l=>some (.s l)
  | _=>none
@[simp] theorem cvnV_s (l:List UInt8):cvnV (.s l)=some (.s l):=rfl
@[simp] theorem WI_cvn (d x):WI p (.cvn d x :: is) s K=DoV (cvnV (s.ev x)) (fun v=>WI p is (s.put d v) K):=by
  rw [aac rfl,← aas _ (s.put d) (fun s'=>WI p is s' K)];simp only [evI];cases s.ev x <;> rfl
@[simp] theorem WI_cvb (d x):WI p (.cvb d x :: is) s K=Do (match s.ev x with | .s l=>if l.length≤lim then some (s.new d 1 (bytesV l)) else none | _=>none) (fun s'=>WI p is s' K):=aac rfl _ _ _
def cvsV (s:St):V→Option V
  | .s _=>none
  | v=>((s.cont 1 v).bind vbytes).map V.s
@[simp] theorem WI_cvs (d x):WI p (.cvs d x :: is) s K=DoV (cvsV s (s.ev x)) (fun v=>WI p is (s.put d v) K):=by
  rw [aac rfl,← aas _ (s.put d) (fun s'=>WI p is s' K)];simp only [evI,cvsV];cases s.ev x <;> simp [Option.map_map,Function.comp_def]
def extV (j:Nat):V→Option V
  | .tup vs=>vs[j]?
  | _=>none
@[simp] theorem extV_0 (v:V) (vs:List V):extV 0 (.tup (v :: vs))=some v:=rfl
@[simp] theorem extV_1 (u v:V) (vs:List V):extV 1 (.tup (u :: v :: vs))=some v:=rfl
@[simp] theorem extV_2 (u u' v:V) (vs:List V):extV 2 (.tup (u :: u' :: v :: vs))=some v:=rfl
@[simp] theorem extV_3 (u u' u2 v:V) (vs:List V):extV 3 (.tup (u :: u' :: u2 :: v :: vs))=some v:=rfl
@[simp] theorem WI_ext (d x j):WI p (.ext d x j :: is) s K=DoV (extV j (s.ev x)) (fun v=>WI p is (s.put d v) K):=by
  rw [aac rfl,← aas _ (s.put d) (fun s'=>WI p is s' K)];simp only [evI,extV];cases s.ev x <;> rfl
def fldV (off z:Nat) (ag:Bool):V→Option V
  | .agg cs=>(range cs off z).bind (mkV ag)
  | _=>none
@[simp] theorem fldV_agg (off z ag cs):fldV off z ag (.agg cs)=(range cs off z).bind (mkV ag):=rfl
@[simp] theorem WI_fld (d x off z ag):WI p (.fld d x off z ag :: is) s K=DoV (fldV off z ag (s.ev x)) (fun v=>WI p is (s.put d v) K):=by
  rw [aac rfl,← aas _ (s.put d) (fun s'=>WI p is s' K)];simp only [evI,fldV];cases s.ev x <;> rfl
@[simp] theorem WI_bld (d zs ps):WI p (.bld d zs ps :: is) s K=DoV (bldV s zs ps) (fun v=>WI p is (s.put d v) K):=by rw [aac rfl];exact aas _ _ _
@[simp] theorem WI_bsl (d z ps):WI p (.bsl d z ps :: is) s K=DoL (frzVs (ps.map s.ev) s) (fun es s=>if es.all (·.cells.length == z) then WI p is (s.new d z es) K else False):=by
  rw [aac rfl]
  apply propext
  simp only [evI]
  constructor
  · rintro ⟨s',h,hk⟩
    split at h
    · rename_i es s1 e1
      split at h
      · rename_i hc;cases h;exact ⟨es,s1,e1,by simp only [hc,if_true];exact hk⟩
      · cases h
    · cases h
  · rintro ⟨es,s1,e1,h⟩
    split at h
    · rename_i hc;exact ⟨_,by rw [e1];simp only [hc,if_true],h⟩
    · exact h.elim
@[simp] theorem WI_mks (d z el len cap):WI p (.mks d z el len cap :: is) s K=Do (mksV s d z el (s.ev len) (s.ev cap)) (fun s'=>WI p is s' K):=aac rfl _ _ _
@[simp] theorem WI_alc (d zs) (t:List V) (m:List (List V)) (r:List Rw):WI p (.alc d zs :: is) ⟨t,m,r⟩ K=WI p is ⟨t.set d (.ptr m.length 0),m++[zs],r⟩ K:=by rw [aac rfl];exact akv _ _
@[simp] theorem WI_box (d x) (t:List V) (m:List (List V)) (r:List Rw):WI p (.box d x :: is) ⟨t,m,r⟩ K=
    Do (if (St.ev ⟨t,m,r⟩ x).cells.all isLeaf then some ⟨t.set d (.ptr m.length 0),m++[(St.ev ⟨t,m,r⟩ x).cells],r⟩ else none) (fun s'=>WI p is s' K):=aac rfl _ _ _
@[simp] theorem WI_ld (d x z ag):WI p (.ld d x z ag :: is) s K=DoV (loadV s (s.ev x) z ag) (fun v=>WI p is (s.put d v) K):=by rw [aac rfl];exact aas _ _ _
@[simp] theorem WI_st (x v z):WI p (.st x v z :: is) s K=Do (storeV s (s.ev x) (s.ev v) z) (fun s'=>WI p is s' K):=aac rfl _ _ _
def nckP (v:V):Option V:=if nckV v=true then some v else none
@[simp] theorem WI_nck (d x):WI p (.nck d x :: is) s K=DoV (nckP (s.ev x)) (fun v=>WI p is (s.put d v) K):=by
  rw [aac rfl,← aas _ (s.put d) (fun s'=>WI p is s' K)];simp only [evI,nckP];split <;> rfl
@[simp] theorem nckP_ptr (id off):nckP (.ptr id off)=some (.ptr id off):=rfl
@[simp] theorem nckP_ep (id x off):nckP (.ep id x off)=some (.ep id x off):=rfl
@[simp] theorem nckP_vp (cs):nckP (.vp cs)=some (.vp cs):=rfl
@[simp] theorem nckP_fn (f cs):nckP (.fn f cs)=some (.fn f cs):=rfl
@[simp] theorem WI_fad (d x off):WI p (.fad d x off :: is) s K=DoV (fadV (s.ev x) off) (fun v=>WI p is (s.put d v) K):=by rw [aac rfl];exact aas _ _ _
@[simp] theorem WI_ixa (d x i z):WI p (.ixa d x i z :: is) s K=DoV (idxV s z (s.ev x) (s.ev i)) (fun v=>WI p is (s.put d v) K):=by rw [aac rfl];exact aas _ _ _
def ixsV (x i:V):Option V:=
  match x,i with
  | .s l,.i _ n=>if 0≤n∧n<l.length then some (.i .u8 (l.getD n.toNat 0).toNat) else none
  | _,_=>none
@[simp] theorem ixsV_s (l:List UInt8) (k:IntKind) (n:Int):ixsV (.s l) (.i k n)=if 0≤n∧n<l.length then some (.i .u8 (l.getD n.toNat 0).toNat) else none:=rfl
@[simp] theorem WI_ixs (d x i):WI p (.ixs d x i :: is) s K=DoV (ixsV (s.ev x) (s.ev i)) (fun v=>WI p is (s.put d v) K):=by
  rw [aac rfl,← aas _ (s.put d) (fun s'=>WI p is s' K)];simp only [evI,ixsV]
  cases s.ev x <;> try rfl
  cases s.ev i <;> try rfl
  simp only
  split <;> rfl
@[simp] theorem WI_slc (d x lo hi z):WI p (.slc d x lo hi z :: is) s K=DoV (slcV s z (s.ev x) (lo.map s.ev) (hi.map s.ev)) (fun v=>WI p is (s.put d v) K):=by rw [aac rfl];exact aas _ _ _
def lenP (str:Bool) (v:V):Option V:=(lenV str v).map fun (n:Nat)=>.i .i64 (n:Int)
@[simp] theorem WI_len (d str x):WI p (.len d str x :: is) s K=DoV (lenP str (s.ev x)) (fun v=>WI p is (s.put d v) K):=by
  rw [aac rfl,← aas _ (s.put d) (fun s'=>WI p is s' K)];unfold lenP;rw [Option.map_map];rfl
@[simp] theorem lenP_s (l:List UInt8):lenP true (.s l)=some (.i .i64 (l.length:Int)):=rfl
@[simp] theorem lenP_nil:lenP false .nil=some (.i .i64 0):=rfl
@[simp] theorem lenP_view (q z xs):lenP false (.view q z xs)=some (.i .i64 (xs.length:Int)):=rfl
@[simp] theorem lenP_sl (id lo n tg):lenP false (.sl id lo n tg)=some (.i .i64 (n:Int)):=rfl
@[simp] theorem WI_app (d x y z):WI p (.app d x y z :: is) s K=Do (appV s d (s.ev x) (s.ev y) z) (fun s'=>WI p is s' K):=aac rfl _ _ _
@[simp] theorem WI_mm (d mx x y):WI p (.mm d mx x y :: is) s K=DoV (mmI mx (s.ev x) (s.ev y)) (fun v=>WI p is (s.put d v) K):=by rw [aac rfl];exact aas _ _ _
@[simp] theorem WI_mkf (d f caps):WI p (.mkf d f caps :: is) s K=Do (if (caps.map s.ev).all isCap then some (s.put d (.fn f (caps.map s.ev))) else none) (fun s'=>WI p is s' K):=aac rfl _ _ _
def eqsV (neq:Bool) (x y:V):Option V:=
  match x,y with
  | .agg a,.agg b=>(leafEq a b).map fun r=>.b (r ^^ neq)
  | _,_=>none
@[simp] theorem eqsV_agg (neq a b):eqsV neq (.agg a) (.agg b)=(leafEq a b).map fun r=>.b (r ^^ neq):=rfl
@[simp] theorem WI_eqs (d neq x y):WI p (.eqs d neq x y :: is) s K=DoV (eqsV neq (s.ev x) (s.ev y)) (fun v=>WI p is (s.put d v) K):=by
  rw [aac rfl,← aas _ (s.put d) (fun s'=>WI p is s' K)];simp only [evI,eqsV]
  cases s.ev x <;> try rfl
  cases s.ev y <;> try rfl
  simp only
  rw [Option.map_map];rfl
def eqbV (neq:Bool) (x y:V):Option V:=
  match x,y with
  | .b a,.b b=>some (.b ((a == b) ^^ neq))
  | _,_=>none
@[simp] theorem eqbV_b (neq a b):eqbV neq (.b a) (.b b)=some (.b ((a == b) ^^ neq)):=rfl
@[simp] theorem WI_eqb (d neq x y):WI p (.eqb d neq x y :: is) s K=DoV (eqbV neq (s.ev x) (s.ev y)) (fun v=>WI p is (s.put d v) K):=by
  rw [aac rfl,← aas _ (s.put d) (fun s'=>WI p is s' K)];simp only [evI,eqbV]
  cases s.ev x <;> try rfl
  cases s.ev y <;> rfl
def eqnV (k:Nat) (neq:Bool) (x y:V):Option V:=(eqNil k x y).map fun r=>.b (r ^^ neq)
@[simp] theorem WI_eqn (d k neq x y):WI p (.eqn d k neq x y :: is) s K=DoV (eqnV k neq (s.ev x) (s.ev y)) (fun v=>WI p is (s.put d v) K):=by
  rw [aac rfl,← aas _ (s.put d) (fun s'=>WI p is s' K)];unfold eqnV;rw [Option.map_map];rfl
@[simp] theorem WI_frz (d x):WI p (.frz d x :: is) s K=Do (match frzV (s.ev x) s with | some (v,s)=>some (s.put d v) | none=>none) (fun s'=>WI p is s' K):=aac rfl _ _ _
end
def shlI (k:IntKind) (a b:Int):Int:=k.wrap (a*2 ^ (min b.toNat k.bits))
def shrI (k:IntKind) (a b:Int):Int:=a.fdiv (2 ^ (min b.toNat k.bits))
section
variable (k:IntKind) (a b:Int)
@[simp] theorem bin_add:binV .add (.i k a) (.i k b)=some (.i k (k.wrap (a+b))):=by simp [binV,isShift,binI]
@[simp] theorem bin_sub:binV .sub (.i k a) (.i k b)=some (.i k (k.wrap (a - b))):=by simp [binV,isShift,binI]
@[simp] theorem bin_mul:binV .mul (.i k a) (.i k b)=some (.i k (k.wrap (a*b))):=by simp [binV,isShift,binI]
@[simp] theorem bin_quo:binV .quo (.i k a) (.i k b)=if b=0 then none else some (.i k (k.wrap (a.tdiv b))):=by simp [binV,isShift,binI]
@[simp] theorem bin_rem:binV .rem (.i k a) (.i k b)=if b=0 then none else some (.i k (a.tmod b)):=by simp [binV,isShift,binI]
@[simp] theorem bin_and:binV .and (.i k a) (.i k b)=some (.i k (bandI k a b)):=by simp [binV,isShift,binI]
@[simp] theorem bin_or:binV .or (.i k a) (.i k b)=some (.i k (borI k a b)):=by simp [binV,isShift,binI]
@[simp] theorem bin_xor:binV .xor (.i k a) (.i k b)=some (.i k (bxorI k a b)):=by simp [binV,isShift,binI]
@[simp] theorem bin_andNot:binV .andNot (.i k a) (.i k b)=some (.i k (bandnI k a b)):=by simp [binV,isShift,binI]
@[simp] theorem bin_eql:binV .eql (.i k a) (.i k b)=some (.b (decide (a=b))):=by simp [binV,isShift,binI]
@[simp] theorem bin_neq:binV .neq (.i k a) (.i k b)=some (.b (!decide (a=b))):=by simp [binV,isShift,binI]
@[simp] theorem bin_lss:binV .lss (.i k a) (.i k b)=some (.b (decide (a<b))):=by simp [binV,isShift,binI]
@[simp] theorem bin_leq:binV .leq (.i k a) (.i k b)=some (.b (decide (a≤b))):=by simp [binV,isShift,binI]
@[simp] theorem bin_gtr:binV .gtr (.i k a) (.i k b)=some (.b (decide (b<a))):=by simp [binV,isShift,binI]
@[simp] theorem bin_geq:binV .geq (.i k a) (.i k b)=some (.b (decide (b≤a))):=by simp [binV,isShift,binI]
@[simp] theorem bin_shl (k':IntKind):binV .shl (.i k a) (.i k' b)=if b<0 then none else some (.i k (shlI k a b)):=by simp [binV,isShift,shI,shlI]
@[simp] theorem bin_shr (k':IntKind):binV .shr (.i k a) (.i k' b)=if b<0 then none else some (.i k (shrI k a b)):=by simp [binV,isShift,shI,shrI]
end
section
variable (a b:List UInt8)
@[simp] theorem binS_add:binV .add (.s a) (.s b)=if a.length+b.length≤lim then some (.s (a++b)) else none:=rfl
@[simp] theorem binS_eql:binV .eql (.s a) (.s b)=some (.b (decide (a=b))):=rfl
@[simp] theorem binS_neq:binV .neq (.s a) (.s b)=some (.b (!decide (a=b))):=rfl
@[simp] theorem binS_lss:binV .lss (.s a) (.s b)=some (.b (Op.bytesLess a b)):=rfl
@[simp] theorem binS_leq:binV .leq (.s a) (.s b)=some (.b (Op.bytesLess a b || decide (a=b))):=rfl
@[simp] theorem binS_gtr:binV .gtr (.s a) (.s b)=some (.b (!(Op.bytesLess a b || decide (a=b)))):=rfl
@[simp] theorem binS_geq:binV .geq (.s a) (.s b)=some (.b (!Op.bytesLess a b)):=rfl
end
@[simp] theorem un_neg (k:IntKind) (n:Int):unV .neg (.i k n)=some (.i k (k.wrap (0 - n))):=rfl
@[simp] theorem un_not (x:Bool):unV .not (.b x)=some (.b (!x)):=rfl
@[simp] theorem un_xor (k:IntKind) (n:Int):unV .xor (.i k n)=some (.i k (bxorI k (if k.signed then -1 else k.max) n)):=rfl
@[simp] theorem pick_t (x y:V):pickV (.b true) x y=some x:=by cases x <;> cases y <;> rfl
@[simp] theorem pick_f (x y:V):pickV (.b false) x y=some y:=by cases x <;> cases y <;> rfl
@[simp] theorem mm_min (k:IntKind) (a b:Int):mmI false (.i k a) (.i k b)=some (.i k (min a b)):=by simp [mmI]
@[simp] theorem mm_max (k:IntKind) (a b:Int):mmI true (.i k a) (.i k b)=some (.i k (max a b)):=by simp [mmI]
@[simp] theorem fad_ptr (id o off):fadV (.ptr id o) off=some (.ptr id (o+off)):=rfl
@[simp] theorem fad_ep (id idx o off):fadV (.ep id idx o) off=some (.ep id idx (o+off)):=rfl
@[simp] theorem fad_vp (cs off):fadV (.vp cs) off=some (.vp (cs.drop off)):=rfl
@[simp] theorem load_ptr (t m r id off z ag):loadV ⟨t,m,r⟩ (.ptr id off) z ag=(range (m.getD id []) off z).bind (mkV ag):=rfl
@[simp] theorem load_vp (s cs z ag):loadV s (.vp cs) z ag=(range cs 0 z).bind (mkV ag):=rfl
@[simp] theorem load_ep (t m r id idx off z ag):loadV ⟨t,m,r⟩ (.ep id idx off) z ag=match r.getD id .gone with | .row _ _ xs=>(range (xs.getD idx .no).cells off z).bind (mkV ag) | .gone=>none:=rfl
@[simp] theorem idx_view (s z q xs k n):idxV s z (.view q z xs) (.i k n)=if 0≤n∧n<xs.length then some (.vp (xs.getD n.toNat .no).cells) else none:=by simp [idxV]
@[simp] theorem idx_sl (t m r z id lo n tg k i):idxV ⟨t,m,r⟩ z (.sl id lo n tg) (.i k i)=match r.getD id .gone with
    | .row z' _ _=>if z'=z∧0≤i∧i<n then some (.ep id (lo+i.toNat) 0) else none
    | .gone=>none:=rfl
@[simp] theorem mkV_f (v:V):mkV false [v]=some v:=rfl
@[simp] theorem mkV_t (cs:List V):mkV true cs=some (.agg cs):=rfl
attribute [simp] range setAt isLeaf isCap
@[simp] theorem cells_b (x):V.cells (.b x)=[.b x]:=rfl
@[simp] theorem cells_i (k n):V.cells (.i k n)=[.i k n]:=rfl
@[simp] theorem cells_s (l):V.cells (.s l)=[.s l]:=rfl
@[simp] theorem cells_no:V.cells .no=[.no]:=rfl
@[simp] theorem cells_tup (vs):V.cells (.tup vs)=[.tup vs]:=rfl
@[simp] theorem cells_nil:V.cells .nil=[.nil]:=rfl
@[simp] theorem cells_np:V.cells .np=[.np]:=rfl
@[simp] theorem cells_bz:V.cells .bz=[.bz]:=rfl
@[simp] theorem cells_nf:V.cells .nf=[.nf]:=rfl
@[simp] theorem cells_view (q z xs):V.cells (.view q z xs)=[.view q z xs]:=rfl
@[simp] theorem cells_sl (a b c d):V.cells (.sl a b c d)=[.sl a b c d]:=rfl
@[simp] theorem cells_ptr (a b):V.cells (.ptr a b)=[.ptr a b]:=rfl
@[simp] theorem cells_ep (a b c):V.cells (.ep a b c)=[.ep a b c]:=rfl
@[simp] theorem cells_vp (a):V.cells (.vp a)=[.vp a]:=rfl
@[simp] theorem cells_fn (a b):V.cells (.fn a b)=[.fn a b]:=rfl
@[simp] theorem cells_agg (cs):V.cells (.agg cs)=cs:=rfl
@[simp] theorem store_ptr (t m r id off v z):storeV ⟨t,m,r⟩ (.ptr id off) v z=if v.cells.length≠z then none else
    if v.cells.all isLeaf∧off+z≤(m.getD id []).length then some ⟨t,m.set id (setAt (m.getD id []) off v.cells),r⟩ else none:=rfl
@[simp] theorem store_ep (t m r id idx off v z):storeV ⟨t,m,r⟩ (.ep id idx off) v z=if v.cells.length≠z then none else
    match frzs v.cells ⟨t,m,r⟩ with
    | some (cs,s)=>
      match s.r.getD id .gone with
      | .row z' false xs=>(elSet (xs.getD idx .no) off cs).bind fun e=>some { s with r:=s.r.set id (.row z' false (xs.set idx e)) }
      | _=>none
    | none=>none:=rfl
theorem aie:∀ (vs pre post:List V),post.length=vs.length→setAt (pre++post) pre.length vs=pre++vs
  | [],pre,post,h=>by rw [List.length_eq_zero_iff.1 h];rfl
  | v :: vs,pre,[],h=>by simp at h
  | v :: vs,pre,p :: post,h=>by
    have:(pre++p :: post).set pre.length v=(pre++[v])++post:=by simp
    rw [setAt,this]
    have:=aie vs (pre++[v]) post (by simpa using h)
    rw [List.length_append] at this
    simpa using this
@[simp high] theorem setAt_full {cs vs:List V} (h:cs.length=vs.length):setAt cs 0 vs=vs:=aie vs [] cs h
@[simp] theorem frzL_b (x s):frzL (.b x) s=some (.b x,s):=rfl
@[simp] theorem frzL_i (k n s):frzL (.i k n) s=some (.i k n,s):=rfl
@[simp] theorem frzL_s (l s):frzL (.s l) s=some (.s l,s):=rfl
@[simp] theorem frzL_nil (s):frzL .nil s=some (.nil,s):=rfl
@[simp] theorem frzL_np (s):frzL .np s=some (.np,s):=rfl
@[simp] theorem frzL_nf (s):frzL .nf s=some (.nf,s):=rfl
@[simp] theorem frzL_view (z xs s):frzL (.view true z xs) s=some (.view true z xs,s):=rfl
@[simp] theorem frzL_sl (t m r id lo n tg):frzL (.sl id lo n tg) ⟨t,m,r⟩=match r.getD id .gone with
    | .row z _ xs=>some (.view true z ((xs.drop lo).take n),⟨t,m,r.set id (.row z true xs)⟩)
    | .gone=>none:=rfl
@[simp] theorem frzV_b (x s):frzV (.b x) s=some (.b x,s):=rfl
@[simp] theorem frzV_i (k n s):frzV (.i k n) s=some (.i k n,s):=rfl
@[simp] theorem frzV_s (l s):frzV (.s l) s=some (.s l,s):=rfl
@[simp] theorem frzV_nil (s):frzV .nil s=some (.nil,s):=rfl
@[simp] theorem frzV_view (z xs s):frzV (.view true z xs) s=some (.view true z xs,s):=rfl
@[simp] theorem frzV_sl (id lo n tg s):frzV (.sl id lo n tg) s=frzL (.sl id lo n tg) s:=rfl
@[simp] theorem frzV_agg (cs s):frzV (.agg cs) s=match frzs cs s with
    | some (cs',s')=>some (.agg cs',s')
    | none=>none:=rfl
@[simp] theorem frzs_nil (s):frzs [] s=some ([],s):=rfl
@[simp] theorem frzs_cons (v vs s):frzs (v :: vs) s=match frzL v s with
    | some (v',s')=>match frzs vs s' with
      | some (vs',s'')=>some (v' :: vs',s'')
      | none=>none
    | none=>none:=rfl
@[simp] theorem frzVs_nil (s):frzVs [] s=some ([],s):=rfl
@[simp] theorem frzVs_cons (v vs s):frzVs (v :: vs) s=match frzV v s with
    | some (v',s')=>match frzVs vs s' with
      | some (vs',s'')=>some (v' :: vs',s'')
      | none=>none
    | none=>none:=rfl
@[simp] theorem elSet_agg (cs off vs):elSet (.agg cs) off vs=if off+vs.length≤cs.length then some (.agg (setAt cs off vs)) else none:=rfl
@[simp] theorem elSet_i (k n off v):elSet (.i k n) off [v]=if off=0 then some v else none:=rfl
@[simp] theorem elSet_s (l off v):elSet (.s l) off [v]=if off=0 then some v else none:=rfl
@[simp] theorem elSet_b (l off v):elSet (.b l) off [v]=if off=0 then some v else none:=rfl
theorem avk {z:Nat} {xs:List V} (h:(z != 1)=true):nbOk z xs=true:=by rw [nbOk,h];rfl
attribute [simp] avk
@[simp] theorem nbOk_1 (xs):nbOk 1 xs=noBt xs:=rfl
@[simp] theorem noBt_nil:noBt []=true:=rfl
@[simp] theorem noBt_cons (v vs):noBt (v :: vs)=(!isBt v && noBt vs):=rfl
@[simp] theorem noBt_append (a b:List V):noBt (a++b)=(noBt a && noBt b):=by
  induction a with
  | nil=>rfl
  | cons v a ih=>rw [List.cons_append,noBt_cons,noBt_cons,ih,Bool.and_assoc]
theorem alt (l:List V):noBt l=true ↔ ∀ v,v ∈ l→isBt v=false:=by
  induction l with
  | nil=>simp
  | cons v l ih=>simp [ih]
theorem aeo {α:Type} (f:α→V) (h:∀ x,isBt (f x)=false) (l:List α):noBt (l.map f)=true:=by
  rw [alt];intro v hv
  obtain ⟨x,_,rfl⟩:=List.mem_map.1 hv
  exact h x
@[simp] theorem noBt_map_s (l:List (List UInt8)):noBt (l.map V.s)=true:=aeo _ (fun _=>rfl) l
@[simp] theorem noBt_map_i {α:Type} (k:IntKind) (f:α→Int) (l:List α):noBt (l.map fun x=>V.i k (f x))=true:=aeo _ (fun _=>rfl) l
@[simp] theorem noBt_map_i' (k:IntKind) (l:List Int):noBt (l.map (V.i k))=true:=aeo _ (fun _=>rfl) l
@[simp] theorem noBt_bytesV (l):noBt (bytesV l)=true:=aeo _ (fun _=>rfl) l
@[simp] theorem noBt_take {l:List V} (h:noBt l=true) (n:Nat):noBt (l.take n)=true:=by
  rw [alt] at h ⊢;exact fun v hv=>h v (List.mem_of_mem_take hv)
@[simp] theorem noBt_drop {l:List V} (h:noBt l=true) (n:Nat):noBt (l.drop n)=true:=by
  rw [alt] at h ⊢;exact fun v hv=>h v (List.mem_of_mem_drop hv)
@[simp] theorem isBt_i (k n):isBt (.i k n)=false:=rfl
@[simp] theorem isBt_s (l):isBt (.s l)=false:=rfl
@[simp] theorem isBt_b (x):isBt (.b x)=false:=rfl
@[simp] theorem isBt_agg (cs):isBt (.agg cs)=false:=rfl
@[simp] theorem isBt_view (q z xs):isBt (.view q z xs)=false:=rfl
@[simp] theorem isBt_nil:isBt .nil=false:=rfl
@[simp] theorem isBt_np:isBt .np=false:=rfl
@[simp] theorem isBt_nf:isBt .nf=false:=rfl
@[simp] theorem app_nil (t m r d y z):appV ⟨t,m,r⟩ d .nil y z=match St.cont ⟨t,m,r⟩ z y with
    | none=>none
    | some ys=>if nbOk z ys=true then (if ys.length≤lim then some (St.new ⟨t,m,r⟩ d z ys) else none) else none:=by
  unfold appV
  cases St.cont ⟨t,m,r⟩ z y <;> simp only [rowNb,Bool.and_true] <;> rfl
@[simp] theorem app_sl (t m r d id lo n tg y z):appV ⟨t,m,r⟩ d (.sl id lo n tg) y z=match St.cont ⟨t,m,r⟩ z y with
    | none=>none
    | some ys=>match r.getD id .gone with
      | .row z' fz xs=>
        if (nbOk z ys && nbOk z xs)=true then (if z'≠z then none else
        if n+ys.length≤lim then
          if tg then if ys=[] then some (St.put ⟨t,m,r⟩ d (.sl id lo n tg)) else some (St.new ⟨t,m,r⟩ d z ((xs.drop lo).take n++ys))
          else if fz=false∧lo=0 then some (St.new ⟨t,m,r.set id .gone⟩ d z (xs.take n++ys)) else none
        else none) else none
      | .gone=>none:=by
  unfold appV
  cases St.cont ⟨t,m,r⟩ z y with
  | none=>rfl
  | some ys=>
    simp only [rowNb,appR]
    cases r.getD id .gone <;> simp only [ite_self]
@[simp] theorem WI_apb {p:Prog} (is:List I) (s:St) (K:St→Prop) (d x y):WI p (.apb d x y :: is) s K=Do (apbV s d (s.ev x) (s.ev y)) (fun s'=>WI p is s' K):=aac rfl _ _ _
@[simp] theorem allBt_bytesT (l):allBt (bytesT l)=true:=by
  unfold bytesT
  induction l with
  | nil=>rfl
  | cons x l ih=>rw [List.map_cons,allBt,ih];rfl
@[simp] theorem bytesT_len (l:List UInt8):(bytesT l).length=l.length:=by simp [bytesT]
theorem aj5 (a b:List UInt8):bytesT (a++b)=bytesT a++bytesT b:=by simp [bytesT]
@[simp] theorem apb_nil (t m r d l):apbV ⟨t,m,r⟩ d .nil (.s l)=if l=[] then some (St.put ⟨t,m,r⟩ d .nil) else if l.length≤lim then some (St.new ⟨t,m,r⟩ d 1 (bytesT l)) else none:=by
  simp only [apbV,okB,if_true,appR,bytesT_len]
theorem as9 (t m r d id id2) {fm:List UInt8} {tg t2:Bool} {c:Int} (h:r.getD id .gone=.row 1 false (bytesT fm)) (h2:r.getD id2 .gone=.row 1 false [.i .u8 c]) (htg:tg=decide (fm=[])) (hl:fm.length+1≤lim):apbV ⟨t,m,r⟩ d (.sl id 0 fm.length tg) (.sl id2 0 1 t2)=
    some (if fm=[] then St.new ⟨t,m,r⟩ d 1 [.bt c] else St.new ⟨t,m,r.set id .gone⟩ d 1 (bytesT fm++[.bt c])):=by
  subst htg
  have e:(St.cont ⟨t,m,r⟩ 1 (.sl id2 0 1 t2)).bind btOf=some [.bt c]:=by
    simp only [St.cont,h2,if_true];rfl
  simp only [apbV,e,apbR,okB,appR,h,bytesT_len,decide_true,Bool.true_and,allBt_bytesT,Bool.and_true]
  by_cases h0:fm=[]
  · subst h0
    simp only [decide_true,Bool.true_or,if_true,List.length_nil] at hl ⊢
    simp [hl,bytesT]
  · have h1:0<fm.length:=List.length_pos_iff.2 h0
    simp [h0,h1,hl,List.take_of_length_le]
theorem amh (t m r d id2) {t2:Bool} {c:Int} (h2:r.getD id2 .gone=.row 1 false [.i .u8 c]):apbV ⟨t,m,r⟩ d .nil (.sl id2 0 1 t2)=some (St.new ⟨t,m,r⟩ d 1 [.bt c]):=by
  have e:(St.cont ⟨t,m,r⟩ 1 (.sl id2 0 1 t2)).bind btOf=some [.bt c]:=by
    simp only [St.cont,h2,if_true];rfl
  simp only [apbV,e,apbR,okB,appR]
  rfl
theorem aq2 (t m r d id) {fm l:List UInt8} {tg:Bool} (h:r.getD id .gone=.row 1 false (bytesT fm)) (htg:tg=decide (fm=[])) (hl:fm.length+l.length≤lim):apbV ⟨t,m,r⟩ d (.sl id 0 fm.length tg) (.s l)=
    some (if l=[] then St.put ⟨t,m,r⟩ d (.sl id 0 fm.length tg) else if fm=[] then St.new ⟨t,m,r⟩ d 1 (bytesT l) else St.new ⟨t,m,r.set id .gone⟩ d 1 (bytesT (fm++l))):=by
  subst htg
  simp only [apbV,okB,appR,h,bytesT_len,decide_true,Bool.true_and,allBt_bytesT,Bool.and_true]
  by_cases h0:fm=[]
  · subst h0
    simp only [decide_true,Bool.true_or,if_true]
    split
    · rfl
    · simp only [List.length_nil] at hl ⊢
      simp [hl,bytesT]
      rintro rfl;contradiction
  · have h1:0<fm.length:=Nat.pos_of_ne_zero fun e=>h0 (List.eq_nil_of_length_eq_zero e)
    simp only [h0,decide_false,Bool.false_or,h1,decide_true,if_true]
    split
    · rfl
    · have h2:(bytesT fm).take fm.length=bytesT fm:=List.take_of_length_le (by simp)
      simp [hl,aj5,h0,h2]
@[simp] theorem bldV_nil (s cs):bldV s cs []=some (.agg cs):=rfl
@[simp] theorem bldV_cons (s cs o z x ps):bldV s cs ((o,z,x) :: ps)=if (s.ev x).cells.all isLeaf∧(s.ev x).cells.length=z∧o+z≤cs.length then bldV s (setAt cs o (s.ev x).cells) ps else none:=rfl
@[simp] theorem leafEq_nil:leafEq [] []=some true:=rfl
@[simp] theorem leafEq_i (k a xs b ys):leafEq (.i k a :: xs) (.i k b :: ys)=(leafEq xs ys).map fun r=>decide (a=b) && r:=by simp [leafEq]
@[simp] theorem leafEq_s (a xs b ys):leafEq (.s a :: xs) (.s b :: ys)=(leafEq xs ys).map fun r=>decide (a=b) && r:=rfl
@[simp] theorem leafEq_b (a xs b ys):leafEq (.b a :: xs) (.b b :: ys)=(leafEq xs ys).map fun r=>(a == b) && r:=rfl
@[simp] theorem slc_s (s:St) (b:List UInt8) (lo hi):slcV s 0 (.s b) lo hi=(bnds b.length lo hi).map fun x=>.s ((b.take x.2).drop x.1):=rfl
@[simp] theorem slc_view (s:St) (q z xs lo hi):slcV s (z+1) (.view q (z+1) xs) lo hi=(bnds xs.length lo hi).map fun x=>.view q (z+1) ((xs.take x.2).drop x.1):=by simp [slcV]
@[simp] theorem slc_view' (s:St) (q z xs lo hi) (h:0<z):slcV s z (.view q z xs) lo hi=(bnds xs.length lo hi).map fun x=>.view q z ((xs.take x.2).drop x.1):=by
  obtain ⟨k,rfl⟩:∃ k,z=k+1:=⟨z - 1,by omega⟩
  simp [slcV]
@[simp] theorem slc_sl' (t m r) (z id a n tg lo hi) (h:0<z):slcV ⟨t,m,r⟩ z (.sl id a n tg) lo hi=match r.getD id .gone with
      | .row z' _ _=>if z'=z then (bnds n lo hi).map fun x=>.sl id (a+x.1) (x.2 - x.1) (tg && x.2 == n) else none
      | .gone=>none:=by
  obtain ⟨k,rfl⟩:∃ k,z=k+1:=⟨z - 1,by omega⟩
  rfl
@[simp] theorem bnds_nn (n:Nat):bnds n none none=some (0,n):=by simp [bnds]
@[simp] theorem bnds_sn (n:Nat) (k:IntKind) (l:Int):bnds n (some (.i k l)) none=if 0≤l∧l≤n then some (l.toNat,n) else none:=by simp [bnds,asN]
@[simp] theorem bnds_ns (n:Nat) (k:IntKind) (h:Int):bnds n none (some (.i k h))=if 0≤h∧h≤n then some (0,h.toNat) else none:=by simp [bnds,asN]
@[simp] theorem bnds_ss (n:Nat) (k k':IntKind) (l h:Int):bnds n (some (.i k l)) (some (.i k' h))=if 0≤l∧l≤h∧h≤n then some (l.toNat,h.toNat) else none:=by simp [bnds,asN]
@[simp] theorem cont_nil (s z):St.cont s z .nil=some []:=rfl
@[simp] theorem cont_view (s z q xs):St.cont s z (.view q z xs)=some xs:=by simp [St.cont]
@[simp] theorem cont_s (s l):St.cont s 1 (.s l)=some (bytesV l):=rfl
@[simp] theorem cont_sl (t m r z id lo n tg):St.cont ⟨t,m,r⟩ z (.sl id lo n tg)=match r.getD id .gone with
    | .row z' _ xs=>if z'=z then some ((xs.drop lo).take n) else none
    | .gone=>none:=rfl
theorem aer:∀ l:List UInt8,vbytes (bytesV l)=some l
  | []=>rfl
  | b :: l=>by
    have:=aer l
    simp only [bytesV,List.map_cons,vbytes] at this ⊢
    rw [this];simp
attribute [simp] aer
@[simp] theorem new_mk (t m r d z xs):St.new ⟨t,m,r⟩ d z xs=⟨t.set d (.sl r.length 0 xs.length false),m,r++[.row z false xs]⟩:=rfl
@[simp] theorem mks_i (s d z el k k' n c):mksV s d z el (.i k n) (.i k' c)=if 0≤n∧n≤c∧c≤lim then some (s.new d z (List.replicate n.toNat el)) else none:=rfl
theorem aqk {α:Type} {l:List α} {n:Nat} (h:n<l.length):∃ a,l[n]?=some a∧l.drop n=a :: l.drop (n+1):=⟨l[n],by simp [h],by simp⟩
@[simp] theorem wrap_i64 {n:Int} (h0:-9223372036854775808≤n) (h1:n≤9223372036854775807):IntKind.i64.wrap n=n:=by
  simp [IntKind.wrap,IntKind.bits,IntKind.signed];split <;> omega
@[simp] theorem wrap_u8 {n:Int} (h0:0≤n) (h1:n≤255):IntKind.u8.wrap n=n:=by
  simp [IntKind.wrap,IntKind.bits,IntKind.signed];omega
@[simp] theorem wrap_u64 {n:Int} (h0:0≤n) (h1:n≤18446744073709551615):IntKind.u64.wrap n=n:=by
  simp [IntKind.wrap,IntKind.bits,IntKind.signed];omega
@[simp] theorem wrap_u32 {n:Int} (h0:0≤n) (h1:n≤4294967295):IntKind.u32.wrap n=n:=by
  simp [IntKind.wrap,IntKind.bits,IntKind.signed];omega
end Go.VS
end
section
namespace Go.VS
def kp:List Nat→List (Nat × V)→List (Nat × V)
  | [],_=>[]
  | k :: lv,l=>(k,lk k l) :: kp lv l
attribute [simp] kp
theorem lk_kp (l:List (Nat × V)) (j:Nat):∀ lv:List Nat,lk j (kp lv l)=if j ∈ lv then lk j l else .no
  | []=>by simp
  | k :: lv=>by
    simp only [kp,lk,lk_kp l j lv,List.mem_cons,beq_iff_eq]
    by_cases h:k=j
    · subst h;simp
    · have h':¬ j=k:=fun e=>h e.symm
      simp [h,h']
theorem am5 (lv:List Nat):∀ (ts:List V) (k j:Nat),(keep lv k ts)[j]?=(ts[j]?).map fun v=>if k+j ∈ lv then v else .no
  | [],_,_=>by simp [keep]
  | t :: ts,k,j=>by
    cases j with
    | zero=>simp [keep]
    | succ j=>simp only [keep,List.getElem?_cons_succ,am5 lv ts (k+1) j];rw [show k+1+j=k+(j+1) by omega]
theorem aol (lv:List Nat) (n:Nat) (l:List (Nat × V)):keep lv 0 (sp n l)=sp n (kp lv l):=by
  apply List.ext_getElem?
  intro j
  rw [am5,sp_get,sp_get,lk_kp,Nat.zero_add]
  by_cases h:j<n
  · rw [if_pos h,if_pos h];rfl
  · rw [if_neg h,if_neg h];rfl
theorem map_sp (f:V→V) (hf:f .no=.no) (n:Nat) (l:List (Nat × V)):(sp n l).map f=sp n (l.map fun x=>(x.1,f x.2)):=by
  apply List.ext_getElem?
  intro j
  rw [List.getElem?_map,sp_get,sp_get]
  have:∀ l:List (Nat × V),f (lk j l)=lk j (l.map fun x=>(x.1,f x.2)):=by
    intro l
    induction l with
    | nil=>simpa [lk] using hf
    | cons x l ih=>
      obtain ⟨d,v⟩:=x
      simp only [lk,List.map_cons]
      split
      · rfl
      · exact ih
  split
  · rw [Option.map_some,this]
  · rfl
def srt:Nat→Nat→List Nat→Bool
  | _,_,[]=>true
  | a,n,k :: ks=>decide (a≤k) && decide (k<n) && srt (k+1) n ks
def ridsE (r:List Rw) (ids:List Nat):List (Nat × V)→List Nat
  | []=>ids
  | x :: l=>ridsE r (rids r ids x.2.leaves) l
theorem ain (ids:List Nat):∀ vs:List V,rids [] ids vs=ids:=by
  intro vs
  unfold rids
  induction vs with
  | nil=>rfl
  | cons v vs ih=>
    have:ridL [] ids v=ids:=by
      cases v <;> simp [ridL]
    rw [List.foldl_cons,this,ih]
theorem al2 (r:List Rw) (ids:List Nat) (us vs:List V):rids r ids (us++vs)=rids r (rids r ids us) vs:=List.foldl_append ..
theorem ajp (r:List Rw) (n:Nat) (l:List (Nat × V)):∀ (c a:Nat) (ids:List Nat) (lv:List Nat),a+c=n→srt a n lv=true →
    rids r ids (((List.range' a c).map fun k=>lk k (kp lv l)).flatMap V.leaves)=ridsE r ids (kp lv l)
  | 0,a,ids,lv,h,hs=>by
    cases lv with
    | nil=>rfl
    | cons k ks=>
      simp [srt] at hs
      omega
  | c+1,a,ids,lv,h,hs=>by
    rw [List.range'_succ,List.map_cons,List.flatMap_cons,al2]
    have skip:∀ (lv:List Nat),(∀ k,k ∈ lv→k≠a)→rids r ids (V.leaves (lk a (kp lv l)))=ids:=by
      intro lv hn
      rw [lk_kp,if_neg (fun hm=>hn a hm rfl)]
      rfl
    have big:∀ (b:Nat) (lv:List Nat),srt b n lv=true→∀ k,k ∈ lv→b≤k:=by
      intro b lv
      induction lv generalizing b with
      | nil=>intro _ k hk;simp at hk
      | cons k ks ih=>
        intro hs k' hk
        simp only [srt,Bool.and_eq_true,decide_eq_true_eq] at hs
        rcases List.mem_cons.1 hk with rfl | hk
        · exact hs.1.1
        · have:=ih (k+1) hs.2 k' hk
          omega
    cases lv with
    | nil=>
      rw [skip [] (by simp)]
      exact ajp r n l c (a+1) ids [] (by omega) rfl
    | cons k ks=>
      have hs':=hs
      simp only [srt,Bool.and_eq_true,decide_eq_true_eq] at hs'
      by_cases hk:k=a
      · subst hk
        have hgt:∀ j,j ∈ List.range' (k+1) c→lk j (kp (k :: ks) l)=lk j (kp ks l):=by
          intro j hj
          have hj:=(List.mem_range'_1.1 hj).1
          rw [lk_kp,lk_kp]
          have:¬ j=k:=by omega
          simp [this]
        rw [List.map_congr_left hgt]
        simp only [kp,lk_hit,ridsE]
        exact ajp r n l c (k+1) _ ks (by omega) hs'.2
      · rw [skip (k :: ks) (fun k' hk'=>by
          rcases List.mem_cons.1 hk' with rfl | h'
          · exact hk
          · have:=big _ _ hs'.2 k' h';omega)]
        refine ajp r n l c (a+1) ids (k :: ks) (by omega) ?_
        simp only [srt,Bool.and_eq_true,decide_eq_true_eq]
        exact ⟨⟨by omega,hs'.1.2⟩,hs'.2⟩
def canE (nb n:Nat) (e:List (Nat × V)) (m:List (List V)) (r:List Rw) (ids:List Nat):St:=⟨sp n (e.map fun x=>(x.1,x.2.mapL (renL nb ids))),m.map fun cs=>cs.map (renL nb ids),ids.map fun id=>r.getD id .gone⟩
theorem ao8 {n:Nat} {lv:List Nat} (h:srt 0 n lv=true) (l:List (Nat × V)) (m:List (List V)) (r:List Rw) (nb:Nat):
    St.canon ⟨sp n l,m,r⟩ lv nb=canE nb n (kp lv l) (m.take nb) r (ridsE r (rids r [] ((m.take nb).flatMap fun cs=>cs)) (kp lv l)):=by
  simp only [St.canon,aol,al2]
  have:=ajp r n l n 0 (rids r [] ((m.take nb).flatMap fun cs=>cs)) lv (by omega) h
  rw [← List.range_eq_range'] at this
  rw [show sp n (kp lv l)=(List.range n).map (fun k=>lk k (kp lv l)) from rfl,this]
  rw [show (List.range n).map (fun k=>lk k (kp lv l))=sp n (kp lv l) from rfl,map_sp _ rfl]
  rfl
theorem ajo (ids:List Nat):∀ l:List (Nat × V),ridsE [] ids l=ids
  | []=>rfl
  | x :: l=>by rw [ridsE,ain,ajo ids l]
@[simp] theorem canon_sp0 {n:Nat} {lv:List Nat} (h:srt 0 n lv=true) (l:List (Nat × V)) (m:List (List V)) (nb:Nat):
    St.canon ⟨sp n l,m,[]⟩ lv nb=⟨sp n ((kp lv l).map fun x=>(x.1,x.2.mapL (renL nb []))),(m.take nb).map fun cs=>cs.map (renL nb []),[]⟩:=by
  rw [ao8 h,ain,ajo];rfl
@[simp] theorem canon_spr {n:Nat} {lv:List Nat} (h:srt 0 n lv=true) (l:List (Nat × V)) (m:List (List V)) (w:Rw) (r:List Rw) (nb:Nat):
    St.canon ⟨sp n l,m,w :: r⟩ lv nb=canE nb n (kp lv l) (m.take nb) (w :: r) (ridsE (w :: r) (rids (w :: r) [] ((m.take nb).flatMap fun cs=>cs)) (kp lv l)):=ao8 h l m _ nb
@[simp] theorem srt_nil (a n:Nat):srt a n []=true:=(Eq.refl true).trans (Eq.refl true)
@[simp] theorem srt_cons (a n k:Nat) (ks:List Nat):srt a n (k :: ks)=(decide (a≤k) && decide (k<n) && srt (k+1) n ks):=(Eq.refl (srt a n (k :: ks))).trans (Eq.refl (srt a n (k :: ks)))
attribute [simp] ridsE canE ridL V.leaves List.idxOf_cons
@[simp] theorem rids_cons (r ids v vs):rids r ids (v :: vs)=rids r (ridL r ids v) vs:=rfl
@[simp] theorem rids_nil' (r ids):rids r ids []=ids:=rfl
@[simp] theorem head_mk (s:St) (lv ow nb):St.head s lv ow [] nb=St.canon (St.ownT s ow) lv nb:=rfl
@[simp] theorem head_om (s:St) (lv ow b o z om nb) (hb:b≠1000000) (hb2:b≠3000000):St.head s lv ow ((b,o,z) :: om) nb=St.canon (St.ownM (St.ownT s ow) ((b,o,z) :: om)) lv nb:=by
  unfold St.head
  split
  · rename_i h;cases h;exact absurd rfl hb2
  · rename_i h;cases h;exact absurd rfl hb
  · rfl
@[simp] theorem head_gl {n:Nat} (l:List (Nat × V)) (m:List (List V)) (r:List Rw) (lv ow a b om nb):St.head ⟨sp n l,m,r⟩ lv ow ((3000000,a,b) :: om) nb=⟨sp n (kp lv l),m,r⟩:=by
  show St.mk (keep lv 0 (sp n l)) m r=_
  rw [aol]
@[simp] theorem head_pin (s:St) (lv ow pc z om nb):St.head s lv ow ((1000000,pc,z) :: om) nb=St.canonP pc (St.ownM (St.ownT s ow) om) lv nb:=rfl
theorem amm {n:Nat} {lv:List Nat} (h:srt 0 n lv=true) (pc:Nat) (l:List (Nat × V)) (m:List (List V)) (r:List Rw) (nb:Nat):
    St.canonP pc ⟨sp n l,m,r⟩ lv nb=canE nb n (kp lv l) (m.take nb) r (ridsE r (rids r (List.range pc) ((m.take nb).flatMap fun cs=>cs)) (kp lv l)):=by
  simp only [St.canonP,aol,al2]
  have:=ajp r n l n 0 (rids r (List.range pc) ((m.take nb).flatMap fun cs=>cs)) lv (by omega) h
  rw [← List.range_eq_range'] at this
  rw [show sp n (kp lv l)=(List.range n).map (fun k=>lk k (kp lv l)) from rfl,this]
  rw [show (List.range n).map (fun k=>lk k (kp lv l))=sp n (kp lv l) from rfl,map_sp _ rfl]
  rfl
@[simp] theorem range_1:List.range 1=[0]:=rfl
@[simp] theorem range_2:List.range 2=[0,1]:=rfl
@[simp] theorem canonP_spr {n:Nat} {lv:List Nat} (h:srt 0 n lv=true) (pc:Nat) (l:List (Nat × V)) (m:List (List V)) (w:Rw) (r:List Rw) (nb:Nat):
    St.canonP pc ⟨sp n l,m,w :: r⟩ lv nb=canE nb n (kp lv l) (m.take nb) (w :: r) (ridsE (w :: r) (rids (w :: r) (List.range pc) ((m.take nb).flatMap fun cs=>cs)) (kp lv l)):=amm h pc l m _ nb
@[simp] theorem ownT_nil (s:St):St.ownT s []=s:=rfl
@[simp] theorem ownM_nil (s:St):St.ownM s []=s:=rfl
@[simp] theorem ownT_cons (t m r d z l):St.ownT ⟨t,m,r⟩ ((d,z) :: l)=St.ownT (match gt t d with | .nil=>St.new ⟨t,m,r⟩ d z [] | _=>⟨t,m,r⟩) l:=rfl
@[simp] theorem ownM_cons (t m r b o z l):St.ownM ⟨t,m,r⟩ ((b,o,z) :: l)=St.ownM (match (m.getD b []).getD o .no with
    | .nil=>⟨t,m.set b ((m.getD b []).set o (.sl r.length 0 0 (decide (5000≤z)))),r++[.row (if 5000≤z then z - 5000 else z) false []]⟩ | _=>⟨t,m,r⟩) l:=rfl
section
variable (nb:Nat) (ids:List Nat)
@[simp] theorem renL_b (x):renL nb ids (.b x)=.b x:=rfl
@[simp] theorem renL_i (k n):renL nb ids (.i k n)=.i k n:=rfl
@[simp] theorem renL_s (l):renL nb ids (.s l)=.s l:=rfl
@[simp] theorem renL_nil:renL nb ids .nil=.nil:=rfl
@[simp] theorem renL_np:renL nb ids .np=.np:=rfl
@[simp] theorem renL_bz:renL nb ids .bz=.bz:=rfl
@[simp] theorem renL_nf:renL nb ids .nf=.nf:=rfl
@[simp] theorem renL_no:renL nb ids .no=.no:=rfl
@[simp] theorem renL_tup (vs):renL nb ids (.tup vs)=.no:=rfl
@[simp] theorem renL_view (q z xs):renL nb ids (.view q z xs)=.view q z xs:=rfl
@[simp] theorem renL_vp (cs):renL nb ids (.vp cs)=.vp cs:=rfl
@[simp] theorem renL_sl (id lo n tg):renL nb ids (.sl id lo n tg)=if id ∈ ids then .sl (ids.idxOf id) lo n tg else .no:=rfl
@[simp] theorem renL_ptr (id off):renL nb ids (.ptr id off)=if id<nb then .ptr id off else .no:=rfl
@[simp] theorem renL_ep (a b c):renL nb ids (.ep a b c)=.no:=rfl
@[simp] theorem renL_fn (a b):renL nb ids (.fn a b)=.no:=rfl
end
section
variable (f:V→V)
@[simp] theorem mapL_b (x):V.mapL f (.b x)=f (.b x):=rfl
@[simp] theorem mapL_i (k n):V.mapL f (.i k n)=f (.i k n):=rfl
@[simp] theorem mapL_s (l):V.mapL f (.s l)=f (.s l):=rfl
@[simp] theorem mapL_nil:V.mapL f .nil=f .nil:=rfl
@[simp] theorem mapL_np:V.mapL f .np=f .np:=rfl
@[simp] theorem mapL_bz:V.mapL f .bz=f .bz:=rfl
@[simp] theorem mapL_nf:V.mapL f .nf=f .nf:=rfl
@[simp] theorem mapL_no:V.mapL f .no=f .no:=rfl
@[simp] theorem mapL_view (q z xs):V.mapL f (.view q z xs)=f (.view q z xs):=rfl
@[simp] theorem mapL_vp (cs):V.mapL f (.vp cs)=f (.vp cs):=rfl
@[simp] theorem mapL_sl (id lo n tg):V.mapL f (.sl id lo n tg)=f (.sl id lo n tg):=rfl
@[simp] theorem mapL_ptr (id off):V.mapL f (.ptr id off)=f (.ptr id off):=rfl
@[simp] theorem mapL_ep (a b c):V.mapL f (.ep a b c)=f (.ep a b c):=rfl
@[simp] theorem mapL_fn (k caps):V.mapL f (.fn k caps)=.fn k (caps.map f):=rfl
@[simp] theorem mapL_agg (cs):V.mapL f (.agg cs)=.agg (cs.map f):=rfl
def mapT (f:V→V):V→V
  | .agg cs=>.agg (cs.map f)
  | v=>f v
@[simp] theorem mapL_tup (vs):V.mapL f (.tup vs)=.tup (vs.map (mapT f)):=rfl
@[simp] theorem mapT_b (x):mapT f (.b x)=f (.b x):=rfl
@[simp] theorem mapT_i (k n):mapT f (.i k n)=f (.i k n):=rfl
@[simp] theorem mapT_s (l):mapT f (.s l)=f (.s l):=rfl
@[simp] theorem mapT_nil:mapT f .nil=f .nil:=rfl
@[simp] theorem mapT_np:mapT f .np=f .np:=rfl
@[simp] theorem mapT_bz:mapT f .bz=f .bz:=rfl
@[simp] theorem mapT_nf:mapT f .nf=f .nf:=rfl
@[simp] theorem mapT_no:mapT f .no=f .no:=rfl
@[simp] theorem mapT_view (q z xs):mapT f (.view q z xs)=f (.view q z xs):=rfl
@[simp] theorem mapT_sl (id lo n tg):mapT f (.sl id lo n tg)=f (.sl id lo n tg):=rfl
@[simp] theorem mapT_ptr (id off):mapT f (.ptr id off)=f (.ptr id off):=rfl
@[simp] theorem mapT_fn (a b):mapT f (.fn a b)=f (.fn a b):=rfl
@[simp] theorem mapT_agg (cs):mapT f (.agg cs)=.agg (cs.map f):=rfl
end
section
variable (bl:List (Nat × Nat × Nat)) (base:Nat)
@[simp] theorem impL_b (x):impL bl base (.b x)=.b x:=rfl
@[simp] theorem impL_i (k n):impL bl base (.i k n)=.i k n:=rfl
@[simp] theorem impL_s (l):impL bl base (.s l)=.s l:=rfl
@[simp] theorem impL_nil:impL bl base .nil=.nil:=rfl
@[simp] theorem impL_np:impL bl base .np=.np:=rfl
@[simp] theorem impL_bz:impL bl base .bz=.bz:=rfl
@[simp] theorem impL_nf:impL bl base .nf=.nf:=rfl
@[simp] theorem impL_no:impL bl base .no=.no:=rfl
@[simp] theorem impL_view (q z xs):impL bl base (.view q z xs)=.view q z xs:=rfl
@[simp] theorem impL_sl (id lo n tg):impL bl base (.sl id lo n tg)=.sl (base+id) lo n tg:=rfl
@[simp] theorem impL_ptr (j o):impL bl base (.ptr j o)=match bl[j]? with | some (id,off,_)=>.ptr id (off+o) | none=>.no:=rfl
@[simp] theorem impL_fn (a b):impL bl base (.fn a b)=.fn a b:=rfl
end
def allB:List (X × Md)→Bool
  | []=>true
  | (_,.b _) :: as=>allB as
  | _=>false
@[simp] theorem allB_nil:allB []=true:=(Eq.refl true).trans (Eq.refl true)
@[simp] theorem allB_b (x:X) (k:Nat) (as:List (X × Md)):allB ((x,.b k) :: as)=allB as:=(Eq.refl (allB as)).trans (Eq.refl (allB as))
@[simp] theorem allB_m (x:X) (k:Nat) (as:List (X × Md)):allB ((x,.m k) :: as)=false:=(Eq.refl false).trans (Eq.refl false)
def lendsB (s:St):List (X × Md)→List V
  | []=>[]
  | (x,.b k) :: as=>lendA s ⟨[],[]⟩ k (s.ev x) :: lendsB s as
  | (_,.m _) :: as=>.no :: lendsB s as
attribute [simp] lendsB
theorem aob (s:St) (xp:Xp):∀ (as:List (X × Md)),allB as=true→expAs s as xp=some (as.map fun _=>V.no,xp)
  | [],_=>rfl
  | (x,.b k) :: as,h=>by simp only [expAs,aob s xp as h,List.map_cons]
  | (x,.m k) :: as,h=>by simp [allB] at h
theorem aop (s:St):∀ (as:List (X × Md)),allB as=true→lends s ⟨[],[]⟩ as (as.map fun _=>V.no)=lendsB s as
  | [],_=>rfl
  | (x,.b k) :: as,h=>by simp only [lends,List.map_cons,lendsB];rw [aop s as h]
  | (x,.m k) :: as,h=>by simp [allB] at h
theorem expo_b (s:St) (as:List (X × Md)) (h:allB as=true):expo s as []=some (⟨lendsB s as,[],[]⟩,⟨[],[]⟩):=by
  simp only [expo,aob s _ as h,expLs,expBl,List.getElem?_nil,List.append_nil,List.map_nil,aop s as h]
def impB (s:St) (d:Option Nat) (o:Out):St:=(St.mk s.t s.m (s.r++o.2.2)).putO d (o.1.mapL (impL [] s.r.length))
@[simp] theorem impB_mk (t m r d v m' r'):impB ⟨t,m,r⟩ d (v,m',r')=(St.mk t m (r++r')).putO d (v.mapL (impL [] r.length)):=rfl
theorem am2 (f:Nat) (s:St) (bl:List (Nat × Nat × Nat)) (d:Option Nat) (v:V) (m:List (List V)) (r:List Rw):impoF f s ⟨bl,[]⟩ d v m r=impo s ⟨bl,[]⟩ d v m r:=by
  unfold impoF backs
  split <;> rfl
@[simp high] theorem WI_callB {p:Prog} (d:Option Nat) (f:Nat) (as:List (X × Md)) (is:List I) (s:St) (K:St→Prop) (h:allB as=true):
    WI p (.call d f as :: is) s K=Call p f ⟨lendsB s as,[],[]⟩ (fun o=>WI p is (impB s d o) K):=by
  rw [an3,expo_b s as h,aku]
  refine congrArg _ (funext fun o=>?_)
  rw [am2]
  rfl
attribute [simp] an3
section
variable (s:St) (xp:Xp) (n k:Nat)
@[simp] theorem lend_b (x):lend s xp (n+1) (.b x)=.b x:=rfl
@[simp] theorem lend_i (k x):lend s xp (n+1) (.i k x)=.i k x:=rfl
@[simp] theorem lend_s (x):lend s xp (n+1) (.s x)=.s x:=rfl
@[simp] theorem lend_nil:lend s xp (n+1) .nil=.nil:=rfl
@[simp] theorem lend_np:lend s xp (n+1) .np=.np:=rfl
@[simp] theorem lend_bz:lend s xp (n+1) .bz=.bz:=rfl
@[simp] theorem lend_nf:lend s xp (n+1) .nf=.nf:=rfl
@[simp] theorem lend_no:lend s xp (n+1) .no=.no:=rfl
@[simp] theorem lend_view (q z xs):lend s xp (n+1) (.view q z xs)=.view q z xs:=rfl
@[simp] theorem lend_vp (cs):lend s xp (n+1) (.vp cs)=.vp cs:=rfl
@[simp] theorem lend_agg (cs):lend s xp (n+1) (.agg cs)=.agg (cs.map (lend s xp n)):=rfl
@[simp] theorem lend_fn (f cs):lend s xp (n+1) (.fn f cs)=.fn f (cs.map (lend s xp n)):=rfl
@[simp] theorem lend_sl (t m r id lo k tg):lend ⟨t,m,r⟩ xp (n+1) (.sl id lo k tg)=match r.getD id .gone with
      | .row z true xs=>.view true z ((xs.drop lo).take k)
      | .row z false xs=>if id ∈ xp.rw then .no else .view false z ((xs.drop lo).take k)
      | .gone=>.no:=rfl
@[simp] theorem lend_ptr (t m r id off):lend ⟨t,m,r⟩ xp (n+1) (.ptr id off)=if clashes id off ((m.getD id []).length - off) xp.bl then .no else .vp (((m.getD id []).drop off).map (lend ⟨t,m,r⟩ xp n)):=rfl
@[simp] theorem lend_ep (t m r id idx off):lend ⟨t,m,r⟩ xp (n+1) (.ep id idx off)=match r.getD id .gone with
      | .row _ fz xs=>if fz=false∧id ∈ xp.rw then .no else .vp ((xs.getD idx .no).cells.drop off)
      | .gone=>.no:=rfl
@[simp] theorem lendA_b (x):lendA s xp k (.b x)=.b x:=rfl
@[simp] theorem lendA_i (k' x):lendA s xp k (.i k' x)=.i k' x:=rfl
@[simp] theorem lendA_s (x):lendA s xp k (.s x)=.s x:=rfl
@[simp] theorem lendA_nil:lendA s xp k .nil=if k=0 then .nil else .view true k []:=rfl
@[simp] theorem lendA_np:lendA s xp k .np=.np:=rfl
@[simp] theorem lendA_bz:lendA s xp k .bz=.bz:=rfl
@[simp] theorem lendA_nf:lendA s xp k .nf=.nf:=rfl
@[simp] theorem lendA_no:lendA s xp k .no=.no:=rfl
@[simp] theorem lendA_view (q z xs):lendA s xp k (.view q z xs)=.view q z xs:=rfl
@[simp] theorem lendA_vp (cs):lendA s xp k (.vp cs)=if k=0 then .vp cs else .vp (cs.take k):=rfl
@[simp] theorem lendA_agg (cs):lendA s xp k (.agg cs)=.agg (cs.map (lend s xp 3)):=rfl
@[simp] theorem lendA_fn (f cs):lendA s xp k (.fn f cs)=.fn f (cs.map (lend s xp 3)):=rfl
@[simp] theorem lendA_sl (t m r id lo k' tg):lendA ⟨t,m,r⟩ xp k (.sl id lo k' tg)=match r.getD id .gone with
      | .row z true xs=>.view true z ((xs.drop lo).take k')
      | .row z false xs=>if id ∈ xp.rw then .no else .view false z ((xs.drop lo).take k')
      | .gone=>.no:=by
  unfold lendA
  simp only [lend_sl]
  cases r.getD id .gone with
  | row z fz xs=>
    cases fz with
    | true=>rfl
    | false=>simp only;by_cases h:id ∈ xp.rw <;> simp only [h,if_true,if_false]
  | gone=>rfl
@[simp] theorem lendA_ptr (t m r id off):lendA ⟨t,m,r⟩ xp k (.ptr id off)=if k=0 then lend ⟨t,m,r⟩ xp 4 (.ptr id off) else if clashes id off k xp.bl then .no else .vp ((((m.getD id []).drop off).take k).map (lend ⟨t,m,r⟩ xp 3)):=rfl
@[simp] theorem clashes_nil (id off k):clashes id off k []=false:=rfl
end
attribute [simp] expo expAs expV expL expLs expBl lends impo impoF backs impM gones findBl isLent
def outV (m:List (List V)) (r:List Rw) (nb:Nat) (v:V):Option Out:=
  if v.leaves.all (okRet nb)∧(m.take nb).all (·.all (okRet nb)) then
    some (v.mapL (renL nb (rids r [] (v.leaves++(m.take nb).flatMap fun cs=>cs))),((m.take nb).map fun cs=>cs.map (renL nb (rids r [] (v.leaves++(m.take nb).flatMap fun cs=>cs)))),
      (rids r [] (v.leaves++(m.take nb).flatMap fun cs=>cs)).map fun id=>r.getD id .gone)
  else none
theorem out_eq (t m r rs nb):St.out ⟨t,m,r⟩ rs nb=(St.res ⟨t,m,r⟩ rs).bind (outV m r nb):=by
  unfold St.out
  cases St.res ⟨t,m,r⟩ rs with
  | none=>rfl
  | some v=>rfl
@[simp] theorem Do_out (t m r rs nb) (K:Out→Prop):DoO (St.out ⟨t,m,r⟩ rs nb) K=DoV (St.res ⟨t,m,r⟩ rs) (fun v=>DoO (outV m r nb v) K):=by
  rw [out_eq]
  apply propext
  constructor
  · rintro ⟨o,h,hk⟩
    obtain ⟨v,hv,h2⟩:=Option.bind_eq_some_iff.1 h
    exact ⟨v,hv,o,h2,hk⟩
  · rintro ⟨v,hv,o,ho,hk⟩
    exact ⟨o,by rw [hv];exact ho,hk⟩
@[simp] theorem outV_00 (m) (v:V):outV m [] 0 v=if v.leaves.all (okRet 0) then some (v.mapL (renL 0 []),[],[]) else none:=by
  simp [outV,ain]
@[simp] theorem outV_r0 (m w r) (v:V):outV m (w :: r) 0 v=if v.leaves.all (okRet 0) then some (v.mapL (renL 0 (rids (w :: r) [] v.leaves)),[],(rids (w :: r) [] v.leaves).map fun id=>(w :: r).getD id .gone) else none:=by
  simp [outV]
@[simp] theorem outV_s (m r nb) (v:V):outV m r (nb+1) v=if v.leaves.all (okRet (nb+1))∧(m.take (nb+1)).all (·.all (okRet (nb+1))) then
    some (v.mapL (renL (nb+1) (rids r [] (v.leaves++(m.take (nb+1)).flatMap fun cs=>cs))),((m.take (nb+1)).map fun cs=>cs.map (renL (nb+1) (rids r [] (v.leaves++(m.take (nb+1)).flatMap fun cs=>cs)))),
      (rids r [] (v.leaves++(m.take (nb+1)).flatMap fun cs=>cs)).map fun id=>r.getD id .gone)
  else none:=rfl
def outW (pc:Nat) (m:List (List V)) (r:List Rw) (nb:Nat) (v:V):Option Out:=
  if v.leaves.all (okRet nb)∧(m.take nb).all (·.all (okRet nb)) then
    some (v.mapL (renL nb (rids r (List.range pc) (v.leaves++(m.take nb).flatMap fun cs=>cs))),((m.take nb).map fun cs=>cs.map (renL nb (rids r (List.range pc) (v.leaves++(m.take nb).flatMap fun cs=>cs)))),
      (rids r (List.range pc) (v.leaves++(m.take nb).flatMap fun cs=>cs)).map fun id=>r.getD id .gone)
  else none
@[simp] theorem Do_outP (pc t m r rs nb) (K:Out→Prop):DoO (St.outP pc ⟨t,m,r⟩ rs nb) K=DoV (St.res ⟨t,m,r⟩ rs) (fun v=>DoO (outW pc m r nb v) K):=by
  have e:St.outP pc ⟨t,m,r⟩ rs nb=(St.res ⟨t,m,r⟩ rs).bind (outW pc m r nb):=by
    unfold St.outP
    cases St.res ⟨t,m,r⟩ rs with
    | none=>rfl
    | some v=>rfl
  rw [e]
  apply propext
  constructor
  · rintro ⟨o,h,hk⟩
    obtain ⟨v,hv,h2⟩:=Option.bind_eq_some_iff.1 h
    exact ⟨v,hv,o,h2,hk⟩
  · rintro ⟨v,hv,o,ho,hk⟩
    exact ⟨o,by rw [hv];exact ho,hk⟩
@[simp] theorem outW_00 (pc m r) (v:V):outW pc m r 0 v=if v.leaves.all (okRet 0) then some (v.mapL (renL 0 (rids r (List.range pc) v.leaves)),[],(rids r (List.range pc) v.leaves).map fun id=>r.getD id .gone) else none:=by
  simp [outW]
attribute [simp] finP_n finP_r
attribute [simp] okRet
@[simp] theorem res_1 (s:St) (r:Rs):St.res s [r]=s.res1 r:=rfl
@[simp] theorem res_2 (s:St) (a b:Rs):St.res s [a,b]=(s.resL [a,b]).map .tup:=rfl
@[simp] theorem res_3 (s:St) (a b c:Rs):St.res s [a,b,c]=(s.resL [a,b,c]).map .tup:=rfl
@[simp] theorem res_4 (s:St) (a b c d:Rs):St.res s [a,b,c,d]=(s.resL [a,b,c,d]).map .tup:=rfl
@[simp] theorem res_0 (s:St):St.res s []=some (.tup []):=rfl
@[simp] theorem res1_t (t m r n):St.res1 ⟨t,m,r⟩ (.t n)=some (gt t n):=rfl
@[simp] theorem res1_c (t m r n z ag):St.res1 ⟨t,m,r⟩ (.c n z ag)=loadV ⟨t,m,r⟩ (gt t n) z ag:=rfl
attribute [simp] St.resL
theorem aar {p:Prog} {f np nt:Nat} {rs:List Rs} {body:C} (hp:p f=some (.ir np nt rs body)) (vs:List V) (m:List (List V)) (r:List Rw) (hl:vs.length=np) (hn:np≤nt) (K:Out→Prop):
    Call p f ⟨vs,m,r⟩ K=W p body ⟨sp nt (en 0 vs),m,r⟩ (finQ rs m.length K):=by
  subst hl
  rw [aun hp _ rfl,app_sp,show vs.length+(nt - vs.length)=nt by omega]
theorem abo {p:Prog} {f np nt:Nat} {rs:List Rs} {body:C} (hp:p f=some (.fin np nt rs body)) (vs:List V) (m:List (List V)) (r:List Rw) (hl:vs.length=np) (hn:np≤nt) (K:Out→Prop):
    Call p f ⟨vs,m,r⟩ K=W p body ⟨sp nt (en 0 vs),m,r⟩ (finF rs m.length K):=by
  subst hl
  rw [as0 hp _ rfl,app_sp,show vs.length+(nt - vs.length)=nt by omega]
attribute [simp] finF_n finF_r
def DoT (o:Option (V × St)) (K:V→St→Prop):Prop:=∃ v s,o=some (v,s)∧K v s
@[congr] theorem DoT_congr {o o':Option (V × St)} {K:V→St→Prop} (h:Tag o=o'):DoT o K=DoT o' K:=by rw [← h,Tag_eq]
@[simp] theorem DoT_some (v:V) (s:St) (K:V→St→Prop):DoT (some (v,s)) K=K v s:=by
  apply propext;constructor
  · rintro ⟨a,b,h,hk⟩;cases h;exact hk
  · intro h;exact ⟨_,_,rfl,h⟩
@[simp] theorem Do_outF (t m r rs nb) (K:Out→Prop):DoO (St.outF ⟨t,m,r⟩ rs nb) K=DoV (St.res ⟨t,m,r⟩ rs) (fun v=>DoT (frzT v ⟨t,m,r⟩) (fun v' s'=>DoO (outV s'.m s'.r nb v') K)):=by
  have e:∀ (v':V) (s':St),(St.mk [v'] s'.m s'.r).out [.t 0] nb=outV s'.m s'.r nb v':=fun v' s'=>by rw [out_eq];rfl
  unfold St.outF
  simp only [e,Tag_eq]
  apply propext
  constructor
  · rintro ⟨o,h,hk⟩
    split at h
    · cases h
    · rename_i v hv
      split at h
      · cases h
      · rename_i v' s' h2
        exact ⟨v,hv,v',s',h2,o,h,hk⟩
  · rintro ⟨v,hv,v',s',h2,o,h,hk⟩
    refine ⟨o,?_,hk⟩
    rw [hv]
    simp only [h2]
    exact h
@[simp] theorem frzT_agg (cs s):frzT (.agg cs) s=frzV (.agg cs) s:=rfl
@[simp] theorem frzT_tup (vs s):frzT (.tup vs) s=match frzVs vs s with
    | some (vs',s')=>some (.tup vs',s')
    | none=>none:=rfl
@[simp] theorem frzT_sl (id lo n tg s):frzT (.sl id lo n tg) s=frzV (.sl id lo n tg) s:=rfl
@[simp] theorem frzT_nil (s):frzT .nil s=some (.nil,s):=rfl
theorem anv {p:Prog} {f np nt:Nat} {rs:List Rs} {body:C} (hp:p f=some (.glb np nt rs body)) (vs:List V) (m:List (List V)) (r:List Rw) (hl:vs.length=np) (hn:np≤nt) (hb:body.glob=true) (K:Out→Prop):
    Call p f ⟨gmk :: vs,m,r⟩ K=W p body ⟨sp nt (en 0 vs),m,r⟩ (finG rs K):=by
  subst hl
  rw [as1 hp _ _ _ rfl hb,app_sp,show vs.length+(nt - vs.length)=nt by omega]
@[simp] theorem finG_n (rs:List Rs) (K:Out→Prop) (t m r):finG rs K .n ⟨t,m,r⟩=DoV (St.res ⟨t,m,r⟩ rs) (fun v=>K (v,m,r)):=rfl
@[simp] theorem finG_r (rs:List Rs) (K:Out→Prop) (t m r):finG rs K .r ⟨t,m,r⟩=DoV (St.res ⟨t,m,r⟩ rs) (fun v=>K (v,m,r)):=rfl
@[simp] theorem WI_callg' {p:Prog} (d f as is t m r) (K:St→Prop) (hf:5000≤f):
    WI p (.callg d f as :: is) ⟨t,m,r⟩ K=Call p f ⟨gmk :: as.map (St.ev ⟨t,m,r⟩),m,r⟩ (fun o=>WI p is ((St.mk t o.2.1 o.2.2).putO d o.1) K):=as4 _ _ _ _ _ _ hf
@[simp] theorem WI_callr' {p:Prog} (d f as is s) (K:St→Prop):
    WI p (.callr d f as :: is) s K=Call p f ⟨as.map fun a=>rlendA s a.2 (s.ev a.1),[],[]⟩ (fun o=>scalT o.1=true∧WI p is (s.putO d o.1) K):=as5 _ _ _ _ _ _
section
variable (s:St) (k:Nat)
@[simp] theorem rlend_b (x):rlend s (.b x)=.b x:=rfl
@[simp] theorem rlend_i (k x):rlend s (.i k x)=.i k x:=rfl
@[simp] theorem rlend_s (x):rlend s (.s x)=.s x:=rfl
@[simp] theorem rlend_nil:rlend s .nil=.nil:=rfl
@[simp] theorem rlend_np:rlend s .np=.np:=rfl
@[simp] theorem rlend_nf:rlend s .nf=.nf:=rfl
@[simp] theorem rlend_view (q z xs):rlend s (.view q z xs)=.view true z xs:=rfl
@[simp] theorem rlend_sl (t m r id lo n tg):rlend ⟨t,m,r⟩ (.sl id lo n tg)=match r.getD id .gone with
    | .row z _ xs=>.view true z ((xs.drop lo).take n)
    | .gone=>.no:=rfl
@[simp] theorem rlendA_b (x):rlendA s k (.b x)=.b x:=rfl
@[simp] theorem rlendA_i (k' x):rlendA s k (.i k' x)=.i k' x:=rfl
@[simp] theorem rlendA_s (x):rlendA s k (.s x)=.s x:=rfl
@[simp] theorem rlendA_np:rlendA s k .np=.np:=rfl
@[simp] theorem rlendA_nf:rlendA s k .nf=.nf:=rfl
@[simp] theorem rlendA_view (q z xs):rlendA s k (.view q z xs)=.view true z xs:=rfl
@[simp] theorem rlendA_nil:rlendA s k .nil=if k=0 then .nil else .view true k []:=rfl
@[simp] theorem rlendA_agg (cs):rlendA s k (.agg cs)=.agg (cs.map (rlend s)):=rfl
@[simp] theorem rlendA_vp (cs):rlendA s k (.vp cs)=.vp ((cs.take k).map (rlend s)):=rfl
@[simp] theorem rlendA_sl (t m r id lo n tg):rlendA ⟨t,m,r⟩ k (.sl id lo n tg)=match r.getD id .gone with
    | .row z _ xs=>.view true z ((xs.drop lo).take n)
    | .gone=>.no:=rfl
@[simp] theorem rlendA_ptr (t m r id off):rlendA ⟨t,m,r⟩ k (.ptr id off)=match range (m.getD id []) off k with
    | some cs=>.vp (cs.map (rlend ⟨t,m,r⟩))
    | none=>.no:=rfl
end
attribute [simp] scalT scal C.glob isGl
theorem anw {p:Prog} {f np nt:Nat} {rs:List Rs} {body:C} (hp:p f=some (.pin np nt rs body)) (vs:List V) (m:List (List V)) (r:List Rw) (hl:vs.length=np) (hn:np≤nt) (hb:body.pinned r.length=true) (K:Out→Prop):
    Call p f ⟨vs,m,r⟩ K=W p body ⟨sp nt (en 0 vs),m,r⟩ (finP r.length rs m.length K):=by
  subst hl
  rw [as2 hp _ rfl hb,app_sp,show vs.length+(nt - vs.length)=nt by omega]
end Go.VS
end
section
namespace Go.VS
section
variable {p:Prog} {lv:List Nat} {ow:List (Nat × Nat)} {om:List (Nat × Nat × Nat)} {c:C} {nb:Nat} {Q:Ex→St→Prop}
def Next (A:Prop) (s s':St):Prop:=A∧s=s'
theorem WL_for (st:Nat→St) (N:Nat) (P:Nat→Prop) (s:St) (hs:s.head lv ow om nb=st 0) (h0:P 0)
    (h:∀ i,i≤N→P i→W p c (st i) (thenQ (fun s'=>Next (i<N∧P (i+1)) (s'.head lv ow om nb) (st (i+1))) Q)):WL p lv ow om c nb s Q:=by
  refine WL_inv (fun n s=>∃ i,i≤N∧n=N - i∧P i∧s=st i) ?_ N s ⟨0,by omega,by omega,h0,hs⟩
  rintro n s ⟨i,hi,rfl,hP,rfl⟩
  refine W_mono ?_ (h i hi hP)
  intro e s' hq
  cases e with
  | n=>
    obtain ⟨⟨h1,h2⟩,h3⟩:=hq
    exact ⟨N - (i+1),by omega,i+1,by omega,rfl,h2,h3⟩
  | x id=>exact hq
  | r=>exact hq
def NextS {α:Type} (st:α→St) (P:α→Prop) (μ:α→Nat) (m:Nat) (s:St):Prop:=∃ b,P b∧μ b<m∧s=st b
theorem NextS.mk {α:Type} {st:α→St} {P:α→Prop} {μ:α→Nat} {m:Nat} {s:St} (b:α) (h1:P b) (h2:μ b<m) (h3:s=st b):NextS st P μ m s:=⟨b,h1,h2,h3⟩
@[congr] theorem NextS_congr {α:Type} {st:α→St} {P:α→Prop} {μ:α→Nat} {m:Nat} {s s':St} (h:Tag s=s'):NextS st P μ m s=NextS st P μ m s':=by rw [← h,Tag_eq]
theorem WL_st {α:Type} (st:α→St) (μ:α→Nat) (P:α→Prop) (a:α) (s:St) (hs:s.head lv ow om nb=st a) (h0:P a)
    (h:∀ a,P a→W p c (st a) (thenQ (fun s'=>NextS st P μ (μ a) (s'.head lv ow om nb)) Q)):WL p lv ow om c nb s Q:=by
  refine WL_inv (fun n s=>∃ a,n=μ a∧P a∧s=st a) ?_ (μ a) s ⟨a,rfl,h0,hs⟩
  rintro n s ⟨a,rfl,hP,rfl⟩
  refine W_mono ?_ (h a hP)
  intro e s' hq
  cases e with
  | n=>
    obtain ⟨b,h1,h2,h3⟩:=hq
    exact ⟨μ b,h2,b,rfl,h1,h3⟩
  | x id=>exact hq
  | r=>exact hq
end
def capOk:V→Bool
  | .ptr _ _=>false
  | .sl _ _ _ _=>false
  | .mr _=>false
  | .ep _ _ _=>false
  | .fn _ _=>false
  | .agg _=>false
  | .tup _=>false
  | _=>true
def capsOk:List V→Bool
  | []=>true
  | v :: vs=>capOk v && capsOk vs
theorem ah1:∀ caps:List V,capsOk caps=caps.all capOk
  | []=>rfl
  | v :: vs=>by rw [capsOk,ah1 vs];rfl
@[simp] theorem capsOk_nil:capsOk []=true:=(Eq.refl true).trans (Eq.refl true)
@[simp] theorem capsOk_cons (v:V) (vs:List V):capsOk (v :: vs)=(capOk v && capsOk vs):=(Eq.refl (capOk v && capsOk vs)).trans (Eq.refl (capOk v && capsOk vs))
@[simp] theorem capOk_vp (cs:List V):capOk (.vp cs)=true:=(Eq.refl true).trans (Eq.refl true)
@[simp] theorem capOk_i (k:IntKind) (n:Int):capOk (.i k n)=true:=(Eq.refl true).trans (Eq.refl true)
@[simp] theorem capOk_s (l:List UInt8):capOk (.s l)=true:=(Eq.refl true).trans (Eq.refl true)
@[simp] theorem capOk_b (x:Bool):capOk (.b x)=true:=(Eq.refl true).trans (Eq.refl true)
@[simp] theorem capOk_view (q z xs):capOk (.view q z xs)=true:=(Eq.refl true).trans (Eq.refl true)
theorem ams (s:St) (k:Nat) (xp:Xp):∀ caps:List V,caps.all capOk=true→expLs s k caps xp=some (caps,xp)
  | [],_=>rfl
  | v :: caps,h=>by
    simp only [List.all_cons,Bool.and_eq_true] at h
    have e:expL s k v xp=some (v,xp):=by
      cases v <;> first | rfl | (simp [capOk] at h)
    simp only [expLs,e,ams s k xp caps h.2]
theorem au2 (s:St) (as:List (X × Md)) (caps:List V) (h:allB as=true) (hc:capsOk caps=true):expo s as caps=some (⟨lendsB s as++caps,[],[]⟩,⟨[],[]⟩):=by
  rw [expo,aob s _ as h]
  rw [ah1] at hc
  simp only [ams s 0 _ caps hc,expBl,List.getElem?_nil,List.map_nil,aop s as h]
attribute [-simp] akz
def callvW (p:Prog) (v:V) (s:St) (d:Option Nat) (as:List (X × Md)) (K:St→Prop):Prop:=
  DoF v (fun f caps=>DoX (expo s as caps) (fun s0 xp=>Call p f s0 (fun o=>K (impoF f s xp d o.1 o.2.1 o.2.2))))
@[congr] theorem callvW_congr {p:Prog} {v v':V} {s:St} {d:Option Nat} {as:List (X × Md)} {K:St→Prop} (h:Tag v=v'):callvW p v s d as K=callvW p v' s d as K:=by rw [← h,Tag_eq]
@[simp] theorem WI_callvW {p:Prog} (d:Option Nat) (x:X) (as:List (X × Md)) (is:List I) (s:St) (K:St→Prop):
    WI p (.callv d x as :: is) s K=callvW p (s.ev x) s d as (fun s'=>WI p is s' K):=akz _ _ _ _ _ _
@[simp high] theorem callvW_b {p:Prog} (f:Nat) (caps:List V) (s:St) (d:Option Nat) (as:List (X × Md)) (K:St→Prop) (h:allB as=true) (hc:capsOk caps=true):
    callvW p (.fn f caps) s d as K=Call p f ⟨lendsB s as++caps,[],[]⟩ (fun o=>K (impB s d o)):=by
  rw [callvW,DoF_fn,au2 s as caps h hc,aku]
  refine congrArg _ (funext fun o=>?_)
  rw [am2]
  rfl
@[simp] theorem callvW_x {p:Prog} (f:Nat) (caps:List V) (s:St) (d:Option Nat) (as:List (X × Md)) (K:St→Prop):
    callvW p (.fn f caps) s d as K=DoX (expo s as caps) (fun s0 xp=>Call p f s0 (fun o=>K (impoF f s xp d o.1 o.2.1 o.2.2))):=(DoF_fn _ _ _).trans (Eq.refl _)
def idxF {α:Type} (pr:α→Bool):List α→Nat→Int
  | [],_=>-1
  | x :: xs,i=>if pr x=true then i else idxF pr xs (i+1)
theorem ahd {α:Type} {pr:α→Bool} {l:List α} {i:Nat} {x:α} (h:l[i]?=some x):idxF pr (l.drop i) i=if pr x=true then (i:Int) else idxF pr (l.drop (i+1)) (i+1):=by
  have hlt:=(List.getElem?_eq_some_iff.1 h).1
  obtain ⟨a,ha,hd⟩:=aqk hlt
  rw [ha] at h;cases h
  rw [hd,idxF]
theorem ahe {α:Type} {pr:α→Bool} {l:List α} {i:Nat} (h:l.length≤i):idxF pr (l.drop i) i=-1:=by
  rw [List.drop_of_length_le h];rfl
theorem aps {α:Type} (pr:α→Bool):∀ (l:List α) (i:Nat),idxF pr l i<0 ↔ l.all (fun x=>!pr x)=true
  | [],i=>by simp [idxF]
  | x :: l,i=>by
    rw [idxF]
    split
    · rename_i h;simp [h]
    · rename_i h
      rw [aps pr l (i+1)]
      simp [h]
theorem aoj {α:Type} (pr:α→Bool) (l:List α) (i:Nat):decide (0≤idxF pr l i)=l.any pr:=by
  have h:=aps pr l i
  rw [Bool.eq_iff_iff,decide_eq_true_eq]
  constructor
  · intro h1
    by_cases h2:l.any pr=true
    · exact h2
    · exfalso
      have:l.all (fun x=>!pr x)=true:=by
        rw [List.all_eq_true]
        intro x hx
        simp only [Bool.not_eq_true,List.any_eq_false] at h2
        simpa using h2 x hx
      have:=h.2 this
      omega
  · intro h1
    obtain ⟨x,hx,hp⟩:=List.any_eq_true.1 h1
    by_cases h2:idxF pr l i<0
    · have:=List.all_eq_true.1 (h.1 h2) x hx
      simp [hp] at this
    · omega
def ixF (z:Nat) (ag:Bool):Fd:=.ir 2 19 [.t 4]
 (.seq (.r [.mv 4 (.c (.i .i64 0))])
 (.seq (.seq (.r [.mv 6 (.t 0),.len 7 false (.t 6),.mv 8 (.c (.i .i64 0))])
 (.blk 0 (.loop [0,1,7,8] [] [] (.seq (.r [.bin 9 .lss (.t 8) (.t 7)])
 (.seq (.cond (.t 9) (.skip)
 (.ex 0))
 (.seq (.blk 1 (.seq (.r [.mv 10 (.t 8),.mv 5 (.t 10)])
 (.seq (.r [.mv 11 (.t 1),.mv 12 (.t 0),.mv 13 (.t 5),.ixa 14 (.t 12) (.t 13) z,.ld 15 (.t 14) z ag,.callv (some 16) (.t 11) [((.t 15),.b 0)]])
 (.cond (.t 16) (.seq (.r [.mv 17 (.t 5),.mv 4 (.t 17)])
 (.ret))
 (.skip)))))
 (.r [.bin 18 .add (.t 8) (.c (.i .i64 1)),.mv 8 (.t 18)])))))))
 (.seq (.r [.mv 4 (.c (.i .i64 (-1)))])
 (.ret))))
theorem atv {p:Prog} {f:Nat} {z:Nat} {ag:Bool} (hp:p f=some (ixF z ag)) {α:Type} (e:α→V) (pr:α→Bool) (g:Nat) (caps:List V) (q:Bool) (xs:List α) (hl:xs.length≤lim)
    (hcap:capsOk caps=true) (hel:∀ x,(range (e x).cells 0 z).bind (mkV ag)=some (e x)) (hle:∀ s x,lendA s ⟨[],[]⟩ 0 (e x)=e x)
    (hc:∀ x,x ∈ xs→∀ K:Out→Prop,Call p g ⟨e x :: caps,[],[]⟩ K=K (.b (pr x),[],[])) (K:Out→Prop):
    Call p f ⟨[.view q z (xs.map e),.fn g caps],[],[]⟩ K=K (.i .i64 (idxF pr xs 0),[],[]):=by
  refine aeh ?_ K
  rw [aar hp _ _ _ rfl (by decide)]
  have hren:(List.map (renL 0 []) caps)=caps:=by
    have:∀ v,v ∈ caps→renL 0 [] v=v:=by
      intro v hv
      have:=List.all_eq_true.1 ((ah1 caps).symm.trans hcap) v hv
      cases v <;> first | rfl | (simp [capOk] at this)
    rw [List.map_congr_left this,List.map_id']
  simp -implicitDefEqProofs
  refine WL_for (fun i=>⟨sp 19 [(0,.view q z (xs.map e)),(1,.fn g caps),(7,.i .i64 xs.length),(8,.i .i64 i)],[],[]⟩) xs.length (fun i=>idxF pr xs 0=idxF pr (xs.drop i) i) _ (by simp -implicitDefEqProofs [hren]) (by simp) ?_
  intro i hi hP
  unfold lim at hl
  by_cases hlt:i<xs.length
  · have hw:=wrap_i64 (n:=(i:Int)+1) (by omega) (by omega)
    have hc':=hc xs[i] (List.getElem_mem _)
    have hx:=ahd (pr:=pr) (List.getElem?_eq_getElem hlt)
    rw [hP,hx]
    by_cases hk:pr xs[i]=true
    · simp -implicitDefEqProofs [-range,hlt,hel,hle,hcap,hc',hk]
    · simp -implicitDefEqProofs [-range,hlt,hel,hle,hcap,hc',hk,hren,hw,Next]
  · rw [hP,ahe (by omega)]
    simp -implicitDefEqProofs [hlt]
end Go.VS
namespace Go.VS
theorem as6 {α:Type} {f:α→Bool} {l:List α} {i:Nat} (h:i<l.length):(l.drop i).any f=(f l[i] || (l.drop (i+1)).any f):=by
  rw [List.drop_eq_getElem_cons h,List.any_cons]
theorem aup {α:Type} {f:α→Bool} {l:List α} {i:Nat} (h:l.length≤i):(l.drop i).any f=false:=by
  rw [List.drop_of_length_le h];rfl
theorem am9 (s:St) (xp:Xp) (n:Nat):∀ caps:List V,capsOk caps=true→caps.map (lend s xp (n+1))=caps
  | [],_=>rfl
  | v :: caps,h=>by
    simp only [capsOk,Bool.and_eq_true] at h
    rw [List.map_cons,am9 s xp n caps h.2]
    congr 1
    cases v <;> first | rfl | (simp [capOk] at h)
def cfF (ix z:Nat):Fd:=.ir 2 9 [.t 4]
 (.seq (.r [.mv 4 (.c (.b false))])
 (.seq (.r [.mv 5 (.t 0),.mv 6 (.t 1),.call (some 7) ix [((.t 5),.b z),((.t 6),.b 0)],.bin 8 .geq (.t 7) (.c (.i .i64 0)),.mv 4 (.t 8)])
 (.ret)))
theorem ate {p:Prog} {f ix:Nat} {z:Nat} {ag:Bool} (hf:p f=some (cfF ix z)) (hp:p ix=some (ixF z ag)) {α:Type} (e:α→V) (pr:α→Bool) (g:Nat) (caps:List V) (q:Bool) (xs:List α) (hl:xs.length≤lim)
    (hcap:capsOk caps=true) (hel:∀ x,(range (e x).cells 0 z).bind (mkV ag)=some (e x)) (hle:∀ s x,lendA s ⟨[],[]⟩ 0 (e x)=e x)
    (hc:∀ x,x ∈ xs→∀ K:Out→Prop,Call p g ⟨e x :: caps,[],[]⟩ K=K (.b (pr x),[],[])) (K:Out→Prop):
    Call p f ⟨[.view q z (xs.map e),.fn g caps],[],[]⟩ K=K (.b (xs.any pr),[],[]):=by
  refine aeh ?_ K
  rw [aar hf _ _ _ rfl (by decide)]
  have hx:=fun K=>atv hp e pr g caps q xs hl hcap hel hle hc K
  simp -implicitDefEqProofs [am9,hcap,hx,aoj]
end Go.VS
namespace Go.VS
@[simp] theorem take_map_len {α β:Type} (f:α→β) (l:List α):(l.map f).take l.length=l.map f:=List.take_of_length_le (by simp)
@[simp] theorem take_bytes_len (l:List UInt8):(bytesV l).take l.length=bytesV l:=List.take_of_length_le (by simp [bytesV])
@[simp] theorem bytesV_len (l:List UInt8):(bytesV l).length=l.length:=by simp [bytesV]
theorem ahy (a b:List UInt8):bytesV (a++b)=bytesV a++bytesV b:=by simp [bytesV]
end Go.VS
end
section
namespace Go.VS
abbrev Bs:=List UInt8
structure Pg where
  block:Int
  data:Bs
  deriving DecidableEq,Inhabited
def pgV (p:Pg):V:=.agg [.i .i64 p.block,.s p.data]
def strs:List V→Option (List Bs)
  | []=>some []
  | .s l :: xs=>(strs xs).map (l :: ·)
  | _=>none
theorem aqc:∀ l:List Bs,strs (l.map V.s)=some l
  | []=>rfl
  | a :: l=>by simp only [List.map_cons,strs,aqc l,Option.map_some]
def lastOf (k:Int) (l:List Pg):Option Bs:=(l.reverse.find? fun p=>p.block == k).map (·.data)
def diskRead (bs:List Bs) (ps:List Pg) (k:Int):Bs:=(lastOf k ps).getD (bs.getD k.toNat [])
def isSelf:V→Bool
  | .bz=>true
  | .ptr 0 0=>true
  | _=>false
def nCopyCheck (s:St):Option Out:=
  match s with
  | ⟨[.ptr 0 0],[[a,.nil]],[]⟩=>if isSelf a=true then some (.tup [],[[.ptr 0 0,.nil]],[]) else none
  | ⟨[.ptr 0 0],[[a,.sl 0 0 n tg]],[.row 1 false xs]⟩=>if isSelf a=true then some (.tup [],[[.ptr 0 0,.sl 0 0 n tg]],[.row 1 false xs]) else none
  | _=>none
def nBuilderString (s:St):Option Out:=
  match s with
  | ⟨[.ptr 0 0],[[a,.nil]],[]⟩=>if isSelf a=true then some (.s [],[[a,.nil]],[]) else none
  | ⟨[.ptr 0 0],[[a,.sl 0 0 n tg]],[.row 1 false xs]⟩=>if isSelf a=true∧n=xs.length then (tbytes xs).map fun l=>(.s l,[[a,.sl 0 0 n tg]],[.row 1 true xs]) else none
  | _=>none
def splitB (c:UInt8):Bs→List Bs
  | []=>[[]]
  | x :: s=>if x=c then [] :: splitB c s else match splitB c s with
    | []=>[[x]]
    | a :: as=>(x :: a) :: as
def usedSlots (l:List Bs):Nat:=(l.filter fun s=>!s.isEmpty).length
def nRepeat (s:St):Option Out:=
  match s with
  | ⟨[.s l,.i .i64 n],[],[]⟩=>if 0≤n∧n≤lim∧l.length*n.toNat≤lim then some (.s (List.replicate n.toNat l).flatten,[],[]) else none
  | _=>none
def nContainsB (s:St):Option Out:=
  match s with
  | ⟨[.s l,.s [c]],[],[]⟩=>if l.length≤lim then some (.b (decide (c ∈ l)),[],[]) else none
  | _=>none
def nDecimal (s:St):Option Out:=
  match s with
  | ⟨[.i .i64 n],[],[]⟩=>if -9223372036854775808≤n∧n≤9223372036854775807 then some (.s (Go.Lib.itoa n),[],[]) else none
  | _=>none
def rdDec (l:Bs):Int × Bool:=
  match Go.Lib.parseIntB 64 l with
  | .ok v=>(v,decide (Go.Lib.itoa v=l))
  | .range=>(Go.Lib.intSat 64 l,false)
  | _=>(0,false)
def nReadDec (s:St):Option Out:=
  match s with
  | ⟨[.s l],[],[]⟩=>if l.length≤lim then some (.tup [.i .i64 (rdDec l).1,.b (rdDec l).2],[],[]) else none
  | _=>none
def nJoin (s:St):Option Out:=
  match s with
  | ⟨[.nil,.s _],[],[]⟩=>some (.s [],[],[])
  | ⟨[.view _ 1 xs,.s p],[],[]⟩=>if xs.length≤lim then match strs xs with
    | some l=>if (Go.Lib.join l p).length≤lim then some (.s (Go.Lib.join l p),[],[]) else none
    | none=>none
    else none
  | _=>none
def idxB (c:UInt8):Bs→Int
  | []=>-1
  | x :: l=>if x=c then 0 else if idxB c l=-1 then -1 else idxB c l+1
def nIndexByte (s:St):Option Out:=
  match s with
  | ⟨[.s l,.i .u8 c],[],[]⟩=>if l.length≤lim∧0≤c∧c<256 then some (.i .i64 (idxB (UInt8.ofNat c.toNat) l),[],[]) else none
  | _=>none
end Go.VS
end
