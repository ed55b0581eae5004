/-
  What the functions of the program answer (fourth part): paths, links.
-/
import Derived.Test.YtdnblconoegeaaaGreatDoorB4
import Derived.Test.YtdnblconoegeaaaGreatDoorB6
set_option linter.all false
section
namespace Go.VS
set_option maxRecDepth 8000
def slotOf (h:List Bs) (s:Bs):Int:=idxF (fun y=>decide (y=s)) h 0
theorem am5 (q:Bool) (h:List Bs) (s:Bs) (hl:h.length≤lim) (K:Out→Prop):Call prog 279 ⟨[.agg [.view q 1 (h.map .s)],.s s],[],[]⟩ K=K (.i .i64 (slotOf h s),[],[]):=by
  refine Zc (f:=279) rfl rfl (by decide) ?_
  unfold lim at hl
  simp -implicitDefEqProofs
  refine WL_for (fun i=>⟨sp 21 [(1,.s s),(2,.ptr 0 0),(5,.i .i64 i)],[[.view q 1 (h.map .s)]],[]⟩) h.length (fun i=>slotOf h s=idxF (fun y=>decide (y=s)) (h.drop i) i) _ (by simp -implicitDefEqProofs) (by simp [slotOf]) ?_
  intro i hi hP
  by_cases hlt:i<h.length
  · have hw:=wrap_i64 (n:=(i:Int)+1) (by omega) (by omega)
    rw [hP,List.drop_eq_getElem_cons hlt,idxF]
    by_cases d:h[i]=s
    · simp -implicitDefEqProofs [hlt,hw,d]
    · simp -implicitDefEqProofs [hlt,hw,d,Next]
  · rw [hP,List.drop_eq_nil_of_le (by omega),idxF]
    simp -implicitDefEqProofs [hlt]
theorem aj5 (q:Bool) (h:List Bs) (s:Bs) (hl:h.length≤lim) (K:Out→Prop):Call prog 283 ⟨[.view q 1 (h.map .s),.s s],[],[]⟩ K=K (.i .i64 (slotOf h s),[],[]):=by
  refine Zc (f:=283) rfl rfl (by decide) ?_
  unfold lim at hl
  simp -implicitDefEqProofs
  refine WL_for (fun i=>⟨sp 19 [(0,.view q 1 (h.map .s)),(1,.s s),(7,.i .i64 h.length),(8,.i .i64 i)],[],[]⟩) h.length (fun i=>slotOf h s=idxF (fun y=>decide (y=s)) (h.drop i) i) _ (by simp -implicitDefEqProofs) (by simp [slotOf]) ?_
  intro i hi hP
  by_cases hlt:i<h.length
  · have hw:=wrap_i64 (n:=(i:Int)+1) (by omega) (by omega)
    rw [hP,List.drop_eq_getElem_cons hlt,idxF]
    by_cases d:s=h[i]
    · simp -implicitDefEqProofs [hlt,hw,d]
    · have d':¬ h[i]=s:=fun e=>d e.symm
      simp -implicitDefEqProofs [hlt,hw,d,d',Next]
  · rw [hP,List.drop_eq_nil_of_le (by omega),idxF]
    simp -implicitDefEqProofs [hlt]
theorem au9 (q:Bool) (h:List Bs) (hl:h.length≤lim) (K:Out→Prop):Call prog 278 ⟨[.agg [.view q 1 (h.map .s)]],[],[]⟩ K=K (.agg [.sl 0 0 h.length false],[],[.row 1 false (h.map .s)]):=by
  refine Zc (f:=278) rfl rfl (by decide) ?_
  simp -implicitDefEqProofs [hl]
theorem at2 (s:Bs) (hl:s.length+1≤lim) (K:Out→Prop):Call prog 285 ⟨[.s s],[],[]⟩ K=K (.s (leB s.length 1++s),[],[]):=by
  refine Zc (f:=285) rfl rfl (by decide) ?_
  have e:=fun K=>aay s.length 1 (by decide) K
  have h1:1+s.length≤lim:=by omega
  simp only [Int.natCast_one,Tag_eq] at e
  simp -implicitDefEqProofs [e,h1]
def encName (s:Bs):Bs:=leB s.length 1++s
def encHeap (h:List Bs):Bs:=leB h.length 1++h.flatMap encName
theorem auu (s:Bs):(encName s).length=1+s.length:=by simp [encName]
theorem aml (h:List Bs) (hs:∀ s,s ∈ h→s.length≤12):(h.flatMap encName).length≤h.length*13:=by
  induction h with
  | nil=>simp
  | cons x h ih=>
    have:=ih fun s m=>hs s (by simp [m])
    have:=hs x (by simp)
    simp only [List.flatMap_cons,List.length_append,auu,List.length_cons];omega
theorem abp {α:Type} (f:α→Bs) (l:List α) {i:Nat} (hi:i<l.length):(l.take (i+1)).flatMap f=(l.take i).flatMap f++f l[i]:=by
  rw [← List.take_append_getElem hi,List.flatMap_append,List.flatMap_cons,List.flatMap_nil,List.append_nil]
set_option maxHeartbeats 1000000 in
theorem ap0 (q:Bool) (h:List Bs) (hl:h.length≤30) (hs:∀ s,s ∈ h→s.length≤12) (K:Out→Prop):Call prog 280 ⟨[.agg [.view q 1 (h.map .s)]],[],[]⟩ K=K (.s (encHeap h),[],[]):=by
  refine Zc (f:=280) rfl rfl (by decide) ?_
  have e:=fun n K=>aev n K
  simp -implicitDefEqProofs [e]
  refine WL_for (fun i=>⟨sp 32 [(1,.ptr 0 0),(3,.s (leB h.length 1++(h.take i).flatMap encName)),(4,.i .i64 i)],[[.view q 1 (h.map .s)]],[]⟩) h.length (fun i=>True) _ (by simp -implicitDefEqProofs) trivial ?_
  intro i hi _
  by_cases hlt:i<h.length
  · have hw:=wrap_i64 (n:=(i:Int)+1) (by omega) (by omega)
    have h1:=hs _ (List.getElem_mem hlt)
    have h2:=aml (h.take i) fun s m=>hs s (List.mem_of_mem_take m)
    rw [List.length_take] at h2
    have h3:1+h[i].length≤lim:=by unfold lim;omega
    have h4:1+((h.take i).flatMap encName).length+(1+h[i].length)≤lim:=by unfold lim;omega
    have h5:=abp encName h hlt
    simp only [encName] at h5
    simp only [h5]
    generalize (h.take i).flatMap encName=A at *
    simp -implicitDefEqProofs [hlt,hw,e,h3,h4,Next]
  · have:i=h.length:=by omega
    subst this
    simp -implicitDefEqProofs [encHeap]
end Go.VS
end
section
namespace Go.VS
set_option maxRecDepth 8000
set_option maxHeartbeats 1000000 in
theorem aoa (q:Bool) (h:List Bs) (hl:h.length≤30) (hs:∀ s,s ∈ h→s.length≤12) (K:Out→Prop):Call prog 267 ⟨[.agg [.view q 1 (h.map .s)]],[],[]⟩ K=K (.s (encHeap h),[],[]):=by
  refine Zc (f:=267) rfl rfl (by decide) ?_
  have e0:=fun K=>aay h.length 1 (by decide) K
  simp only [Int.natCast_one,Tag_eq] at e0
  simp -implicitDefEqProofs [e0]
  refine WL_for (fun i=>⟨sp 23 [(3,.s (leB h.length 1++(h.take i).flatMap encName)),(11,.view q 1 (h.map .s)),(12,.i .i64 h.length),(13,.i .i64 i)],[[.view q 1 (h.map .s)]],[]⟩) h.length (fun i=>True) _ (by simp -implicitDefEqProofs) trivial ?_
  intro i hi _
  by_cases hlt:i<h.length
  · have hw:=wrap_i64 (n:=(i:Int)+1) (by omega) (by omega)
    have h1:=hs _ (List.getElem_mem hlt)
    have e:=fun K=>at2 h[i] (by unfold lim;omega) K
    have h2:=aml (h.take i) fun s m=>hs s (List.mem_of_mem_take m)
    rw [List.length_take] at h2
    have h4:1+((h.take i).flatMap encName).length+(1+h[i].length)≤lim:=by unfold lim;omega
    have h5:=abp encName h hlt
    simp only [encName] at h5
    simp only [h5]
    generalize (h.take i).flatMap encName=A at *
    simp -implicitDefEqProofs [hlt,hw,e,h4,Next]
  · have:i=h.length:=by omega
    subst this
    simp -implicitDefEqProofs [encHeap]
def putN (h:List Bs) (s:Bs):Option (List Bs × Nat):=if 0≤slotOf h [] then some (h.set (slotOf h []).toNat s,(slotOf h []).toNat) else if h.length ≥ 30 then none else some (h++[s],h.length)
def putOut (h:List Bs) (s:Bs):Out:=match putN h s with
  | none=>(.tup [.agg [.nil],.i .i64 0,.i .i64 5],[],[])
  | some (h',k)=>(.tup [.agg [.sl 0 0 h'.length false],.i .i64 k,.i .i64 0],[],[.row 1 false (h'.map .s)])
theorem alq {h:List Bs} {s:Bs} (h0:0≤slotOf h s):∃ j:Nat,slotOf h s=j∧j<h.length∧∃ hj:j<h.length,h[j]=s:=by
  have key:∀ (l:List Bs) (i:Nat),0≤idxF (fun y=>decide (y=s)) l i→∃ j:Nat,idxF (fun y=>decide (y=s)) l i=(i+j:Nat)∧∃ hj:j<l.length,l[j]=s:=by
    intro l
    induction l with
    | nil=>intro i hi;simp [idxF] at hi
    | cons x l ih=>
      intro i hi
      rw [idxF] at hi ⊢
      by_cases c:x=s
      · exact ⟨0,by simp [c],by simp,by simpa using c⟩
      · simp only [c,decide_false,Bool.false_eq_true,if_false] at hi ⊢
        obtain ⟨j,h1,hj,h2⟩:=ih (i+1) hi
        exact ⟨j+1,by rw [h1];congr 1;omega,by simpa using hj,by simpa using h2⟩
  obtain ⟨j,h1,hj,h2⟩:=key h 0 h0
  exact ⟨j,by rw [slotOf,h1,Nat.zero_add],hj,hj,h2⟩
theorem a06 (q:Bool) (h:List Bs) (s:Bs) (hl:h.length≤lim) (K:Out→Prop):Call prog 262 ⟨[.agg [.view q 1 (h.map .s)],.s s],[],[]⟩ K=K (putOut h s):=by
  refine Zc (f:=262) rfl rfl (by decide) ?_
  have e0:∀ K,Call prog 272 ⟨[.view q 1 (h.map .s)],[],[]⟩ K=K (.sl 0 0 h.length false,[],[.row 1 false (h.map .s)]):=fun K=>by
    rw [aav (p:=prog) (f:=272) rfl]
    have:nClone 1 ⟨[.view q 1 (h.map .s)],[],[]⟩=some (.sl 0 0 h.length false,[],[.row 1 false (h.map .s)]):=by
      simp only [nClone]
      rw [if_pos ⟨trivial,by simpa using hl,noBt_map_s h⟩,List.length_map]
    rw [this,abd]
  have e1:=fun K=>aj5 false h [] hl K
  unfold putOut putN
  by_cases c0:0≤slotOf h []
  · obtain ⟨j,hj,hlt,_⟩:=alq c0
    rw [hj] at e1 c0 ⊢
    simp -implicitDefEqProofs [e0,e1,hlt,List.map_set]
  · by_cases c2:30≤h.length
    · have d2:(30:Int)≤h.length:=by omega
      simp -implicitDefEqProofs [e0,e1,c0,c2,d2]
    · have h3:h.length+1≤lim:=by unfold lim;omega
      have d2:¬ (30:Int)≤h.length:=by omega
      simp -implicitDefEqProofs [e0,e1,c0,c2,d2,h3]
theorem ask (q:Bool) (h:List Bs) (s:Bs) (hl:heapOk h=true) (hn:isName s=true) (K:Out→Prop):Call prog 260 ⟨[.agg [.view q 1 (h.map .s)],.s s],[],[]⟩ K=K (putOut h s):=by
  refine Zc (f:=260) rfl rfl (by decide) ?_
  obtain ⟨f1,f2⟩:=ac9 hl
  have hs:s.length≤lim:=by
    unfold isName at hn
    simp only [Bool.and_eq_true,decide_eq_true_eq] at hn
    unfold lim;omega
  have h30:h.length≤lim:=by unfold lim;omega
  have e0:=fun K=>aia q h h30 (fun y hy=>by have:=f2 y hy;unfold lim;omega) K
  have e1:=fun K=>abn s hs K
  have e2:=fun K=>au9 q h h30 K
  have e3:=fun K=>am5 q h [] h30 K
  rw [hl] at e0
  rw [hn] at e1
  unfold putOut putN
  by_cases c0:0≤slotOf h []
  · obtain ⟨j,hj,hlt,_⟩:=alq c0
    rw [hj] at e3 c0 ⊢
    simp -implicitDefEqProofs [e0,e1,e2,e3,hlt,List.map_set]
  · by_cases c2:30≤h.length
    · have d2:(30:Int)≤h.length:=by omega
      simp -implicitDefEqProofs [e0,e1,e2,e3,c0,c2,d2]
    · have h3:h.length+1≤lim:=by unfold lim;omega
      have d2:¬ (30:Int)≤h.length:=by omega
      simp -implicitDefEqProofs [e0,e1,e2,e3,c0,c2,d2,h3]
end Go.VS
end
section
namespace Go.VS
set_option maxRecDepth 8000
def encLk (h:List Bs) (x:Lk):Bs:=leB (slotOf h x.name) 1++leB x.target.length 1++(if x.target=[] then leB x.block 2 else x.target)
def encLks (h:List Bs) (l:List Lk):Bs:=l.flatMap (encLk h)
theorem ayh (h:List Bs) (x:Lk):(encLk h x).length≤4+x.target.length:=by
  unfold encLk
  simp only [List.length_append,leB_len]
  split <;> simp <;> omega
theorem axk (h:List Bs) {l:List Lk} {T:Nat} (ht:∀ x,x ∈ l→x.target.length≤T):(encLks h l).length≤l.length*(4+T):=by
  induction l with
  | nil=>simp [encLks]
  | cons x l ih=>
    have h1:=ih fun s m=>ht s (by simp [m])
    have h2:=ht x (by simp)
    have h3:=ayh h x
    unfold encLks at h1 ⊢
    simp only [List.flatMap_cons,List.length_append,List.length_cons,Nat.add_mul,Nat.one_mul]
    omega
structure LkSm (l:List Lk):Prop where
  n:l.length≤13
  t:∀ x,x ∈ l→x.target.length≤1048576
theorem LkSm.enc {l:List Lk} (s:LkSm l) (h:List Bs) (i:Nat):(encLks h (l.take i)).length≤13*1048580:=by
  have h1:=axk h (l:=l.take i) (T:=1048576) fun x hx=>s.t x (List.mem_of_mem_take hx)
  have h2:=s.n
  have h3:(l.take i).length≤13:=by rw [List.length_take];omega
  exact Nat.le_trans h1 (Nat.le_trans (Nat.mul_le_mul_right _ h3) (by decide))
set_option maxHeartbeats 2000000 in
theorem ap2 (q q2:Bool) (l:List Lk) (s:LkSm l) (h:List Bs) (hl:h.length≤lim) (K:Out→Prop):Call prog 281 ⟨[.view q 3 (l.map lkV),.agg [.view q2 1 (h.map .s)]],[],[]⟩ K=K (.s (encLks h l),[],[]):=by
  refine Zc (f:=281) rfl rfl (by decide) ?_
  have e1:=fun n K=>aev n K
  have e2:∀ n K,Call prog 250 ⟨[.i .i64 n,.i .i64 2,.b false],[],[]⟩ K=K (.s (leB n 2),[],[]):=fun n K=>ajz n 2 (by decide) K
  have hn:=s.n
  simp -implicitDefEqProofs
  refine WL_for (fun i=>⟨sp 43 [(0,.view q 3 (l.map lkV)),(3,.ptr 0 0),(5,.s (encLks h (l.take i))),(6,.i .i64 i)],[[.view q2 1 (h.map .s)]],[]⟩) l.length (fun i=>True) _ (by simp -implicitDefEqProofs [encLks]) trivial ?_
  intro i hi _
  by_cases hlt:i<l.length
  · have hw:=wrap_i64 (n:=(i:Int)+1) (by omega) (by omega)
    have e3:=fun K=>am5 q2 h l[i].name hl K
    have h1:=s.t _ (List.getElem_mem hlt)
    have h2:=s.enc h i
    have h5:encLks h (l.take (i+1))=encLks h (l.take i)++encLk h l[i]:=abp _ l hlt
    have h6:(encLks h (l.take i)).length+2≤lim:=by unfold lim;omega
    have h7:(encLks h (l.take i)).length+2+2≤lim:=by unfold lim;omega
    have h8:(encLks h (l.take i)).length+2+l[i].target.length≤lim:=by unfold lim;omega
    have h9:2≤lim:=by decide
    simp only [h5,encLk]
    generalize encLks h (l.take i)=A at *
    by_cases c:l[i].target=[]
    · simp -implicitDefEqProofs [hlt,hw,lkV,e1,e2,e3,h6,h7,h9,c,Next]
    · simp -implicitDefEqProofs [hlt,hw,lkV,e1,e2,e3,h6,h8,h9,c,Next]
  · have:i=l.length:=by omega
    subst this
    simp -implicitDefEqProofs
end Go.VS
end
section
namespace Go.VS
set_option maxRecDepth 8000
def setD (ms:List Ms) (i:Nat) (d:Bs):List Ms:=ms.set i ⟨(ms.getD i default).kind,(ms.getD i default).flags,d⟩
def kf (m:Ms):Int × Int:=(m.kind,m.flags)
theorem azv (ms:List Ms) (i:Nat) (d:Bs):(setD ms i d).map kf=ms.map kf:=by
  unfold setD
  rw [List.map_set]
  refine List.ext_getElem? fun j=>?_
  rw [List.getElem?_set]
  split
  · rename_i h;subst h
    split
    · rename_i hl
      rw [List.length_map] at hl
      rw [List.getElem?_map,List.getElem?_eq_getElem hl,List.getD_eq_getElem?_getD,List.getElem?_eq_getElem hl];rfl
    · rename_i hl
      rw [List.length_map] at hl
      rw [List.getElem?_eq_none (by simpa using hl)]
  · rfl
theorem ae0 (ms:List Ms) (i:Nat) (d:Bs):(setD ms i d).length=ms.length:=by simp [setD]
theorem aw5 (k:Int):∀ (a b:List Ms) (i:Nat) (x:Int),a.map kf=b.map kf→onlyW k a i x=onlyW k b i x
  | [],[],_,_,_=>rfl
  | [],_ :: _,_,_,h=>by cases h
  | _ :: _,[],_,_,h=>by cases h
  | ⟨k1,f1,d1⟩ :: a,⟨k2,f2,d2⟩ :: b,i,x,h=>by
    simp only [List.map_cons,List.cons.injEq,kf,Prod.mk.injEq] at h
    obtain ⟨⟨rfl,rfl⟩,h3⟩:=h
    have ih:=fun i x=>aw5 k a b i x h3
    simp only [onlyW,ih]
    rfl
theorem ayv (k:Int):∀ (a b:List Ms) (i:Nat),a.map kf=b.map kf→idxF (isK k) a i=idxF (isK k) b i
  | [],[],_,_=>rfl
  | [],_ :: _,_,h=>by cases h
  | _ :: _,[],_,h=>by cases h
  | ⟨k1,f1,d1⟩ :: a,⟨k2,f2,d2⟩ :: b,i,h=>by
    simp only [List.map_cons,List.cons.injEq,kf,Prod.mk.injEq] at h
    obtain ⟨⟨rfl,rfl⟩,h3⟩:=h
    have ih:=fun i=>ayv k a b i h3
    simp only [idxF,ih]
    rfl
theorem av9 (m:Ms) (d:Bs):elSet (msV m) 2 [.s d]=some (.agg [.i .i64 m.kind,.i .i64 m.flags,.s d]):=by simp [msV]
theorem anz (ms:List Ms) {i:Nat} (hi:i<ms.length) (d:Bs):(ms.map msV).set i (.agg [.i .i64 ms[i].kind,.i .i64 ms[i].flags,.s d])=(setD ms i d).map msV:=by
  unfold setD;rw [List.map_set,List.getD_eq_getElem?_getD,List.getElem?_eq_getElem hi];rfl
def Gr.form (g:Gr):Hd:=⟨g.hd.kind,g.hd.refs,setD (setD g.hd.msgs (onlyX g.hd.msgs 9).toNat (encHeap g.heap)) (onlyX g.hd.msgs 7).toNat (encLks g.heap g.links)⟩
def Pr.wrG (p:Pr) (k:Int) (g:Gr):Int × Pr:=if 200<(encHeap g.heap).length∨200<(encLks g.heap g.links).length then (5,p) else p.wrH k g.form
structure Gr.Sm (g:Gr):Prop where
  h:g.hd.Sm
  n:g.heap.length≤30
  s:∀ s,s ∈ g.heap→s.length≤12
  l:LkSm g.links
  o9:onlyB g.hd.msgs 9=true
  o7:onlyB g.hd.msgs 7=true
theorem Gr.Sm.form {g:Gr} (s:g.Sm) (c:¬ (200<(encHeap g.heap).length∨200<(encLks g.heap g.links).length)):g.form.Sm:=by
  refine ⟨by show (setD (setD _ _ _) _ _).length≤24;rw [ae0,ae0];exact s.h.n,fun m hm=>?_⟩
  have key:∀ (ms:List Ms) (i:Nat) (d:Bs),(∀ m,m ∈ ms→m.data.length≤200)→d.length≤200→∀ m,m ∈ setD ms i d→m.data.length≤200:=fun ms i d h1 h2 m hm=>by
    rcases List.mem_or_eq_of_mem_set hm with h | rfl
    · exact h1 m h
    · exact h2
  exact key _ _ _ (key _ _ _ s.h.d (by omega)) (by omega) m hm
theorem au8 (q:Bool) (h:Hd) (hl:h.msgs.length≤lim) (K:Out→Prop):Call prog 282 ⟨[.agg [.i .i64 h.kind,.i .i64 h.refs,.view q 3 (h.msgs.map msV)]],[],[]⟩ K=K (.agg [.i .i64 h.kind,.i .i64 h.refs,.sl 0 0 h.msgs.length false],[],[.row 3 false (h.msgs.map msV)]):=by
  refine Zc (f:=282) rfl rfl (by decide) ?_
  simp -implicitDefEqProofs [hl]
set_option maxHeartbeats 4000000 in
theorem art (p:Pr) (h:p.Ow) (k:Int) (q1 q2 q3:Bool) (g:Gr) (s:g.Sm) (K:Out→Prop):
    Call prog 261 ⟨[.ptr 0 0,.i .i64 k,.agg [.i .i64 g.hd.kind,.i .i64 g.hd.refs,.view q1 3 (g.hd.msgs.map msV),.view q2 1 (g.heap.map .s),.view q3 3 (g.links.map lkV)]],[pmC 0 p],pmR p⟩ K=K (.i .i64 (p.wrG k g).1,[pmC 0 (p.wrG k g).2],pmR (p.wrG k g).2):=by
  refine Zc (f:=261) rfl rfl (by decide) ?_
  have h30:g.heap.length≤lim:=by have:=s.n;unfold lim;omega
  have hm24:g.hd.msgs.length≤lim:=by have:=s.h.n;unfold lim;omega
  have e1:=fun K=>ap0 q2 g.heap s.n s.s K
  have e2:=fun K=>ap2 q3 q2 g.links s.l g.heap h30 K
  have e3:=fun K=>au8 q1 g.hd hm24 K
  by_cases c:200<(encHeap g.heap).length∨200<(encLks g.heap g.links).length
  · unfold Pr.wrG
    rw [if_pos c]
    by_cases c1:200<(encHeap g.heap).length
    · have d1:(200:Int)<(encHeap g.heap).length:=by omega
      simp -implicitDefEqProofs [e1,e2,d1,pmC,pmR]
    · have d1:¬ (200:Int)<(encHeap g.heap).length:=by omega
      have d2:(200:Int)<(encLks g.heap g.links).length:=by omega
      simp -implicitDefEqProofs [e1,e2,d1,d2,pmC,pmR]
  · have hsm:=s.form c
    unfold Pr.wrG
    rw [if_neg c]
    have d1:¬ (200:Int)<(encHeap g.heap).length:=by omega
    have d2:¬ (200:Int)<(encLks g.heap g.links).length:=by omega
    obtain ⟨i,hi,ei,gi⟩:=acl s.o9
    obtain ⟨j,hj,ej,gj⟩:=acl s.o7
    have w9:onlyW 9 g.hd.msgs 0 (-1)=i:=by rw [ans,if_pos s.o9,ei];simp
    have w7:onlyW 7 g.hd.msgs 0 (-1)=j:=by rw [ans,if_pos s.o7,ej];simp
    have hf:g.form=⟨g.hd.kind,g.hd.refs,setD (setD g.hd.msgs i (encHeap g.heap)) j (encLks g.heap g.links)⟩:=by
      unfold Gr.form
      rw [ei,ej];rfl
    have e4:=fun K=>aey false g.hd 9 hm24 K
    have e5:=fun K=>aey false ⟨g.hd.kind,g.hd.refs,setD g.hd.msgs i (encHeap g.heap)⟩ 7 (by simpa [setD] using hm24) K
    simp only at e5
    rw [aw5 7 _ _ 0 (-1) (azv g.hd.msgs i (encHeap g.heap)),w7] at e5
    rw [w9] at e4
    have e6:=fun K=>alf p h k false g.form hsm K
    rw [hf] at e6 ⊢
    generalize p.wrH k ⟨g.hd.kind,g.hd.refs,setD (setD g.hd.msgs i (encHeap g.heap)) j (encLks g.heap g.links)⟩=R at *
    have r1:=anz g.hd.msgs hi (encHeap g.heap)
    have hj2:j<(setD g.hd.msgs i (encHeap g.heap)).length:=by rw [ae0];exact hj
    have r2:=anz (setD g.hd.msgs i (encHeap g.heap)) hj2 (encLks g.heap g.links)
    have hl1:=ae0 g.hd.msgs i (encHeap g.heap)
    have hl2:=ae0 (setD g.hd.msgs i (encHeap g.heap)) j (encLks g.heap g.links)
    rw [hl1] at hl2
    generalize hA:setD g.hd.msgs i (encHeap g.heap)=A at *
    generalize hB:setD A j (encLks g.heap g.links)=B at *
    have tA:List.take g.hd.msgs.length (A.map msV)=A.map msV:=List.take_of_length_le (by simp [hl1])
    have tB:List.take g.hd.msgs.length (B.map msV)=B.map msV:=List.take_of_length_le (by simp [hl2])
    simp only [hdC,pmC,pmR,Tag_eq] at e4 e5 e6
    simp -implicitDefEqProofs [e1,e2,e3,e4,e5,e6,d1,d2,pmC,pmR,hi,hj,hj2,av9,r1,r2,hl1,hl2,tA,tB]
end Go.VS
end
section
namespace Go.VS
set_option maxRecDepth 8000
structure GrF (p:Pr) (k:Int) (g:Gr):Prop where
  hdr:p.hdr k=some g.hd
  kind:g.hd.kind=1
  o9:onlyB g.hd.msgs 9=true
  o7:onlyB g.hd.msgs 7=true
  hp:heapOk g.heap=true
  lk:decLinks g.heap (g.hd.msgs.getD (onlyX g.hd.msgs 7).toNat default).data=some g.links
theorem grF_of {p:Pr} {k:Int} {g:Gr} (e:p.grp k=.ok g):GrF p k g:=by
  unfold Pr.grp at e
  split at e
  · cases e
  · rename_i h hh
    split at e
    · cases e
    · rename_i hk
      split at e
      · rename_i ho
        split at e
        · cases e
        · rename_i hp hhp
          split at e
          · cases e
          · rename_i l hl
            cases e
            exact ⟨hh,by simpa using hk,ho.1,ho.2,al7 hhp,hl⟩
      · cases e
theorem ay7 {l:List Lk} (e:lksOk l=true):l.length≤12:=by
  unfold lksOk at e
  simp only [Bool.and_eq_true,decide_eq_true_eq] at e
  omega
def freeCode (p:Pr) (k:Int) (s:Bs):Int:=match p.grp k with
  | .error c=>c
  | .ok g=>if 0≤linkAt g.links s then 4 else if 12≤g.links.length then 5 else 0
theorem GrF.links {p:Pr} {k:Int} {g:Gr} (f:GrF p k g):g.links.length≤12:=ay7 (ajw f.lk)
theorem ahv (q:Bool) (p:Pr) (h:p.Ok) (k:Int) (s:Bs) (K:Out→Prop):Call prog 231 ⟨[.vp (prC q p),.i .i64 k,.s s],[],[]⟩ K=K (.i .i64 (freeCode p k s),[],[]):=by
  refine Zc (f:=231) rfl rfl (by decide) ?_
  have e0:=fun K=>ahw q p h k K
  unfold sgrpOut at e0
  unfold freeCode
  cases c0:p.grp k with
  | error c=>
    have hc:¬ c=0:=by have:=aet c0;omega
    simp only [c0] at e0
    simp -implicitDefEqProofs [e0,hc]
  | ok g=>
    have f:=grF_of c0
    have hl:=f.links
    have e1:=fun K=>atj false g.links s (by unfold lim;omega) K
    simp only [c0] at e0
    by_cases c1:0≤linkAt g.links s
    · simp -implicitDefEqProofs [e0,e1,c1]
    · by_cases c2:12≤g.links.length
      · have d2:(12:Int)≤g.links.length:=by omega
        simp -implicitDefEqProofs [e0,e1,c1,c2,d2]
      · have d2:¬ (12:Int)≤g.links.length:=by omega
        simp -implicitDefEqProofs [e0,e1,c1,c2,d2]
theorem ade (q:Bool) (p:Pr) (h:p.Ok) (k:Int) (s:Bs) (K:Out→Prop):Call prog 234 ⟨[.vp (prC q p),.i .i64 k,.s s],[],[]⟩ K=K (.i .i64 (freeCode p k s),[],[]):=by
  refine Zc (f:=234) rfl rfl (by decide) ?_
  have e0:=fun K=>ah8 q p h k K
  unfold grpOut at e0
  unfold freeCode
  cases c0:p.grp k with
  | error c=>
    have hc:¬ c=0:=by have:=aet c0;omega
    simp only [c0] at e0
    simp -implicitDefEqProofs [e0,hc]
  | ok g=>
    have f:=grF_of c0
    have hl:=f.links
    have e1:=fun K=>apw false g.links s (by unfold lim;omega) K k g.hd.kind g.hd.refs false false g.hd.msgs g.heap
    simp only [c0] at e0
    by_cases c1:0≤linkAt g.links s
    · simp -implicitDefEqProofs [e0,e1,c1]
    · by_cases c2:12≤g.links.length
      · have d2:(12:Int)≤g.links.length:=by omega
        simp -implicitDefEqProofs [e0,e1,c1,c2,d2]
      · have d2:¬ (12:Int)≤g.links.length:=by omega
        simp -implicitDefEqProofs [e0,e1,c1,c2,d2]
def lowL:List Lk→Bs→Nat
  | [],_=>0
  | x :: l,s=>if Op.bytesLess x.name s=true then lowL l s+1 else 0
theorem ary:∀ (l:List Lk) (s:Bs),lowL l s≤l.length
  | [],_=>Nat.le_refl _
  | x :: l,s=>by
    have:=ary l s
    rw [lowL];split
    · rw [List.length_cons];omega
    · exact Nat.zero_le _
theorem ato {l:List Lk} {s:Bs} {i:Nat} (hi:i≤lowL l s) (hl:i<l.length):(Op.bytesLess l[i].name s=true ↔ i<lowL l s):=by
  induction l generalizing i with
  | nil=>simp at hl
  | cons x l ih=>
    rw [lowL] at hi ⊢
    split at hi
    · rename_i h
      cases i with
      | zero=>simp [h]
      | succ i=>
        have:=ih (i:=i) (by omega) (by simpa using hl)
        simp only [h,if_true,List.getElem_cons_succ]
        rw [this];omega
    · rename_i h
      have:i=0:=by omega
      subst this
      simp [h]
def insL (l:List Lk) (x:Lk):List Lk:=l.take (lowL l x.name)++x :: l.drop (lowL l x.name)
theorem arl (l:List Lk) (x:Lk):(insL l x).length=l.length+1:=by
  have:=ary l x.name
  unfold insL
  rw [List.length_append,List.length_cons,List.length_take,List.length_drop];omega
theorem awz {l:List Lk} {x y:Lk} (h:y ∈ insL l x):y ∈ l∨y=x:=by
  unfold insL at h
  rcases List.mem_append.1 h with h | h
  · exact .inl (List.mem_of_mem_take h)
  · rcases List.mem_cons.1 h with h | h
    · exact .inr h
    · exact .inl (List.mem_of_mem_drop h)
def Pr.addL (p:Pr) (k:Int) (x:Lk):Int × Pr:=match p.grp k with
  | .error c=>(c,p)
  | .ok g=>match putN g.heap x.name with
    | none=>(5,p)
    | some h=>p.wrG k ⟨g.hd,h.1,insL g.links x⟩
end Go.VS
end
section
namespace Go.VS
set_option maxRecDepth 8000
theorem ayd (n:Nat) (s:Bs) (b:Bool):(dTake n s b).1.length≤s.length:=by
  unfold dTake
  split
  · rw [List.length_take];omega
  · simp
theorem lkI_ok {h:List Bs} {s:Bs} (hb:(lkI h s false).2.2=false):(lkI h s false).1.name ∈ h∧(lkI h s false).1.target.length≤s.length∧(lkI h s false).2.1.length≤s.length:=by
  unfold lkI at hb ⊢
  simp only at hb ⊢
  have l1:=aag (n:=1) (s:=s) (bad:=false)
  have l2:=aag (n:=1) (s:=(dTake 1 s false).2.1) (bad:=(dTake 1 s false).2.2)
  generalize dTake 1 s false=k at *
  generalize dTake 1 k.2.1 k.2.2=n at *
  split
  · rename_i c
    rw [if_pos c] at hb
    cases hb
  · rename_i c
    have hu:heapUsed h (leI k.1)=true:=by
      cases hx:heapUsed h (leI k.1) with
      | true=>rfl
      | false=>exact (c (.inr hx)).elim
    obtain ⟨_,hlt⟩:=ajy hu
    have hm:h.getD (leI k.1).toNat [] ∈ h:=by
      rw [List.getD_eq_getElem?_getD,List.getElem?_eq_getElem hlt]
      exact List.getElem_mem hlt
    split
    · have:=aag (n:=2) (s:=n.2.1) (bad:=n.2.2)
      exact ⟨hm,Nat.zero_le _,by simp only;omega⟩
    · have h3:=aag (n:=(leI n.1).toNat) (s:=n.2.1) (bad:=n.2.2)
      have h4:=ayd (leI n.1).toNat n.2.1 n.2.2
      exact ⟨hm,by simp only;omega,by simp only;omega⟩
theorem at5 {h:List Bs}:∀ (n:Nat) (s:Bs) (bad:Bool) (acc l:List Lk),rdLks h n s bad acc=some l→∀ x,x ∈ l→x ∈ acc∨(x.name ∈ h∧x.target.length≤s.length)
  | n,s,bad,acc,l,e,x,hx=>by
    unfold rdLks at e
    split at e
    · cases e
    · split at e
      · cases e;exact .inl hx
      · cases n with
        | zero=>cases e
        | succ n=>
          simp only at e
          cases hb:(lkI h s false).2.2 with
          | true=>rw [hb,afr] at e;cases e
          | false=>
            obtain ⟨k1,k2,k3⟩:=lkI_ok hb
            rcases at5 n _ _ _ l e x hx with h1 | ⟨h1,h2⟩
            · rcases List.mem_append.1 h1 with h1 | h1
              · exact .inl h1
              · simp at h1;subst h1;exact .inr ⟨k1,k2⟩
            · exact .inr ⟨h1,by omega⟩
theorem asu {h:List Bs} {s:Bs} {l:List Lk} (e:decLinks h s=some l):∀ x,x ∈ l→x.name ∈ h∧x.target.length≤s.length:=by
  unfold decLinks at e
  split at e
  · split at e
    · rename_i l' hl
      split at e
      · cases e
        intro x hx
        rcases at5 _ _ _ _ _ hl x hx with h1 | h1
        · cases h1
        · exact h1
      · cases e
    · cases e
  · cases e
theorem GrF.names {p:Pr} {k:Int} {g:Gr} (f:GrF p k g):∀ x,x ∈ g.links→x.name ∈ g.heap∧x.target.length≤200:=fun x hx=>by
  obtain ⟨h1,h2⟩:=asu f.lk x hx
  obtain ⟨j,hj,_,e⟩:=acl f.o7
  have:=(Hd.ok_facts (Pr.hdr_ok f.hdr)).2 _ (List.getElem_mem hj)
  rw [e] at h2
  exact ⟨h1,by omega⟩
theorem a02 {h h':List Bs} {s:Bs} {k:Nat} (e:putN h s=some (h',k)) (hl:h.length≤30):h'.length≤30:=by
  unfold putN at e
  split at e
  · cases e;simpa using hl
  · split at e
    · cases e
    · cases e;simp;omega
theorem a03 {h h':List Bs} {s y:Bs} {k:Nat} (e:putN h s=some (h',k)) (hy:y ∈ h'):y ∈ h∨y=s:=by
  unfold putN at e
  split at e
  · cases e
    rcases List.mem_or_eq_of_mem_set hy with h | h
    · exact .inl h
    · exact .inr h
  · split at e
    · cases e
    · cases e
      rcases List.mem_append.1 hy with h | h
      · exact .inl h
      · exact .inr (by simpa using h)
theorem a05 {h h':List Bs} {s y:Bs} {k:Nat} (e:putN h s=some (h',k)) (hy:y ∈ h) (hne:y≠[]):y ∈ h':=by
  unfold putN at e
  split at e
  · rename_i c
    obtain ⟨j,hj,hlt,_,hz⟩:=alq c
    cases e
    rw [hj,Int.toNat_natCast]
    obtain ⟨i,hi,rfl⟩:=List.getElem_of_mem hy
    have hij:j≠i:=fun e=>by subst e;exact hne hz
    have:(h.set j s)[i]'(by simpa using hi)=h[i]:=by rw [List.getElem_set_ne hij]
    rw [← this]
    exact List.getElem_mem _
  · split at e
    · cases e
    · cases e;exact List.mem_append_left _ hy
theorem a04 {h h':List Bs} {s:Bs} {k:Nat} (e:putN h s=some (h',k)):s ∈ h':=by
  unfold putN at e
  split at e
  · rename_i c
    obtain ⟨j,hj,hlt,_⟩:=alq c
    cases e
    rw [hj,Int.toNat_natCast]
    exact List.mem_set hlt s
  · split at e
    · cases e
    · cases e;simp
structure Lk.Fit (x:Lk):Prop where
  n:isName x.name=true
  t:x.target.length≤1048576
theorem aqk {s:Bs} (h:isName s=true):s.length≤12∧s≠[]:=by
  unfold isName at h
  simp only [Bool.and_eq_true,decide_eq_true_eq] at h
  refine ⟨by omega,fun e=>?_⟩
  subst e
  simp at h
theorem GrF.sm {p:Pr} {k:Int} {g:Gr} (f:GrF p k g) {x:Lk} (hx:x.Fit) {h':List Bs} {j:Nat} (e:putN g.heap x.name=some (h',j)):(⟨g.hd,h',insL g.links x⟩:Gr).Sm:=by
  obtain ⟨f1,f2⟩:=ac9 f.hp
  refine ⟨Hd.ok_sm (Pr.hdr_ok f.hdr),a02 e f1,fun y hy=>?_,⟨?_,fun y hy=>?_⟩,f.o9,f.o7⟩
  · rcases a03 e hy with h | rfl
    · exact f2 y h
    · exact (aqk hx.n).1
  · have:=f.links
    have h2:=arl g.links x
    show (insL g.links x).length≤13
    omega
  · rcases awz hy with h | rfl
    · have:=(f.names y h).2;omega
    · exact hx.t
end Go.VS
end
section
namespace Go.VS
set_option maxRecDepth 8000
set_option maxHeartbeats 4000000 in
theorem aj2 (p:Pr) (h:p.Ow) (k:Int) (x:Lk) (hx:x.Fit) (K:Out→Prop):
    Call prog 232 ⟨[.ptr 0 0,.i .i64 k,lkV x],[pmC 0 p],pmR p⟩ K=K (.i .i64 (p.addL k x).1,[pmC 0 (p.addL k x).2],pmR (p.addL k x).2):=by
  refine aax ?_ K
  rw [lkV,adm (p:=prog) (f:=232) rfl _ _ _ rfl (by decide)]
  have e0:=fun K=>ahw false p h.ok k K
  unfold sgrpOut at e0
  simp only [prC,Tag_eq] at e0
  unfold Pr.addL
  cases c0:p.grp k with
  | error c=>
    have hc:¬ c=0:=by have:=aet c0;omega
    simp only [c0] at e0
    simp -implicitDefEqProofs [pmC,pmR,e0,hc]
  | ok g=>
    have f:=grF_of c0
    have hl:=f.links
    simp only [c0] at e0
    have e1:=fun K=>ask false g.heap x.name f.hp hx.n K
    unfold putOut at e1
    cases c1:putN g.heap x.name with
    | none=>
      simp only [c1] at e1
      simp only
      rw [c1]
      simp -implicitDefEqProofs [pmC,pmR,e0,e1]
    | some y=>
      obtain ⟨h',j⟩:=y
      have hsm:=f.sm hx c1
      have e2:=fun K=>art p h k false false false ⟨g.hd,h',insL g.links x⟩ hsm K
      simp only [c1] at e1
      have r1:List.take (lowL g.links x.name) (g.links.map lkV)++V.agg [.s x.name,.i .i64 x.block,.s x.target] :: List.drop (lowL g.links x.name) (g.links.map lkV)=(insL g.links x).map lkV:=by
        unfold insL;rw [List.map_append,List.map_cons,List.map_take,List.map_drop];rfl
      have hle:=ary g.links x.name
      have hil:=arl g.links x
      have t1:List.take (g.links.length+1) ((insL g.links x).map lkV)=(insL g.links x).map lkV:=List.take_of_length_le (by simp [hil])
      simp only
      rw [c1]
      simp only
      simp only [pmC,pmR,Tag_eq] at e2
      generalize p.wrG k ⟨g.hd,h',insL g.links x⟩=R at *
      simp -implicitDefEqProofs [pmC,pmR,e0,e1]
      refine WL_for (fun i=>⟨sp 77 [(0,.ptr 0 0),(1,.i .i64 k),(5,.ptr 1 0),(7,.ptr 2 0),(9,.ptr 3 0),(11,.sl 8 0 0 false),(12,.i .i64 i)],[pmC 0 p,[.s x.name,.i .i64 x.block,.s x.target],[.i .i64 g.hd.kind,.i .i64 g.hd.refs,.sl 4 0 g.hd.msgs.length false,.sl 5 0 g.heap.length false,.sl 6 0 g.links.length false],[.sl 7 0 h'.length false]],
        pmR p++[.row 3 false (g.hd.msgs.map msV),.row 1 false (g.heap.map .s),.row 3 false (g.links.map lkV),.row 1 false (h'.map .s),.row 3 false []]⟩) g.links.length (fun i=>i≤lowL g.links x.name) _ (by simp -implicitDefEqProofs [pmC,pmR]) (Nat.zero_le _) ?_
      intro i hi hP
      by_cases hlt:i<g.links.length
      · have hw:=wrap_i64 (n:=(i:Int)+1) (by omega) (by omega)
        have hst:=ato hP hlt
        by_cases d:Op.bytesLess g.links[i].name x.name=true
        · have hP':i+1≤lowL g.links x.name:=hst.1 d
          simp -implicitDefEqProofs [pmC,pmR,hlt,hw,lkV,d,Next,hP']
        · have hie:i=lowL g.links x.name:=by have:=mt hst.2 d;omega
          subst hie
          generalize hL:lowL g.links x.name=L at *
          have q1:L≤lim:=by unfold lim;omega
          have q2:L+1≤lim:=by unfold lim;omega
          have q3:L+1+(g.links.length - L)≤lim:=by unfold lim;omega
          have q4:L+1+(g.links.length - L)=g.links.length+1:=by omega
          have q5:g.links.length+1≤lim:=by unfold lim;omega
          have r2:List.take (L+1) (List.take L (List.take L (g.links.map lkV))++[V.agg [.s x.name,.i .i64 x.block,.s x.target]])++List.take (g.links.length - L) (List.drop L (g.links.map lkV))=(insL g.links x).map lkV:=by
            rw [← r1,List.take_take,Nat.min_self,List.take_of_length_le (by simp;omega),List.take_of_length_le (l:=List.drop L (g.links.map lkV)) (by simp),List.append_assoc];rfl
          simp -implicitDefEqProofs [pmC,pmR,hlt,lkV,d,hle,q1,q2,q3,q4,q5,r2,t1,hil,e2]
      · have hie:i=lowL g.links x.name:=by omega
        have hL:lowL g.links x.name=g.links.length:=by omega
        rw [hL] at r1
        subst hie
        rw [hL] at hlt ⊢
        have q1:g.links.length≤lim:=by unfold lim;omega
        have q2:g.links.length+1≤lim:=by unfold lim;omega
        have r2:List.take (g.links.length+1) (List.take (g.links.length+1) (g.links.map lkV++[V.agg [.s x.name,.i .i64 x.block,.s x.target]]))=(insL g.links x).map lkV:=by
          rw [← r1,List.take_take,Nat.min_self,List.take_of_length_le (by simp),List.take_of_length_le (by simp),List.drop_of_length_le (by simp)]
        simp -implicitDefEqProofs [pmC,pmR,lkV,q1,q2,r2,t1,hil,e2]
end Go.VS
end
section
namespace Go.VS
set_option maxRecDepth 8000
theorem Pr.Ow.wrG {p:Pr} (h:p.Ow) (k:Int) (g:Gr):(p.wrG k g).2.Ow:=by
  unfold Pr.wrG
  split
  · exact h
  · exact (h.wrH k g.form).1
theorem Pr.Ow.addL {p:Pr} (h:p.Ow) (k:Int) (x:Lk):(p.addL k x).2.Ow:=by
  unfold Pr.addL
  split
  · exact h
  · split
    · exact h
    · exact h.wrG k _
def Pr.softP (p:Pr) (k:Int) (n t:Bs):Int × Pr:=if freeCode p k n=0 then p.addL k ⟨n,0,t⟩ else (freeCode p k n,p)
theorem Pr.Ow.softP {p:Pr} (h:p.Ow) (k:Int) (n t:Bs):(p.softP k n t).2.Ow:=by
  unfold Pr.softP
  split
  · exact h.addL k _
  · exact h
def softOut (p:Pr) (k:Int) (n t:Bs):Int × Pr:=if p.ok=true∧isName n=true∧(pathOf t).isSome=true then p.softP k n t else (1,p)
theorem atm (p:Pr) (h:p.Ow) (k:Int) (n t:Bs) (hn:isName n=true) (ht:t.length≤1048576) (K:Out→Prop):
    Call prog 206 ⟨[.ptr 0 0,.i .i64 k,.s n,.s t],[pmC 0 p],pmR p⟩ K=K (.i .i64 (p.softP k n t).1,[pmC 0 (p.softP k n t).2],pmR (p.softP k n t).2):=by
  refine Zc (f:=206) rfl rfl (by decide) ?_
  have e1:=fun K=>ahv false p h.ok k n K
  have e2:=fun K=>aj2 p h k ⟨n,0,t⟩ ⟨hn,ht⟩ K
  simp only [prC,lkV,pmC,pmR,Tag_eq] at e1 e2
  unfold Pr.softP
  by_cases c:freeCode p k n=0
  · rw [if_pos c]
    generalize p.addL k ⟨n,0,t⟩=R at *
    simp -implicitDefEqProofs [pmC,pmR,e1,e2,c]
  · rw [if_neg c]
    simp -implicitDefEqProofs [pmC,pmR,e1,c]
theorem amf (q:Bool) (p:Pr) (h:p.sm) (k:Int) (n t:Bs) (hn:n.length≤1048576) (ht:t.length≤1048576) (K:Out→Prop):
    Call prog 190 ⟨[.agg (prC q p),.i .i64 k,.s n,.s t],[],[]⟩ K=K (prO (softOut p k n t)):=by
  refine Zc (f:=190) rfl rfl (by decide) ?_
  have e1:=fun K=>amd q p h K
  have e2:=fun K=>abn n (by unfold lim;omega) K
  have e3:=fun K=>ah2 t (by unfold lim;omega) K
  have e4:=fun K=>aj0 q p h K
  unfold softOut
  cases c1:p.ok with
  | false=>
    rw [c1] at e1
    simp only [prC,Tag_eq] at e1
    simp -implicitDefEqProofs [prC,prO,prZ,e1]
  | true=>
    have ho:=Pr.Ow.of c1
    rw [c1] at e1
    cases c2:isName n with
    | false=>
      rw [c2] at e2
      simp only [prC,Tag_eq] at e1
      simp -implicitDefEqProofs [prC,prO,prZ,e1,e2]
    | true=>
      rw [c2] at e2
      cases c3:(pathOf t).isSome with
      | false=>
        rw [c3] at e3
        simp only [prC,Tag_eq] at e1
        simp -implicitDefEqProofs [prC,prO,prZ,e1,e2,e3]
      | true=>
        rw [c3] at e3
        have e5:=fun K=>atm p ho k n t c2 ht K
        simp only [true_and,if_true]
        unfold prO
        generalize p.softP k n t=R at *
        obtain ⟨c,x⟩:=R
        simp only at e5 ⊢
        by_cases c4:c=0
        · simp only [c4,if_true,prC,pmC,pmR,Nat.zero_add,Tag_eq] at e1 e4 e5 ⊢
          simp -implicitDefEqProofs [prC,pmC,pmR,e1,e2,e3,e4,e5]
        · simp only [c4,if_false,prC,pmC,pmR,prZ,Nat.zero_add,Tag_eq] at e1 e4 e5 ⊢
          simp -implicitDefEqProofs [prC,pmC,pmR,prZ,e1,e2,e3,e4,e5,c4]
end Go.VS
end
section
namespace Go.VS
set_option maxRecDepth 8000
theorem aqo {h:List Bs} {s:Bs} (hm:s ∈ h):0≤slotOf h s:=by
  have key:∀ (l:List Bs) (i:Nat),s ∈ l→0≤idxF (fun y=>decide (y=s)) l i:=by
    intro l
    induction l with
    | nil=>intro i h;cases h
    | cons x l ih=>
      intro i h
      rw [idxF]
      split
      · omega
      · rename_i c
        rcases List.mem_cons.1 h with h | h
        · exact absurd h.symm (by simpa using c)
        · exact ih _ h
  exact key h 0 hm
set_option maxHeartbeats 4000000 in
theorem ani (q q2:Bool) (l:List Lk) (s:LkSm l) (h:List Bs) (hl:h.length≤lim) (hn:∀ x,x ∈ l→0≤slotOf h x.name) (K:Out→Prop):
    Call prog 284 ⟨[.view q 3 (l.map lkV),.agg [.view q2 1 (h.map .s)]],[],[]⟩ K=K (.tup [.s (encLks h l),.b (decide ((usedSlots h:Int)=(l.length:Int)))],[],[]):=by
  refine Zc (f:=284) rfl rfl (by decide) ?_
  have e1:∀ n K,Call prog 255 ⟨[.i .i64 n,.i .i64 1],[],[]⟩ K=K (.s (leB n 1),[],[]):=fun n K=>aay n 1 (by decide) K
  have e2:∀ n K,Call prog 255 ⟨[.i .i64 n,.i .i64 2],[],[]⟩ K=K (.s (leB n 2),[],[]):=fun n K=>aay n 2 (by decide) K
  have e9:=fun K=>ajt q2 h hl K
  have hs:=s.n
  simp -implicitDefEqProofs
  refine WL_for (fun i=>⟨sp 48 [(0,.view q 3 (l.map lkV)),(3,.ptr 0 0),(6,.ptr 1 0),(10,.view q 3 (l.map lkV)),(11,.i .i64 l.length),(12,.i .i64 i)],[[.view q2 1 (h.map .s)],[if i=0 then .bz else .ptr 1 0,.sl 0 0 (encLks h (l.take i)).length (decide (encLks h (l.take i)=[]))]],[.row 1 false (bytesT (encLks h (l.take i)))]⟩) l.length (fun i=>True) _ (by simp -implicitDefEqProofs [encLks,bytesT]) trivial ?_
  intro i hi _
  by_cases hlt:i<l.length
  · have hw:=wrap_i64 (n:=(i:Int)+1) (by omega) (by omega)
    have hx:=List.getElem_mem hlt
    have e3:=fun K=>aj5 q2 h l[i].name hl K
    have h0:¬ slotOf h l[i].name<0:=by have:=hn _ hx;omega
    have h1:=s.t _ hx
    have h2:=s.enc h i
    have h5:encLks h (l.take (i+1))=encLks h (l.take i)++encLk h l[i]:=abp _ l hlt
    have h9:2≤lim:=by decide
    simp only [h5,encLk]
    generalize encLks h (l.take i)=A at *
    have w1:=fun a (ha:isSelf a=true) K=>aa9 a A (leB (slotOf h l[i].name) 1++leB l[i].target.length 1) ha (by simp;unfold lim;omega) K
    have w2:=fun K=>aa9 (.ptr 0 0) (A++(leB (slotOf h l[i].name) 1++leB l[i].target.length 1)) (leB l[i].block 2) rfl (by simp;unfold lim;omega) K
    have w3:=fun K=>aa9 (.ptr 0 0) (A++(leB (slotOf h l[i].name) 1++leB l[i].target.length 1)) l[i].target rfl (by simp;unfold lim;omega) K
    have hne:∀ n,(leB n 1=[])=False:=fun n=>by simp [aru]
    have hne2:∀ n,(leB n 2=[])=False:=fun n=>by simp [leB]
    by_cases hi0:i=0
    · rw [if_pos hi0]
      have w1':=fun K=>w1 .bz rfl K
      by_cases c:l[i].target=[]
      · simp -implicitDefEqProofs [c,hne,hne2,Tag_eq] at w1' w2
        simp -implicitDefEqProofs [hlt,hw,lkV,e1,e2,e3,h0,h9,c,w1',w2,hne,hne2,Next]
      · simp -implicitDefEqProofs [c,hne,Tag_eq] at w1' w3
        simp -implicitDefEqProofs [hlt,hw,lkV,e1,e2,e3,h0,h9,c,w1',w3,hne,Next]
    · rw [if_neg hi0]
      have w1':=fun K=>w1 (.ptr 0 0) rfl K
      by_cases c:l[i].target=[]
      · simp -implicitDefEqProofs [c,hne,hne2,Tag_eq] at w1' w2
        simp -implicitDefEqProofs [hlt,hw,lkV,e1,e2,e3,h0,h9,c,w1',w2,hne,hne2,Next]
      · simp -implicitDefEqProofs [c,hne,Tag_eq] at w1' w3
        simp -implicitDefEqProofs [hlt,hw,lkV,e1,e2,e3,h0,h9,c,w1',w3,hne,Next]
  · have hie:i=l.length:=by omega
    subst hie
    rw [List.take_length]
    generalize encLks h l=A at *
    have b1:=fun a (ha:isSelf a=true) K=>agy a A ha K
    by_cases hi0:l.length=0
    · rw [if_pos hi0]
      have b1':=fun K=>b1 .bz rfl K
      simp -implicitDefEqProofs [b1',e9]
    · rw [if_neg hi0]
      have b1':=fun K=>b1 (.ptr 0 0) rfl K
      simp -implicitDefEqProofs [b1',e9]
end Go.VS
end
section
namespace Go.VS
set_option maxRecDepth 8000
theorem atx {ms:List Ms} {k:Int} (h:onlyB ms k=true):idxF (isK k) ms 0=onlyX ms k:=by
  unfold onlyB at h
  unfold onlyX
  split at h
  · cases h
  · rename_i c;rw [if_neg c]
set_option maxHeartbeats 4000000 in
theorem apk (p:Pr) (h:p.Ow) (k:Int) (tg:Bool) (g:Gr) (s:g.Sm) (hn:∀ x,x ∈ g.links→0≤slotOf g.heap x.name) (K:Out→Prop):
    Call prog 264 ⟨[.ptr 0 0,.agg [.i .i64 k,.i .i64 g.hd.kind,.i .i64 g.hd.refs,.sl 0 0 g.hd.msgs.length false,.sl 1 0 g.heap.length false,.sl 2 0 g.links.length tg]],[pmC 3 p],[.row 3 false (g.hd.msgs.map msV),.row 1 false (g.heap.map .s),.row 3 false (g.links.map lkV)]++pmR p⟩ K=
    K (.i .i64 (p.wrG k g).1,[pmC 0 (p.wrG k g).2],pmR (p.wrG k g).2):=by
  refine Zc (f:=264) rfl rfl (by decide) ?_
  have h30:g.heap.length≤lim:=by have:=s.n;unfold lim;omega
  have hm24:g.hd.msgs.length≤lim:=by have:=s.h.n;unfold lim;omega
  have e1:=fun K=>aoa false g.heap s.n s.s K
  have e2:=fun K=>ani false false g.links s.l g.heap h30 hn K
  by_cases c:200<(encHeap g.heap).length∨200<(encLks g.heap g.links).length
  · unfold Pr.wrG
    rw [if_pos c]
    by_cases c1:200<(encLks g.heap g.links).length
    · have d1:(200:Int)<(encLks g.heap g.links).length:=by omega
      simp -implicitDefEqProofs [e1,e2,d1,pmC,pmR]
    · have d1:¬ (200:Int)<(encLks g.heap g.links).length:=by omega
      have d2:(200:Int)<(encHeap g.heap).length:=by omega
      simp -implicitDefEqProofs [e1,e2,d1,d2,pmC,pmR]
  · have hsm:=s.form c
    unfold Pr.wrG
    rw [if_neg c]
    have d1:¬ (200:Int)<(encHeap g.heap).length:=by omega
    have d2:¬ (200:Int)<(encLks g.heap g.links).length:=by omega
    obtain ⟨i,hi,ei,gi⟩:=acl s.o9
    obtain ⟨j,hj,ej,gj⟩:=acl s.o7
    have w9:idxF (isK 9) g.hd.msgs 0=i:=by rw [atx s.o9,ei]
    have w7:idxF (isK 7) g.hd.msgs 0=j:=by rw [atx s.o7,ej]
    have hf:g.form=⟨g.hd.kind,g.hd.refs,setD (setD g.hd.msgs i (encHeap g.heap)) j (encLks g.heap g.links)⟩:=by
      unfold Gr.form
      rw [ei,ej];rfl
    have e4:=fun K=>ae5 false g.hd 9 hm24 K
    have e5:=fun K=>ae5 false ⟨g.hd.kind,g.hd.refs,setD g.hd.msgs i (encHeap g.heap)⟩ 7 (by simpa [setD] using hm24) K
    simp only at e5
    rw [ayv 7 _ _ 0 (azv g.hd.msgs i (encHeap g.heap)),w7] at e5
    rw [w9] at e4
    have e6:=fun K=>agx p h k false g.form hsm K
    rw [hf] at e6 ⊢
    generalize p.wrH k ⟨g.hd.kind,g.hd.refs,setD (setD g.hd.msgs i (encHeap g.heap)) j (encLks g.heap g.links)⟩=R at *
    have r1:=anz g.hd.msgs hi (encHeap g.heap)
    have hj2:j<(setD g.hd.msgs i (encHeap g.heap)).length:=by rw [ae0];exact hj
    have r2:=anz (setD g.hd.msgs i (encHeap g.heap)) hj2 (encLks g.heap g.links)
    have hl1:=ae0 g.hd.msgs i (encHeap g.heap)
    have hl2:=ae0 (setD g.hd.msgs i (encHeap g.heap)) j (encLks g.heap g.links)
    rw [hl1] at hl2
    generalize hA:setD g.hd.msgs i (encHeap g.heap)=A at *
    generalize hB:setD A j (encLks g.heap g.links)=B at *
    have tA:List.take g.hd.msgs.length (A.map msV)=A.map msV:=List.take_of_length_le (by simp [hl1])
    have tB:List.take g.hd.msgs.length (B.map msV)=B.map msV:=List.take_of_length_le (by simp [hl2])
    simp only [hdC,pmC,pmR,Tag_eq] at e4 e5 e6
    simp -implicitDefEqProofs [e1,e2,e4,e5,e6,d1,d2,pmC,pmR,hi,hj,hj2,av9,r1,r2,hl1,hl2,tA,tB]
theorem aqw (tg tg2:Bool) (l:List Lk) (i:Nat) (x:Lk) (hi:i≤l.length) (hl:l.length+1≤lim) (K:Out→Prop):
    Call prog 263 ⟨[.sl 0 0 l.length tg,.i .i64 i,.sl 1 0 1 tg2],[],[.row 3 false (l.map lkV),.row 3 false [.agg [.s x.name,.i .i64 x.block,.s x.target]]]⟩ K=K (.sl 0 0 (l.length+1) false,[],[.row 3 false ((l.take i++x :: l.drop i).map lkV)]):=by
  rw [aav (p:=prog) (f:=263) rfl]
  have:nInsert 3 ⟨[.sl 0 0 l.length tg,.i .i64 i,.sl 1 0 1 tg2],[],[.row 3 false (l.map lkV),.row 3 false [.agg [.s x.name,.i .i64 x.block,.s x.target]]]⟩=some (.sl 0 0 (l.length+1) false,[],[.row 3 false ((l.take i++x :: l.drop i).map lkV)]):=by
    refine (if_pos ⟨rfl,rfl,by simp,by omega,by omega,by simpa using hl,rfl,aic _ (fun _=>rfl) l⟩).trans ?_
    simp [List.map_take,List.map_drop,lkV]
  rw [this,abd]
theorem GrF.slots {p:Pr} {k:Int} {g:Gr} (f:GrF p k g) {x:Lk} (hx:x.Fit) {h':List Bs} {j:Nat} (e:putN g.heap x.name=some (h',j)):∀ y,y ∈ insL g.links x→0≤slotOf h' y.name:=fun y hy=>by
  rcases awz hy with h | rfl
  · refine aqo (a05 e (f.names y h).1 ?_)
    have:=(ad6 (ajw f.lk)).2 y h
    unfold Lk.ok at this
    simp only [Bool.and_eq_true] at this
    exact (aqk this.1).2
  · exact aqo (a04 e)
set_option maxHeartbeats 4000000 in
theorem ag3 (p:Pr) (h:p.Ow) (k:Int) (x:Lk) (hx:x.Fit) (K:Out→Prop):
    Call prog 235 ⟨[.ptr 0 0,.i .i64 k,lkV x],[pmC 0 p],pmR p⟩ K=K (.i .i64 (p.addL k x).1,[pmC 0 (p.addL k x).2],pmR (p.addL k x).2):=by
  refine aax ?_ K
  rw [lkV,adm (p:=prog) (f:=235) rfl _ _ _ rfl (by decide)]
  have e0:=fun K=>ah8 false p h.ok k K
  unfold grpOut at e0
  simp only [prC,Tag_eq] at e0
  unfold Pr.addL
  cases c0:p.grp k with
  | error c=>
    have hc:¬ c=0:=by have:=aet c0;omega
    simp only [c0] at e0
    simp -implicitDefEqProofs [pmC,pmR,e0,hc]
  | ok g=>
    have f:=grF_of c0
    have hl:=f.links
    simp only [c0] at e0
    have h30:=ac9 f.hp
    have e1:=fun K=>a06 false g.heap x.name (by have:=h30.1;unfold lim;omega) K
    unfold putOut at e1
    cases c1:putN g.heap x.name with
    | none=>
      simp only [c1] at e1
      simp only
      rw [c1]
      simp -implicitDefEqProofs [pmC,pmR,e0,e1]
    | some y=>
      obtain ⟨h',j⟩:=y
      have hsm:=f.sm hx c1
      have e2:=fun K=>apk p h k false ⟨g.hd,h',insL g.links x⟩ hsm (f.slots hx c1) K
      simp only [c1] at e1
      have hle:=ary g.links x.name
      have hil:=arl g.links x
      have e3:=fun K=>aqw false false g.links (lowL g.links x.name) x hle (by unfold lim;omega) K
      rw [show g.links.take (lowL g.links x.name)++x :: g.links.drop (lowL g.links x.name)=insL g.links x from rfl] at e3
      simp only
      rw [c1]
      simp only
      simp only [pmC,pmR,hil,List.cons_append,List.nil_append,Tag_eq] at e2
      generalize p.wrG k ⟨g.hd,h',insL g.links x⟩=R at *
      simp -implicitDefEqProofs [pmC,pmR,e0,e1]
      refine WL_for (fun i=>⟨sp 60 [(0,.ptr 0 0),(5,.ptr 1 0),(7,.ptr 2 0),(9,.i .i64 i)],[pmC 0 p,[.s x.name,.i .i64 x.block,.s x.target],[.i .i64 k,.i .i64 g.hd.kind,.i .i64 g.hd.refs,.sl 4 0 g.hd.msgs.length false,.sl 5 0 h'.length false,.sl 6 0 g.links.length false]],
        pmR p++[.row 3 false (g.hd.msgs.map msV),.row 1 false (h'.map .s),.row 3 false (g.links.map lkV)]⟩) g.links.length (fun i=>i≤lowL g.links x.name) _ (by simp -implicitDefEqProofs [pmC,pmR]) (Nat.zero_le _) ?_
      intro i hi hP
      by_cases hlt:i<g.links.length
      · have hw:=wrap_i64 (n:=(i:Int)+1) (by omega) (by omega)
        have hst:=ato hP hlt
        by_cases d:Op.bytesLess g.links[i].name x.name=true
        · have hP':i+1≤lowL g.links x.name:=hst.1 d
          simp -implicitDefEqProofs [pmC,pmR,hlt,hw,lkV,d,Next,hP']
        · have hie:i=lowL g.links x.name:=by have:=mt hst.2 d;omega
          subst hie
          generalize hL:lowL g.links x.name=L at *
          simp -implicitDefEqProofs [pmC,pmR,hlt,lkV,d,e2,e3]
      · have hie:i=lowL g.links x.name:=by omega
        have hL:lowL g.links x.name=g.links.length:=by omega
        subst hie
        rw [hL] at hlt e3 ⊢
        simp -implicitDefEqProofs [pmC,pmR,lkV,e2,e3]
end Go.VS
end
section
namespace Go.VS
set_option maxRecDepth 8000
theorem ase (p:Pr) (h:p.Ow) (k:Int) (n t:Bs) (hn:isName n=true) (ht:t.length≤1048576) (K:Out→Prop):
    Call prog 233 ⟨[.ptr 0 0,.i .i64 k,.s n,.s t],[pmC 0 p],pmR p⟩ K=K (.i .i64 (p.softP k n t).1,[pmC 0 (p.softP k n t).2],pmR (p.softP k n t).2):=by
  refine Zc (f:=233) rfl rfl (by decide) ?_
  have e1:=fun K=>ade false p h.ok k n K
  have e2:=fun K=>ag3 p h k ⟨n,0,t⟩ ⟨hn,ht⟩ K
  simp only [prC,lkV,pmC,pmR,Tag_eq] at e1 e2
  unfold Pr.softP
  by_cases c:freeCode p k n=0
  · rw [if_pos c]
    generalize p.addL k ⟨n,0,t⟩=R at *
    simp -implicitDefEqProofs [pmC,pmR,e1,e2,c]
  · rw [if_neg c]
    simp -implicitDefEqProofs [pmC,pmR,e1,c]
theorem alx (p:Pr) (h:p.Ow) (k:Int) (n t:Bs) (hn:isName n=true) (ht:t.length≤1048576) (K:Out→Prop):
    Call prog 207 ⟨[.ptr 0 0,.vp [.i .i64 k],.vp [.s n],.vp [.s t]],[pmC 0 p],pmR p⟩ K=K (.i .i64 (p.softP k n t).1,[pmC 0 (p.softP k n t).2],pmR (p.softP k n t).2):=by
  refine Zc (f:=207) rfl rfl (by decide) ?_
  have e1:=fun K=>ase p h k n t hn ht K
  simp only [pmC,pmR,Nat.zero_add,Tag_eq] at e1
  simp -implicitDefEqProofs [pmC,pmR,e1]
theorem anc (q:Bool) (p:Pr) (h:p.sm) (k:Int) (n t:Bs) (hn:n.length≤1048576) (ht:t.length≤1048576) (K:Out→Prop):
    Call prog 191 ⟨[.agg (prC q p),.i .i64 k,.s n,.s t],[],[]⟩ K=K (prO (softOut p k n t)):=by
  refine Zc (f:=191) rfl rfl (by decide) ?_
  have e1:=fun K=>adn q p h K
  have e2:=fun K=>acr n (by unfold lim;omega) K
  have e3:=fun K=>aii t (by unfold lim;omega) K
  unfold softOut
  cases c1:p.ok with
  | false=>
    rw [c1] at e1
    simp only [prC,Tag_eq] at e1
    simp -implicitDefEqProofs [prC,prO,prZ,e1]
  | true=>
    have ho:=Pr.Ow.of c1
    rw [c1] at e1
    cases c2:isName n with
    | false=>
      rw [c2] at e2
      simp only [prC,Tag_eq] at e1
      simp -implicitDefEqProofs [prC,prO,prZ,e1,e2]
    | true=>
      rw [c2] at e2
      cases c3:(pathOf t).isSome with
      | false=>
        rw [c3] at e3
        simp only [prC,Tag_eq] at e1
        simp -implicitDefEqProofs [prC,prO,prZ,e1,e2,e3]
      | true=>
        rw [c3] at e3
        have e5:=fun K=>amk q p h 207 (by decide) [.vp [.i .i64 k],.vp [.s n],.vp [.s t]] (p.softP k n t) (by simp) (fun K=>alx p ho k n t c2 ht K) K
        simp only [true_and,if_true]
        unfold prO at e5 ⊢
        generalize p.softP k n t=R at *
        obtain ⟨c,x⟩:=R
        simp only at e5 ⊢
        by_cases c4:c=0
        · simp only [c4,if_true,prC,pmC,pmR,Nat.zero_add,Tag_eq] at e1 e5 ⊢
          simp -implicitDefEqProofs [prC,pmC,pmR,e1,e2,e3,e5]
        · simp only [c4,if_false,prC,prZ,Tag_eq] at e1 e5 ⊢
          simp -implicitDefEqProofs [prC,prZ,e1,e2,e3,e5]
end Go.VS
end
