/-
  What the functions of the program answer (second part): a pager that is written to, headers written, pagers copied.
-/
import Derived.Test.YtdnblconoegeaaaGreatDoorB3
set_option linter.all false
section
namespace Go.VS
def pmC (k:Nat) (p:Pr):List V:=[.sl k 0 p.disk.blocks.length false,.sl (k+1) 0 p.disk.pend.length false,.i .i64 p.disk.fuse,.b p.disk.off,
  .i .i64 p.su.blocks,.i .i64 p.su.log,.i .i64 p.su.seq,.i .i64 p.su.turn,.i .i64 p.seq,.i .i64 p.at_,.sl (k+2) 0 p.logged.length false,.sl (k+3) 0 p.dirty.length false]
def pmR (p:Pr):List Rw:=[.row 1 false (p.disk.blocks.map .s),.row 2 false (p.disk.pend.map pgV),.row 2 false (p.logged.map pgV),.row 2 false (p.dirty.map pgV)]
structure Pr.Ow (p:Pr):Prop where
  ok:p.Ok
  ft:p.su.fits p.dirty.length=true
theorem auh {l:List Pg}:Sorted l ↔ l.Pairwise fun a b=>a.block<b.block:=by
  rw [List.pairwise_iff_getElem]
  exact ⟨fun h i j hi hj hij=>h i j hi hj hij,fun h i j hi hj hij=>h i j hi hj hij⟩
def putPg (l:List Pg) (k:Int) (d:Bs):List Pg:=
  if (pgAt l k).isSome=true then l.set (lowI l k) ⟨k,d⟩ else l.take (lowI l k)++⟨k,d⟩ :: l.drop (lowI l k)
theorem apc {l:List Pg} (hs:Sorted l) {k:Int} (h:(pgAt l k).isSome=true):∃ hlt:lowI l k<l.length,l[lowI l k].block=k:=by
  rw [ant hs] at h
  cases hx:l[lowI l k]? with
  | none=>rw [hx] at h;cases h
  | some y=>
    rw [hx] at h
    simp only at h
    split at h
    · rename_i h0
      obtain ⟨h1,h2⟩:=List.getElem?_eq_some_iff.1 hx
      refine ⟨h1,?_⟩
      rw [h2]
      unfold cmpI at h0
      split at h0
      · cases h0
      · split at h0
        · cases h0
        · omega
    · cases h
theorem azn {l:List Pg} (hs:Sorted l) {k:Int} (h:(pgAt l k).isSome=false):∀ x,x ∈ l.drop (lowI l k)→k<x.block:=by
  intro x hx
  obtain ⟨h1,h2⟩:=alg l k
  obtain ⟨j,hj,rfl⟩:=List.getElem_of_mem hx
  rw [List.length_drop] at hj
  rw [List.getElem_drop]
  have hlt:lowI l k<l.length:=by omega
  have h3:=h2 hlt
  have h4:l[lowI l k].block≠k:=by
    intro e
    rw [ant hs,List.getElem?_eq_getElem hlt] at h
    simp [cmpI,e] at h
  by_cases e:j=0
  · subst e;simp only [Nat.add_zero];omega
  · have:=hs (lowI l k) (lowI l k+j) hlt (by omega) (by omega)
    omega
theorem a11 {l:List Pg} {k:Int}:∀ x,x ∈ l.take (lowI l k)→x.block<k:=by
  intro x hx
  obtain ⟨h1,h2⟩:=alg l k
  obtain ⟨j,hj,rfl⟩:=List.getElem_of_mem hx
  rw [List.length_take] at hj
  rw [List.getElem_take]
  exact h1 j (by omega) (by omega)
theorem at4 {l:List Pg} (hs:Sorted l) (k:Int) (d:Bs):Sorted (putPg l k d):=by
  unfold putPg
  split
  · rename_i h
    obtain ⟨hlt,hk⟩:=apc hs h
    have e:(l.set (lowI l k) ⟨k,d⟩).map Pg.block=l.map Pg.block:=by
      rw [List.map_set]
      have:(⟨k,d⟩:Pg).block=(l.map Pg.block)[lowI l k]'(by simpa using hlt):=by simp [hk]
      rw [this]
      exact List.set_getElem_self _
    have h1:(l.map Pg.block).Pairwise (·<·):=by rw [List.pairwise_map];exact auh.1 hs
    rw [← e,List.pairwise_map] at h1
    exact auh.2 h1
  · rename_i h
    have h:=Bool.eq_false_iff.2 h
    have hp:=auh.1 hs
    rw [auh,List.pairwise_append]
    refine ⟨hp.sublist (List.take_sublist _ _),List.pairwise_cons.2 ⟨fun x hx=>azn hs h x hx,hp.sublist (List.drop_sublist _ _)⟩,?_⟩
    intro a ha b hb
    have h1:=a11 a ha
    rcases List.mem_cons.1 hb with rfl | hb
    · exact h1
    · have:=azn hs h b hb;omega
theorem azq {l:List Pg} {k:Int} {d:Bs} {x:Pg} (h:x ∈ putPg l k d):x=⟨k,d⟩∨x ∈ l:=by
  unfold putPg at h
  split at h
  · rcases List.mem_or_eq_of_mem_set h with h | h
    · exact .inr h
    · exact .inl h
  · rcases List.mem_append.1 h with h | h
    · exact .inr (List.mem_of_mem_take h)
    · rcases List.mem_cons.1 h with h | h
      · exact .inl h
      · exact .inr (List.mem_of_mem_drop h)
theorem at3 (l:List Pg) (k:Int) (d:Bs):(putPg l k d).length=if (pgAt l k).isSome=true then l.length else l.length+1:=by
  have:=avf l k
  unfold putPg
  split
  · simp
  · simp;omega
def Pr.setP (p:Pr) (k:Int) (d:Bs):Int × Pr:=
  if (pgAt p.dirty k).isSome=true∨p.su.fits (p.dirty.length+1)=true then (0,{ p with dirty:=putPg p.dirty k d }) else (5,p)
theorem Su.fits_le {s:Su} {n:Nat} (h:s.fits n=true):n≤60:=by
  simp only [Su.fits,Bool.or_eq_true,decide_eq_true_eq,Bool.and_eq_true,Tag_eq] at h
  omega
theorem Pr.Ow.setP {p:Pr} (h:p.Ow) {k:Int} {d:Bs} (hk:0≤k∧k≤255) (hd:d.length=64):(p.setP k d).2.Ow:=by
  unfold Pr.setP
  split
  · rename_i hc
    have hl:=at3 p.dirty k d
    have hf:p.su.fits (putPg p.dirty k d).length=true:=by
      rw [hl]
      split
      · exact h.ft
      · rename_i h0
        have:=hc.resolve_left h0
        rw [Int.natCast_add];exact this
    have h60:=Su.fits_le hf
    exact ⟨⟨h.ok.nb,h.ok.np,h.ok.bl,h.ok.pd,h.ok.su,h.ok.sb,h.ok.lg,⟨by show (putPg p.dirty k d).length≤256;omega,at4 h.ok.dt.2.1 k d,fun x hx=>by
      rcases azq hx with rfl | hx
      · exact ⟨hk,hd⟩
      · exact h.ok.dt.2.2 x hx⟩,⟨h.ok.sm.sb,h.ok.sm.sp,h.ok.sm.sl,by show (putPg p.dirty k d).length≤lim;unfold lim;omega⟩⟩,hf⟩
  · exact h
@[simp] theorem Pr.setP_su {p:Pr} {k:Int} {d:Bs}:(p.setP k d).2.su=p.su:=by unfold Pr.setP;split <;> rfl
@[simp] theorem Pr.setP_disk {p:Pr} {k:Int} {d:Bs}:(p.setP k d).2.disk=p.disk:=by unfold Pr.setP;split <;> rfl
def mg:List Pg→List Pg→List Pg
  | [],bs=>bs
  | a :: as,[]=>a :: as
  | a :: as,b :: bs=>if a.block<b.block then a :: mg as (b :: bs) else b :: mg (if a.block=b.block then as else a :: as) bs
termination_by a b=>a.length+b.length
decreasing_by
  · simp
  · split <;> simp <;> omega
theorem mg_nil (l:List Pg):mg l []=l:=by
  cases l <;> simp [mg]
theorem nil_mg (l:List Pg):mg [] l=l:=by simp [mg]
theorem mg_lt {a b:Pg} {as bs:List Pg} (h:a.block<b.block):mg (a :: as) (b :: bs)=a :: mg as (b :: bs):=by rw [mg,if_pos h]
theorem mg_eq {a b:Pg} {as bs:List Pg} (h:a.block=b.block):mg (a :: as) (b :: bs)=b :: mg as bs:=by rw [mg,if_neg (by omega),if_pos h]
theorem mg_gt {a b:Pg} {as bs:List Pg} (h:b.block<a.block):mg (a :: as) (b :: bs)=b :: mg (a :: as) bs:=by rw [mg,if_neg (by omega),if_neg (by omega)]
theorem mg_put (k:Int) (d:Bs):∀ (l:List Pg),Sorted l→mg l [⟨k,d⟩]=putPg l k d
  | [],_=>by rw [nil_mg];rfl
  | a :: l,hs=>by
    have hs2:Sorted l:=by rw [auh] at hs ⊢;exact (List.pairwise_cons.1 hs).2
    by_cases c:a.block<k
    · have e1:lowI (a :: l) k=lowI l k+1:=by simp [lowI,List.takeWhile_cons,c]
      have e2:pgAt (a :: l) k=pgAt l k:=by
        have:(a.block == k)=false:=by simp;omega
        simp [pgAt,List.find?_cons,this]
      rw [mg_lt c,mg_put k d l hs2]
      unfold putPg
      rw [e1,e2]
      split <;> simp
    · have e1:lowI (a :: l) k=0:=by simp [lowI,List.takeWhile_cons,c]
      by_cases c2:a.block=k
      · have e2:(pgAt (a :: l) k).isSome=true:=by simp [pgAt,List.find?_cons,c2]
        rw [mg_eq c2,mg_nil]
        unfold putPg
        rw [if_pos e2,e1];rfl
      · have e2:(pgAt (a :: l) k).isSome=false:=by
          rw [Bool.eq_false_iff];intro h2
          obtain ⟨_,h3⟩:=apc hs h2
          simp only [e1,List.getElem_cons_zero,Tag_eq] at h3
          exact c2 h3
        rw [mg_gt (show (⟨k,d⟩:Pg).block<a.block by simp only;omega),mg_nil]
        unfold putPg
        rw [if_neg (by simp [e2]),e1];rfl
end Go.VS
end
section
namespace Go.VS
set_option maxRecDepth 8000
theorem azf (l:List Pg):noBt (l.map pgV)=true:=aic _ (fun _=>rfl) l
theorem aqx (tg tg2:Bool) (l:List Pg) (i:Nat) (x:Pg) (hi:i≤l.length) (hl:l.length+1≤lim) (K:Out→Prop):
    Call prog 276 ⟨[.sl 0 0 l.length tg,.i .i64 i,.sl 1 0 1 tg2],[],[.row 2 false (l.map pgV),.row 2 false [.agg [.i .i64 x.block,.s x.data]]]⟩ K=K (.sl 0 0 (l.length+1) false,[],[.row 2 false ((l.take i++x :: l.drop i).map pgV)]):=by
  rw [aav (p:=prog) (f:=276) rfl]
  have:nInsert 2 ⟨[.sl 0 0 l.length tg,.i .i64 i,.sl 1 0 1 tg2],[],[.row 2 false (l.map pgV),.row 2 false [.agg [.i .i64 x.block,.s x.data]]]⟩=some (.sl 0 0 (l.length+1) false,[],[.row 2 false ((l.take i++x :: l.drop i).map pgV)]):=by
    refine (if_pos ⟨rfl,rfl,by simp,by omega,by omega,by simpa using hl,rfl,azf l⟩).trans ?_
    simp [List.map_take,List.map_drop,pgV]
  rw [this,abd]
set_option maxHeartbeats 1000000 in
theorem axb (p:Pr) (h:p.Ow) (k:Int) (d:Bs) (K:Out→Prop):
    Call prog 259 ⟨[.ptr 0 0,.i .i64 k,.s d],[pmC 0 p],pmR p⟩ K=K (.i .i64 (p.setP k d).1,[pmC 0 (p.setP k d).2],pmR (p.setP k d).2):=by
  refine Zc (f:=259) rfl rfl (by decide) ?_
  have h60:=Su.fits_le h.ft
  have e1:=fun K=>aj3 false p.dirty k h.ok.sm.sd h.ok.dt.2.1 K
  have w1:=wrap_i64 (n:=(p.dirty.length:Int)+1) (by omega) (by omega)
  have e2:=fun K=>as2 p.su (p.dirty.length+1) h.ok.su (by unfold lim;omega) K
  simp only [Int.natCast_add,Int.natCast_one,Tag_eq] at e2
  have hle:=avf p.dirty k
  have e3:=fun K=>aqx false false p.dirty (lowI p.dirty k) ⟨k,d⟩ hle (by unfold lim;omega) K
  by_cases c:(pgAt p.dirty k).isSome=true
  · obtain ⟨hlt,hb⟩:=apc h.ok.dt.2.1 c
    have e:p.setP k d=(0,{ p with dirty:=p.dirty.set (lowI p.dirty k) ⟨k,d⟩ }):=by simp [Pr.setP,putPg,c]
    rw [e]
    simp -implicitDefEqProofs [pmC,pmR,e1,c,hlt,hb,pgV,List.map_set]
  · have c':=Bool.eq_false_iff.2 c
    by_cases c2:p.su.fits ((p.dirty.length:Int)+1)=true
    · have e:p.setP k d=(0,{ p with dirty:=p.dirty.take (lowI p.dirty k)++⟨k,d⟩ :: p.dirty.drop (lowI p.dirty k) }):=by simp [Pr.setP,putPg,c',c2]
      have hl:(p.dirty.take (lowI p.dirty k)++(⟨k,d⟩:Pg) :: p.dirty.drop (lowI p.dirty k)).length=p.dirty.length+1:=by simp;omega
      rw [e]
      simp -implicitDefEqProofs [pmC,pmR,e1,c',w1,e2,c2,e3]
      omega
    · have c2':=Bool.eq_false_iff.2 c2
      have e:p.setP k d=(5,p):=by simp [Pr.setP,c',c2']
      rw [e]
      simp -implicitDefEqProofs [pmC,pmR,e1,c',w1,e2,c2']
structure MgI (a b:List Pg) (x:Nat × Nat × List Pg):Prop where
  e:mg a b=x.2.2++mg (a.drop x.1) (b.drop x.2.1)
  i:x.1≤a.length
  j:x.2.1≤b.length
  o:x.2.2.length≤x.1+x.2.1
set_option maxHeartbeats 2000000 in
theorem aro (q1 q2:Bool) (a b:List Pg) (ha:a.length≤1000) (hb:b.length≤1000) (K:Out→Prop):
    Call prog 271 ⟨[.view q1 2 (a.map pgV),.view q2 2 (b.map pgV)],[],[]⟩ K=K (.sl 0 0 (mg a b).length false,[],[.row 2 false ((mg a b).map pgV)]):=by
  refine Zc (f:=271) rfl rfl (by decide) ?_
  simp -implicitDefEqProofs
  refine WL_st (α:=Nat × Nat × List Pg) (fun x=>⟨sp 81 [(0,.view q1 2 (a.map pgV)),(1,.view q2 2 (b.map pgV)),(5,.sl 0 0 x.2.2.length false),(6,.i .i64 x.1),(7,.i .i64 x.2.1)],[],[.row 2 false (x.2.2.map pgV)]⟩)
    (fun x=>(a.length - x.1)+(b.length - x.2.1)) (MgI a b) (0,0,[]) _ (by simp -implicitDefEqProofs) ⟨by simp,by simp,by simp,by simp⟩ ?_
  rintro ⟨i,j,out⟩ ⟨he,hi,hj,ho⟩
  simp only at he hi hj ho
  have wi:=wrap_i64 (n:=(i:Int)+1) (by omega) (by omega)
  have wj:=wrap_i64 (n:=(j:Int)+1) (by omega) (by omega)
  have hl:out.length+1≤lim:=by unfold lim;omega
  by_cases c1:i<a.length
  · have da:a.drop i=a[i] :: a.drop (i+1):=List.drop_eq_getElem_cons c1
    by_cases c2:j<b.length
    · have db:b.drop j=b[j] :: b.drop (j+1):=List.drop_eq_getElem_cons c2
      have cj:¬ j=b.length:=by omega
      have cj':¬ (j:Int)=b.length:=by omega
      by_cases c3:a[i].block<b[j].block
      · simp -implicitDefEqProofs [c1,c2,c3,cj,cj',pgV,wi,hl]
        refine NextS.mk (i+1,j,out++[a[i]]) ⟨?_,c1,hj,by simp;omega⟩ (by simp only;omega) ?_
        · rw [he,da,db,mg_lt c3];simp only [db,List.append_assoc,List.cons_append,List.nil_append]
        · simp [pgV]
      · by_cases c4:a[i].block=b[j].block
        · have c5:¬ b[j].block<b[j].block:=by omega
          simp -implicitDefEqProofs [c1,c2,c4,c5,cj,cj',pgV,wi,wj,hl]
          refine NextS.mk (i+1,j+1,out++[b[j]]) ⟨?_,c1,c2,by simp;omega⟩ (by simp only;omega) ?_
          · rw [he,da,db,mg_eq c4];simp
          · simp [pgV]
        · simp -implicitDefEqProofs [c1,c2,c3,c4,cj,cj',pgV,wi,wj,hl]
          refine NextS.mk (i,j+1,out++[b[j]]) ⟨?_,hi,c2,by simp;omega⟩ (by simp only;omega) ?_
          · rw [he,da,db,mg_gt (by omega)];simp only [da,List.append_assoc,List.cons_append,List.nil_append]
          · simp [pgV]
    · obtain rfl:j=b.length:=by omega
      simp -implicitDefEqProofs [c1,pgV,wi,hl]
      refine NextS.mk (i+1,b.length,out++[a[i]]) ⟨?_,c1,hj,by simp;omega⟩ (by simp only;omega) ?_
      · rw [he,List.drop_length,mg_nil,mg_nil,da];simp
      · simp [pgV]
  · obtain rfl:i=a.length:=by omega
    by_cases c2:j<b.length
    · have db:b.drop j=b[j] :: b.drop (j+1):=List.drop_eq_getElem_cons c2
      have cj:¬ j=b.length:=by omega
      have cj':¬ (j:Int)=b.length:=by omega
      simp -implicitDefEqProofs [c2,cj,cj',pgV,wj,hl]
      refine NextS.mk (a.length,j+1,out++[b[j]]) ⟨?_,hi,c2,by simp;omega⟩ (by simp only;omega) ?_
      · rw [he,List.drop_length,nil_mg,nil_mg,db];simp
      · simp [pgV]
    · obtain rfl:j=b.length:=by omega
      have:mg a b=out:=by rw [he,List.drop_length,List.drop_length,nil_mg];simp
      rw [this]
      simp -implicitDefEqProofs
theorem aoy (p:Pr) (h:p.Ow) (k:Int) (d:Bs) (K:Out→Prop):
    Call prog 252 ⟨[.ptr 0 0,.i .i64 k,.s d],[pmC 0 p],pmR p⟩ K=K (.b (decide ((p.setP k d).1=0)),[pmC 0 (p.setP k d).2],pmR (p.setP k d).2):=by
  refine Zc (f:=252) rfl rfl (by decide) ?_
  have h60:=Su.fits_le h.ft
  have e1:∀ (q:Bool) (K:Out→Prop),Call prog 271 ⟨[.view false 2 (p.dirty.map pgV),.view q 2 [.agg [.i .i64 k,.s d]]],[],[]⟩ K=K (.sl 0 0 (putPg p.dirty k d).length false,[],[.row 2 false ((putPg p.dirty k d).map pgV)]):=by
    intro q K
    have:=aro false q p.dirty [⟨k,d⟩] (by omega) (by simp) K
    rw [mg_put k d p.dirty h.ok.dt.2.1] at this
    exact this
  have hlen:=at3 p.dirty k d
  have e2:=fun K=>am0 p.su (putPg p.dirty k d).length h.ok.su (by unfold lim;rw [hlen];split <;> omega) K
  unfold Pr.setP
  by_cases c:(pgAt p.dirty k).isSome=true
  · have f:p.su.fits (putPg p.dirty k d).length=true:=by rw [hlen,if_pos c];exact h.ft
    simp -implicitDefEqProofs [pmC,pmR,e1,e2,f,c]
  · have c':=Bool.eq_false_iff.2 c
    have f:p.su.fits (putPg p.dirty k d).length=p.su.fits ((p.dirty.length:Int)+1):=by rw [hlen,if_neg c,Int.natCast_add];rfl
    cases c2:p.su.fits ((p.dirty.length:Int)+1) <;> simp -implicitDefEqProofs [pmC,pmR,e1,e2,f,c',c2]
end Go.VS
end
section
namespace Go.VS
theorem ash (n:Int):0≤IntKind.u8.wrap n∧IntKind.u8.wrap n≤255:=by
  simp only [IntKind.wrap,IntKind.bits,IntKind.signed]
  simp
  omega
def bitS (x:UInt8) (j:Int) (b:Bool):UInt8:=UInt8.ofNat (if b=true then borI .u8 (x.toNat:Int) (shlI .u8 1 j) else bandnI .u8 (x.toNat:Int) (shlI .u8 1 j)).toNat
theorem avy {n:Int} (h:0≤n∧n≤255):((UInt8.ofNat n.toNat).toNat:Int)=n:=by
  have:(UInt8.ofNat n.toNat).toNat=n.toNat % 256:=UInt8.toNat_ofNat'
  rw [this];omega
theorem bitS_t (x:UInt8) (j:Int):(((bitS x j true).toNat:Nat):Int)=borI .u8 (x.toNat:Int) (shlI .u8 1 j):=by
  unfold bitS
  rw [if_pos rfl,avy]
  exact ash _
theorem bitS_f (x:UInt8) (j:Int):(((bitS x j false).toNat:Nat):Int)=bandnI .u8 (x.toNat:Int) (shlI .u8 1 j):=by
  unfold bitS
  rw [if_neg (by simp),avy]
  exact ash _
def markB:Nat→Bs→Int→Bool→Bs
  | 0,a,_,_=>a
  | n+1,a,k,b=>markB n (a.set (4+k / 8).toNat (bitS (a.getD (4+k / 8).toNat 0) (k % 8) b)) (k+1) b
theorem atq (b:Bool):∀ (n:Nat) (a:Bs) (k:Int),(markB n a k b).length=a.length
  | 0,_,_=>rfl
  | n+1,a,k=>by rw [markB,atq b n,List.length_set]
def bump (l:List (Int × Int)):List (Int × Int):=l.set (l.length - 1) ((l.getD (l.length - 1) default).1,(l.getD (l.length - 1) default).2+1)
def runsF (p:Pr):Nat→Int→Bool→List (Int × Int)→List (Int × Int)
  | 0,_,_,l=>l
  | n+1,k,op,l=>if p.alloc k=true then runsF p n (k+1) false l else if op=true then runsF p n (k+1) true (bump l) else runsF p n (k+1) true (l++[(k,1)])
def Pr.runs (p:Pr):List (Int × Int):=runsF p (p.su.blocks - (3+p.su.log)).toNat (3+p.su.log) false []
structure RunsI (p:Pr) (k:Int) (op:Bool) (l:List (Int × Int)):Prop where
  b:∀ x,x ∈ l→3+p.su.log≤x.1∧1≤x.2∧x.1+x.2≤k
  o:op=true→l≠[]
  n:(l.length:Int)≤k - (3+p.su.log)
  e:op=true→∀ x,l.getLast?=some x→x.1+x.2=k
theorem a1l {l:List (Int × Int)} {x:Int × Int}:bump (l++[x])=l++[(x.1,x.2+1)]:=by
  unfold bump
  have h1:(l++[x]).length - 1=l.length:=by simp
  have h2:(l++[x]).getD l.length default=x:=by rw [List.getD_eq_getElem?_getD,List.getElem?_append_right (Nat.le_refl _)];simp
  rw [h1,h2,List.set_append_right _ _ (Nat.le_refl _)]
  simp
theorem a2d {α:Type} {l:List α} (h:l≠[]):∃ a x,l=a++[x]:=by
  rcases List.eq_nil_or_concat l with rfl | ⟨a,x,rfl⟩
  · exact absurd rfl h
  · exact ⟨a,x,by simp⟩
theorem RunsI.stop {p:Pr} {k:Int} {op:Bool} {l:List (Int × Int)} (h:RunsI p k op l):RunsI p (k+1) false l:=
  ⟨fun x hx=>by have:=h.b x hx;omega,(fun e=>by cases e),by have:=h.n;omega,(fun e=>by cases e)⟩
theorem RunsI.more {p:Pr} {k:Int} {l:List (Int × Int)} (h:RunsI p k true l):RunsI p (k+1) true (bump l):=by
  obtain ⟨a,x,rfl⟩:=a2d (h.o rfl)
  rw [a1l]
  have hx:=h.b x (by simp)
  have he:=h.e rfl x (by simp)
  refine ⟨fun y hy=>?_,fun _=>by simp,by have:=h.n;simp at this ⊢;omega,fun _ y hy=>?_⟩
  · rcases List.mem_append.1 hy with hy | hy
    · have:=h.b y (by simp [hy]);omega
    · simp at hy;subst hy;simp only;omega
  · simp at hy;subst hy;simp only;omega
theorem RunsI.new {p:Pr} {k:Int} {op:Bool} {l:List (Int × Int)} (h:RunsI p k op l) (hk:3+p.su.log≤k):RunsI p (k+1) true (l++[(k,1)]):=by
  refine ⟨fun y hy=>?_,fun _=>by simp,by have:=h.n;simp;omega,fun _ y hy=>?_⟩
  · rcases List.mem_append.1 hy with hy | hy
    · have:=h.b y hy;omega
    · simp at hy;subst hy;simp only;omega
  · simp at hy;subst hy;simp only
theorem anx (p:Pr):∀ (n:Nat) (k:Int) (op:Bool) (l:List (Int × Int)),3+p.su.log≤k→RunsI p k op l→∃ op',RunsI p (k+n) op' (runsF p n k op l)
  | 0,k,op,l,_,h=>⟨op,by simpa [runsF] using h⟩
  | n+1,k,op,l,hk,h=>by
    have e:k+((n+1:Nat):Int)=k+1+n:=by omega
    rw [runsF,e]
    split
    · exact anx p n (k+1) _ _ (by omega) h.stop
    · split
      · rename_i h1;subst h1;exact anx p n (k+1) _ _ (by omega) h.more
      · exact anx p n (k+1) _ _ (by omega) (h.new hk)
theorem Pr.runs_ok {p:Pr} (h:p.Ok):p.runs.length≤256∧∀ x,x ∈ p.runs→3+p.su.log≤x.1∧1≤x.2∧x.1+x.2≤p.su.blocks:=by
  have b:=h.sub
  obtain ⟨op,h1⟩:=anx p (p.su.blocks - (3+p.su.log)).toNat (3+p.su.log) false [] (Int.le_refl _) ⟨(fun x hx=>by cases hx),(fun e=>by cases e),by simp,(fun e=>by cases e)⟩
  have e:3+p.su.log+((p.su.blocks - (3+p.su.log)).toNat:Int)=p.su.blocks:=by omega
  rw [e] at h1
  exact ⟨by have:=h1.n;unfold Pr.runs;omega,h1.b⟩
def bestF (n:Int):List (Int × Int)→Int × Int→Int × Int
  | [],b=>b
  | r :: l,b=>bestF n l (if n≤r.2∧(b.2=0∨r.2<b.2) then r else b)
theorem asn (n:Int):∀ (l:List (Int × Int)) (b:Int × Int),bestF n l b=b∨bestF n l b ∈ l∧n≤(bestF n l b).2
  | [],b=>.inl rfl
  | r :: l,b=>by
    rw [bestF]
    rcases asn n l (if n≤r.2∧(b.2=0∨r.2<b.2) then r else b) with h | ⟨h,h2⟩
    · rw [h]
      split
      · rename_i hc;exact .inr ⟨by simp,hc.1⟩
      · exact .inl rfl
    · exact .inr ⟨by simp [h],h2⟩
def Pr.best (p:Pr) (n:Int):Int × Int:=bestF n p.runs (0,0)
theorem Pr.best_ok {p:Pr} (h:p.Ok) (n:Int):(p.best n=(0,0))∨(n≤(p.best n).2∧3+p.su.log≤(p.best n).1∧1≤(p.best n).2∧(p.best n).1+(p.best n).2≤p.su.blocks):=by
  unfold Pr.best
  rcases asn n p.runs (0,0) with e | ⟨e,e2⟩
  · exact .inl e
  · exact .inr ⟨e2,(p.runs_ok h).2 _ e⟩
def Pr.markP (p:Pr) (k:Int) (n:Nat) (b:Bool):Int × Pr:=p.setP (2+p.su.log) (markB n p.area k b)
theorem Pr.Ow.area {p:Pr} (h:p.Ow):0≤2+p.su.log∧2+p.su.log≤255:=by
  have:=h.ok.sub;omega
theorem Pr.Ow.markP {p:Pr} (h:p.Ow) (k:Int) (n:Nat) (b:Bool):(p.markP k n b).2.Ow:=h.setP h.area (by rw [atq,p.area_len h.ok])
def Pr.allocP (p:Pr) (n:Nat):Int × Int × Pr:=if (p.best n).2=0 then (0,5,p) else ((p.best n).1,(p.markP (p.best n).1 n true).1,(p.markP (p.best n).1 n true).2)
theorem Pr.Ow.allocP {p:Pr} (h:p.Ow) (n:Nat):(p.allocP n).2.2.Ow:=by
  unfold Pr.allocP
  split
  · exact h
  · exact h.markP _ _ _
@[simp] theorem Pr.markP_su {p:Pr} {k:Int} {n:Nat} {b:Bool}:(p.markP k n b).2.su=p.su:=Pr.setP_su
@[simp] theorem Pr.markP_disk {p:Pr} {k:Int} {n:Nat} {b:Bool}:(p.markP k n b).2.disk=p.disk:=Pr.setP_disk
@[simp] theorem Pr.allocP_su {p:Pr} {n:Nat}:(p.allocP n).2.2.su=p.su:=by unfold Pr.allocP;split <;> simp
@[simp] theorem Pr.allocP_disk {p:Pr} {n:Nat}:(p.allocP n).2.2.disk=p.disk:=by unfold Pr.allocP;split <;> simp
theorem Pr.setP_code {p:Pr} {k:Int} {d:Bs}:(p.setP k d).1=0∨(p.setP k d).1=5:=by unfold Pr.setP;split <;> simp
theorem Pr.allocP_code {p:Pr} {n:Nat}:(p.allocP n).2.1=0∨(p.allocP n).2.1=5:=by
  unfold Pr.allocP;split
  · exact .inr rfl
  · exact Pr.setP_code
theorem Pr.allocP_at {p:Pr} (h:p.Ok) {n:Nat} (h1:1≤n) (hc:(p.allocP n).2.1=0):3+p.su.log≤(p.allocP n).1∧(p.allocP n).1+n≤p.su.blocks:=by
  unfold Pr.allocP at hc ⊢
  split at hc
  · cases hc
  · rename_i h0
    rw [if_neg h0]
    rcases p.best_ok h n with e | e
    · rw [e] at h0;exact absurd rfl h0
    · simp only;omega
def Pr.relP (p:Pr) (k:Int):Int × Pr:=if p.data k=false then (2,p) else if bitE p.area k=false then (6,p) else p.markP k 1 false
theorem Pr.Ow.relP {p:Pr} (h:p.Ow) (k:Int):(p.relP k).2.Ow:=by
  unfold Pr.relP
  split
  · exact h
  · split
    · exact h
    · exact h.markP _ _ _
@[simp] theorem Pr.relP_su {p:Pr} {k:Int}:(p.relP k).2.su=p.su:=by unfold Pr.relP;split;rfl;split;rfl;simp
@[simp] theorem Pr.relP_disk {p:Pr} {k:Int}:(p.relP k).2.disk=p.disk:=by unfold Pr.relP;split;rfl;split;rfl;simp
def Pr.relsP (p:Pr):List Int→Int × Pr
  | []=>(0,p)
  | k :: l=>if (p.relP k).1=0 then (p.relP k).2.relsP l else p.relP k
theorem Pr.Ow.relsP:∀ (l:List Int) {p:Pr},p.Ow→(p.relsP l).2.Ow
  | [],_,h=>h
  | k :: l,p,h=>by
    rw [Pr.relsP];split
    · exact Pr.Ow.relsP l (h.relP k)
    · exact h.relP k
end Go.VS
end
section
namespace Go.VS
set_option maxRecDepth 8000
theorem ajv {x:Bs} {i:Nat} (h:i<x.length):(bytesV x)[i]?.getD .no=.i .u8 ((x[i]?.getD 0).toNat:Int):=by
  unfold bytesV
  rw [List.getElem?_map,List.getElem?_eq_getElem h];rfl
theorem ae7 (x:Bs) (i:Nat) (c:UInt8):(bytesV x).set i (.i .u8 (c.toNat:Int))=bytesV (x.set i c):=by
  unfold bytesV;rw [List.map_set]
theorem al3 (x:Bs) {n:Nat} (h:x.length=n):(bytesV x).take n=bytesV x:=List.take_of_length_le (by simp [h])
structure MkI (n:Nat) (a:Bs) (k:Int) (b:Bool) (x:Nat × Int × Bs):Prop where
  e:markB n a k b=markB x.1 x.2.2 x.2.1 b
  s:x.2.1+x.1=k+n
  l:k≤x.2.1
  z:x.2.2.length=64
set_option maxHeartbeats 2000000 in
theorem atu (p:Pr) (h:p.Ow) (k:Int) (n:Nat) (b:Bool) (hk:0≤k) (hn:k+n≤256) (K:Out→Prop):
    Call prog 274 ⟨[.ptr 0 0,.i .i64 k,.i .i64 n,.b b],[pmC 0 p],pmR p⟩ K=K (.i .i64 (p.markP k n b).1,[pmC 0 (p.markP k n b).2],pmR (p.markP k n b).2):=by
  refine Zc (f:=274) rfl rfl (by decide) ?_
  have b0:=h.ok.sub
  have hb:=h.ok.sb
  have e1:=fun K=>ag4 false p h.ok K
  have e2:=fun K=>anq false p h.ok (2+p.su.log) (by omega) K
  have e3:=fun K=>axb p h (2+p.su.log) (markB n p.area k b) K
  have ha:(p.get (2+p.su.log)).length=64:=p.area_len h.ok
  unfold Pr.markP
  unfold Pr.area at *
  simp only [prC,Tag_eq] at e1 e2
  simp only [pmC,pmR,Nat.zero_add,Tag_eq] at e3
  generalize p.get (2+p.su.log)=A at *
  generalize p.setP (2+p.su.log) (markB n A k b)=R at *
  have hl:A.length≤lim:=by unfold lim;omega
  have h64:64≤lim:=by unfold lim;omega
  simp -implicitDefEqProofs [pmC,pmR,e1,e2,hl,ha,h64]
  refine WL_st (α:=Nat × Int × Bs) (fun x=>⟨sp 53 [(0,.ptr 0 0),(1,.i .i64 k),(2,.i .i64 n),(3,.b b),(9,.sl 4 0 64 false),(10,.i .i64 x.2.1)],[pmC 0 p],pmR p++[.row 1 false (bytesV x.2.2)]⟩)
    (fun x=>x.1) (MkI n A k b) (n,k,A) _ (by simp -implicitDefEqProofs [pmC,pmR]) ⟨rfl,by simp,by simp,ha⟩ ?_
  rintro ⟨r,j,x⟩ ⟨he,hj,hkj,hx⟩
  simp only at he hj hkj hx
  have w1:=wrap_i64 (n:=k+n) (by omega) (by omega)
  cases r with
  | zero=>
    have c1:¬ j<k+n:=by omega
    have ht:=al3 x hx
    rw [he] at e3
    simp only [markB,Tag_eq] at e3
    simp -implicitDefEqProofs [pmC,pmR,w1,c1,e1,ht,cvsV,e3]
  | succ r=>
    have c1:j<k+n:=by omega
    have d1:j.tdiv 8=j / 8:=Int.tdiv_eq_ediv_of_nonneg (by omega)
    have d2:j.tmod 8=j % 8:=Int.tmod_eq_emod_of_nonneg (by omega)
    have w2:=wrap_i64 (n:=j / 8) (by omega) (by omega)
    have w3:=wrap_i64 (n:=4+j / 8) (by omega) (by omega)
    have w4:=wrap_i64 (n:=j+1) (by omega) (by omega)
    have w5:IntKind.u8.wrap 1=1:=rfl
    have c2:0≤4+j / 8:=by omega
    have c3:4+j / 8<64:=by omega
    have c4:¬ j % 8<0:=by omega
    have c5:(4+j / 8).toNat<x.length:=by omega
    have hg:=ajv c5
    cases b with
    | true=>
      have hs:=ae7 x (4+j / 8).toNat (bitS (x.getD (4+j / 8).toNat 0) (j % 8) true)
      rw [bitS_t,List.getD_eq_getElem?_getD] at hs
      simp -implicitDefEqProofs [pmC,pmR,w1,c1,d1,d2,w2,w3,c2,c3,c4,hg,hs]
      refine NextS.mk (r,j+1,x.set (4+j / 8).toNat (bitS (x.getD (4+j / 8).toNat 0) (j % 8) true)) ⟨by rw [he,markB],by simp only;omega,by simp only;omega,by simpa using hx⟩ (by simp) ?_
      simp -implicitDefEqProofs [pmC,pmR,w4]
    | false=>
      have hs:=ae7 x (4+j / 8).toNat (bitS (x.getD (4+j / 8).toNat 0) (j % 8) false)
      rw [bitS_f,List.getD_eq_getElem?_getD] at hs
      simp -implicitDefEqProofs [pmC,pmR,w1,c1,d1,d2,w2,w3,c2,c3,c4,hg,hs]
      refine NextS.mk (r,j+1,x.set (4+j / 8).toNat (bitS (x.getD (4+j / 8).toNat 0) (j % 8) false)) ⟨by rw [he,markB],by simp only;omega,by simp only;omega,by simpa using hx⟩ (by simp) ?_
      simp -implicitDefEqProofs [pmC,pmR,w4]
set_option maxHeartbeats 2000000 in
theorem am2 (A:Bs) (ha:A.length=64) (k:Int) (n:Nat) (b:Bool) (hk:0≤k) (hn:k+n≤256) (K:Out→Prop):
    Call prog 246 ⟨[.s A,.i .i64 k,.i .i64 n,.b b],[],[]⟩ K=K (.s (markB n A k b),[],[]):=by
  refine Zc (f:=246) rfl rfl (by decide) ?_
  have hl:A.length≤lim:=by unfold lim;omega
  have h64:64≤lim:=by unfold lim;omega
  simp -implicitDefEqProofs [hl,ha,h64]
  refine WL_st (α:=Nat × Int × Bs) (fun x=>⟨sp 55 [(1,.i .i64 k),(2,.i .i64 n),(3,.b b),(9,.sl 0 0 64 false),(10,.i .i64 x.2.1)],[],[.row 1 false (bytesV x.2.2)]⟩)
    (fun x=>x.1) (MkI n A k b) (n,k,A) _ (by simp -implicitDefEqProofs) ⟨rfl,by simp,by simp,ha⟩ ?_
  rintro ⟨r,j,x⟩ ⟨he,hj,hkj,hx⟩
  simp only at he hj hkj hx
  have w1:=wrap_i64 (n:=k+n) (by omega) (by omega)
  cases r with
  | zero=>
    have c1:¬ j<k+n:=by omega
    have ht:=al3 x hx
    rw [he]
    simp -implicitDefEqProofs [w1,c1,ht,cvsV,markB]
  | succ r=>
    have c1:j<k+n:=by omega
    have d1:j.tdiv 8=j / 8:=Int.tdiv_eq_ediv_of_nonneg (by omega)
    have d2:j.tmod 8=j % 8:=Int.tmod_eq_emod_of_nonneg (by omega)
    have w2:=wrap_i64 (n:=j / 8) (by omega) (by omega)
    have w3:=wrap_i64 (n:=4+j / 8) (by omega) (by omega)
    have w4:=wrap_i64 (n:=j+1) (by omega) (by omega)
    have w6:=wrap_u64 (n:=j % 8) (by omega) (by omega)
    have c2:0≤4+j / 8:=by omega
    have c3:4+j / 8<64:=by omega
    have c4:¬ j % 8<0:=by omega
    have c5:(4+j / 8).toNat<x.length:=by omega
    have hg:=ajv c5
    cases b with
    | true=>
      have hs:=ae7 x (4+j / 8).toNat (bitS (x.getD (4+j / 8).toNat 0) (j % 8) true)
      rw [bitS_t,List.getD_eq_getElem?_getD] at hs
      simp -implicitDefEqProofs [w1,c1,d1,d2,w2,w3,w6,c2,c3,c4,hg,hs]
      refine NextS.mk (r,j+1,x.set (4+j / 8).toNat (bitS (x.getD (4+j / 8).toNat 0) (j % 8) true)) ⟨by rw [he,markB],by simp only;omega,by simp only;omega,by simpa using hx⟩ (by simp) ?_
      simp -implicitDefEqProofs [w4]
    | false=>
      have hs:=ae7 x (4+j / 8).toNat (bitS (x.getD (4+j / 8).toNat 0) (j % 8) false)
      rw [bitS_f,List.getD_eq_getElem?_getD] at hs
      simp -implicitDefEqProofs [w1,c1,d1,d2,w2,w3,w6,c2,c3,c4,hg,hs]
      refine NextS.mk (r,j+1,x.set (4+j / 8).toNat (bitS (x.getD (4+j / 8).toNat 0) (j % 8) false)) ⟨by rw [he,markB],by simp only;omega,by simp only;omega,by simpa using hx⟩ (by simp) ?_
      simp -implicitDefEqProofs [w4]
theorem aoz (p:Pr) (h:p.Ow) (d:Bs) (K:Out→Prop):
    Call prog 247 ⟨[.ptr 0 0,.s d],[pmC 0 p],pmR p⟩ K=K (.i .i64 (p.setP (2+p.su.log) d).1,[pmC 0 (p.setP (2+p.su.log) d).2],pmR (p.setP (2+p.su.log) d).2):=by
  refine Zc (f:=247) rfl rfl (by decide) ?_
  have e1:=fun K=>aew p.su h.ok.su K
  have e3:=fun K=>aoy p h (2+p.su.log) d K
  have hc:=Pr.setP_code (p:=p) (k:=2+p.su.log) (d:=d)
  simp only [pmC,pmR,Nat.zero_add,Tag_eq] at e3
  generalize p.setP (2+p.su.log) d=R at *
  rcases hc with hc | hc <;> rw [hc] at e3 ⊢ <;> simp -implicitDefEqProofs [pmC,pmR,e1,e3]
def rnV (x:Int × Int):V:=.agg [.i .i64 x.1,.i .i64 x.2]
theorem av7 {l:List (Int × Int)} (h:l≠[]):(l.map rnV).set (l.length - 1) (.agg [.i .i64 (l.getD (l.length - 1) default).1,.i .i64 ((l.getD (l.length - 1) default).2+1)])=(bump l).map rnV:=by
  unfold bump
  rw [List.map_set];rfl
structure FrI (p:Pr) (x:Nat × Int × Bool × List (Int × Int)):Prop where
  e:p.runs=runsF p x.1 x.2.1 x.2.2.1 x.2.2.2
  k:x.2.1+x.1=p.su.blocks
  l:3+p.su.log≤x.2.1
  i:RunsI p x.2.1 x.2.2.1 x.2.2.2
theorem FrI.start {p:Pr} (h:p.Ok):FrI p ((p.su.blocks - (3+p.su.log)).toNat,3+p.su.log,false,[]):=by
  have b:=h.sub
  exact ⟨rfl,by simp only;omega,Int.le_refl _,⟨(fun x hx=>by cases hx),(fun e=>by cases e),by simp,(fun e=>by cases e)⟩⟩
theorem FrI.bd {p:Pr} (h:p.Ok) {x:Nat × Int × Bool × List (Int × Int)} (hx:FrI p x):x.2.2.2.length≤256∧∀ r,r ∈ x.2.2.2→0≤r.1∧r.1≤256∧1≤r.2∧r.2≤256:=by
  have b:=h.sub
  have h1:=hx.k
  have h2:=hx.i.n
  refine ⟨by omega,fun r hr=>?_⟩
  have:=hx.i.b r hr
  omega
set_option maxHeartbeats 2000000 in
theorem arc (q:Bool) (p:Pr) (h:p.Ok) (K:Out→Prop):
    Call prog 275 ⟨[.vp (prC q p)],[],[]⟩ K=K (.sl 0 0 p.runs.length false,[],[.row 2 false (p.runs.map rnV)]):=by
  refine Zc (f:=275) rfl rfl (by decide) ?_
  have b:=h.sub
  have e1:=fun K=>ag4 q p h K
  have e2:=fun k K=>ae1 q p h k K
  have w0:IntKind.i64.wrap (2+p.su.log+1)=3+p.su.log:=by rw [wrap_i64 (by omega) (by omega)];omega
  simp -implicitDefEqProofs [e1,w0]
  refine WL_st (α:=Nat × Int × Bool × List (Int × Int)) (fun x=>⟨sp 47 [(0,.vp (prC q p)),(3,.sl 0 0 x.2.2.2.length false),(4,.b x.2.2.1),(5,.i .i64 x.2.1)],[],[.row 2 false (x.2.2.2.map rnV)]⟩)
    (fun x=>x.1) (FrI p) ((p.su.blocks - (3+p.su.log)).toNat,3+p.su.log,false,[]) _ (by simp -implicitDefEqProofs) (.start h) ?_
  rintro ⟨n,k,op,l⟩ hF
  have hb:=hF.bd h
  obtain ⟨he,hk,hl,hi⟩:=hF
  simp only at he hk hl hi hb
  have w1:=wrap_i64 (n:=k+1) (by omega) (by omega)
  have hlim:l.length+1≤lim:=by unfold lim;omega
  cases n with
  | zero=>
    have c1:¬ k<p.su.blocks:=by omega
    rw [he]
    simp -implicitDefEqProofs [c1,runsF]
  | succ n=>
    have c1:k<p.su.blocks:=by omega
    cases c2:p.alloc k with
    | true=>
      simp -implicitDefEqProofs [c1,e2,c2,w1]
      refine NextS.mk (n,k+1,false,l) ⟨by rw [he,runsF,if_pos c2],by simp only;omega,by simp only;omega,hi.stop⟩ (by simp) ?_
      simp -implicitDefEqProofs
    | false=>
      cases op with
      | true=>
        have hne:=hi.o rfl
        have hpos:0<l.length:=List.length_pos_iff.2 hne
        have w2:=wrap_i64 (n:=(l.length:Int) - 1) (by omega) (by omega)
        have c3:(0:Int)≤(l.length:Int) - 1:=by omega
        have c4:(l.length:Int) - 1<l.length:=by omega
        have ht:((l.length:Int) - 1).toNat=l.length - 1:=by omega
        have hlt:l.length - 1<l.length:=by omega
        have hx:=hb.2 l[l.length - 1] (List.getElem_mem hlt)
        have w3:=wrap_i64 (n:=l[l.length - 1].2+1) (by omega) (by omega)
        have hs:=av7 hne
        have hd:l.getD (l.length - 1) default=l[l.length - 1]:=by rw [List.getD_eq_getElem?_getD,List.getElem?_eq_getElem hlt];rfl
        rw [hd] at hs
        have c5:(1:Int)≤l.length:=by omega
        simp -implicitDefEqProofs [c1,e2,c2,w1,w2,c3,c4,c5,ht,hlt,hpos,rnV,w3]
        refine NextS.mk (n,k+1,true,bump l) ⟨by rw [he,runsF,if_neg (by simp [c2]),if_pos rfl],by simp only;omega,by simp only;omega,hi.more⟩ (by simp) ?_
        simp -implicitDefEqProofs [← hs]
        simp [bump]
      | false=>
        simp -implicitDefEqProofs [c1,e2,c2,w1,hlim]
        refine NextS.mk (n,k+1,true,l++[(k,1)]) ⟨by rw [he,runsF,if_neg (by simp [c2]),if_neg (by simp)],by simp only;omega,by simp only;omega,hi.new hl⟩ (by simp) ?_
        simp -implicitDefEqProofs [rnV]
set_option maxHeartbeats 2000000 in
theorem atg (q:Bool) (p:Pr) (h:p.Ok) (K:Out→Prop):
    Call prog 269 ⟨[.vp (prC q p)],[],[]⟩ K=K (.sl 0 0 p.runs.length false,[],[.row 2 false (p.runs.map rnV)]):=by
  refine Zc (f:=269) rfl rfl (by decide) ?_
  have b:=h.sub
  have e1:=fun K=>ada q p h K
  have e0:=fun K=>ald q p h K
  have ha:p.area.length=64:=p.area_len h
  have hA:p.get (2+p.su.log)=p.area:=rfl
  rw [hA] at e1
  simp -implicitDefEqProofs [e1,e0]
  refine WL_st (α:=Nat × Int × Bool × List (Int × Int)) (fun x=>⟨sp 54 [(0,.vp (prC q p)),(3,.s p.area),(4,.sl 0 0 x.2.2.2.length false),(5,.b x.2.2.1),(6,.i .i64 x.2.1)],[],[.row 2 false (x.2.2.2.map rnV)]⟩)
    (fun x=>x.1) (FrI p) ((p.su.blocks - (3+p.su.log)).toNat,3+p.su.log,false,[]) _ (by simp -implicitDefEqProofs) (.start h) ?_
  rintro ⟨n,k,op,l⟩ hF
  have hb:=hF.bd h
  obtain ⟨he,hk,hl,hi⟩:=hF
  simp only at he hk hl hi hb
  have w1:=wrap_i64 (n:=k+1) (by omega) (by omega)
  have hlim:l.length+1≤lim:=by unfold lim;omega
  cases n with
  | zero=>
    have c1:¬ k<p.su.blocks:=by omega
    rw [he]
    simp -implicitDefEqProofs [c1,runsF]
  | succ n=>
    have c1:k<p.su.blocks:=by omega
    have e2:=fun K=>aj1 p.area k ha (by omega) K
    have hal:p.alloc k=bitE p.area k:=by
      have:p.data k=true:=by simp only [Pr.data,Bool.and_eq_true,decide_eq_true_eq];omega
      rw [Pr.alloc,this,Bool.true_and]
    cases c2:p.alloc k with
    | true=>
      rw [hal] at c2
      cases op <;> simp -implicitDefEqProofs [c1,e2,c2,w1] <;>
      (refine NextS.mk (n,k+1,false,l) ⟨by rw [he,runsF,hal,if_pos c2],by simp only;omega,by simp only;omega,hi.stop⟩ (by simp) ?_
       simp -implicitDefEqProofs)
    | false=>
      rw [hal] at c2
      cases op with
      | true=>
        have hne:=hi.o rfl
        have hpos:0<l.length:=List.length_pos_iff.2 hne
        have w2:=wrap_i64 (n:=(l.length:Int) - 1) (by omega) (by omega)
        have c3:(0:Int)≤(l.length:Int) - 1:=by omega
        have c4:(l.length:Int) - 1<l.length:=by omega
        have ht:((l.length:Int) - 1).toNat=l.length - 1:=by omega
        have hlt:l.length - 1<l.length:=by omega
        have hx:=hb.2 l[l.length - 1] (List.getElem_mem hlt)
        have w3:=wrap_i64 (n:=l[l.length - 1].2+1) (by omega) (by omega)
        have hs:=av7 hne
        have hd:l.getD (l.length - 1) default=l[l.length - 1]:=by rw [List.getD_eq_getElem?_getD,List.getElem?_eq_getElem hlt];rfl
        rw [hd] at hs
        have c5:(1:Int)≤l.length:=by omega
        simp -implicitDefEqProofs [c1,e2,c2,w1,w2,c3,c4,c5,ht,hlt,hpos,rnV,w3]
        refine NextS.mk (n,k+1,true,bump l) ⟨by rw [he,runsF,hal,if_neg (by simp [c2]),if_pos rfl],by simp only;omega,by simp only;omega,hi.more⟩ (by simp) ?_
        simp -implicitDefEqProofs [← hs]
        simp [bump]
      | false=>
        simp -implicitDefEqProofs [c1,e2,c2,w1,hlim]
        refine NextS.mk (n,k+1,true,l++[(k,1)]) ⟨by rw [he,runsF,hal,if_neg (by simp [c2]),if_neg (by simp)],by simp only;omega,by simp only;omega,hi.new hl⟩ (by simp) ?_
        simp -implicitDefEqProofs [rnV]
end Go.VS
end
section
namespace Go.VS
def byteB (n:Int):UInt8:=UInt8.ofNat (IntKind.u8.wrap n).toNat
theorem ax7 (n:Int):((byteB n).toNat:Int)=IntKind.u8.wrap n:=avy (ash n)
def leB (n:Int) (k:Nat):Bs:=(List.range k).map fun i:Nat=>byteB (shrI .i64 n (8*(i:Int)))
@[simp] theorem leB_len (n:Int) (k:Nat):(leB n k).length=k:=by simp [leB]
theorem shr0 (n:Int):shrI .i64 n 0=n:=by simp [shrI]
theorem aru (n:Int):leB n 1=[byteB n]:=by simp [leB,shr0]
theorem awu (n:Int) (k:Nat):leB n (k+1)=leB n k++[byteB (shrI .i64 n (8*(k:Int)))]:=by
  unfold leB;rw [List.range_succ,List.map_append];rfl
theorem aul (n:Int):IntKind.u8.wrap n=n % 256:=by
  simp only [IntKind.wrap,IntKind.bits,IntKind.signed];simp
theorem ax6 (n:Int):byteB (bandI .i64 n 255)=byteB n:=by
  have h:IntKind.u8.wrap (bandI .i64 n 255)=IntKind.u8.wrap n:=by
    have e:(BitVec.ofInt IntKind.i64.bits n &&& BitVec.ofInt IntKind.i64.bits 255).toNat=(n % 256).toNat:=by
      rw [BitVec.toNat_and,show (BitVec.ofInt IntKind.i64.bits 255).toNat=2 ^ 8 - 1 from rfl,Nat.and_two_pow_sub_one_eq_mod,show IntKind.i64.bits=64 from rfl,BitVec.toNat_ofInt]
      omega
    unfold bandI
    rw [e,wrap_i64 (by omega) (by omega),aul,aul]
    omega
  unfold byteB
  rw [h]
def encM (m:Ms):Bs:=leB m.kind 1++leB m.flags 1++leB m.data.length 1++m.data
def encHd (h:Hd):Bs:=leB h.kind 1++leB h.refs 2++leB h.msgs.length 1
def encH (h:Hd):Bs:=encHd h++h.msgs.flatMap encM
def encHi (h:Hd) (i:Nat):Bs:=encHd h++(h.msgs.take i).flatMap encM
theorem aqe {h:Hd} {i:Nat} (hi:i<h.msgs.length):encHi h (i+1)=encHi h i++encM h.msgs[i]:=by
  unfold encHi
  rw [← List.take_append_getElem hi,List.flatMap_append,← List.append_assoc];simp
theorem an9 (h:Hd):encHi h h.msgs.length=encH h:=by unfold encHi encH;rw [List.take_length]
@[simp] theorem encHd_len (h:Hd):(encHd h).length=4:=by simp [encHd]
theorem aka (m:Ms):(encM m).length=3+m.data.length:=by simp [encM];omega
structure Hd.Sm (h:Hd):Prop where
  n:h.msgs.length≤24
  d:∀ m,m ∈ h.msgs→m.data.length≤200
theorem Hd.ok_sm {h:Hd} (e:h.ok=true):h.Sm:=by
  simp only [Hd.ok,Bool.and_eq_true,decide_eq_true_eq,Bool.not_eq_true',Tag_eq] at e
  refine ⟨by omega,fun m hm=>?_⟩
  have:=List.any_eq_false.1 e.2 m hm
  simp only [msBad,Bool.not_eq_true',Bool.not_eq_false',Bool.and_eq_true,decide_eq_true_eq,Bool.not_eq_true,Bool.not_eq_false] at this
  omega
theorem awh:∀ (l:List Ms),(∀ m,m ∈ l→m.data.length≤200)→(l.flatMap encM).length≤203*l.length
  | [],_=>by simp
  | m :: l,h=>by
    have ih:=awh l fun x hx=>h x (by simp [hx])
    have:=h m (by simp)
    rw [List.flatMap_cons,List.length_append,aka,List.length_cons]
    omega
theorem aq5 {h:Hd} (s:h.Sm) (i:Nat):(encHi h i).length≤4876:=by
  unfold encHi
  rw [List.length_append,encHd_len]
  have h1:=awh (h.msgs.take i) fun m hm=>s.d m (List.mem_of_mem_take hm)
  have h2:(h.msgs.take i).length≤h.msgs.length:=by rw [List.length_take];omega
  have:=s.n
  omega
theorem al8 {h:Hd} (s:h.Sm):(encH h).length≤4876:=by rw [← an9];exact aq5 s _
theorem a0e (h:Hd):4≤(encH h).length:=by unfold encH;rw [List.length_append,encHd_len];omega
def chLen (n:Nat):Nat:=(n+59) / 60
def chPg (next:Int) (form:Bs):Bs:=
  leB next 2++leB (min 60 form.length:Nat) 2++form.take (min 60 form.length)++List.replicate (60 - min 60 form.length) 0
theorem aq2 (next:Int) (form:Bs):(chPg next form).length=64:=by
  simp [chPg];omega
def Pr.storeP (p:Pr):List Int→Bs→Int × Pr
  | [],_=>(0,p)
  | k :: l,form=>if (p.setP k (chPg (l.head?.getD 0) form)).1=0 then (p.setP k (chPg (l.head?.getD 0) form)).2.storeP l (form.drop (min 60 form.length)) else p.setP k (chPg (l.head?.getD 0) form)
def Pr.growP (p:Pr):Nat→List Int→Int × List Int × Pr
  | 0,l=>(0,l,p)
  | n+1,l=>if (p.allocP 1).2.1=0 then (p.allocP 1).2.2.growP n (l++[(p.allocP 1).1]) else ((p.allocP 1).2.1,[],(p.allocP 1).2.2)
def DataL (p:Pr) (l:List Int):Prop:=∀ k,k ∈ l→3+p.su.log≤k∧k+1≤p.su.blocks
theorem DataL.bd {p:Pr} (h:p.Ok) {l:List Int} (hl:DataL p l) {k:Int} (hk:k ∈ l):0≤k∧k≤255:=by
  have:=hl k hk
  have:=h.sub
  omega
theorem Pr.Ow.storeP:∀ (l:List Int) (form:Bs) {p:Pr},p.Ow→DataL p l→(p.storeP l form).2.Ow
  | [],_,_,h,_=>h
  | k :: l,form,p,h,hl=>by
    have hk:=hl.bd h.ok (List.mem_cons_self ..)
    have h1:=h.setP (k:=k) (d:=chPg (l.head?.getD 0) form) hk (aq2 _ _)
    rw [Pr.storeP];split
    · exact Pr.Ow.storeP l _ h1 fun x hx=>by rw [Pr.setP_su];exact hl x (by simp [hx])
    · exact h1
theorem Pr.storeP_su:∀ (l:List Int) (form:Bs) {p:Pr},(p.storeP l form).2.su=p.su∧(p.storeP l form).2.disk=p.disk
  | [],_,_=>⟨rfl,rfl⟩
  | k :: l,form,p=>by
    rw [Pr.storeP];split
    · have:=Pr.storeP_su l (form.drop (min 60 form.length)) (p:=(p.setP k (chPg (l.head?.getD 0) form)).2)
      simpa using this
    · simp
theorem Pr.growP_ok:∀ (n:Nat) (l:List Int) {p:Pr},p.Ow→DataL p l→(p.growP n l).2.2.Ow∧(p.growP n l).2.2.su=p.su∧(p.growP n l).2.2.disk=p.disk ∧
    (((p.growP n l).1=0∧DataL p (p.growP n l).2.1∧(p.growP n l).2.1.length=l.length+n)∨(p.growP n l).1=5∧(p.growP n l).2.1=[])
  | 0,l,p,h,hl=>⟨h,rfl,rfl,.inl ⟨rfl,hl,rfl⟩⟩
  | n+1,l,p,h,hl=>by
    have h1:=h.allocP 1
    rw [Pr.growP];split
    · rename_i hc
      have ha:=Pr.allocP_at h.ok (n:=1) (by omega) hc
      obtain ⟨i1,i2,i3,i4⟩:=Pr.growP_ok n (l++[(p.allocP 1).1]) h1 (by
        intro k hk
        rw [Pr.allocP_su]
        rcases List.mem_append.1 hk with hk | hk
        · exact hl k hk
        · simp only [List.mem_singleton,Tag_eq] at hk;subst hk;omega)
      rw [Pr.allocP_su] at i2
      rw [Pr.allocP_disk] at i3
      refine ⟨i1,i2,i3,?_⟩
      rcases i4 with ⟨j1,j2,j3⟩ | j
      · exact .inl ⟨j1,fun k hk=>by have:=j2 k hk;rw [Pr.allocP_su] at this;exact this,by rw [j3];simp;omega⟩
      · exact .inr j
    · rename_i hc
      exact ⟨h1,Pr.allocP_su,Pr.allocP_disk,.inr ⟨(Pr.allocP_code (p:=p) (n:=1)).resolve_left hc,rfl⟩⟩
theorem Pr.relsP_su:∀ (l:List Int) {p:Pr},(p.relsP l).2.su=p.su∧(p.relsP l).2.disk=p.disk
  | [],_=>⟨rfl,rfl⟩
  | k :: l,p=>by
    rw [Pr.relsP];split
    · have:=Pr.relsP_su l (p:=(p.relP k).2);simpa using this
    · simp
def Pr.wrH (p:Pr) (k:Int) (h:Hd):Int × Pr:=
  match chainF p 257 k [] [] with
  | none=>(10,p)
  | some x=>if (decHdr x.2).isNone=true then (10,p) else
    if (p.relsP (x.1.drop (chLen (encH h).length))).1=0 then
      if ((p.relsP (x.1.drop (chLen (encH h).length))).2.growP (chLen (encH h).length - x.1.length) (x.1.take (chLen (encH h).length))).1=0 then
        ((p.relsP (x.1.drop (chLen (encH h).length))).2.growP (chLen (encH h).length - x.1.length) (x.1.take (chLen (encH h).length))).2.2.storeP
          ((p.relsP (x.1.drop (chLen (encH h).length))).2.growP (chLen (encH h).length - x.1.length) (x.1.take (chLen (encH h).length))).2.1 (encH h)
      else (((p.relsP (x.1.drop (chLen (encH h).length))).2.growP (chLen (encH h).length - x.1.length) (x.1.take (chLen (encH h).length))).1,
        ((p.relsP (x.1.drop (chLen (encH h).length))).2.growP (chLen (encH h).length - x.1.length) (x.1.take (chLen (encH h).length))).2.2)
    else p.relsP (x.1.drop (chLen (encH h).length))
def Pr.mkH (p:Pr) (h:Hd):Int × Int × Pr:=
  if (p.growP (chLen (encH h).length) []).1=0 then
    ((p.growP (chLen (encH h).length) []).2.1.head?.getD 0,((p.growP (chLen (encH h).length) []).2.2.storeP (p.growP (chLen (encH h).length) []).2.1 (encH h)).1,((p.growP (chLen (encH h).length) []).2.2.storeP (p.growP (chLen (encH h).length) []).2.1 (encH h)).2)
  else (0,(p.growP (chLen (encH h).length) []).1,(p.growP (chLen (encH h).length) []).2.2)
theorem afw {p:Pr}:∀ (f:Nat) (k:Int) (bl:List Int) (fm:Bs) (x:List Int × Bs),DataL p bl→chainF p f k bl fm=some x→DataL p x.1∧x.1≠[]
  | 0,_,_,_,_,_,h=>by cases h
  | f+1,k,bl,fm,x,hb,h=>by
    have hun:chainF p (f+1) k bl fm=(if p.alloc k=true∧¬k ∈ bl then
        match chainB (p.get k) with
        | none=>none
        | some x=>if x.1=0 then some (bl++[k],fm++x.2) else chainF p f x.1 (bl++[k]) (fm++x.2)
      else none):=rfl
    rw [hun] at h
    split at h
    · rename_i hc
      have hd:DataL p (bl++[k]):=by
        intro y hy
        rcases List.mem_append.1 hy with hy | hy
        · exact hb y hy
        · simp only [List.mem_singleton,Tag_eq] at hy;subst hy
          have:=hc.1
          simp only [Pr.alloc,Pr.data,Bool.and_eq_true,decide_eq_true_eq] at this
          omega
      split at h
      · cases h
      · split at h
        · cases h;exact ⟨hd,by simp⟩
        · exact afw f _ _ _ x hd h
    · cases h
theorem Pr.Ow.wrH {p:Pr} (h:p.Ow) (k:Int) (hd:Hd):(p.wrH k hd).2.Ow∧(p.wrH k hd).2.su=p.su∧(p.wrH k hd).2.disk=p.disk:=by
  unfold Pr.wrH
  split
  · exact ⟨h,rfl,rfl⟩
  · rename_i x hx
    have hdt:=(afw 257 k [] [] x (fun y hy=>by cases hy) hx).1
    split
    · exact ⟨h,rfl,rfl⟩
    · have r1:=Pr.Ow.relsP (x.1.drop (chLen (encH hd).length)) h
      have r2:=Pr.relsP_su (x.1.drop (chLen (encH hd).length)) (p:=p)
      have hdt2:DataL (p.relsP (x.1.drop (chLen (encH hd).length))).2 (x.1.take (chLen (encH hd).length)):=fun y hy=>by rw [r2.1];exact hdt y (List.mem_of_mem_take hy)
      have g:=Pr.growP_ok (chLen (encH hd).length - x.1.length) _ r1 hdt2
      split
      · split
        · rename_i hg
          rcases g.2.2.2 with g4 | g4
          · refine ⟨Pr.Ow.storeP _ _ g.1 (fun y hy=>by rw [g.2.1];exact g4.2.1 y hy),?_,?_⟩
            · rw [(Pr.storeP_su _ _).1,g.2.1,r2.1]
            · rw [(Pr.storeP_su _ _).2,g.2.2.1,r2.2]
          · rw [g4.1] at hg;cases hg
        · exact ⟨g.1,by rw [g.2.1,r2.1],by rw [g.2.2.1,r2.2]⟩
      · exact ⟨r1,r2⟩
theorem Pr.Ow.mkH {p:Pr} (h:p.Ow) (hd:Hd):(p.mkH hd).2.2.Ow∧(p.mkH hd).2.2.su=p.su∧(p.mkH hd).2.2.disk=p.disk:=by
  unfold Pr.mkH
  have g:=Pr.growP_ok (chLen (encH hd).length) [] h (fun y hy=>by cases hy)
  split
  · rename_i hg
    rcases g.2.2.2 with g4 | g4
    · refine ⟨Pr.Ow.storeP _ _ g.1 (fun y hy=>by rw [g.2.1];exact g4.2.1 y hy),?_,?_⟩
      · rw [(Pr.storeP_su _ _).1,g.2.1]
      · rw [(Pr.storeP_su _ _).2,g.2.2.1]
    · rw [g4.1] at hg;cases hg
  · exact ⟨g.1,g.2.1,g.2.2.1⟩
end Go.VS
end
section
namespace Go.VS
set_option maxRecDepth 8000
structure BsI (n:Int) (rs:List (Int × Int)) (b:Int × Int) (i:Nat) (x:Int × Int):Prop where
  e:bestF n rs b=bestF n (rs.drop i) x
  z:x.1=0 ↔ x.2=0
set_option maxHeartbeats 2000000 in
theorem ate (q:Bool) (n:Int) (rs:List (Int × Int)) (hl:rs.length≤256) (hb:∀ r,r ∈ rs→1≤r.1∧1≤r.2) (K:Out→Prop):
    Call prog 270 ⟨[.view q 2 (rs.map rnV),.i .i64 n],[],[]⟩ K=K (.i .i64 (bestF n rs (0,0)).1,[],[]):=by
  refine Zc (f:=270) rfl rfl (by decide) ?_
  simp -implicitDefEqProofs
  refine WL_st (α:=Nat × Int × Int) (fun x=>⟨sp 42 [(0,.view q 2 (rs.map rnV)),(1,.i .i64 n),(5,.ptr 0 0),(6,.i .i64 x.1)],[[.i .i64 x.2.1,.i .i64 x.2.2]],[]⟩)
    (fun x=>rs.length - x.1) (fun x=>x.1≤rs.length∧BsI n rs (0,0) x.1 x.2) (0,0,0) _ (by simp -implicitDefEqProofs) ⟨by simp,rfl,by simp⟩ ?_
  rintro ⟨i,x,y⟩ ⟨hi,he,hz⟩
  simp only at hi he hz
  by_cases c1:i<rs.length
  · have w1:=wrap_i64 (n:=(i:Int)+1) (by omega) (by omega)
    have hr:=hb rs[i] (List.getElem_mem c1)
    have hd:rs.drop i=rs[i] :: rs.drop (i+1):=List.drop_eq_getElem_cons c1
    rw [hd,bestF] at he
    by_cases c2:n≤rs[i].2
    · by_cases c3:x=0
      · have c3':=hz.1 c3
        subst c3;subst c3'
        simp -implicitDefEqProofs [c1,c2,rnV]
        refine NextS.mk (i+1,rs[i].1,rs[i].2) ⟨c1,by rw [he,if_pos ⟨c2,.inl rfl⟩],by simp only;omega⟩ (by simp only;omega) ?_
        simp -implicitDefEqProofs [w1]
      · have c3':¬ y=0:=fun e=>c3 (hz.2 e)
        by_cases c4:rs[i].2<y
        · simp -implicitDefEqProofs [c1,c2,c3,c4,rnV]
          refine NextS.mk (i+1,rs[i].1,rs[i].2) ⟨c1,by rw [he,if_pos ⟨c2,.inr c4⟩],by simp only;omega⟩ (by simp only;omega) ?_
          simp -implicitDefEqProofs [w1]
        · simp -implicitDefEqProofs [c1,c2,c3,c4,rnV]
          refine NextS.mk (i+1,x,y) ⟨c1,by rw [he,if_neg (by simp only;omega)],hz⟩ (by simp only;omega) ?_
          simp -implicitDefEqProofs [w1]
    · simp -implicitDefEqProofs [c1,c2,rnV]
      refine NextS.mk (i+1,x,y) ⟨c1,by rw [he,if_neg (by simp only;omega)],hz⟩ (by simp only;omega) ?_
      simp -implicitDefEqProofs [w1]
  · obtain rfl:i=rs.length:=by omega
    rw [he]
    simp -implicitDefEqProofs [bestF]
set_option maxHeartbeats 4000000 in
theorem aj6 (p:Pr) (h:p.Ow) (n:Nat) (hn:1≤n) (hn2:n≤256) (K:Out→Prop):
    Call prog 257 ⟨[.ptr 0 0,.i .i64 n],[pmC 0 p],pmR p⟩ K=K (.tup [.i .i64 (p.allocP n).1,.i .i64 (p.allocP n).2.1],[pmC 0 (p.allocP n).2.2],pmR (p.allocP n).2.2):=by
  refine Zc (f:=257) rfl rfl (by decide) ?_
  have e1:=fun K=>arc false p h.ok K
  simp only [prC,Tag_eq] at e1
  have hro:=p.runs_ok h.ok
  have hsu:=h.ok.sub
  have hbst:=p.best_ok h.ok n
  have hdef:p.best n=bestF n p.runs (0,0):=rfl
  unfold Pr.allocP
  obtain ⟨rs,hrs⟩:∃ rs,rs=p.runs:=⟨_,rfl⟩
  rw [← hrs] at hro hdef e1
  simp -implicitDefEqProofs [pmC,pmR,e1]
  refine WL_st (α:=Nat × Int × Int) (fun x=>⟨sp 44 [(0,.ptr 0 0),(1,.i .i64 n),(6,.ptr 1 0),(10,.sl 4 0 rs.length false),(11,.i .i64 rs.length),(12,.i .i64 x.1)],[pmC 0 p,[.i .i64 x.2.1,.i .i64 x.2.2]],pmR p++[.row 2 false (rs.map rnV)]⟩)
    (fun x=>rs.length - x.1) (fun x=>x.1≤rs.length∧BsI n rs (0,0) x.1 x.2) (0,0,0) _ (by simp -implicitDefEqProofs [pmC,pmR]) ⟨by simp,rfl,by simp⟩ ?_
  rintro ⟨i,x,y⟩ ⟨hi,he,hz⟩
  simp only at hi he hz
  by_cases c1:i<rs.length
  · have w1:=wrap_i64 (n:=(i:Int)+1) (by omega) (by omega)
    have hr:=hro.2 rs[i] (List.getElem_mem c1)
    have hd:rs.drop i=rs[i] :: rs.drop (i+1):=List.drop_eq_getElem_cons c1
    rw [hd,bestF] at he
    by_cases c2:(n:Int)≤rs[i].2
    · by_cases c3:y=0
      · have c3':=hz.2 c3
        subst c3;subst c3'
        simp -implicitDefEqProofs [pmC,pmR,c1,c2,rnV]
        refine NextS.mk (i+1,rs[i].1,rs[i].2) ⟨c1,by rw [he,if_pos ⟨c2,.inl rfl⟩],by simp only;omega⟩ (by simp only;omega) ?_
        simp -implicitDefEqProofs [pmC,pmR,w1]
      · have c3':¬ x=0:=fun e=>c3 (hz.1 e)
        by_cases c4:rs[i].2<y
        · simp -implicitDefEqProofs [pmC,pmR,c1,c2,c3,c4,rnV]
          refine NextS.mk (i+1,rs[i].1,rs[i].2) ⟨c1,by rw [he,if_pos ⟨c2,.inr c4⟩],by simp only;omega⟩ (by simp only;omega) ?_
          simp -implicitDefEqProofs [pmC,pmR,w1]
        · simp -implicitDefEqProofs [pmC,pmR,c1,c2,c3,c4,rnV]
          refine NextS.mk (i+1,x,y) ⟨c1,by rw [he,if_neg (by simp only;omega)],hz⟩ (by simp only;omega) ?_
          simp -implicitDefEqProofs [pmC,pmR,w1]
    · simp -implicitDefEqProofs [pmC,pmR,c1,c2,rnV]
      refine NextS.mk (i+1,x,y) ⟨c1,by rw [he,if_neg (by simp only;omega)],hz⟩ (by simp only;omega) ?_
      simp -implicitDefEqProofs [pmC,pmR,w1]
  · obtain rfl:i=rs.length:=by omega
    rw [List.drop_length,bestF,← hdef] at he
    rw [he] at hbst ⊢
    by_cases c2:y=0
    · simp -implicitDefEqProofs [pmC,pmR,c2]
    · have hbd:(n:Int)≤y∧3+p.su.log≤x∧1≤y∧x+y≤p.su.blocks:=by
        rcases hbst with e | e
        · exact absurd (congrArg Prod.snd e) c2
        · exact e
      have e3:=fun K=>atu p h x n true (by omega) (by omega) K
      simp only [pmC,pmR,Nat.zero_add,Tag_eq] at e3
      simp only [c2,if_false]
      generalize p.markP x n true=R at *
      simp -implicitDefEqProofs [pmC,pmR,c2,e3]
set_option maxHeartbeats 2000000 in
theorem anj (p:Pr) (h:p.Ow) (n:Nat) (hn:1≤n) (hn2:n≤256) (K:Out→Prop):
    Call prog 248 ⟨[.ptr 0 0,.i .i64 n],[pmC 0 p],pmR p⟩ K=K (.tup [.i .i64 (p.allocP n).1,.i .i64 (p.allocP n).2.1],[pmC 0 (p.allocP n).2.2],pmR (p.allocP n).2.2):=by
  refine Zc (f:=248) rfl rfl (by decide) ?_
  have e1:=fun K=>atg false p h.ok K
  have e4:=fun K=>ada false p h.ok K
  simp only [prC,Tag_eq] at e1 e4
  have hro:=p.runs_ok h.ok
  have hsu:=h.ok.sub
  have hbst:=p.best_ok h.ok n
  have e2:=fun q K=>ate q n p.runs hro.1 (fun r hr=>by have:=hro.2 r hr;omega) K
  have hdef:bestF n p.runs (0,0)=p.best n:=rfl
  rw [hdef] at e2
  have hA:p.get (2+p.su.log)=p.area:=rfl
  rw [hA] at e4
  unfold Pr.allocP
  by_cases c:(p.best n).2=0
  · have c1:(p.best n).1=0:=by
      rcases hbst with e | e
      · rw [e]
      · omega
    rw [c1] at e2
    simp -implicitDefEqProofs [pmC,pmR,e1,e2,c]
  · have hbd:(n:Int)≤(p.best n).2∧3+p.su.log≤(p.best n).1∧1≤(p.best n).2∧(p.best n).1+(p.best n).2≤p.su.blocks:=by
      rcases hbst with e | e
      · rw [e] at c;exact absurd rfl c
      · exact e
    have c1:¬ (p.best n).1=0:=by omega
    have e5:=fun K=>am2 p.area (p.area_len h.ok) (p.best n).1 n true (by omega) (by omega) K
    have e6:=fun K=>aoz p h (markB n p.area (p.best n).1 true) K
    simp only [pmC,pmR,Nat.zero_add,Tag_eq] at e6
    simp only [c,if_false,Pr.markP]
    generalize p.setP (2+p.su.log) (markB n p.area (p.best n).1 true)=R at *
    simp -implicitDefEqProofs [pmC,pmR,e1,e2,c1,e4,e5,e6]
set_option maxHeartbeats 2000000 in
theorem aub (p:Pr) (h:p.Ow) (k:Int) (K:Out→Prop):
    Call prog 256 ⟨[.ptr 0 0,.i .i64 k,.i .i64 1],[pmC 0 p],pmR p⟩ K=K (.i .i64 (p.relP k).1,[pmC 0 (p.relP k).2],pmR (p.relP k).2):=by
  refine Zc (f:=256) rfl rfl (by decide) ?_
  have e1:=fun K=>aot false p h.ok k K
  have e2:=fun K=>ae1 false p h.ok k K
  simp only [prC,Tag_eq] at e1 e2
  unfold Pr.relP
  cases c:p.data k with
  | false=>simp -implicitDefEqProofs [pmC,pmR,e1,c]
  | true=>
    have hk:=p.data_bd h.ok c
    have w1:=wrap_i64 (n:=k+1) (by omega) (by omega)
    have ck:k<k+1:=by omega
    have hal:p.alloc k=bitE p.area k:=by rw [Pr.alloc,c,Bool.true_and]
    rw [hal] at e2
    have e3:=fun K=>atu p h k 1 false (by omega) (by simp;omega) K
    simp only [pmC,pmR,Nat.zero_add,Int.natCast_one,Tag_eq] at e3
    simp -implicitDefEqProofs [pmC,pmR,e1,c]
    refine WL_for (fun i=>⟨sp 29 [(0,.ptr 0 0),(1,.i .i64 k),(2,.i .i64 1),(7,.i .i64 (k+i))],[pmC 0 p],pmR p⟩) 1 (fun i=>0<i→bitE p.area k=true) _ (by simp -implicitDefEqProofs [pmC,pmR]) (by omega) ?_
    intro i hi hP
    rcases Nat.le_one_iff_eq_zero_or_eq_one.1 hi with rfl | rfl
    · cases c2:bitE p.area k with
      | false=>simp -implicitDefEqProofs [pmC,pmR,w1,ck,e2,c2]
      | true=>simp -implicitDefEqProofs [pmC,pmR,w1,ck,e2,c2,Next]
    · have c2:=hP (by omega)
      generalize p.markP k 1 false=R at *
      simp -implicitDefEqProofs [pmC,pmR,w1,c2,e3]
set_option maxHeartbeats 2000000 in
theorem ao0 (p:Pr) (h:p.Ow) (k:Int) (K:Out→Prop):
    Call prog 217 ⟨[.ptr 0 0,.i .i64 k,.i .i64 1],[pmC 0 p],pmR p⟩ K=K (.i .i64 (p.relP k).1,[pmC 0 (p.relP k).2],pmR (p.relP k).2):=by
  refine Zc (f:=217) rfl rfl (by decide) ?_
  have e1:=fun K=>am1 false p h.ok k K
  have e4:=fun K=>ada false p h.ok K
  simp only [prC,Tag_eq] at e1 e4
  have hA:p.get (2+p.su.log)=p.area:=rfl
  rw [hA] at e4
  unfold Pr.relP
  cases c:p.data k with
  | false=>simp -implicitDefEqProofs [pmC,pmR,e1,c]
  | true=>
    have hk:=p.data_bd h.ok c
    have w1:=wrap_i64 (n:=k+1) (by omega) (by omega)
    have ck:k<k+1:=by omega
    have e2:=fun K=>aj1 p.area k (p.area_len h.ok) ⟨hk.1,hk.2.1⟩ K
    have e3:=fun K=>am2 p.area (p.area_len h.ok) k 1 false (by omega) (by simp;omega) K
    have e6:=fun K=>aoz p h (markB 1 p.area k false) K
    simp only [pmC,pmR,Nat.zero_add,Int.natCast_one,Tag_eq] at e3 e6
    simp only [Pr.markP]
    simp -implicitDefEqProofs [pmC,pmR,e1,c,e4]
    refine WL_for (fun i=>⟨sp 34 [(0,.ptr 0 0),(1,.i .i64 k),(2,.i .i64 1),(7,.s p.area),(8,.i .i64 (k+i))],[pmC 0 p],pmR p⟩) 1 (fun i=>0<i→bitE p.area k=true) _ (by simp -implicitDefEqProofs [pmC,pmR]) (by omega) ?_
    intro i hi hP
    rcases Nat.le_one_iff_eq_zero_or_eq_one.1 hi with rfl | rfl
    · cases c2:bitE p.area k with
      | false=>simp -implicitDefEqProofs [pmC,pmR,w1,ck,e2,c2]
      | true=>simp -implicitDefEqProofs [pmC,pmR,w1,ck,e2,c2,Next]
    · have c2:=hP (by omega)
      generalize p.setP (2+p.su.log) (markB 1 p.area k false)=R at *
      simp -implicitDefEqProofs [pmC,pmR,w1,c2,e3,e6]
end Go.VS
end
section
namespace Go.VS
set_option maxRecDepth 8000
def leA (n:Int) (k i:Nat):Bs:=leB n i++List.replicate (k - i) 0
theorem a0s (n:Int) (k:Nat):bytesV (leA n k 0)=List.replicate k (.i .u8 0):=by
  unfold leA bytesV leB
  simp
theorem a1x (n:Int) (k:Nat):leA n k k=leB n k:=by unfold leA;simp
theorem a1y {n:Int} {k i:Nat} (h:i≤k):(leA n k i).length=k:=by unfold leA;simp;omega
theorem a0r {n:Int} {k i:Nat} (h:i<k):(leA n k i).set i (byteB (shrI .i64 n (8*(i:Int))))=leA n k (i+1):=by
  unfold leA
  obtain ⟨m,hm⟩:∃ m,k - i=m+1:=⟨k - i - 1,by omega⟩
  rw [hm,show k - (i+1)=m by omega,awu,List.replicate_succ,List.set_append_right _ _ (by simp),leB_len,Nat.sub_self]
  simp
theorem aay (n:Int) (k:Nat) (hk:k≤8) (K:Out→Prop):Call prog 255 ⟨[.i .i64 n,.i .i64 k],[],[]⟩ K=K (.s (leB n k),[],[]):=by
  refine Zc (f:=255) rfl rfl (by decide) ?_
  have hl:k≤lim:=by unfold lim;omega
  simp -implicitDefEqProofs [hl]
  refine WL_for (fun i=>⟨sp 25 [(0,.i .i64 n),(5,.sl 0 0 k false),(10,.i .i64 k),(11,.i .i64 i)],[],[.row 1 false (bytesV (leA n k i))]⟩) k (fun _=>True) _ (by simp -implicitDefEqProofs [a0s]) trivial ?_
  intro i hi _
  by_cases hlt:i<k
  · have hw:=wrap_i64 (n:=(i:Int)+1) (by omega) (by omega)
    have hw8:=wrap_i64 (n:=8*(i:Int)) (by omega) (by omega)
    have h8:¬ 8*(i:Int)<0:=by omega
    have hg:=ajv (x:=leA n k i) (i:=i) (by rw [a1y hi];exact hlt)
    have hs:=ae7 (leA n k i) i (byteB (shrI .i64 n (8*(i:Int))))
    rw [ax7,a0r hlt] at hs
    simp -implicitDefEqProofs [hlt,hw,hw8,h8,hg,hs,Next]
  · obtain rfl:i=k:=by omega
    rw [a1x]
    have ht:=al3 (leB n i) (leB_len n i)
    simp -implicitDefEqProofs [cvsV,ht]
theorem aev (n:Int) (K:Out→Prop):Call prog 268 ⟨[.i .i64 n],[],[]⟩ K=K (.s (leB n 1),[],[]):=by
  refine Zc (f:=268) rfl rfl (by decide) ?_
  rw [aru]
  simp -implicitDefEqProofs [cvsV,vbytes,byteB]
theorem ajz (n:Int) (k:Nat) (hk:k≤8) (K:Out→Prop):Call prog 250 ⟨[.i .i64 n,.i .i64 k,.b false],[],[]⟩ K=K (.s (leB n k),[],[]):=by
  refine Zc (f:=250) rfl rfl (by decide) ?_
  simp -implicitDefEqProofs
  refine WL_for (fun i=>⟨sp 30 [(0,.i .i64 n),(1,.i .i64 k),(2,.b false),(7,.s (leB n i)),(8,.i .i64 i)],[],[]⟩) k (fun _=>True) _ (by simp -implicitDefEqProofs [leB]) trivial ?_
  intro i hi _
  by_cases hlt:i<k
  · have hw:=wrap_i64 (n:=(i:Int)+1) (by omega) (by omega)
    have hw8:=wrap_i64 (n:=8*(i:Int)) (by omega) (by omega)
    have hw9:=wrap_u64 (n:=8*(i:Int)) (by omega) (by omega)
    have h8:¬ 8*(i:Int)<0:=by omega
    have e:=fun K=>aev (bandI .i64 (shrI .i64 n (8*(i:Int))) 255) K
    rw [aru,ax6] at e
    have h9:i+1≤lim:=by unfold lim;omega
    simp -implicitDefEqProofs [hlt,hw,hw8,hw9,h8,h9,e,awu,Next]
  · obtain rfl:i=k:=by omega
    simp -implicitDefEqProofs
theorem auo (c:UInt8) (n:Nat) (h:n≤lim) (K:Out→Prop):Call prog 286 ⟨[.s [c],.i .i64 n],[],[]⟩ K=K (.s (List.replicate n c),[],[]):=by
  rw [aav (p:=prog) (f:=286) rfl]
  have:nRepeat ⟨[.s [c],.i .i64 n],[],[]⟩=some (.s (List.replicate n c),[],[]):=by
    simp only [nRepeat]
    rw [if_pos ⟨by omega,by omega,by simpa using h⟩]
    have:(List.replicate (n:Int).toNat [c]).flatten=List.replicate n c:=by
      rw [Int.toNat_natCast]
      clear h
      induction n with
      | zero=>rfl
      | succ n ih=>rw [List.replicate_succ,List.flatten_cons,ih];rfl
    rw [this]
  rw [this,abd]
theorem axz (n:Nat) (h:n≤lim) (K:Out→Prop):Call prog 277 ⟨[.i .i64 n],[],[]⟩ K=K (.s (List.replicate n 0),[],[]):=by
  refine Zc (f:=277) rfl rfl (by decide) ?_
  have e:=fun K=>auo 0 n h K
  unfold lim at h
  have w:=wrap_i64 (n:=(n:Int)) (by omega) (by omega)
  simp -implicitDefEqProofs [e,w]
theorem avm (s:Bs) (n:Nat) (hs:s.length≤n) (hn:n≤65536) (K:Out→Prop):Call prog 258 ⟨[.s s,.i .i64 n],[],[]⟩ K=K (.s (s++List.replicate (n - s.length) 0),[],[]):=by
  refine Zc (f:=258) rfl rfl (by decide) ?_
  have e:=fun K=>axz (n - s.length) (by unfold lim;omega) K
  rw [show ((n - s.length:Nat):Int)=(n:Int) - s.length by omega] at e
  have w:=wrap_i64 (n:=(n:Int) - s.length) (by omega) (by omega)
  have w2:=wrap_i64 (n:=(s.length:Int)) (by omega) (by omega)
  have h1:s.length+(n - s.length)≤lim:=by unfold lim;omega
  simp -implicitDefEqProofs [e,w,w2,h1]
theorem au6 (s:Bs) (n:Nat) (hs:s.length≤n) (hn:n≤65536) (K:Out→Prop):Call prog 251 ⟨[.s s,.i .i64 n],[],[]⟩ K=K (.s (s++List.replicate (n - s.length) 0),[],[]):=by
  refine Zc (f:=251) rfl rfl (by decide) ?_
  have w:=wrap_i64 (n:=(n:Int) - s.length) (by omega) (by omega)
  have w2:=wrap_i64 (n:=(s.length:Int)) (by omega) (by omega)
  by_cases c:n≤s.length
  · have c':(n:Int)≤s.length:=by omega
    have e:n - s.length=0:=by omega
    rw [e]
    simp -implicitDefEqProofs [w2,c,c']
  · have c':¬ (n:Int)≤s.length:=by omega
    have c2:(0:Int)≤(n:Int) - s.length:=by omega
    have c3:(s.length:Int)≤n:=by omega
    have c4:(n:Int) - s.length≤((lim:Nat):Int):=by unfold lim;omega
    have t:((n:Int) - s.length).toNat=n - s.length:=by omega
    have h1:s.length+(n - s.length)≤lim:=by unfold lim;omega
    have e2:(List.replicate (n - s.length) (V.i .u8 0)).take (n - s.length)=List.replicate (n - s.length) (V.i .u8 0):=List.take_of_length_le (by simp)
    simp -implicitDefEqProofs [w,w2,c,c',c2,c3,c4,t,h1,cvsV,e2,ami]
theorem af1 (a b:Int) (K:Out→Prop):Call prog 249 ⟨[.i .i64 a,.i .i64 b],[],[]⟩ K=K (.i .i64 (min a b),[],[]):=by
  refine Zc (f:=249) rfl rfl (by decide) ?_
  by_cases h:a<b
  · have:min a b=a:=by omega
    simp -implicitDefEqProofs [h,this]
  · have:min a b=b:=by omega
    simp -implicitDefEqProofs [h,this]
theorem aq4 (a:V) (ha:isSelf a=true) (K:Out→Prop):Call prog 178 ⟨[.ptr 0 0],[[a,.nil]],[]⟩ K=K (.tup [],[[.ptr 0 0,.nil]],[]):=by
  rw [aav (p:=prog) (f:=178) rfl]
  have:nCopyCheck ⟨[.ptr 0 0],[[a,.nil]],[]⟩=some (.tup [],[[.ptr 0 0,.nil]],[]):=by
    simp only [nCopyCheck,ha,if_true]
  rw [this,abd]
theorem an4 (a:V) (l:Bs) (ha:isSelf a=true) (hn:l≠[]) (hl:l.length≤lim) (K:Out→Prop):
    Call prog 150 ⟨[.ptr 0 0,.s l],[[a,.nil]],[]⟩ K=K (.tup [.i .i64 l.length,.no],[[.ptr 0 0,.sl 0 0 l.length false]],[.row 1 false (bytesT l)]):=by
  refine Zc (f:=150) rfl rfl (by decide) ?_
  have e:=fun K=>aq4 a ha K
  rcases ah9 ha with rfl | rfl <;> simp -implicitDefEqProofs [e,hn,hl]
set_option maxHeartbeats 2000000 in
theorem aob (q:Bool) (h:Hd) (s:h.Sm) (K:Out→Prop):Call prog 223 ⟨[.agg (hdC q h)],[],[]⟩ K=K (.s (encH h),[],[]):=by
  refine Zc (f:=223) rfl rfl (by decide) ?_
  have b1:=fun n K=>aay n 1 (by omega) K
  have b2:=fun n K=>aay n 2 (by omega) K
  simp only [Int.natCast_one,Int.cast_ofNat_Int] at b1 b2
  have hn:=s.n
  have e1:=fun K=>an4 .bz (encHd h) rfl (by intro e;have:=congrArg List.length e;simp at this) (by simp [lim]) K
  have hd0:leB h.kind 1++(leB h.refs 2++leB h.msgs.length 1)=encHd h:=by simp [encHd]
  have hd1:leB h.kind 1++leB h.refs 2++leB h.msgs.length 1=encHd h:=rfl
  simp only [encHd_len,Int.cast_ofNat_Int,Tag_eq] at e1
  simp -implicitDefEqProofs [hdC,b1,b2,lim,hd0,e1]
  refine WL_for (fun i=>⟨sp 44 [(3,.ptr 1 0),(20,.view q 3 (h.msgs.map msV)),(21,.i .i64 h.msgs.length),(22,.i .i64 i)],[[.i .i64 h.kind,.i .i64 h.refs,.view q 3 (h.msgs.map msV)],[.ptr 1 0,.sl 0 0 (encHi h i).length false]],[.row 1 false (bytesT (encHi h i))]⟩) h.msgs.length (fun _=>True) _
    (by simp -implicitDefEqProofs [encHi]) trivial ?_
  intro i hi _
  have h4:∀ i,¬ encHi h i=[]:=fun i e=>by
    have:=congrArg List.length e
    simp [encHi] at this
  have h4d:∀ i,decide (encHi h i=[])=false:=fun i=>by simp [h4 i]
  by_cases hlt:i<h.msgs.length
  · have hw:=wrap_i64 (n:=(i:Int)+1) (by omega) (by omega)
    have hdl:=s.d h.msgs[i] (List.getElem_mem hlt)
    have hle:=aq5 s (i+1)
    have hsu:=aqe hlt
    have hle2:=hle
    rw [hsu,List.length_append,aka] at hle2
    have e2:=fun K=>aa9 (.ptr 0 0) (encHi h i) (encM h.msgs[i]) rfl (by rw [aka];unfold lim;omega) K
    rw [← hsu,h4d,h4d] at e2
    have hm0:leB h.msgs[i].kind 1++(leB h.msgs[i].flags 1++(leB h.msgs[i].data.length 1++h.msgs[i].data))=encM h.msgs[i]:=by simp [encM]
    have hl1:3+h.msgs[i].data.length≤1073741824:=by omega
    simp -implicitDefEqProofs [hlt,msV,b1,lim,hm0,hl1,e2,hw,Next]
  · obtain rfl:i=h.msgs.length:=by omega
    have e3:=fun K=>agy (.ptr 0 0) (encHi h h.msgs.length) rfl K
    rw [h4d] at e3
    rw [an9] at *
    simp -implicitDefEqProofs [e3]
set_option maxHeartbeats 2000000 in
theorem ajq (q:Bool) (h:Hd) (s:h.Sm) (K:Out→Prop):Call prog 245 ⟨[.agg (hdC q h)],[],[]⟩ K=K (.s (encH h),[],[]):=by
  refine Zc (f:=245) rfl rfl (by decide) ?_
  have b1:=fun n K=>aev n K
  have b2:=fun n K=>ajz n 2 (by omega) K
  simp only [Int.natCast_one,Int.cast_ofNat_Int] at b1 b2
  have hn:=s.n
  have hd0:leB h.kind 1++(leB h.refs 2++leB h.msgs.length 1)=encHd h:=by simp [encHd]
  simp -implicitDefEqProofs [hdC,b1,b2,lim,hd0]
  refine WL_for (fun i=>⟨sp 48 [(1,.ptr 0 0),(3,.s (encHi h i)),(4,.i .i64 i)],[[.i .i64 h.kind,.i .i64 h.refs,.view q 3 (h.msgs.map msV)]],[]⟩) h.msgs.length (fun _=>True) _
    (by simp -implicitDefEqProofs [encHi]) trivial ?_
  intro i hi _
  by_cases hlt:i<h.msgs.length
  · have hw:=wrap_i64 (n:=(i:Int)+1) (by omega) (by omega)
    have hdl:=s.d h.msgs[i] (List.getElem_mem hlt)
    have hle:=aq5 s (i+1)
    have hsu:=aqe hlt
    have hle2:=hle
    rw [hsu,List.length_append,aka] at hle2
    have hm0:leB h.msgs[i].kind 1++(leB h.msgs[i].flags 1++(leB h.msgs[i].data.length 1++h.msgs[i].data))=encM h.msgs[i]:=by simp [encM]
    have hl1:3+h.msgs[i].data.length≤1073741824:=by omega
    have hl2:(encHi h i).length+(encM h.msgs[i]).length≤1073741824:=by rw [aka];omega
    simp -implicitDefEqProofs [hlt,msV,b1,lim,hm0,hl1,hl2,← hsu,hw,Next]
  · obtain rfl:i=h.msgs.length:=by omega
    rw [an9]
    simp -implicitDefEqProofs
end Go.VS
end
section
namespace Go.VS
set_option maxRecDepth 8000
theorem aj7 (s:Bs) (hs:s.length≤5000) (K:Out→Prop):Call prog 224 ⟨[.s s],[],[]⟩ K=K (.i .i64 (chLen s.length),[],[]):=by
  refine Zc (f:=224) rfl rfl (by decide) ?_
  have w1:=wrap_i64 (n:=(s.length:Int)+60) (by omega) (by omega)
  have w2:=wrap_i64 (n:=(s.length:Int)+60 - 1) (by omega) (by omega)
  have d:((s.length:Int)+60 - 1).tdiv 60=chLen s.length:=by
    rw [Int.tdiv_eq_ediv_of_nonneg (by omega)];unfold chLen;omega
  have w3:=wrap_i64 (n:=(chLen s.length:Int)) (by omega) (by unfold chLen;omega)
  simp -implicitDefEqProofs [w1,w2,d,w3]
theorem am4 (q:Bool) (h:Hd) (s:h.Sm) (K:Out→Prop):Call prog 216 ⟨[.agg (hdC q h)],[],[]⟩ K=K (.i .i64 (chLen (encH h).length),[],[]):=by
  refine Zc (f:=216) rfl rfl (by decide) ?_
  have e:=fun K=>ajq q h s K
  simp only [hdC,Tag_eq] at e
  have hl:=al8 s
  have w1:=wrap_i64 (n:=((encH h).length:Int)+60) (by omega) (by omega)
  have w2:=wrap_i64 (n:=((encH h).length:Int)+60 - 1) (by omega) (by omega)
  have d:(((encH h).length:Int)+60 - 1).tdiv 60=chLen (encH h).length:=by
    rw [Int.tdiv_eq_ediv_of_nonneg (by omega)];unfold chLen;omega
  have w3:=wrap_i64 (n:=(chLen (encH h).length:Int)) (by omega) (by unfold chLen;omega)
  simp -implicitDefEqProofs [hdC,e,w1,w2,d,w3]
def growOut (g:Int × List Int × Pr):Out:=
  if g.1=0 then (.tup [.sl 0 0 g.2.1.length false,.i .i64 0],[pmC 1 g.2.2],.row 1 false (g.2.1.map (V.i .i64)) :: pmR g.2.2) else (.tup [.nil,.i .i64 g.1],[pmC 0 g.2.2],pmR g.2.2)
structure GwI (p0:Pr) (N:Nat) (l0:List Int) (many:Nat) (x:Nat × List Int × Pr):Prop where
  e:p0.growP N l0=x.2.2.growP x.1 x.2.1
  o:x.2.2.Ow
  l:x.2.1.length+x.1≤1000
  n:x.1=many - x.2.1.length
set_option maxHeartbeats 2000000 in
theorem ayt (p:Pr) (h:p.Ow) (l:List Int) (hll:l.length≤1000) (many:Nat) (hm:many≤1000) (K:Out→Prop):
    Call prog 226 ⟨[.ptr 0 0,.sl 0 0 l.length false,.i .i64 many],[pmC 1 p],.row 1 false (l.map (V.i .i64)) :: pmR p⟩ K=K (growOut (p.growP (many - l.length) l)):=by
  refine Zc (f:=226) rfl rfl (by decide) ?_
  simp -implicitDefEqProofs [pmC,pmR]
  refine WL_st (α:=Nat × List Int × Pr) (fun x=>⟨sp 27 [(0,.ptr 0 0),(1,.sl 4 0 x.2.1.length false),(2,.i .i64 many)],[pmC 0 x.2.2],pmR x.2.2++[.row 1 false (x.2.1.map (V.i .i64))]⟩)
    (fun x=>x.1) (GwI p (many - l.length) l many) (many - l.length,l,p) _ (by simp -implicitDefEqProofs [pmC,pmR]) ⟨rfl,h,by simp;omega,by simp⟩ ?_
  rintro ⟨r,l,p⟩ ⟨he,ho,hl,hr⟩
  simp only at he ho hl hr
  rw [he]
  cases r with
  | zero=>
    have c:¬ (l.length:Int)<many:=by omega
    have c2:many≤l.length:=by omega
    unfold growOut
    simp -implicitDefEqProofs [pmC,pmR,c,c2,Pr.growP]
  | succ r=>
    have c:(l.length:Int)<many:=by omega
    have c2:l.length<many:=by omega
    have e:=fun K=>aj6 p ho 1 (by omega) (by omega) K
    have hO:=ho.allocP 1
    have hun:p.growP (r+1) l=if (p.allocP 1).2.1=0 then (p.allocP 1).2.2.growP r (l++[(p.allocP 1).1]) else ((p.allocP 1).2.1,[],(p.allocP 1).2.2):=rfl
    rw [hun] at he ⊢
    simp only [pmC,pmR,Nat.zero_add,Int.natCast_one,Tag_eq] at e
    generalize p.allocP 1=R at *
    by_cases c3:R.2.1=0
    · rw [c3] at e
      have c4:l.length+1≤lim:=by unfold lim;omega
      simp -implicitDefEqProofs [pmC,pmR,c,c2,e,c4]
      refine NextS.mk (r,l++[R.1],R.2.2) ⟨by rw [he,if_pos c3],hO,by simp;omega,by simp;omega⟩ (by simp) ?_
      simp -implicitDefEqProofs [pmC,pmR]
    · unfold growOut
      simp -implicitDefEqProofs [pmC,pmR,c,c2,e,c3]
set_option maxHeartbeats 2000000 in
theorem a0l (p:Pr) (h:p.Ow) (many:Nat) (hm:many≤1000) (K:Out→Prop):
    Call prog 226 ⟨[.ptr 0 0,.nil,.i .i64 many],[pmC 0 p],pmR p⟩ K=K (growOut (p.growP many [])):=by
  refine Zc (f:=226) rfl rfl (by decide) ?_
  simp -implicitDefEqProofs [pmC,pmR]
  refine WL_st (α:=Nat × List Int × Pr) (fun x=>⟨sp 27 [(0,.ptr 0 0),(1,.sl 4 0 x.2.1.length false),(2,.i .i64 many)],[pmC 0 x.2.2],pmR x.2.2++[.row 1 false (x.2.1.map (V.i .i64))]⟩)
    (fun x=>x.1) (GwI p many [] many) (many,[],p) _ (by simp -implicitDefEqProofs [pmC,pmR]) ⟨rfl,h,by simp;omega,by simp⟩ ?_
  rintro ⟨r,l,p⟩ ⟨he,ho,hl,hr⟩
  simp only at he ho hl hr
  rw [he]
  cases r with
  | zero=>
    have c:¬ (l.length:Int)<many:=by omega
    have c2:many≤l.length:=by omega
    unfold growOut
    simp -implicitDefEqProofs [pmC,pmR,c,c2,Pr.growP]
  | succ r=>
    have c:(l.length:Int)<many:=by omega
    have c2:l.length<many:=by omega
    have e:=fun K=>aj6 p ho 1 (by omega) (by omega) K
    have hO:=ho.allocP 1
    have hun:p.growP (r+1) l=if (p.allocP 1).2.1=0 then (p.allocP 1).2.2.growP r (l++[(p.allocP 1).1]) else ((p.allocP 1).2.1,[],(p.allocP 1).2.2):=rfl
    rw [hun] at he ⊢
    simp only [pmC,pmR,Nat.zero_add,Int.natCast_one,Tag_eq] at e
    generalize p.allocP 1=R at *
    by_cases c3:R.2.1=0
    · rw [c3] at e
      have c4:l.length+1≤lim:=by unfold lim;omega
      simp -implicitDefEqProofs [pmC,pmR,c,c2,e,c4]
      refine NextS.mk (r,l++[R.1],R.2.2) ⟨by rw [he,if_pos c3],hO,by simp;omega,by simp;omega⟩ (by simp) ?_
      simp -implicitDefEqProofs [pmC,pmR]
    · unfold growOut
      simp -implicitDefEqProofs [pmC,pmR,c,c2,e,c3]
theorem a1t (p:Pr) (l:List Int) (n many:Nat) (hm:many≤n) (hn:n≤l.length) (K:Out→Prop):
    Call prog 226 ⟨[.ptr 0 0,.sl 0 0 n false,.i .i64 many],[pmC 1 p],.row 1 false (l.map (V.i .i64)) :: pmR p⟩ K=K (.tup [.sl 0 0 n false,.i .i64 0],[pmC 1 p],.row 1 false (l.map (V.i .i64)) :: pmR p):=by
  refine Zc (f:=226) rfl rfl (by decide) ?_
  simp -implicitDefEqProofs [pmC,pmR]
  refine WL_st (α:=Unit) (fun x=>⟨sp 27 [(0,.ptr 0 0),(1,.sl 4 0 n false),(2,.i .i64 many)],[pmC 0 p],pmR p++[.row 1 false (l.map (V.i .i64))]⟩)
    (fun x=>0) (fun _=>True) () _ (by simp -implicitDefEqProofs [pmC,pmR]) trivial ?_
  rintro _ _
  have c:¬ (n:Int)<many:=by omega
  have c2:many≤n:=hm
  simp -implicitDefEqProofs [pmC,pmR,c,c2]
set_option maxHeartbeats 2000000 in
theorem am3 (p:Pr) (h:p.Ow) (l:List Int) (hll:l.length≤1000) (many:Nat) (hm:many≤1000) (K:Out→Prop):
    Call prog 218 ⟨[.ptr 0 0,.sl 0 0 l.length false,.i .i64 many],[pmC 1 p],.row 1 false (l.map (V.i .i64)) :: pmR p⟩ K=K (growOut (p.growP (many - l.length) l)):=by
  refine Zc (f:=218) rfl rfl (by decide) ?_
  simp -implicitDefEqProofs [pmC,pmR]
  refine WL_st (α:=Nat × List Int × Pr) (fun x=>⟨sp 27 [(0,.ptr 0 0),(1,.sl 4 0 x.2.1.length false),(2,.i .i64 many)],[pmC 0 x.2.2],pmR x.2.2++[.row 1 false (x.2.1.map (V.i .i64))]⟩)
    (fun x=>x.1) (GwI p (many - l.length) l many) (many - l.length,l,p) _ (by simp -implicitDefEqProofs [pmC,pmR]) ⟨rfl,h,by simp;omega,by simp⟩ ?_
  rintro ⟨r,l,p⟩ ⟨he,ho,hl,hr⟩
  simp only at he ho hl hr
  rw [he]
  cases r with
  | zero=>
    have c:¬ (l.length:Int)<many:=by omega
    have c2:many≤l.length:=by omega
    unfold growOut
    simp -implicitDefEqProofs [pmC,pmR,c,c2,Pr.growP]
  | succ r=>
    have c:(l.length:Int)<many:=by omega
    have c2:l.length<many:=by omega
    have e:=fun K=>anj p ho 1 (by omega) (by omega) K
    have hO:=ho.allocP 1
    have hun:p.growP (r+1) l=if (p.allocP 1).2.1=0 then (p.allocP 1).2.2.growP r (l++[(p.allocP 1).1]) else ((p.allocP 1).2.1,[],(p.allocP 1).2.2):=rfl
    rw [hun] at he ⊢
    simp only [pmC,pmR,Nat.zero_add,Int.natCast_one,Tag_eq] at e
    generalize p.allocP 1=R at *
    by_cases c3:R.2.1=0
    · rw [c3] at e
      have c4:l.length+1≤lim:=by unfold lim;omega
      simp -implicitDefEqProofs [pmC,pmR,c,c2,e,c4]
      refine NextS.mk (r,l++[R.1],R.2.2) ⟨by rw [he,if_pos c3],hO,by simp;omega,by simp;omega⟩ (by simp) ?_
      simp -implicitDefEqProofs [pmC,pmR]
    · unfold growOut
      simp -implicitDefEqProofs [pmC,pmR,c,c2,e,c3]
theorem axp (p:Pr) (l:List Int) (n many:Nat) (hm:many≤n) (hn:n≤l.length) (K:Out→Prop):
    Call prog 218 ⟨[.ptr 0 0,.sl 0 0 n false,.i .i64 many],[pmC 1 p],.row 1 false (l.map (V.i .i64)) :: pmR p⟩ K=K (.tup [.sl 0 0 n false,.i .i64 0],[pmC 1 p],.row 1 false (l.map (V.i .i64)) :: pmR p):=by
  refine Zc (f:=218) rfl rfl (by decide) ?_
  simp -implicitDefEqProofs [pmC,pmR]
  refine WL_st (α:=Unit) (fun x=>⟨sp 27 [(0,.ptr 0 0),(1,.sl 4 0 n false),(2,.i .i64 many)],[pmC 0 p],pmR p++[.row 1 false (l.map (V.i .i64))]⟩)
    (fun x=>0) (fun _=>True) () _ (by simp -implicitDefEqProofs [pmC,pmR]) trivial ?_
  rintro _ _
  have c:¬ (n:Int)<many:=by omega
  have c2:many≤n:=hm
  simp -implicitDefEqProofs [pmC,pmR,c,c2]
set_option maxHeartbeats 2000000 in
theorem apd (p:Pr) (h:p.Ow) (q:Bool) (l:List Int) (hl:l.length≤1000) (K:Out→Prop):
    Call prog 225 ⟨[.ptr 0 0,.view q 1 (l.map (V.i .i64))],[pmC 0 p],pmR p⟩ K=K (.i .i64 (p.relsP l).1,[pmC 0 (p.relsP l).2],pmR (p.relsP l).2):=by
  refine Zc (f:=225) rfl rfl (by decide) ?_
  simp -implicitDefEqProofs [pmC,pmR]
  refine WL_st (α:=Nat × Pr) (fun x=>⟨sp 21 [(0,.ptr 0 0),(8,.view q 1 (l.map (V.i .i64))),(9,.i .i64 l.length),(10,.i .i64 x.1)],[pmC 0 x.2],pmR x.2⟩)
    (fun x=>l.length - x.1) (fun x=>p.relsP l=x.2.relsP (l.drop x.1)∧x.2.Ow∧x.1≤l.length) (0,p) _ (by simp -implicitDefEqProofs [pmC,pmR]) ⟨rfl,h,by simp⟩ ?_
  rintro ⟨i,p⟩ ⟨he,ho,hi⟩
  simp only at he ho hi
  rw [he]
  by_cases c:i<l.length
  · have w:=wrap_i64 (n:=(i:Int)+1) (by omega) (by omega)
    have e:=fun K=>aub p ho l[i] K
    have hO:=ho.relP l[i]
    have hd:l.drop i=l[i] :: l.drop (i+1):=List.drop_eq_getElem_cons c
    rw [hd,Pr.relsP] at he ⊢
    simp only [pmC,pmR,Nat.zero_add,Tag_eq] at e
    generalize p.relP l[i]=R at *
    by_cases c3:R.1=0
    · rw [c3] at e
      simp -implicitDefEqProofs [pmC,pmR,c,e]
      refine NextS.mk (i+1,R.2) ⟨by first | rw [he,if_pos c3] | rw [if_pos c3],hO,c⟩ (by simp only;omega) ?_
      simp -implicitDefEqProofs [pmC,pmR,w]
    · simp -implicitDefEqProofs [pmC,pmR,c,e,c3]
  · obtain rfl:i=l.length:=by omega
    simp -implicitDefEqProofs [pmC,pmR,Pr.relsP]
structure StI (p0:Pr) (l:List Int) (form0:Bs) (x:Nat × Bs × Pr):Prop where
  e:p0.storeP l form0=x.2.2.storeP (l.drop x.1) x.2.1
  o:x.2.2.Ow
  i:x.1≤l.length
  f:x.2.1.length≤5000
  s:x.2.2.su=p0.su
theorem ax9 (next:Int) (form:Bs) {n:Nat} (hn:n=min 60 form.length):(leB next 2++(leB n 2++form.take n))++List.replicate (64 - (leB next 2++(leB n 2++form.take n)).length) 0=chPg next form:=by
  subst hn
  unfold chPg
  simp only [List.length_append,leB_len,List.length_take,List.append_assoc]
  congr 4
  omega
set_option maxHeartbeats 4000000 in
theorem aea (p:Pr) (h:p.Ow) (q:Bool) (l:List Int) (hl:l.length≤1000) (hd:DataL p l) (form:Bs) (hform:form.length≤5000) (K:Out→Prop):
    Call prog 227 ⟨[.ptr 0 0,.view q 1 (l.map (V.i .i64)),.s form],[pmC 0 p],pmR p⟩ K=K (.i .i64 (p.storeP l form).1,[pmC 0 (p.storeP l form).2],pmR (p.storeP l form).2):=by
  refine Zc (f:=227) rfl rfl (by decide) ?_
  simp -implicitDefEqProofs [pmC,pmR]
  refine WL_st (α:=Nat × Bs × Pr) (fun x=>⟨sp 52 [(0,.ptr 0 0),(1,.view q 1 (l.map (V.i .i64))),(2,.s x.2.1),(12,.view q 1 (l.map (V.i .i64))),(13,.i .i64 l.length),(14,.i .i64 x.1)],[pmC 0 x.2.2],pmR x.2.2⟩)
    (fun x=>l.length - x.1) (StI p l (form)) (0,form,p) _ (by simp -implicitDefEqProofs [pmC,pmR,hdC]) ⟨rfl,h,by simp,hform,rfl⟩ ?_
  rintro ⟨i,form,p'⟩ ⟨he,ho,hi,hf,hs⟩
  simp only at he ho hi hf hs
  rw [he]
  by_cases c:i<l.length
  · have w:=wrap_i64 (n:=(i:Int)+1) (by omega) (by omega)
    obtain ⟨n,hn⟩:∃ n,n=min 60 form.length:=⟨_,rfl⟩
    have hmin:min (60:Int) form.length=n:=by omega
    have n1:n≤form.length:=by omega
    have n2:n≤60:=by omega
    have n3:(n:Int)≤form.length:=by omega
    have b2:=fun x K=>aay x 2 (by omega) K
    simp only [Int.cast_ofNat_Int] at b2
    have hdr:l.drop i=l[i] :: l.drop (i+1):=List.drop_eq_getElem_cons c
    have hbd:=hd.bd h.ok (List.getElem_mem c)
    have key:∀ next,(l.drop (i+1)).head?.getD 0=next→(∀ K,Call prog 258 ⟨[.s (leB next 2++(leB n 2++form.take n)),.i .i64 64],[],[]⟩ K=K (.s (chPg next form),[],[])) ∧
        (∀ K,Call prog 259 ⟨[.ptr 0 0,.i .i64 l[i],.s (chPg next form)],[pmC 0 p'],pmR p'⟩ K=K (.i .i64 (p'.setP l[i] (chPg next form)).1,[pmC 0 (p'.setP l[i] (chPg next form)).2],pmR (p'.setP l[i] (chPg next form)).2)) ∧
        p'.storeP (l.drop i) form=if (p'.setP l[i] (chPg next form)).1=0 then (p'.setP l[i] (chPg next form)).2.storeP (l.drop (i+1)) (form.drop n) else p'.setP l[i] (chPg next form):=by
      intro next hnext
      refine ⟨fun K=>?_,fun K=>axb p' ho l[i] (chPg next form) K,?_⟩
      · have:=avm (leB next 2++(leB n 2++form.take n)) 64 (by simp;omega) (by omega) K
        rw [ax9 next form hn] at this
        exact this
      · rw [hdr,Pr.storeP,hnext,← hn]
    have hset:=fun next=>ho.setP (k:=l[i]) (d:=chPg next form) hbd (aq2 _ _)
    have hcode:=fun next=>Pr.setP_code (p:=p') (k:=l[i]) (d:=chPg next form)
    have hsu:=fun next=>Pr.setP_su (p:=p') (k:=l[i]) (d:=chPg next form)
    have hl4:2+min n form.length≤1073741824:=by omega
    have hl5:2+(2+min n form.length)≤1073741824:=by omega
    have hl6:4+n≤1073741824:=by omega
    have hl7:2+n≤1073741824:=by omega
    by_cases c1:i+1<l.length
    · have c1':(i:Int)+1<l.length:=by omega
      have c1t:((i:Int)+1).toNat=i+1:=by omega
      have c10:(0:Int)≤(i:Int)+1:=by omega
      obtain ⟨k1,k2,k3⟩:=key l[i+1] (by rw [List.drop_eq_getElem_cons c1];rfl)
      have hset:=hset l[i+1]
      have hcode:=hcode l[i+1]
      have hsu:=hsu l[i+1]
      rw [k3] at he ⊢
      simp only [pmC,pmR,Nat.zero_add,Tag_eq] at k2
      generalize p'.setP l[i] (chPg l[i+1] form)=R at *
      by_cases c3:R.1=0
      · simp only [c3,decide_true,Tag_eq] at k2
        simp -implicitDefEqProofs [pmC,pmR,hdC,c,w,c1,c1',c1t,c10,hmin,b2,n1,n3,hl4,hl5,hl6,hl7,lim,k1,k2]
        refine NextS.mk (i+1,form.drop n,R.2) ⟨by rw [he,if_pos c3],hset,c,by simp;omega,by rw [hsu];exact hs⟩ (by simp only;omega) ?_
        simp -implicitDefEqProofs [pmC,pmR,hdC]
      · have c4:=hcode.resolve_left c3
        simp only [c3,decide_false,Tag_eq] at k2
        simp -implicitDefEqProofs [pmC,pmR,hdC,c,w,c1,c1',c1t,c10,hmin,b2,n1,n3,hl4,hl5,hl6,hl7,lim,k1,k2,c3,c4]
    · have c1':¬ (i:Int)+1<l.length:=by omega
      obtain ⟨k1,k2,k3⟩:=key 0 (by rw [List.drop_of_length_le (by omega)];rfl)
      have hset:=hset 0
      have hcode:=hcode 0
      have hsu:=hsu 0
      rw [k3] at he ⊢
      simp only [pmC,pmR,Nat.zero_add,Tag_eq] at k2
      generalize p'.setP l[i] (chPg 0 form)=R at *
      by_cases c3:R.1=0
      · simp only [c3,decide_true,Tag_eq] at k2
        simp -implicitDefEqProofs [pmC,pmR,hdC,c,w,c1,c1',hmin,b2,n1,n3,hl4,hl5,hl6,hl7,lim,k1,k2]
        refine NextS.mk (i+1,form.drop n,R.2) ⟨by rw [he,if_pos c3],hset,c,by simp;omega,by rw [hsu];exact hs⟩ (by simp only;omega) ?_
        simp -implicitDefEqProofs [pmC,pmR,hdC]
      · have c4:=hcode.resolve_left c3
        simp only [c3,decide_false,Tag_eq] at k2
        simp -implicitDefEqProofs [pmC,pmR,hdC,c,w,c1,c1',hmin,b2,n1,n3,hl4,hl5,hl6,hl7,lim,k1,k2,c3,c4]
  · obtain rfl:i=l.length:=by omega
    simp -implicitDefEqProofs [pmC,pmR,hdC,Pr.storeP]
set_option maxHeartbeats 4000000 in
theorem af2 (p:Pr) (h:p.Ow) (q:Bool) (l:List Int) (hl:l.length≤1000) (hd:DataL p l) (q2:Bool) (hh:Hd) (sm:hh.Sm) (K:Out→Prop):
    Call prog 219 ⟨[.ptr 0 0,.view q 1 (l.map (V.i .i64)),.agg (hdC q2 hh)],[pmC 0 p],pmR p⟩ K=K (.i .i64 (p.storeP l (encH hh)).1,[pmC 0 (p.storeP l (encH hh)).2],pmR (p.storeP l (encH hh)).2):=by
  refine Zc (f:=219) rfl rfl (by decide) ?_
  have e0:=fun K=>ajq q2 hh sm K
  simp only [hdC,Tag_eq] at e0
  simp -implicitDefEqProofs [pmC,pmR,hdC,e0]
  refine WL_st (α:=Nat × Bs × Pr) (fun x=>⟨sp 54 [(0,.ptr 0 0),(1,.view q 1 (l.map (V.i .i64))),(7,.s x.2.1),(8,.i .i64 x.1)],[pmC 0 x.2.2,hdC q2 hh],pmR x.2.2⟩)
    (fun x=>l.length - x.1) (StI p l ((encH hh))) (0,(encH hh),p) _ (by simp -implicitDefEqProofs [pmC,pmR,hdC]) ⟨rfl,h,by simp,by simp only;have:=al8 sm;omega,rfl⟩ ?_
  rintro ⟨i,form,p'⟩ ⟨he,ho,hi,hf,hs⟩
  simp only at he ho hi hf hs
  rw [he]
  by_cases c:i<l.length
  · have w:=wrap_i64 (n:=(i:Int)+1) (by omega) (by omega)
    obtain ⟨n,hn⟩:∃ n,n=min 60 form.length:=⟨_,rfl⟩
    have hmin:min (60:Int) form.length=n:=by omega
    have n1:n≤form.length:=by omega
    have n2:n≤60:=by omega
    have n3:(n:Int)≤form.length:=by omega
    have b2:=fun x K=>ajz x 2 (by omega) K
    simp only [Int.cast_ofNat_Int] at b2
    have hdr:l.drop i=l[i] :: l.drop (i+1):=List.drop_eq_getElem_cons c
    have hbd:=hd.bd h.ok (List.getElem_mem c)
    have key:∀ next,(l.drop (i+1)).head?.getD 0=next→(∀ K,Call prog 251 ⟨[.s (leB next 2++(leB n 2++form.take n)),.i .i64 64],[],[]⟩ K=K (.s (chPg next form),[],[])) ∧
        (∀ K,Call prog 252 ⟨[.ptr 0 0,.i .i64 l[i],.s (chPg next form)],[pmC 0 p'],pmR p'⟩ K=K (.b (decide ((p'.setP l[i] (chPg next form)).1=0)),[pmC 0 (p'.setP l[i] (chPg next form)).2],pmR (p'.setP l[i] (chPg next form)).2)) ∧
        p'.storeP (l.drop i) form=if (p'.setP l[i] (chPg next form)).1=0 then (p'.setP l[i] (chPg next form)).2.storeP (l.drop (i+1)) (form.drop n) else p'.setP l[i] (chPg next form):=by
      intro next hnext
      refine ⟨fun K=>?_,fun K=>aoy p' ho l[i] (chPg next form) K,?_⟩
      · have:=au6 (leB next 2++(leB n 2++form.take n)) 64 (by simp;omega) (by omega) K
        rw [ax9 next form hn] at this
        exact this
      · rw [hdr,Pr.storeP,hnext,← hn]
    have hset:=fun next=>ho.setP (k:=l[i]) (d:=chPg next form) hbd (aq2 _ _)
    have hcode:=fun next=>Pr.setP_code (p:=p') (k:=l[i]) (d:=chPg next form)
    have hsu:=fun next=>Pr.setP_su (p:=p') (k:=l[i]) (d:=chPg next form)
    have hl4:2+min n form.length≤1073741824:=by omega
    have hl5:2+(2+min n form.length)≤1073741824:=by omega
    have hl6:4+n≤1073741824:=by omega
    have hl7:2+n≤1073741824:=by omega
    by_cases c1:i+1<l.length
    · have c1':(i:Int)+1<l.length:=by omega
      have c1t:((i:Int)+1).toNat=i+1:=by omega
      have c10:(0:Int)≤(i:Int)+1:=by omega
      obtain ⟨k1,k2,k3⟩:=key l[i+1] (by rw [List.drop_eq_getElem_cons c1];rfl)
      have hset:=hset l[i+1]
      have hcode:=hcode l[i+1]
      have hsu:=hsu l[i+1]
      rw [k3] at he ⊢
      simp only [pmC,pmR,Nat.zero_add,Tag_eq] at k2
      generalize p'.setP l[i] (chPg l[i+1] form)=R at *
      by_cases c3:R.1=0
      · simp only [c3,decide_true,Tag_eq] at k2
        simp -implicitDefEqProofs [pmC,pmR,hdC,c,w,c1,c1',c1t,c10,hmin,af1,b2,n1,n3,hl4,hl5,hl6,hl7,lim,k1,k2]
        refine NextS.mk (i+1,form.drop n,R.2) ⟨by rw [he,if_pos c3],hset,c,by simp;omega,by rw [hsu];exact hs⟩ (by simp only;omega) ?_
        simp -implicitDefEqProofs [pmC,pmR,hdC]
      · have c4:=hcode.resolve_left c3
        simp only [c3,decide_false,Tag_eq] at k2
        simp -implicitDefEqProofs [pmC,pmR,hdC,c,w,c1,c1',c1t,c10,hmin,af1,b2,n1,n3,hl4,hl5,hl6,hl7,lim,k1,k2,c3,c4]
    · have c1':¬ (i:Int)+1<l.length:=by omega
      obtain ⟨k1,k2,k3⟩:=key 0 (by rw [List.drop_of_length_le (by omega)];rfl)
      have hset:=hset 0
      have hcode:=hcode 0
      have hsu:=hsu 0
      rw [k3] at he ⊢
      simp only [pmC,pmR,Nat.zero_add,Tag_eq] at k2
      generalize p'.setP l[i] (chPg 0 form)=R at *
      by_cases c3:R.1=0
      · simp only [c3,decide_true,Tag_eq] at k2
        simp -implicitDefEqProofs [pmC,pmR,hdC,c,w,c1,c1',hmin,af1,b2,n1,n3,hl4,hl5,hl6,hl7,lim,k1,k2]
        refine NextS.mk (i+1,form.drop n,R.2) ⟨by rw [he,if_pos c3],hset,c,by simp;omega,by rw [hsu];exact hs⟩ (by simp only;omega) ?_
        simp -implicitDefEqProofs [pmC,pmR,hdC]
      · have c4:=hcode.resolve_left c3
        simp only [c3,decide_false,Tag_eq] at k2
        simp -implicitDefEqProofs [pmC,pmR,hdC,c,w,c1,c1',hmin,af1,b2,n1,n3,hl4,hl5,hl6,hl7,lim,k1,k2,c3,c4]
  · obtain rfl:i=l.length:=by omega
    simp -implicitDefEqProofs [pmC,pmR,hdC,Pr.storeP]
end Go.VS
end
section
namespace Go.VS
set_option maxRecDepth 8000
theorem al4 {p:Pr} (h:p.Ok):∀ (f:Nat) (k:Int) (bl:List Int) (fm:Bs) (x:List Int × Bs),chainF p f k bl fm=some x→x.1.length≤bl.length+f∧x.2.length≤fm.length+60*f
  | 0,_,_,_,_,h=>by cases h
  | f+1,k,bl,fm,x,hc=>by
    have hun:chainF p (f+1) k bl fm=(if p.alloc k=true∧¬k ∈ bl then
        match chainB (p.get k) with
        | none=>none
        | some x=>if x.1=0 then some (bl++[k],fm++x.2) else chainF p f x.1 (bl++[k]) (fm++x.2)
      else none):=rfl
    rw [hun] at hc
    split at hc
    · split at hc
      · cases hc
      · rename_i y hy
        have hl:=ap8 hy
        split at hc
        · cases hc;simp;omega
        · have:=al4 h f _ _ _ x hc
          simp at this;omega
    · cases hc
section
variable {p p':Pr} {k:Int} {hh h0:Hd} {bl:List Int} {fm:Bs} {n:Nat}
theorem wrH_ok (c1:chainF p 257 k [] []=some (bl,fm)) (c2:decHdr fm=some h0) (hn:chLen (encH hh).length=n) (he:p.relsP (bl.drop n)=(0,p')):
    p.wrH k hh=if (p'.growP (n - bl.length) (bl.take n)).1=0 then (p'.growP (n - bl.length) (bl.take n)).2.2.storeP (p'.growP (n - bl.length) (bl.take n)).2.1 (encH hh)
      else ((p'.growP (n - bl.length) (bl.take n)).1,(p'.growP (n - bl.length) (bl.take n)).2.2):=by
  unfold Pr.wrH
  rw [c1]
  simp only [hn,he,c2]
  rw [if_neg (by simp),if_pos trivial]
theorem az6 (c1:chainF p 257 k [] []=some (bl,fm)) (c2:decHdr fm=some h0) (hn:chLen (encH hh).length=n) (he:(p.relsP (bl.drop n)).1≠0):p.wrH k hh=p.relsP (bl.drop n):=by
  unfold Pr.wrH
  rw [c1]
  simp only [hn,c2]
  rw [if_neg (by simp),if_neg he]
theorem axe (c1:chainF p 257 k [] []=none):p.wrH k hh=(10,p):=by unfold Pr.wrH;rw [c1]
theorem wrH_no (c1:chainF p 257 k [] []=some (bl,fm)) (c2:decHdr fm=none):p.wrH k hh=(10,p):=by
  unfold Pr.wrH;rw [c1];simp only;rw [if_pos (by rw [c2];rfl)]
end
set_option maxHeartbeats 4000000 in
theorem agx (p:Pr) (h:p.Ow) (k:Int) (q:Bool) (hh:Hd) (sm:hh.Sm) (K:Out→Prop):
    Call prog 222 ⟨[.ptr 0 0,.i .i64 k,.agg (hdC q hh)],[pmC 0 p],pmR p⟩ K=K (.i .i64 (p.wrH k hh).1,[pmC 0 (p.wrH k hh).2],pmR (p.wrH k hh).2):=by
  refine Zc (f:=222) rfl rfl (by decide) ?_
  have e1:=fun K=>ap9 false p h.ok k K
  unfold chainOut at e1
  simp only [prC,Tag_eq] at e1
  have e2:=fun K=>aob q hh sm K
  simp only [hdC,Tag_eq] at e2
  have hel:=al8 sm
  have e3:=fun K=>aj7 (encH hh) (by omega) K
  cases c1:chainF p 257 k [] [] with
  | none=>
    rw [axe c1]
    simp only [c1,Tag_eq] at e1
    simp -implicitDefEqProofs [pmC,pmR,hdC,e1]
  | some x=>
    obtain ⟨bl,fm⟩:=x
    simp only [c1,Tag_eq] at e1
    have hdt:=(afw 257 k [] [] _ (fun y hy=>by cases hy) c1).1
    have hcl:=(al4 h.ok 257 k [] [] _ c1).1
    simp only [List.length_nil] at hdt hcl
    cases c2:decHdr fm with
    | none=>
      rw [wrH_no c1 c2]
      simp only [c2,Tag_eq] at e1
      simp -implicitDefEqProofs [pmC,pmR,hdC,e1]
    | some h0=>
      simp only [c2,Tag_eq] at e1
      have hn1000:chLen (encH hh).length≤1000:=by unfold chLen;omega
      have hOk:=fun p'=>wrH_ok (p':=p') (hh:=hh) c1 c2 rfl
      have hBad:=az6 (hh:=hh) c1 c2 rfl
      generalize chLen (encH hh).length=n at *
      by_cases c3:n<bl.length
      · have c3':(n:Int)<bl.length:=by omega
        have c3'':(n:Int)≤bl.length:=by omega
        have e4:=fun K=>apd p h false (bl.drop n) (by simp;omega) K
        have r1:=Pr.Ow.relsP (bl.drop n) h
        have r2:=Pr.relsP_su (bl.drop n) (p:=p)
        simp only [pmC,pmR,Nat.zero_add,Tag_eq,List.map_drop] at e4
        have hg0:n - bl.length=0:=by omega
        have hdv:List.take (bl.length - n) (List.drop n (List.map (V.i .i64) bl))=List.drop n (List.map (V.i .i64) bl):=List.take_of_length_le (by simp)
        by_cases c4:(p.relsP (bl.drop n)).1=0
        · obtain ⟨R,hR⟩:∃ R,p.relsP (bl.drop n)=(0,R):=⟨_,by rw [← c4]⟩
          rw [hOk R hR,hg0]
          rw [hR] at e4 r1 r2
          simp only at e4 r1 r2
          simp only [Pr.growP,if_true]
          have e5:=fun K=>a1t R bl n n (Nat.le_refl _) (by omega) K
          have e6:=fun K=>aea R r1 false (bl.take n) (by simp;omega) (fun y hy=>by rw [r2.1];exact hdt y (List.mem_of_mem_take hy)) (encH hh) (by omega) K
          simp only [pmC,pmR,Nat.zero_add,Tag_eq,List.map_take] at e5 e6
          generalize R.storeP (bl.take n) (encH hh)=T at *
          simp -implicitDefEqProofs [pmC,pmR,hdC,e1,e2,e3,c3,c3',c3'',hdv,e4,e5,e6]
        · rw [hBad c4]
          generalize p.relsP (bl.drop n)=R at *
          simp -implicitDefEqProofs [pmC,pmR,hdC,e1,e2,e3,c3,c3',c3'',hdv,e4,c4]
      · have c3':¬ (n:Int)<bl.length:=by omega
        have e5:=fun K=>ayt p h bl (by omega) n hn1000 K
        have hdr:bl.drop n=[]:=List.drop_of_length_le (by omega)
        have htk:bl.take n=bl:=List.take_of_length_le (by omega)
        rw [hOk p (by rw [hdr];rfl),htk]
        have g:=Pr.growP_ok (n - bl.length) bl h hdt
        clear hOk hBad
        generalize p.growP (n - bl.length) bl=G at *
        obtain ⟨gc,gl,gp⟩:=G
        simp only at g e5 ⊢
        by_cases c4:gc=0
        · subst c4
          have hgl:gl.length≤1000:=by
            rcases g.2.2.2 with g4 | g4
            · rw [g4.2.2];omega
            · cases g4.1
          have hgd:DataL gp gl:=by
            rcases g.2.2.2 with g4 | g4
            · intro y hy;rw [g.2.1];exact g4.2.1 y hy
            · cases g4.1
          have e6:=fun K=>aea gp g.1 false gl hgl hgd (encH hh) (by omega) K
          simp only [growOut,pmC,pmR,Nat.zero_add,if_true,Tag_eq] at e5 e6
          simp only [if_true]
          generalize gp.storeP gl (encH hh)=T at *
          simp -implicitDefEqProofs [pmC,pmR,hdC,e1,e2,e3,c3,c3',e5,e6]
        · simp only [growOut,pmC,pmR,Nat.zero_add,c4,if_false,Tag_eq] at e5
          simp only [c4,if_false]
          simp -implicitDefEqProofs [pmC,pmR,hdC,e1,e2,e3,c3,c3',e5,c4]
set_option maxHeartbeats 4000000 in
theorem alf (p:Pr) (h:p.Ow) (k:Int) (q:Bool) (hh:Hd) (sm:hh.Sm) (K:Out→Prop):
    Call prog 198 ⟨[.ptr 0 0,.i .i64 k,.agg (hdC q hh)],[pmC 0 p],pmR p⟩ K=K (.i .i64 (p.wrH k hh).1,[pmC 0 (p.wrH k hh).2],pmR (p.wrH k hh).2):=by
  refine Zc (f:=198) rfl rfl (by decide) ?_
  have e1:=fun K=>ale false p h.ok k K
  unfold chainOut at e1
  simp only [prC,Tag_eq] at e1
  have e2:=fun K=>am4 q hh sm K
  simp only [hdC,Tag_eq] at e2
  have hel:=al8 sm
  cases c1:chainF p 257 k [] [] with
  | none=>
    rw [axe c1]
    simp only [c1,Tag_eq] at e1
    simp -implicitDefEqProofs [pmC,pmR,hdC,e1]
  | some x=>
    obtain ⟨bl,fm⟩:=x
    simp only [c1,Tag_eq] at e1
    have hdt:=(afw 257 k [] [] _ (fun y hy=>by cases hy) c1).1
    have hcl:=(al4 h.ok 257 k [] [] _ c1).1
    simp only [List.length_nil] at hdt hcl
    cases c2:decHdr fm with
    | none=>
      rw [wrH_no c1 c2]
      simp only [c2,Tag_eq] at e1
      simp -implicitDefEqProofs [pmC,pmR,hdC,e1]
    | some h0=>
      simp only [c2,Tag_eq] at e1
      have hn1000:chLen (encH hh).length≤1000:=by unfold chLen;omega
      have hOk:=fun p'=>wrH_ok (p':=p') (hh:=hh) c1 c2 rfl
      have hBad:=az6 (hh:=hh) c1 c2 rfl
      generalize chLen (encH hh).length=n at *
      generalize p.wrH k hh=W at *
      simp -implicitDefEqProofs [pmC,pmR,hdC,e1,e2]
      refine WL_st (α:=Nat × Pr) (fun x=>⟨sp 62 [(0,.ptr 0 0),(5,.ptr 1 0),(7,.sl 5 0 bl.length false),(10,.i .i64 n),(11,.i .i64 x.1)],[pmC 0 x.2,hdC q hh,[.i .i64 h0.kind,.i .i64 h0.refs,.sl 4 0 h0.msgs.length false]],pmR x.2++[.row 3 false (h0.msgs.map msV),.row 1 false (bl.map (V.i .i64))]⟩)
        (fun x=>bl.length - x.1) (fun x=>p.relsP (bl.drop n)=x.2.relsP (bl.drop x.1)∧x.2.Ow∧n≤x.1∧(x.1≤bl.length∨x.1=n)∧x.2.su=p.su) (n,p) _ (by simp -implicitDefEqProofs [pmC,pmR,hdC]) ⟨rfl,h,Nat.le_refl _,.inr rfl,rfl⟩ ?_
      rintro ⟨i,p'⟩ ⟨he,ho,hni,hi,hs⟩
      simp only at he ho hni hi hs
      by_cases c:i<bl.length
      · have w:=wrap_i64 (n:=(i:Int)+1) (by omega) (by omega)
        have e:=fun K=>ao0 p' ho bl[i] K
        have hO:=ho.relP bl[i]
        have hsu:=Pr.relP_su (p:=p') (k:=bl[i])
        have hd:bl.drop i=bl[i] :: bl.drop (i+1):=List.drop_eq_getElem_cons c
        rw [hd,Pr.relsP] at he
        simp only [pmC,pmR,Nat.zero_add,Tag_eq] at e
        generalize p'.relP bl[i]=R at *
        by_cases c3:R.1=0
        · rw [c3] at e
          simp -implicitDefEqProofs [pmC,pmR,hdC,c,e]
          refine NextS.mk (i+1,R.2) ⟨by rw [he,if_pos c3],hO,by simp only;omega,.inl c,by rw [hsu];exact hs⟩ (by simp only;omega) ?_
          simp -implicitDefEqProofs [pmC,pmR,hdC,w]
        · rw [if_neg c3] at he
          obtain rfl:W=R:=by rw [← he];exact hBad (by rw [he];exact c3)
          simp -implicitDefEqProofs [pmC,pmR,hdC,c,e,c3]
      · have hd:bl.drop i=[]:=List.drop_of_length_le (by omega)
        have ci:¬ (i:Int)<bl.length:=by omega
        rw [hd] at he
        simp only [Pr.relsP] at he
        have hW:=hOk p' he
        by_cases c3:n<bl.length
        · have c3':(n:Int)<bl.length:=by omega
          have c3'':(n:Int)≤bl.length:=by omega
          have hg0:n - bl.length=0:=by omega
          have e5:=fun K=>axp p' bl n n (Nat.le_refl _) (by omega) K
          have e6:=fun K=>af2 p' ho false (bl.take n) (by simp;omega) (fun y hy=>by rw [hs];exact hdt y (List.mem_of_mem_take hy)) q hh sm K
          simp only [pmC,pmR,hdC,Nat.zero_add,Tag_eq,List.map_take] at e5 e6
          rw [hg0] at hW
          simp only [if_true,Pr.growP] at hW
          subst hW
          generalize p'.storeP (bl.take n) (encH hh)=T at *
          simp -implicitDefEqProofs [pmC,pmR,hdC,c,ci,c3,c3',c3'',e5,e6]
        · have c3':¬ (n:Int)<bl.length:=by omega
          have hdt':DataL p' bl:=fun y hy=>by rw [hs];exact hdt y hy
          have e5:=fun K=>am3 p' ho bl (by omega) n hn1000 K
          have htk:bl.take n=bl:=List.take_of_length_le (by omega)
          rw [htk] at hW
          have g:=Pr.growP_ok (n - bl.length) bl ho hdt'
          clear hOk hBad
          generalize p'.growP (n - bl.length) bl=G at *
          obtain ⟨gc,gl,gp⟩:=G
          simp only at g e5 hW
          by_cases c4:gc=0
          · subst c4
            have hgl:gl.length≤1000:=by
              rcases g.2.2.2 with g4 | g4
              · rw [g4.2.2];omega
              · cases g4.1
            have hgd:DataL gp gl:=by
              rcases g.2.2.2 with g4 | g4
              · intro y hy;rw [g.2.1];exact g4.2.1 y hy
              · cases g4.1
            have e6:=fun K=>af2 gp g.1 false gl hgl hgd q hh sm K
            simp only [growOut,pmC,pmR,hdC,Nat.zero_add,if_true,Tag_eq] at e5 e6
            simp only [if_true] at hW
            subst hW
            generalize gp.storeP gl (encH hh)=T at *
            simp -implicitDefEqProofs [pmC,pmR,hdC,c,ci,c3,c3',e5,e6]
          · simp only [growOut,pmC,pmR,Nat.zero_add,c4,if_false,Tag_eq] at e5
            simp only [c4,if_false] at hW
            subst hW
            simp -implicitDefEqProofs [pmC,pmR,hdC,c,ci,c3,c3',e5,c4]
end Go.VS
end
section
namespace Go.VS
set_option maxRecDepth 8000
theorem aw1 (l:List Pg):noBt (l.map pgV)=true:=by
  induction l with
  | nil=>rfl
  | cons x l ih=>rw [List.map_cons,noBt_cons,ih];rfl
section
variable (q:Bool) (l:List Pg) (s:List Bs) (K:Out→Prop)
theorem ao8 {z:Nat} {xs:List V} (hl:xs.length≤lim) (hb:noBt xs=true):nClone z ⟨[.view q z xs],[],[]⟩=some (.sl 0 0 xs.length false,[],[.row z false xs]):=by
  simp only [nClone]
  rw [if_pos ⟨trivial,hl,hb⟩]
theorem amj (hl:l.length≤lim):Call prog 254 ⟨[.view q 2 (l.map pgV)],[],[]⟩ K=K (.sl 0 0 l.length false,[],[.row 2 false (l.map pgV)]):=by
  rw [aav (p:=prog) (f:=254) rfl,ao8 q (by simpa using hl) (aw1 l),abd,List.length_map]
theorem aqt (hl:l.length≤lim):Call prog 273 ⟨[.view q 2 (l.map pgV)],[],[]⟩ K=K (.sl 0 0 l.length false,[],[.row 2 false (l.map pgV)]):=by
  rw [aav (p:=prog) (f:=273) rfl,ao8 q (by simpa using hl) (aw1 l),abd,List.length_map]
theorem aqu (hl:s.length≤lim):Call prog 272 ⟨[.view q 1 (s.map .s)],[],[]⟩ K=K (.sl 0 0 s.length false,[],[.row 1 false (s.map .s)]):=by
  rw [aav (p:=prog) (f:=272) rfl,ao8 q (by simpa using hl) (noBt_map_s s),abd,List.length_map]
end
def dkM (d:Dk):List V:=[.sl 0 0 d.blocks.length false,.sl 1 0 d.pend.length false,.i .i64 d.fuse,.b d.off]
def dkMr (d:Dk):List Rw:=[.row 1 false (d.blocks.map .s),.row 2 false (d.pend.map pgV)]
theorem apr (q:Bool) (d:Dk) (h1:d.blocks.length≤lim) (h2:d.pend.length≤lim) (K:Out→Prop):Call prog 253 ⟨[.agg (dkC q d)],[],[]⟩ K=K (.agg (dkM d),[],dkMr d):=by
  refine Zc (f:=253) rfl rfl (by decide) ?_
  have e1:=fun K=>aqu q d.blocks K h1
  have e2:=fun K=>aqt q d.pend K h2
  simp -implicitDefEqProofs [dkC,dkM,dkMr,e1,e2]
theorem aqa (q:Bool) (p:Pr) (h:p.sm) (K:Out→Prop):Call prog 221 ⟨[.agg (prC q p)],[],[]⟩ K=K (.agg (pmC 0 p),[],pmR p):=by
  refine Zc (f:=221) rfl rfl (by decide) ?_
  have e1:=fun K=>apr q p.disk h.sb h.sp K
  have e2:=fun K=>amj q p.logged K h.sl
  have e3:=fun K=>amj q p.dirty K h.sd
  simp only [dkC,dkM,dkMr,Tag_eq] at e1
  simp -implicitDefEqProofs [prC,pmC,pmR,e1,e2,e3]
theorem au7 (q:Bool) (d:Dk) (h1:d.blocks.length≤lim) (h2:d.pend.length≤lim) (K:Out→Prop):Call prog 214 ⟨[.vp (dkC q d)],[],[]⟩ K=K (.agg (dkM d),[],dkMr d):=by
  rw [aav (p:=prog) (f:=214) rfl]
  have:nOwnDisk ⟨[.vp (dkC q d)],[],[]⟩=some (.agg (dkM d),[],dkMr d):=by
    simp only [nOwnDisk,dkC,an0,avo]
    rw [if_pos ⟨h1,h2⟩]
    simp [dkM,dkMr]
  rw [this,abd]
theorem alb (q:Bool) (l:List Pg) (h:l.length≤lim) (K:Out→Prop):Call prog 215 ⟨[.view q 2 (l.map pgV)],[],[]⟩ K=K (.sl 0 0 l.length false,[],[.row 2 false (l.map pgV)]):=by
  refine Zc (f:=215) rfl rfl (by decide) ?_
  simp -implicitDefEqProofs [h]
theorem aj0 (q:Bool) (p:Pr) (h:p.sm) (K:Out→Prop):Call prog 197 ⟨[.vp (prC q p)],[],[]⟩ K=K (.agg (pmC 0 p),[],pmR p):=by
  refine Zc (f:=197) rfl rfl (by decide) ?_
  have e1:=fun K=>au7 q p.disk h.sb h.sp K
  have e2:=fun K=>alb q p.logged h.sl K
  have e3:=fun K=>alb q p.dirty h.sd K
  simp only [dkC,dkM,dkMr,Tag_eq] at e1
  simp -implicitDefEqProofs [-suC_fold,prC,pmC,pmR,e1,e2,e3]
def prZ:List V:=[.nil,.nil,.i .i64 0,.b false,.i .i64 0,.i .i64 0,.i .i64 0,.i .i64 0,.i .i64 0,.i .i64 0,.nil,.nil]
def prO (x:Int × Pr):Out:=if x.1=0 then (.tup [.agg (pmC 0 x.2),.i .i64 0],[],pmR x.2) else (.tup [.agg prZ,.i .i64 x.1],[],[])
theorem Pr.Ow.of {p:Pr} (h:p.ok=true):p.Ow:=by
  refine ⟨Pr.ok_facts h,?_⟩
  simp only [Pr.ok,Bool.and_eq_true,Tag_eq] at h
  exact h.2
theorem amk (q:Bool) (p:Pr) (h:p.sm) (f:Nat) (hf:¬ 1000≤f) (caps:List V) (x:Int × Pr) (hc:capsOk caps=true) (hx:∀ K:Out→Prop,Call prog f ⟨.ptr 0 0 :: caps,[pmC 0 p],pmR p⟩ K=K (.i .i64 x.1,[pmC 0 x.2],pmR x.2)) (K:Out→Prop):
    Call prog 201 ⟨[.agg (prC q p),.fn f caps],[],[]⟩ K=K (prO x):=by
  refine Zc (f:=201) rfl rfl (by decide) ?_
  have e1:=fun K=>aqa q p h K
  simp only [prC,pmC,pmR,Nat.zero_add,Tag_eq] at e1 hx
  have hl:=fun s k xp=>akb s k xp caps ((ae8 caps).symm.trans hc)
  obtain ⟨c,x⟩:=x
  simp only at hx
  unfold prO
  by_cases c1:c=0
  · subst c1
    simp -implicitDefEqProofs [prC,pmC,pmR,hf,e1,hl,hx]
  · simp -implicitDefEqProofs [prC,pmC,pmR,hf,prZ,e1,hl,hx,c1]
end Go.VS
end
