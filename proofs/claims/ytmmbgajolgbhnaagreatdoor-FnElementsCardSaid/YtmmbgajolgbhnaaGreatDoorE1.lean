/-
  Texts of elements; the scanners of both packages.
-/
import Derived.Test.YtmmbgajolgbhnaaGreatDoorD5
set_option linter.all false
section
namespace Go.VS
set_option maxRecDepth 4000
attribute [-simp] isLeaf okRet ridL V.leaves
theorem aan {α:Type} {f:Nat} {s:St} {p:Prog} (g:α→Out) (P:α→Prop) (h:∀ K:Out→Prop,(∀ a,P a→K (g a))→Call p f s K):
    ∃ a,(∀ K:Out→Prop,Call p f s K=K (g a))∧P a:=by
  have h1:=h (fun o=>∃ a,P a∧o=g a) fun a ha=>⟨a,ha,rfl⟩
  obtain ⟨n,o,e,a,ha,rfl⟩:=h1
  exact ⟨a,fun K=>aeh ⟨n,_,e,rfl⟩ K,ha⟩
def pfx (p s:Bs):Bool:=decide (p.length≤s.length∧s.take p.length=p)
theorem agq (s p:Bs) (hs:s.length≤lim) (hp:p.length≤lim) (K:Out→Prop):Call prog 135 ⟨[.s s,.s p],[],[]⟩ K=K (.b (pfx p s),[],[]):=by
  refine Zc (f:=135) rfl rfl (by decide) ?_
  unfold lim at hs hp
  unfold pfx
  by_cases h:p.length≤s.length
  · have h':((p.length:Int)≤s.length)=True:=eq_true (by omega)
    have hb:=bndsI (n:=s.length) (lo:=0) (hi:=p.length) (by omega)
    have e0:bnds s.length none (some (.i .i64 p.length))=some (0,p.length):=by
      simp only [bnds,asN];rw [if_pos (by omega)];simp
    simp -implicitDefEqProofs [h,h',e0]
  · have h':((p.length:Int)≤s.length)=False:=eq_false (by omega)
    simp -implicitDefEqProofs [h,h']
theorem ajy (s p:Bs) (hs:s.length≤lim) (hp:p.length≤lim) (K:Out→Prop):Call prog 579 ⟨[.s s,.s p],[],[]⟩ K=K (.b (pfx p s),[],[]):=by
  refine Zc (f:=579) rfl rfl (by decide) ?_
  have e:=agq s p hs hp
  simp -implicitDefEqProofs [e]
def aftr (p s:Bs):Bs:=if pfx p s=true then s.drop p.length else s
theorem ac5 (p s:Bs):(aftr p s).length≤s.length:=by unfold aftr;split <;> simp
theorem akt (s p:Bs) (hs:s.length≤lim) (hp:p.length≤lim) (K:Out→Prop):Call prog 84 ⟨[.s s,.s p],[],[]⟩ K=K (.tup [.s (aftr p s),.b (pfx p s)],[],[]):=by
  have e1:=agq s p hs hp
  have e2:∀ K,Call prog 115 ⟨[.s s,.s p],[],[]⟩ K=K (.tup [.s (aftr p s),.b (pfx p s)],[],[]):=by
    intro K
    refine Zc (f:=115) rfl rfl (by decide) ?_
    unfold aftr
    unfold lim at hs hp
    by_cases h:pfx p s=true
    · have hl:p.length≤s.length:=by unfold pfx at h;exact (of_decide_eq_true h).1
      have e0:bnds s.length (some (.i .i64 p.length)) none=some (p.length,s.length):=by
        simp only [bnds,asN];rw [if_pos (by omega)];simp
      have e3:List.take s.length s=s:=List.take_length
      simp -implicitDefEqProofs [e1,h,e0,e3]
    · have h':pfx p s=false:=by simpa using h
      simp -implicitDefEqProofs [e1,h']
  refine Zc (f:=84) rfl rfl (by decide) ?_
  simp -implicitDefEqProofs [e2]
theorem aiv (r p:Bs) (e:Bool) (hs:r.length≤lim) (hp:p.length≤lim) (K:Out→Prop):
    Call prog 578 ⟨[.ptr 0 0,.s p],[[.s r,.b e]],[]⟩ K=K (.b (pfx p r),[[.s (aftr p r),.b e]],[]):=by
  refine Zc (f:=578) rfl rfl (by decide) ?_
  have e1:=akt r p hs hp
  simp -implicitDefEqProofs [e1]
theorem aa0 (r p:Bs) (e:Bool) (hs:r.length≤lim) (hp:p.length≤lim) (K:Out→Prop):
    Call prog 557 ⟨[.ptr 0 0,.s p],[[.s r,.b e]],[]⟩ K=K (.tup [],[[.s (aftr p r),.b (e || !pfx p r)]],[]):=by
  refine Zc (f:=557) rfl rfl (by decide) ?_
  have e1:=aiv r p e hs hp
  by_cases h:pfx p r=true
  · rw [h] at e1 ⊢
    simp -implicitDefEqProofs [e1]
  · have h':pfx p r=false:=by simpa using h
    rw [h'] at e1 ⊢
    simp -implicitDefEqProofs [e1]
theorem ab6 (p s:Bs):pfx p (p++s)=true:=by unfold pfx;simp
theorem ac4 (p s:Bs):aftr p (p++s)=s:=by unfold aftr;rw [if_pos (ab6 p s)];simp
theorem akq (f:Nat) (p:UInt8→Bool) (hf:∀ (c:UInt8) (K:Out→Prop),Call prog f ⟨[.i .u8 c.toNat],[],[]⟩ K=K (.b (p c),[],[])) (r:Bs) (e:Bool) (hs:r.length≤lim) (K:Out→Prop):
    Call prog 575 ⟨[.ptr 0 0,.fn f []],[[.s r,.b e]],[]⟩ K=K (.s (r.takeWhile p),[[.s (r.dropWhile p),.b e]],[]):=by
  refine Zc (f:=575) rfl rfl (by decide) ?_
  unfold lim at hs
  simp -implicitDefEqProofs
  refine WL_for (fun i=>⟨sp 42 [(0,.ptr 0 0),(1,.fn f []),(5,.i .i64 i)],[[.s r,.b e]],[]⟩) r.length (fun i=>r.takeWhile p=r.take i++(r.drop i).takeWhile p∧r.dropWhile p=(r.drop i).dropWhile p) _ (by simp -implicitDefEqProofs) (by simp) ?_
  rintro i hi ⟨h1,h2⟩
  have e0:bnds r.length none (some (.i .i64 i))=some (0,i):=by
    simp only [bnds,asN];rw [if_pos (by omega)];simp
  have e3:bnds r.length (some (.i .i64 i)) none=some (i,r.length):=by
    simp only [bnds,asN];rw [if_pos (by omega)];simp
  by_cases hlt:i<r.length
  · have hw:=wrap_i64 (n:=(i:Int)+1) (by omega) (by omega)
    have hd:r.drop i=r[i] :: r.drop (i+1):=List.drop_eq_getElem_cons hlt
    have ef:=hf r[i]
    by_cases hp:p r[i]=true
    · rw [hd,List.takeWhile_cons,if_pos hp] at h1
      rw [hd,List.dropWhile_cons,if_pos hp] at h2
      rw [hp] at ef
      have h3:r.take i++r[i] :: (r.drop (i+1)).takeWhile p=r.take (i+1)++(r.drop (i+1)).takeWhile p:=by
        rw [← List.take_append_getElem hlt,List.append_assoc];rfl
      rw [h3] at h1
      simp -implicitDefEqProofs [hlt,ef,hw,Next]
      exact ⟨h1,h2⟩
    · have hp':p r[i]=false:=by simpa using hp
      rw [hd,List.takeWhile_cons,if_neg hp,List.append_nil] at h1
      rw [hd,List.dropWhile_cons,if_neg hp,← hd] at h2
      rw [hp'] at ef
      have e4:List.take r.length r=r:=List.take_length
      rw [h1,h2]
      simp -implicitDefEqProofs [hlt,ef,e0,e3,e4]
  · obtain rfl:i=r.length:=by omega
    have e4:List.take r.length r=r:=List.take_length
    have e5:List.drop r.length r=[]:=List.drop_length
    rw [e5] at h1 h2
    simp only [List.takeWhile_nil,List.append_nil,List.dropWhile_nil,e4] at h1 h2
    rw [h1,h2]
    simp -implicitDefEqProofs [e0,e3,e4,e5]
def dgC (c:UInt8):Bool:=isDig c || decide ((c.toNat:Int)=45)
theorem aib (c:UInt8) (K:Out→Prop):Call prog 586 ⟨[.i .u8 c.toNat],[],[]⟩ K=K (.b (isDig c),[],[]):=by
  refine Zc (f:=586) rfl rfl (by decide) ?_
  unfold isDig
  generalize (c.toNat:Int)=x
  by_cases h1:48≤x <;> by_cases h2:x≤57 <;> simp -implicitDefEqProofs [h1,h2]
theorem ane (c:UInt8) (K:Out→Prop):Call prog 576 ⟨[.i .u8 c.toNat],[],[]⟩ K=K (.b (dgC c),[],[]):=by
  refine Zc (f:=576) rfl rfl (by decide) ?_
  have e:=aib c
  unfold dgC
  by_cases h:isDig c=true
  · rw [h] at e ⊢
    simp -implicitDefEqProofs [e]
  · have h':isDig c=false:=by simpa using h
    rw [h'] at e ⊢
    by_cases h1:(c.toNat:Int)=45
    · have f:=eq_true h1
      simp -implicitDefEqProofs [e,f]
    · have f:=eq_false h1
      simp -implicitDefEqProofs [e,f]
theorem aqy (c:UInt8) (K:Out→Prop):Call prog 581 ⟨[.i .u8 c.toNat],[],[]⟩ K=K (.b (isRest c),[],[]):=by
  refine Zc (f:=581) rfl rfl (by decide) ?_
  have e:=aib c
  unfold isRest isLet
  by_cases h:isDig c=true
  · rw [h] at e ⊢
    generalize (c.toNat:Int)=x at *
    by_cases h1:65≤x <;> by_cases h2:x≤90 <;> by_cases h3:97≤x <;> by_cases h4:x≤122 <;> simp -implicitDefEqProofs [e,h1,h2,h3,h4]
  · have h':isDig c=false:=by simpa using h
    rw [h'] at e ⊢
    generalize (c.toNat:Int)=x at *
    by_cases h1:65≤x <;> by_cases h2:x≤90 <;> by_cases h3:97≤x <;> by_cases h4:x≤122 <;> by_cases h5:x=95 <;> (first | (have f:=eq_true h5;simp -implicitDefEqProofs [e,h1,h2,h3,h4,f];done) | (have f:=eq_false h5;simp -implicitDefEqProofs [e,h1,h2,h3,h4,f];done))
theorem asy (r:Bs) (e:Bool) (hs:r.length≤lim) (K:Out→Prop):Call prog 555 ⟨[.ptr 0 0],[[.s r,.b e]],[]⟩ K=K (.s (r.takeWhile isRest),[[.s (r.dropWhile isRest),.b e]],[]):=by
  refine Zc (f:=555) rfl rfl (by decide) ?_
  have e1:=akq 581 isRest aqy r e hs
  simp -implicitDefEqProofs [e1]
theorem anm (l:Bs) (hl:l.length≤lim) (K:Out→Prop):Call prog 577 ⟨[.s l],[],[]⟩ K=K (.tup [.i .i64 (rdDec l).1,.b (rdDec l).2],[],[]):=by
  rw [abw (p:=prog) (f:=577) rfl]
  have:nReadDec ⟨[.s l],[],[]⟩=some (.tup [.i .i64 (rdDec l).1,.b (rdDec l).2],[],[]):=by
    simp only [nReadDec,if_pos hl]
  simp [this]
theorem ajl (r:Bs) (e:Bool) (hs:r.length≤lim) (K:Out→Prop):Call prog 551 ⟨[.ptr 0 0],[[.s r,.b e]],[]⟩ K=
    K (.i .i64 (rdDec (r.takeWhile dgC)).1,[[.s (r.dropWhile dgC),.b (e || !(rdDec (r.takeWhile dgC)).2)]],[]):=by
  refine Zc (f:=551) rfl rfl (by decide) ?_
  have e1:=akq 576 dgC ane r e hs
  have hl:(r.takeWhile dgC).length≤lim:=Nat.le_trans (List.takeWhile_sublist _).length_le hs
  have e2:=anm _ hl
  generalize rdDec (r.takeWhile dgC)=q at *
  obtain ⟨n,b⟩:=q
  cases b <;> simp -implicitDefEqProofs [e1,e2]
theorem ap5 {t:Ty} (h:GdN t) (n:Int) (r:Bs) (e:Bool) (K:Out→Prop):Call prog 552 ⟨[.ptr 0 0,t.w,.i .i64 n],[[.s r,.b e]],[]⟩ K=
    K (.s (if e=false∧t.holds n=true then t.it.put n else []),[[.s r,.b (e || !t.holds n)]],[]):=by
  refine Zc (f:=552) rfl rfl (by decide) ?_
  have e1:=afd h n
  have e2:=ah0 h n
  generalize t.holds n=o at *
  cases e <;> cases o <;> simp -implicitDefEqProofs [e1,e2]
theorem akx (s:Bs) (n:Nat) (hs:s.length≤lim) (hn:n≤65536) (K:Out→Prop):Call prog 554 ⟨[.s s,.i .i64 n],[],[]⟩ K=
    K (.tup [.s (if s.length≤n then s++List.replicate (n - s.length) 0 else []),.b (decide (s.length≤n))],[],[]):=by
  refine Zc (f:=554) rfl rfl (by decide) ?_
  unfold lim at hs
  have c2:((65536:Int)<n)=False:=eq_false (by omega)
  by_cases h:s.length≤n
  · have c1:((n:Int)<s.length)=False:=eq_false (by omega)
    have hw:=wrap_i64 (n:=((n - s.length:Nat):Int)) (by omega) (by omega)
    have e3:((n:Int) - s.length)=((n - s.length:Nat):Int):=by omega
    have e1:=akr (n - s.length) (by unfold lim;omega)
    have c4:n≤lim:=by unfold lim;omega
    rw [if_pos h]
    simp -implicitDefEqProofs [c1,c2,hw,e3,e1,h,c4]
  · have c1:((n:Int)<s.length)=True:=eq_true (by omega)
    rw [if_neg h]
    simp -implicitDefEqProofs [c1,h]
end Go.VS
end
section
namespace Go.VS
set_option maxRecDepth 4000
attribute [-simp] isLeaf okRet ridL V.leaves
def hxd:Bs:=[48,49,50,51,52,53,54,55,56,57,97,98,99,100,101,102]
def hexB (c:UInt8):Bs:=[hxd.getD (c.toNat / 16) 0,hxd.getD (c.toNat % 16) 0]
def hexL (l:Bs):Bs:=l.flatMap hexB
theorem apr (l:Bs):(hexL l).length=2*l.length:=by
  unfold hexL
  induction l with
  | nil=>rfl
  | cons c l ih=>rw [List.flatMap_cons,List.length_append,ih];simp [hexB];omega
theorem arj {l:Bs} {i:Nat} (h:i<l.length):hexL (l.take (i+1))=hexL (l.take i)++hexB l[i]:=by
  rw [← List.take_append_getElem h]
  unfold hexL
  rw [List.flatMap_append];simp
theorem hx_get (n:Nat) (h:n<16):([48,49,50,51,52,53,54,55,56,57,97,98,99,100,101,102]:Bs)[n]?.getD 0=hxd.getD n 0:=by
  unfold hxd;rw [List.getD_eq_getElem?_getD]
theorem amb (l:Bs) (hl:l.length≤65536) (K:Out→Prop):Call prog 561 ⟨[.s l],[],[]⟩ K=K (.s (hexL l),[],[]):=by
  refine Zc (f:=561) rfl rfl (by decide) ?_
  simp -implicitDefEqProofs
  refine WL_for (fun i=>⟨sp 26 [(0,.s l),(3,.sl 0 0 (2*i) false),(6,.i .i64 l.length),(7,.i .i64 i)],[],[.row 1 false (bytesV (hexL (l.take i)))]⟩) l.length (fun _=>True) _ (by simp -implicitDefEqProofs [hexL,bytesV]) trivial ?_
  intro i hi _
  have hml:min i l.length=i:=by omega
  have hL:(hexL (l.take i)).length=2*i:=by rw [apr,List.length_take,hml]
  by_cases hlt:i<l.length
  · have hw:=wrap_i64 (n:=(i:Int)+1) (by omega) (by omega)
    obtain ⟨c,hc⟩:∃ c,l[i]=c:=⟨_,rfl⟩
    have hc2:=UInt8.toNat_lt c
    obtain ⟨q1,hq1⟩:∃ q,q=c.toNat / 16:=⟨_,rfl⟩
    obtain ⟨q2,hq2⟩:∃ q,q=c.toNat % 16:=⟨_,rfl⟩
    have t1:((c.toNat:Int)).tdiv 16=(q1:Int):=by rw [show (16:Int)=((16:Nat):Int) from rfl,← Int.ofNat_tdiv,hq1]
    have t2:((c.toNat:Int)).tmod 16=(q2:Int):=by rw [show (16:Int)=((16:Nat):Int) from rfl,← Int.ofNat_tmod,hq2]
    have w1:IntKind.u8.wrap (q1:Int)=(q1:Int):=wrap_u8 (by omega) (by omega)
    have l1:((q1:Int)<16)=True:=eq_true (by omega)
    have l2:((q2:Int)<16)=True:=eq_true (by omega)
    have hh:hexB c=[hxd.getD q1 0,hxd.getD q2 0]:=by rw [hq1,hq2];rfl
    have g1:=hx_get q1 (by omega)
    have g2:=hx_get q2 (by omega)
    have nb:=noBt_bytesV (hexL (l.take i))
    have n1:2*i+2≤lim:=by unfold lim;omega
    have tk:List.take (2*i) (bytesV (hexL (l.take i)))=bytesV (hexL (l.take i)):=List.take_of_length_le (by simp [bytesV,hL])
    have e:=arj hlt
    rw [hc] at e
    rw [hh] at e
    simp -implicitDefEqProofs [hlt,hc,t1,t2,w1,l1,l2,g1,g2,nb,n1,tk,hw,Next,e,ahy,hL]
    exact ⟨by rw [show 2*i+2=2*(i+1) by omega],rfl⟩
    done
  · obtain rfl:i=l.length:=by omega
    have e4:List.take l.length l=l:=List.take_length
    have tk:List.take (2*l.length) (bytesV (hexL l))=bytesV (hexL l):=List.take_of_length_le (by simp [bytesV,apr])
    simp -implicitDefEqProofs [e4,tk,cvsV]
def hexV (c:UInt8):Option Nat:=if 48≤c.toNat∧c.toNat≤57 then some (c.toNat - 48) else if 97≤c.toNat∧c.toNat≤102 then some (c.toNat - 87) else none
def hexO (c:UInt8):Int:=match hexV c with | some n=>n | none=>-1
theorem au9:∀ c:Fin 256,idxB (UInt8.ofNat c.val) hxd=hexO (UInt8.ofNat c.val):=by decide +kernel
theorem afw (c:UInt8) (K:Out→Prop):Call prog 587 ⟨[.s [48,49,50,51,52,53,54,55,56,57,97,98,99,100,101,102],.i .u8 c.toNat],[],[]⟩ K=K (.i .i64 (hexO c),[],[]):=by
  rw [abw (p:=prog) (f:=587) rfl]
  have hc:=UInt8.toNat_lt c
  have h:=au9 ⟨c.toNat,hc⟩
  rw [UInt8.ofNat_toNat] at h
  have:nIndexByte ⟨[.s [48,49,50,51,52,53,54,55,56,57,97,98,99,100,101,102],.i .u8 c.toNat],[],[]⟩=some (.i .i64 (hexO c),[],[]):=by
    simp only [nIndexByte]
    rw [if_pos ⟨by unfold lim;decide,by omega,by omega⟩,Int.toNat_natCast,UInt8.ofNat_toNat,← h]
    rfl
  rw [this,ac3]
theorem ahh (c:UInt8) (K:Out→Prop):Call prog 574 ⟨[.i .u8 c.toNat],[],[]⟩ K=K (.tup [.i .u8 ((hexV c).getD 0:Nat),.b (hexV c).isSome],[],[]):=by
  refine Zc (f:=574) rfl rfl (by decide) ?_
  have hc:=UInt8.toNat_lt c
  unfold hexV
  generalize hx:c.toNat=n at *
  by_cases h1:48≤n
  · have f1:((48:Int)≤n)=True:=eq_true (by omega)
    by_cases h2:n≤57
    · have f2:((n:Int)≤57)=True:=eq_true (by omega)
      have w:IntKind.u8.wrap ((n:Int) - 48)=((n - 48:Nat):Int):=by rw [wrap_u8 (by omega) (by omega)];omega
      rw [if_pos ⟨h1,h2⟩]
      simp -implicitDefEqProofs [f1,f2,w]
    · have f2:((n:Int)≤57)=False:=eq_false (by omega)
      rw [if_neg fun h=>h2 h.2]
      by_cases h3:97≤n
      · have f3:((97:Int)≤n)=True:=eq_true (by omega)
        by_cases h4:n≤102
        · have f4:((n:Int)≤102)=True:=eq_true (by omega)
          have w:IntKind.u8.wrap ((n:Int) - 97)=(n:Int) - 97:=wrap_u8 (by omega) (by omega)
          have w2:IntKind.u8.wrap ((n:Int) - 97+10)=((n - 87:Nat):Int):=by rw [wrap_u8 (by omega) (by omega)];omega
          rw [if_pos ⟨h3,h4⟩]
          simp -implicitDefEqProofs [f1,f2,f3,f4,w,w2]
        · have f4:((n:Int)≤102)=False:=eq_false (by omega)
          rw [if_neg fun h=>h4 h.2]
          simp -implicitDefEqProofs [f1,f2,f3,f4]
      · have f3:((97:Int)≤n)=False:=eq_false (by omega)
        rw [if_neg fun h=>h3 h.1]
        simp -implicitDefEqProofs [f1,f2,f3]
  · have f1:((48:Int)≤n)=False:=eq_false (by omega)
    have f3:((97:Int)≤n)=False:=eq_false (by omega)
    rw [if_neg fun h=>h1 h.1,if_neg fun h=>h1 (by omega)]
    simp -implicitDefEqProofs [f1,f3]
def rdHex (a b:UInt8):Option Bs:=match hexV a,hexV b with | some x,some y=>some [UInt8.ofNat (16*x+y)] | _,_=>none
theorem ali {c:UInt8} {n:Nat} (h:hexV c=some n):n<16:=by
  unfold hexV at h
  split at h
  · cases h;omega
  · split at h
    · cases h;omega
    · cases h
theorem aqt:∀ c:Fin 256,rdHex (hxd.getD (c.val / 16) 0) (hxd.getD (c.val % 16) 0)=some [UInt8.ofNat c.val]:=by decide +kernel
theorem aky (a b:UInt8) (K:Out→Prop):Call prog 549 ⟨[.s [a,b]],[],[]⟩ K=K (.tup [.s ((rdHex a b).getD []),.b (rdHex a b).isSome],[],[]):=by
  refine Zc (f:=549) rfl rfl (by decide) ?_
  have e1:=ahh a
  have e2:=ahh b
  simp -implicitDefEqProofs
  refine WL_st (α:=Bool) (fun x=>⟨sp 52 [(0,.s [a,b]),(4,.sl 0 0 (if x then 1 else 0) false),(5,.i .i64 (if x then 2 else 0))],[],[.row 1 false (if x then bytesV ((rdHex a b).getD []) else [])]⟩) (fun x=>if x then 0 else 1) (fun x=>x=true→(rdHex a b).isSome=true∧((rdHex a b).getD []).length=1) false _ (by simp -implicitDefEqProofs) (fun h=>by cases h) ?_
  intro x hx
  cases x
  · unfold rdHex
    cases h1:hexV a with
    | none=>rw [h1] at e1;simp -implicitDefEqProofs [e1,e2]
    | some p=>
      rw [h1] at e1
      cases h2:hexV b with
      | none=>rw [h2] at e2;simp -implicitDefEqProofs [e1,e2]
      | some q=>
        rw [h2] at e2
        have hp:=ali h1
        have hq:=ali h2
        have w1:IntKind.u8.wrap ((p:Int)*16)=(p:Int)*16:=wrap_u8 (by omega) (by omega)
        have w2:IntKind.u8.wrap ((p:Int)*16+q)=(p:Int)*16+q:=wrap_u8 (by omega) (by omega)
        have w3:(p:Int)*16+q=((UInt8.ofNat (16*p+q)).toNat:Int):=by
          rw [UInt8.toNat_ofNat_of_lt' (by show _<256;omega)];omega
        have c1:1≤lim:=by unfold lim;decide
        simp -implicitDefEqProofs [e1,e2,w1,w2,c1]
        refine NextS.mk true ?_ ?_ ?_ <;> simp [rdHex,h1,h2,bytesV,w3]
  · obtain ⟨h1,h2⟩:=hx rfl
    have tk:List.take 1 (bytesV ((rdHex a b).getD []))=bytesV ((rdHex a b).getD []):=List.take_of_length_le (by simp [bytesV,h2])
    simp -implicitDefEqProofs [h1,cvsV,tk]
end Go.VS
end
section
namespace Go.VS
set_option maxRecDepth 4000
attribute [-simp] isLeaf okRet ridL V.leaves
theorem ak0 (a:V) (c:UInt8) (ha:isSelf a=true) (K:Out→Prop):
    Call prog 560 ⟨[.ptr 0 0,.i .u8 c.toNat],[[a,.nil]],[]⟩ K=K (.no,[[.ptr 0 0,.sl 0 0 1 false]],[.row 1 false (bytesT [c])]):=by
  refine Zc (f:=560) rfl rfl (by decide) ?_
  have e:=fun K=>ak6 a ha K
  have e2:=fun t m r d id2 (h:r.getD id2 .gone=.row 1 false [.i .u8 (c.toNat:Int)])=>amh t m r d id2 (t2:=false) h
  rcases aed ha with rfl | rfl <;> simp -implicitDefEqProofs [e,e2,bytesT]
theorem afx (a:V) (fm:Bs) (c:UInt8) (ha:isSelf a=true) (hl:fm.length+1≤lim) (hn:fm≠[]) (K:Out→Prop):
    Call prog 560 ⟨[.ptr 0 0,.i .u8 c.toNat],[[a,.sl 0 0 fm.length false]],[.row 1 false (bytesT fm)]⟩ K=
    K (.no,[[.ptr 0 0,.sl 0 0 (fm.length+1) false]],[.row 1 false (bytesT (fm++[c]))]):=by
  refine Zc (f:=560) rfl rfl (by decide) ?_
  have htg:false=decide (fm=[]):=by simp [hn]
  have e:=fun K=>afy a fm.length false (bytesT fm) ha K
  have e2:=fun t m r d id id2 (h:r.getD id .gone=.row 1 false (bytesT fm)) (h2:r.getD id2 .gone=.row 1 false [.i .u8 (c.toNat:Int)])=>as9 t m r d id id2 (t2:=false) h h2 htg hl
  simp only [if_neg hn] at e2
  have e3:bytesT fm++[V.bt (c.toNat:Int)]=bytesT (fm++[c]):=by rw [aj5];rfl
  rcases aed ha with rfl | rfl <;> simp -implicitDefEqProofs [e,e2,e3]
def escB (c:UInt8):Bool:=decide ((c.toNat:Int)<32) || decide ((126:Int)<c.toNat) || decide ((c.toNat:Int)=34) || decide ((c.toNat:Int)=92)
def qC (c:UInt8):Bs:=if escB c=true then 92 :: hexB c else [c]
def qB (b:Bs):Bs:=34 :: b.flatMap qC++[34]
theorem qC_len (c:UInt8):(qC c).length≤3:=by unfold qC;split <;> simp [hexB]
theorem ajc:∀ b:Bs,(b.flatMap qC).length≤3*b.length
  | []=>by simp
  | c :: b=>by rw [List.flatMap_cons,List.length_append,List.length_cons];have:=qC_len c;have:=ajc b;omega
theorem au4 {b:Bs} {i:Nat} (h:i<b.length):(b.take (i+1)).flatMap qC=(b.take i).flatMap qC++qC b[i]:=by
  rw [← List.take_append_getElem h,List.flatMap_append];simp
theorem aow (b:Bs) (hb:b.length≤65536) (K:Out→Prop):Call prog 525 ⟨[.s b],[],[]⟩ K=K (.s (qB b),[],[]):=by
  refine Zc (f:=525) rfl rfl (by decide) ?_
  have e0:=ak0 .bz 34 rfl
  have h34:((34:UInt8).toNat:Int)=34:=rfl
  rw [h34] at e0
  simp -implicitDefEqProofs [e0]
  refine WL_for (fun i=>⟨sp 42 [(0,.s b),(3,.ptr 0 0),(8,.i .i64 b.length),(9,.i .i64 i)],[[.ptr 0 0,.sl 0 0 (34 :: (b.take i).flatMap qC).length false]],[.row 1 false (bytesT (34 :: (b.take i).flatMap qC))]⟩) b.length (fun _=>True) _ (by simp -implicitDefEqProofs) trivial ?_
  intro i hi _
  have hlen:=ajc (b.take i)
  rw [List.length_take,Nat.min_eq_left hi] at hlen
  have n0:(34 :: (b.take i).flatMap qC)≠[]:=by simp
  by_cases hlt:i<b.length
  · have hw:=wrap_i64 (n:=(i:Int)+1) (by omega) (by omega)
    obtain ⟨c,hc⟩:∃ c,b[i]=c:=⟨_,rfl⟩
    have e:=au4 hlt
    rw [hc] at e
    have hsl:bnds b.length (some (.i .i64 i)) (some (.i .i64 ((i:Int)+1)))=some (i,i+1):=by
      have:=bndsI (n:=b.length) (lo:=i) (hi:=(i:Int)+1) (by omega)
      rw [this];simp
    have hs1:(b.take (i+1)).drop i=[c]:=by
      rw [← List.take_append_getElem hlt,List.drop_append_of_le_length (by simp;omega),hc]
      simp [List.drop_eq_nil_of_le]
    have e1:=amb [c] (by simp)
    have e1':hexL [c]=hexB c:=by simp [hexL]
    rw [e1'] at e1
    have hx:(hexB c).length=2:=rfl
    have e2:=aih (.ptr 0 0) (34 :: (b.take i).flatMap qC) (92 :: hexB c) rfl (by unfold lim;simp only [List.length_cons,hx];omega)
    have d1:decide ((34 :: (b.take i).flatMap qC)=[])=false:=by simp
    have d2:decide ((34 :: (b.take i).flatMap qC)++(92 :: hexB c)=[])=false:=by simp
    rw [d1,d2] at e2
    have e3:=afx (.ptr 0 0) (34 :: (b.take i).flatMap qC) c rfl (by unfold lim;simp only [List.length_cons];omega) n0
    by_cases hq:escB c=true
    · have q:qC c=92 :: hexB c:=by unfold qC;rw [if_pos hq]
      rw [q] at e
      have e4:(34 :: (b.take i).flatMap qC)++(92 :: hexB c)=34 :: (b.take (i+1)).flatMap qC:=by rw [e];rfl
      rw [e4] at e2
      have c2:1+2≤lim:=by unfold lim;omega
      unfold escB at hq
      generalize hm:(c.toNat:Int)=x at *
      generalize (34 :: (b.take i).flatMap qC)=L at *
      generalize (34 :: (b.take (i+1)).flatMap qC)=L' at *
      have:x<32∨(¬ x<32∧126<x)∨(¬ x<32∧¬ 126<x∧x=34)∨(¬ x<32∧¬ 126<x∧¬ x=34∧x=92):=by simp at hq;omega
      rcases this with h | ⟨h1,h⟩ | ⟨h1,h2,h⟩ | ⟨h1,h2,h3,h⟩
      · have f:=eq_true h
        simp -implicitDefEqProofs [hlt,hc,hm,f,hw,hsl,hs1,e1,e2,Next,hx,lim]
      · have f:=eq_true h
        have f1:=eq_false h1
        simp -implicitDefEqProofs [hlt,hc,hm,f,f1,hw,hsl,hs1,e1,e2,Next,hx,lim]
      · have f:=eq_true h
        have f1:=eq_false h1
        have f2:=eq_false h2
        simp -implicitDefEqProofs [hlt,hc,hm,f,f1,f2,hw,hsl,hs1,e1,e2,Next,hx,lim]
      · have f:=eq_true h
        have f1:=eq_false h1
        have f2:=eq_false h2
        have f3:=eq_false h3
        simp -implicitDefEqProofs [hlt,hc,hm,f,f1,f2,f3,hw,hsl,hs1,e1,e2,Next,hx,lim]
    · have q:qC c=[c]:=by unfold qC;rw [if_neg hq]
      rw [q] at e
      have e4:(34 :: (b.take i).flatMap qC)++[c]=34 :: (b.take (i+1)).flatMap qC:=by rw [e];rfl
      rw [e4] at e3
      have e5:(34 :: (b.take i).flatMap qC).length+1=(34 :: (b.take (i+1)).flatMap qC).length:=by rw [← e4];simp
      rw [e5] at e3
      unfold escB at hq
      generalize hm:(c.toNat:Int)=x at *
      generalize (34 :: (b.take i).flatMap qC)=L at *
      generalize (34 :: (b.take (i+1)).flatMap qC)=L' at *
      have:¬ x<32∧¬ 126<x∧¬ x=34∧¬ x=92:=by simp at hq;omega
      have f1:=eq_false this.1
      have f2:=eq_false this.2.1
      have f3:=eq_false this.2.2.1
      have f4:=eq_false this.2.2.2
      simp -implicitDefEqProofs [hlt,hc,hm,f1,f2,f3,f4,hw,e3,Next]
  · obtain rfl:i=b.length:=by omega
    have e4:List.take b.length b=b:=List.take_length
    rw [e4] at n0 hlen ⊢
    have e3:=afx (.ptr 0 0) (34 :: b.flatMap qC) 34 rfl (by unfold lim;simp only [List.length_cons];omega) n0
    rw [h34] at e3
    have e5:=al9 (.ptr 0 0) ((34 :: b.flatMap qC)++[34]) rfl
    have d2:decide ((34 :: b.flatMap qC)++[34]=[])=false:=by simp
    rw [d2] at e5
    have e6:(34 :: b.flatMap qC).length+1=((34 :: b.flatMap qC)++[34]).length:=by simp
    rw [e6] at e3
    have e7:(34 :: b.flatMap qC)++[34]=qB b:=rfl
    rw [e7] at e3 e5
    generalize (34 :: b.flatMap qC)=L at *
    simp -implicitDefEqProofs [e3,e5]
end Go.VS
end
section
namespace Go.VS
set_option maxRecDepth 4000
attribute [-simp] isLeaf okRet ridL V.leaves
open Go.Lib
def I64 (n:Int):Prop:=-9223372036854775808≤n∧n≤9223372036854775807
theorem ah5 (n:Int) (h:I64 n) (K:Out→Prop):Call prog 524 ⟨[.i .i64 n],[],[]⟩ K=K (.s (itoa n),[],[]):=by
  rw [abw (p:=prog) (f:=524) rfl]
  have:nDecimal ⟨[.i .i64 n],[],[]⟩=some (.s (itoa n),[],[]):=by
    simp only [nDecimal];exact if_pos h
  rw [this,ac3]
theorem dec_eq (u:Nat):decDigits u=(if u<10 then [] else decDigits (u / 10))++[UInt8.ofNat (48+u % 10)]:=by
  rw [decDigits]
  by_cases h:u<10
  · rw [dif_pos h,if_pos h,Nat.mod_eq_of_lt h];rfl
  · rw [dif_neg h,if_neg h]
theorem ak7 {P:Nat→Prop} (h:∀ u,(¬ u<10→P (u / 10))→P u) (u:Nat):P u:=by
  induction u using Nat.strongRecOn with
  | _ u ih=>exact h u fun hu=>ih _ (by omega)
theorem agu (u:Nat):∀ c,c ∈ decDigits u→48≤c.toNat∧c.toNat≤57:=by
  refine ak7 (P:=fun u=>∀ c,c ∈ decDigits u→48≤c.toNat∧c.toNat≤57) ?_ u
  intro u ih c hc
  rw [dec_eq] at hc
  rcases List.mem_append.1 hc with h | h
  · by_cases h2:u<10
    · rw [if_pos h2] at h;cases h
    · rw [if_neg h2] at h;exact ih h2 c h
  · simp only [List.mem_singleton] at h
    subst h
    rw [UInt8.toNat_ofNat_of_lt' (by show _<256;omega)];omega
theorem dec_ne (u:Nat):decDigits u≠[]:=by rw [dec_eq];simp
theorem an6 (u:Nat):∀ k,u<10 ^ (k+1)→(decDigits u).length≤k+1:=by
  refine ak7 (P:=fun u=>∀ k,u<10 ^ (k+1)→(decDigits u).length≤k+1) ?_ u
  intro u ih k hk
  rw [dec_eq,List.length_append]
  by_cases h:u<10
  · rw [if_pos h];simp
  · rw [if_neg h]
    cases k with
    | zero=>simp at hk;omega
    | succ k=>
      rw [Nat.pow_succ] at hk
      have:=ih h k (by omega)
      simp;omega
def valD (l:Bs):Nat:=l.foldl (fun n c=>n*10+(c.toNat - 48)) 0
theorem aju (l:Bs) (c:UInt8):valD (l++[c])=valD l*10+(c.toNat - 48):=by unfold valD;rw [List.foldl_append];rfl
theorem aqg (u:Nat):valD (decDigits u)=u:=by
  refine ak7 (P:=fun u=>valD (decDigits u)=u) ?_ u
  intro u ih
  rw [dec_eq,aju,UInt8.toNat_ofNat_of_lt' (by show _<256;omega)]
  by_cases h:u<10
  · rw [if_pos h];show 0*10+_=_;omega
  · rw [if_neg h,ih h];omega
theorem awa (l:Bs):∀ m:Bs,valD l≤valD (l++m):=by
  refine al1 (by simp) ?_
  intro m c ih
  rw [← List.append_assoc,aju];omega
theorem ap4 (M:Nat) (c:UInt8):∀ (l:Bs) (a:Nat),parseUintM M a (l++[c])=match parseUintM M a l with | .ok b=>parseUintM M b [c] | x=>x
  | [],a=>by simp [parseUintM]
  | x :: l,a=>by
    rw [List.cons_append,parseUintM,parseUintM]
    split
    · split
      · rfl
      · split
        · rfl
        · exact ap4 M c l _
    · rfl
theorem asf (M u:Nat) (h:u≤M) (hM:M≤18446744073709551615):parseUintM M 0 (decDigits u)=.ok u:=by
  revert h
  refine ak7 (P:=fun u=>u≤M→parseUintM M 0 (decDigits u)=.ok u) ?_ u
  intro u ih h
  have e1:(UInt8.ofNat (48+u % 10)).toNat=48+u % 10:=UInt8.toNat_ofNat_of_lt' (by show _<256;omega)
  rw [dec_eq,ap4]
  have e:parseUintM M 0 (if u<10 then [] else decDigits (u / 10))=.ok (u / 10):=by
    by_cases h2:u<10
    · rw [if_pos h2,Nat.div_eq_of_lt h2];rfl
    · rw [if_neg h2];exact ih h2 (by omega)
  rw [e]
  simp only [parseUintM,e1]
  rw [if_pos (by omega),if_neg (by omega),if_neg (by omega)]
  congr 1;omega
theorem aqs (n:Int) (h:I64 n):rdDec (itoa n)=(n,true):=by
  obtain ⟨h1,h2⟩:=h
  have e:parseIntB 64 (itoa n)=.ok n:=by
    unfold itoa
    by_cases c:n<0
    · rw [if_pos c]
      have e1:=asf (2 ^ 64 - 1) n.natAbs (by omega) (by decide)
      simp only [parseIntB]
      rw [if_pos (.inr (by decide))]
      unfold parseUintB
      rw [if_neg (dec_ne _),e1]
      simp only
      rw [if_neg (by simp),if_neg (by simp;omega),if_pos (by decide)]
      congr 1;omega
    · rw [if_neg c]
      have e1:=asf (2 ^ 64 - 1) n.toNat (by omega) (by decide)
      have hd:=agu n.toNat
      cases hl:decDigits n.toNat with
      | nil=>exact absurd hl (dec_ne _)
      | cons x r=>
        rw [hl] at hd e1
        have hx:=hd x (List.mem_cons_self ..)
        simp only [parseIntB]
        rw [if_neg (by omega)]
        unfold parseUintB
        rw [if_neg (by simp),e1]
        simp only
        rw [if_neg (by simp;omega),if_neg (by omega),if_neg (by omega)]
        congr 1;omega
  unfold rdDec
  rw [e];simp
theorem atu (n:Int):∀ c,c ∈ itoa n→dgC c=true:=by
  have hd:∀ u c,c ∈ decDigits u→dgC c=true:=by
    intro u c hc
    have:=agu u c hc
    unfold dgC isDig
    have h1:(48:Int)≤c.toNat:=by omega
    have h2:(c.toNat:Int)≤57:=by omega
    simp [h1,h2]
  intro c hc
  unfold itoa at hc
  split at hc
  · rcases List.mem_cons.1 hc with rfl | h
    · decide
    · exact hd _ _ h
  · exact hd _ _ hc
theorem aij (n:Int) (h:I64 n):(itoa n).length≤20:=by
  obtain ⟨h1,h2⟩:=h
  unfold itoa
  split
  · have:=an6 n.natAbs 18 (by have:(10:Nat) ^ 19=10000000000000000000:=(by decide);omega)
    simp;omega
  · have:=an6 n.toNat 18 (by have:(10:Nat) ^ 19=10000000000000000000:=(by decide);omega)
    omega
theorem ave (n:Nat) (h:n<256):leB (n:Int) 1=[UInt8.ofNat n]:=by
  rw [aln]
  unfold byteB
  rw [wrap_u8 (by omega) (by omega),Int.toNat_natCast]
theorem aon (n:Int) (h:I64 n) (K:Out→Prop):Call prog 519 ⟨[.i .i64 n],[],[]⟩ K=K (.s (itoa n),[],[]):=by
  refine Zc (f:=519) rfl rfl (by decide) ?_
  obtain ⟨h1,h2⟩:=h
  simp -implicitDefEqProofs
  refine WL_st (α:=Bs × Int) (fun x=>⟨sp 31 [(0,.i .i64 n),(3,.s x.1),(4,.i .i64 x.2)],[],[]⟩) (fun x=>x.2.natAbs+if x.1=[] then 1 else 0)
    (fun x=>I64 x.2∧x.1.length≤1000∧decDigits n.natAbs=(if x.1≠[]∧x.2=0 then [] else decDigits x.2.natAbs)++x.1) ([],n) _ (by simp -implicitDefEqProofs) ⟨⟨h1,h2⟩,by simp,by simp⟩ ?_
  rintro ⟨out,rest⟩ ⟨⟨r1,r2⟩,hl,hP⟩
  simp only at r1 r2 hl hP ⊢
  by_cases hq:out≠[]∧rest=0
  · rw [if_pos hq,List.nil_append] at hP
    obtain ⟨q1,rfl⟩:=hq
    unfold itoa
    by_cases c:n<0
    · have c1:out.length+1≤lim:=by unfold lim;omega
      have c2:1+out.length≤lim:=by unfold lim;omega
      rw [if_pos c,hP]
      simp -implicitDefEqProofs [q1,c,c1,c2]
    · have e:n.toNat=n.natAbs:=by omega
      rw [if_neg c,e,hP]
      simp -implicitDefEqProofs [q1,c]
  · rw [if_neg hq,dec_eq rest.natAbs] at hP
    obtain ⟨a,ha⟩:∃ a,a=rest.natAbs:=⟨_,rfl⟩
    rw [← ha] at hP
    have hlen:out.length+1≤1000:=by
      have h5:=congrArg List.length hP
      simp only [List.length_append,List.length_singleton] at h5
      have:=an6 n.natAbs 18 (by have:(10:Nat) ^ 19=10000000000000000000:=(by decide);omega)
      omega
    have hm:(rest.tmod 10)=if rest<0 then -((a % 10:Nat):Int) else ((a % 10:Nat):Int):=by
      split
      · have:rest=-(a:Int):=by omega
        rw [this,Int.neg_tmod,show (10:Int)=((10:Nat):Int) from rfl,← Int.ofNat_tmod]
      · have:rest=(a:Int):=by omega
        rw [this,show (10:Int)=((10:Nat):Int) from rfl,← Int.ofNat_tmod]
    have hdv:(rest.tdiv 10)=if rest<0 then -((a / 10:Nat):Int) else ((a / 10:Nat):Int):=by
      split
      · have:rest=-(a:Int):=by omega
        rw [this,Int.neg_tdiv,show (10:Int)=((10:Nat):Int) from rfl,← Int.ofNat_tdiv]
      · have:rest=(a:Int):=by omega
        rw [this,show (10:Int)=((10:Nat):Int) from rfl,← Int.ofNat_tdiv]
    obtain ⟨d,hd⟩:∃ d,d=a % 10:=⟨_,rfl⟩
    have hd9:d<10:=by omega
    obtain ⟨R,hR⟩:∃ R,R=rest.tdiv 10:=⟨_,rfl⟩
    have hRr:-9223372036854775808≤R∧R≤9223372036854775807∧R.natAbs=a / 10:=by
      rw [hR,hdv];split <;> omega
    have w1:=wrap_i64 hRr.1 hRr.2.1
    obtain ⟨x,hx⟩:∃ x:Int,x=48+(d:Int):=⟨_,rfl⟩
    have eb:=afe x
    rw [show x=((48+d:Nat):Int) by omega,ave _ (by omega),show ((48+d:Nat):Int)=x by omega] at eb
    have c1:1+out.length≤lim:=by unfold lim;omega
    have fin:NextS (fun x:Bs × Int=>(⟨sp 31 [(0,.i .i64 n),(3,.s x.1),(4,.i .i64 x.2)],[],[]⟩:St)) (fun x=>I64 x.2∧x.1.length≤1000∧decDigits n.natAbs=(if x.1≠[]∧x.2=0 then [] else decDigits x.2.natAbs)++x.1) (fun x=>x.2.natAbs+if x.1=[] then 1 else 0) (rest.natAbs+if out=[] then 1 else 0)
        ⟨sp 31 [(0,.i .i64 n),(3,.s (UInt8.ofNat (48+d) :: out)),(4,.i .i64 R)],[],[]⟩:=by
      refine NextS.mk (UInt8.ofNat (48+d) :: out,R) ⟨⟨hRr.1,hRr.2.1⟩,hlen,?_⟩ ?_ rfl
      · rw [hP,hd]
        by_cases h10:a<10
        · rw [if_pos h10,if_pos ⟨by simp,by omega⟩];rfl
        · rw [if_neg h10,if_neg (fun h=>by omega),hRr.2.2];simp
      · rw [if_neg (by simp),hRr.2.2,← ha]
        by_cases h0:out=[]
        · rw [if_pos h0];omega
        · have:¬ rest=0:=fun h=>hq ⟨h0,h⟩
          rw [if_neg h0];omega
    obtain ⟨m,hmm⟩:∃ m,m=rest.tmod 10:=⟨_,rfl⟩
    have hm':m=if rest<0 then -(d:Int) else (d:Int):=by rw [hmm,hm,hd]
    have hm2:rest.tmod 10=m:=hmm.symm
    rw [← hR] at hdv
    have hdv':rest.tdiv 10=R:=hR.symm
    clear hP hm hdv hmm
    have c0:1≤lim:=by unfold lim;decide
    generalize UInt8.ofNat (48+d)=y at *
    by_cases hneg:m<0
    · have hx1:d=-m:=by split at hm' <;> omega
      have w3:=wrap_i64 (n:=-m) (by omega) (by omega)
      have w2:IntKind.i64.wrap (48+-m)=x:=by rw [wrap_i64 (by omega) (by omega)];omega
      have f1:=eq_true hneg
      by_cases h0:out=[]
      · subst h0
        simp -implicitDefEqProofs [hm2,f1,w3,w2,eb,hdv',w1,c1,c0]
        exact fin
      · have h3:¬ rest=0:=fun h=>hq ⟨h0,h⟩
        simp -implicitDefEqProofs [h0,h3,hm2,f1,w3,w2,eb,hdv',w1,c1,c0]
        exact fin
    · have hx1:d=m:=by split at hm' <;> omega
      have w2:IntKind.i64.wrap (48+m)=x:=by rw [wrap_i64 (by omega) (by omega)];omega
      have f1:=eq_false hneg
      by_cases h0:out=[]
      · subst h0
        simp -implicitDefEqProofs [hm2,f1,w2,eb,hdv',w1,c1,c0]
        exact fin
      · have h3:¬ rest=0:=fun h=>hq ⟨h0,h⟩
        simp -implicitDefEqProofs [h0,h3,hm2,f1,w2,eb,hdv',w1,c1,c0]
        exact fin
end Go.VS
end
section
namespace Go.VS
set_option maxRecDepth 4000
attribute [-simp] isLeaf okRet ridL V.leaves
open Go.Lib
def Ty.txs (f:Ty→Bs→Bs) (t:Ty) (b:Bs):List Bs:=
  if t.kind=4 then t.ms.map fun m=>(m.name++[61])++f m.ty (sl b m.off (m.off+m.ty.sz)) else (t.parts b).map fun x=>f x.1 x.2
def shw:Nat→Ty→Bs→Bs
  | 0,_,_=>[]
  | d+1,t,b=>
    if t.kind=1 then itoa (t.it.num b) else if t.kind=2 then qB (trimR 0 b) else if t.kind=3 then nmAt t (t.it.num b)
    else if t.kind=4 then 123 :: join (t.txs (shw d) b) [44]++[125] else if t.kind=5 then 91 :: join (t.txs (shw d) b) [44]++[93] else 35 :: itoa (t.it.num b)
theorem aic (B:Nat):∀ r:List Bs,(∀ x,x ∈ r→x.length≤B)→(joinTail [44] r).length≤r.length*(B+1)
  | [],_=>by simp [joinTail]
  | x :: r,h=>by
    have e:joinTail [44] (x :: r)=([44]++x)++joinTail [44] r:=by simp [joinTail]
    have ih:=aic B r fun y hy=>h y (List.mem_cons_of_mem _ hy)
    have hx:=h x (List.mem_cons_self ..)
    have e2:(x :: r).length*(B+1)=r.length*(B+1)+1*(B+1):=by rw [List.length_cons,Nat.add_mul]
    rw [e,List.length_append,List.length_append,e2]
    simp only [List.length_cons,List.length_nil];omega
theorem alj (B:Nat) (r:List Bs) (h:∀ x,x ∈ r→x.length≤B):(join r [44]).length≤r.length*(B+1):=by
  cases r with
  | nil=>simp [join_nil]
  | cons x r=>
    have ih:=aic B r fun y hy=>h y (List.mem_cons_of_mem _ hy)
    have hx:=h x (List.mem_cons_self ..)
    rw [join_cons,List.length_append,List.length_cons,Nat.add_mul]
    omega
theorem leB_of (l:Bs):l.length≤8→∀ n:Int,n % 256 ^ l.length=leI l→leB n l.length=l:=by
  refine al1 (P:=fun l=>l.length≤8→∀ n:Int,n % 256 ^ l.length=leI l→leB n l.length=l) ?_ ?_ l
  · intro _ n _;rfl
  intro l c ih h8 n hn
  rw [List.length_append,List.length_singleton] at h8 hn ⊢
  rw [aik] at hn
  obtain ⟨b0,b1⟩:=leI_bd l
  have hp:(0:Int)<256 ^ l.length:=Int.pow_pos (by decide)
  have hc:=UInt8.toNat_lt c
  have e1:n % 256 ^ l.length=leI l:=by
    have:n % 256 ^ l.length=(n % 256 ^ (l.length+1)) % 256 ^ l.length:=by
      rw [Int.emod_emod_of_dvd _ ⟨256,by rw [Int.pow_succ]⟩]
    rw [this,hn,Int.add_mul_emod_self_right]
    exact Int.emod_eq_of_lt b0 b1
  have e2:(n / 256 ^ l.length) % 256=c.toNat:=by
    have h1:n=n % 256 ^ (l.length+1)+256 ^ (l.length+1)*(n / 256 ^ (l.length+1)):=(Int.emod_add_mul_ediv ..).symm
    rw [hn,Int.pow_succ] at h1
    have h2:n / 256 ^ l.length=c.toNat+256*(n / (256 ^ l.length*256)):=by
      have h3:n=leI l+256 ^ l.length*(c.toNat+256*(n / (256 ^ l.length*256))):=by
        rw [Int.mul_add,← Int.mul_assoc,Int.mul_comm (256 ^ l.length) (c.toNat:Int),← Int.add_assoc];exact h1
      generalize n / (256 ^ l.length*256)=z at *
      rw [h3,Int.add_mul_ediv_left _ _ (by omega),Int.ediv_eq_zero_of_lt b0 b1];omega
    rw [h2];omega
  rw [ahi,ih (by omega) n e1]
  congr 2
  have e3:shrI .i64 n (8*(l.length:Int))=n / 256 ^ l.length:=by
    unfold shrI
    have m:min (8*(l.length:Int)).toNat (IntKind.i64.bits)=8*l.length:=by
      have:IntKind.i64.bits=64:=rfl
      omega
    rw [m,Int.fdiv_eq_ediv_of_nonneg _ (by exact Int.le_of_lt (Int.pow_pos (by decide))),Int.pow_mul]
    rfl
  rw [e3]
  apply UInt8.toNat_inj.1
  have:=ai0 (n / 256 ^ l.length)
  rw [ahv,e2] at this
  omega
theorem asa (g:Bool) (b:Bs):ord g (ord g b)=b:=by cases g <;> simp [ord]
theorem alx {t:Ty} (h:IntF t) (b:Bs) (hb:b.length=t.size.toNat):t.put (t.num b)=b:=by
  unfold Ty.put Ty.num
  have hl:(ord t.bg b).length=t.size.toNat:=by rw [ord_len,hb]
  have hk:=h.len
  rw [← hl]
  have:leB (numB t.sg (ord t.bg b).length (ord t.bg b)) (ord t.bg b).length=ord t.bg b:=by
    refine leB_of _ (by omega) _ ?_
    obtain ⟨b0,b1⟩:=leI_bd (ord t.bg b)
    have e0:=Int.emod_eq_of_lt b0 b1
    unfold numB sgnI
    split
    · split
      · have:(2:Int) ^ (8*(ord t.bg b).length)=256 ^ (ord t.bg b).length:=by rw [Int.pow_mul];rfl
        rw [this,Int.sub_emod_right,e0]
      · exact e0
    · exact e0
  rw [this,asa]
theorem ah3 {t:Ty} (h:IntF t) (b:Bs) (hb:b.length=t.size.toNat):I64 (t.num b):=by
  have hl:=(leI_bd (ord t.bg b)).2
  have h0:=(leI_bd (ord t.bg b)).1
  rw [ord_len,hb] at hl
  unfold Ty.num numB sgnI I64
  have hs:=h.s
  have hg:=h.g
  rcases hs with s | s | s | s
  · rw [s] at hl ⊢
    simp only [show (1:Int).toNat=1 from rfl] at hl ⊢
    split
    · split <;> omega
    · omega
  · rw [s] at hl ⊢
    simp only [show (2:Int).toNat=2 from rfl] at hl ⊢
    split
    · split <;> omega
    · omega
  · rw [s] at hl ⊢
    simp only [show (4:Int).toNat=4 from rfl] at hl ⊢
    split
    · split <;> omega
    · omega
  · rw [hg s]
    rw [s] at hl ⊢
    simp only [show (8:Int).toNat=8 from rfl,if_true] at hl ⊢
    split <;> omega
theorem it_len {d:Nat} {t:Ty} (g:Gd (d+1) t) (k:t.kind=1∨t.kind=3∨t.kind=6) {b:Bs} (hb:(b.length:Int)=t.sz):b.length=t.it.size.toNat∧IntF t.it:=by
  have hn:=g.n k
  refine ⟨?_,hn.it⟩
  rcases k with k | k | k
  · have e:t.it=t:=by unfold Ty.it;rw [if_pos k]
    rw [Ty.sz_eq,if_neg (by omega),if_neg (by omega)] at hb
    rw [e];omega
  · obtain ⟨c,hc,_⟩:=(g.enum k).ba
    rw [it3 k hc]
    rw [sz3 k hc] at hb;omega
  · have s:t.it.size=2:=by unfold Ty.it;rw [if_neg (by omega),if_neg (by omega),if_pos k];rfl
    rw [Ty.sz_eq,if_neg (by omega),if_neg (by omega),(hn.ref k).1] at hb
    rw [s];omega
theorem afs {s:Bs} (h:isName s=true):s.length≤12:=by
  unfold isName at h
  simp at h;omega
theorem ao0 {d:Nat} {t:Ty} (g:Gd (d+1) t) (f:Ty→Bs→Bs) (b:Bs):(t.txs f b).length≤4:=by
  unfold Ty.txs
  split
  · rename_i k;have:=(g.comp k).1.n4;simpa using this
  · have:=ajn g b;simpa using this
theorem alu {d:Nat} {t:Ty} (g:Gd (d+1) t) (k:t.kind=5) {b:Bs} (o:Ok (d+1) t b) {x:Ty × Bs} (hx:x ∈ t.parts b):Gd d x.1∧Ok d x.1 x.2:=by
  obtain ⟨ag,c,hc,gc,h24⟩:=g.arr k
  have hp:t.parts b=(List.range t.count.toNat).map fun k:Nat=>(c,sl b (k*c.sz) (((k:Int)+1)*c.sz)):=by
    unfold Ty.parts;rw [if_neg (by omega),if_pos k,hc];rfl
  rw [hp] at hx
  obtain ⟨j,hj,rfl⟩:=List.mem_map.1 hx
  have hj:=List.mem_range.1 hj
  exact ⟨gc,o.2.2.2.2 k c (by rw [hc];simp) j (by omega)⟩
theorem ajr:∀ (d:Nat) {t:Ty} (_:Gd d t) (b:Bs) (_:Ok d t b),(shw d t b).length≤100*6 ^ d
  | 0,_,g,_,_=>g.elim
  | d+1,t,g,b,o=>by
    have hk:=g.kind
    have p1:1≤6 ^ d:=Nat.one_le_pow _ _ (by decide)
    rw [Nat.pow_succ,shw]
    have c0:=o.1
    split
    · rename_i k
      obtain ⟨h1,h2⟩:=it_len g (.inl k) c0
      have:=aij _ (ah3 h2 b h1)
      omega
    split
    · rename_i _ k
      have h1:=ajc (trimR 0 b)
      have h2:=afn b
      have h3:=(g.txt k).2.1
      have:t.sz=t.size:=by rw [Ty.sz_eq,if_neg (by omega),if_neg (by omega)]
      unfold qB
      simp only [List.length_append,List.length_cons,List.length_nil]
      omega
    split
    · rename_i _ _ k
      obtain ⟨c,hc,_,_,hE⟩:=(g.enum k).ba
      unfold nmAt
      rw [List.getD_eq_getElem?_getD]
      cases hx:t.names[(ixN t.nums (t.it.num b)).toNat]? with
      | none=>simp
      | some s=>
        obtain ⟨hi,e⟩:=List.getElem?_eq_some_iff.1 hx
        have:=(hE _ hi).nm
        rw [List.getD_eq_getElem?_getD,hx] at this
        have:=afs this
        simp only [Option.getD_some] at this ⊢
        omega
    have hpl:=ao0 g (shw d) b
    split
    · rename_i k
      obtain ⟨cg,gm⟩:=g.comp k
      have:=alj (100*6 ^ d+20) (t.txs (shw d) b) (fun x hx=>by
        unfold Ty.txs at hx
        rw [if_pos k] at hx
        obtain ⟨m,hm,rfl⟩:=List.mem_map.1 hx
        obtain ⟨j,hj,rfl⟩:=List.getElem_of_mem hm
        have h1:=afs (cg.ms j _ (List.getElem?_eq_getElem hj)).nm
        have h2:=ajr d (gm _ hm) _ ((o.2.2.2.1 k j (by omega)).2 hj)
        simp only [List.length_append,List.length_singleton]
        omega)
      have h2:(t.txs (shw d) b).length*(100*6 ^ d+20+1)≤4*(100*6 ^ d+20+1):=Nat.mul_le_mul_right _ hpl
      simp only [List.length_append,List.length_cons,List.length_nil]
      omega
    split
    · rename_i k4 k
      have:=alj (100*6 ^ d) (t.txs (shw d) b) (fun x hx=>by
        unfold Ty.txs at hx
        rw [if_neg k4] at hx
        obtain ⟨m,hm,rfl⟩:=List.mem_map.1 hx
        obtain ⟨h1,h2⟩:=alu g k o hm
        exact ajr d h1 _ h2)
      have h2:(t.txs (shw d) b).length*(100*6 ^ d+1)≤4*(100*6 ^ d+1):=Nat.mul_le_mul_right _ hpl
      simp only [List.length_append,List.length_cons,List.length_nil]
      omega
    · have k:t.kind=6:=by omega
      obtain ⟨h1,h2⟩:=it_len g (.inr (.inr k)) c0
      have:=aij _ (ah3 h2 b h1)
      simp only [List.length_cons]
      omega
end Go.VS
end
section
namespace Go.VS
set_option maxRecDepth 4000
attribute [-simp] isLeaf okRet ridL V.leaves
open Go.Lib
theorem amc (q:Bool) (l:List Bs) (p:Bs) (h1:l.length≤lim) (h2:(join l p).length≤lim) (K:Out→Prop):Call prog 523 ⟨[.view q 1 (l.map .s),.s p],[],[]⟩ K=K (.s (join l p),[],[]):=by
  rw [abw (p:=prog) (f:=523) rfl]
  have:nJoin ⟨[.view q 1 (l.map .s),.s p],[],[]⟩=some (.s (join l p),[],[]):=by
    simp only [nJoin,aqc]
    rw [if_pos (by simpa using h1),if_pos h2]
  rw [this,ac3]
theorem am4 (s:Bs) (xs:List Bs):∀ ys,(join xs s).length≤(join (xs++ys) s).length:=by
  intro ys
  cases xs with
  | nil=>simp [join_nil]
  | cons x xs=>
    rw [List.cons_append,join_cons,join_cons]
    unfold joinTail
    simp
theorem txs_bd {d:Nat} (hd:d≤2) {t:Ty} (g:Gd (d+1) t) (b:Bs) (o:Ok (d+1) t b):(∀ x,x ∈ t.txs (shw d) b→x.length≤4000)∧∀ i,(join ((t.txs (shw d) b).take i) [44]).length≤20000:=by
  have p6:6 ^ d≤36:=by
    have:=Nat.pow_le_pow_right (n:=6) (by decide) hd
    simpa using this
  have h1:∀ x,x ∈ t.txs (shw d) b→x.length≤4000:=by
    intro x hx
    unfold Ty.txs at hx
    split at hx
    · rename_i k
      obtain ⟨m,hm,rfl⟩:=List.mem_map.1 hx
      obtain ⟨j,hj,rfl⟩:=List.getElem_of_mem hm
      have h1:=afs ((g.comp k).1.ms j _ (List.getElem?_eq_getElem hj)).nm
      have h2:=ajr d ((g.comp k).2 _ hm) _ ((o.2.2.2.1 k j (by omega)).2 hj)
      simp only [List.length_append,List.length_singleton]
      omega
    · rename_i k4
      obtain ⟨m,hm,rfl⟩:=List.mem_map.1 hx
      by_cases k:t.kind=5
      · obtain ⟨h1,h2⟩:=alu g k o hm
        have:=ajr d h1 _ h2
        omega
      · unfold Ty.parts at hm
        rw [if_neg k4,if_neg k] at hm;cases hm
  refine ⟨h1,fun i=>?_⟩
  have h2:=alj 4000 (t.txs (shw d) b) h1
  have h3:=ao0 g (shw d) b
  have h4:(t.txs (shw d) b).length*(4000+1)≤4*4001:=Nat.mul_le_mul_right _ h3
  have h5:=am4 [44] ((t.txs (shw d) b).take i) ((t.txs (shw d) b).drop i)
  rw [List.take_append_drop] at h5
  omega
theorem at6 (l:List Bs):noBt (l.map V.s)=true:=aeo _ (fun _=>rfl) l
set_option maxHeartbeats 1000000 in
theorem abm:∀ (d:Nat) (_:d≤3) {t:Ty} (_:Gd d t) (b:Bs) (_:Ok d t b) (K:Out→Prop),Call prog 471 ⟨[t.w,.s b],[],[]⟩ K=K (.s (shw d t b),[],[])
  | 0,_,_,g,_,_,_=>g.elim
  | d+1,hd,t,g,b,o,K=>by
    have ih:=fun {t:Ty} (g:Gd d t)=>abm d (by omega) g
    refine Zc (f:=471) rfl rfl (by decide) ?_
    have hk:=g.kind
    have hsz:=g.sz
    have c0:=o.1
    obtain ⟨hb1,hb2⟩:=txs_bd (by omega) g b o
    have hpl:=ajn g b
    have htl:=ao0 g (shw d) b
    have J0:=fun q=>amc q [] [44] (by simp) (by simp [join_nil])
    simp only [List.map_nil,join_nil,Tag_eq] at J0
    have jb:=hb2 (t.txs (shw d) b).length
    rw [List.take_length] at jb
    have jl:(join (t.txs (shw d) b) [44]).length≤lim:=by unfold lim;omega
    have J1:=fun q=>amc q (t.txs (shw d) b) [44] (by unfold lim;omega) jl
    by_cases k45:t.kind=4∨t.kind=5
    · have hp:Call prog 506 ⟨[t.w,.s b],[],[]⟩=fun K=>K (.sl 0 0 (t.parts b).length false,[],[.row 10 false ((t.parts b).map ptV)]):=by
        funext K
        rcases k45 with k | k
        · exact akh g k b c0 K
        · exact ani g k b c0 K
      have hp:=fun K=>congrFun hp K
      have hL:(t.txs (shw d) b).length=(t.parts b).length:=by
        unfold Ty.txs Ty.parts
        rcases k45 with k | k
        · rw [if_pos k,if_pos k];simp
        · rw [if_neg (by omega),if_neg (by omega),if_pos k];simp
      have hx:∀ i (h:i<(t.parts b).length),∀ K:Out→Prop,Call prog 471 ⟨[(t.parts b)[i].1.w,.s (t.parts b)[i].2],[],[]⟩ K=K (.s (shw d (t.parts b)[i].1 (t.parts b)[i].2),[],[]):=by
        intro i h K
        rcases k45 with k | k
        · have e:t.parts b=t.ms.map fun m=>(m.ty,sl b m.off (m.off+m.ty.sz)):=by unfold Ty.parts;rw [if_pos k]
          have h':i<t.ms.length:=by rw [e] at h;simpa using h
          have e2:(t.parts b)[i]=(t.ms[i].ty,sl b t.ms[i].off (t.ms[i].off+t.ms[i].ty.sz)):=by simp only [e,List.getElem_map]
          rw [e2]
          exact ih ((g.comp k).2 _ (List.getElem_mem h')) _ ((o.2.2.2.1 k i (by omega)).2 h') K
        · obtain ⟨h1,h2⟩:=alu g k o (List.getElem_mem h)
          exact ih h1 _ h2 K
      simp -implicitDefEqProofs [hp]
      refine WL_for (fun i=>⟨sp 83 [(1,.s b),(2,.ptr 0 0),(5,.sl 0 0 i false),(12,.sl 1 0 (t.parts b).length false),(13,.i .i64 (t.parts b).length),(14,.i .i64 i)],[t.k],[.row 1 false (((t.txs (shw d) b).take i).map .s),.row 10 false ((t.parts b).map ptV)]⟩) (t.parts b).length (fun _=>True) _ (by simp -implicitDefEqProofs) trivial ?_
      intro i hi _
      by_cases hlt:i<(t.parts b).length
      · have hw:=wrap_i64 (n:=(i:Int)+1) (by omega) (by omega)
        have hxi:=hx i hlt
        have hlt2:i<(t.txs (shw d) b).length:=by omega
        have hmi:min i (t.txs (shw d) b).length=i:=by omega
        have ht:=(List.take_append_getElem hlt2).symm
        have tl:=hb1 _ (List.getElem_mem hlt2)
        have nb:=at6 ((t.txs (shw d) b).take i)
        have n1:i+1≤lim:=by unfold lim;omega
        by_cases k4:t.kind=4
        · have e:t.parts b=t.ms.map fun m=>(m.ty,sl b m.off (m.off+m.ty.sz)):=by unfold Ty.parts;rw [if_pos k4]
          have hm:i<t.ms.length:=by rw [e] at hlt;simpa using hlt
          have e3:(t.txs (shw d) b)[i]=(t.ms[i].name++[61])++shw d (t.parts b)[i].1 (t.parts b)[i].2:=by
            unfold Ty.txs
            simp only [k4,if_true,List.getElem_map,e]
          rw [e3] at ht tl
          have f4:=eq_true k4
          simp only [List.length_append,List.length_singleton] at tl
          generalize hxx:(t.parts b)[i]=x at *
          generalize hTT:shw d x.1 x.2=T at *
          have n2:t.ms[i].name.length+1≤lim:=by unfold lim;omega
          have n4:t.ms[i].name.length+1+T.length≤lim:=by unfold lim;omega
          simp -implicitDefEqProofs [hlt,hxx,ptV,hxi,f4,hm,Mb.c_w,n2,n4,nb,n1,hw,hmi,ht,Next]
          rw [List.take_take,Nat.min_self]
        · have f4:=eq_false k4
          have hxm:i<((t.parts b).map fun x=>shw d x.1 x.2).length:=by simpa using hlt
          have e3:(t.txs (shw d) b)[i]=shw d (t.parts b)[i].1 (t.parts b)[i].2:=by
            unfold Ty.txs
            simp only [k4,if_false,List.getElem_map]
          rw [e3] at ht tl
          generalize hxx:(t.parts b)[i]=x at *
          generalize hTT:shw d x.1 x.2=T at *
          simp -implicitDefEqProofs [hlt,hxx,ptV,hxi,f4,nb,n1,hw,hmi,ht,Next]
          rw [List.take_take,Nat.min_self]
      · obtain rfl:i=(t.parts b).length:=by omega
        have tk:List.take (t.parts b).length (t.txs (shw d) b)=t.txs (shw d) b:=by rw [← hL];exact List.take_length
        have tk2:List.take (t.parts b).length ((t.txs (shw d) b).map V.s)=(t.txs (shw d) b).map V.s:=List.take_of_length_le (by simp [hL])
        have n1:1+(join (t.txs (shw d) b) [44]).length≤lim:=by unfold lim;omega
        have n2:(join (t.txs (shw d) b) [44]).length+1+1≤lim:=by unfold lim;omega
        rw [shw]
        have f1:(t.kind=1)=False:=eq_false (by omega)
        have f2:(t.kind=2)=False:=eq_false (by omega)
        have f3:(t.kind=3)=False:=eq_false (by omega)
        rcases k45 with k | k
        · have f:=eq_true k
          rw [if_neg (by omega),if_neg (by omega),if_neg (by omega),if_pos k]
          generalize join (t.txs (shw d) b) [44]=J at *
          simp -implicitDefEqProofs [tk,tk2,J1,f1,f2,f3,f,n1,n2]
        · have f4:(t.kind=4)=False:=eq_false (by omega)
          have f:=eq_true k
          rw [if_neg (by omega),if_neg (by omega),if_neg (by omega),if_neg (by omega),if_pos k]
          generalize join (t.txs (shw d) b) [44]=J at *
          simp -implicitDefEqProofs [tk,tk2,J1,f1,f2,f3,f4,f,n1,n2]
    · have k4:t.kind≠4:=fun k=>k45 (.inl k)
      have k5:t.kind≠5:=fun k=>k45 (.inr k)
      have f4:=eq_false k4
      have f5:=eq_false k5
      have hp:=aki k4 k5 b
      simp -implicitDefEqProofs [hp]
      refine WL_for (fun i=>⟨sp 83 [(1,.s b),(2,.ptr 0 0),(5,.sl 0 0 0 false),(12,.nil),(13,.i .i64 0),(14,.i .i64 0)],[t.k],[.row 1 false []]⟩) 0 (fun _=>True) _ (by simp -implicitDefEqProofs) trivial ?_
      intro i hi _
      rw [shw,if_neg k4,if_neg k5]
      by_cases k1:t.kind=1
      · have f1:=eq_true k1
        obtain ⟨h1,h2⟩:=it_len g (.inl k1) c0
        have e1:=adk (g.n (.inl k1)) b h1
        have e2:=ah5 _ (ah3 h2 b h1)
        rw [if_pos k1]
        simp -implicitDefEqProofs [J0,f1,e1,e2]
      have f1:=eq_false k1
      by_cases k2:t.kind=2
      · have f2:=eq_true k2
        have hz:t.sz=t.size:=by rw [Ty.sz_eq,if_neg (by omega),if_neg (by omega)]
        have h3:=(g.txt k2).2.1
        have e1:=afo b (by unfold lim;omega)
        have e2:=aow (trimR 0 b) (by have:=afn b;omega)
        rw [if_neg k1,if_pos k2]
        simp -implicitDefEqProofs [J0,f1,f2,e1,e2]
      have f2:=eq_false k2
      by_cases k3:t.kind=3
      · have f3:=eq_true k3
        obtain ⟨h1,h2⟩:=it_len g (.inr (.inl k3)) c0
        have e1:=adk (g.n (.inr (.inl k3))) b h1
        have hin:=o.2.2.1 k3
        have en:=g.enum k3
        obtain ⟨j,hj,hq⟩:=ixN_in hin
        have e2:=fun q K=>an0 q t.nums (t.it.num b) (by have:=en.n6;have:=en.nn;unfold lim;omega) K
        rw [if_neg k1,if_neg k2,if_pos k3]
        have hj2:j<t.names.length:=by have:=en.nn;omega
        have e3:nmAt t (t.it.num b)=t.names[j]:=by
          unfold nmAt
          rw [hq,Int.toNat_natCast,List.getD_eq_getElem?_getD,List.getElem?_eq_getElem hj2];rfl
        rw [hq] at e2
        rw [e3]
        simp -implicitDefEqProofs [J0,f1,f2,f3,e1,e2,hj2]
      have f3:=eq_false k3
      have k6:t.kind=6:=by omega
      obtain ⟨h1,h2⟩:=it_len g (.inr (.inr k6)) c0
      have e1:=adk (g.n (.inr (.inr k6))) b h1
      have hi64:=ah3 h2 b h1
      have e2:=ah5 _ hi64
      have n1:1+(itoa (t.it.num b)).length≤lim:=by have:=aij _ hi64;unfold lim;omega
      rw [if_neg k1,if_neg k2,if_neg k3]
      simp -implicitDefEqProofs [J0,f1,f2,f3,f4,f5,e1,e2,n1]
end Go.VS
end
section
namespace Go.VS
set_option maxRecDepth 4000
attribute [-simp] isLeaf okRet ridL V.leaves
open Go.Lib
end Go.VS
end
section
namespace Go.VS
set_option maxRecDepth 4000
attribute [-simp] isLeaf okRet ridL V.leaves
open Go.Lib
def sgB (e:Bool) (w s:Bs) (a:Nat):Bool:=!e && pfx w (s.drop a)
def sgA (e:Bool) (w s:Bs) (a:Nat):Nat:=if sgB e w s a=true then a+w.length else a
theorem sgA_le {e:Bool} {w s:Bs} {a:Nat} (h:a≤s.length):sgA e w s a≤s.length∧a≤sgA e w s a:=by
  unfold sgA sgB pfx
  split
  · rename_i q
    simp at q
    omega
  · exact ⟨h,Nat.le_refl _⟩
theorem anu (s w:Bs) (a:Nat) (e:Bool) (hs:s.length≤lim) (hw:w.length≤lim) (ha:a≤s.length) (K:Out→Prop):
    Call prog 548 ⟨[.ptr 0 0,.s w],[[.s s,.i .i64 a,.b e]],[]⟩ K=K (.b (sgB e w s a),[[.s s,.i .i64 (sgA e w s a:Nat),.b e]],[]):=by
  refine Zc (f:=548) rfl rfl (by decide) ?_
  unfold lim at hs hw
  unfold sgA sgB pfx
  cases e
  · have w1:=wrap_i64 (n:=(s.length:Int) - a) (by omega) (by omega)
    have w2:=wrap_i64 (n:=(a:Int)+w.length) (by omega) (by omega)
    by_cases h:w.length≤s.length - a
    · have h1:((s.length:Int) - a<w.length)=False:=eq_false (by omega)
      have hb:=bndsI (n:=s.length) (lo:=(a:Int)) (hi:=(a:Int)+w.length) (by omega)
      have e1:((s.take (a+w.length)).drop a)=(s.drop a).take w.length:=by rw [List.drop_take,Nat.add_sub_cancel_left]
      have t1:((a:Int)+w.length).toNat=a+w.length:=by omega
      have hl:(s.drop a).length=s.length - a:=List.length_drop
      by_cases q:(s.drop a).take w.length=w
      · have d1:decide (w.length≤(s.drop a).length∧(s.drop a).take w.length=w)=true:=decide_eq_true ⟨by omega,q⟩
        rw [d1]
        simp -implicitDefEqProofs [w1,w2,h1,hb,t1,e1,q]
      · have d1:decide (w.length≤(s.drop a).length∧(s.drop a).take w.length=w)=false:=decide_eq_false fun h=>q h.2
        rw [d1]
        have q':=eq_false q
        simp -implicitDefEqProofs [w1,w2,h1,hb,t1,e1,q']
    · have h1:((s.length:Int) - a<w.length)=True:=eq_true (by omega)
      have d1:decide (w.length≤(s.drop a).length∧(s.drop a).take w.length=w)=false:=decide_eq_false fun q=>h (by have:=q.1;rwa [List.length_drop] at this)
      rw [d1]
      simp -implicitDefEqProofs [w1,h1]
  · simp -implicitDefEqProofs
theorem adj (s w:Bs) (a:Nat) (e:Bool) (hs:s.length≤lim) (hw:w.length≤lim) (ha:a≤s.length) (K:Out→Prop):
    Call prog 515 ⟨[.ptr 0 0,.s w],[[.s s,.i .i64 a,.b e]],[]⟩ K=K (.tup [],[[.s s,.i .i64 (sgA e w s a:Nat),.b (!sgB e w s a)]],[]):=by
  refine Zc (f:=515) rfl rfl (by decide) ?_
  have e1:=anu s w a e hs hw ha
  have h:sgB e w s a=true→e=false:=by unfold sgB;cases e <;> simp
  generalize sgA e w s a=A at *
  generalize sgB e w s a=B at *
  cases B
  · simp -implicitDefEqProofs [e1]
  · obtain rfl:=h rfl
    simp -implicitDefEqProofs [e1]
theorem aqn (c:UInt8):isName [65,c]=isRest c:=by
  unfold isName
  simp [anyFrom,chBad]
  intro _;decide
def nmN (s:Bs) (a:Nat):Bs:=((s.drop a).takeWhile isRest).take 12
theorem aqp (s:Bs) (a:Nat) (e:Bool) (hs:s.length≤lim) (ha:a≤s.length) (K:Out→Prop):
    Call prog 518 ⟨[.ptr 0 0],[[.s s,.i .i64 a,.b e]],[]⟩ K=K (.s (nmN s a),[[.s s,.i .i64 (a+(nmN s a).length:Nat),.b e]],[]):=by
  refine Zc (f:=518) rfl rfl (by decide) ?_
  unfold lim at hs
  simp -implicitDefEqProofs
  refine WL_for (fun i=>⟨sp 70 [(0,.ptr 0 0),(3,.i .i64 a)],[[.s s,.i .i64 (a+i:Nat),.b e]],[]⟩) (min 12 (s.length - a)) (fun i=>(s.drop a).takeWhile isRest=(s.drop a).take i++(s.drop (a+i)).takeWhile isRest) _ (by simp -implicitDefEqProofs) (by simp) ?_
  intro i hi hP
  obtain ⟨A,hA⟩:∃ A,A=a+i:=⟨_,rfl⟩
  simp only [show a+(i+1)=A+1 by omega,← hA,Tag_eq] at hP ⊢
  have hAi:(a:Int)+i=A:=by omega
  have hi1:i≤12:=by omega
  have hi2:A≤s.length:=by omega
  have w1:=wrap_i64 (n:=(A:Int) - a) (by omega) (by omega)
  have w2:=wrap_i64 (n:=(A:Int)+1) (by omega) (by omega)
  have hl:((s.drop a).take i).length=i:=by rw [List.length_take,List.length_drop];omega
  have hb:=bndsI (n:=s.length) (lo:=(a:Int)) (hi:=(A:Int)) (by omega)
  have e1:((s.take A).drop a)=(s.drop a).take i:=by rw [hA,List.drop_take,Nat.add_sub_cancel_left]
  have c2:2≤lim:=by unfold lim;decide
  have fin:(s.drop A).takeWhile isRest=[]∨i=12→nmN s a=(s.drop a).take i:=by
    intro h
    unfold nmN
    rw [hP]
    rcases h with h | h
    · rw [h,List.append_nil,List.take_take]
      congr 1;omega
    · subst h
      rw [List.take_append_of_le_length (by omega),List.take_take]
      congr 1
  by_cases hlt:A<s.length
  · have hd:s.drop A=s[A] :: s.drop (A+1):=List.drop_eq_getElem_cons hlt
    by_cases h12:i=12
    · have c12:((A:Int) - a<12)=False:=eq_false (by omega)
      have i0':((A:Int)=a)=False:=eq_false (by omega)
      rw [fin (.inr h12),hl,hAi]
      simp -implicitDefEqProofs [hlt,i0',w1,c12,hb,e1]
    · have c12:((A:Int) - a<12)=True:=eq_true (by omega)
      have hsl:=bndsI (n:=s.length) (lo:=(A:Int)) (hi:=(A:Int)+1) (by omega)
      have t2:((A:Int)+1).toNat=A+1:=by omega
      have hs1:(s.take (A+1)).drop A=[s[A]]:=by
        rw [← List.take_append_getElem hlt,List.drop_append_of_le_length (by simp;omega)]
        simp [List.drop_eq_nil_of_le]
      have en:=afk [65,s[A]] (by simp [lim])
      rw [aqn] at en
      by_cases hr:isRest s[A]=true
      · rw [hr] at en
        have hP2:(s.drop a).takeWhile isRest=(s.drop a).take (i+1)++(s.drop (A+1)).takeWhile isRest:=by
          rw [hP,hd,List.takeWhile_cons,if_pos hr]
          have h3:i<(s.drop a).length:=by rw [List.length_drop];omega
          rw [← List.take_append_getElem h3,List.getElem_drop,List.append_assoc]
          simp only [← hA];rfl
        have hmn:i<min 12 (s.length - a):=by omega
        by_cases i0:(A:Int)=a
        · have i0:=eq_true i0
          simp -implicitDefEqProofs [hlt,i0,hsl,t2,hs1,en,w2,c2,Next]
          refine ⟨⟨hmn,by rw [show a+(i+1)=A+1 by omega];exact hP2⟩,by omega⟩
        · have i0:=eq_false i0
          simp -implicitDefEqProofs [hlt,i0,w1,c12,hsl,t2,hs1,en,w2,c2,Next]
          refine ⟨⟨hmn,by rw [show a+(i+1)=A+1 by omega];exact hP2⟩,by omega⟩
      · have hr':isRest s[A]=false:=by simpa using hr
        rw [hr'] at en
        have h0:(s.drop A).takeWhile isRest=[]:=by rw [hd,List.takeWhile_cons,if_neg hr]
        rw [fin (.inl h0),hl,hAi]
        by_cases i0:(A:Int)=a
        · have i0:=eq_true i0
          simp -implicitDefEqProofs [hlt,i0,hsl,t2,hs1,en,w2,c2,hb,e1]
        · have i0:=eq_false i0
          simp -implicitDefEqProofs [hlt,i0,w1,c12,hsl,t2,hs1,en,w2,c2,hb,e1]
  · have h0:(s.drop A).takeWhile isRest=[]:=by rw [List.drop_eq_nil_of_le (by omega)];rfl
    rw [fin (.inl h0),hl,hAi]
    simp -implicitDefEqProofs [hlt,hb,e1]
end Go.VS
end
