/-
  Numbers, texts, elements: what both packages answer.
-/
import Derived.Test.YtmmbgajolgbhnaaGreatDoorD2
set_option linter.all false
section
namespace Go.VS
set_option maxRecDepth 4000
def revA (b:Bs) (i:Nat):Bs:=(List.range b.length).map fun j=>if j<i∨b.length - 1 - j<i then b.getD (b.length - 1 - j) 0 else b.getD j 0
@[simp] theorem revA_len (b:Bs) (i:Nat):(revA b i).length=b.length:=by simp [revA]
theorem asm (b:Bs):revA b 0=b:=by
  refine List.ext_getElem (by simp) fun j h1 h2=>?_
  simp [revA,List.getD,h2]
theorem aua (b:Bs):revA b (b.length / 2)=b.reverse:=by
  refine List.ext_getElem (by simp) fun j h1 h2=>?_
  have h:j<b.length:=by simpa using h1
  have h3:b.length - 1 - j<b.length:=by omega
  simp only [revA,List.getElem_map,List.getElem_range,List.getElem_reverse,List.getD,List.getElem?_eq_getElem h,List.getElem?_eq_getElem h3,Option.getD_some]
  split
  · rfl
  · congr 1;omega
theorem ap6 (b:Bs) {i j:Nat} (h:j<b.length) (h1:¬ j<i) (h2:¬ b.length - 1 - j<i):(revA b i)[j]?.getD 0=b.getD j 0:=by
  rw [List.getElem?_eq_getElem (by simpa using h)]
  simp [revA,h1,h2]
theorem asl (b:Bs) {i:Nat} (h:i<b.length / 2):((revA b i).set i (b.getD (b.length - 1 - i) 0)).set (b.length - 1 - i) (b.getD i 0)=revA b (i+1):=by
  refine List.ext_getElem (by simp) fun j h1 h2=>?_
  have hj:j<b.length:=by simpa using h2
  rw [List.getElem_set,List.getElem_set]
  simp only [revA,List.getElem_map,List.getElem_range]
  by_cases e1:b.length - 1 - i=j
  · subst e1
    rw [if_pos rfl,if_pos (by omega)]
    congr 1;omega
  · rw [if_neg e1]
    by_cases e2:i=j
    · subst e2
      rw [if_pos rfl,if_pos (by omega)]
    · rw [if_neg e2]
      by_cases e3:j<i∨b.length - 1 - j<i
      · rw [if_pos e3,if_pos (by omega)]
      · rw [if_neg e3,if_neg (by omega)]
theorem aml (l:Bs) {j:Nat} (h:j<(bytesV l).length):(bytesV l)[j]=.i .u8 ((l[j]'(by simpa using h)).toNat:Int):=List.getElem_map _
theorem ame (b:Bs) (hl:b.length≤lim) (K:Out→Prop):
    Call prog 1544 ⟨[.sl 0 0 b.length false],[],[.row 1 false (bytesV b)]⟩ K=K (.tup [],[],[.row 1 false (bytesV b.reverse)]):=by
  refine aeh ?_ K
  rw [anw (p:=prog) (f:=1544) rfl _ _ _ rfl (by decide) rfl]
  unfold lim at hl
  have hw0:=wrap_i64 (n:=(b.length:Int) - 1) (by omega) (by omega)
  simp -implicitDefEqProofs [hw0]
  refine WL_for (fun i=>⟨sp 28 [(0,.sl 0 0 b.length false),(2,.i .i64 i),(3,.i .i64 ((b.length:Int) - 1 - i))],[],[.row 1 false (bytesV (revA b i))]⟩) (b.length / 2) (fun _=>True) _ (by simp -implicitDefEqProofs [asm]) trivial ?_
  intro i hi _
  by_cases hlt:i<b.length / 2
  · have h1:((i:Int)<(b.length:Int) - 1 - i)=True:=eq_true (by omega)
    have e1:(b.length:Int) - 1 - i=((b.length - 1 - i:Nat):Int):=by omega
    have e2:(b.length:Int) - 1 - (i+1)=(b.length:Int) - 1 - i - 1:=by omega
    have hw:=wrap_i64 (n:=(i:Int)+1) (by omega) (by omega)
    have hw2:=wrap_i64 (n:=((b.length - 1 - i:Nat):Int) - 1) (by omega) (by omega)
    have h3:i<b.length:=by omega
    have h4:b.length - 1 - i<b.length:=by omega
    have g1:=agk (x:=revA b i) (i:=i) (by simpa using h3)
    have g2:=agk (x:=revA b i) (i:=b.length - 1 - i) (by simpa using h4)
    rw [ap6 b h3 (by omega) (by omega)] at g1
    rw [ap6 b h4 (by omega) (by omega)] at g2
    have s1:=ahz (revA b i) i (b.getD (b.length - 1 - i) 0)
    have s2:=ahz ((revA b i).set i (b.getD (b.length - 1 - i) 0)) (b.length - 1 - i) (b.getD i 0)
    rw [asl b hlt] at s2
    rw [e1] at h1
    rw [e1] at e2
    generalize b.getD (b.length - 1 - i) 0=x at g2 s1 s2
    generalize b.getD i 0=y at g1 s2
    have q1:∀ h:i<(bytesV (revA b i)).length,(bytesV (revA b i))[i]=.i .u8 (y.toNat:Int):=fun h=>by rw [← g1,List.getElem?_eq_getElem h];rfl
    have q2:∀ h:b.length - 1 - i<(bytesV (revA b i)).length,(bytesV (revA b i))[b.length - 1 - i]=.i .u8 (x.toNat:Int):=fun h=>by rw [← g2,List.getElem?_eq_getElem h];rfl
    have q3:∀ h:b.length - 1 - i<(bytesV ((revA b i).set i x)).length,(bytesV ((revA b i).set i x))[b.length - 1 - i]=.i .u8 (((revA b i).set i x)[b.length - 1 - i]'(by simpa using h)).toNat:=fun h=>aml _ h
    simp -implicitDefEqProofs [hlt,e1,e2,h1,h3,h4,q1,q2,q3,s1,s2,hw,hw2,Next]
  · have e:i=b.length / 2:=by omega
    have h1:((b.length:Int) / 2<(b.length:Int) - 1 - (b.length:Int) / 2)=False:=eq_false (by omega)
    subst e
    simp -implicitDefEqProofs [h1,aua]
theorem ad3 (b:Bs) (hl:b.length≤lim) (K:Out→Prop):Call prog 505 ⟨[.s b],[],[]⟩ K=K (.s b.reverse,[],[]):=by
  refine Zc (f:=505) rfl rfl (by decide) ?_
  have e:=ame b hl
  have ht:=ahx b.reverse (List.length_reverse (as:=b))
  simp -implicitDefEqProofs [hl,e,cvsV,ht]
end Go.VS
end
section
namespace Go.VS
set_option maxRecDepth 4000
attribute [-simp] isLeaf okRet ridL V.leaves
def ord (bg:Bool) (b:Bs):Bs:=if bg then b.reverse else b
@[simp] theorem ord_len (bg:Bool) (b:Bs):(ord bg b).length=b.length:=by cases bg <;> simp [ord]
def sgnI (k:Nat) (n:Int):Int:=if 2 ^ (8*k - 1)≤n then n - 2 ^ (8*k) else n
def numB (sg:Bool) (k:Nat) (b:Bs):Int:=if sg then sgnI k (leI b) else leI b
def Ty.num (t:Ty) (b:Bs):Int:=numB t.sg t.size.toNat (ord t.bg b)
def Ty.put (t:Ty) (n:Int):Bs:=ord t.bg (leB n t.size.toNat)
theorem avx {n:Int} {k:Nat} (hk:k=1∨k=2∨k=4∨k=8) (h0:0≤n) (h1:n<256 ^ k):
    shrI .i64 (IntKind.i64.wrap (shlI .u64 n (64 - 8*(k:Int)))) (64 - 8*(k:Int))=sgnI k n:=by
  rcases hk with rfl | rfl | rfl | rfl <;> simp [shlI,shrI,sgnI,IntKind.wrap,IntKind.bits,IntKind.signed,Int.fdiv_eq_ediv_of_nonneg] at h1 ⊢ <;> (repeat' split) <;> omega
theorem ajs (b:Bs) (hk:b.length=1∨b.length=2∨b.length=4∨b.length=8) (K:Out→Prop):
    Call prog 527 ⟨[.s b],[],[]⟩ K=K (.i .i64 (sgnI b.length (leI b)),[],[]):=by
  refine Zc (f:=527) rfl rfl (by decide) ?_
  have e:=afc b (by omega)
  have hb:=leI_bd b
  have hw:=wrap_i64 (n:=8*(b.length:Int)) (by omega) (by omega)
  have hw2:=wrap_i64 (n:=64 - 8*(b.length:Int)) (by omega) (by omega)
  have h8:¬ 64 - 8*(b.length:Int)<0:=by omega
  have hs:=avx hk hb.1 hb.2
  simp -implicitDefEqProofs [e,hw,hw2,h8,hs]
theorem IntF.len {t:Ty} (h:IntF t):t.size.toNat=1∨t.size.toNat=2∨t.size.toNat=4∨t.size.toNat=8:=by have:=h.s;omega
theorem IntF.nat {t:Ty} (h:IntF t):t.size=(t.size.toNat:Int):=by have:=h.s;omega
theorem afh (t:Ty) (h:IntF t) (k:t.kind≠3) (b:Bs) (hb:b.length=t.size.toNat) (K:Out→Prop):
    Call prog 479 ⟨[t.w,.s b],[],[]⟩ K=K (.i .i64 (t.num b),[],[]):=by
  refine Zc (f:=479) rfl rfl (by decide) ?_
  have hl:=h.len
  have f3:(t.kind=3)=False:=eq_false k
  have e1:=ad3 b (by unfold lim;omega)
  have lr:b.reverse.length=b.length:=List.length_reverse
  have e2:=ajs b (by omega)
  have e3:=ajs b.reverse (by omega)
  have e4:=afc b (by omega)
  have e5:=afc b.reverse (by omega)
  have b1:=leI_bd b
  have b2:=leI_bd b.reverse
  have w:∀ n:Int,t.sg=false→0≤n→n<256 ^ t.size.toNat→IntKind.i64.wrap n=n:=by
    intro n sg h0 h1
    have:t.size.toNat≠8:=fun e=>by have:=h.g (by omega);simp [sg] at this
    refine wrap_i64 (by omega) ?_
    have:=ao5 (i:=t.size.toNat) (by omega)
    omega
  rw [hb] at b1 e2
  rw [lr,hb] at b2 e3
  unfold Ty.num numB ord
  cases hbg:t.bg <;> cases hsg:t.sg
  · have w1:=w _ hsg b1.1 b1.2
    simp -implicitDefEqProofs [f3,hbg,hsg,e4,w1]
  · simp -implicitDefEqProofs [f3,hbg,hsg,e2]
  · have w1:=w _ hsg b2.1 b2.2
    simp -implicitDefEqProofs [f3,hbg,hsg,e1,e5,w1]
  · simp -implicitDefEqProofs [f3,hbg,hsg,e1,e3]
theorem agj (t:Ty) (h:IntF t) (k:t.kind≠3) (n:Int) (K:Out→Prop):
    Call prog 476 ⟨[t.w,.i .i64 n],[],[]⟩ K=K (.s (t.put n),[],[]):=by
  refine Zc (f:=476) rfl rfl (by decide) ?_
  have hl:=h.len
  have f3:(t.kind=3)=False:=eq_false k
  have e1:=ad3 (leB n t.size.toNat) (by rw [leB_len];unfold lim;omega)
  have e2:=alv n t.size.toNat (by omega)
  rw [← h.nat] at e2
  unfold Ty.put ord
  cases hbg:t.bg <;> simp -implicitDefEqProofs [f3,hbg,e1,e2]
end Go.VS
end
section
namespace Go.VS
set_option maxRecDepth 4000
attribute [-simp] isLeaf okRet ridL V.leaves
theorem asz {a b:Int} (h:a % 18446744073709551616=b % 18446744073709551616):IntKind.i64.wrap a=IntKind.i64.wrap b:=by
  simp only [IntKind.wrap,IntKind.bits,IntKind.signed]
  have e:(2:Int) ^ 64=18446744073709551616:=rfl
  simp only [e,h]
theorem aqi (a:Int):IntKind.i64.wrap a % 18446744073709551616=a % 18446744073709551616:=by
  simp only [IntKind.wrap,IntKind.bits,IntKind.signed]
  have e:(2:Int) ^ 64=18446744073709551616:=rfl
  have e2:(2:Int) ^ 63=9223372036854775808:=rfl
  simp only [e,e2]
  (repeat' split) <;> omega
theorem avp (m:Int) {c:Nat} (hc:c<256):borI .i64 (shlI .i64 (IntKind.i64.wrap m) 8) (c:Int)=IntKind.i64.wrap (256*m+c):=by
  have h1:shlI .i64 (IntKind.i64.wrap m) 8 % 18446744073709551616=(256*m) % 18446744073709551616:=by
    unfold shlI
    rw [aqi]
    have:=aqi m
    simp only [IntKind.bits]
    have e:(2:Int) ^ (min (8:Int).toNat 64)=256:=rfl
    rw [e];omega
  generalize shlI .i64 (IntKind.i64.wrap m) 8=x at h1
  unfold borI
  refine asz ?_
  have hx:(BitVec.ofInt IntKind.i64.bits x).toNat=(x % 18446744073709551616).toNat:=by
    rw [show IntKind.i64.bits=64 from rfl,BitVec.toNat_ofInt];rfl
  have hy:(BitVec.ofInt IntKind.i64.bits (c:Int)).toNat=c:=by
    rw [show IntKind.i64.bits=64 from rfl,BitVec.toNat_ofInt];omega
  rw [BitVec.toNat_or,hx,hy,h1]
  obtain ⟨q,hq⟩:∃ q:Nat,((256*m) % 18446744073709551616).toNat=2 ^ 8*q:=⟨(m % 72057594037927936).toNat,by omega⟩
  rw [hq,← Nat.two_pow_add_eq_or_of_lt (by omega:c<2 ^ 8)]
  push_cast
  omega
theorem avq (bg:Bool) (b:Bs) {i:Nat} (h:i<b.length):(ord bg b)[b.length - 1 - i]'(by simp;omega)=b[if bg then i else b.length - 1 - i]'(by split <;> omega):=by
  cases bg
  · rfl
  · simp only [ord,if_true,List.getElem_reverse]
    congr 1;omega
theorem at7 (l:Bs) {i:Nat} (h:i<l.length):borI .i64 (shlI .i64 (IntKind.i64.wrap (leI (l.drop (l.length - i)))) 8) ((l[l.length - 1 - i]'(by omega)).toNat:Int)=IntKind.i64.wrap (leI (l.drop (l.length - (i+1)))):=by
  rw [avp _ (UInt8.toNat_lt _)]
  have:=alo (l:=l) (i:=l.length - (i+1)) (by omega)
  rw [this,show l.length - (i+1)+1=l.length - i by omega]
  congr 1
  rw [Int.add_comm]
  have e:∀ j k (hj:j<l.length) (hk:k<l.length),j=k→l[j]=l[k]:=fun j k _ _ e=>by subst e;rfl
  rw [e (l.length - 1 - i) (l.length - (i+1)) (by omega) (by omega) (by omega)]
theorem aj4 (t:Ty) (h:IntF t) (b:Bs) (hb:b.length=t.size.toNat) (K:Out→Prop):
    Call prog 464 ⟨[t.w,.s b],[],[]⟩ K=K (.i .i64 (t.num b),[],[]):=by
  refine Zc (f:=464) rfl rfl (by decide) ?_
  have hl:=h.len
  have ll:=ord_len t.bg b
  have l8:b.length≤8:=by omega
  have e0:(ord t.bg b).drop b.length=[]:=List.drop_eq_nil_of_le (by omega)
  have w0:=wrap_i64 (n:=0) (by omega) (by omega)
  simp -implicitDefEqProofs
  refine WL_for (fun i=>⟨sp 54 [(1,.s b),(2,.ptr 0 0),(5,.i .i64 (IntKind.i64.wrap (leI ((ord t.bg b).drop ((ord t.bg b).length - i))))),(6,.i .i64 i)],[t.k],[]⟩) b.length (fun _=>True) _ (by simp -implicitDefEqProofs [leI,e0,w0]) trivial ?_
  intro i hi _
  by_cases hlt:i<b.length
  · have hw:=wrap_i64 (n:=(i:Int)+1) (by omega) (by omega)
    have hw1:=wrap_i64 (n:=(b.length:Int) - 1) (by omega) (by omega)
    have e1:(b.length:Int) - 1 - i=((b.length - 1 - i:Nat):Int):=by omega
    have hw2:=wrap_i64 (n:=(b.length:Int) - 1 - i) (by omega) (by omega)
    have h4:b.length - 1 - i<b.length:=by omega
    have st:=at7 (ord t.bg b) (i:=i) (by omega)
    have og:=avq t.bg b hlt
    simp only [ll] at st ⊢
    rw [og] at st
    have w8:∀ x:UInt8,IntKind.i64.wrap (x.toNat:Int)=x.toNat:=fun x=>by have:=x.toNat_lt;exact wrap_i64 (by omega) (by omega)
    rw [e1] at hw2
    cases hbg:t.bg
    · rw [hbg] at st
      simp only [Bool.false_eq_true,if_false] at st
      simp -implicitDefEqProofs [hbg,hlt,h4,hw,hw1,hw2,e1,st,w8,Next]
    · rw [hbg] at st
      simp only [if_true] at st
      simp -implicitDefEqProofs [hbg,hlt,h4,hw,hw1,hw2,e1,st,w8,Next]
  · obtain rfl:i=b.length:=by omega
    simp only [ll,Nat.sub_self,List.drop_zero]
    have bd:=leI_bd (ord t.bg b)
    rw [ll,hb] at bd
    unfold Ty.num numB
    generalize leI (ord t.bg b)=n at bd
    by_cases s8:t.size=8
    · have e:IntKind.i64.wrap n=sgnI t.size.toNat n:=by
        rw [s8] at bd ⊢
        simp [IntKind.wrap,IntKind.bits,IntKind.signed,sgnI] at bd ⊢
        (repeat' split) <;> omega
      have sg:=h.g s8
      have h8:(t.size<8)=False:=eq_false (by omega)
      simp -implicitDefEqProofs [sg,h8,e]
    · have s1:=h.s
      have w:IntKind.i64.wrap n=n:=by
        refine wrap_i64 (by omega) ?_
        have:=ao5 (i:=t.size.toNat) (by omega)
        omega
      cases hsg:t.sg
      · simp -implicitDefEqProofs [hsg,w]
      have h8:(t.size<8)=True:=eq_true (by omega)
      have w1:=wrap_i64 (n:=8*t.size) (by omega) (by omega)
      have w2:=wrap_i64 (n:=8*t.size - 1) (by omega) (by omega)
      have w3:=wrap_u64 (n:=8*t.size) (by omega) (by omega)
      have w4:=wrap_u64 (n:=8*t.size - 1) (by omega) (by omega)
      have n1:¬ 8*t.size<0:=by omega
      have n2:¬ 8*t.size - 1<0:=by omega
      have k1:shlI .i64 1 (8*t.size - 1)=2 ^ (8*t.size.toNat - 1):=by
        rcases (by omega:t.size=1∨t.size=2∨t.size=4) with e | e | e <;> rw [e] <;> rfl
      have k2:shlI .i64 1 (8*t.size)=2 ^ (8*t.size.toNat):=by
        rcases (by omega:t.size=1∨t.size=2∨t.size=4) with e | e | e <;> rw [e] <;> rfl
      have k3:IntKind.i64.wrap (n - 2 ^ (8*t.size.toNat))=n - 2 ^ (8*t.size.toNat):=by
        rcases (by omega:t.size=1∨t.size=2∨t.size=4) with e | e | e <;> rw [e] at bd ⊢ <;> simp at bd ⊢ <;> exact wrap_i64 (by omega) (by omega)
      unfold sgnI
      by_cases c:2 ^ (8*t.size.toNat - 1)≤n
      · rw [if_pos c]
        have c':=eq_true c
        simp -implicitDefEqProofs [hsg,h8,w,w1,w2,w3,w4,n1,n2,k1,k2,k3,c']
      · rw [if_neg c]
        have c':=eq_false c
        simp -implicitDefEqProofs [hsg,h8,w,w1,w2,w3,w4,n1,n2,k1,k2,k3,c']
end Go.VS
end
section
namespace Go.VS
set_option maxRecDepth 4000
attribute [-simp] isLeaf okRet ridL V.leaves
theorem am7 (n:Int) (k:Nat) (hk:k≤8) (K:Out→Prop):Call prog 250 ⟨[.i .i64 n,.i .i64 k,.b true],[],[]⟩ K=K (.s (leB n k).reverse,[],[]):=by
  refine Zc (f:=250) rfl rfl (by decide) ?_
  simp -implicitDefEqProofs
  refine WL_for (fun i=>⟨sp 30 [(0,.i .i64 n),(1,.i .i64 k),(2,.b true),(7,.s (leB n i).reverse),(8,.i .i64 i)],[],[]⟩) k (fun _=>True) _ (by simp -implicitDefEqProofs [leB]) trivial ?_
  intro i hi _
  by_cases hlt:i<k
  · have hw:=wrap_i64 (n:=(i:Int)+1) (by omega) (by omega)
    have hw8:=wrap_i64 (n:=8*(i:Int)) (by omega) (by omega)
    have hw9:=wrap_u64 (n:=8*(i:Int)) (by omega) (by omega)
    have h8:¬ 8*(i:Int)<0:=by omega
    have e:=fun K=>afe (bandI .i64 (shrI .i64 n (8*(i:Int))) 255) K
    rw [aln,amk] at e
    have h9:i+1≤lim:=by unfold lim;omega
    have h10:1+i≤lim:=by unfold lim;omega
    simp -implicitDefEqProofs [hlt,hw,hw8,hw9,h8,h9,h10,e,ahi,Next]
  · obtain rfl:i=k:=by omega
    simp -implicitDefEqProofs
theorem art (t:Ty) (h:IntF t) (n:Int) (K:Out→Prop):Call prog 250 ⟨[.i .i64 n,.i .i64 t.size,.b t.bg],[],[]⟩ K=K (.s (t.put n),[],[]):=by
  have hl:=h.len
  unfold Ty.put ord
  rw [h.nat,Int.toNat_natCast]
  cases t.bg
  · exact aoo n _ (by omega) K
  · exact am7 n _ (by omega) K
theorem abd {t:Ty} (h:GdN t) (n:Int) (K:Out→Prop):Call prog 478 ⟨[t.w,.i .i64 n],[],[]⟩ K=K (.s (t.it.put n),[],[]):=by
  refine Zc (f:=478) rfl rfl (by decide) ?_
  have e1:=h.l03
  have e2:=art t.it h.it n
  simp -implicitDefEqProofs [e1,e2]
theorem GdN.ref_it {t:Ty} (h:GdN t) (k:t.kind=6):IntF t∧(∀ b,t.num b=t.it.num b)∧(∀ n,t.put n=t.it.put n):=by
  obtain ⟨s,p,_⟩:=h.ref k
  refine ⟨⟨.inr (.inl s),fun h=>by omega,fun h=>by omega⟩,?_⟩
  unfold Ty.num Ty.put Ty.it
  rw [if_neg (by omega),if_neg (by omega),if_pos k,p.s,p.b,s]
  exact ⟨fun _=>rfl,fun _=>rfl⟩
theorem adk {t:Ty} (h:GdN t) (b:Bs) (hb:b.length=t.it.size.toNat) (K:Out→Prop):
    Call prog 479 ⟨[t.w,.s b],[],[]⟩ K=K (.i .i64 (t.it.num b),[],[]):=by
  rcases h.n with k | k | k
  · have e:t.it=t:=by unfold Ty.it;rw [if_pos k]
    rw [e] at hb ⊢
    exact afh t (h.int k).toIntF (by omega) b hb K
  · refine aeh ?_ K
    rw [aar (p:=prog) (f:=479) rfl _ _ _ rfl (by decide)]
    obtain ⟨c,hc,k1,ig,_⟩:=(h.en k).ba
    have e:t.it=c:=by unfold Ty.it;rw [if_neg (by omega),if_pos k,hc];rfl
    rw [e] at hb ⊢
    have e1:=afh c ig.toIntF (by omega) b hb
    have k':=eq_true k
    simp -implicitDefEqProofs [k',hc,Ty.v_w,e1]
  · obtain ⟨i,e,_⟩:=h.ref_it k
    have s:t.it.size=2:=by unfold Ty.it;rw [if_neg (by omega),if_neg (by omega),if_pos k];rfl
    rw [← e]
    exact afh t i (by omega) b (by rw [hb,s,(h.ref k).1]) K
theorem ah0 {t:Ty} (h:GdN t) (n:Int) (K:Out→Prop):
    Call prog 476 ⟨[t.w,.i .i64 n],[],[]⟩ K=K (.s (t.it.put n),[],[]):=by
  rcases h.n with k | k | k
  · have e:t.it=t:=by unfold Ty.it;rw [if_pos k]
    rw [e]
    exact agj t (h.int k).toIntF (by omega) n K
  · refine aeh ?_ K
    rw [aar (p:=prog) (f:=476) rfl _ _ _ rfl (by decide)]
    obtain ⟨c,hc,k1,ig,_⟩:=(h.en k).ba
    have e:t.it=c:=by unfold Ty.it;rw [if_neg (by omega),if_pos k,hc];rfl
    rw [e]
    have e1:=agj c ig.toIntF (by omega) n
    have k':=eq_true k
    simp -implicitDefEqProofs [k',hc,Ty.v_w,e1]
  · obtain ⟨i,_,e⟩:=h.ref_it k
    rw [← e]
    exact agj t i (by omega) n K
end Go.VS
end
section
namespace Go.VS
set_option maxRecDepth 4000
attribute [-simp] isLeaf okRet ridL V.leaves
def TxtOk (b:Bs):Prop:=¬ (0:UInt8) ∈ trimR 0 b
theorem akn (l:Bs) (c:UInt8):trimR 0 (l++[c])=if c=0 then trimR 0 l else l++[c]:=by
  unfold trimR
  rw [List.reverse_append]
  simp only [List.reverse_cons,List.reverse_nil,List.nil_append,List.singleton_append,List.dropWhile_cons]
  by_cases h:c=0
  · simp [h]
  · simp [h]
theorem al1 {P:Bs→Prop} (h0:P []) (h1:∀ l c,P l→P (l++[c])) (b:Bs):P b:=by
  have:∀ l:Bs,P l.reverse:=by
    intro l
    induction l with
    | nil=>exact h0
    | cons c l ih=>rw [List.reverse_cons];exact h1 _ _ ih
  rw [← List.reverse_reverse b];exact this _
theorem asw (b:Bs):TxtOk b ↔ ∀ j (h:j<b.length),(0:UInt8) ∈ b.take j→b[j]=0:=by
  unfold TxtOk
  induction b using al1 with
  | h0=>simp [trimR]
  | h1 l c ih=>
    rw [akn]
    have key:(∀ j (h:j<(l++[c]).length),(0:UInt8) ∈ (l++[c]).take j→(l++[c])[j]=0) ↔ (∀ j (h:j<l.length),(0:UInt8) ∈ l.take j→l[j]=0)∧(0 ∈ l→c=0):=by
      constructor
      · intro h
        refine ⟨fun j hj h0=>?_,fun h0=>?_⟩
        · have:=h j (by simp;omega) (by rw [List.take_append_of_le_length (by omega)];exact h0)
          rwa [List.getElem_append_left hj] at this
        · have:=h l.length (by simp) (by rw [List.take_append_of_le_length (by omega),List.take_length];exact h0)
          simpa using this
      · intro ⟨h1,h2⟩ j hj h0
        by_cases e:j<l.length
        · rw [List.getElem_append_left e]
          rw [List.take_append_of_le_length (by omega)] at h0
          exact h1 j e h0
        · have:j=l.length:=by simp at hj;omega
          subst this
          rw [List.take_append_of_le_length (by omega),List.take_length] at h0
          simpa using h2 h0
    rw [key]
    by_cases h:c=0
    · rw [if_pos h,ih]
      exact ⟨fun q=>⟨q,fun _=>h⟩,fun q=>q.1⟩
    · rw [if_neg h]
      constructor
      · intro q
        have q':¬ (0:UInt8) ∈ l:=fun m=>q (by simp [m])
        exact ⟨fun j hj h0=>absurd (List.mem_of_mem_take h0) q',fun m=>absurd m q'⟩
      · intro q m
        rcases List.mem_append.mp m with m | m
        · exact h (q.2 m)
        · simp at m;exact h m.symm
theorem am8 (b:Bs) (hl:b.length≤lim) (K:Out→Prop):Call prog 511 ⟨[.s b],[],[]⟩ K=K (.b (tB (TxtOk b)),[],[]):=by
  refine Zc (f:=511) rfl rfl (by decide) ?_
  unfold lim at hl
  simp -implicitDefEqProofs
  refine WL_for (fun i=>⟨sp 25 [(0,.s b),(3,.b (decide ((0:UInt8) ∈ b.take i))),(4,.i .i64 i)],[],[]⟩) b.length (fun i=>∀ j (h:j<b.length),j<i→(0:UInt8) ∈ b.take j→b[j]=0) _ (by simp -implicitDefEqProofs) (fun j _ h=>by omega) ?_
  intro i hi hP
  by_cases hlt:i<b.length
  · have hw:=wrap_i64 (n:=(i:Int)+1) (by omega) (by omega)
    have ht:b.take (i+1)=b.take i++[b[i]]:=(List.take_append_getElem hlt).symm
    by_cases z:b[i]=0
    · have z1:(b[i].toNat:Int)=0:=by rw [z];rfl
      have m1:(0:UInt8) ∈ b.take (i+1):=by rw [ht,z];simp
      have n:∀ j (h:j<b.length),j<i+1→(0:UInt8) ∈ b.take j→b[j]=0:=fun j h hj h0=>by
        by_cases e:j<i
        · exact hP j h e h0
        · obtain rfl:j=i:=by omega
          exact z
      by_cases m:(0:UInt8) ∈ b.take i
      · simp -implicitDefEqProofs [hlt,hw,z,z1,m1,m,Next]
        exact n
      · simp -implicitDefEqProofs [hlt,hw,z,z1,m1,m,Next]
        exact n
    · have z1:¬ (b[i].toNat:Int)=0:=fun h=>z (UInt8.toNat_inj.1 (by simpa using h))
      have z2:¬ b[i].toNat=0:=by omega
      by_cases m:(0:UInt8) ∈ b.take i
      · have e:tB (TxtOk b)=false:=tB_f fun h=>z ((asw b).mp h i hlt m)
        simp -implicitDefEqProofs [hlt,hw,z,z1,z2,m,e,Next]
      · have m1:¬ (0:UInt8) ∈ b.take (i+1):=by rw [ht,List.mem_append,List.mem_singleton];exact fun h=>h.elim m fun h=>z h.symm
        have n:∀ j (h:j<b.length),j<i+1→(0:UInt8) ∈ b.take j→b[j]=0:=fun j h hj h0=>by
          by_cases e:j<i
          · exact hP j h e h0
          · obtain rfl:j=i:=by omega
            exact absurd h0 m
        simp -implicitDefEqProofs [hlt,hw,z,z1,z2,m1,m,Next]
        exact n
  · obtain rfl:i=b.length:=by omega
    have e:tB (TxtOk b)=true:=tB_t ((asw b).mpr fun j h h0=>hP j h h h0)
    simp -implicitDefEqProofs [e]
theorem ajv (l:Bs) (c:UInt8) (hl:l.length≤lim) (K:Out→Prop):Call prog 528 ⟨[.s l,.s [c]],[],[]⟩ K=K (.b (decide (c ∈ l)),[],[]):=by
  rw [abw (p:=prog) (f:=528) rfl]
  have:nContainsB ⟨[.s l,.s [c]],[],[]⟩=some (.b (decide (c ∈ l)),[],[]):=by
    simp only [nContainsB]
    rw [if_pos hl]
  rw [this,ac3]
theorem ago (b:Bs):∃ k,b=trimR 0 b++List.replicate k 0:=by
  induction b using al1 with
  | h0=>exact ⟨0,by simp [trimR]⟩
  | h1 l c ih=>
    rw [akn]
    by_cases h:c=0
    · obtain ⟨k,hk⟩:=ih
      rw [if_pos h]
      refine ⟨k+1,?_⟩
      rw [List.replicate_succ',← List.append_assoc,← hk,h]
    · rw [if_neg h];exact ⟨0,by simp⟩
theorem afn (b:Bs):(trimR 0 b).length≤b.length:=by
  obtain ⟨k,hk⟩:=ago b
  have:b.length=(trimR 0 b++List.replicate k 0).length:=by rw [← hk]
  simp at this;omega
end Go.VS
end
section
namespace Go.VS
set_option maxRecDepth 4000
attribute [-simp] isLeaf okRet ridL V.leaves
abbrev sl (b:Bs) (i j:Int):Bs:=(b.take j.toNat).drop i.toNat
def gapTo (t:Ty) (i:Nat):Int:=if h:i<t.ms.length then t.ms[i].off else t.size
def GapAt (t:Ty) (b:Bs) (i:Nat):Prop:=∀ p:Nat,endOf t.ms i≤p→(p:Int)<gapTo t i→b.getD p 0=0
def Ok:Nat→Ty→Bs→Prop
  | 0,_,_=>False
  | d+1,t,b=>(b.length:Int)=t.sz∧(t.kind=2→TxtOk b)∧(t.kind=3→t.it.num b ∈ t.nums) ∧
      (t.kind=4→∀ i,i≤t.ms.length→GapAt t b i∧∀ h:i<t.ms.length,Ok d t.ms[i].ty (sl b t.ms[i].off (t.ms[i].off+t.ms[i].ty.sz))) ∧
      (t.kind=5→∀ c,c ∈ t.base→∀ k:Nat,(k:Int)<t.count→Ok d c (sl b (k*c.sz) ((k+1)*c.sz)))
theorem Gd.comp {d:Nat} {t:Ty} (g:Gd (d+1) t) (k:t.kind=4):CompG t∧∀ m,m ∈ t.ms→Gd d m.ty:=by
  rcases g with h | h | h | h | h | h <;> first | exact h.2 | (have:=h.1;omega)
theorem Gd.arr {d:Nat} {t:Ty} (g:Gd (d+1) t) (k:t.kind=5):ArrG t∧∃ b,t.base=[b]∧Gd d b∧t.sz≤24:=by
  rcases g with h | h | h | h | h | h <;> first | exact h.2 | (have:=h.1;omega)
theorem Gd.txt {d:Nat} {t:Ty} (g:Gd (d+1) t) (k:t.kind=2):1≤t.size∧t.size≤16∧Plain t∧Bare t:=by
  rcases g with h | h | h | h | h | h <;> first | exact h.2 | (have:=h.1;omega)
theorem Gd.kind {d:Nat} {t:Ty} (g:Gd (d+1) t):1≤t.kind∧t.kind≤6:=by
  rcases g with h | h | h | h | h | h <;> (have:=h.1;omega)
structure Lay (l:List Mb) (size:Int):Prop where
  lo:∀ i (h:i<l.length),endOf l i≤l[i].off
  sz:∀ i (h:i<l.length),1≤l[i].ty.sz
  en:endOf l l.length≤size
theorem Gd.lay {d:Nat} {t:Ty} (g:Gd (d+1) t) (k:t.kind=4):Lay t.ms t.size:=by
  obtain ⟨c,h⟩:=g.comp k
  exact ⟨fun i hi=>(c.ms i t.ms[i] (List.getElem?_eq_getElem hi)).lo,fun i hi=>(h _ (List.getElem_mem hi)).sz.1,c.en⟩
theorem Lay.step {l:List Mb} {s:Int} (h:Lay l s) {i:Nat} (hi:i<l.length):endOf l i<endOf l (i+1):=by
  rw [aah hi]
  have:=h.lo i hi
  have:=h.sz i hi
  omega
theorem Lay.mono {l:List Mb} {s:Int} (h:Lay l s) {i j:Nat} (hij:i≤j) (hj:j≤l.length):endOf l i≤endOf l j:=by
  induction hij with
  | refl=>exact Int.le_refl _
  | step _ ih=>exact Int.le_trans (ih (by omega)) (Int.le_of_lt (h.step (by omega)))
theorem Lay.nn {l:List Mb} {s:Int} (h:Lay l s) {i:Nat} (hi:i≤l.length):0≤endOf l i:=h.mono (Nat.zero_le i) hi
theorem Lay.le {l:List Mb} {s:Int} (h:Lay l s) {i:Nat} (hi:i≤l.length):endOf l i≤s:=Int.le_trans (h.mono hi (Nat.le_refl _)) h.en
theorem Lay.to {t:Ty} (h:Lay t.ms t.size) {i:Nat} (hi:i≤t.ms.length):endOf t.ms i≤gapTo t i∧gapTo t i≤t.size:=by
  unfold gapTo
  split
  · rename_i c
    have h1:=h.lo i c
    have h2:=h.le (i:=i+1) c
    rw [aah c] at h2
    have:=h.sz i c
    exact ⟨h1,by omega⟩
  · have:i=t.ms.length:=by omega
    subst this
    exact ⟨h.en,Int.le_refl _⟩
theorem bndsI {n:Nat} {lo hi:Int} (h:0≤lo∧lo≤hi∧hi≤n):bnds n (some (.i .i64 lo)) (some (.i .i64 hi))=some (lo.toNat,hi.toNat):=by
  have:(0≤lo∧lo≤hi∧hi≤n)=True:=eq_true h
  simp only [bnds,asN,this,if_true]
theorem sz4 {t:Ty} (k:t.kind=4):t.sz=t.size:=by rw [Ty.sz_eq,if_neg (by omega),if_neg (by omega)]
def atI (t:Ty) (i:Nat):Int:=if i≤t.ms.length then endOf t.ms i else t.size
theorem aj3 {d:Nat} {t:Ty} (g:Gd (d+1) t) (k:t.kind=4) (b:Bs) (hb:(b.length:Int)=t.sz)
    (hx:∀ m,m ∈ t.ms→∀ b:Bs,b.length≤lim→∀ K:Out→Prop,Call prog 461 ⟨[m.ty.w,.s b],[],[]⟩ K=K (.b (tB (Ok d m.ty b)),[],[])) (K:Out→Prop):
    Call prog 512 ⟨[t.w,.s b],[],[]⟩ K=K (.b (tB (∀ i,i≤t.ms.length→GapAt t b i∧∀ h:i<t.ms.length,Ok d t.ms[i].ty (sl b t.ms[i].off (t.ms[i].off+t.ms[i].ty.sz)))),[],[]):=by
  refine Zc (f:=512) rfl rfl (by decide) ?_
  obtain ⟨c,gm⟩:=g.comp k
  have L:=g.lay k
  rw [sz4 k] at hb
  have hs:=c.s2
  have hn:=c.n4
  simp -implicitDefEqProofs
  refine WL_for (fun i=>⟨sp 63 [(1,.s b),(2,.ptr 0 0),(5,.i .i64 (atI t i)),(6,.i .i64 i)],[t.k],[]⟩) (t.ms.length+1) (fun i=>∀ j,j<i→GapAt t b j∧∀ h:j<t.ms.length,Ok d t.ms[j].ty (sl b t.ms[j].off (t.ms[j].off+t.ms[j].ty.sz))) _ (by simp -implicitDefEqProofs [atI,endOf]) (fun j h=>by omega) ?_
  intro i hi hP
  by_cases hlt:i≤t.ms.length
  case neg=>
    have e:tB (∀ i,i≤t.ms.length→GapAt t b i∧∀ h:i<t.ms.length,Ok d t.ms[i].ty (sl b t.ms[i].off (t.ms[i].off+t.ms[i].ty.sz)))=true:=tB_t fun j h=>hP j (by omega)
    rw [e]
    have h1:((i:Int)≤(t.ms.length:Int))=False:=eq_false (by omega)
    simp -implicitDefEqProofs [h1]
  have h1:((i:Int)≤(t.ms.length:Int))=True:=eq_true (by omega)
  have hw:=wrap_i64 (n:=(i:Int)+1) (by omega) (by omega)
  obtain ⟨t1,t2⟩:=L.to hlt
  have t0:=L.nn hlt
  have bad:¬ (GapAt t b i∧∀ h:i<t.ms.length,Ok d t.ms[i].ty (sl b t.ms[i].off (t.ms[i].off+t.ms[i].ty.sz)))→tB (∀ i,i≤t.ms.length→GapAt t b i∧∀ h:i<t.ms.length,Ok d t.ms[i].ty (sl b t.ms[i].off (t.ms[i].off+t.ms[i].ty.sz)))=false:=fun h=>tB_f fun q=>h (q i hlt)
  obtain ⟨E,hE⟩:∃ E:Nat,endOf t.ms i=E:=⟨(endOf t.ms i).toNat,by omega⟩
  obtain ⟨G,hG⟩:∃ G:Nat,gapTo t i=G:=⟨(gapTo t i).toNat,by omega⟩
  have hA:atI t i=E:=by unfold atI;rw [if_pos hlt,hE]
  by_cases hl:i<t.ms.length
  · have hA2:atI t (i+1)=endOf t.ms (i+1):=by unfold atI;rw [if_pos (by omega)]
    have h2:((i:Int)<(t.ms.length:Int))=True:=eq_true (by omega)
    have eg:t.ms[i].off=G:=by rw [← hG];unfold gapTo;rw [dif_pos hl]
    simp -implicitDefEqProofs [h1,hl,hA,Mb.c_w,eg]
    refine WL_for (fun j=>⟨sp 63 [(1,.s b),(2,.ptr 0 0),(5,.i .i64 ((E:Int)+j)),(6,.i .i64 i),(7,.i .i64 G)],[t.k],[]⟩) (G - E) (fun j=>∀ p:Nat,E≤p→p<E+j→b.getD p 0=0) _ (by simp -implicitDefEqProofs) (fun p _ _=>by omega) ?_
    intro j hj hQ
    by_cases hjt:j<G - E
    · have hp:E+j<b.length:=by omega
      have c1:((E:Int)+j<G)=True:=eq_true (by omega)
      have c2:((E:Int)+j<b.length)=True:=eq_true (by omega)
      have c3:(0≤(E:Int)+j)=True:=eq_true (by omega)
      have c4:((E:Int)+j).toNat=E+j:=by omega
      have hw2:=wrap_i64 (n:=(E:Int)+j+1) (by omega) (by omega)
      have ea:(E:Int)+(j+1)=(E:Int)+j+1:=by omega
      by_cases z:b[E+j]=0
      · have z1:(b[E+j].toNat:Int)=0:=by rw [z];rfl
        simp -implicitDefEqProofs [c1,c2,c3,c4,hp,z,z1,hw2,ea,Next]
        refine ⟨by omega,fun p h1 h2=>?_⟩
        by_cases e:p<E+j
        · simpa using hQ p h1 e
        · obtain rfl:p=E+j:=by omega
          simp [hp,z]
      · have z1:¬ (b[E+j].toNat:Int)=0:=fun h=>z (UInt8.toNat_inj.1 (by simpa using h))
        have z2:¬ b[E+j].toNat=0:=by omega
        rw [bad fun h=>z (by have:=h.1 (E+j) (by omega) (by omega);rwa [aal hp] at this)]
        simp -implicitDefEqProofs [c1,c2,c3,c4,hp,z,z1,z2,hw2,ea,Next]
    · have ej:(E:Int)+j=G:=by omega
      have hg:GapAt t b i:=fun p h1 h2=>hQ p (by omega) (by omega)
      have gz:=gm _ (List.getElem_mem hl)
      have e1:=aa9 gz
      have hsz:=gz.sz
      have hes:=aah hl
      have hle:=L.le (i:=i+1) hl
      rw [eg] at hes
      have e2:∀ K:Out→Prop,Call prog 461 ⟨[t.ms[i].ty.w,.s ((b.take ((G:Int)+t.ms[i].ty.sz).toNat).drop G)],[],[]⟩ K=K (.b (tB (Ok d t.ms[i].ty (sl b G (G+t.ms[i].ty.sz)))),[],[]):=
        hx _ (List.getElem_mem hl) (sl b G (G+t.ms[i].ty.sz)) (by simp;unfold lim;omega)
      have c1:((G:Int)<G)=False:=eq_false (by omega)
      have hw2:=wrap_i64 (n:=(G:Int)+t.ms[i].ty.sz) (by omega) (by omega)
      have hc:=bndsI (n:=b.length) (lo:=(G:Int)) (hi:=(G:Int)+t.ms[i].ty.sz) (by omega)
      by_cases q:Ok d t.ms[i].ty (sl b G (G+t.ms[i].ty.sz))
      · rw [tB_t q] at e2
        have hn:∀ j,j<i+1→GapAt t b j∧∀ h:j<t.ms.length,Ok d t.ms[j].ty (sl b t.ms[j].off (t.ms[j].off+t.ms[j].ty.sz)):=fun j hj=>by
          by_cases e:j<i
          · exact hP j e
          · obtain rfl:j=i:=by omega
            exact ⟨hg,fun _=>by rw [eg];exact q⟩
        simp -implicitDefEqProofs [ej,c1,h2,hl,Mb.c_w,eg,e1,e2,hw,hw2,hc,hA2,hes,Next]
        exact ⟨by omega,hn⟩
      · rw [bad fun h=>q (by have:=h.2 hl;rwa [eg] at this)]
        rw [tB_f q] at e2
        simp -implicitDefEqProofs [ej,c1,h2,hl,Mb.c_w,eg,e1,e2,hw,hw2,hc,hA2,hes,Next]
  · have hi':i=t.ms.length:=by omega
    have h2:((i:Int)<(t.ms.length:Int))=False:=eq_false (by omega)
    have eg:t.size=G:=by rw [← hG];unfold gapTo;rw [dif_neg hl]
    have hA2:atI t (i+1)=G:=by unfold atI;rw [if_neg (by omega),eg]
    simp -implicitDefEqProofs [h1,h2,hA,eg]
    refine WL_for (fun j=>⟨sp 63 [(1,.s b),(2,.ptr 0 0),(5,.i .i64 ((E:Int)+j)),(6,.i .i64 i),(7,.i .i64 G)],[t.k],[]⟩) (G - E) (fun j=>∀ p:Nat,E≤p→p<E+j→b.getD p 0=0) _ (by simp -implicitDefEqProofs [eg]) (fun p _ _=>by omega) ?_
    intro j hj hQ
    by_cases hjt:j<G - E
    · have hp:E+j<b.length:=by omega
      have c1:((E:Int)+j<G)=True:=eq_true (by omega)
      have c2:((E:Int)+j<b.length)=True:=eq_true (by omega)
      have c3:(0≤(E:Int)+j)=True:=eq_true (by omega)
      have c4:((E:Int)+j).toNat=E+j:=by omega
      have hw2:=wrap_i64 (n:=(E:Int)+j+1) (by omega) (by omega)
      have ea:(E:Int)+(j+1)=(E:Int)+j+1:=by omega
      by_cases z:b[E+j]=0
      · have z1:(b[E+j].toNat:Int)=0:=by rw [z];rfl
        simp -implicitDefEqProofs [c1,c2,c3,c4,hp,z,z1,hw2,ea,eg,Next]
        refine ⟨by omega,fun p h1 h2=>?_⟩
        by_cases e:p<E+j
        · simpa using hQ p h1 e
        · obtain rfl:p=E+j:=by omega
          simp [hp,z]
      · have z1:¬ (b[E+j].toNat:Int)=0:=fun h=>z (UInt8.toNat_inj.1 (by simpa using h))
        have z2:¬ b[E+j].toNat=0:=by omega
        rw [bad fun h=>z (by have:=h.1 (E+j) (by omega) (by omega);rwa [aal hp] at this)]
        simp -implicitDefEqProofs [c1,c2,c3,c4,hp,z,z1,z2,hw2,ea,eg,Next]
    · have ej:(E:Int)+j=G:=by omega
      have hg:GapAt t b i:=fun p h1 h2=>hQ p (by omega) (by omega)
      have c1:((G:Int)<G)=False:=eq_false (by omega)
      have hn:∀ j,j<i+1→GapAt t b j∧∀ h:j<t.ms.length,Ok d t.ms[j].ty (sl b t.ms[j].off (t.ms[j].off+t.ms[j].ty.sz)):=fun j hj=>by
        by_cases e:j<i
        · exact hP j e
        · obtain rfl:j=i:=by omega
          exact ⟨hg,fun h=>absurd h hl⟩
      simp -implicitDefEqProofs [ej,c1,h2,eg,hw,hA2,Next]
      exact ⟨by omega,hn⟩
end Go.VS
end
section
namespace Go.VS
set_option maxRecDepth 4000
attribute [-simp] isLeaf okRet ridL V.leaves
theorem Gd.enum {d:Nat} {t:Ty} (g:Gd (d+1) t) (k:t.kind=3):EnumG t:=by
  rcases g with h | h | h | h | h | h <;> first | exact h.2 | (have:=h.1;omega)
theorem Gd.n {d:Nat} {t:Ty} (g:Gd (d+1) t) (k:t.kind=1∨t.kind=3∨t.kind=6):GdN t:=⟨⟨_,g⟩,k⟩
theorem it3 {t:Ty} (k:t.kind=3) {c:Ty} (h:t.base=[c]):t.it=c:=by unfold Ty.it;rw [if_neg (by omega),if_pos k,h];rfl
theorem sz3 {t:Ty} (k:t.kind=3) {c:Ty} (h:t.base=[c]):t.sz=c.size:=by rw [Ty.sz_eq,if_pos k,h];rfl
theorem sz5 {t:Ty} (k:t.kind=5) {c:Ty} (h:t.base=[c]):t.sz=t.count*c.sz:=by rw [Ty.sz_eq,if_neg (by omega),if_pos k,h];rfl
theorem base0 {t c:Ty} (h:t.base=[c]):∃ h0:0<t.base.length,t.base[0]=c:=⟨by rw [h];exact Nat.one_pos,by simp [h]⟩
theorem akg:∀ (d:Nat) {t:Ty} (g:Gd d t) (b:Bs) (hl:b.length≤lim) (K:Out→Prop),Call prog 461 ⟨[t.w,.s b],[],[]⟩ K=K (.b (tB (Ok d t b)),[],[])
  | 0,_,g,_,_,_=>g.elim
  | d+1,t,g,b,hl,K=>by
    have ih:=fun {t:Ty} (g:Gd d t)=>akg d g
    refine Zc (f:=461) rfl rfl (by decide) ?_
    have e0:=aa9 g
    have hsz:=g.sz
    by_cases c0:(b.length:Int)=t.sz
    case neg=>
      rw [tB_f fun h=>c0 h.1]
      simp -implicitDefEqProofs [e0,c0]
    have c0':=eq_true c0
    have hk:=g.kind
    by_cases k2:t.kind=2
    · have e1:=am8 b hl
      have e:tB (Ok (d+1) t b)=tB (TxtOk b):=aaw ⟨fun h=>h.2.1 k2,fun h=>⟨c0,fun _=>h,fun k=>by omega,fun k=>by omega,fun k=>by omega⟩⟩
      rw [e]
      have f2:=eq_true k2
      simp -implicitDefEqProofs [e0,c0',f2,e1]
    have f2:=eq_false k2
    by_cases k3:t.kind=3
    · have en:=g.enum k3
      obtain ⟨c,hc,k1,ig,_⟩:=en.ba
      have e1:=aj4 c ig.toIntF b (by have:=sz3 k3 hc;have:=ig.s;omega)
      have hn:t.nums.length≤lim:=by have:=en.n6;have:=en.nn;unfold lim;omega
      have e2:=fun q K=>agl q t.nums (c.num b) hn K
      have e:tB (Ok (d+1) t b)=decide (c.num b ∈ t.nums):=by
        by_cases q:c.num b ∈ t.nums
        · rw [tB_t ⟨c0,fun k=>by omega,fun _=>by rw [it3 k3 hc];exact q,fun k=>by omega,fun k=>by omega⟩];simp [q]
        · rw [tB_f fun h=>q (by have:=h.2.2.1 k3;rwa [it3 k3 hc] at this)];simp [q]
      rw [e]
      have f3:=eq_true k3
      obtain ⟨b1,b2⟩:=base0 hc
      simp -implicitDefEqProofs [e0,c0',f2,f3,b1,b2,Ty.v_w,e1,e2]
    have f3:=eq_false k3
    by_cases k4:t.kind=4
    · have e1:=aj3 g k4 b c0 fun m hm=>ih ((g.comp k4).2 m hm)
      have e:=aaw (p:=Ok (d+1) t b) (q:=∀ i,i≤t.ms.length→GapAt t b i∧∀ h:i<t.ms.length,Ok d t.ms[i].ty (sl b t.ms[i].off (t.ms[i].off+t.ms[i].ty.sz)))
        ⟨fun h=>h.2.2.2.1 k4,fun h=>⟨c0,fun k=>by omega,fun k=>by omega,fun _=>h,fun k=>by omega⟩⟩
      rw [e]
      have f4:=eq_true k4
      simp -implicitDefEqProofs [e0,c0',f2,f3,f4,e1]
    have f4:=eq_false k4
    by_cases k5:t.kind=5
    case neg=>
      have e:=tB_t (p:=Ok (d+1) t b) ⟨c0,fun k=>absurd k k2,fun k=>absurd k k3,fun k=>absurd k k4,fun k=>absurd k k5⟩
      rw [e]
      have f5:=eq_false k5
      simp -implicitDefEqProofs [e0,c0',f2,f3,f4,f5]
    have f5:=eq_true k5
    obtain ⟨ag,c,hc,gc,h24⟩:=g.arr k5
    have hz:=sz5 k5 hc
    have hcs:=gc.sz
    have e1:=aa9 gc
    have c1:=ag.c1
    have c4:=ag.c4
    have e2:=fun b h=>ih gc b h
    obtain ⟨b1,b2⟩:=base0 hc
    simp -implicitDefEqProofs [e0,c0',f2,f3,f4,f5,b1,b2,Ty.v_w,e1]
    obtain ⟨n,hn⟩:∃ n:Nat,t.count=n:=⟨t.count.toNat,by omega⟩
    obtain ⟨z,hzz⟩:∃ z:Nat,c.sz=z:=⟨c.sz.toNat,by omega⟩
    have bl:b.length=n*z:=by rw [hz,hn,hzz] at c0;exact_mod_cast c0
    refine WL_for (fun i=>⟨sp 62 [(1,.s b),(2,.ptr 0 0),(5,.i .i64 c.sz),(6,.i .i64 i)],[t.k],[]⟩) n (fun i=>∀ k:Nat,k<i→Ok d c (sl b (k*c.sz) ((k+1)*c.sz))) _ (by simp -implicitDefEqProofs) (fun k h=>by omega) ?_
    intro i hi hP
    by_cases hlt:i<n
    · have h1:((i:Int)<t.count)=True:=eq_true (by omega)
      have hw:=wrap_i64 (n:=(i:Int)+1) (by omega) (by omega)
      have m1:(i+1)*z≤n*z:=Nat.mul_le_mul_right _ hlt
      have m2:(i+1)*z=i*z+z:=Nat.succ_mul i z
      have i1:(i:Int)*c.sz=((i*z:Nat):Int):=by rw [hzz];push_cast;rfl
      have i2:((i:Int)+1)*c.sz=(((i+1)*z:Nat):Int):=by rw [hzz];push_cast;rfl
      have w1:=wrap_i64 (n:=(i:Int)*c.sz) (by omega) (by omega)
      have w2:=wrap_i64 (n:=((i:Int)+1)*c.sz) (by omega) (by omega)
      have hB:=bndsI (n:=b.length) (lo:=(i:Int)*c.sz) (hi:=((i:Int)+1)*c.sz) (by omega)
      have e3:∀ K:Out→Prop,Call prog 461 ⟨[c.w,.s ((b.take (((i:Int)+1)*c.sz).toNat).drop ((i:Int)*c.sz).toNat)],[],[]⟩ K=K (.b (tB (Ok d c (sl b (i*c.sz) ((i+1)*c.sz)))),[],[]):=
        e2 (sl b (i*c.sz) ((i+1)*c.sz)) (by simp;omega)
      by_cases q:Ok d c (sl b (i*c.sz) ((i+1)*c.sz))
      · rw [tB_t q] at e3
        simp -implicitDefEqProofs [h1,b1,b2,Ty.v_w,hw,w1,w2,hB,e3,hlt,Next]
        intro k hk
        by_cases e:k<i
        · exact hP k e
        · obtain rfl:k=i:=by omega
          exact q
      · rw [tB_f q] at e3
        rw [tB_f fun h=>q (h.2.2.2.2 k5 c (by rw [hc];simp) i (by omega))]
        simp -implicitDefEqProofs [h1,b1,b2,Ty.v_w,hw,w1,w2,hB,e3,hlt,Next]
    · have h1:((i:Int)<t.count)=False:=eq_false (by omega)
      rw [tB_t ⟨c0,fun k=>by omega,fun k=>by omega,fun k=>by omega,fun _ c' hc' k hk=>by
        rw [hc] at hc'
        obtain rfl:c'=c:=by simpa using hc'
        exact hP k (by omega)⟩]
      simp -implicitDefEqProofs [h1]
end Go.VS
end
section
namespace Go.VS
set_option maxRecDepth 4000
attribute [-simp] isLeaf okRet ridL V.leaves
def ptV (x:Ty × Bs):V:=.agg [.i .i64 x.1.kind,.i .i64 x.1.size,.b x.1.sg,.b x.1.bg,slv x.1.na true 1 (x.1.names.map .s),slv x.1.nb true 1 (x.1.nums.map (.i .i64)),slv x.1.nc true 11 (x.1.ms.map Mb.c),slv x.1.nd true 9 (x.1.base.map Ty.v),.i .i64 x.1.count,.s x.2]
def Ty.parts (t:Ty) (b:Bs):List (Ty × Bs):=
  if t.kind=4 then t.ms.map fun m=>(m.ty,sl b m.off (m.off+m.ty.sz))
  else if t.kind=5 then (List.range t.count.toNat).map fun k:Nat=>(t.base.headD Ty.zero,sl b (k*(t.base.headD Ty.zero).sz) (((k:Int)+1)*(t.base.headD Ty.zero).sz)) else []
theorem avg (s:St) (xp) (k) (x:Ty × Bs):lend s xp (k+2) (ptV x)=ptV x:=by
  show V.agg (List.map (lend s xp (k+1)) _)=_
  simp [ptV]
@[simp] theorem lendA_pt (s:St) (xp) (x:Ty × Bs):lendA s xp 0 (ptV x)=ptV x:=avg s xp 2 x
theorem ar4:∀ l:List (Ty × Bs),noBt (l.map ptV)=true:=aeo _ fun _=>rfl
theorem akh {d:Nat} {t:Ty} (g:Gd (d+1) t) (k:t.kind=4) (b:Bs) (hb:(b.length:Int)=t.sz) (K:Out→Prop):
    Call prog 506 ⟨[t.w,.s b],[],[]⟩ K=K (.sl 0 0 (t.parts b).length false,[],[.row 10 false ((t.parts b).map ptV)]):=by
  refine Zc (f:=506) rfl rfl (by decide) ?_
  obtain ⟨c,gm⟩:=g.comp k
  have L:=g.lay k
  rw [sz4 k] at hb
  have hs:=c.s2
  have hn:=c.n4
  have f4:=eq_true k
  have e:t.parts b=t.ms.map fun m=>(m.ty,sl b m.off (m.off+m.ty.sz)):=by unfold Ty.parts;rw [if_pos k]
  rw [e]
  simp -implicitDefEqProofs [f4]
  refine WL_for (fun i=>⟨sp 69 [(1,.s b),(5,.sl 0 0 i false),(15,slv t.nc true 11 (t.ms.map Mb.c)),(16,.i .i64 t.ms.length),(17,.i .i64 i)],[t.k],[.row 10 false (((t.ms.take i).map fun m=>(m.ty,sl b m.off (m.off+m.ty.sz))).map ptV)]⟩) t.ms.length (fun _=>True) _ (by simp -implicitDefEqProofs) trivial ?_
  intro i hi _
  by_cases hlt:i<t.ms.length
  · have hw:=wrap_i64 (n:=(i:Int)+1) (by omega) (by omega)
    have gz:=gm _ (List.getElem_mem hlt)
    have e1:=aeg gz
    have hsz:=gz.sz
    have h1:=L.lo i hlt
    have h0:=L.nn hi
    have hle:=L.le (i:=i+1) hlt
    rw [aah hlt] at hle
    have hw2:=wrap_i64 (n:=t.ms[i].off+t.ms[i].ty.sz) (by omega) (by omega)
    have hc:=bndsI (n:=b.length) (lo:=t.ms[i].off) (hi:=t.ms[i].off+t.ms[i].ty.sz) (by omega)
    have c3:i+1≤lim:=by unfold lim;omega
    have hnm:(t.ms.take (i+1))=t.ms.take i++[t.ms[i]]:=(List.take_append_getElem hlt).symm
    have hmi:min i t.ms.length=i:=by omega
    have hnb:=ar4 ((t.ms.take i).map fun m=>(m.ty,sl b m.off (m.off+m.ty.sz)))
    generalize hm:t.ms[i]=m at *
    simp -implicitDefEqProofs [hlt,hm,Mb.c_w,e1,hw,hw2,hc,c3,hnm,hnb,hmi,Next]
    exact ⟨by rw [List.take_take,Nat.min_self],rfl⟩
  · obtain rfl:i=t.ms.length:=by omega
    simp -implicitDefEqProofs
theorem ani {d:Nat} {t:Ty} (g:Gd (d+1) t) (k:t.kind=5) (b:Bs) (hb:(b.length:Int)=t.sz) (K:Out→Prop):
    Call prog 506 ⟨[t.w,.s b],[],[]⟩ K=K (.sl 0 0 (t.parts b).length false,[],[.row 10 false ((t.parts b).map ptV)]):=by
  refine Zc (f:=506) rfl rfl (by decide) ?_
  obtain ⟨ag,c,hc,gc,h24⟩:=g.arr k
  have hz:=sz5 k hc
  have hcs:=gc.sz
  have e1:=aeg gc
  have c1:=ag.c1
  have c4:=ag.c4
  have f4:=eq_false (show t.kind≠4 by omega)
  have f5:=eq_true k
  obtain ⟨b1,b2⟩:=base0 hc
  obtain ⟨n,hn⟩:∃ n:Nat,t.count=n:=⟨t.count.toNat,by omega⟩
  obtain ⟨z,hzz⟩:∃ z:Nat,c.sz=z:=⟨c.sz.toNat,by omega⟩
  have bl:b.length=n*z:=by rw [hz,hn,hzz] at hb;exact_mod_cast hb
  have e:t.parts b=(List.range n).map fun k:Nat=>(c,sl b (k*c.sz) (((k:Int)+1)*c.sz)):=by
    unfold Ty.parts;rw [if_neg (by omega),if_pos k,hc,hn];rfl
  rw [e]
  simp -implicitDefEqProofs [f4,f5,b1,b2,Ty.v_w,e1]
  refine WL_for (fun i=>⟨sp 69 [(1,.s b),(2,.ptr 0 0),(5,.sl 0 0 i false),(8,.i .i64 c.sz),(46,.i .i64 t.count),(47,.i .i64 i)],[t.k],[.row 10 false (((List.range i).map fun k:Nat=>(c,sl b (k*c.sz) (((k:Int)+1)*c.sz))).map ptV)]⟩) n (fun _=>True) _ (by simp -implicitDefEqProofs) trivial ?_
  intro i hi _
  by_cases hlt:i<n
  · have h1:((i:Int)<t.count)=True:=eq_true (by omega)
    have hw:=wrap_i64 (n:=(i:Int)+1) (by omega) (by omega)
    have m1:(i+1)*z≤n*z:=Nat.mul_le_mul_right _ hlt
    have m2:(i+1)*z=i*z+z:=Nat.succ_mul i z
    have i1:(i:Int)*c.sz=((i*z:Nat):Int):=by rw [hzz];push_cast;rfl
    have i2:((i:Int)+1)*c.sz=(((i+1)*z:Nat):Int):=by rw [hzz];push_cast;rfl
    have w1:=wrap_i64 (n:=(i:Int)*c.sz) (by omega) (by omega)
    have w2:=wrap_i64 (n:=((i:Int)+1)*c.sz) (by omega) (by omega)
    have hB:=bndsI (n:=b.length) (lo:=(i:Int)*c.sz) (hi:=((i:Int)+1)*c.sz) (by omega)
    have c3:i+1≤lim:=by unfold lim;omega
    have hnb:=ar4 ((List.range i).map fun k:Nat=>(c,sl b (k*c.sz) (((k:Int)+1)*c.sz)))
    simp -implicitDefEqProofs [h1,b1,b2,Ty.v_w,hw,w1,w2,hB,hlt,c3,hnb,List.range_succ,Next]
    exact ⟨List.take_of_length_le (by simp),rfl⟩
  · obtain rfl:i=n:=by omega
    have h1:((i:Int)<t.count)=False:=eq_false (by omega)
    simp -implicitDefEqProofs [h1]
theorem aki {t:Ty} (k4:t.kind≠4) (k5:t.kind≠5) (b:Bs) (K:Out→Prop):
    Call prog 506 ⟨[t.w,.s b],[],[]⟩ K=K (.nil,[],[]):=by
  refine Zc (f:=506) rfl rfl (by decide) ?_
  have f4:=eq_false k4
  have f5:=eq_false k5
  simp -implicitDefEqProofs [f4,f5]
end Go.VS
end
section
namespace Go.VS
set_option maxRecDepth 4000
attribute [-simp] isLeaf okRet ridL V.leaves
def inM (l:List Mb) (p:Nat):Bool:=l.any fun m=>decide (m.off≤p) && decide ((p:Int)<m.off+m.ty.sz)
def clrB (l:List Mb) (b:Bs):Bs:=(List.range b.length).map fun p=>if inM l p then 0 else b.getD p 0
@[simp] theorem clrB_len (l:List Mb) (b:Bs):(clrB l b).length=b.length:=by simp [clrB]
theorem ath (b:Bs):clrB [] b=b:=by
  refine List.ext_getElem (by simp) fun j h1 h2=>?_
  simp [clrB,inM,List.getD,h2]
theorem aq7 (l:List Mb) (b:Bs) (m:Mb) {o z:Nat} (ho:m.off=o) (hz:m.ty.sz=z) (h:o+z≤b.length):
    (clrB l b).take o++(List.replicate z 0++(clrB l b).drop (o+z))=clrB (l++[m]) b:=by
  refine List.ext_getElem (by simp;omega) fun j h1 h2=>?_
  have hj:j<b.length:=by simpa using h2
  have e:inM (l++[m]) j=(inM l j || (decide (o≤j) && decide (j<o+z))):=by
    unfold inM
    rw [List.any_append,List.any_cons,List.any_nil,Bool.or_false,ho,hz]
    congr 1
    rw [Bool.eq_iff_iff];simp;omega
  by_cases c1:j<o
  · rw [List.getElem_append_left (by simp;omega)]
    have:(decide (o≤j) && decide (j<o+z))=false:=by simp;omega
    rw [this,Bool.or_false] at e
    simp [clrB,e]
  · rw [List.getElem_append_right (by simp;omega)]
    by_cases c2:j<o+z
    · rw [List.getElem_append_left (by simp;omega)]
      have:(decide (o≤j) && decide (j<o+z))=true:=by simp;omega
      rw [this,Bool.or_true] at e
      simp [clrB,e]
    · rw [List.getElem_append_right (by simp;omega)]
      have:(decide (o≤j) && decide (j<o+z))=false:=by simp;omega
      rw [this,Bool.or_false] at e
      have em:min o b.length=o:=by omega
      have ej:o+z+(j - o - z)=j:=by omega
      simp [clrB,em,ej,e]
theorem auw (x:Bs) (o z:Nat):(bytesV x).take o++(List.replicate z (V.i .u8 0)++(bytesV x).drop (o+z))=bytesV (x.take o++(List.replicate z 0++x.drop (o+z))):=by
  simp [bytesV]
theorem atg (l:List Mb) (b:Bs):trimR 0 (clrB l b)=[] ↔ ∀ p,p<b.length→inM l p=false→b.getD p 0=0:=by
  rw [asv,List.eq_replicate_iff]
  simp only [true_and]
  constructor
  · intro h p hp hn
    refine h _ ?_
    unfold clrB
    exact List.mem_map.mpr ⟨p,List.mem_range.mpr hp,by simp [hn]⟩
  · intro h x hx
    unfold clrB at hx
    obtain ⟨p,hp,rfl⟩:=List.mem_map.mp hx
    by_cases c:inM l p=true
    · simp [c]
    · rw [if_neg c];exact h p (List.mem_range.mp hp) (by simpa using c)
theorem au8 {t:Ty} (k:t.kind=4) (L:Lay t.ms t.size) (b:Bs) (hb:(b.length:Int)=t.size):
    (∀ i,i≤t.ms.length→GapAt t b i) ↔ ∀ p,p<b.length→inM t.ms p=false→b.getD p 0=0:=by
  constructor
  · intro h p hp hn
    have hn':∀ i (hi:i<t.ms.length),¬ (t.ms[i].off≤p∧(p:Int)<endOf t.ms (i+1)):=by
      intro i hi q
      rw [aah hi] at q
      unfold inM at hn
      rw [List.any_eq_false] at hn
      exact hn _ (List.getElem_mem hi) (by simp;exact q)
    have key:∀ n,n≤t.ms.length→endOf t.ms n≤p∨b.getD p 0=0:=by
      intro n
      induction n with
      | zero=>intro _;left;unfold endOf;simp
      | succ n ih=>
        intro hl
        rcases ih (by omega) with q | q
        · by_cases c:t.ms[n].off≤p
          · left
            have:=hn' n (by omega)
            omega
          · right
            refine h n (by omega) p q ?_
            unfold gapTo;rw [dif_pos (show n<t.ms.length by omega)];omega
        · exact .inr q
    rcases key t.ms.length (Nat.le_refl _) with q | q
    · refine h _ (Nat.le_refl _) p q ?_
      unfold gapTo;rw [dif_neg (by omega)];omega
    · exact q
  · intro h i hi p h1 h2
    have t2:=(L.to hi).2
    refine h p (by omega) ?_
    unfold inM
    rw [List.any_eq_false]
    intro m hm q
    simp only [Bool.and_eq_true,decide_eq_true_eq] at q
    obtain ⟨j,hj,rfl⟩:=List.getElem_of_mem hm
    by_cases c:j<i
    · have e:=aah hj
      have:=L.mono (show j+1≤i by omega) hi
      omega
    · have e:gapTo t i≤t.ms[j].off:=by
        have hil:i<t.ms.length:=by omega
        unfold gapTo;rw [dif_pos hil]
        by_cases cc:i=j
        · subst cc;exact Int.le_refl _
        · have a1:=L.mono (show i+1≤j by omega) (by omega)
          rw [aah hil] at a1
          have a2:=L.lo j hj
          have a3:=L.sz i hil
          omega
      omega
theorem aog {d:Nat} {t:Ty} (g:Gd (d+1) t) (k:t.kind=4) (b:Bs) (hb:(b.length:Int)=t.sz) (K:Out→Prop):
    Call prog 529 ⟨[t.w,.s b],[],[]⟩ K=K (.b (tB (∀ i,i≤t.ms.length→GapAt t b i)),[],[]):=by
  refine Zc (f:=529) rfl rfl (by decide) ?_
  obtain ⟨c,gm⟩:=g.comp k
  have L:=g.lay k
  rw [sz4 k] at hb
  have hs:=c.s2
  have hn:=c.n4
  have hlm:b.length≤lim:=by unfold lim;omega
  simp -implicitDefEqProofs [hlm]
  refine WL_for (fun i=>⟨sp 32 [(5,.sl 0 0 b.length false),(11,slv t.nc true 11 (t.ms.map Mb.c)),(12,.i .i64 t.ms.length),(13,.i .i64 i)],[t.k],[.row 1 false (bytesV (clrB (t.ms.take i) b))]⟩) t.ms.length (fun _=>True) _ (by simp -implicitDefEqProofs [ath]) trivial ?_
  intro i hi _
  by_cases hlt:i<t.ms.length
  · have hw:=wrap_i64 (n:=(i:Int)+1) (by omega) (by omega)
    have gz:=gm _ (List.getElem_mem hlt)
    have e1:=aeg gz
    have hsz:=gz.sz
    have h1:=L.lo i hlt
    have h0:=L.nn hi
    have hle:=L.le (i:=i+1) hlt
    rw [aah hlt] at hle
    have hw2:=wrap_i64 (n:=t.ms[i].off+t.ms[i].ty.sz) (by omega) (by omega)
    have hnm:(t.ms.take (i+1))=t.ms.take i++[t.ms[i]]:=(List.take_append_getElem hlt).symm
    generalize hm:t.ms[i]=m at *
    obtain ⟨o,ho⟩:∃ o:Nat,m.off=o:=⟨m.off.toNat,by omega⟩
    obtain ⟨z,hz⟩:∃ z:Nat,m.ty.sz=z:=⟨m.ty.sz.toNat,by omega⟩
    have hst:=aq7 (t.ms.take i) b m ho hz (by omega)
    have hcr:=auw (clrB (t.ms.take i) b) o z
    rw [hst,← hnm] at hcr
    rw [ho,hz] at hw2
    rw [hz] at e1
    have h3:((o:Int)+z≤b.length)=True:=eq_true (by omega)
    have h4:o+z≤b.length:=by omega
    have h5:((o:Int)+z).toNat=o+z:=by omega
    have h6:((o:Int)≤(o:Int)+z)=True:=eq_true (by omega)
    simp -implicitDefEqProofs [hlt,hm,Mb.c_w,e1,hw,hw2,ho,hz,h3,h4,h5,h6,hcr,Next]
  · obtain rfl:i=t.ms.length:=by omega
    have ht:=ahx (clrB t.ms b) (clrB_len t.ms b)
    have e2:=afo (clrB t.ms b) (by rw [clrB_len];exact hlm)
    have e:=aaw ((au8 k L b hb).trans (atg t.ms b).symm)
    rw [e]
    by_cases q:trimR 0 (clrB t.ms b)=[]
    · rw [tB_t q]
      simp -implicitDefEqProofs [cvsV,ht,e2,q]
    · rw [tB_f q]
      simp -implicitDefEqProofs [cvsV,ht,e2,q]
end Go.VS
end
section
namespace Go.VS
set_option maxRecDepth 4000
attribute [-simp] isLeaf okRet ridL V.leaves
theorem att (x:Ty × Bs) (p:Bool) (hx:∀ K:Out→Prop,Call prog 480 ⟨[x.1.w,.s x.2],[],[]⟩ K=K (.b p,[],[])) (K:Out→Prop):
    Call prog 531 ⟨[ptV x],[],[]⟩ K=K (.b (!p),[],[]):=by
  refine Zc (f:=531) rfl rfl (by decide) ?_
  simp -implicitDefEqProofs [ptV,hx]
theorem aiw (q:Bool) (l:List (Ty × Bs)) (p:Ty × Bs→Bool) (hl:l.length≤lim) (hx:∀ x,x ∈ l→∀ K:Out→Prop,Call prog 480 ⟨[x.1.w,.s x.2],[],[]⟩ K=K (.b (p x),[],[])) (K:Out→Prop):
    Call prog 530 ⟨[.view q 10 (l.map ptV),.fn 531 []],[],[]⟩ K=K (.b (l.any fun x=>!p x),[],[]):=
  ate (p:=prog) (f:=530) (ix:=563) (z:=10) (ag:=true) rfl rfl ptV (fun x=>!p x) 531 [] q l hl rfl (fun x=>by simp [ptV]) (fun s x=>lendA_pt s _ x)
    (fun x h K=>att x (p x) (hx x h) K) K
theorem ajn {d:Nat} {t:Ty} (g:Gd (d+1) t) (b:Bs):(t.parts b).length≤4:=by
  unfold Ty.parts
  split
  · rename_i k;have:=(g.comp k).1.n4;simpa using this
  · split
    · rename_i k;have:=(g.arr k).1.c4;simp;omega
    · simp
theorem ad1:∀ (d:Nat) {t:Ty} (g:Gd d t) (b:Bs) (hl:b.length≤lim) (K:Out→Prop),Call prog 480 ⟨[t.w,.s b],[],[]⟩ K=K (.b (tB (Ok d t b)),[],[])
  | 0,_,g,_,_,_=>g.elim
  | d+1,t,g,b,hl,K=>by
    have ih:=fun {t:Ty} (g:Gd d t)=>ad1 d g
    refine Zc (f:=480) rfl rfl (by decide) ?_
    have e0:=aeg g
    have hsz:=g.sz
    by_cases c0:(b.length:Int)=t.sz
    case neg=>
      rw [tB_f fun h=>c0 h.1]
      simp -implicitDefEqProofs [e0,c0]
    have c0':=eq_true c0
    have hk:=g.kind
    by_cases k2:t.kind=2
    · have e1:=afo b hl
      have e2:=ajv (trimR 0 b) 0 (by have:=afn b;omega)
      have e:tB (Ok (d+1) t b)=!decide ((0:UInt8) ∈ trimR 0 b):=by
        by_cases q:(0:UInt8) ∈ trimR 0 b
        · rw [tB_f fun h=>h.2.1 k2 q];simp [q]
        · rw [tB_t ⟨c0,fun _=>q,fun k=>by omega,fun k=>by omega,fun k=>by omega⟩];simp [q]
      rw [e]
      have f2:=eq_true k2
      simp -implicitDefEqProofs [e0,c0',f2,e1,e2]
    have f2:=eq_false k2
    by_cases k3:t.kind=3
    · have en:=g.enum k3
      obtain ⟨c,hc,k1,ig,_⟩:=en.ba
      have e1:=adk (g.n (.inr (.inl k3))) b (by rw [it3 k3 hc];have:=sz3 k3 hc;have:=ig.s;omega)
      have hn:t.nums.length≤lim:=by have:=en.n6;have:=en.nn;unfold lim;omega
      have e2:=fun q K=>aei q t.nums (t.it.num b) hn K
      have e:tB (Ok (d+1) t b)=decide (t.it.num b ∈ t.nums):=by
        by_cases q:t.it.num b ∈ t.nums
        · rw [tB_t ⟨c0,fun k=>by omega,fun _=>q,fun k=>by omega,fun k=>by omega⟩];simp [q]
        · rw [tB_f fun h=>q (h.2.2.1 k3)];simp [q]
      rw [e]
      have f3:=eq_true k3
      simp -implicitDefEqProofs [e0,c0',f2,f3,e1,e2]
    have f3:=eq_false k3
    have hpl:=ajn g b
    by_cases k4:t.kind=4
    · have f4:=eq_true k4
      have e1:=aog g k4 b c0
      by_cases q1:∀ i,i≤t.ms.length→GapAt t b i
      case neg=>
        rw [tB_f q1] at e1
        rw [tB_f fun h=>q1 fun i hi=>(h.2.2.2.1 k4 i hi).1]
        simp -implicitDefEqProofs [e0,c0',f2,f3,f4,e1]
      rw [tB_t q1] at e1
      have e2:=akh g k4 b c0
      have hp:t.parts b=t.ms.map fun m=>(m.ty,sl b m.off (m.off+m.ty.sz)):=by unfold Ty.parts;rw [if_pos k4]
      have e3:=fun q=>aiw q (t.parts b) (fun x=>tB (Ok d x.1 x.2)) (by unfold lim;omega) (fun x hx=>by
        rw [hp] at hx
        obtain ⟨m,hm,rfl⟩:=List.mem_map.mp hx
        exact ih ((g.comp k4).2 m hm) _ (by simp;omega))
      have e:tB (Ok (d+1) t b)=!((t.parts b).any fun x=>!tB (Ok d x.1 x.2)):=by
        rw [hp,List.any_map]
        cases hA:t.ms.any ((fun x:Ty × Bs=>!tB (Ok d x.1 x.2)) ∘ fun m=>(m.ty,sl b m.off (m.off+m.ty.sz)))
        · rw [List.any_eq_false] at hA
          refine tB_t ⟨c0,fun k=>absurd k k2,fun k=>absurd k k3,fun _ i hi=>⟨q1 i hi,fun h=>?_⟩,fun k=>by omega⟩
          have:=hA _ (List.getElem_mem h)
          simp only [Function.comp,Bool.not_eq_true,Bool.not_eq_false'] at this
          exact tB_iff.mp this
        · rw [List.any_eq_true] at hA
          obtain ⟨m,hm,q⟩:=hA
          obtain ⟨j,hj,rfl⟩:=List.getElem_of_mem hm
          refine tB_f fun h=>?_
          have:=(h.2.2.2.1 k4 j (by omega)).2 hj
          simp only [Function.comp,Bool.not_eq_true'] at q
          rw [tB_t this] at q;cases q
      rw [e]
      generalize hAA:((t.parts b).any fun x=>!tB (Ok d x.1 x.2))=AA at *
      simp -implicitDefEqProofs [e0,c0',f2,f3,f4,e1,e2,e3]
    have f4:=eq_false k4
    by_cases k5:t.kind=5
    case neg=>
      have e:=tB_t (p:=Ok (d+1) t b) ⟨c0,fun k=>absurd k k2,fun k=>absurd k k3,fun k=>absurd k k4,fun k=>absurd k k5⟩
      rw [e]
      have e2:=aki k4 k5 b
      have e3:=fun q=>aiw q [] (fun x=>true) (by simp) (fun x hx=>by simp at hx)
      simp only [List.map_nil,List.any_nil,Tag_eq] at e3
      simp -implicitDefEqProofs [e0,c0',f2,f3,f4,e2,e3]
    have f5:=eq_true k5
    obtain ⟨ag,c,hc,gc,h24⟩:=g.arr k5
    have e2:=ani g k5 b c0
    have hp:t.parts b=(List.range t.count.toNat).map fun k:Nat=>(c,sl b (k*c.sz) (((k:Int)+1)*c.sz)):=by
      unfold Ty.parts;rw [if_neg k4,if_pos k5,hc];rfl
    have e3:=fun q=>aiw q (t.parts b) (fun x=>tB (Ok d x.1 x.2)) (by unfold lim;omega) (fun x hx=>by
        rw [hp] at hx
        obtain ⟨m,hm,rfl⟩:=List.mem_map.mp hx
        exact ih gc _ (by simp;omega))
    have e:tB (Ok (d+1) t b)=!((t.parts b).any fun x=>!tB (Ok d x.1 x.2)):=by
      rw [hp,List.any_map]
      cases hA:(List.range t.count.toNat).any ((fun x:Ty × Bs=>!tB (Ok d x.1 x.2)) ∘ fun k:Nat=>(c,sl b (k*c.sz) (((k:Int)+1)*c.sz)))
      · rw [List.any_eq_false] at hA
        refine tB_t ⟨c0,fun k=>absurd k k2,fun k=>absurd k k3,fun k=>absurd k k4,fun _ c' hc' k hk=>?_⟩
        rw [hc] at hc'
        obtain rfl:c'=c:=by simpa using hc'
        have:=hA k (List.mem_range.mpr (by omega))
        simp only [Function.comp,Bool.not_eq_true,Bool.not_eq_false'] at this
        exact tB_iff.mp this
      · rw [List.any_eq_true] at hA
        obtain ⟨k,hk,q⟩:=hA
        have hk:=List.mem_range.mp hk
        refine tB_f fun h=>?_
        have:=h.2.2.2.2 k5 c (by rw [hc];simp) k (by omega)
        simp only [Function.comp,Bool.not_eq_true'] at q
        rw [tB_t this] at q;cases q
    rw [e]
    generalize hAA:((t.parts b).any fun x=>!tB (Ok d x.1 x.2))=AA at *
    simp -implicitDefEqProofs [e0,c0',f2,f3,f4,f5,e2,e3]
theorem agt (t:Ty) (hb:t.tot≤lim) (b:Bs) (hl:b.length≤lim) (K:Out→Prop):Call prog 421 ⟨[t.w,.s b],[],[]⟩ K=K (.b (tB (Gd 3 t∧Ok 3 t b)),[],[]):=by
  refine Zc (f:=421) rfl rfl (by decide) ?_
  have e1:=akf t hb
  by_cases g:Gd 3 t
  case neg=>rw [tB_f fun h=>g h.1];rw [tB_f g] at e1;simp -implicitDefEqProofs [e1]
  have e2:=akg 3 g b hl
  rw [tB_t g] at e1
  have e:tB (Gd 3 t∧Ok 3 t b)=tB (Ok 3 t b):=aaw ⟨fun h=>h.2,fun h=>⟨g,h⟩⟩
  rw [e]
  simp -implicitDefEqProofs [e1,e2]
theorem abc (t:Ty) (hb:t.tot≤lim) (b:Bs) (hl:b.length≤lim) (K:Out→Prop):Call prog 433 ⟨[t.w,.s b],[],[]⟩ K=K (.b (tB (Gd 3 t∧Ok 3 t b)),[],[]):=by
  refine Zc (f:=433) rfl rfl (by decide) ?_
  have e1:=adz t hb
  by_cases g:Gd 3 t
  case neg=>rw [tB_f fun h=>g h.1];rw [tB_f g] at e1;simp -implicitDefEqProofs [e1]
  have e2:=ad1 3 g b hl
  rw [tB_t g] at e1
  have e:tB (Gd 3 t∧Ok 3 t b)=tB (Ok 3 t b):=aaw ⟨fun h=>h.2,fun h=>⟨g,h⟩⟩
  rw [e]
  simp -implicitDefEqProofs [e1,e2]
end Go.VS
end
