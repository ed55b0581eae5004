/-
  Elements read from their texts: what both packages answer.
-/
import Derived.Test.YtmmbgajolgbhnaaGreatDoorE1
set_option linter.all false
section
namespace Go.VS
set_option maxRecDepth 4000
attribute [-simp] isLeaf okRet ridL V.leaves
open Go.Lib
theorem aqh (n:Int):I64 (IntKind.i64.wrap n):=by
  have h:IntKind.i64.wrap n=(if (n % 18446744073709551616)<9223372036854775808 then n % 18446744073709551616 else n % 18446744073709551616 - 18446744073709551616):=by
    simp only [IntKind.wrap,IntKind.bits,IntKind.signed];simp
    split <;> split <;> omega
  unfold I64
  rw [h];split <;> omega
def StpT (tl:Bs):Prop:=∀ c,tl.head?=some c→dgC c=false∧isRest c=false
structure NumP (s:Bs) (a:Nat) (e:Bool) (n:Int) (a':Nat) (e':Bool):Prop where
  i:I64 n
  lo:a≤a'
  hi:a'≤s.length
  rd:∀ v tl,e=false→I64 v→s.drop a=itoa v++tl→StpT tl→n=v∧a'=a+(itoa v).length∧e'=false
def NumI (s:Bs) (a:Nat) (e neg:Bool) (n:Int) (i:Nat):Prop:=
  ∀ v tl,e=false→I64 v→s.drop a=itoa v++tl→StpT tl→neg=decide (v<0)∧i≤(decDigits v.natAbs).length ∧
    n=(if v<0 then -(valD ((decDigits v.natAbs).take i):Int) else (valD ((decDigits v.natAbs).take i):Int)) ∧
    (s.drop (a+if v<0 then 1 else 0)).drop i=(decDigits v.natAbs).drop i++tl
theorem anf (s:Bs) (a:Nat) (e:Bool) (hs:s.length≤lim) (ha:a≤s.length):
    ∃ x:Int × Nat × Bool,(∀ K:Out→Prop,Call prog 516 ⟨[.ptr 0 0],[[.s s,.i .i64 a,.b e]],[]⟩ K=K (.i .i64 x.1,[[.s s,.i .i64 x.2.1,.b x.2.2]],[]))∧NumP s a e x.1 x.2.1 x.2.2:=by
  refine aan (fun x:Int × Nat × Bool=>(.i .i64 x.1,[[.s s,.i .i64 x.2.1,.b x.2.2]],[])) (fun x=>NumP s a e x.1 x.2.1 x.2.2) fun K hK=>?_
  rw [aar (p:=prog) (f:=516) rfl _ _ _ rfl (by decide)]
  have e0:=anu s [45] a e hs (by simp [lim]) ha
  have hA:=sgA_le (e:=e) (w:=[45]) ha
  have hneg:∀ v tl,e=false→s.drop a=itoa v++tl→sgB e [45] s a=decide (v<0)∧sgA e [45] s a=a+if v<0 then 1 else 0:=by
    intro v tl he h
    have:sgB e [45] s a=decide (v<0):=by
      unfold sgB
      rw [he,h]
      unfold itoa
      by_cases c:v<0
      · rw [if_pos c]
        have:=ab6 [45] (decDigits v.natAbs++tl)
        rw [show [45]++(decDigits v.natAbs++tl)=45 :: decDigits v.natAbs++tl from rfl] at this
        rw [this];simp [c]
      · rw [if_neg c]
        have:pfx [45] (decDigits v.toNat++tl)=false:=by
          unfold pfx
          refine decide_eq_false fun h=>?_
          have h:=h.2
          cases hl:decDigits v.toNat with
          | nil=>exact dec_ne _ hl
          | cons x r=>
            rw [hl] at h
            simp at h
            have:=agu v.toNat x (by rw [hl];simp)
            rw [h] at this
            exact absurd this.1 (by decide)
        rw [this];simp [c]
    refine ⟨this,?_⟩
    unfold sgA
    rw [this]
    by_cases c:v<0 <;> simp [c]
  generalize sgA e [45] s a=A at *
  generalize sgB e [45] s a=N at *
  simp -implicitDefEqProofs [e0]
  unfold lim at hs
  refine WL_st (α:=Int × Nat) (fun x=>⟨sp 104 [(0,.ptr 0 0),(3,.i .i64 a),(4,.b N),(5,.i .i64 x.1)],[[.s s,.i .i64 (A+x.2:Nat),.b e]],[]⟩) (fun x=>s.length - (A+x.2))
    (fun x=>I64 x.1∧A+x.2≤s.length∧NumI s a e N x.1 x.2) (0,0) _ (by simp -implicitDefEqProofs) ⟨⟨by decide,by decide⟩,by simpa using hA.1,?_⟩ ?_
  · intro v tl he hv h ht
    obtain ⟨h1,h2⟩:=hneg v tl he h
    refine ⟨h1,by simp,by simp [valD],?_⟩
    rw [List.drop_zero,List.drop_zero,← List.drop_drop,h]
    unfold itoa
    by_cases c:v<0
    · simp [c]
    · have:v.toNat=v.natAbs:=by omega
      simp [c,this]
  rintro ⟨n,i⟩ ⟨hn,hi,hI⟩
  simp only at hn hi hI ⊢
  obtain ⟨P,hP⟩:∃ P,P=A+i:=⟨_,rfl⟩
  rw [← hP] at hi ⊢
  have w1:=wrap_i64 (n:=(P:Int) - a) (by omega) (by omega)
  have w2:=wrap_i64 (n:=(P:Int)+1) (by omega) (by omega)
  have hPa:a≤P:=by omega
  have hb:=bndsI (n:=s.length) (lo:=(a:Int)) (hi:=(P:Int)) (by omega)
  have ed:=aon n hn
  have stop:(∀ v tl,e=false→I64 v→s.drop a=itoa v++tl→StpT tl→i=(decDigits v.natAbs).length) →
      NumP s a e (if e=true∨itoa n≠(s.take P).drop a then 0 else n) P (decide (e=true∨itoa n≠(s.take P).drop a)):=by
    intro hx
    refine ⟨by split;exact ⟨by decide,by decide⟩;exact hn,hPa,hi,fun v tl he hv h ht=>?_⟩
    have hl:=hx v tl he hv h ht
    obtain ⟨q1,q2,q3,q4⟩:=hI v tl he hv h ht
    have hk:(decDigits v.natAbs).take i=decDigits v.natAbs:=by rw [hl];exact List.take_length
    rw [hk,aqg] at q3
    have hnv:n=v:=by rw [q3];split <;> omega
    have hlen:(itoa v).length=(if v<0 then 1 else 0)+i:=by
      unfold itoa
      by_cases c:v<0
      · simp [c,hl];omega
      · have:v.toNat=v.natAbs:=by omega
        simp [c,hl,this]
    have hPv:P=a+(itoa v).length:=by rw [hP,(hneg v tl he h).2,hlen];omega
    have hsl:(s.take P).drop a=itoa v:=by
      rw [hPv,List.drop_take,Nat.add_sub_cancel_left,h,List.take_append_of_le_length (Nat.le_refl _),List.take_length]
    have hc:¬ (e=true∨itoa n≠(s.take P).drop a):=by
      rw [hsl,hnv,he];simp
    rw [if_neg hc,decide_eq_false hc]
    exact ⟨hnv,hPv,rfl⟩
  have out:(∀ v tl,e=false→I64 v→s.drop a=itoa v++tl→StpT tl→i=(decDigits v.natAbs).length) →
      K (.i .i64 (if e=true∨itoa n≠(s.take P).drop a then 0 else n),[[.s s,.i .i64 P,.b (decide (e=true∨itoa n≠(s.take P).drop a))]],[]):=fun hx=>hK (_,_,_) (stop hx)
  have more:∀ v tl,e=false→I64 v→s.drop a=itoa v++tl→StpT tl→i<(decDigits v.natAbs).length→∃ h:P<s.length,s[P]=(decDigits v.natAbs)[i]!∧P - a<20∧isDig s[P]=true:=by
    intro v tl he hv h ht hil
    obtain ⟨q1,q2,q3,q4⟩:=hI v tl he hv h ht
    have hAv:=(hneg v tl he h).2
    rw [← hAv,List.drop_drop,← hP,List.drop_eq_getElem_cons hil] at q4
    have hlt:P<s.length:=by
      refine Nat.lt_of_not_le fun hh=>?_
      rw [List.drop_eq_nil_of_le hh] at q4;cases q4
    rw [List.drop_eq_getElem_cons hlt] at q4
    injection q4 with q5 q6
    refine ⟨hlt,by rw [q5,getElem!_pos _ i hil],?_,?_⟩
    · have:=aij v hv
      have hl:(itoa v).length=(if v<0 then 1 else 0)+(decDigits v.natAbs).length:=by
        unfold itoa
        by_cases c:v<0
        · simp [c];omega
        · have:v.toNat=v.natAbs:=by omega
          simp [c,this]
      omega
    · rw [q5]
      have:=agu v.natAbs _ (List.getElem_mem hil)
      unfold isDig
      have h1:(48:Int)≤((decDigits v.natAbs)[i]).toNat:=by omega
      have h2:(((decDigits v.natAbs)[i]).toNat:Int)≤57:=by omega
      simp [h1,h2]
  have hxx:(∀ h:P<s.length,¬ (P - a<20∧isDig s[P]=true))→∀ v tl,e=false→I64 v→s.drop a=itoa v++tl→StpT tl→i=(decDigits v.natAbs).length:=by
    intro hh v tl he hv h ht
    have:=(hI v tl he hv h ht).2.1
    refine Nat.le_antisymm this (Nat.le_of_not_lt fun hil=>?_)
    obtain ⟨m1,_,m3,m4⟩:=more v tl he hv h ht hil
    exact hh m1 ⟨m3,m4⟩
  by_cases hlt:P<s.length
  · obtain ⟨c,hc⟩:∃ c,s[P]=c:=⟨_,rfl⟩
    have hxx:=fun (h:¬ (P - a<20∧isDig c=true))=>hxx fun _=>by rw [hc];exact h
    have hc2:=UInt8.toNat_lt c
    unfold isDig at hxx
    by_cases c1:(48:Int)≤c.toNat
    · by_cases c2:(c.toNat:Int)≤57
      · by_cases c3:(P:Int) - a<20
        · have w3:IntKind.u8.wrap ((c.toNat:Int) - 48)=(c.toNat:Int) - 48:=wrap_u8 (by omega) (by omega)
          have w4:=wrap_i64 (n:=(c.toNat:Int) - 48) (by omega) (by omega)
          have w5:=wrap_i64 (n:=-((c.toNat:Int) - 48)) (by omega) (by omega)
          have f1:=eq_true c1
          have f2:=eq_true c2
          have f3:=eq_true c3
          have dg:isDig c=true:=by unfold isDig;simp [c1,c2]
          have nx:∀ d:Int,d=(if N=true then -((c.toNat:Int) - 48) else (c.toNat:Int) - 48)→NumI s a e N (IntKind.i64.wrap (IntKind.i64.wrap (n*10)+d)) (i+1):=by
            intro d hd v tl he hv h ht
            obtain ⟨q1,q2,q3,q4⟩:=hI v tl he hv h ht
            have hil:i<(decDigits v.natAbs).length:=by
              refine Nat.lt_of_le_of_ne q2 fun hh=>?_
              rw [← (hneg v tl he h).2,List.drop_drop,← hP,hh,List.drop_length,List.nil_append,List.drop_eq_getElem_cons hlt,hc] at q4
              have:=(ht c (by rw [← q4];rfl)).1
              unfold dgC at this
              rw [dg] at this
              simp at this
            obtain ⟨_,m2,_,_⟩:=more v tl he hv h ht hil
            rw [hc,getElem!_pos _ i hil] at m2
            have tk:=List.take_append_getElem hil
            rw [← m2] at tk
            have hv1:valD ((decDigits v.natAbs).take (i+1))=valD ((decDigits v.natAbs).take i)*10+(c.toNat - 48):=by rw [← tk,aju]
            have hv2:valD ((decDigits v.natAbs).take (i+1))≤v.natAbs:=by
              have:=awa ((decDigits v.natAbs).take (i+1)) ((decDigits v.natAbs).drop (i+1))
              rwa [List.take_append_drop,aqg] at this
            obtain ⟨v1,v2⟩:=hv
            refine ⟨q1,hil,?_,?_⟩
            · rw [hv1]
              rw [q1] at hd
              by_cases cv:v<0
              · rw [if_pos cv] at q3 ⊢
                simp only [cv,decide_true,if_true] at hd
                rw [wrap_i64 (n:=n*10) (by omega) (by omega),wrap_i64 (by omega) (by omega)]
                omega
              · rw [if_neg cv] at q3 ⊢
                simp only [cv,decide_false,Bool.false_eq_true,if_false] at hd
                rw [wrap_i64 (n:=n*10) (by omega) (by omega),wrap_i64 (by omega) (by omega)]
                omega
            · rw [List.drop_drop] at q4 ⊢
              rw [← Nat.add_assoc,← List.drop_drop,q4,List.drop_eq_getElem_cons hil];rfl
          have c20:P+1≤s.length:=hlt
          cases hN:N
          · rw [hN] at nx
            simp -implicitDefEqProofs [hlt,hc,f1,f2,f3,w1,w2,w3,w4,w5,hN]
            refine NextS.mk (IntKind.i64.wrap (IntKind.i64.wrap (n*10)+((c.toNat:Int) - 48)),i+1) ⟨aqh _,by omega,nx _ rfl⟩ (by simp only;omega) ?_
            rw [show A+(i+1)=P+1 by omega];rfl
          · rw [hN] at nx
            simp -implicitDefEqProofs [hlt,hc,f1,f2,f3,w1,w2,w3,w4,w5,hN]
            refine NextS.mk (IntKind.i64.wrap (IntKind.i64.wrap (n*10)+-((c.toNat:Int) - 48)),i+1) ⟨aqh _,by omega,nx _ rfl⟩ (by simp only;omega) ?_
            rw [show A+(i+1)=P+1 by omega];rfl
        · have hx:=hxx fun h=>by omega
          have f1:=eq_true c1
          have f2:=eq_true c2
          have f3:=eq_false c3
          cases e
          · by_cases q:itoa n=(s.take P).drop a
            · have o:K (.i .i64 n,[[.s s,.i .i64 P,.b false]],[]):=by simpa [q] using out hx
              simp -implicitDefEqProofs [hlt,hc,f1,f2,f3,w1,ed,hb,q]
              exact o
            · have o:K (.i .i64 0,[[.s s,.i .i64 P,.b true]],[]):=by simpa [q] using out hx
              simp -implicitDefEqProofs [hlt,hc,f1,f2,f3,w1,ed,hb,q]
              exact o
          · have o:K (.i .i64 0,[[.s s,.i .i64 P,.b true]],[]):=by simpa using out hx
            simp -implicitDefEqProofs [hlt,hc,f1,f2,f3,w1]
            exact o
      · have hx:=hxx fun h=>by simp [c1,c2] at h
        have f1:=eq_true c1
        have f2:=eq_false c2
        cases e
        · by_cases q:itoa n=(s.take P).drop a
          · have o:K (.i .i64 n,[[.s s,.i .i64 P,.b false]],[]):=by simpa [q] using out hx
            simp -implicitDefEqProofs [hlt,hc,f1,f2,ed,hb,q]
            exact o
          · have o:K (.i .i64 0,[[.s s,.i .i64 P,.b true]],[]):=by simpa [q] using out hx
            simp -implicitDefEqProofs [hlt,hc,f1,f2,ed,hb,q]
            exact o
        · have o:K (.i .i64 0,[[.s s,.i .i64 P,.b true]],[]):=by simpa using out hx
          simp -implicitDefEqProofs [hlt,hc,f1,f2]
          exact o
    · have hx:=hxx fun h=>by simp [c1] at h
      have f1:=eq_false c1
      cases e
      · by_cases q:itoa n=(s.take P).drop a
        · have o:K (.i .i64 n,[[.s s,.i .i64 P,.b false]],[]):=by simpa [q] using out hx
          simp -implicitDefEqProofs [hlt,hc,f1,ed,hb,q]
          exact o
        · have o:K (.i .i64 0,[[.s s,.i .i64 P,.b true]],[]):=by simpa [q] using out hx
          simp -implicitDefEqProofs [hlt,hc,f1,ed,hb,q]
          exact o
      · have o:K (.i .i64 0,[[.s s,.i .i64 P,.b true]],[]):=by simpa using out hx
        simp -implicitDefEqProofs [hlt,hc,f1]
        exact o
  · have hx:=hxx fun h=>absurd h hlt
    cases e
    · by_cases q:itoa n=(s.take P).drop a
      · have o:K (.i .i64 n,[[.s s,.i .i64 P,.b false]],[]):=by simpa [q] using out hx
        simp -implicitDefEqProofs [hlt,ed,hb,q]
        exact o
      · have o:K (.i .i64 0,[[.s s,.i .i64 P,.b true]],[]):=by simpa [q] using out hx
        simp -implicitDefEqProofs [hlt,ed,hb,q]
        exact o
    · have o:K (.i .i64 0,[[.s s,.i .i64 P,.b true]],[]):=by simpa using out hx
      simp -implicitDefEqProofs [hlt]
      exact o
end Go.VS
end
section
namespace Go.VS
set_option maxRecDepth 4000
attribute [-simp] isLeaf okRet ridL V.leaves
theorem aly (c:UInt8):(escB c=true∧qC c=92 :: hexB c∧∃ a b,hexB c=[a,b]∧rdHex a b=some [c])∨(escB c=false∧qC c=[c]∧c≠34∧c≠92):=by
  by_cases h:escB c=true
  · refine .inl ⟨h,by unfold qC;rw [if_pos h],_,_,rfl,?_⟩
    have:=aqt ⟨c.toNat,UInt8.toNat_lt c⟩
    rw [UInt8.ofNat_toNat] at this
    exact this
  · have h':escB c=false:=by simpa using h
    refine .inr ⟨h',by unfold qC;rw [if_neg h],?_,?_⟩ <;> (rintro rfl;exact absurd h' (by decide))
theorem avs (c x:UInt8) (t:Bs):pfx [c] (x :: t)=decide (x=c):=by
  unfold pfx;simp
theorem aov (c:UInt8):pfx [c] []=false:=by unfold pfx;simp
def QI (g:Bs→Bs→Prop) (out rest:Bs):Prop:=∀ x tl,g x tl→∃ x2,x=out++x2∧rest=x2.flatMap qC++34 :: tl
theorem QI.end {g:Bs→Bs→Prop} {out t:Bs} (h:QI g out (34 :: t)):∀ x tl,g x tl→out=x∧t=tl:=by
  intro x tl hg
  obtain ⟨x2,e1,e2⟩:=h x tl hg
  cases x2 with
  | nil=>rw [List.flatMap_nil,List.nil_append] at e2;injection e2 with _ e2;exact ⟨by rw [e1,List.append_nil],e2⟩
  | cons c x2=>
    rw [List.flatMap_cons] at e2
    rcases aly c with ⟨_,q,_⟩ | ⟨_,q,n34,_⟩
    · rw [q] at e2;injection e2 with e2 _;exact absurd e2 (by decide)
    · rw [q] at e2;injection e2 with e2 _;exact absurd e2.symm n34
theorem QI.plain {g:Bs→Bs→Prop} {out t:Bs} {c:UInt8} (h34:c≠34) (h92:c≠92) (h:QI g out (c :: t)):QI g (out++[c]) t:=by
  intro x tl hg
  obtain ⟨x2,e1,e2⟩:=h x tl hg
  cases x2 with
  | nil=>rw [List.flatMap_nil,List.nil_append] at e2;injection e2 with e2 _;exact absurd e2 h34
  | cons y x2=>
    rw [List.flatMap_cons] at e2
    rcases aly y with ⟨_,q,_⟩ | ⟨_,q,_⟩
    · rw [q] at e2;injection e2 with e2 _;exact absurd e2 h92
    · rw [q] at e2;injection e2 with e2 e3;subst e2;exact ⟨x2,by rw [e1,List.append_assoc];rfl,e3⟩
theorem QI.esc {g:Bs→Bs→Prop} {out t:Bs} (h:QI g out (92 :: t)):∀ x tl,g x tl→∃ a b t' c,t=a :: b :: t'∧rdHex a b=some [c]∧∃ x2,x=(out++[c])++x2∧t'=x2.flatMap qC++34 :: tl:=by
  intro x tl hg
  obtain ⟨x2,e1,e2⟩:=h x tl hg
  cases x2 with
  | nil=>rw [List.flatMap_nil,List.nil_append] at e2;injection e2 with e2 _;exact absurd e2 (by decide)
  | cons y x2=>
    rw [List.flatMap_cons] at e2
    rcases aly y with ⟨_,q,a,b,q2,q3⟩ | ⟨_,q,_,n92⟩
    · rw [q,q2] at e2;injection e2 with _ e3;exact ⟨a,b,_,y,e3,q3,x2,by rw [e1,List.append_assoc];rfl,rfl⟩
    · rw [q] at e2;injection e2 with e2 _;exact absurd e2.symm n92
theorem QI.nil {g:Bs→Bs→Prop} {out:Bs} (h:QI g out []):∀ x tl,¬ g x tl:=by
  intro x tl hg
  obtain ⟨x2,e1,e2⟩:=h x tl hg
  have:=congrArg List.length e2
  simp at this
theorem anl {a b:UInt8} {x:Bs} (h:rdHex a b=some x):∃ c,x=[c]:=by
  unfold rdHex at h
  split at h
  · cases h;exact ⟨_,rfl⟩
  · cases h
theorem amd (a b:UInt8) (K:Out→Prop):Call prog 580 ⟨[.s [a,b]],[],[]⟩ K=K (.tup [.s ((rdHex a b).getD []),.b (rdHex a b).isSome],[],[]):=by
  refine Zc (f:=580) rfl rfl (by decide) ?_
  have e1:=afw a
  have e2:=afw b
  unfold hexO at e1 e2
  simp -implicitDefEqProofs
  refine WL_st (α:=Bool) (fun x=>⟨sp 43 [(0,.s [a,b]),(4,.sl 0 0 (if x then 1 else 0) false),(5,.i .i64 (if x then 2 else 0))],[],[.row 1 false (if x then bytesV ((rdHex a b).getD []) else [])]⟩) (fun x=>if x then 0 else 1) (fun x=>x=true→(rdHex a b).isSome=true∧((rdHex a b).getD []).length=1) false _ (by simp -implicitDefEqProofs) (fun h=>by cases h) ?_
  intro x hx
  cases x
  · unfold rdHex
    cases h1:hexV a with
    | none=>rw [h1] at e1;simp -implicitDefEqProofs [e1,e2]
    | some p=>
      rw [h1] at e1
      have f1:((p:Int)<0)=False:=eq_false (by omega)
      cases h2:hexV b with
      | none=>rw [h2] at e2;simp -implicitDefEqProofs [e1,e2,f1]
      | some q=>
        rw [h2] at e2
        have f2:((q:Int)<0)=False:=eq_false (by omega)
        have hp:=ali h1
        have hq:=ali h2
        have w1:IntKind.i64.wrap (16*(p:Int))=16*(p:Int):=wrap_i64 (by omega) (by omega)
        have w2:IntKind.i64.wrap (16*(p:Int)+q)=16*(p:Int)+q:=wrap_i64 (by omega) (by omega)
        have w4:IntKind.u8.wrap (16*(p:Int)+q)=16*(p:Int)+q:=wrap_u8 (by omega) (by omega)
        have w3:16*(p:Int)+q=((UInt8.ofNat (16*p+q)).toNat:Int):=by
          rw [UInt8.toNat_ofNat_of_lt' (by show _<256;omega)];omega
        have c1:1≤lim:=by unfold lim;decide
        simp -implicitDefEqProofs [e1,e2,f1,f2,w1,w2,w4,c1]
        rw [w3]
        refine NextS.mk true ?_ ?_ ?_ <;> simp [rdHex,h1,h2,bytesV]
  · obtain ⟨h1,h2⟩:=hx rfl
    have tk:List.take 1 (bytesV ((rdHex a b).getD []))=bytesV ((rdHex a b).getD []):=List.take_of_length_le (by simp [bytesV,h2])
    simp -implicitDefEqProofs [h1,cvsV,tk]
structure QP (r:Bs) (e:Bool) (x:Bs × Bs × Bool):Prop where
  lo:x.1.length≤r.length
  lr:x.2.1.length≤r.length
  rd:∀ y tl,e=false→r=qB y++tl→x=(y,tl,false)
theorem alz (r:Bs) (e:Bool) (hr:r.length≤1048576):
    ∃ x:Bs × Bs × Bool,(∀ K:Out→Prop,Call prog 553 ⟨[.ptr 0 0],[[.s r,.b e]],[]⟩ K=K (.s x.1,[[.s x.2.1,.b x.2.2]],[]))∧QP r e x:=by
  refine aan (fun x:Bs × Bs × Bool=>(.s x.1,[[.s x.2.1,.b x.2.2]],[])) (QP r e) fun K hK=>?_
  rw [aar (p:=prog) (f:=553) rfl _ _ _ rfl (by decide)]
  have hl:r.length≤lim:=by unfold lim;omega
  have e0:=aa0 r [34] e hl (by simp [lim])
  have hal:=ac5 [34] r
  have g0:QI (fun y tl=>e=false∧r=qB y++tl) [] (aftr [34] r):=by
    rintro y tl ⟨_,h⟩
    refine ⟨y,rfl,?_⟩
    have:r=[34]++(y.flatMap qC++34 :: tl):=by rw [h];unfold qB;simp
    rw [this,ac4]
  have b0:∀ y tl,e=false∧r=qB y++tl→(e || !pfx [34] r)=false:=by
    rintro y tl ⟨h0,h⟩
    have:r=[34]++(y.flatMap qC++34 :: tl):=by rw [h];unfold qB;simp
    rw [this,ab6,h0];rfl
  generalize aftr [34] r=r1 at *
  generalize (e || !pfx [34] r)=e1 at *
  simp -implicitDefEqProofs [e0]
  refine WL_st (α:=Bs × Bs) (fun x=>⟨sp 64 [(0,.ptr 0 0),(3,.sl 0 0 x.1.length false)],[[.s x.2,.b e1]],[.row 1 false (bytesV x.1)]⟩) (fun x=>x.2.length)
    (fun x=>x.1.length+x.2.length≤r.length∧QI (fun y tl=>e=false∧r=qB y++tl) x.1 x.2) ([],r1) _ (by simp -implicitDefEqProofs [bytesV]) ⟨by simpa using hal,g0⟩ ?_
  rintro ⟨out,rest⟩ ⟨h1,hQ⟩
  simp only at h1 hQ ⊢
  have nb:=noBt_bytesV out
  have tk:List.take out.length (bytesV out)=bytesV out:=List.take_of_length_le (by simp [bytesV])
  have n1:out.length+1≤lim:=by unfold lim;omega
  have n2:out.length+0≤lim:=by unfold lim;omega
  have hol:out.length≤r.length:=by omega
  have hrl:rest.length≤r.length:=by omega
  cases e1
  case true=>
    have o:=hK (out,rest,true) ⟨hol,hrl,fun y tl h0 h=>by have:=b0 y tl ⟨h0,h⟩;cases this⟩
    simp -implicitDefEqProofs [cvsV,tk]
    exact o
  have bad:(∀ y tl,¬ (e=false∧r=qB y++tl))→K (.s out,[[.s rest,.b true]],[]):=fun hh=>hK (out,rest,true) ⟨hol,hrl,fun y tl h0 h=>absurd ⟨h0,h⟩ (hh y tl)⟩
  have hrl2:rest.length≤lim:=by unfold lim;omega
  have ea:=aiv rest [34] false hrl2 (by simp [lim])
  have eh:=ajy rest [92] hrl2 (by simp [lim])
  have ec1:=ao9 rest 1 hrl2 (by omega)
  have ec3:=ao9 rest 3 hrl2 (by omega)
  unfold aftr at ea
  unfold dTake at ec1 ec3
  cases rest with
  | nil=>
    have o:=bad hQ.nil
    rw [aov] at ea eh
    simp at ec1
    simp -implicitDefEqProofs [ea,eh,ec1,cvsV,tk]
    exact o
  | cons c t=>
    rw [avs] at ea eh
    by_cases c34:c=34
    · subst c34
      have hE:=hQ.end
      have o:=hK (out,t,false) ⟨hol,by show t.length≤r.length;simp at hrl;omega,fun y tl h0 h=>by obtain ⟨q1,q2⟩:=hE y tl ⟨h0,h⟩;rw [q1,q2]⟩
      simp at ea
      simp -implicitDefEqProofs [ea,cvsV,tk]
      exact o
    simp [c34] at ea
    by_cases c92:c=92
    · subst c92
      simp at eh
      match t,hQ,ec3,hrl,h1,bad,ea,eh with
      | [],hQ,ec3,hrl,h1,bad,ea,eh=>
        have o:=bad fun y tl hg=>by obtain ⟨a,b,t',c,q,_⟩:=hQ.esc y tl hg;cases q
        simp at ec3
        simp -implicitDefEqProofs [ea,eh,ec3,cvsV,tk]
        exact o
      | [a],hQ,ec3,hrl,h1,bad,ea,eh=>
        have o:=bad fun y tl hg=>by obtain ⟨a,b,t',c,q,_⟩:=hQ.esc y tl hg;cases q
        simp at ec3
        simp -implicitDefEqProofs [ea,eh,ec3,cvsV,tk]
        exact o
      | a :: b :: t',hQ,ec3,hrl,h1,bad,ea,eh=>
        have erh:=amd a b
        simp at ec3
        cases hx:rdHex a b with
        | none=>
          have o:=bad fun y tl hg=>by obtain ⟨a',b',t'',c,q,q2,_⟩:=hQ.esc y tl hg;injection q with q1 q;injection q with q3 q;subst q1;subst q3;rw [hx] at q2;cases q2
          rw [hx] at erh
          simp -implicitDefEqProofs [ea,eh,ec3,erh,cvsV,tk]
          exact o
        | some z=>
          obtain ⟨c,rfl⟩:=anl hx
          rw [hx] at erh
          have c5:((3:Int)≤(t'.length:Int)+1+1+1)=True:=eq_true (by omega)
          simp -implicitDefEqProofs [ea,eh,ec3,erh,nb,n1,tk,c5]
          refine NextS.mk (out++[c],t') ⟨by simp at h1 ⊢;omega,fun y tl hg=>?_⟩ (by simp;omega) ?_
          · obtain ⟨a',b',t'',c',q,q2,x2,q3,q4⟩:=hQ.esc y tl hg
            injection q with q1 q;injection q with q5 q
            subst q1;subst q5;subst q
            rw [hx] at q2
            injection q2 with q2;injection q2 with q2 _
            subst q2
            exact ⟨x2,q3,q4⟩
          · simp [ahy,bytesV]
    · simp [c92] at eh
      simp at ec1
      have c5:((1:Int)≤(t.length:Int)+1)=True:=eq_true (by omega)
      simp -implicitDefEqProofs [ea,eh,ec1,nb,n1,tk,c5]
      refine NextS.mk (out++[c],t) ⟨by simp at h1 ⊢;omega,hQ.plain c34 c92⟩ (by simp) ?_
      simp [ahy,bytesV]
end Go.VS
end
section
namespace Go.VS
set_option maxRecDepth 4000
attribute [-simp] isLeaf okRet ridL V.leaves
structure TP (s:Bs) (a n:Nat) (e:Bool) (x:Bs × Nat × Bool):Prop where
  lo:x.1.length≤n
  l1:a≤x.2.1
  hi:x.2.1≤s.length
  rd:∀ y tl,e=false→y.length≤n→s.drop a=qB y++tl→x.1=y++List.replicate (n - y.length) 0∧s.drop x.2.1=tl∧x.2.2=false
theorem av3 (s:Bs) (a n:Nat) (e:Bool) (hs:s.length≤1048576) (ha:a≤s.length) (hn:n≤65536):
    ∃ x:Bs × Nat × Bool,(∀ K:Out→Prop,Call prog 517 ⟨[.ptr 0 0,.i .i64 n],[[.s s,.i .i64 a,.b e]],[]⟩ K=K (.s x.1,[[.s s,.i .i64 x.2.1,.b x.2.2]],[]))∧TP s a n e x:=by
  refine aan (fun x:Bs × Nat × Bool=>(.s x.1,[[.s s,.i .i64 x.2.1,.b x.2.2]],[])) (TP s a n e) fun K hK=>?_
  rw [aar (p:=prog) (f:=517) rfl _ _ _ rfl (by decide)]
  have hsl:s.length≤lim:=by unfold lim;omega
  have e0:=adj s [34] a e hsl (by simp [lim]) ha
  have hA:=sgA_le (e:=e) (w:=[34]) ha
  have g0:QI (fun y tl=>e=false∧y.length≤n∧s.drop a=qB y++tl) [] (s.drop (sgA e [34] s a))∧∀ y tl,e=false∧y.length≤n∧s.drop a=qB y++tl→(!sgB e [34] s a)=false:=by
    have key:∀ y tl,e=false∧y.length≤n∧s.drop a=qB y++tl→sgB e [34] s a=true∧s.drop (a+1)=y.flatMap qC++34 :: tl:=by
      rintro y tl ⟨h0,_,h⟩
      have h2:s.drop a=[34]++(y.flatMap qC++34 :: tl):=by rw [h];unfold qB;simp
      refine ⟨by unfold sgB;rw [h0,h2,ab6];rfl,?_⟩
      rw [← List.drop_drop,h2];rfl
    refine ⟨fun y tl h=>⟨y,rfl,?_⟩,fun y tl h=>by rw [(key y tl h).1];rfl⟩
    unfold sgA
    rw [if_pos (key y tl h).1]
    exact (key y tl h).2
  obtain ⟨g0,b0⟩:=g0
  generalize sgA e [34] s a=A at *
  generalize (!sgB e [34] s a)=e1 at *
  simp -implicitDefEqProofs [e0]
  refine WL_st (α:=Bs × Nat) (fun x=>⟨sp 142 [(0,.ptr 0 0),(1,.i .i64 n),(5,.s x.1)],[[.s s,.i .i64 x.2,.b e1]],[]⟩) (fun x=>s.length - x.2)
    (fun x=>x.1.length≤n+1∧a≤x.2∧x.2≤s.length∧QI (fun y tl=>e=false∧y.length≤n∧s.drop a=qB y++tl) x.1 (s.drop x.2)) ([],A) _ (by simp -implicitDefEqProofs) ⟨by simp,hA.2,hA.1,g0⟩ ?_
  rintro ⟨out,P⟩ ⟨h1,h2,h3,hQ⟩
  simp only at h1 h2 h3 hQ ⊢
  have en:=adj s [34] P e1 hsl (by simp [lim]) h3
  have hA2:=sgA_le (e:=e1) (w:=[34]) h3
  have out_:(∀ y tl,(e=false∧y.length≤n∧s.drop a=qB y++tl)→∃ t,s.drop P=34 :: t) →
      K (.s (if n<out.length then [] else out++List.replicate (n - out.length) 0),[[.s s,.i .i64 (sgA e1 [34] s P:Nat),.b (if n<out.length then true else !sgB e1 [34] s P)]],[]):=by
    intro hx
    refine hK (_,_,_) ⟨?_,by show a≤sgA e1 [34] s P;omega,hA2.1,fun y tl k0 k1 k2=>?_⟩
    · show (if n<out.length then [] else out++List.replicate (n - out.length) 0:Bs).length≤n
      split
      · simp
      · simp;omega
    · have hg:e=false∧y.length≤n∧s.drop a=qB y++tl:=⟨k0,k1,k2⟩
      obtain ⟨t,ht⟩:=hx y tl hg
      have hQ2:=hQ
      rw [ht] at hQ2
      obtain ⟨q1,q2⟩:=hQ2.end y tl hg
      have he1:=b0 y tl hg
      have hB:sgB e1 [34] s P=true:=by
        unfold sgB
        rw [he1,ht]
        exact ab6 [34] t
      have hAA:sgA e1 [34] s P=P+1:=by unfold sgA;rw [if_pos hB];rfl
      have c:¬ n<out.length:=by rw [q1];omega
      show (if n<out.length then [] else out++List.replicate (n - out.length) 0)=_∧s.drop (sgA e1 [34] s P)=tl∧(if n<out.length then true else !sgB e1 [34] s P)=false
      rw [if_neg c,if_neg c,hB,hAA,← List.drop_drop,ht,q1]
      exact ⟨rfl,q2,rfl⟩
  have bad:(∀ y tl,¬ (e=false∧y.length≤n∧s.drop a=qB y++tl))→K (.s [],[[.s s,.i .i64 P,.b true]],[]):=fun hh=>
    hK ([],P,true) ⟨by simp,h2,h3,fun y tl k0 k1 k2=>absurd ⟨k0,k1,k2⟩ (hh y tl)⟩
  cases he:e1
  case true=>
    rw [he] at b0 en out_
    have o:=out_ fun y tl hg=>by have:=b0 y tl hg;cases this
    by_cases hbig:(n:Int)<out.length
    · have f9:=eq_true hbig
      rw [if_pos (by omega),if_pos (by omega)] at o
      simp -implicitDefEqProofs [he,en,f9]
      exact o
    · have f9:=eq_false hbig
      rw [if_neg (by omega),if_neg (by omega)] at o
      have z1:=aao (n - out.length) (by unfold lim;omega)
      have z2:IntKind.i64.wrap ((n:Int) - out.length)=((n - out.length:Nat):Int):=by rw [wrap_i64 (by omega) (by omega)];omega
      have z3:out.length+(n - out.length)≤lim:=by unfold lim;omega
      have z4:n≤lim:=by unfold lim;omega
      have z5:out.length+(n - out.length)=n:=by omega
      simp -implicitDefEqProofs [he,en,f9,z1,z2,z3,z4,z5]
      exact o
  rw [he] at en out_
  by_cases hlt:P<s.length
  case neg=>
    have o:=out_ fun y tl hg=>by rw [List.drop_eq_nil_of_le (show s.length≤P by omega)] at hQ;exact absurd hg (hQ.nil y tl)
    by_cases hbig:(n:Int)<out.length
    · have f9:=eq_true hbig
      rw [if_pos (by omega),if_pos (by omega)] at o
      simp -implicitDefEqProofs [he,hlt,en,f9]
      exact o
    · have f9:=eq_false hbig
      rw [if_neg (by omega),if_neg (by omega)] at o
      have z1:=aao (n - out.length) (by unfold lim;omega)
      have z2:IntKind.i64.wrap ((n:Int) - out.length)=((n - out.length:Nat):Int):=by rw [wrap_i64 (by omega) (by omega)];omega
      have z3:out.length+(n - out.length)≤lim:=by unfold lim;omega
      have z4:n≤lim:=by unfold lim;omega
      have z5:out.length+(n - out.length)=n:=by omega
      simp -implicitDefEqProofs [he,hlt,en,f9,z1,z2,z3,z4,z5]
      exact o
  obtain ⟨c,hc⟩:∃ c,s[P]=c:=⟨_,rfl⟩
  have hd:s.drop P=c :: s.drop (P+1):=by rw [← hc];exact List.drop_eq_getElem_cons hlt
  by_cases c34:c=34
  · subst c34
    have o:=out_ fun y tl hg=>⟨_,hd⟩
    by_cases hbig:(n:Int)<out.length
    · have f9:=eq_true hbig
      rw [if_pos (by omega),if_pos (by omega)] at o
      simp -implicitDefEqProofs [he,hlt,hc,en,f9]
      exact o
    · have f9:=eq_false hbig
      rw [if_neg (by omega),if_neg (by omega)] at o
      have z1:=aao (n - out.length) (by unfold lim;omega)
      have z2:IntKind.i64.wrap ((n:Int) - out.length)=((n - out.length:Nat):Int):=by rw [wrap_i64 (by omega) (by omega)];omega
      have z3:out.length+(n - out.length)≤lim:=by unfold lim;omega
      have z4:n≤lim:=by unfold lim;omega
      have z5:out.length+(n - out.length)=n:=by omega
      simp -implicitDefEqProofs [he,hlt,hc,en,f9,z1,z2,z3,z4,z5]
      exact o
  have i34:((c.toNat:Int)=34)=False:=eq_false fun h=>c34 (UInt8.toNat_inj.1 (by show c.toNat=34;omega))
  by_cases hbig2:(out.length:Int)≤n
  case neg=>
    have f8:=eq_false hbig2
    have o:=out_ fun y tl hg=>by
      obtain ⟨x2,q1,q2⟩:=hQ y tl hg
      have:=congrArg List.length q1
      have:=hg.2.1
      simp at *;omega
    by_cases hbig:(n:Int)<out.length
    · have f9:=eq_true hbig
      rw [if_pos (by omega),if_pos (by omega)] at o
      simp -implicitDefEqProofs [he,hlt,hc,i34,f8,en,f9]
      exact o
    · have f9:=eq_false hbig
      rw [if_neg (by omega),if_neg (by omega)] at o
      have z1:=aao (n - out.length) (by unfold lim;omega)
      have z2:IntKind.i64.wrap ((n:Int) - out.length)=((n - out.length:Nat):Int):=by rw [wrap_i64 (by omega) (by omega)];omega
      have z3:out.length+(n - out.length)≤lim:=by unfold lim;omega
      have z4:n≤lim:=by unfold lim;omega
      have z5:out.length+(n - out.length)=n:=by omega
      simp -implicitDefEqProofs [he,hlt,hc,i34,f8,en,f9,z1,z2,z3,z4,z5]
      exact o
  have f8:=eq_true hbig2
  have w1:=wrap_i64 (n:=(P:Int)+1) (by omega) (by omega)
  have w3:=wrap_i64 (n:=(P:Int)+3) (by omega) (by omega)
  have n1:out.length+1≤lim:=by unfold lim;omega
  rw [hd] at hQ
  by_cases c92:c=92
  · subst c92
    have hlen:(s.drop (P+1)).length=s.length - (P+1):=List.length_drop
    by_cases h33:(s.length:Int)<(P:Int)+3
    · have f3:=eq_true h33
      have o:=bad fun y tl hg=>by
        obtain ⟨x,y',t',c,q,_⟩:=hQ.esc y tl hg
        rw [q] at hlen;simp at hlen;omega
      simp -implicitDefEqProofs [he,hlt,hc,f8,w3,f3]
      exact o
    · have f3:=eq_false h33
      obtain ⟨x1,y1,t1,hxy⟩:∃ x1 y1 t1,s.drop (P+1)=x1 :: y1 :: t1:=by
        match hh:s.drop (P+1) with
        | []=>rw [hh] at hlen;simp at hlen;omega
        | [z]=>rw [hh] at hlen;simp at hlen;omega
        | x1 :: y1 :: t1=>exact ⟨x1,y1,t1,rfl⟩
      have hb:=bndsI (n:=s.length) (lo:=(P:Int)+1) (hi:=(P:Int)+3) (by omega)
      have k1:((P:Int)+1).toNat=P+1:=by omega
      have k3:((P:Int)+3).toNat=P+3:=by omega
      have hs2:(s.take (P+3)).drop (P+1)=[x1,y1]:=by
        rw [List.drop_take,hxy,show P+3 - (P+1)=2 by omega];rfl
      have erh:=aky x1 y1
      cases hx:rdHex x1 y1 with
      | none=>
        have o:=bad fun y tl hg=>by
          obtain ⟨a',b',t'',c,q,q2,_⟩:=hQ.esc y tl hg
          rw [hxy] at q
          injection q with q1 q;injection q with q3 q;subst q1;subst q3;rw [hx] at q2;cases q2
        rw [hx] at erh
        simp -implicitDefEqProofs [he,hlt,hc,f8,w3,w1,f3,hb,k1,k3,hs2,erh]
        exact o
      | some z=>
        obtain ⟨c,rfl⟩:=anl hx
        rw [hx] at erh
        simp -implicitDefEqProofs [he,hlt,hc,f8,w3,w1,f3,hb,k1,k3,hs2,erh,n1]
        refine NextS.mk (out++[c],P+3) ⟨by simp;omega,by simp only;omega,by simp only;omega,fun y tl hg=>?_⟩ (by simp only;omega) (by simp)
        obtain ⟨a',b',t'',c',q,q2,x2,q3,q4⟩:=hQ.esc y tl hg
        have hd3:s.drop (P+3)=t1:=by rw [show P+3=P+1+2 by omega,← List.drop_drop,hxy];rfl
        rw [hxy] at q
        injection q with q1 q;injection q with q5 q
        subst q1;subst q5;subst q
        rw [hx] at q2
        injection q2 with q2;injection q2 with q2 _
        subst q2
        exact ⟨x2,q3,by rw [hd3];exact q4⟩
  · have i92:((c.toNat:Int)=92)=False:=eq_false fun h=>c92 (UInt8.toNat_inj.1 (by show c.toNat=92;omega))
    have hb:=bndsI (n:=s.length) (lo:=(P:Int)) (hi:=(P:Int)+1) (by omega)
    have k1:((P:Int)+1).toNat=P+1:=by omega
    have hs1:(s.take (P+1)).drop P=[c]:=by
      rw [← List.take_append_getElem hlt,hc,List.drop_append_of_le_length (by simp;omega)]
      simp [List.drop_eq_nil_of_le]
    simp -implicitDefEqProofs [he,hlt,hc,i34,i92,f8,w1,hb,k1,hs1,n1]
    refine NextS.mk (out++[c],P+1) ⟨by simp;omega,by simp only;omega,by simp only;omega,hQ.plain c34 c92⟩ (by simp only;omega) (by simp)
end Go.VS
end
section
namespace Go.VS
set_option maxRecDepth 4000
attribute [-simp] isLeaf okRet ridL V.leaves
open Go.Lib
theorem num_in {t:Ty} (h:IntF t) (b:Bs) (hb:b.length=t.size.toNat):inI (t.num b) (lo t.size t.sg) (hi t.size t.sg)=true:=by
  have hl:=(leI_bd (ord t.bg b)).2
  have h0:=(leI_bd (ord t.bg b)).1
  rw [ord_len,hb] at hl
  unfold Ty.num numB sgnI inI lo hi
  have hs:=h.s
  rcases hs with s | s | s | s <;> rw [s] at hl ⊢ <;> cases t.sg <;> simp at hl ⊢ <;> (try split) <;> omega
theorem am1 {d:Nat} {t:Ty} (g:Gd (d+1) t) (k:t.kind=1∨t.kind=3∨t.kind=6) {b:Bs} (o:Ok (d+1) t b):t.holds (t.it.num b)=true:=by
  obtain ⟨h1,h2⟩:=it_len g k o.1
  unfold Ty.holds
  split
  · rename_i k3;exact decide_eq_true (o.2.2.1 k3)
  · exact num_in h2 b h1
theorem al7 {p:UInt8→Bool} {l tl:Bs} (h1:∀ c,c ∈ l→p c=true) (h2:∀ c,tl.head?=some c→p c=false):(l++tl).takeWhile p=l∧(l++tl).dropWhile p=tl:=by
  induction l with
  | nil=>
    cases tl with
    | nil=>exact ⟨rfl,rfl⟩
    | cons c t=>
      have:=h2 c rfl
      rw [List.nil_append,List.takeWhile_cons,List.dropWhile_cons,this]
      exact ⟨rfl,rfl⟩
  | cons c l ih=>
    have hc:=h1 c (by simp)
    obtain ⟨i1,i2⟩:=ih fun c hc=>h1 c (by simp [hc])
    rw [List.cons_append,List.takeWhile_cons,List.dropWhile_cons,hc,if_pos rfl,if_pos rfl,i1]
    exact ⟨rfl,i2⟩
theorem anc {s:Bs} (h:isName s=true):∀ c,c ∈ s→isRest c=true:=by
  intro c hc
  obtain ⟨i,hi,rfl⟩:=List.getElem_of_mem hc
  unfold isName at h
  simp only [Bool.and_eq_true,Bool.not_eq_true',Tag_eq] at h
  have h1:=h.1
  have h2:chBad s i=false:=aej _ _ h1 i (by omega) (by omega)
  unfold chBad at h2
  have e:s.getD i 0=s[i]:=by rw [List.getD_eq_getElem?_getD,List.getElem?_eq_getElem hi];rfl
  split at h2
  · rename_i i0
    subst i0
    rw [e] at h2
    unfold isRest
    simp at h2
    simp [h2]
  · rw [e] at h2
    simpa using h2
def remT (l:List Bs) (i:Nat):Bs:=if i=0 then join l [44] else joinTail [44] (l.drop i)
theorem aho {l:List Bs} {i:Nat} (h:i<l.length) (z:Bs):remT l i++z=(if i=0 then [] else [44])++(l[i]++(remT l (i+1)++z)):=by
  unfold remT
  rw [if_neg (show ¬ i+1=0 by omega)]
  by_cases c:i=0
  · subst c
    cases l with
    | nil=>simp at h
    | cons x r=>rw [if_pos rfl,if_pos rfl,join_cons];simp
  · rw [if_neg c,if_neg c,List.drop_eq_getElem_cons h]
    unfold joinTail
    simp only [List.map_cons,List.flatten_cons,List.append_assoc]
theorem ail {l:List Bs} {i:Nat} (h:l.length≤i) (h0:0<i):remT l i=[]:=by
  unfold remT
  rw [if_neg (by omega),List.drop_eq_nil_of_le h];rfl
theorem aim {l:List Bs} {i:Nat} (h:0<i) {z:Bs} (hz:StpT z):StpT (remT l i++z):=by
  unfold remT
  rw [if_neg (by omega)]
  cases hd:l.drop i with
  | nil=>exact hz
  | cons x r=>
    intro c hc
    unfold joinTail at hc
    simp at hc
    subst hc
    exact ⟨by decide,by decide⟩
theorem stp_of {c:UInt8} (h:dgC c=false∧isRest c=false) (z:Bs):StpT (c :: z):=by
  intro x hx
  simp at hx
  subst hx;exact h
theorem apt {t:Ty} (en:EnumG t) {n:Int} (hn:n ∈ t.nums):∃ j,∃ h1:j<t.names.length,∃ h2:j<t.nums.length,ixN t.nums n=j∧nmAt t n=t.names[j]∧t.nums[j]=n∧idxF (fun x=>t.names[j] == x) t.names 0=(j:Int):=by
  obtain ⟨b,hb,_,_,hE⟩:=en.ba
  rcases aec (fun x:Int=>n == x) t.nums 0 with ⟨_,q⟩ | ⟨j,hj,hq,q2⟩
  · rw [List.find?_eq_none] at q
    exact absurd (q n hn) (by simp)
  have hj2:j<t.names.length:=by have:=en.nn;omega
  have hq:ixN t.nums n=(j:Int):=by unfold ixN;rw [hq,Nat.zero_add]
  have e3:nmAt t n=t.names[j]:=by
    unfold nmAt
    rw [hq,Int.toNat_natCast,List.getD_eq_getElem?_getD,List.getElem?_eq_getElem hj2];rfl
  refine ⟨j,hj2,hj,hq,e3,?_,?_⟩
  · have:=List.find?_some q2
    simpa using (eq_of_beq this).symm
  · rcases aec (fun x:Bs=>t.names[j] == x) t.names 0 with ⟨_,q⟩ | ⟨i,hi,hqi,q3⟩
    · rw [List.find?_eq_none] at q
      exact absurd (q _ (List.getElem_mem hj2)) (by simp)
    · have hij:t.names[j]=t.names[i]:=by have:=List.find?_some q3;simpa using this
      have:i=j:=by
        have df:∀ x y (hx:x<t.names.length) (hy:y<t.names.length),x<y→t.names[x]≠t.names[y]:=by
          intro x y hx hy hxy
          have:=(hE y hy).df x hxy
          rwa [List.getD_eq_getElem?_getD,List.getD_eq_getElem?_getD,List.getElem?_eq_getElem hx,List.getElem?_eq_getElem hy] at this
        rcases Nat.lt_trichotomy i j with h | h | h
        · exact absurd hij.symm (df i j hi hj2 h)
        · exact h
        · exact absurd hij (df j i hj2 hi h)
      rw [hqi,this,Nat.zero_add]
end Go.VS
end
section
namespace Go.VS
set_option maxRecDepth 4000
attribute [-simp] isLeaf okRet ridL V.leaves
open Go.Lib
structure EP (d:Nat) (t:Ty) (r:Bs) (e:Bool) (x:Bs × Bs × Bool):Prop where
  lo:(x.1.length:Int)≤t.sz
  lr:x.2.1.length≤r.length
  rd:∀ b tl,e=false→Ok d t b→r=shw d t b++tl→StpT tl→x=(b,tl,false)
def ElI (d:Nat):Prop:=∀ (t:Ty) (_:Gd d t) (r:Bs) (e:Bool),r.length≤1048576 →
  ∃ x:Bs × Bs × Bool,(∀ K:Out→Prop,Call prog 521 ⟨[.ptr 0 0,t.w],[[.s r,.b e]],[]⟩ K=K (.s x.1,[[.s x.2.1,.b x.2.2]],[]))∧EP d t r e x
theorem avr (o x:Bs) (a p:Nat) (h:a+x.length≤o.length):(ovw o a x).getD p 0=if a≤p∧p<a+x.length then x.getD (p - a) 0 else o.getD p 0:=by
  unfold ovw
  simp only [List.getD_eq_getElem?_getD]
  by_cases h1:p<a
  · rw [List.getElem?_append_left (by rw [List.length_take];omega),List.getElem?_take_of_lt h1,if_neg (by omega)]
  · rw [List.getElem?_append_right (by rw [List.length_take];omega),List.length_take,Nat.min_eq_left (by omega)]
    by_cases h2:p - a<x.length
    · rw [List.getElem?_append_left h2,if_pos (by omega)]
    · rw [List.getElem?_append_right (by omega),List.getElem?_drop,if_neg (by omega),show a+x.length+(p - a - x.length)=p by omega]
theorem avy (b:Bs) {i j:Int} (h0:0≤i) (h1:i≤j) (h2:j≤b.length) (p:Nat) (hp:(p:Int)<j - i):(sl b i j).getD p 0=b.getD (i.toNat+p) 0:=by
  unfold sl
  simp only [List.getD_eq_getElem?_getD]
  rw [List.getElem?_drop,List.getElem?_take_of_lt (by omega)]
theorem api {a b:Bs} (hl:a.length=b.length) (h:∀ p,p<a.length→a.getD p 0=b.getD p 0):a=b:=by
  apply List.ext_getElem hl
  intro p h1 h2
  have:=h p h1
  rwa [List.getD_eq_getElem?_getD,List.getD_eq_getElem?_getD,List.getElem?_eq_getElem h1,List.getElem?_eq_getElem h2] at this
theorem Ok_len:∀ {d:Nat} {t:Ty} {b:Bs},Ok d t b→(b.length:Int)=t.sz
  | 0,_,_,h=>h.elim
  | _+1,_,_,h=>h.1
def CI (d:Nat) (t:Ty) (z:Nat) (g:Bs→Bs→Prop) (i:Nat) (o rest:Bs) (bad:Bool):Prop:=∀ b tl,g b tl→bad=false∧rest=remT (t.txs (shw d) b) i++125 :: tl ∧
  ∀ p:Nat,p<z→((p:Int)<endOf t.ms i→o.getD p 0=b.getD p 0)∧(endOf t.ms i≤p→o.getD p 0=0)
set_option maxHeartbeats 1000000 in
theorem an5 {d:Nat} (hd:d≤2) (ih:ElI d) {t:Ty} (g:Gd (d+1) t) (k:t.kind=4) (r:Bs) (e:Bool) (hr:r.length≤1048576):
    ∃ x:Bs × Bs × Bool,(∀ K:Out→Prop,Call prog 556 ⟨[.ptr 0 0,t.w],[[.s r,.b e]],[]⟩ K=K (.s x.1,[[.s x.2.1,.b x.2.2]],[]))∧EP (d+1) t r e x:=by
  refine aan (fun x:Bs × Bs × Bool=>(.s x.1,[[.s x.2.1,.b x.2.2]],[])) (EP (d+1) t r e) fun K hK=>?_
  rw [aar (p:=prog) (f:=556) rfl _ _ _ rfl (by decide)]
  obtain ⟨cg,gm⟩:=g.comp k
  have L:=g.lay k
  have hz:=sz4 k
  have hs1:=cg.s1
  have hs2:=cg.s2
  have hn4:=cg.n4
  have hn1:=cg.n1
  obtain ⟨z,hzz⟩:∃ z:Nat,t.size=z:=⟨t.size.toNat,by omega⟩
  have ez:=akr z (by unfold lim;omega)
  have hl:r.length≤lim:=by unfold lim;omega
  have e0:=aa0 r [123] e hl (by simp [lim])
  have hal:=ac5 [123] r
  have zl:z≤lim:=by unfold lim;omega
  have hsh:∀ b,shw (d+1) t b=123 :: join (t.txs (shw d) b) [44]++[125]:=fun b=>by rw [shw,if_neg (by omega),if_neg (by omega),if_neg (by omega),if_pos k]
  obtain ⟨gg,hgg⟩:∃ gg:Bs→Bs→Prop,gg=fun b tl=>e=false∧Ok (d+1) t b∧r=shw (d+1) t b++tl:=⟨_,rfl⟩
  have g0:CI d t z gg 0 (List.replicate z 0) (aftr [123] r) (e || !pfx [123] r):=by
    rw [hgg]
    rintro b tl ⟨h0,h1,h2⟩
    have h3:r=[123]++(join (t.txs (shw d) b) [44]++125 :: tl):=by rw [h2,hsh];simp
    refine ⟨by rw [h0,h3,ab6];rfl,by rw [h3,ac4];rfl,fun p hp=>⟨fun h=>?_,fun _=>?_⟩⟩
    · have:endOf t.ms 0=0:=rfl
      omega
    · rw [List.getD_eq_getElem?_getD,List.getElem?_replicate];split <;> rfl
  generalize aftr [123] r=r1 at *
  generalize (e || !pfx [123] r)=e1 at *
  rw [← hzz] at ez
  simp -implicitDefEqProofs [ez,zl,e0]
  refine WL_st (α:=Nat × Bs × Bs × Bool) (fun x=>⟨sp 45 [(0,.ptr 0 0),(5,.sl 0 0 z false),(15,slv t.nc true 11 (t.ms.map Mb.c)),(16,.i .i64 t.ms.length),(17,.i .i64 x.1)],[[.s x.2.2.1,.b x.2.2.2],t.k],[.row 1 false (bytesV x.2.1)]⟩) (fun x=>t.ms.length - x.1)
    (fun x=>x.1≤t.ms.length∧x.2.1.length=z∧x.2.2.1.length≤r.length∧CI d t z gg x.1 x.2.1 x.2.2.1 x.2.2.2) (0,List.replicate z 0,r1,e1) _ (by simp -implicitDefEqProofs) ⟨by simp,by simp,hal,g0⟩ ?_
  rintro ⟨i,o,rest,bad⟩ ⟨h1,h2,h3,hC⟩
  simp only at h1 h2 h3 hC ⊢
  by_cases hlt:i<t.ms.length
  · have hw:=wrap_i64 (n:=(i:Int)+1) (by omega) (by omega)
    have gz:=gm _ (List.getElem_mem hlt)
    have hsz:=gz.sz
    have hlo:=L.lo i hlt
    have hnn:=L.nn h1
    have hle:=L.le (i:=i+1) hlt
    have hes:=aah hlt
    rw [hes] at hle
    have hnm:=afs (cg.ms i _ (List.getElem?_eq_getElem hlt)).nm
    have hg1:gapTo t i=t.ms[i].off:=by unfold gapTo;rw [dif_pos hlt]
    obtain ⟨rest1,hr1⟩:∃ x,x=if i=0 then rest else aftr [44] rest:=⟨_,rfl⟩
    obtain ⟨bad1,hb1⟩:∃ x,x=if i=0 then bad else (bad || !pfx [44] rest):=⟨_,rfl⟩
    have hr1l:rest1.length≤r.length:=by
      rw [hr1];split
      · exact h3
      · exact Nat.le_trans (ac5 _ _) h3
    have rl:rest.length≤lim:=by unfold lim;omega
    have rl1:rest1.length≤lim:=by unfold lim;omega
    have ex1:=aa0 rest [44] bad rl (by simp [lim])
    have ex2:=aa0 rest1 (t.ms[i].name++[61]) bad1 rl1 (by simp [lim];omega)
    have hr2l:=ac5 (t.ms[i].name++[61]) rest1
    obtain ⟨x,ex,hx⟩:=ih _ gz (aftr (t.ms[i].name++[61]) rest1) (bad1 || !pfx (t.ms[i].name++[61]) rest1) (by omega)
    obtain ⟨off,hoff⟩:∃ n:Nat,t.ms[i].off=n:=⟨t.ms[i].off.toNat,by omega⟩
    have hxl:=hx.lo
    have hxr:=hx.lr
    have nxt:CI d t z gg (i+1) (ovw o off x.1) x.2.1 x.2.2:=by
      intro b tl hg
      obtain ⟨q1,q2,q3⟩:=hC b tl hg
      rw [hgg] at hg
      obtain ⟨_,hok,_⟩:=hg
      have hbl:(b.length:Int)=t.size:=by rw [hok.1,hz]
      have hT:t.txs (shw d) b=t.ms.map fun m=>(m.name++[61])++shw d m.ty (sl b m.off (m.off+m.ty.sz)):=by unfold Ty.txs;rw [if_pos k]
      have hlt2:i<(t.txs (shw d) b).length:=by rw [hT];simpa using hlt
      have e3:(t.txs (shw d) b)[i]=(t.ms[i].name++[61])++shw d t.ms[i].ty (sl b t.ms[i].off (t.ms[i].off+t.ms[i].ty.sz)):=by simp only [hT,List.getElem_map]
      rw [aho hlt2,e3] at q2
      obtain ⟨hgap,hok2⟩:=hok.2.2.2.1 k i h1
      have hok2:=hok2 hlt
      have s1:rest1=(t.ms[i].name++[61])++(shw d t.ms[i].ty (sl b t.ms[i].off (t.ms[i].off+t.ms[i].ty.sz))++(remT (t.txs (shw d) b) (i+1)++125 :: tl))∧bad1=false:=by
        rw [hr1,hb1]
        by_cases i0:i=0
        · rw [if_pos i0,if_pos i0]
          rw [if_pos i0] at q2
          exact ⟨by rw [q2];simp,q1⟩
        · rw [if_neg i0,if_neg i0]
          rw [if_neg i0] at q2
          rw [q2,ac4,ab6,q1]
          exact ⟨by simp,rfl⟩
      have hX:=hx.rd _ _ (by rw [s1.1,s1.2,ab6];rfl) hok2 (by rw [s1.1,ac4]) (aim (by omega) (stp_of ⟨by decide,by decide⟩ tl))
      rw [hX]
      refine ⟨rfl,rfl,fun p hp=>?_⟩
      have hbm:((sl b t.ms[i].off (t.ms[i].off+t.ms[i].ty.sz)).length:Int)=t.ms[i].ty.sz:=Ok_len hok2
      have hget:=avr o (sl b t.ms[i].off (t.ms[i].off+t.ms[i].ty.sz)) off p (by omega)
      rw [hes,hget]
      obtain ⟨c1,c2⟩:=q3 p hp
      refine ⟨fun hlt3=>?_,fun hge=>?_⟩
      · by_cases hin:off≤p∧p<off+(sl b t.ms[i].off (t.ms[i].off+t.ms[i].ty.sz)).length
        · rw [if_pos hin,avy b (by omega) (by omega) (by omega) _ (by omega)]
          congr 1;omega
        · rw [if_neg hin]
          by_cases hp2:(p:Int)<endOf t.ms i
          · exact c1 hp2
          · rw [c2 (by omega),hgap p (by omega) (by rw [hg1];omega)]
      · rw [if_neg (by omega)]
        exact c2 (by omega)
    have hbs:bnds z (some (.i .i64 (off:Int))) none=some (off,z):=by
      simp only [bnds,asN];rw [if_pos (by omega)];simp
    have n1:t.ms[i].name.length+1≤lim:=by unfold lim;omega
    generalize hm:t.ms[i]=m at *
    have tkx:x.1.take (z - off)=x.1:=List.take_of_length_le (by omega)
    have hov:(bytesV o).take off++(bytesV x.1++(bytesV o).drop (off+x.1.length))=bytesV (ovw o off x.1):=by
      unfold ovw bytesV;simp
    have hovl:(ovw o off x.1).length=z:=by unfold ovw;simp;omega
    by_cases i0:i=0
    · rw [if_pos i0] at hr1 hb1
      subst hr1;subst hb1
      have ip:¬ 0<i:=by omega
      simp -implicitDefEqProofs [hlt,hm,Mb.c_w,ip,n1,ex2,hoff,hbs,ex,tkx,hov,hw]
      exact NextS.mk (i+1,ovw o off x.1,x.2.1,x.2.2) ⟨by simp only;omega,hovl,by simp only;omega,nxt⟩ (by simp only;omega) (by simp)
    · rw [if_neg i0] at hr1 hb1
      rw [← hr1,← hb1] at ex1
      have ip:0<i:=by omega
      simp -implicitDefEqProofs [hlt,hm,Mb.c_w,ip,ex1,n1,ex2,hoff,hbs,ex,tkx,hov,hw]
      exact NextS.mk (i+1,ovw o off x.1,x.2.1,x.2.2) ⟨by simp only;omega,hovl,by simp only;omega,nxt⟩ (by simp only;omega) (by simp)
  · obtain rfl:i=t.ms.length:=by omega
    have rl:rest.length≤lim:=by unfold lim;omega
    have ex1:=aa0 rest [125] bad rl (by simp [lim])
    have tk:List.take z (bytesV o)=bytesV o:=List.take_of_length_le (by simp [bytesV,h2])
    have hal2:=ac5 [125] rest
    have oo:=hK (o,aftr [125] rest,bad || !pfx [125] rest) ⟨by show (o.length:Int)≤t.sz;omega,by show (aftr [125] rest).length≤_;omega,fun b tl k0 k1 k2 k3=>by
      obtain ⟨q1,q2,q3⟩:=hC b tl (by rw [hgg];exact ⟨k0,k1,k2⟩)
      have hT:(t.txs (shw d) b).length=t.ms.length:=by unfold Ty.txs;rw [if_pos k];simp
      rw [ail (by omega) (by omega),List.nil_append] at q2
      have hbl:(b.length:Int)=t.size:=by rw [k1.1,hz]
      have ho:o=b:=by
        refine api (by omega) fun p hp=>?_
        obtain ⟨c1,c2⟩:=q3 p (by omega)
        by_cases hp2:(p:Int)<endOf t.ms t.ms.length
        · exact c1 hp2
        · have hg2:=(k1.2.2.2.1 k t.ms.length (Nat.le_refl _)).1
          rw [c2 (by omega),hg2 p (by omega) (by unfold gapTo;rw [dif_neg (by omega)];omega)]
      rw [q2,q1,ho,show (125 :: tl:Bs)=[125]++tl from rfl,ac4,ab6]
      rfl⟩
    simp -implicitDefEqProofs [ex1,cvsV,tk]
    exact oo
end Go.VS
end
section
namespace Go.VS
set_option maxRecDepth 4000
attribute [-simp] isLeaf okRet ridL V.leaves
open Go.Lib
def nmX (t:Ty) (r:Bs) (e:Bool):Bs × Bs × Bool:=
  (if (e || !(rdDec (r.takeWhile dgC)).2)=false∧t.holds (rdDec (r.takeWhile dgC)).1=true then t.it.put (rdDec (r.takeWhile dgC)).1 else [],
    r.dropWhile dgC,(e || !(rdDec (r.takeWhile dgC)).2) || !t.holds (rdDec (r.takeWhile dgC)).1)
theorem nmX_lo {d:Nat} {t:Ty} (g:Gd (d+1) t) (k:t.kind=1∨t.kind=3∨t.kind=6) (r:Bs) (e:Bool):((nmX t r e).1.length:Int)≤t.sz∧(nmX t r e).2.1.length≤r.length:=by
  have hsz:=g.sz
  have h1:(t.sz.toNat:Int)=t.sz:=by omega
  obtain ⟨h2,_⟩:=it_len g k (b:=List.replicate t.sz.toNat 0) (by simpa using h1)
  rw [List.length_replicate] at h2
  unfold nmX
  refine ⟨?_,(List.dropWhile_sublist _).length_le⟩
  show ((if _ then _ else _:Bs).length:Int)≤_
  split
  · rw [alw];omega
  · simp;omega
theorem nmX_rd {d:Nat} {t:Ty} (g:Gd (d+1) t) (k:t.kind=1∨t.kind=3∨t.kind=6) {b tl:Bs} (o:Ok (d+1) t b) (h:StpT tl):nmX t (itoa (t.it.num b)++tl) false=(b,tl,false):=by
  obtain ⟨h1,h2⟩:=it_len g k o.1
  obtain ⟨t1,t2⟩:=al7 (p:=dgC) (l:=itoa (t.it.num b)) (tl:=tl) (fun c hc=>atu _ c hc) (fun c hc=>(h c hc).1)
  unfold nmX
  rw [t1,t2,aqs _ (ah3 h2 b h1),am1 g k o,alx h2 b h1]
  rfl
def AI (d:Nat) (t:Ty) (c:Ty) (gg:Bs→Bs→Prop) (i:Nat) (o rest:Bs) (bad:Bool):Prop:=∀ b tl,gg b tl→bad=false∧rest=remT (t.txs (shw d) b) i++93 :: tl∧o=b.take (i*c.sz.toNat)
set_option maxHeartbeats 2000000 in
theorem aj8:∀ d,d≤3→ElI d
  | 0,_=>fun _ g=>g.elim
  | d+1,hd=>by
    have ih:=aj8 d (by omega)
    intro t g r e hr
    by_cases k4:t.kind=4
    · obtain ⟨x,ex,hx⟩:=an5 (by omega) ih g k4 r e hr
      refine ⟨x,fun K=>?_,hx⟩
      refine Zc (f:=521) rfl rfl (by decide) ?_
      have f4:=eq_true k4
      have f1:(t.kind=1)=False:=eq_false (by omega)
      have f2:(t.kind=2)=False:=eq_false (by omega)
      have f3:(t.kind=3)=False:=eq_false (by omega)
      simp -implicitDefEqProofs [f1,f2,f3,f4,ex]
    refine aan (fun x:Bs × Bs × Bool=>(.s x.1,[[.s x.2.1,.b x.2.2]],[])) (EP (d+1) t r e) fun K hK=>?_
    rw [aar (p:=prog) (f:=521) rfl _ _ _ rfl (by decide)]
    have hk:=g.kind
    have hsz:=g.sz
    have hl:r.length≤lim:=by unfold lim;omega
    have f4:=eq_false k4
    by_cases k1:t.kind=1
    · have f1:=eq_true k1
      have e1:=ajl r e hl
      have e2:=fun n r e=>ap5 (g.n (.inl k1)) n r e
      obtain ⟨q1,q2⟩:=nmX_lo g (.inl k1) r e
      have o:=hK (nmX t r e) ⟨q1,q2,fun b tl h0 h1 h2 h3=>by
        rw [h2,h0,shw,if_pos k1]
        exact nmX_rd g (.inl k1) h1 h3⟩
      unfold nmX at o
      generalize rdDec (r.takeWhile dgC)=w at *
      simp -implicitDefEqProofs [f1,e1,e2]
      simp only [Bool.or_eq_false_iff,Bool.not_eq_false',Tag_eq] at o ⊢
      exact o
    have f1:=eq_false k1
    by_cases k2:t.kind=2
    · have f2:=eq_true k2
      have hz:t.sz=t.size:=by rw [Ty.sz_eq,if_neg (by omega),if_neg (by omega)]
      have h3:=(g.txt k2).2.1
      obtain ⟨n,hn⟩:∃ n:Nat,t.size=n:=⟨t.size.toNat,by omega⟩
      obtain ⟨x,ex,hx⟩:=alz r e hr
      have ep:=akx x.1 n (by have:=hx.lo;unfold lim;omega) (by omega)
      rw [← hn] at ep
      have o:=hK ((if x.1.length≤n then x.1++List.replicate (n - x.1.length) 0 else []),x.2.1,x.2.2 || !decide (x.1.length≤n)) ⟨by
        show ((if _ then _ else _:Bs).length:Int)≤_
        split
        · simp;omega
        · simp;omega,hx.lr,fun b tl h0 h1 h2 _=>by
          rw [shw,if_neg k1,if_pos k2] at h2
          have hX:=hx.rd _ _ h0 h2
          have hbl:(b.length:Int)=t.size:=by rw [h1.1,hz]
          obtain ⟨kz,hkz⟩:=ago b
          have hl2:=afn b
          have hkl:kz=n - (trimR 0 b).length:=by
            have:=congrArg List.length hkz
            simp at this;omega
          rw [hX]
          simp only
          rw [if_pos (by omega),decide_eq_true (by omega),← hkl,← hkz]
          rfl⟩
      simp -implicitDefEqProofs [f1,f2,ex,ep]
      cases hx2:x.2.2 <;> simp -implicitDefEqProofs [hx2] at o ⊢ <;> exact o
    have f2:=eq_false k2
    by_cases k3:t.kind=3
    · have f3:=eq_true k3
      have en:=g.enum k3
      have hnn:=en.nn
      have hn6:=en.n6
      have ew:=asy r e hl
      have ei:=fun q=>ait q t.names (r.takeWhile isRest) (by unfold lim;omega)
      have hdl:=(List.dropWhile_sublist isRest (l:=r)).length_le
      have rd:∀ b tl,Ok (d+1) t b→r=shw (d+1) t b++tl→StpT tl→∃ j,∃ h1:j<t.names.length,∃ h2:j<t.nums.length,idxF (fun x=>r.takeWhile isRest == x) t.names 0=(j:Int)∧t.it.put t.nums[j]=b∧r.dropWhile isRest=tl:=by
        intro b tl h1 h2 h3
        obtain ⟨j,j1,j2,_,j4,j5,j6⟩:=apt en (h1.2.2.1 k3)
        obtain ⟨l1,l2⟩:=it_len g (.inr (.inl k3)) h1.1
        rw [shw,if_neg k1,if_neg k2,if_pos k3,j4] at h2
        obtain ⟨_,_,_,_,hE⟩:=en.ba
        have nm:=(hE j j1).nm
        rw [List.getD_eq_getElem?_getD,List.getElem?_eq_getElem j1] at nm
        obtain ⟨t1,t2⟩:=al7 (p:=isRest) (l:=t.names[j]) (tl:=tl) (anc nm) (fun c hc=>(h3 c hc).2)
        rw [h2,t1,t2]
        exact ⟨j,j1,j2,j6,by rw [j5,alx l2 b l1],rfl⟩
      rcases aec (fun x:Bs=>r.takeWhile isRest == x) t.names 0 with ⟨q,_⟩ | ⟨i,hi,q,_⟩
      · rw [q] at ei rd
        have o:=hK ([],r.dropWhile isRest,true) ⟨by simp;omega,hdl,fun b tl _ h1 h2 h3=>by obtain ⟨j,_,_,c,_⟩:=rd b tl h1 h2 h3;omega⟩
        simp -implicitDefEqProofs [f1,f2,f3,ew,ei]
        exact o
      · rw [q] at ei rd
        have hi2:i<t.nums.length:=by omega
        have eb:=ah0 (g.n (.inr (.inl k3))) t.nums[i]
        have e0:((0+i:Nat):Int)=(i:Int):=by omega
        rw [e0] at ei rd
        have o:=hK (t.it.put t.nums[i],r.dropWhile isRest,e) ⟨by
          have h1:(t.sz.toNat:Int)=t.sz:=by omega
          obtain ⟨h2,_⟩:=it_len g (.inr (.inl k3)) (b:=List.replicate t.sz.toNat 0) (by simpa using h1)
          rw [List.length_replicate] at h2
          show ((t.it.put t.nums[i]).length:Int)≤_
          rw [alw];omega,hdl,fun b tl h0 h1 h2 h3=>by
            obtain ⟨j,j1,j2,c,c2,c3⟩:=rd b tl h1 h2 h3
            have:i=j:=by omega
            subst this
            rw [c2,c3,h0]⟩
        have i0:((i:Int)<0)=False:=eq_false (by omega)
        simp -implicitDefEqProofs [f1,f2,f3,ew,ei,i0,hi2,eb]
        exact o
    have f3:=eq_false k3
    by_cases k6:t.kind=6
    · have f5:(t.kind=5)=False:=eq_false (by omega)
      have hal:=ac5 [35] r
      have e0:=aa0 r [35] e hl (by simp [lim])
      have e1:=ajl (aftr [35] r) (e || !pfx [35] r) (by unfold lim;omega)
      have e2:=fun n r e=>ap5 (g.n (.inr (.inr k6))) n r e
      obtain ⟨q1,q2⟩:=nmX_lo g (.inr (.inr k6)) (aftr [35] r) (e || !pfx [35] r)
      have o:=hK (nmX t (aftr [35] r) (e || !pfx [35] r)) ⟨q1,by omega,fun b tl h0 h1 h2 h3=>by
        rw [shw,if_neg k1,if_neg k2,if_neg k3,if_neg k4,if_neg (by omega)] at h2
        have:r=[35]++(itoa (t.it.num b)++tl):=by rw [h2];rfl
        rw [this,ac4,ab6,h0]
        exact nmX_rd g (.inr (.inr k6)) h1 h3⟩
      generalize (e || !pfx [35] r)=e1' at *
      generalize aftr [35] r=r1 at *
      unfold nmX at o
      generalize rdDec (r1.takeWhile dgC)=w at *
      simp -implicitDefEqProofs [f1,f2,f3,f4,f5,e0,e1,e2]
      simp only [Bool.or_eq_false_iff,Bool.not_eq_false',Tag_eq] at o ⊢
      exact o
    have k5:t.kind=5:=by omega
    have f5:=eq_true k5
    obtain ⟨ag,c,hc,gc,h24⟩:=g.arr k5
    have hz:=sz5 k5 hc
    have hcs:=gc.sz
    have a1:=ag.c1
    have a4:=ag.c4
    obtain ⟨b1,b2⟩:=base0 hc
    obtain ⟨n,hn⟩:∃ n:Nat,t.count=n:=⟨t.count.toNat,by omega⟩
    obtain ⟨z,hzz⟩:∃ z:Nat,c.sz=z:=⟨c.sz.toNat,by omega⟩
    have hnz:t.sz=((n*z:Nat):Int):=by rw [hz,hn,hzz];push_cast;rfl
    have hT:∀ b,t.txs (shw d) b=(List.range n).map fun k:Nat=>shw d c (sl b (k*c.sz) (((k:Int)+1)*c.sz)):=by
      intro b
      unfold Ty.txs Ty.parts
      rw [if_neg k4,if_neg k4,if_pos k5,hc,hn]
      simp [Function.comp_def]
    have hsh:∀ b,shw (d+1) t b=91 :: join (t.txs (shw d) b) [44]++[93]:=fun b=>by rw [shw,if_neg k1,if_neg k2,if_neg k3,if_neg k4,if_pos k5]
    have e0:=aa0 r [91] e hl (by simp [lim])
    have hal:=ac5 [91] r
    obtain ⟨gg,hgg⟩:∃ gg:Bs→Bs→Prop,gg=fun b tl=>e=false∧Ok (d+1) t b∧r=shw (d+1) t b++tl:=⟨_,rfl⟩
    have g0:AI d t c gg 0 [] (aftr [91] r) (e || !pfx [91] r):=by
      rw [hgg]
      rintro b tl ⟨h0,h1,h2⟩
      have h3:r=[91]++(join (t.txs (shw d) b) [44]++93 :: tl):=by rw [h2,hsh];simp
      exact ⟨by rw [h0,h3,ab6];rfl,by rw [h3,ac4];rfl,by simp⟩
    generalize aftr [91] r=r1 at *
    generalize (e || !pfx [91] r)=e1 at *
    simp -implicitDefEqProofs [f1,f2,f3,f4,f5,e0]
    refine WL_st (α:=Nat × Bs × Bs × Bool) (fun x=>⟨sp 97 [(0,.ptr 0 0),(3,.ptr 1 0),(8,.s x.2.1),(70,.i .i64 t.count),(71,.i .i64 x.1)],[[.s x.2.2.1,.b x.2.2.2],t.k],[]⟩) (fun x=>n - x.1)
      (fun x=>x.1≤n∧x.2.1.length≤x.1*z∧x.2.2.1.length≤r.length∧AI d t c gg x.1 x.2.1 x.2.2.1 x.2.2.2) (0,[],r1,e1) _ (by simp -implicitDefEqProofs) ⟨by simp,by simp,hal,g0⟩ ?_
    rintro ⟨i,o,rest,bad⟩ ⟨h1,h2,h3,hC⟩
    simp only at h1 h2 h3 hC ⊢
    have hiz:i*z≤n*z:=Nat.mul_le_mul_right _ h1
    by_cases hlt:i<n
    · have hw:=wrap_i64 (n:=(i:Int)+1) (by omega) (by omega)
      have hltc:((i:Int)<t.count)=True:=eq_true (by omega)
      obtain ⟨rest1,hr1⟩:∃ x,x=if i=0 then rest else aftr [44] rest:=⟨_,rfl⟩
      obtain ⟨bad1,hb1⟩:∃ x,x=if i=0 then bad else (bad || !pfx [44] rest):=⟨_,rfl⟩
      have hr1l:rest1.length≤r.length:=by
        rw [hr1];split
        · exact h3
        · exact Nat.le_trans (ac5 _ _) h3
      have rl:rest.length≤lim:=by unfold lim;omega
      have ex1:=aa0 rest [44] bad rl (by simp [lim])
      obtain ⟨x,ex,hx⟩:=ih _ gc rest1 bad1 (by omega)
      have hxl:=hx.lo
      have hxr:=hx.lr
      have hi1:(i+1)*z=i*z+z:=by rw [Nat.add_mul,Nat.one_mul]
      have n1:o.length+x.1.length≤lim:=by unfold lim;omega
      have nxt:AI d t c gg (i+1) (o++x.1) x.2.1 x.2.2:=by
        intro b tl hg
        obtain ⟨q1,q2,q3⟩:=hC b tl hg
        rw [hgg] at hg
        obtain ⟨_,hok,_⟩:=hg
        have hlt2:i<(t.txs (shw d) b).length:=by rw [hT];simpa using hlt
        have e3:(t.txs (shw d) b)[i]=shw d c (sl b (i*c.sz) (((i:Int)+1)*c.sz)):=by simp only [hT,List.getElem_map,List.getElem_range]
        rw [aho hlt2,e3] at q2
        have hok2:=hok.2.2.2.2 k5 c (by rw [hc];simp) i (by omega)
        have s1:rest1=shw d c (sl b (i*c.sz) (((i:Int)+1)*c.sz))++(remT (t.txs (shw d) b) (i+1)++93 :: tl)∧bad1=false:=by
          rw [hr1,hb1]
          by_cases i0:i=0
          · rw [if_pos i0,if_pos i0]
            rw [if_pos i0] at q2
            exact ⟨q2,q1⟩
          · rw [if_neg i0,if_neg i0]
            rw [if_neg i0] at q2
            rw [q2,ac4,ab6,q1]
            exact ⟨rfl,rfl⟩
        have hX:=hx.rd _ _ s1.2 hok2 s1.1 (aim (by omega) (stp_of ⟨by decide,by decide⟩ tl))
        rw [hX]
        refine ⟨rfl,rfl,?_⟩
        have z1:c.sz.toNat=z:=by omega
        have z2:((i:Int)*c.sz).toNat=i*z:=by rw [hzz,show (i:Int)*z=((i*z:Nat):Int) by push_cast;rfl,Int.toNat_natCast]
        have z3:(((i:Int)+1)*c.sz).toNat=(i+1)*z:=by rw [hzz,show ((i:Int)+1)*z=(((i+1)*z:Nat):Int) by push_cast;rfl,Int.toNat_natCast]
        rw [q3,z1]
        show b.take (i*z)++(b.take (((i:Int)+1)*c.sz).toNat).drop ((i:Int)*c.sz).toNat=_
        rw [z2,z3]
        have:b.take (i*z)=(b.take ((i+1)*z)).take (i*z):=by rw [List.take_take,Nat.min_eq_left (by omega)]
        rw [this,List.take_append_drop]
      have hol:(o++x.1).length≤(i+1)*z:=by rw [List.length_append];omega
      by_cases i0:i=0
      · rw [if_pos i0] at hr1 hb1
        subst hr1;subst hb1
        have ip:¬ 0<i:=by omega
        simp -implicitDefEqProofs [hltc,ip,b1,b2,Ty.v_w,ex,n1,hw]
        exact NextS.mk (i+1,o++x.1,x.2.1,x.2.2) ⟨by simp only;omega,hol,by simp only;omega,nxt⟩ (by simp only;omega) (by simp)
      · rw [if_neg i0] at hr1 hb1
        rw [← hr1,← hb1] at ex1
        have ip:0<i:=by omega
        simp -implicitDefEqProofs [hltc,ip,ex1,b1,b2,Ty.v_w,ex,n1,hw]
        exact NextS.mk (i+1,o++x.1,x.2.1,x.2.2) ⟨by simp only;omega,hol,by simp only;omega,nxt⟩ (by simp only;omega) (by simp)
    · obtain rfl:i=n:=by omega
      have hltc:((i:Int)<t.count)=False:=eq_false (by omega)
      have rl:rest.length≤lim:=by unfold lim;omega
      have ex1:=aa0 rest [93] bad rl (by simp [lim])
      have hal2:=ac5 [93] rest
      have oo:=hK (o,aftr [93] rest,bad || !pfx [93] rest) ⟨by show (o.length:Int)≤t.sz;omega,by show (aftr [93] rest).length≤_;omega,fun b tl m0 m1 m2 m3=>by
        obtain ⟨q1,q2,q3⟩:=hC b tl (by rw [hgg];exact ⟨m0,m1,m2⟩)
        have hTl:(t.txs (shw d) b).length=i:=by rw [hT];simp
        rw [ail (by omega) (by omega),List.nil_append] at q2
        have ho:o=b:=by
          rw [q3]
          refine List.take_of_length_le ?_
          have:=m1.1
          have z1:c.sz.toNat=z:=by omega
          rw [z1];omega
        rw [q2,q1,ho,show (93 :: tl:Bs)=[93]++tl from rfl,ac4,ab6]
        rfl⟩
      simp -implicitDefEqProofs [hltc,ex1]
      exact oo
end Go.VS
end
section
namespace Go.VS
set_option maxRecDepth 4000
attribute [-simp] isLeaf okRet ridL V.leaves
open Go.Lib
structure ES (d:Nat) (t:Ty) (s:Bs) (a:Nat) (e:Bool) (x:Bs × Nat × Bool):Prop where
  lo:(x.1.length:Int)≤t.sz
  l1:a≤x.2.1
  hi:x.2.1≤s.length
  rd:∀ b tl,e=false→Ok d t b→s.drop a=shw d t b++tl→StpT tl→x.1=b∧s.drop x.2.1=tl∧x.2.2=false
def ElS (d:Nat):Prop:=∀ (t:Ty) (_:Gd d t) (s:Bs) (a:Nat) (e:Bool),s.length≤1048576→a≤s.length →
  ∃ x:Bs × Nat × Bool,(∀ K:Out→Prop,Call prog 467 ⟨[.ptr 0 0,t.w],[[.s s,.i .i64 a,.b e]],[]⟩ K=K (.s x.1,[[.s s,.i .i64 x.2.1,.b x.2.2]],[]))∧ES d t s a e x
theorem aqd {b:Bs} {i j:Nat} (h1:i≤j) (h2:j≤b.length) (h:∀ p,i≤p→p<j→b.getD p 0=0):b.take i++List.replicate (j - i) 0=b.take j:=by
  refine api (by simp;omega) fun p hp=>?_
  have hp:p<j:=by simp at hp;omega
  simp only [List.getD_eq_getElem?_getD]
  rw [List.getElem?_take_of_lt hp]
  by_cases c:p<i
  · rw [List.getElem?_append_left (by simp;omega),List.getElem?_take_of_lt c]
  · have:=h p (by omega) hp
    rw [List.getD_eq_getElem?_getD] at this
    rw [List.getElem?_append_right (by simp;omega),List.getElem?_replicate,if_pos (by simp;omega),this];rfl
def sgn (c:UInt8) (i:Nat):Bs:=if i=0 then [c] else [44]
def remS (c:UInt8) (l:List Bs) (i:Nat):Bs:=if i=0 then c :: remT l 0 else remT l i
theorem ann {c:UInt8} {l:List Bs} {i:Nat} (h:i<l.length) (z:Bs):remS c l i++z=sgn c i++(l[i]++(remT l (i+1)++z)):=by
  unfold remS sgn
  by_cases i0:i=0
  · subst i0
    rw [if_pos rfl,if_pos rfl,List.cons_append,aho h];rfl
  · rw [if_neg i0,if_neg i0,aho h,if_neg i0]
theorem ano (c:UInt8) (l:List Bs) (i:Nat):remS c l (i+1)=remT l (i+1):=by unfold remS;rw [if_neg (by omega)]
theorem ajq {w s:Bs} {a:Nat} {z:Bs} (h:s.drop a=w++z):sgB false w s a=true∧sgA false w s a=a+w.length∧s.drop (a+w.length)=z:=by
  have h1:sgB false w s a=true:=by unfold sgB;rw [h,ab6];rfl
  refine ⟨h1,by unfold sgA;rw [if_pos h1],?_⟩
  rw [← List.drop_drop,h,List.drop_left]
def CS (d:Nat) (t:Ty) (s:Bs) (g:Bs→Bs→Prop) (i:Nat) (o:Bs) (P:Nat) (bad:Bool):Prop:=∀ b tl,g b tl→bad=false∧s.drop P=remS 123 (t.txs (shw d) b) i++125 :: tl∧o=b.take (endOf t.ms i).toNat
set_option maxHeartbeats 2000000 in
theorem ati {d:Nat} (hd:d≤2) (ih:ElS d) {t:Ty} (g:Gd (d+1) t) (k:t.kind=4) (s:Bs) (a:Nat) (e:Bool) (hs:s.length≤1048576) (ha:a≤s.length):
    ∃ x:Bs × Nat × Bool,(∀ K:Out→Prop,Call prog 467 ⟨[.ptr 0 0,t.w],[[.s s,.i .i64 a,.b e]],[]⟩ K=K (.s x.1,[[.s s,.i .i64 x.2.1,.b x.2.2]],[]))∧ES (d+1) t s a e x:=by
  refine aan (fun x:Bs × Nat × Bool=>(.s x.1,[[.s s,.i .i64 x.2.1,.b x.2.2]],[])) (ES (d+1) t s a e) fun K hK=>?_
  rw [aar (p:=prog) (f:=467) rfl _ _ _ rfl (by decide)]
  obtain ⟨cg,gm⟩:=g.comp k
  have L:=g.lay k
  have hz:=sz4 k
  have hs1:=cg.s1
  have hs2:=cg.s2
  have hn4:=cg.n4
  have hn1:=cg.n1
  have hl:s.length≤lim:=by unfold lim;omega
  have f1:(t.kind=1)=False:=eq_false (by omega)
  have f2:(t.kind=2)=False:=eq_false (by omega)
  have f3:(t.kind=3)=False:=eq_false (by omega)
  have f6:(t.kind=6)=False:=eq_false (by omega)
  have f4:=eq_true k
  have hsh:∀ b,shw (d+1) t b=123 :: join (t.txs (shw d) b) [44]++[125]:=fun b=>by rw [shw,if_neg (by omega),if_neg (by omega),if_neg (by omega),if_pos k]
  obtain ⟨gg,hgg⟩:∃ gg:Bs→Bs→Prop,gg=fun b tl=>e=false∧Ok (d+1) t b∧s.drop a=shw (d+1) t b++tl:=⟨_,rfl⟩
  have g0:CS d t s gg 0 [] a e:=by
    rw [hgg]
    rintro b tl ⟨h0,h1,h2⟩
    refine ⟨h0,by rw [h2,hsh];unfold remS remT;simp,?_⟩
    have:endOf t.ms 0=0:=rfl
    rw [this];rfl
  simp -implicitDefEqProofs [f1,f2,f3,f6,f4]
  refine WL_st (α:=Nat × Bs × Nat × Bool) (fun x=>⟨sp 155 [(0,.ptr 0 0),(3,.ptr 1 0),(8,.s x.2.1),(9,.s (sgn 123 x.1)),(10,.i .i64 x.1)],[[.s s,.i .i64 x.2.2.1,.b x.2.2.2],t.k],[]⟩) (fun x=>t.ms.length - x.1)
    (fun x=>x.1≤t.ms.length∧(x.2.1.length:Int)≤endOf t.ms x.1∧a≤x.2.2.1∧x.2.2.1≤s.length∧CS d t s gg x.1 x.2.1 x.2.2.1 x.2.2.2) (0,[],a,e) _ (by simp -implicitDefEqProofs [sgn]) ⟨by simp,by simp [endOf],Nat.le_refl _,ha,g0⟩ ?_
  rintro ⟨i,o,P,bad⟩ ⟨h1,h2,hP1,hP2,hC⟩
  simp only at h1 h2 hP1 hP2 hC ⊢
  have hnn:=L.nn h1
  have hle0:=L.le h1
  by_cases hcond:i<t.ms.length∧bad=false
  · obtain ⟨hlt,rfl⟩:=hcond
    have hw:=wrap_i64 (n:=(i:Int)+1) (by omega) (by omega)
    have gz:=gm _ (List.getElem_mem hlt)
    have hsz:=gz.sz
    have hlo:=L.lo i hlt
    have hle:=L.le (i:=i+1) hlt
    have hes:=aah hlt
    rw [hes] at hle
    have hnm:=afs (cg.ms i _ (List.getElem?_eq_getElem hlt)).nm
    have hg1:gapTo t i=t.ms[i].off:=by unfold gapTo;rw [dif_pos hlt]
    have hsg:(sgn 123 i).length=1:=by unfold sgn;split <;> rfl
    have hsg1:sgn 123 (i+1)=[44]:=by unfold sgn;rw [if_neg (by omega)]
    obtain ⟨W,hW⟩:∃ W,W=sgn 123 i++(t.ms[i].name++[61]):=⟨_,rfl⟩
    have hWl:W.length≤20:=by rw [hW,List.length_append,List.length_append,hsg,List.length_singleton];omega
    have ex1:=adj s W P false hl (by unfold lim;omega) hP2
    have hA:=sgA_le (e:=false) (w:=W) hP2
    obtain ⟨x,ex,hx⟩:=ih _ gz s (sgA false W s P) (!sgB false W s P) hs hA.1
    obtain ⟨off,hoff⟩:∃ n:Nat,t.ms[i].off=n:=⟨t.ms[i].off.toNat,by omega⟩
    have hxl:=hx.lo
    have z2:=aao (off - o.length) (by unfold lim;omega)
    have z1:IntKind.i64.wrap (t.ms[i].off - (o.length:Int))=((off - o.length:Nat):Int):=by rw [wrap_i64 (by omega) (by omega)];omega
    have nxt:CS d t s gg (i+1) (o++(List.replicate (off - o.length) 0++x.1)) x.2.1 x.2.2:=by
      intro b tl hg
      obtain ⟨q1,q2,q3⟩:=hC b tl hg
      rw [hgg] at hg
      obtain ⟨_,hok,_⟩:=hg
      have hbl:(b.length:Int)=t.size:=by rw [hok.1,hz]
      have hT:t.txs (shw d) b=t.ms.map fun m=>(m.name++[61])++shw d m.ty (sl b m.off (m.off+m.ty.sz)):=by unfold Ty.txs;rw [if_pos k]
      have hlt2:i<(t.txs (shw d) b).length:=by rw [hT];simpa using hlt
      have e3:(t.txs (shw d) b)[i]=(t.ms[i].name++[61])++shw d t.ms[i].ty (sl b t.ms[i].off (t.ms[i].off+t.ms[i].ty.sz)):=by simp only [hT,List.getElem_map]
      rw [ann hlt2,e3] at q2
      obtain ⟨hgap,hok2⟩:=hok.2.2.2.1 k i h1
      have hok2:=hok2 hlt
      have q2':s.drop P=W++(shw d t.ms[i].ty (sl b t.ms[i].off (t.ms[i].off+t.ms[i].ty.sz))++(remT (t.txs (shw d) b) (i+1)++125 :: tl)):=by rw [q2,hW];simp
      obtain ⟨s1,s2,s3⟩:=ajq q2'
      obtain ⟨x1,x2,x3⟩:=hx.rd _ _ (by rw [s1];rfl) hok2 (by rw [s2,s3]) (aim (by omega) (stp_of ⟨by decide,by decide⟩ tl))
      refine ⟨x3,by rw [x2,ano],?_⟩
      have hbm:((sl b t.ms[i].off (t.ms[i].off+t.ms[i].ty.sz)).length:Int)=t.ms[i].ty.sz:=Ok_len hok2
      rw [x1,hes,q3]
      have ol:(b.take (endOf t.ms i).toNat).length=(endOf t.ms i).toNat:=by rw [List.length_take];omega
      rw [ol,← List.append_assoc,aqd (by omega) (by omega) fun p p1 p2=>hgap p (by omega) (by rw [hg1];omega)]
      unfold sl
      have o2:t.ms[i].off.toNat=off:=by omega
      rw [o2]
      have:b.take off=(b.take (t.ms[i].off+t.ms[i].ty.sz).toNat).take off:=by rw [List.take_take,Nat.min_eq_left (by omega)]
      rw [this,List.take_append_drop]
    have n1:(sgn 123 i).length+t.ms[i].name.length≤lim:=by unfold lim;omega
    have n1':1+t.ms[i].name.length≤lim:=by unfold lim;omega
    have n2:1+t.ms[i].name.length+1≤lim:=by unfold lim;omega
    have n3:off - o.length+x.1.length≤lim:=by unfold lim;omega
    have n4:o.length+(off - o.length+x.1.length)≤lim:=by unfold lim;omega
    have hol:((o++(List.replicate (off - o.length) 0++x.1)).length:Int)≤endOf t.ms (i+1):=by
      rw [hes];simp only [List.length_append,List.length_replicate];omega
    have hxl1:=hx.l1
    have hxhi:=hx.hi
    generalize hm:t.ms[i]=m at *
    generalize hS:sgn 123 i=S at *
    simp -implicitDefEqProofs [hlt,hm,Mb.c_w,hsg,n1',n2,← hW,ex1,z1,z2,ex,n3,n4,hw]
    refine NextS.mk (i+1,o++(List.replicate (off - o.length) 0++x.1),x.2.1,x.2.2) ⟨by simp only;omega,hol,by simp only;omega,hxhi,nxt⟩ (by simp only;omega) ?_
    simp [hsg1]
  · have en:=adj s [125] P bad hl (by simp [lim]) hP2
    have hA:=sgA_le (e:=bad) (w:=[125]) hP2
    obtain ⟨z,hzz⟩:∃ z:Nat,t.size=z:=⟨t.size.toNat,by omega⟩
    have z2:=aao (z - o.length) (by unfold lim;omega)
    have z1:IntKind.i64.wrap (t.size - (o.length:Int))=((z - o.length:Nat):Int):=by rw [wrap_i64 (by omega) (by omega)];omega
    have n3:o.length+(z - o.length)≤lim:=by unfold lim;omega
    have oo:=hK (o++List.replicate (z - o.length) 0,sgA bad [125] s P,!sgB bad [125] s P) ⟨by show (((o++List.replicate (z - o.length) 0:Bs)).length:Int)≤_;simp;omega,by show a≤sgA bad [125] s P;omega,hA.1,fun b tl m0 m1 m2 m3=>by
      obtain ⟨q1,q2,q3⟩:=hC b tl (by rw [hgg];exact ⟨m0,m1,m2⟩)
      have hin:i=t.ms.length:=by
        have:¬ i<t.ms.length:=fun h=>hcond ⟨h,q1⟩
        omega
      have hT:(t.txs (shw d) b).length=t.ms.length:=by unfold Ty.txs;rw [if_pos k];simp
      have hr:remS 123 (t.txs (shw d) b) i=[]:=by unfold remS;rw [if_neg (by omega),ail (by omega) (by omega)]
      rw [hr,List.nil_append] at q2
      obtain ⟨s1,s2,s3⟩:=ajq (w:=[125]) (z:=tl) (by rw [q2];rfl)
      have hbl:(b.length:Int)=t.size:=by rw [m1.1,hz]
      have hg2:=(m1.2.2.2.1 k t.ms.length (Nat.le_refl _)).1
      rw [q1]
      show o++List.replicate (z - o.length) 0=b∧s.drop (sgA false [125] s P)=tl∧(!sgB false [125] s P)=false
      rw [s1,s2,s3]
      refine ⟨?_,rfl,rfl⟩
      have ol:(b.take (endOf t.ms i).toNat).length=(endOf t.ms i).toNat:=by rw [List.length_take];omega
      rw [q3,ol,aqd (by omega) (by omega) fun p p1 p2=>hg2 p (by rw [← hin];omega) (by unfold gapTo;rw [dif_neg (by omega)];omega)]
      exact List.take_of_length_le (by omega)⟩
    by_cases hlt:i<t.ms.length
    · have hb:bad=true:=by
        cases bad with
        | true=>rfl
        | false=>exact absurd ⟨hlt,rfl⟩ hcond
      subst hb
      simp -implicitDefEqProofs [hlt,en,z1,z2,n3]
      exact oo
    · simp -implicitDefEqProofs [hlt,en,z1,z2,n3]
      exact oo
end Go.VS
end
section
namespace Go.VS
set_option maxRecDepth 4000
attribute [-simp] isLeaf okRet ridL V.leaves
open Go.Lib
def AS (d:Nat) (t c:Ty) (s:Bs) (g:Bs→Bs→Prop) (i:Nat) (o:Bs) (P:Nat) (bad:Bool):Prop:=∀ b tl,g b tl→bad=false∧s.drop P=remS 91 (t.txs (shw d) b) i++93 :: tl∧o=b.take (i*c.sz.toNat)
theorem ar5 {d:Nat} {t:Ty} (g:Gd (d+1) t) (k:t.kind=1∨t.kind=3∨t.kind=6) {s:Bs} {a:Nat} {e:Bool} {x:Int × Nat × Bool} (hx:NumP s a e x.1 x.2.1 x.2.2) {b tl:Bs} (o:Ok (d+1) t b) (h0:e=false) (h:s.drop a=itoa (t.it.num b)++tl) (ht:StpT tl):
    x.1=t.it.num b∧x.2.2=false∧s.drop x.2.1=tl∧t.holds x.1=true∧t.it.put x.1=b:=by
  obtain ⟨h1,h2⟩:=it_len g k o.1
  obtain ⟨r1,r2,r3⟩:=hx.rd _ tl h0 (ah3 h2 b h1) h ht
  refine ⟨r1,r3,?_,by rw [r1];exact am1 g k o,by rw [r1];exact alx h2 b h1⟩
  rw [r2,← List.drop_drop,h,List.drop_left]
set_option maxHeartbeats 2000000 in
theorem ai3:∀ d,d≤3→ElS d
  | 0,_=>fun _ g=>g.elim
  | d+1,hd=>by
    have ih:=ai3 d (by omega)
    intro t g s a e hs ha
    by_cases k4:t.kind=4
    · exact ati (by omega) ih g k4 s a e hs ha
    refine aan (fun x:Bs × Nat × Bool=>(.s x.1,[[.s s,.i .i64 x.2.1,.b x.2.2]],[])) (ES (d+1) t s a e) fun K hK=>?_
    rw [aar (p:=prog) (f:=467) rfl _ _ _ rfl (by decide)]
    have hk:=g.kind
    have hsz:=g.sz
    have hl:s.length≤lim:=by unfold lim;omega
    have f4:=eq_false k4
    have plen:∀ (k:t.kind=1∨t.kind=3∨t.kind=6) (n:Int),((t.it.put n).length:Int)≤t.sz:=by
      intro k n
      have h1:(t.sz.toNat:Int)=t.sz:=by omega
      obtain ⟨h2,_⟩:=it_len g k (b:=List.replicate t.sz.toNat 0) (by simpa using h1)
      rw [List.length_replicate] at h2
      rw [alw];omega
    by_cases k1:t.kind=1
    · have f1:=eq_true k1
      have f6:(t.kind=6)=False:=eq_false (by omega)
      obtain ⟨x,ex,hx⟩:=anf s a e hl ha
      have e1:=aen (g.n (.inl k1)) x.1
      have e2:=abd (g.n (.inl k1)) x.1
      have o:=hK ((if x.2.2=false∧t.holds x.1=true then t.it.put x.1 else []),x.2.1,x.2.2 || !t.holds x.1) ⟨by
        show ((if _ then _ else _:Bs).length:Int)≤_
        split
        · exact plen (.inl k1) _
        · simp;omega,hx.lo,hx.hi,fun b tl h0 h1 h2 h3=>by
          rw [shw,if_pos k1] at h2
          obtain ⟨q1,q2,q3,q4,q5⟩:=ar5 g (.inl k1) hx h1 h0 h2 h3
          simp only
          rw [if_pos ⟨q2,q4⟩,q2,q4]
          exact ⟨q5,q3,rfl⟩⟩
      cases hb:x.2.2
      · cases hh:t.holds x.1
        · rw [hb] at ex;rw [hh] at e1;simp [hb,hh] at o
          simp -implicitDefEqProofs [f1,f6,ex,e1]
          exact o
        · rw [hb] at ex;rw [hh] at e1;simp [hb,hh] at o
          simp -implicitDefEqProofs [f1,f6,ex,e1,e2]
          exact o
      · rw [hb] at ex;simp [hb] at o
        simp -implicitDefEqProofs [f1,f6,ex]
        exact o
    have f1:=eq_false k1
    by_cases k6:t.kind=6
    · have f6:=eq_true k6
      have en:=adj s [35] a e hl (by simp [lim]) ha
      have hA:=sgA_le (e:=e) (w:=[35]) ha
      obtain ⟨x,ex,hx⟩:=anf s (sgA e [35] s a) (!sgB e [35] s a) hl hA.1
      have e1:=aen (g.n (.inr (.inr k6))) x.1
      have e2:=abd (g.n (.inr (.inr k6))) x.1
      have o:=hK ((if x.2.2=false∧t.holds x.1=true then t.it.put x.1 else []),x.2.1,x.2.2 || !t.holds x.1) ⟨by
        show ((if _ then _ else _:Bs).length:Int)≤_
        split
        · exact plen (.inr (.inr k6)) _
        · simp;omega,by have:=hx.lo;show a≤x.2.1;omega,hx.hi,fun b tl h0 h1 h2 h3=>by
          rw [shw,if_neg k1,if_neg (by omega),if_neg (by omega),if_neg k4,if_neg (by omega)] at h2
          obtain ⟨s1,s2,s3⟩:=ajq (w:=[35]) (z:=itoa (t.it.num b)++tl) (by rw [h2];rfl)
          rw [h0] at hx
          obtain ⟨q1,q2,q3,q4,q5⟩:=ar5 g (.inr (.inr k6)) hx h1 (by rw [s1];rfl) (by rw [s2,s3]) h3
          simp only
          rw [if_pos ⟨q2,q4⟩,q2,q4]
          exact ⟨q5,q3,rfl⟩⟩
      generalize sgA e [35] s a=A at *
      generalize (!sgB e [35] s a)=B at *
      cases hb:x.2.2
      · cases hh:t.holds x.1
        · rw [hb] at ex;rw [hh] at e1;simp [hb,hh] at o
          simp -implicitDefEqProofs [f1,f6,en,ex,e1]
          exact o
        · rw [hb] at ex;rw [hh] at e1;simp [hb,hh] at o
          simp -implicitDefEqProofs [f1,f6,en,ex,e1,e2]
          exact o
      · rw [hb] at ex;simp [hb] at o
        simp -implicitDefEqProofs [f1,f6,en,ex]
        exact o
    have f6:=eq_false k6
    by_cases k2:t.kind=2
    · have f2:=eq_true k2
      have hz:t.sz=t.size:=by rw [Ty.sz_eq,if_neg (by omega),if_neg (by omega)]
      have h3:=(g.txt k2).2.1
      obtain ⟨n,hn⟩:∃ n:Nat,t.size=n:=⟨t.size.toNat,by omega⟩
      obtain ⟨x,ex,hx⟩:=av3 s a n e hs ha (by omega)
      have o:=hK x ⟨by have:=hx.lo;omega,hx.l1,hx.hi,fun b tl h0 h1 h2 _=>by
          rw [shw,if_neg k1,if_pos k2] at h2
          have hbl:(b.length:Int)=t.size:=by rw [h1.1,hz]
          have hl2:=afn b
          obtain ⟨x1,x2,x3⟩:=hx.rd _ _ h0 (by omega) h2
          obtain ⟨kz,hkz⟩:=ago b
          have hkl:kz=n - (trimR 0 b).length:=by
            have:=congrArg List.length hkz
            simp at this;omega
          exact ⟨by rw [x1,← hkl,← hkz],x2,x3⟩⟩
      rw [← hn] at ex
      simp -implicitDefEqProofs [f1,f6,f2,ex]
      exact o
    have f2:=eq_false k2
    by_cases k3:t.kind=3
    · have f3:=eq_true k3
      have en:=g.enum k3
      have hnn:=en.nn
      have hn6:=en.n6
      have ew:=aqp s a e hl ha
      have hwl:a+(nmN s a).length≤s.length:=by
        unfold nmN
        have h1:=(List.takeWhile_sublist isRest (l:=s.drop a)).length_le
        rw [List.length_drop] at h1
        rw [List.length_take];omega
      have rd:∀ b tl,Ok (d+1) t b→s.drop a=shw (d+1) t b++tl→StpT tl→∃ j,∃ h1:j<t.names.length,∃ h2:j<t.nums.length,idxF (fun x=>nmN s a == x) t.names 0=(j:Int)∧t.it.put t.nums[j]=b∧s.drop (a+(nmN s a).length)=tl:=by
        intro b tl h1 h2 h3
        obtain ⟨j,j1,j2,_,j4,j5,j6⟩:=apt en (h1.2.2.1 k3)
        obtain ⟨l1,l2⟩:=it_len g (.inr (.inl k3)) h1.1
        rw [shw,if_neg k1,if_neg k2,if_pos k3,j4] at h2
        obtain ⟨_,_,_,_,hE⟩:=en.ba
        have nm:=(hE j j1).nm
        rw [List.getD_eq_getElem?_getD,List.getElem?_eq_getElem j1] at nm
        obtain ⟨t1,t2⟩:=al7 (p:=isRest) (l:=t.names[j]) (tl:=tl) (anc nm) (fun c hc=>(h3 c hc).2)
        have hN:nmN s a=t.names[j]:=by
          unfold nmN
          rw [h2,t1]
          exact List.take_of_length_le (afs nm)
        rw [hN]
        exact ⟨j,j1,j2,j6,by rw [j5,alx l2 b l1],by rw [← List.drop_drop,h2,List.drop_left]⟩
      generalize hNN:nmN s a=N at *
      simp -implicitDefEqProofs [f1,f6,f2,f3,ew]
      refine WL_for (fun i=>⟨sp 155 [(0,.ptr 0 0),(3,.ptr 1 0),(6,.s N),(7,.i .i64 i)],[[.s s,.i .i64 (a+N.length:Nat),.b e],t.k],[]⟩) t.names.length (fun i=>idxF (fun x=>N == x) t.names 0=idxF (fun x=>N == x) (t.names.drop i) i) _ (by simp -implicitDefEqProofs) (by simp) ?_
      intro i hi hP
      by_cases hlt:i<t.names.length
      · have hw:=wrap_i64 (n:=(i:Int)+1) (by omega) (by omega)
        have hlt2:i<t.nums.length:=by omega
        have hd:t.names.drop i=t.names[i] :: t.names.drop (i+1):=List.drop_eq_getElem_cons hlt
        rw [hd,idxF] at hP
        have eb:=abd (g.n (.inr (.inl k3))) t.nums[i]
        by_cases q:t.names[i]=N
        · have q1:(N == t.names[i])=true:=by rw [q];simp
          rw [if_pos q1] at hP
          have o:=hK (t.it.put t.nums[i],a+N.length,e) ⟨plen (.inr (.inl k3)) _,by show a≤a+N.length;omega,hwl,fun b tl h0 h1 h2 h3=>by
            obtain ⟨j,j1,j2,c,c2,c3⟩:=rd b tl h1 h2 h3
            have:i=j:=by omega
            subst this
            exact ⟨c2,c3,h0⟩⟩
          have q':=eq_true q
          simp -implicitDefEqProofs [hlt,q',hlt2,eb]
          simp at o
          exact o
        · have q1:¬ (N == t.names[i])=true:=by simp;exact fun h=>q h.symm
          rw [if_neg q1] at hP
          have q':=eq_false q
          simp -implicitDefEqProofs [hlt,q',hw,Next]
          exact hP
      · rw [ahe (by omega)] at hP
        have o:=hK ([],a+N.length,true) ⟨by simp;omega,by show a≤a+N.length;omega,hwl,fun b tl h0 h1 h2 h3=>by
            obtain ⟨j,j1,j2,c,c2,c3⟩:=rd b tl h1 h2 h3
            omega⟩
        simp -implicitDefEqProofs [hlt]
        simp at o
        exact o
    have f3:=eq_false k3
    have k5:t.kind=5:=by omega
    obtain ⟨ag,c,hc,gc,h24⟩:=g.arr k5
    have hz:=sz5 k5 hc
    have hcs:=gc.sz
    have a1:=ag.c1
    have a4:=ag.c4
    obtain ⟨b1,b2⟩:=base0 hc
    obtain ⟨n,hn⟩:∃ n:Nat,t.count=n:=⟨t.count.toNat,by omega⟩
    obtain ⟨z,hzz⟩:∃ z:Nat,c.sz=z:=⟨c.sz.toNat,by omega⟩
    have hnz:t.sz=((n*z:Nat):Int):=by rw [hz,hn,hzz];push_cast;rfl
    have hT:∀ b,t.txs (shw d) b=(List.range n).map fun k:Nat=>shw d c (sl b (k*c.sz) (((k:Int)+1)*c.sz)):=by
      intro b
      unfold Ty.txs Ty.parts
      rw [if_neg k4,if_neg k4,if_pos k5,hc,hn]
      simp [Function.comp_def]
    have hsh:∀ b,shw (d+1) t b=91 :: join (t.txs (shw d) b) [44]++[93]:=fun b=>by rw [shw,if_neg k1,if_neg k2,if_neg k3,if_neg k4,if_pos k5]
    obtain ⟨gg,hgg⟩:∃ gg:Bs→Bs→Prop,gg=fun b tl=>e=false∧Ok (d+1) t b∧s.drop a=shw (d+1) t b++tl:=⟨_,rfl⟩
    have g0:AS d t c s gg 0 [] a e:=by
      rw [hgg]
      rintro b tl ⟨h0,h1,h2⟩
      exact ⟨h0,by rw [h2,hsh];unfold remS remT;simp,by simp⟩
    simp -implicitDefEqProofs [f1,f6,f2,f3,f4]
    refine WL_st (α:=Nat × Bs × Nat × Bool) (fun x=>⟨sp 155 [(0,.ptr 0 0),(3,.ptr 1 0),(12,.s x.2.1),(13,.s (sgn 91 x.1)),(14,.i .i64 x.1)],[[.s s,.i .i64 x.2.2.1,.b x.2.2.2],t.k],[]⟩) (fun x=>n - x.1)
      (fun x=>x.1≤n∧x.2.1.length≤x.1*z∧a≤x.2.2.1∧x.2.2.1≤s.length∧AS d t c s gg x.1 x.2.1 x.2.2.1 x.2.2.2) (0,[],a,e) _ (by simp -implicitDefEqProofs [sgn]) ⟨by simp,by simp,Nat.le_refl _,ha,g0⟩ ?_
    rintro ⟨i,o,P,bad⟩ ⟨h1,h2,hP1,hP2,hC⟩
    simp only at h1 h2 hP1 hP2 hC ⊢
    have hiz:i*z≤n*z:=Nat.mul_le_mul_right _ h1
    by_cases hcond:i<n∧bad=false
    · obtain ⟨hlt,rfl⟩:=hcond
      have hw:=wrap_i64 (n:=(i:Int)+1) (by omega) (by omega)
      have hltc:((i:Int)<t.count)=True:=eq_true (by omega)
      have hsg:(sgn 91 i).length=1:=by unfold sgn;split <;> rfl
      have hsg1:sgn 91 (i+1)=[44]:=by unfold sgn;rw [if_neg (by omega)]
      have ex1:=adj s (sgn 91 i) P false hl (by rw [hsg];unfold lim;decide) hP2
      have hA:=sgA_le (e:=false) (w:=sgn 91 i) hP2
      obtain ⟨x,ex,hx⟩:=ih _ gc s (sgA false (sgn 91 i) s P) (!sgB false (sgn 91 i) s P) hs hA.1
      have hxl:=hx.lo
      have hi1:(i+1)*z=i*z+z:=by rw [Nat.add_mul,Nat.one_mul]
      have n1:o.length+x.1.length≤lim:=by unfold lim;omega
      have nxt:AS d t c s gg (i+1) (o++x.1) x.2.1 x.2.2:=by
        intro b tl hg
        obtain ⟨q1,q2,q3⟩:=hC b tl hg
        rw [hgg] at hg
        obtain ⟨_,hok,_⟩:=hg
        have hlt2:i<(t.txs (shw d) b).length:=by rw [hT];simpa using hlt
        have e3:(t.txs (shw d) b)[i]=shw d c (sl b (i*c.sz) (((i:Int)+1)*c.sz)):=by simp only [hT,List.getElem_map,List.getElem_range]
        rw [ann hlt2,e3] at q2
        have hok2:=hok.2.2.2.2 k5 c (by rw [hc];simp) i (by omega)
        obtain ⟨s1,s2,s3⟩:=ajq q2
        obtain ⟨x1,x2,x3⟩:=hx.rd _ _ (by rw [s1];rfl) hok2 (by rw [s2,s3]) (aim (by omega) (stp_of ⟨by decide,by decide⟩ tl))
        refine ⟨x3,by rw [x2,ano],?_⟩
        have z1:c.sz.toNat=z:=by omega
        have z2:((i:Int)*c.sz).toNat=i*z:=by rw [hzz,show (i:Int)*z=((i*z:Nat):Int) by push_cast;rfl,Int.toNat_natCast]
        have z3:(((i:Int)+1)*c.sz).toNat=(i+1)*z:=by rw [hzz,show ((i:Int)+1)*z=(((i+1)*z:Nat):Int) by push_cast;rfl,Int.toNat_natCast]
        rw [q3,z1,x1]
        show b.take (i*z)++(b.take (((i:Int)+1)*c.sz).toNat).drop ((i:Int)*c.sz).toNat=_
        rw [z2,z3]
        have:b.take (i*z)=(b.take ((i+1)*z)).take (i*z):=by rw [List.take_take,Nat.min_eq_left (by omega)]
        rw [this,List.take_append_drop]
      have hol:(o++x.1).length≤(i+1)*z:=by rw [List.length_append];omega
      have hxl1:=hx.l1
      have hxhi:=hx.hi
      generalize sgn 91 i=S at *
      simp -implicitDefEqProofs [hltc,ex1,b1,b2,Ty.v_w,ex,n1,hw]
      refine NextS.mk (i+1,o++x.1,x.2.1,x.2.2) ⟨by simp only;omega,hol,by simp only;omega,hxhi,nxt⟩ (by simp only;omega) ?_
      simp [hsg1]
    · have en:=adj s [93] P bad hl (by simp [lim]) hP2
      have hA:=sgA_le (e:=bad) (w:=[93]) hP2
      have oo:=hK (o,sgA bad [93] s P,!sgB bad [93] s P) ⟨by show (o.length:Int)≤_;omega,by show a≤sgA bad [93] s P;omega,hA.1,fun b tl m0 m1 m2 m3=>by
        obtain ⟨q1,q2,q3⟩:=hC b tl (by rw [hgg];exact ⟨m0,m1,m2⟩)
        have hin:i=n:=by
          have:¬ i<n:=fun h=>hcond ⟨h,q1⟩
          omega
        have hTl:(t.txs (shw d) b).length=n:=by rw [hT];simp
        have hr:remS 91 (t.txs (shw d) b) i=[]:=by unfold remS;rw [if_neg (by omega),ail (by omega) (by omega)]
        rw [hr,List.nil_append] at q2
        obtain ⟨s1,s2,s3⟩:=ajq (w:=[93]) (z:=tl) (by rw [q2];rfl)
        rw [q1]
        show o=b∧s.drop (sgA false [93] s P)=tl∧(!sgB false [93] s P)=false
        rw [s1,s2,s3]
        refine ⟨?_,rfl,rfl⟩
        rw [q3]
        refine List.take_of_length_le ?_
        have:=m1.1
        have z1:c.sz.toNat=z:=by omega
        rw [z1,hin];omega⟩
      by_cases hlt:(i:Int)<t.count
      · have hb:bad=true:=by
          cases bad with
          | true=>rfl
          | false=>exact absurd ⟨by omega,rfl⟩ hcond
        subst hb
        have f:=eq_true hlt
        simp -implicitDefEqProofs [f,en]
        exact oo
      · have f:=eq_false hlt
        simp -implicitDefEqProofs [f,en]
        exact oo
end Go.VS
end
section
namespace Go.VS
set_option maxRecDepth 4000
attribute [-simp] isLeaf okRet ridL V.leaves
open Go.Lib
noncomputable def rdE (t:Ty) (s:Bs):Option Bs:=@dite _ (∃ b,Ok 3 t b∧shw 3 t b=s) (Classical.propDecidable _) (fun h=>some h.choose) fun _=>none
theorem rdE_eq {t:Ty} {s b:Bs} (h:Ok 3 t b∧shw 3 t b=s) (u:∀ b',Ok 3 t b'→shw 3 t b'=s→b'=b):rdE t s=some b:=by
  unfold rdE
  have h1:∃ b,Ok 3 t b∧shw 3 t b=s:=⟨b,h⟩
  rw [dif_pos h1]
  rw [u _ h1.choose_spec.1 h1.choose_spec.2]
theorem at9 {t:Ty} {s:Bs} (h:¬ ∃ b,Ok 3 t b∧shw 3 t b=s):rdE t s=none:=by
  unfold rdE
  rw [dif_neg h]
theorem asr:StpT []:=fun c h=>by cases h
theorem sz_lim {t:Ty} (g:Gd 3 t) {x:Bs} (h:(x.length:Int)≤t.sz):x.length≤lim:=by
  have:=g.sz
  unfold lim;omega
theorem aii (t:Ty) (g:Gd 3 t) (s:Bs) (hs:s.length≤1048576) (K:Out→Prop):
    Call prog 469 ⟨[t.w,.s s],[],[]⟩ K=K (.tup [.s ((rdE t s).getD []),.b (rdE t s).isSome],[],[]):=by
  refine Zc (f:=469) rfl rfl (by decide) ?_
  obtain ⟨x,ex,hx⟩:=aj8 3 (Nat.le_refl _) t g s false hs
  have hl:=sz_lim g hx.lo
  have e1:=ad1 3 g x.1 hl
  have rd:∀ b,Ok 3 t b→shw 3 t b=s→x=(b,[],false):=fun b h1 h2=>hx.rd b [] rfl h1 (by rw [h2,List.append_nil]) asr
  by_cases h:∃ b,Ok 3 t b∧shw 3 t b=s
  · obtain ⟨b,h1,h2⟩:=h
    have hX:=rd b h1 h2
    have u:∀ b',Ok 3 t b'→shw 3 t b'=s→b'=b:=fun b' q1 q2=>by have:=rd b' q1 q2;rw [hX] at this;injection this with this;exact this.symm
    rw [rdE_eq ⟨h1,h2⟩ u]
    rw [hX] at ex e1
    simp only at e1
    rw [tB_t h1] at e1
    have e2:=abm 3 (Nat.le_refl _) g b h1
    rw [h2] at e2
    simp -implicitDefEqProofs [ex,e1,e2]
  · rw [at9 h]
    cases hb:x.2.2
    · rw [hb] at ex
      by_cases ho:Ok 3 t x.1
      · rw [tB_t ho] at e1
        have e2:=abm 3 (Nat.le_refl _) g x.1 ho
        have hne:¬ shw 3 t x.1=s:=fun q=>h ⟨_,ho,q⟩
        simp -implicitDefEqProofs [ex,e1,e2,hne]
      · rw [tB_f ho] at e1
        simp -implicitDefEqProofs [ex,e1]
    · rw [hb] at ex
      simp -implicitDefEqProofs [ex]
noncomputable def rdR (t:Ty) (s:Bs):Bs × Bool:=@ite _ (Gd 3 t) (Classical.propDecidable _) ((rdE t s).getD [],(rdE t s).isSome) ([],false)
theorem aig (t:Ty) (hb:t.tot≤lim) (s:Bs) (hs:s.length≤1048576) (K:Out→Prop):
    Call prog 426 ⟨[t.w,.s s],[],[]⟩ K=K (.tup [.s (rdR t s).1,.b (rdR t s).2],[],[]):=by
  refine Zc (f:=426) rfl rfl (by decide) ?_
  have e0:=adz t hb
  unfold rdR
  by_cases g:Gd 3 t
  · rw [tB_t g] at e0
    have e1:=aii t g s hs
    rw [if_pos g]
    simp -implicitDefEqProofs [e0,e1]
  · rw [tB_f g] at e0
    rw [if_neg g]
    simp -implicitDefEqProofs [e0]
end Go.VS
end
