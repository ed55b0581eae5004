/-
  What the functions of the program answer (third part).
-/
import Derived.Test.YtdnblconoegeaaaGreatDoorB3
set_option linter.all false
section
namespace Go.VS
theorem agi (q:Bool) (p:Pr) (h:p.Ok) (k:Int) (K:Out→Prop):Call prog 98 ⟨[.vp (prC q p),.i .i64 k],[],[]⟩ K=K (hdrOut p k):=by
  refine Zc (f:=98) rfl rfl (by decide) ?_
  have e:=fun K=>aqz q p h k K
  unfold hdrOut Pr.hdr
  unfold chainOut at e
  cases c:chainF p 257 k [] [] with
  | none=>simp only [c] at e;simp -implicitDefEqProofs [e]
  | some x=>
    simp only [c] at e
    cases d:decHdr x.2 with
    | none=>simp only [d] at e;simp -implicitDefEqProofs [e,d]
    | some hh=>simp only [d] at e;simp -implicitDefEqProofs [e,d]
theorem ail (q:Bool) (p:Pr) (h:p.Ok) (k:Int) (K:Out→Prop):Call prog 73 ⟨[.vp (prC q p),.i .i64 k],[],[]⟩ K=K (hdrOut p k):=by
  refine Zc (f:=73) rfl rfl (by decide) ?_
  have e:=fun K=>al0 q p h k K
  unfold hdrOut Pr.hdr
  unfold chainOut at e
  cases c:chainF p 257 k [] [] with
  | none=>simp only [c] at e;simp -implicitDefEqProofs [e]
  | some x=>
    simp only [c] at e
    cases d:decHdr x.2 with
    | none=>simp only [d] at e;simp -implicitDefEqProofs [e,d]
    | some hh=>simp only [d] at e;simp -implicitDefEqProofs [e,d]
theorem at8 (m:Ms) (k:Int) (K:Out→Prop):Call prog 157 ⟨[msV m,.vp [.i .i64 k]],[],[]⟩ K=K (.b (isK k m),[],[]):=by
  refine Zc (f:=157) rfl rfl (by decide) ?_
  simp -implicitDefEqProofs [msV,isK]
theorem aua (m:Ms) (k:Int) (K:Out→Prop):Call prog 137 ⟨[msV m,.vp [.i .i64 k]],[],[]⟩ K=K (.b (isK k m),[],[]):=by
  refine Zc (f:=137) rfl rfl (by decide) ?_
  simp -implicitDefEqProofs [msV,isK]
theorem akp (q:Bool) (h:Hd) (k:Int) (hl:h.msgs.length≤lim) (K:Out→Prop):Call prog 136 ⟨[.agg [.i .i64 h.kind,.i .i64 h.refs,.view q 3 (h.msgs.map msV)],.i .i64 k],[],[]⟩ K=K (.i .i64 (idxF (isK k) h.msgs 0),[],[]):=by
  refine Zc (f:=136) rfl rfl (by decide) ?_
  have e:=fun K=>ixMs (isK k) 157 [.vp [.i .i64 k]] q h.msgs hl rfl (fun x _=>at8 x k) K
  simp -implicitDefEqProofs [e]
theorem ano (q:Bool) (h:Hd) (k:Int) (hl:h.msgs.length≤lim) (K:Out→Prop):Call prog 118 ⟨[.agg [.i .i64 h.kind,.i .i64 h.refs,.view q 3 (h.msgs.map msV)],.i .i64 k],[],[]⟩ K=K (.tup [.i .i64 (onlyX h.msgs k),.b (onlyB h.msgs k)],[],[]):=by
  refine Zc (f:=118) rfl rfl (by decide) ?_
  have e:=fun K=>akp q h k hl K
  have hf:=ae0 (isK k) h.msgs 0
  unfold lim at hl
  unfold onlyX onlyB
  cases c:h.msgs.find? (isK k) with
  | none=>
    rw [c] at hf
    simp only at hf
    rw [hf] at e
    simp -implicitDefEqProofs [e,hf]
  | some x=>
    rw [c] at hf
    obtain ⟨j,h1,h2⟩:=hf
    rw [Nat.zero_add] at h1
    obtain ⟨hlt,hx⟩:=List.getElem?_eq_some_iff.1 h2
    rw [h1] at e
    have w:=wrap_i64 (n:=(j:Int)+1) (by omega) (by omega)
    have c1:¬ (j:Int)<0:=by omega
    have c2:(0:Int)≤(j:Int)+1:=by omega
    have c3:(j:Int)+1≤h.msgs.length:=by omega
    have t1:((j:Int)+1).toNat=j+1:=by omega
    have e2:=fun K=>cfMs (isK k) 137 [.vp [.i .i64 k]] q (h.msgs.drop (j+1)) (by unfold lim;rw [List.length_drop];omega) rfl (fun x _=>aua x k) K
    by_cases d:h.msgs[j].flags=0
    · simp -implicitDefEqProofs [e,h1,hlt,c1,msV,d,w,c2,c3,t1]
      simp only [List.map_drop,Tag_eq] at e2
      simp -implicitDefEqProofs [e2,h1,hlt,d]
      omega
    · simp -implicitDefEqProofs [e,h1,hlt,c1,msV,d]
theorem aim (q:Bool) (h:Hd) (k:Int) (hl:h.msgs.length≤lim) (K:Out→Prop):Call prog 74 ⟨[.agg [.i .i64 h.kind,.i .i64 h.refs,.view q 3 (h.msgs.map msV)],.i .i64 k],[],[]⟩ K=K (.i .i64 (onlyW k h.msgs 0 (-1)),[],[]):=by
  refine Zc (f:=74) rfl rfl (by decide) ?_
  simp -implicitDefEqProofs
  unfold lim at hl
  refine WL_st (α:=Nat × Int) (fun x=>⟨sp 35 [(1,.i .i64 k),(2,.ptr 0 0),(5,.i .i64 x.2),(6,.i .i64 x.1)],[[.i .i64 h.kind,.i .i64 h.refs,.view q 3 (h.msgs.map msV)]],[]⟩)
    (fun x=>h.msgs.length - x.1) (fun x=>x.1≤h.msgs.length∧onlyW k h.msgs 0 (-1)=onlyW k (h.msgs.drop x.1) x.1 x.2) (0,-1) _ (by simp -implicitDefEqProofs) ⟨Nat.zero_le _,rfl⟩ ?_
  rintro ⟨i,a⟩ ⟨hi,hP⟩
  simp only at hi hP
  by_cases hlt:i<h.msgs.length
  · have hw:=wrap_i64 (n:=(i:Int)+1) (by omega) (by omega)
    have hd:=List.drop_eq_getElem_cons hlt
    rw [hd,onlyW] at hP
    by_cases c1:h.msgs[i].kind=k
    · have c1':isK k h.msgs[i]=true:=by simp [isK,c1]
      rw [c1'] at hP
      by_cases c2:0≤a
      · have:onlyW k h.msgs 0 (-1)=-1:=by rw [hP];simp [c2]
        rw [this]
        simp -implicitDefEqProofs [hlt,msV,c1,c2]
      · by_cases c3:h.msgs[i].flags=0
        · have hP2:onlyW k h.msgs 0 (-1)=onlyW k (h.msgs.drop (i+1)) (i+1) i:=by rw [hP];simp [c2,c3]
          simp -implicitDefEqProofs [hlt,msV,c1,c2,c3,hw]
          refine NextS.mk (i+1,(i:Int)) ⟨?_,?_⟩ ?_ ?_
          · simp only;omega
          · exact hP2
          · simp only;omega
          · simp
        · have:onlyW k h.msgs 0 (-1)=-1:=by rw [hP];simp [c3]
          rw [this]
          simp -implicitDefEqProofs [hlt,msV,c1,c2,c3]
    · have c1':isK k h.msgs[i]=false:=by simp [isK,c1]
      rw [c1'] at hP
      have hP2:onlyW k h.msgs 0 (-1)=onlyW k (h.msgs.drop (i+1)) (i+1) a:=by rw [hP];simp
      simp -implicitDefEqProofs [hlt,msV,c1,hw]
      refine NextS.mk (i+1,a) ⟨?_,?_⟩ ?_ ?_
      · simp only;omega
      · exact hP2
      · simp only;omega
      · simp
  · rw [List.drop_of_length_le (by omega),onlyW] at hP
    rw [hP]
    simp -implicitDefEqProofs [hlt]
end Go.VS
end
section
namespace Go.VS
theorem abg (c:UInt8) (K:Out→Prop):Call prog 68 ⟨[.i .u8 c.toNat],[],[]⟩ K=K (.b (isLet c),[],[]):=by
  refine Zc (f:=68) rfl rfl (by decide) ?_
  unfold isLet
  generalize (c.toNat:Int)=x
  by_cases h1:65≤x <;> by_cases h2:x≤90 <;> by_cases h3:97≤x <;> simp -implicitDefEqProofs [h1,h2,h3]
set_option maxHeartbeats 1000000 in
theorem agf (s:Bs) (hs:s.length≤lim) (K:Out→Prop):Call prog 117 ⟨[.s s],[],[]⟩ K=K (.b (isName s),[],[]):=by
  refine Zc (f:=117) rfl rfl (by decide) ?_
  unfold lim at hs
  unfold isName
  simp -implicitDefEqProofs
  refine WL_for (fun i=>⟨sp 55 [(0,.s s),(7,.i .i64 s.length),(8,.i .i64 i)],[],[]⟩) s.length (fun i=>anyFrom (chBad s) 0 s.length=anyFrom (chBad s) i (s.length - i)) _ (by simp -implicitDefEqProofs) (by simp) ?_
  intro i hi hP
  by_cases hlt:i<s.length
  · have hw:=wrap_i64 (n:=(i:Int)+1) (by omega) (by omega)
    rw [hP,aa5 hlt]
    have hb:chBad s i=if i=0 then !isLet s[i] else !isRest s[i]:=by
      unfold chBad
      by_cases h0:i=0
      · subst h0;simp [hlt]
      · simp [h0,hlt]
    rw [hb]
    unfold isRest isLet isDig
    have hx:∃ x:Int,x=(s[i].toNat:Int):=⟨_,rfl⟩
    obtain ⟨x,hx⟩:=hx
    simp only [← hx]
    by_cases h0:i=0
    · subst h0
      by_cases h1:65≤x <;> by_cases h2:x≤90 <;> by_cases h3:97≤x <;> by_cases h4:x≤122 <;> simp -implicitDefEqProofs [hlt,← hx,h1,h2,h3,h4,hw,Next]
    · by_cases h1:65≤x <;> by_cases h2:x≤90 <;> by_cases h3:97≤x <;> by_cases h4:x≤122 <;>
        (first
          | (simp -implicitDefEqProofs [hlt,← hx,h0,h1,h2,h3,h4,hw,Next];done)
          | (by_cases h5:x<48
             · have h5':¬ 48≤x:=by omega
               by_cases h7:x=95
               · omega
               · simp -implicitDefEqProofs [hlt,← hx,h0,h1,h2,h3,h4,h5,h5',h7,hw,Next]
             · have h5':48≤x:=by omega
               by_cases h6:57<x
               · have h6':¬ x≤57:=by omega
                 by_cases h7:x=95 <;> simp -implicitDefEqProofs [hlt,← hx,h0,h1,h2,h3,h4,h5,h5',h6,h6',h7,hw,Next]
               · have h6':x≤57:=by omega
                 simp -implicitDefEqProofs [hlt,← hx,h0,h1,h2,h3,h4,h5,h5',h6,h6',hw,Next]))
  · rw [hP,abw (by omega)]
    by_cases h1:(1:Int)≤s.length <;> simp -implicitDefEqProofs [hlt,h1]
end Go.VS
end
section
namespace Go.VS
set_option maxHeartbeats 1000000 in
theorem ae6 (s:Bs) (hs:s.length≤lim) (K:Out→Prop):Call prog 36 ⟨[.s s],[],[]⟩ K=K (.b (isName s),[],[]):=by
  refine Zc (f:=36) rfl rfl (by decide) ?_
  unfold lim at hs
  by_cases c0:s.length=0
  · have:isName s=false:=by unfold isName;simp [c0]
    rw [this]
    simp -implicitDefEqProofs [c0]
  by_cases c1:(12:Int)<s.length
  · have c1':¬ (s.length:Int)≤12:=by omega
    have:isName s=false:=by unfold isName;simp [c1']
    rw [this]
    simp -implicitDefEqProofs [c0,c1]
  have hpos:0<s.length:=by omega
  have n1:isName s=!(anyFrom (chBad s) 0 s.length):=by
    have a1:(1:Int)≤s.length:=by omega
    have a2:(s.length:Int)≤12:=by omega
    unfold isName;simp [a1,a2]
  have n2:=aa5 (f:=chBad s) hpos
  rw [Nat.sub_zero] at n2
  have hb0:chBad s 0=!isLet s[0]:=by simp [chBad,hpos]
  cases c2:isLet s[0] with
  | false=>
    rw [n1,n2,hb0,c2]
    simp -implicitDefEqProofs [c0,c1,hpos,abg,c2]
  | true=>
    rw [n1,n2,hb0,c2]
    simp -implicitDefEqProofs [c0,c1,hpos,abg,c2]
    refine WL_st (α:=Nat) (fun i=>⟨sp 48 [(0,.s s),(3,.i .i64 i)],[],[]⟩) (fun i=>s.length - i) (fun i=>1≤i∧i≤s.length∧anyFrom (chBad s) 1 (s.length - 1)=anyFrom (chBad s) i (s.length - i)) 1 _ (by simp -implicitDefEqProofs) ⟨by omega,by omega,rfl⟩ ?_
    rintro i ⟨h1,h2,hP⟩
    by_cases hlt:i<s.length
    · have hw:=wrap_i64 (n:=(i:Int)+1) (by omega) (by omega)
      rw [aa5 hlt] at hP
      have hb:chBad s i=!isRest s[i]:=by
        have:¬ i=0:=by omega
        simp [chBad,this,hlt]
      rw [hb] at hP
      unfold isRest isDig at hP
      have nx:isRest s[i]=true→NextS (fun i:Nat=>⟨sp 48 [(0,.s s),(3,.i .i64 i)],[],[]⟩) (fun i:Nat=>1≤i∧i≤s.length∧anyFrom (chBad s) 1 (s.length - 1)=anyFrom (chBad s) i (s.length - i)) (fun i:Nat=>s.length - i) (s.length - i) ⟨sp 48 [(0,.s s),(3,.i .i64 ((i:Int)+1))],[],[]⟩:=by
        intro hr
        refine NextS.mk (i+1) ⟨by omega,by omega,?_⟩ (by omega) (by simp)
        unfold isRest isDig at hr
        rw [hP,hr];rfl
      unfold isRest isDig at nx
      cases d1:isLet s[i] with
      | true=>
        rw [d1] at nx hP
        simp -implicitDefEqProofs [hlt,abg,d1,hw]
        exact nx rfl
      | false=>
        rw [d1] at nx hP
        by_cases d2:(48:Int)≤s[i].toNat
        · by_cases d3:(s[i].toNat:Int)≤57
          · have hr:(false || (decide ((48:Int)≤s[i].toNat) && decide ((s[i].toNat:Int)≤57)) || decide ((s[i].toNat:Int)=95))=true:=by simp only [d2,d3,decide_true,Bool.and_self,Bool.false_or,Bool.true_or]
            simp -implicitDefEqProofs [hlt,abg,d1,d2,d3,hw]
            exact nx hr
          · by_cases d4:(s[i].toNat:Int)=95
            · have hr:(false || (decide ((48:Int)≤s[i].toNat) && decide ((s[i].toNat:Int)≤57)) || decide ((s[i].toNat:Int)=95))=true:=by rw [decide_eq_true d4,Bool.or_true]
              have d4':s[i].toNat=95:=by omega
              have d2':¬ (95:Int)≤57:=by omega
              have el:∀ K,Call prog 68 ⟨[.i .u8 95],[],[]⟩ K=K (.b false,[],[]):=by
                intro K
                have:=abg s[i] K
                rw [d1,d4'] at this
                exact this
              simp -implicitDefEqProofs [hlt,d4',el,hw]
              exact nx hr
            · have:anyFrom (chBad s) 1 (s.length - 1)=true:=by
                rw [hP,decide_eq_false d3,decide_eq_false d4,Bool.and_false];rfl
              have d4':¬ s[i].toNat=95:=by omega
              simp -implicitDefEqProofs [hlt,abg,d1,d2,d3,d4,d4',this]
        · have d4:¬ (s[i].toNat:Int)=95:=by omega
          have d4':¬ s[i].toNat=95:=by omega
          have:anyFrom (chBad s) 1 (s.length - 1)=true:=by
            rw [hP,decide_eq_false d2,decide_eq_false d4,Bool.false_and];rfl
          simp -implicitDefEqProofs [hlt,abg,d1,d2,d4,d4',this]
    · have he:=abw (f:=chBad s) (i:=i) (N:=s.length) (by omega)
      rw [he] at hP
      rw [hP]
      simp -implicitDefEqProofs [hlt]
theorem atk (s:Bs) (hs:s.length≤lim) (K:Out→Prop):Call prog 161 ⟨[.s s],[],[]⟩ K=K (.b (heapBad s),[],[]):=by
  refine Zc (f:=161) rfl rfl (by decide) ?_
  have e:=fun K=>agf s hs K
  by_cases c:s=[]
  · simp -implicitDefEqProofs [c,heapBad]
  · simp -implicitDefEqProofs [c,heapBad,e]
theorem afk (q:Bool) (l:List Bs) (hl:l.length≤lim) (hs:∀ s,s ∈ l→s.length≤lim) (K:Out→Prop):Call prog 141 ⟨[.agg [.view q 1 (l.map .s)]],[],[]⟩ K=K (.b (heapOk l),[],[]):=by
  refine Zc (f:=141) rfl rfl (by decide) ?_
  have e:=fun K=>cfS heapBad 161 [] q l hl rfl (fun x hx=>atk x (hs x hx)) K
  unfold heapOk
  unfold lim at hl
  by_cases c1:(l.length:Int)≤30
  · by_cases c2:l=[]
    · subst c2
      have e':∀ K,Call prog 86 ⟨[.view q 1 [],.fn 161 []],[],[]⟩ K=K (.b false,[],[]):=e
      simp -implicitDefEqProofs [e']
    · have hpos:0<l.length:=List.length_pos_iff.2 c2
      have c2':¬ l.length=0:=by omega
      have w:=wrap_i64 (n:=(l.length:Int) - 1) (by omega) (by omega)
      have a1:(1:Int)≤l.length:=by omega
      have a2:(l.length:Int) - 1<l.length:=by omega
      have a3:((l.length:Int) - 1).toNat=l.length - 1:=by omega
      have a4:l.length - 1<l.length:=by omega
      by_cases c3:l[l.length - 1]=[] <;> simp -implicitDefEqProofs [c1,c2,c2',w,a1,a2,a3,a4,c3,e]
  · simp -implicitDefEqProofs [c1]
theorem ah1 (q:Bool) (l:List Bs) (hl:l.length≤lim) (hs:∀ s,s ∈ l→s.length≤lim) (K:Out→Prop):Call prog 105 ⟨[.agg [.view q 1 (l.map .s)]],[],[]⟩ K=K (.b (heapOk l),[],[]):=by
  refine Zc (f:=105) rfl rfl (by decide) ?_
  unfold lim at hl
  by_cases c1:(30:Int)<l.length
  · have c1':¬ (l.length:Int)≤30:=by omega
    have:heapOk l=false:=by unfold heapOk;simp [c1']
    rw [this]
    simp -implicitDefEqProofs [c1]
  have c1':(l.length:Int)≤30:=by omega
  by_cases c2:l=[]
  · subst c2
    have:heapOk []=true:=rfl
    rw [this]
    simp -implicitDefEqProofs
    rw [aml]
    simp -implicitDefEqProofs
  have hpos:0<l.length:=List.length_pos_iff.2 c2
  have w:=wrap_i64 (n:=(l.length:Int) - 1) (by omega) (by omega)
  have a1:(1:Int)≤l.length:=by omega
  have a2:(l.length:Int) - 1<l.length:=by omega
  have a3:((l.length:Int) - 1).toNat=l.length - 1:=by omega
  have a4:l.length - 1<l.length:=by omega
  by_cases c3:l[l.length - 1]=[]
  · have:heapOk l=false:=by unfold heapOk;simp [c1',c2,a4,c3]
    rw [this]
    simp -implicitDefEqProofs [c1,hpos,w,a1,a2,a3,a4,c3]
  have hok:heapOk l=!(l.any heapBad):=by unfold heapOk;simp [c1',c2,a4,c3]
  rw [hok]
  simp -implicitDefEqProofs [c1,hpos,w,a1,a2,a3,a4,c3]
  refine WL_for (fun i=>⟨sp 43 [(1,.ptr 0 0),(3,.i .i64 l.length),(4,.i .i64 i)],[[.view q 1 (l.map .s)]],[]⟩) l.length (fun i=>l.any heapBad=(l.drop i).any heapBad) _ (by simp -implicitDefEqProofs) (by simp) ?_
  intro i hi hP
  by_cases hlt:i<l.length
  · have hw:=wrap_i64 (n:=(i:Int)+1) (by omega) (by omega)
    rw [hP,afa hlt]
    have e:=fun K=>ae6 l[i] (hs _ (List.getElem_mem _)) K
    by_cases c:l[i]=[]
    · simp -implicitDefEqProofs [hlt,c,heapBad,hw,Next]
    · cases d:isName l[i] <;> simp -implicitDefEqProofs [hlt,c,heapBad,e,d,hw,Next]
  · rw [hP,ahu (by omega)]
    simp -implicitDefEqProofs [hlt]
theorem atj (q:Bool) (l:List Bs) (k:Int) (hl:l.length≤lim) (K:Out→Prop):Call prog 162 ⟨[.agg [.view q 1 (l.map .s)],.i .i64 k],[],[]⟩ K=K (.b (heapUsed l k),[],[]):=by
  refine Zc (f:=162) rfl rfl (by decide) ?_
  have e:=fun K=>ae1 k l.length hl K
  unfold heapUsed
  cases c:inI k 0 (l.length - 1)
  · simp -implicitDefEqProofs [e,c]
  · have b:0≤k∧k≤l.length - 1:=by simpa [inI] using c
    have a1:k<l.length:=by omega
    have a2:k.toNat<l.length:=by omega
    by_cases d:l[k.toNat]=[] <;> simp -implicitDefEqProofs [e,c,b.1,a1,a2,d]
theorem aoc (q:Bool) (l:List Bs) (k:Int) (hl:l.length≤lim) (hs:∀ s,s ∈ l→s.length≤lim) (hok:heapOk l=true) (K:Out→Prop):Call prog 106 ⟨[.agg [.view q 1 (l.map .s)],.i .i64 k],[],[]⟩ K=K (if heapUsed l k=true then (.tup [.s (l.getD k.toNat []),.b true],[],[]) else (.tup [.s [],.b false],[],[])):=by
  refine Zc (f:=106) rfl rfl (by decide) ?_
  have e:=fun K=>ah1 q l hl hs K
  unfold lim at hl
  have w:=wrap_i64 (n:=(l.length:Int) - 1) (by omega) (by omega)
  unfold heapUsed
  cases c:inI k 0 (l.length - 1)
  · simp -implicitDefEqProofs [e,hok,aaa,w,c]
  · have b:0≤k∧k≤l.length - 1:=by simpa [inI] using c
    have a1:k<l.length:=by omega
    have a2:k.toNat<l.length:=by omega
    by_cases d:l[k.toNat]=[] <;> simp -implicitDefEqProofs [e,hok,aaa,w,c,b.1,a1,a2,d]
theorem akv (q:Bool) (l:List Bs) (hl:l.length≤lim) (K:Out→Prop):Call prog 144 ⟨[.agg [.view q 1 (l.map .s)]],[],[]⟩ K=K (.i .i64 (usedSlots l),[],[]):=by
  rw [adc (p:=prog) (f:=144) rfl]
  have:nUsedSlots ⟨[.agg [.view q 1 (l.map .s)]],[],[]⟩=some (.i .i64 (usedSlots l),[],[]):=by
    simp only [nUsedSlots,amg,Option.map_some,List.length_map,if_pos hl]
  rw [this,agk]
theorem al1 (q:Bool) (l:List Bs) (hl:l.length≤lim) (K:Out→Prop):Call prog 108 ⟨[.agg [.view q 1 (l.map .s)]],[],[]⟩ K=K (.i .i64 (usedSlots l),[],[]):=by
  refine Zc (f:=108) rfl rfl (by decide) ?_
  unfold lim at hl
  simp -implicitDefEqProofs
  refine WL_for (fun i=>⟨sp 21 [(1,.ptr 0 0),(3,.i .i64 (usedSlots (l.take i))),(4,.i .i64 i)],[[.view q 1 (l.map .s)]],[]⟩) l.length (fun _=>True) _ (by simp -implicitDefEqProofs [usedSlots]) trivial ?_
  intro i hi _
  by_cases hlt:i<l.length
  · have hw:=wrap_i64 (n:=(i:Int)+1) (by omega) (by omega)
    have hu:usedSlots (l.take (i+1))=usedSlots (l.take i)+if l[i]=[] then 0 else 1:=by
      unfold usedSlots
      rw [← List.take_append_getElem hlt,List.filter_append,List.length_append]
      by_cases c:l[i]=[]
      · simp [c]
      · simp [c]
    have hb:usedSlots (l.take i)≤l.length:=by
      unfold usedSlots
      exact Nat.le_trans (List.length_filter_le _ _) (by rw [List.length_take];omega)
    have hw2:=wrap_i64 (n:=(usedSlots (l.take i):Int)+1) (by omega) (by omega)
    by_cases c:l[i]=[]
    · rw [if_pos c] at hu
      simp -implicitDefEqProofs [hlt,c,hw,hu,Next]
    · rw [if_neg c] at hu
      simp -implicitDefEqProofs [hlt,c,hw,hw2,hu,Next]
  · have:i=l.length:=by omega
    subst this
    simp -implicitDefEqProofs
end Go.VS
end
section
namespace Go.VS
theorem ass (s:Bs) (bad:Bool) (hs:s.length≤lim) (K:Out→Prop):
    Call prog 140 ⟨[.ptr 0 0],[[.s s,.b bad]],[]⟩ K=K (.s (rdNm s bad).1,[[.s (rdNm s bad).2.1,.b (rdNm s bad).2.2]],[]):=by
  refine Zc (f:=140) rfl rfl (by decide) ?_
  have e:=fun K=>aa6 s bad hs K
  unfold rdNm
  have lc:=aal (n:=1) (s:=s) (bad:=bad)
  have h1:=abc (s:=s) (bad:=bad)
  generalize dTake 1 s bad=c at *
  obtain ⟨z,hz⟩:∃ z:Nat,leI c.1=z:=⟨(leI c.1).toNat,by omega⟩
  have e2:=fun K=>ads c.2.1 c.2.2 z (by omega) (by omega) K
  simp -implicitDefEqProofs [e,hz,e2]
theorem aqr {s:Bs} {bad:Bool}:(rdNm s bad).1.length≤255∧(rdNm s bad).2.1.length≤s.length:=by
  unfold rdNm
  have lc:=aal (n:=1) (s:=s) (bad:=bad)
  have h1:=abc (s:=s) (bad:=bad)
  generalize dTake 1 s bad=c at *
  have l1:=agm (n:=(leI c.1).toNat) (s:=c.2.1) (bad:=c.2.2)
  have l2:=aal (n:=(leI c.1).toNat) (s:=c.2.1) (bad:=c.2.2)
  simp only
  omega
theorem ajb (s:Bs) (hs:s.length≤lim) (K:Out→Prop):Call prog 119 ⟨[.s s],[],[]⟩ K=K (heapOut s):=by
  refine Zc (f:=119) rfl rfl (by decide) ?_
  obtain ⟨c,hc⟩:∃ c,c=dTake 1 s false:=⟨_,rfl⟩
  have lc:c.2.1.length≤s.length:=by rw [hc];exact aal
  have e1:=fun K=>aa6 s false hs K
  rw [← hc] at e1
  obtain ⟨n,hn,hn2⟩:∃ n:Nat,leI c.1=n∧n≤255:=by
    have:=abc (s:=s) (bad:=false)
    rw [← hc] at this
    exact ⟨(leI c.1).toNat,by omega,by omega⟩
  have hd:decHeap s=(let x:=rdNms n c.2.1 c.2.2 [];if x.2.2=false∧x.2.1=[]∧heapOk x.1=true then some x.1 else none):=by
    unfold decHeap;rw [← hc];simp only [hn,Int.toNat_natCast]
  simp -implicitDefEqProofs [e1,hn]
  refine WL_st (α:=Nat × Bs × Bool × List Bs) (fun x=>⟨sp 48 [(2,.ptr 0 0),(4,.ptr 1 0),(5,.ptr 2 0),(6,.i .i64 x.1)],[[.nil],[.s x.2.1,.b x.2.2.1],[.sl 0 0 x.2.2.2.length false]],[.row 1 false (x.2.2.2.map .s)]⟩)
    (fun x=>x.1) (fun x=>rdNms n c.2.1 c.2.2 []=rdNms x.1 x.2.1 x.2.2.1 x.2.2.2∧x.2.1.length≤lim∧x.2.2.2.length+x.1≤255∧∀ y,y ∈ x.2.2.2→y.length≤lim) (n,c.2.1,c.2.2,[]) _ (by simp -implicitDefEqProofs) ⟨rfl,by simp only;omega,by simpa using hn2,by simp⟩ ?_
  rintro ⟨k,t,bad,ls⟩ ⟨hP,ht,hm,hy⟩
  simp only at hP ht hm hy
  rw [hP] at hd
  have e4:=fun K=>afk false ls (by unfold lim;omega) hy K
  cases k with
  | zero=>
    simp only [rdNms] at hd
    unfold heapOut
    rw [hd]
    cases bad with
    | true=>simp -implicitDefEqProofs
    | false=>
      by_cases h2:t=[]
      · by_cases h3:heapOk ls=true <;> simp -implicitDefEqProofs [h2,h3,e4]
      · simp -implicitDefEqProofs [h2]
  | succ k=>
    cases bad with
    | true=>
      rw [anx] at hd
      unfold heapOut
      rw [hd]
      have c1:(0:Int)<(k:Int)+1:=by omega
      simp -implicitDefEqProofs [c1]
    | false=>
      have f1:=fun K=>ass t false ht K
      have hr:=aqr (s:=t) (bad:=false)
      obtain ⟨d,hd'⟩:∃ d,d=rdNm t false:=⟨_,rfl⟩
      rw [← hd'] at f1 hr
      have c1:(0:Int)<(k:Int)+1:=by omega
      have c2:ls.length+1≤lim:=by unfold lim;omega
      have w:IntKind.i64.wrap (k:Int)=k:=wrap_i64 (by omega) (by omega)
      simp -implicitDefEqProofs [c1,f1,c2,w]
      refine NextS.mk (k,d.2.1,d.2.2,ls++[d.1]) ⟨?_,?_,?_,?_⟩ (by simp) (by simp)
      · rw [hP,rdNms,hd'];rfl
      · simp only;omega
      · simp;omega
      · intro y h
        rcases List.mem_append.1 h with h | h
        · exact hy y h
        · simp only [List.mem_singleton] at h
          subst h;unfold lim;omega
theorem aiz (s:Bs) (hs:s.length≤lim) (K:Out→Prop):Call prog 75 ⟨[.s s],[],[]⟩ K=K (heapOut s):=by
  refine Zc (f:=75) rfl rfl (by decide) ?_
  obtain ⟨c,hc⟩:∃ c,c=dTake 1 s false:=⟨_,rfl⟩
  have q0:=rAt_le (s:=s) (n:=1) (k:=0) (by omega)
  have r1:s.drop (rAt s 1 0)=c.2.1:=by rw [aaz (bad:=false),hc];rfl
  have e1:=fun K=>aat s 0 false hs (by omega) K
  rw [List.drop_zero,← hc] at e1
  simp only [Int.natCast_zero] at e1
  generalize rAt s 1 0=k0 at *
  obtain ⟨n,hn,hn2⟩:∃ n:Nat,leI c.1=n∧n≤255:=by
    have:=abc (s:=s) (bad:=false)
    rw [← hc] at this
    exact ⟨(leI c.1).toNat,by omega,by omega⟩
  have hd:decHeap s=(let x:=rdNms n c.2.1 c.2.2 [];if x.2.2=false∧x.2.1=[]∧heapOk x.1=true then some x.1 else none):=by
    unfold decHeap;rw [← hc];simp only [hn,Int.toNat_natCast]
  simp -implicitDefEqProofs [e1,hn]
  refine WL_st (α:=Nat × Nat × Bool × List Bs) (fun x=>⟨sp 53 [(0,.s s),(2,.ptr 0 0),(4,.ptr 1 0),(5,.ptr 2 0),(6,.i .i64 x.1)],[[.nil],[.s s,.i .i64 x.2.1,.b x.2.2.1],[.sl 0 0 x.2.2.2.length false]],[.row 1 false (x.2.2.2.map .s)]⟩)
    (fun x=>x.1) (fun x=>rdNms n c.2.1 c.2.2 []=rdNms x.1 (s.drop x.2.1) x.2.2.1 x.2.2.2∧x.2.1≤s.length∧x.2.2.2.length+x.1≤255∧∀ y,y ∈ x.2.2.2→y.length≤lim) (n,k0,c.2.2,[]) _ (by simp -implicitDefEqProofs) ⟨by rw [r1],q0,by simpa using hn2,by simp⟩ ?_
  rintro ⟨k,t,bad,ls⟩ ⟨hP,ht,hm,hy⟩
  simp only at hP ht hm hy
  rw [hP] at hd
  have e4:=fun K=>ah1 false ls (by unfold lim;omega) hy K
  cases k with
  | zero=>
    simp only [rdNms] at hd
    unfold heapOut
    rw [hd]
    cases bad with
    | true=>simp -implicitDefEqProofs
    | false=>
      by_cases h2:t=s.length
      · by_cases h3:heapOk ls=true <;> simp -implicitDefEqProofs [h2,h3,e4]
      · have h4:¬ s.length≤t:=by omega
        have h5:¬ (t:Int)=s.length:=by omega
        simp -implicitDefEqProofs [h2,h4,h5]
  | succ k=>
    cases bad with
    | true=>
      rw [anx] at hd
      unfold heapOut
      rw [hd]
      have c1:(0:Int)<(k:Int)+1:=by omega
      simp -implicitDefEqProofs [c1]
    | false=>
      obtain ⟨c',hc'⟩:∃ c',c'=dTake 1 (s.drop t) false:=⟨_,rfl⟩
      obtain ⟨z,hz,hz2⟩:∃ z:Nat,leI c'.1=z∧z≤255:=by
        have:=abc (s:=s.drop t) (bad:=false)
        rw [← hc'] at this
        exact ⟨(leI c'.1).toNat,by omega,by omega⟩
      have p0:=rAt_le (s:=s) (n:=1) ht
      have p1:=rAt_le (s:=s) (n:=z) p0
      have s1:s.drop (rAt s 1 t)=c'.2.1:=by rw [aaz (bad:=false),hc']
      have s2:s.drop (rAt s z (rAt s 1 t))=(dTake z c'.2.1 c'.2.2).2.1:=by rw [aaz (bad:=c'.2.2),s1]
      have f1:=fun K=>aat s t false hs ht K
      rw [← hc'] at f1
      have f2:=fun K=>afe s _ z c'.2.2 hs p0 (by omega) K
      rw [s1] at f2
      have hrd:rdNm (s.drop t) false=dTake z c'.2.1 c'.2.2:=by
        unfold rdNm;rw [← hc'];simp only [hz,Int.toNat_natCast]
      have hr:=aqr (s:=s.drop t) (bad:=false)
      rw [hrd] at hr
      obtain ⟨d,hd'⟩:∃ d,d=dTake z c'.2.1 c'.2.2:=⟨_,rfl⟩
      rw [← hd'] at f2 hr s2 hrd
      generalize rAt s 1 t=t1 at *
      generalize rAt s z t1=t2 at *
      have c1:(0:Int)<(k:Int)+1:=by omega
      have c2:ls.length+1≤lim:=by unfold lim;omega
      have w:IntKind.i64.wrap (k:Int)=k:=wrap_i64 (by omega) (by omega)
      simp -implicitDefEqProofs [c1,f1,hz,f2,c2,w]
      refine NextS.mk (k,t2,d.2.2,ls++[d.1]) ⟨?_,p1,?_,?_⟩ (by simp) (by simp)
      · rw [hP,rdNms,hrd];simp [s2]
      · simp;omega
      · intro y h
        rcases List.mem_append.1 h with h | h
        · exact hy y h
        · simp only [List.mem_singleton] at h
          subst h;unfold lim;omega
end Go.VS
end
section
namespace Go.VS
def headC (cur:Bs):List Bs→List Bs
  | []=>[cur]
  | a :: as=>(cur++a) :: as
theorem ahm (c:UInt8):∀ s,splitB c s≠[]
  | []=>by simp [splitB]
  | x :: s=>by
    rw [splitB];split
    · simp
    · split <;> simp
theorem afi (c:UInt8):∀ s,(splitB c s).length≤s.length+1
  | []=>by simp [splitB]
  | x :: s=>by
    have:=afi c s
    rw [splitB];split
    · simp;omega
    · split
      · simp
      · rename_i a as h;rw [h] at this;simp at this ⊢;omega
theorem aj8 (c:UInt8):∀ s x,x ∈ splitB c s→x.length≤s.length
  | [],x,h=>by simp [splitB] at h;simp [h]
  | y :: s,x,h=>by
    rw [splitB] at h;split at h
    · rcases List.mem_cons.1 h with h | h
      · simp [h]
      · have:=aj8 c s x h;simp;omega
    · split at h
      · simp at h;simp [h]
      · rename_i a as e
        have ih:=aj8 c s
        rw [e] at ih
        rcases List.mem_cons.1 h with h | h
        · have:=ih a (by simp);simp [h];omega
        · have:=ih x (by simp [h]);simp;omega
def scanP (cur:Bs):Bs→List Bs→Option (List Bs)
  | [],out=>if isName cur=true then some (out++[cur]) else none
  | c :: s,out=>if c=47 then (if isName cur=true then scanP [] s (out++[cur]) else none) else scanP (cur++[c]) s out
theorem amc:∀ (s cur:Bs) (out:List Bs),scanP cur s out=if (headC cur (splitB 47 s)).all isName=true then some (out++headC cur (splitB 47 s)) else none
  | [],cur,out=>by simp [scanP,splitB,headC]
  | c :: s,cur,out=>by
    rw [scanP,splitB]
    by_cases h:c=47
    · have e:headC [] (splitB 47 s)=splitB 47 s:=by
        have:=ahm 47 s
        cases h:splitB 47 s with
        | nil=>exact absurd h this
        | cons a as=>simp [headC]
      rw [if_pos h,if_pos h,amc s [] _,e]
      have:headC cur ([] :: splitB 47 s)=cur :: splitB 47 s:=by simp [headC]
      rw [this]
      cases h1:isName cur <;> simp [h1]
    · simp only [if_neg h,amc s]
      have:headC (cur++[c]) (splitB 47 s)=headC cur (match splitB 47 s with | []=>[[c]] | a :: as=>(c :: a) :: as):=by
        have:=ahm 47 s
        cases h:splitB 47 s with
        | nil=>exact absurd h this
        | cons a as=>simp [headC]
      rw [this]
      cases h:splitB 47 s <;> rfl
theorem an5 (s:Bs):scanP [] s []=if (splitB 47 s).all isName=true then some (splitB 47 s) else none:=by
  rw [amc]
  have e:headC [] (splitB 47 s)=splitB 47 s:=by
    have:=ahm 47 s
    cases h:splitB 47 s with
    | nil=>exact absurd h this
    | cons a as=>simp [headC]
  rw [e];simp
def pathOf (s:Bs):Option (List Bs):=
  if s=[47] then some [] else match s with
  | []=>none
  | c :: t=>if c=47 then (if (splitB 47 t).all isName=true then (if (splitB 47 t).length≤6 then some (splitB 47 t) else none) else none) else none
def pathOut (e:Bool) (s:Bs):Out:=match pathOf s with
  | none=>(.tup [.nil,.b false],[],[])
  | some l=>if l=[]∧e=true then (.tup [.nil,.b true],[],[]) else (.tup [.sl 0 0 l.length false,.b true],[],[.row 1 false (l.map .s)])
theorem aht (l:Bs) (c:UInt8) (h:(splitB c l).length≤lim) (h2:l.length≤lim) (K:Out→Prop):Call prog 85 ⟨[.s l,.s [c]],[],[]⟩ K=K (.sl 0 0 (splitB c l).length false,[],[.row 1 false ((splitB c l).map V.s)]):=by
  rw [adc (p:=prog) (f:=85) rfl]
  have:nSplit ⟨[.s l,.s [c]],[],[]⟩=some (.sl 0 0 (splitB c l).length false,[],[.row 1 false ((splitB c l).map V.s)]):=by
    simp only [nSplit,if_pos (And.intro h h2)]
  simp [this]
def cutP:Bs→Bs × Bool
  | []=>([],false)
  | c :: t=>if c=47 then (t,true) else (c :: t,false)
theorem akc (s:Bs) (hs:s.length≤lim) (K:Out→Prop):Call prog 84 ⟨[.s s,.s [47]],[],[]⟩ K=K (.tup [.s (cutP s).1,.b (cutP s).2],[],[]):=by
  have e1:∀ K,Call prog 135 ⟨[.s s,.s [47]],[],[]⟩ K=K (.b (cutP s).2,[],[]):=by
    intro K
    refine Zc (f:=135) rfl rfl (by decide) ?_
    cases s with
    | nil=>simp -implicitDefEqProofs [cutP]
    | cons c t=>
      have c1:(1:Int)≤(t.length:Int)+1:=by omega
      by_cases h:c=47 <;> simp -implicitDefEqProofs [cutP,c1,h]
  have e2:∀ K,Call prog 115 ⟨[.s s,.s [47]],[],[]⟩ K=K (.tup [.s (cutP s).1,.b (cutP s).2],[],[]):=by
    intro K
    refine Zc (f:=115) rfl rfl (by decide) ?_
    cases s with
    | nil=>simp only [cutP] at e1 ⊢;simp -implicitDefEqProofs [e1]
    | cons c t=>
      have c1:(1:Int)≤(t.length:Int)+1:=by omega
      by_cases h:c=47
      · subst h;simp only [cutP,if_true] at e1 ⊢;simp -implicitDefEqProofs [e1,c1]
      · simp only [cutP,if_neg h] at e1 ⊢;simp -implicitDefEqProofs [e1]
  refine Zc (f:=84) rfl rfl (by decide) ?_
  simp -implicitDefEqProofs [e2]
theorem aud (s:Bs) (hs:s.length≤lim) (K:Out→Prop):Call prog 87 ⟨[.s s],[],[]⟩ K=K (.b (!isName s),[],[]):=by
  refine Zc (f:=87) rfl rfl (by decide) ?_
  simp -implicitDefEqProofs [agf s hs]
theorem akr (s:Bs) (hs:s.length≤lim) (K:Out→Prop):Call prog 54 ⟨[.s s],[],[]⟩ K=K (pathOut true s):=by
  refine Zc (f:=54) rfl rfl (by decide) ?_
  by_cases h0:s=[47]
  · subst h0;simp -implicitDefEqProofs [pathOut,pathOf]
  have e1:=fun K=>akc s hs K
  cases s with
  | nil=>
    have e2:=fun K=>aht [] 47 (by unfold lim;simp [splitB]) (Nat.zero_le _) K
    simp only [cutP] at e1
    simp -implicitDefEqProofs [pathOut,pathOf,e1,e2]
  | cons c t=>
    have hl:t.length+1≤lim:=by simpa using hs
    by_cases h:c=47
    · subst h
      simp only [cutP,if_true] at e1
      have e2:=fun K=>aht t 47 (Nat.le_trans (afi 47 t) hl) (by omega) K
      have l1:=afi 47 t
      have e3:=fun K=>cfS (fun b=>!isName b) 87 [] false (splitB 47 t) (by omega) rfl (fun x hx=>aud x (by have:=aj8 47 t x hx;omega)) K
      have e4:(splitB 47 t).any (fun b=>!isName b)=!(splitB 47 t).all isName:=List.not_all_eq_any_not.symm
      rw [e4] at e3
      have ne:=ahm 47 t
      have h0':¬ t=[]:=by simpa using h0
      have hp:pathOf (47 :: t)=(if (splitB 47 t).all isName=true then (if (splitB 47 t).length≤6 then some (splitB 47 t) else none) else none):=by
        unfold pathOf;rw [if_neg h0];rfl
      unfold pathOut
      rw [hp]
      clear hp e4 h0
      generalize splitB 47 t=l at *
      by_cases h2:l.length≤6
      · have h2':¬ (6:Int)<l.length:=by omega
        cases h3:l.all isName <;> rw [h3] at e3 <;> simp only [if_pos h2,Bool.false_eq_true,if_false,if_true,Bool.not_true,Bool.not_false] at e3 ⊢ <;> simp -implicitDefEqProofs [h0',h2',e1,e2,e3,ne]
      · have h2':(6:Int)<l.length:=by omega
        simp only [if_neg h2,ite_self]
        simp -implicitDefEqProofs [h0',h2',e1,e2,ne]
    · have e2:=fun K=>aht (c :: t) 47 (by
        rw [splitB,if_neg h]
        have:=afi 47 t
        split
        · unfold lim;simp
        · rename_i a as e;rw [e] at this;simp at this ⊢;omega) hs K
      simp only [cutP,if_neg h] at e1
      simp -implicitDefEqProofs [pathOut,pathOf,e1,e2,h0,h]
theorem afl (s:Bs) (hs:s.length≤lim) (K:Out→Prop):Call prog 22 ⟨[.s s],[],[]⟩ K=K (.b (pathOf s).isSome,[],[]):=by
  refine Zc (f:=22) rfl rfl (by decide) ?_
  have e:=fun K=>akr s hs K
  unfold pathOut at e
  cases h:pathOf s with
  | none=>simp only [h] at e;simp -implicitDefEqProofs [e]
  | some l=>simp only [h] at e;by_cases h2:l=[] <;> simp [h2] at e <;> simp -implicitDefEqProofs [e]
end Go.VS
end
section
namespace Go.VS
def left (s:Bs) (i k:Nat) (out:List Bs):Option (List Bs):=if i≤s.length then scanP ((s.take i).drop k) (s.drop i) out else some out
theorem aqg {s:Bs} {i k:Nat} {out:List Bs} (h:¬ i≤s.length):left s i k out=some out:=if_neg h
theorem at1 {s:Bs} {k:Nat} {out:List Bs}:left s s.length k out=if isName (s.drop k)=true then some (out++[s.drop k]) else none:=by
  unfold left;rw [if_pos (Nat.le_refl _),List.take_length,List.drop_length];rfl
theorem asi {s:Bs} {i k:Nat} {out:List Bs} (h:i<s.length) (hc:s[i]=47):left s i k out=if isName ((s.take i).drop k)=true then left s (i+1) (i+1) (out++[(s.take i).drop k]) else none:=by
  rw [left,if_pos (Nat.le_of_lt h),List.drop_eq_getElem_cons h,scanP,if_pos hc]
  unfold left;rw [if_pos (show i+1≤s.length from h),List.drop_eq_nil_of_le (as:=s.take (i+1)) (by rw [List.length_take];omega)]
theorem asj {s:Bs} {i k:Nat} {out:List Bs} (h:i<s.length) (hk:k≤i) (hc:¬ s[i]=47):left s i k out=left s (i+1) k out:=by
  unfold left;rw [if_pos (by omega),if_pos (by omega),List.drop_eq_getElem_cons h,scanP,if_neg hc]
  congr 1
  rw [← List.take_append_getElem h,List.drop_append_of_le_length (by rw [List.length_take];omega)]
theorem u8ne {c d:UInt8} (h:¬ c=d):¬ (c.toNat:Int)=d.toNat:=fun e=>h (UInt8.toNat_inj.1 (by omega))
set_option maxHeartbeats 1000000 in
theorem al2 (s:Bs) (hs:s.length≤lim) (K:Out→Prop):Call prog 15 ⟨[.s s],[],[]⟩ K=K (pathOut false s):=by
  refine Zc (f:=15) rfl rfl (by decide) ?_
  by_cases h0:s=[47]
  · subst h0;simp -implicitDefEqProofs [pathOut,pathOf]
  cases hh:s with
  | nil=>simp -implicitDefEqProofs [pathOut,pathOf]
  | cons c t=>
    by_cases h:c=47
    · have hl:s.length=t.length+1:=by rw [hh];rfl
      have hp:pathOf s=match left s 1 1 [] with | some l=>if l.length≤6 then some l else none | none=>none:=by
        unfold pathOf left
        rw [if_neg h0,if_pos (by omega),hh]
        simp only [if_pos h,List.take_succ_cons,List.take_zero,List.drop_succ_cons,List.drop_zero,List.drop_nil]
        rw [an5]
        by_cases hq:(splitB 47 t).all isName=true
        · rw [if_pos hq,if_pos hq]
        · rw [if_neg hq,if_neg hq]
      have hz:s[0]?=some 47:=by rw [hh,h];rfl
      have hz':¬ s.length=0:=by omega
      rw [← hh]
      clear hh
      unfold pathOut
      rw [hp]
      clear hp
      unfold lim at hs
      have z1:s≠[]:=by intro e;rw [e] at hl;simp at hl
      have z2:∀ hx:0<s.length,s[0]=47:=by
        intro hx
        have:=List.getElem?_eq_getElem hx
        rw [this] at hz
        exact Option.some.inj hz
      have z3:0<s.length:=by omega
      have z4:=z2 z3
      simp -implicitDefEqProofs [h0,z1,z3,z4]
      refine WL_st (α:=Nat × Nat × List Bs) (fun x=>⟨sp 53 [(0,.s s),(4,.sl 0 0 x.2.2.length false),(5,.i .i64 x.2.1),(6,.i .i64 x.1)],[],[.row 1 false (x.2.2.map .s)]⟩)
        (fun x=>s.length+1 - x.1) (fun x=>left s 1 1 []=left s x.1 x.2.1 x.2.2∧x.1≤s.length+1∧x.2.1≤x.1∧x.2.2.length+1≤x.2.1) (1,1,[]) _ (by simp -implicitDefEqProofs) ⟨rfl,by simp only;omega,by simp,by simp⟩ ?_
      rintro ⟨i,k,out⟩ ⟨hP,hi,hk,ho⟩
      simp only at hP hi hk ho
      by_cases hlt:i≤s.length
      · have w:IntKind.i64.wrap ((i:Int)+1)=(i+1:Nat):=wrap_i64 (by omega) (by omega)
        have c1:(i:Int)≤s.length:=by omega
        have c3:(k:Int)≤i:=by omega
        have f1:=fun K=>ae6 ((s.take i).drop k) (by rw [List.length_drop,List.length_take];unfold lim;omega) K
        by_cases hl2:i<s.length
        · by_cases hc:s[i]=47
          · have c2:(s[i].toNat:Int)=47:=by rw [hc];rfl
            rw [asi hl2 hc] at hP
            cases d:isName ((s.take i).drop k) with
            | false=>
              rw [hP,d];rw [d] at f1
              simp -implicitDefEqProofs [hlt,hl2,hc,c1,c2,c3,w,f1]
            | true=>
              rw [d] at f1 hP
              have c4:out.length+1≤lim:=by unfold lim;omega
              simp -implicitDefEqProofs [hlt,hl2,hc,c1,c2,c3,c4,w,f1]
              refine NextS.mk (i+1,i+1,out++[(s.take i).drop k]) ⟨by rw [hP];rfl,by simp only;omega,by simp only;omega,by simp;omega⟩ (by simp only;omega) (by simp)
          · have c2:¬ (s[i].toNat:Int)=47:=u8ne hc
            rw [asj hl2 hk hc] at hP
            simp -implicitDefEqProofs [hlt,hl2,hc,c1,c2,c3,w]
            refine NextS.mk (i+1,k,out) ⟨hP,by simp only;omega,by simp only;omega,ho⟩ (by simp only;omega) (by simp)
        · have hi':i=s.length:=by omega
          subst hi'
          rw [at1] at hP
          rw [List.take_length] at f1
          cases d:isName (s.drop k) with
          | false=>
            rw [hP,d];rw [d] at f1
            simp -implicitDefEqProofs [c1,c3,w,f1]
          | true=>
            rw [d] at f1 hP
            have c4:out.length+1≤lim:=by unfold lim;omega
            simp -implicitDefEqProofs [c1,c3,c4,w,f1]
            refine NextS.mk (s.length+1,s.length+1,out++[s.drop k]) ⟨by rw [hP,aqg (by omega)];rfl,by simp only;omega,by simp only;omega,by simp;omega⟩ (by simp only;omega) (by simp)
      · have c1:¬ (i:Int)≤s.length:=by omega
        rw [hP,aqg hlt]
        by_cases c2:out.length≤6
        · have c2':¬ (6:Int)<out.length:=by omega
          simp -implicitDefEqProofs [hlt,c1,c2,c2']
        · have c2':(6:Int)<out.length:=by omega
          simp -implicitDefEqProofs [hlt,c1,c2,c2']
    · have c1:(0:Int)<(t.length:Int)+1:=by omega
      have hp:pathOut false (c :: t)=(.tup [.nil,.b false],[],[]):=by
        unfold pathOut pathOf;rw [hh] at h0;simp only [if_neg h0,if_neg h]
      rw [hp]
      rw [hh] at h0
      have c2:¬ (c.toNat:Int)=47:=u8ne h
      simp -implicitDefEqProofs [h0,h,c1,c2]
theorem ae7 (s:Bs) (hs:s.length≤lim) (K:Out→Prop):Call prog 132 ⟨[.s s],[],[]⟩ K=K (.b (pathOf s).isSome,[],[]):=by
  refine Zc (f:=132) rfl rfl (by decide) ?_
  have e:=fun K=>al2 s hs K
  unfold pathOut at e
  cases h:pathOf s with
  | none=>simp only [h] at e;simp -implicitDefEqProofs [e]
  | some l=>simp only [h] at e;simp at e;simp -implicitDefEqProofs [e]
end Go.VS
end
section
namespace Go.VS
structure Lk where
  name:Bs
  block:Int
  target:Bs
  deriving DecidableEq,Inhabited
def lkV (l:Lk):V:=.agg [.s l.name,.i .i64 l.block,.s l.target]
def Lk.ok (l:Lk):Bool:=isName l.name && (if l.target=[] then inI l.block 1 255 else decide (l.block=0) && (pathOf l.target).isSome)
theorem apl:∀ a b:Bs,(Op.bytesLess a b || decide (a=b))=!Op.bytesLess b a
  | [],[]=>rfl
  | [],b :: bs=>rfl
  | a :: as,[]=>rfl
  | a :: as,b :: bs=>by
    have ih:=apl as bs
    simp only [Op.bytesLess]
    rcases Nat.lt_trichotomy a.toNat b.toNat with h | h | h
    · have h1:a<b:=h
      have h2:¬ b<a:=fun x=>by have:b.toNat<a.toNat:=x;omega
      have h3:¬ a=b:=fun e=>by rw [e] at h;omega
      have h4:¬ b=a:=fun e=>h3 e.symm
      simp [h1,h2,h3,h4]
    · have e:=UInt8.toNat_inj.1 h
      subst e
      have h1:¬ a<a:=fun x=>by have:a.toNat<a.toNat:=x;omega
      simp only [h1,if_false,List.cons.injEq,true_and]
      simpa using ih
    · have h1:b<a:=h
      have h2:¬ a<b:=fun x=>by have:a.toNat<b.toNat:=x;omega
      have h3:¬ a=b:=fun e=>by rw [e] at h;omega
      have h4:¬ b=a:=fun e=>h3 e.symm
      simp [h1,h2,h3,h4]
def nmLe (a b:Bs):Bool:=!Op.bytesLess b a
def lksBad (l:List Lk) (i:Nat):Bool:=if h:i<l.length then !l[i].ok || (decide (0<i) && nmLe l[i].name (l[i - 1]'(by omega)).name) else true
def lksOk (l:List Lk):Bool:=!(anyFrom (lksBad l) 0 l.length) && decide ((l.length:Int)≤12)
theorem ao1 (l:Lk) (h1:l.name.length≤lim) (h2:l.target.length≤lim) (K:Out→Prop):Call prog 163 ⟨[lkV l],[],[]⟩ K=K (.b l.ok,[],[]):=by
  refine Zc (f:=163) rfl rfl (by decide) ?_
  have e1:=fun K=>agf l.name h1 K
  have e2:=fun K=>afl l.target h2 K
  unfold Lk.ok
  cases d1:isName l.name
  · rw [d1] at e1;simp -implicitDefEqProofs [lkV,e1]
  rw [d1] at e1
  by_cases d2:l.target=[]
  · cases d3:inI l.block 1 255 <;> simp -implicitDefEqProofs [lkV,e1,d2,d3,aab]
  by_cases d3:l.block=0
  · cases d4:(pathOf l.target).isSome <;> rw [d4] at e2 <;> simp -implicitDefEqProofs [lkV,e1,d2,d3,e2]
  · simp -implicitDefEqProofs [lkV,e1,d2,d3]
theorem aem (q:Bool) (l:List Lk) (hl:l.length≤lim) (h:∀ x,x ∈ l→x.name.length≤lim∧x.target.length≤lim) (K:Out→Prop):
    Call prog 143 ⟨[.view q 3 (l.map lkV)],[],[]⟩ K=K (.b (lksOk l),[],[]):=by
  refine Zc (f:=143) rfl rfl (by decide) ?_
  unfold lim at hl
  unfold lksOk
  simp -implicitDefEqProofs
  refine WL_for (fun i=>⟨sp 34 [(0,.view q 3 (l.map lkV)),(5,.view q 3 (l.map lkV)),(6,.i .i64 l.length),(7,.i .i64 i)],[],[]⟩) l.length (fun i=>anyFrom (lksBad l) 0 l.length=anyFrom (lksBad l) i (l.length - i)) _ (by simp -implicitDefEqProofs) (by simp) ?_
  intro i hi hP
  by_cases hlt:i<l.length
  · have hw:=wrap_i64 (n:=(i:Int)+1) (by omega) (by omega)
    rw [hP,aa5 hlt]
    have hx:=h l[i] (List.getElem_mem hlt)
    have e1:=fun K=>ao1 l[i] hx.1 hx.2 K
    have hb:lksBad l i=(!l[i].ok || (decide (0<i) && nmLe l[i].name (l[i - 1]'(by omega)).name)):=by unfold lksBad;rw [dif_pos hlt]
    rw [hb]
    simp only [lkV] at e1
    cases d1:l[i].ok
    · rw [d1] at e1
      simp -implicitDefEqProofs [lkV,hlt,hw,e1,Next]
    rw [d1] at e1
    by_cases d2:0<i
    · have hw2:IntKind.i64.wrap ((i:Int) - 1)=(i - 1:Nat):=by rw [wrap_i64 (by omega) (by omega)];omega
      have hlt2:i - 1<l.length:=by omega
      unfold nmLe
      cases d3:Op.bytesLess (l[i - 1]'(by omega)).name l[i].name <;> simp -implicitDefEqProofs [lkV,hlt,hw,e1,d2,d3,hw2,hlt2,apl,Next]
    · have:i=0:=by omega
      subst this
      simp -implicitDefEqProofs [lkV,hlt,hw,e1,Next]
  · rw [hP,abw (by omega)]
    by_cases h2:(l.length:Int)≤12 <;> simp -implicitDefEqProofs [hlt,h2]
set_option maxHeartbeats 1000000 in
theorem ara (q:Bool) (l:List Lk) (hl:l.length≤lim) (h:∀ x,x ∈ l→x.name.length≤lim∧x.target.length≤lim) (K:Out→Prop):
    Call prog 107 ⟨[.view q 3 (l.map lkV)],[],[]⟩ K=K (.b (lksOk l),[],[]):=by
  refine Zc (f:=107) rfl rfl (by decide) ?_
  unfold lim at hl
  unfold lksOk
  simp -implicitDefEqProofs
  refine WL_for (fun i=>⟨sp 62 [(0,.view q 3 (l.map lkV)),(3,.i .i64 i)],[],[]⟩) l.length (fun i=>anyFrom (lksBad l) 0 l.length=anyFrom (lksBad l) i (l.length - i)) _ (by simp -implicitDefEqProofs) (by simp) ?_
  intro i hi hP
  by_cases hlt:i<l.length
  · have hw:=wrap_i64 (n:=(i:Int)+1) (by omega) (by omega)
    rw [hP,aa5 hlt]
    have hx:=h l[i] (List.getElem_mem hlt)
    have e1:=fun K=>ae6 l[i].name hx.1 K
    have e2:=fun K=>ae7 l[i].target hx.2 K
    have hb:lksBad l i=(!l[i].ok || (decide (0<i) && nmLe l[i].name (l[i - 1]'(by omega)).name)):=by unfold lksBad;rw [dif_pos hlt]
    rw [hb]
    unfold Lk.ok
    cases d1:isName l[i].name
    · rw [d1] at e1
      simp -implicitDefEqProofs [lkV,hlt,hw,e1,Next]
    rw [d1] at e1
    by_cases d2:0<i
    · have hw2:IntKind.i64.wrap ((i:Int) - 1)=(i - 1:Nat):=by rw [wrap_i64 (by omega) (by omega)];omega
      have hlt2:i - 1<l.length:=by omega
      unfold nmLe
      cases d3:Op.bytesLess (l[i - 1]'(by omega)).name l[i].name
      · simp -implicitDefEqProofs [lkV,hlt,hw,e1,d2,d3,hw2,hlt2,Next]
      · by_cases d5:l[i].target=[]
        · cases d6:inI l[i].block 1 255 <;> simp -implicitDefEqProofs [lkV,hlt,hw,e1,d2,d3,d5,d6,aaa,hw2,hlt2,Next]
        · by_cases d6:l[i].block=0
          · cases d7:(pathOf l[i].target).isSome <;> rw [d7] at e2 <;> simp -implicitDefEqProofs [lkV,hlt,hw,e1,e2,d2,d3,d5,d6,hw2,hlt2,Next]
          · simp -implicitDefEqProofs [lkV,hlt,hw,e1,e2,d2,d3,d5,d6,hw2,hlt2,Next]
    · have:i=0:=by omega
      subst this
      by_cases d5:l[0].target=[]
      · cases d6:inI l[0].block 1 255 <;> simp -implicitDefEqProofs [lkV,hlt,hw,e1,d5,d6,aaa,Next]
      · by_cases d6:l[0].block=0
        · cases d7:(pathOf l[0].target).isSome <;> rw [d7] at e2 <;> simp -implicitDefEqProofs [lkV,hlt,hw,e1,e2,d5,d6,Next]
        · simp -implicitDefEqProofs [lkV,hlt,hw,e1,e2,d5,d6,Next]
  · rw [hP,abw (by omega)]
    by_cases h2:(l.length:Int)≤12 <;> simp -implicitDefEqProofs [hlt,h2]
end Go.VS
end
section
namespace Go.VS
def lkI (h:List Bs) (s:Bs) (bad:Bool):Lk × Bs × Bool:=
  let k:=dTake 1 s bad
  let n:=dTake 1 k.2.1 k.2.2
  if n.2.2=true∨heapUsed h (leI k.1)=false then (⟨[],0,[]⟩,n.2.1,true)
  else if leI n.1=0 then let b:=dTake 2 n.2.1 n.2.2;(⟨h.getD (leI k.1).toNat [],leI b.1,[]⟩,b.2.1,b.2.2)
  else let t:=dTake (leI n.1).toNat n.2.1 n.2.2;(⟨h.getD (leI k.1).toNat [],0,t.1⟩,t.2.1,t.2.2)
def rdLks (h:List Bs):Nat→Bs→Bool→List Lk→Option (List Lk)
  | n,s,bad,acc=>if bad=true then none else if s=[] then some acc else match n with
    | 0=>none
    | n+1=>let d:=lkI h s false;rdLks h n d.2.1 d.2.2 (acc++[d.1])
def decLinks (h:List Bs) (s:Bs):Option (List Lk):=
  if heapOk h=true then match rdLks h s.length s false [] with
    | some l=>if lksOk l=true∧usedSlots h=l.length then some l else none
    | none=>none
  else none
def linksOut (h:List Bs) (s:Bs):Out:=match decLinks h s with
  | none=>(.tup [.nil,.b false],[],[])
  | some l=>(.tup [.sl 0 0 l.length false,.b true],[],[.row 3 false (l.map lkV)])
theorem ajs {l:List Bs} {k:Int} (h:heapUsed l k=true):0≤k∧k.toNat<l.length:=by
  unfold heapUsed inI at h
  simp only [Bool.and_eq_true,decide_eq_true_eq] at h
  omega
set_option maxHeartbeats 1000000 in
theorem ask (q:Bool) (h:List Bs) (s:Bs) (bad:Bool) (hl:h.length≤lim) (hy:∀ y,y ∈ h→y.length≤lim) (hok:heapOk h=true) (hs:s.length≤lim) (K:Out→Prop):
    Call prog 142 ⟨[.ptr 0 0,.agg [.view q 1 (h.map .s)]],[[.s s,.b bad]],[]⟩ K=K (lkV (lkI h s bad).1,[[.s (lkI h s bad).2.1,.b (lkI h s bad).2.2]],[]):=by
  refine Zc (f:=142) rfl rfl (by decide) ?_
  obtain ⟨a,ha⟩:∃ a,a=dTake 1 s bad:=⟨_,rfl⟩
  obtain ⟨b,hb⟩:∃ b,b=dTake 1 a.2.1 a.2.2:=⟨_,rfl⟩
  have la:a.2.1.length≤s.length:=by rw [ha];exact aal
  have lb:b.2.1.length≤a.2.1.length:=by rw [hb];exact aal
  have e1:=fun K=>aa6 s bad hs K
  rw [← ha] at e1
  have e2:=fun K=>aa6 a.2.1 a.2.2 (by omega) K
  rw [← hb] at e2
  have hd:lkI h s bad=(if b.2.2=true∨heapUsed h (leI a.1)=false then (⟨[],0,[]⟩,b.2.1,true)
      else if leI b.1=0 then let c:=dTake 2 b.2.1 b.2.2;(⟨h.getD (leI a.1).toNat [],leI c.1,[]⟩,c.2.1,c.2.2)
      else let t:=dTake (leI b.1).toNat b.2.1 b.2.2;(⟨h.getD (leI a.1).toNat [],0,t.1⟩,t.2.1,t.2.2)):=by
    unfold lkI;rw [← ha];simp only [← hb]
  obtain ⟨z,hz,hz2⟩:∃ z:Nat,leI b.1=z∧z≤255:=by
    have:=abc (s:=a.2.1) (bad:=a.2.2)
    rw [← hb] at this
    exact ⟨(leI b.1).toNat,by omega,by omega⟩
  rw [hd,hz]
  have e3:=fun K=>abi b.2.1 b.2.2 2 (by omega) (by omega) K
  have e4:=fun K=>ads b.2.1 b.2.2 z (by omega) (by omega) K
  have e5:=fun K=>atj q h (leI a.1) hl K
  simp only [Int.cast_ofNat_Int] at e3
  rw [Int.toNat_natCast]
  cases c1:b.2.2 with
  | true=>
    simp -implicitDefEqProofs [e1,e2,c1,lkV]
  | false=>
    cases c2:heapUsed h (leI a.1) with
    | false=>
      rw [c2] at e5
      simp -implicitDefEqProofs [e1,e2,c1,e5,lkV]
    | true=>
      rw [c2] at e5
      rw [c1] at e3 e4
      obtain ⟨u,hu⟩:∃ u:Nat,leI a.1=u:=⟨(leI a.1).toNat,by have:=ajs c2;omega⟩
      have hlt:u<h.length:=by have:=ajs c2;omega
      rw [hu] at e5 ⊢
      rw [Int.toNat_natCast]
      by_cases c3:z=0
      · simp -implicitDefEqProofs [e1,e2,hu,hz,c1,c3,e5,e3,lkV,hlt]
      · simp -implicitDefEqProofs [e1,e2,hu,hz,c1,c3,e5,e4,lkV,hlt]
end Go.VS
end
section
namespace Go.VS
theorem ae5 {h:List Bs} {n:Nat} {s:Bs} {acc:List Lk}:rdLks h n s true acc=none:=by unfold rdLks;rfl
theorem anu {h:List Bs} {n:Nat} {s:Bs} {acc:List Lk} (e:s=[]):rdLks h n s false acc=some acc:=by unfold rdLks;rw [if_neg (by decide),if_pos e]
theorem anv {h:List Bs} {n:Nat} {s:Bs} {acc:List Lk} (e:¬ s=[]):rdLks h (n+1) s false acc=rdLks h n (lkI h s false).2.1 (lkI h s false).2.2 (acc++[(lkI h s false).1]):=by
  conv=>lhs;unfold rdLks
  rw [if_neg (by decide),if_neg e]
theorem ap5 {l:List Bs} {k n:Nat} (hy:∀ y,y ∈ l→y.length≤n):(l.getD k []).length≤n:=by
  rw [List.getD_eq_getElem?_getD]
  cases h:l[k]? with
  | none=>simp
  | some y=>simpa using hy y (List.mem_of_getElem? h)
theorem art {s:Bs} {bad:Bool} (h:s≠[]):(dTake 1 s bad).2.1.length+1≤s.length:=by
  unfold dTake
  cases s with
  | nil=>exact absurd rfl h
  | cons a s=>simp
theorem au1 {h:List Bs} {s:Bs} {bad:Bool} (hy:∀ y,y ∈ h→y.length≤lim):
    (lkI h s bad).1.name.length≤lim∧(lkI h s bad).1.target.length≤lim∧(s≠[]→(lkI h s bad).2.1.length+1≤s.length)∧(lkI h s bad).2.1.length≤s.length:=by
  unfold lkI
  simp only
  have l1:=aal (n:=1) (s:=s) (bad:=bad)
  have l1':=fun e=>art (s:=s) (bad:=bad) e
  generalize dTake 1 s bad=a at *
  have l2:=aal (n:=1) (s:=a.2.1) (bad:=a.2.2)
  have l2':=abc (s:=a.2.1) (bad:=a.2.2)
  generalize dTake 1 a.2.1 a.2.2=b at *
  have hg:=ap5 (k:=(leI a.1).toNat) hy
  split
  · simp only [List.length_nil];unfold lim
    exact ⟨by omega,by omega,fun e=>by have:=l1' e;omega,by omega⟩
  · split
    · have l3:=aal (n:=2) (s:=b.2.1) (bad:=b.2.2)
      simp only [List.length_nil]
      exact ⟨hg,by unfold lim;omega,fun e=>by have:=l1' e;omega,by omega⟩
    · have l3:=aal (n:=(leI b.1).toNat) (s:=b.2.1) (bad:=b.2.2)
      have l4:=agm (n:=(leI b.1).toNat) (s:=b.2.1) (bad:=b.2.2)
      simp only
      refine ⟨hg,by unfold lim;omega,fun e=>by have:=l1' e;omega,by omega⟩
set_option maxHeartbeats 1000000 in
theorem aiw (q:Bool) (h:List Bs) (s:Bs) (hl:h.length≤lim) (hy:∀ y,y ∈ h→y.length≤lim) (hs:s.length≤lim) (K:Out→Prop):
    Call prog 120 ⟨[.s s,.agg [.view q 1 (h.map .s)]],[],[]⟩ K=K (linksOut h s):=by
  refine Zc (f:=120) rfl rfl (by decide) ?_
  have e1:=fun K=>afk q h hl hy K
  unfold linksOut decLinks
  cases hok:heapOk h with
  | false=>rw [hok] at e1;simp -implicitDefEqProofs [e1]
  | true=>
    rw [hok] at e1
    have e2:=fun K=>akv q h hl K
    simp -implicitDefEqProofs [e1]
    refine WL_st (α:=Nat × Bs × Bool × List Lk) (fun x=>⟨sp 49 [(3,.ptr 0 0),(6,.ptr 1 0),(7,.sl 0 0 x.2.2.2.length false)],[[.view q 1 (h.map .s)],[.s x.2.1,.b x.2.2.1]],[.row 3 false (x.2.2.2.map lkV)]⟩)
      (fun x=>x.1) (fun x=>rdLks h s.length s false []=rdLks h x.1 x.2.1 x.2.2.1 x.2.2.2∧x.2.1.length≤x.1∧x.2.2.2.length+x.1≤s.length∧∀ y,y ∈ x.2.2.2→y.name.length≤lim∧y.target.length≤lim) (s.length,s,false,[]) _ (by simp -implicitDefEqProofs) ⟨rfl,by simp,by simp,by simp⟩ ?_
    rintro ⟨n,t,bad,ls⟩ ⟨hP,ht,hm,hz⟩
    simp only at hP ht hm hz
    have e3:=fun K=>aem false ls (by omega) hz K
    have e4:=fun K=>ask q h t false hl hy hok (by omega) K
    have hc:=au1 (s:=t) (bad:=false) hy
    cases bad with
    | true=>
      rw [ae5] at hP
      rw [hP]
      by_cases h0:t=[] <;> simp -implicitDefEqProofs [h0]
    | false=>
      by_cases h0:t=[]
      · rw [anu h0] at hP
        rw [hP]
        cases d1:lksOk ls with
        | false=>rw [d1] at e3;simp -implicitDefEqProofs [h0,e3,d1]
        | true=>
          rw [d1] at e3
          by_cases d2:usedSlots h=ls.length
          · simp -implicitDefEqProofs [h0,e3,e2,d1,d2]
          · have d2':¬ (usedSlots h:Int)=ls.length:=by omega
            simp -implicitDefEqProofs [h0,e3,e2,d1,d2,d2']
      · have hc3:=hc.2.2.1 h0
        cases n with
        | zero=>have:=List.length_pos_iff.2 h0;omega
        | succ n=>
          rw [anv h0] at hP
          have c2:ls.length+1≤lim:=by omega
          have hlk:lkV (lkI h t false).1=.agg [.s (lkI h t false).1.name,.i .i64 (lkI h t false).1.block,.s (lkI h t false).1.target]:=rfl
          simp -implicitDefEqProofs [h0,e4,c2,hlk]
          refine NextS.mk (n,(lkI h t false).2.1,(lkI h t false).2.2,ls++[(lkI h t false).1]) ⟨hP,by simp only;omega,by simp;omega,?_⟩ (by simp) (by simp [lkV])
          intro y hy'
          rcases List.mem_append.1 hy' with hy' | hy'
          · exact hz y hy'
          · simp only [List.mem_singleton] at hy'
            subst hy'
            exact ⟨hc.1,hc.2.1⟩
end Go.VS
end
section
namespace Go.VS
theorem rAt_ge {s:Bs} {n k:Nat}:k≤rAt s n k:=by unfold rAt;split <;> omega
theorem aq0 {n:Nat} {s:Bs}:(dTake n s true).2.2=true:=by unfold dTake;split <;> rfl
theorem aq1 {s:Bs} {bad:Bool}:dTake 0 s bad=([],s,bad):=by unfold dTake;rw [if_pos (by omega)];rfl
def lkS (h:List Bs) (a b:Bs × Bs × Bool):Lk × Bs × Bool:=
  if leI b.1=0 then
    (⟨h.getD (leI a.1).toNat [],leI (dTake 1 b.2.1 b.2.2).1+256*leI (dTake 1 (dTake 1 b.2.1 b.2.2).2.1 (dTake 1 b.2.1 b.2.2).2.2).1,[]⟩,
      (dTake 1 (dTake 1 b.2.1 b.2.2).2.1 (dTake 1 b.2.1 b.2.2).2.2).2.1,(dTake 1 (dTake 1 b.2.1 b.2.2).2.1 (dTake 1 b.2.1 b.2.2).2.2).2.2)
  else (⟨h.getD (leI a.1).toNat [],0,(dTake (leI b.1).toNat b.2.1 b.2.2).1⟩,(dTake (leI b.1).toNat b.2.1 b.2.2).2.1,(dTake (leI b.1).toNat b.2.1 b.2.2).2.2)
theorem lkS_eq {h:List Bs} {s:Bs} (a b:Bs × Bs × Bool) (ha:a=dTake 1 s false) (hb:b=dTake 1 a.2.1 a.2.2) (hu:heapUsed h (leI a.1)=true):
    lkS h a b=lkI h s false∨((lkS h a b).2.2=true∧(lkI h s false).2.2=true):=by
  unfold lkI
  simp only [← ha,← hb,hu]
  unfold lkS
  cases c1:b.2.2 with
  | true=>
    right
    constructor
    · by_cases c2:leI b.1=0
      · rw [if_pos c2];simp only
        cases h1:b.2.1 with
        | nil=>simp [dTake]
        | cons x r=>cases h2:r <;> simp [dTake]
      · rw [if_neg c2];exact aq0
    · simp
  | false=>
    by_cases c2:leI b.1=0
    · rw [if_pos c2,if_neg (by simp),if_pos c2]
      cases h1:b.2.1 with
      | nil=>right;simp [dTake]
      | cons x r=>
        cases h2:r with
        | nil=>right;simp [dTake]
        | cons y r=>left;simp [dTake,leI]
    · rw [if_neg c2,if_neg (by simp),if_neg c2];left;rfl
theorem ant {h:List Bs} {n:Nat} {s:Bs} {acc:List Lk} (a b:Bs × Bs × Bool) (ha:a=dTake 1 s false) (hb:b=dTake 1 a.2.1 a.2.2) (hu:heapUsed h (leI a.1)=true):
    rdLks h n (lkI h s false).2.1 (lkI h s false).2.2 (acc++[(lkI h s false).1])=rdLks h n (lkS h a b).2.1 (lkS h a b).2.2 (acc++[(lkS h a b).1]):=by
  rcases lkS_eq a b ha hb hu with e | ⟨e1,e2⟩
  · rw [e]
  · rw [e1,e2,ae5,ae5]
theorem anw {h:List Bs} {n:Nat} {s:Bs} {acc:List Lk} (hu:heapUsed h (leI (dTake 1 s false).1)=false):
    rdLks h n (lkI h s false).2.1 (lkI h s false).2.2 (acc++[(lkI h s false).1])=none:=by
  have:(lkI h s false).2.2=true:=by unfold lkI;simp only [hu];rw [if_pos (by simp)]
  rw [this,ae5]
set_option maxHeartbeats 1000000 in
theorem ah3 (q:Bool) (h:List Bs) (s:Bs) (hl:h.length≤lim) (hy:∀ y,y ∈ h→y.length≤lim) (hs:s.length≤lim) (K:Out→Prop):
    Call prog 76 ⟨[.s s,.agg [.view q 1 (h.map .s)]],[],[]⟩ K=K (linksOut h s):=by
  refine Zc (f:=76) rfl rfl (by decide) ?_
  have e1:=fun K=>ah1 q h hl hy K
  unfold linksOut decLinks
  cases hok:heapOk h with
  | false=>rw [hok] at e1;simp -implicitDefEqProofs [e1]
  | true=>
    rw [hok] at e1
    have e2:=fun K=>al1 q h hl K
    simp -implicitDefEqProofs [e1]
    refine WL_st (α:=Nat × Nat × Bool × List Lk) (fun x=>⟨sp 83 [(0,.s s),(3,.ptr 0 0),(6,.ptr 1 0),(7,.sl 0 0 x.2.2.2.length false)],[[.view q 1 (h.map .s)],[.s s,.i .i64 x.2.1,.b x.2.2.1]],[.row 3 false (x.2.2.2.map lkV)]⟩)
      (fun x=>x.1) (fun x=>rdLks h s.length s false []=rdLks h x.1 (s.drop x.2.1) x.2.2.1 x.2.2.2∧x.2.1≤s.length∧s.length - x.2.1≤x.1∧x.2.2.2.length+x.1≤s.length∧∀ y,y ∈ x.2.2.2→y.name.length≤lim∧y.target.length≤lim) (s.length,0,false,[]) _ (by simp -implicitDefEqProofs) ⟨rfl,by simp,by simp,by simp,by simp⟩ ?_
    rintro ⟨n,k,bad,ls⟩ ⟨hP,hk,ht,hm,hz⟩
    simp only at hP hk ht hm hz
    have e3:=fun K=>ara false ls (by omega) hz K
    have hs':=hs
    unfold lim at hs'
    cases bad with
    | true=>
      rw [ae5] at hP
      rw [hP]
      by_cases h0:k<s.length <;> simp -implicitDefEqProofs [h0]
    | false=>
      by_cases h0:k<s.length
      · have hn0:¬ s.drop k=[]:=by rw [List.drop_eq_nil_iff];omega
        obtain ⟨a,ha⟩:∃ a,a=dTake 1 (s.drop k) false:=⟨_,rfl⟩
        obtain ⟨b,hb⟩:∃ b,b=dTake 1 a.2.1 a.2.2:=⟨_,rfl⟩
        have q1:=rAt_le (s:=s) (n:=1) hk
        have q2:=rAt_le (s:=s) (n:=1) q1
        have q1':rAt s 1 k=k+1:=by unfold rAt;rw [if_pos (by omega)]
        have q2':rAt s 1 k≤rAt s 1 (rAt s 1 k):=rAt_ge
        have s1:s.drop (rAt s 1 k)=a.2.1:=by rw [aaz (bad:=false),← ha]
        have s2:s.drop (rAt s 1 (rAt s 1 k))=b.2.1:=by rw [aaz (bad:=a.2.2),s1,← hb]
        have f1:=fun K=>aat s k false hs hk K
        rw [← ha] at f1
        have f2:=fun K=>aat s _ a.2.2 hs q1 K
        rw [s1,← hb] at f2
        have f3:=fun K=>aoc q h (leI a.1) hl hy hok K
        generalize rAt s 1 k=k1 at *
        generalize rAt s 1 k1=k2 at *
        have hc:=ant (h:=h) (n:=n - 1) (s:=s.drop k) (acc:=ls) a b ha hb
        cases n with
        | zero=>omega
        | succ n=>
          rw [anv hn0] at hP
          cases c1:heapUsed h (leI a.1) with
          | false=>
            rw [anw (by rw [← ha];exact c1)] at hP
            rw [hP]
            rw [c1] at f3
            simp -implicitDefEqProofs [h0,f1,f3]
          | true=>
            rw [ant a b ha hb c1] at hP
            rw [c1] at f3
            have g1:=ap5 (k:=(leI a.1).toNat) hy
            obtain ⟨z,hz1,hz2⟩:∃ z:Nat,leI b.1=z∧z≤255:=by
              have:=abc (s:=a.2.1) (bad:=a.2.2)
              rw [← hb] at this
              exact ⟨(leI b.1).toNat,by omega,by omega⟩
            have c2:ls.length+1≤lim:=by unfold lim;omega
            by_cases hz0:z=0
            · have hS:lkS h a b=(⟨h.getD (leI a.1).toNat [],leI (dTake 1 b.2.1 b.2.2).1+256*leI (dTake 1 (dTake 1 b.2.1 b.2.2).2.1 (dTake 1 b.2.1 b.2.2).2.2).1,[]⟩,
                  (dTake 1 (dTake 1 b.2.1 b.2.2).2.1 (dTake 1 b.2.1 b.2.2).2.2).2.1,(dTake 1 (dTake 1 b.2.1 b.2.2).2.1 (dTake 1 b.2.1 b.2.2).2.2).2.2):=by
                unfold lkS;rw [if_pos (by omega)]
              have g2:=fun K=>aat s k2 b.2.2 hs q2 K
              rw [s2] at g2
              have q3:=rAt_le (s:=s) (n:=1) q2
              have q3':=rAt_ge (s:=s) (n:=1) (k:=k2)
              have s3:s.drop (rAt s 1 k2)=(dTake 1 b.2.1 b.2.2).2.1:=by rw [aaz (bad:=b.2.2),s2]
              have v1:=abc (s:=b.2.1) (bad:=b.2.2)
              obtain ⟨c,hc⟩:∃ c,c=dTake 1 b.2.1 b.2.2:=⟨_,rfl⟩
              rw [← hc] at hS g2 s3 v1
              generalize rAt s 1 k2=k3 at *
              have g3:=fun K=>aat s k3 c.2.2 hs q3 K
              rw [s3] at g3
              have q4:=rAt_le (s:=s) (n:=1) q3
              have q4':=rAt_ge (s:=s) (n:=1) (k:=k3)
              have s4:s.drop (rAt s 1 k3)=(dTake 1 c.2.1 c.2.2).2.1:=by rw [aaz (bad:=c.2.2),s3]
              have v2:=abc (s:=c.2.1) (bad:=c.2.2)
              obtain ⟨d,hd⟩:∃ d,d=dTake 1 c.2.1 c.2.2:=⟨_,rfl⟩
              rw [← hd] at hS g3 s4 v2
              generalize rAt s 1 k3=k4 at *
              have g4:=fun K=>afe s k4 0 d.2.2 hs q4 (by omega) K
              rw [s4,aq1] at g4
              have q5:rAt s 0 k4=k4:=by unfold rAt;rw [if_pos (by omega)];rfl
              rw [q5] at g4
              simp only [Int.natCast_zero] at g4
              rw [hS] at hP
              have hz3:leI b.1=0:=by omega
              have w1:=wrap_i64 (n:=256*leI d.1) (by omega) (by omega)
              have w2:=wrap_i64 (n:=leI c.1+256*leI d.1) (by omega) (by omega)
              simp -implicitDefEqProofs [h0,f1,f2,f3,hz3,g2,g3,g4,w1,w2,c2]
              refine NextS.mk (n,k4,d.2.2,ls++[⟨h.getD (leI a.1).toNat [],leI c.1+256*leI d.1,[]⟩]) ⟨by rw [hP,s4],q4,by simp only;omega,by simp;omega,?_⟩ (by simp) (by simp [lkV])
              intro y hy'
              rcases List.mem_append.1 hy' with hy' | hy'
              · exact hz y hy'
              · simp only [List.mem_singleton] at hy'
                subst hy'
                exact ⟨g1,by unfold lim;simp⟩
            · have hS:lkS h a b=(⟨h.getD (leI a.1).toNat [],0,(dTake z b.2.1 b.2.2).1⟩,(dTake z b.2.1 b.2.2).2.1,(dTake z b.2.1 b.2.2).2.2):=by
                unfold lkS;rw [if_neg (by omega),hz1];rfl
              have g4:=fun K=>afe s k2 z b.2.2 hs q2 (by omega) K
              rw [s2] at g4
              have q3:=rAt_le (s:=s) (n:=z) q2
              have q3':=rAt_ge (s:=s) (n:=z) (k:=k2)
              have s3:s.drop (rAt s z k2)=(dTake z b.2.1 b.2.2).2.1:=by rw [aaz (bad:=b.2.2),s2]
              have v1:=agm (n:=z) (s:=b.2.1) (bad:=b.2.2)
              obtain ⟨c,hc⟩:∃ c,c=dTake z b.2.1 b.2.2:=⟨_,rfl⟩
              rw [← hc] at hS g4 s3 v1
              generalize rAt s z k2=k3 at *
              rw [hS] at hP
              simp -implicitDefEqProofs [h0,f1,f2,f3,hz1,hz0,g4,c2]
              refine NextS.mk (n,k3,c.2.2,ls++[⟨h.getD (leI a.1).toNat [],0,c.1⟩]) ⟨by rw [hP,s3],q3,by simp only;omega,by simp;omega,?_⟩ (by simp) (by simp [lkV])
              intro y hy'
              rcases List.mem_append.1 hy' with hy' | hy'
              · exact hz y hy'
              · simp only [List.mem_singleton] at hy'
                subst hy'
                exact ⟨g1,by unfold lim;simp only;omega⟩
      · have h0':s.drop k=[]:=by rw [List.drop_eq_nil_iff];omega
        rw [anu h0'] at hP
        rw [hP]
        cases d1:lksOk ls with
        | false=>rw [d1] at e3;simp -implicitDefEqProofs [h0,e3,d1]
        | true=>
          rw [d1] at e3
          by_cases d2:usedSlots h=ls.length
          · simp -implicitDefEqProofs [h0,e3,e2,d1,d2]
          · have d2':¬ (usedSlots h:Int)=ls.length:=by omega
            simp -implicitDefEqProofs [h0,e3,e2,d1,d2,d2']
end Go.VS
end
section
namespace Go.VS
theorem alf (K:Out→Prop):Call prog 141 ⟨[.agg [.nil]],[],[]⟩ K=K (.b true,[],[]):=by
  refine Zc (f:=141) rfl rfl (by decide) ?_
  have e:=fun K=>cfS heapBad 161 [] true [] (by unfold lim;simp) rfl (fun x hx=>absurd hx (by simp)) K
  have e':∀ K,Call prog 86 ⟨[.view true 1 [],.fn 161 []],[],[]⟩ K=K (.b false,[],[]):=e
  simp -implicitDefEqProofs [e']
theorem auh (k:Int) (K:Out→Prop):Call prog 162 ⟨[.agg [.nil],.i .i64 k],[],[]⟩ K=K (.b false,[],[]):=by
  refine Zc (f:=162) rfl rfl (by decide) ?_
  have e:=fun K=>ae1 k 0 (by unfold lim;omega) K
  have h:inI k 0 (((0:Nat):Int) - 1)=false:=by unfold inI;simp;omega
  rw [h] at e
  simp only [Int.natCast_zero] at e
  simp -implicitDefEqProofs [e]
theorem amh (K:Out→Prop):Call prog 144 ⟨[.agg [.nil]],[],[]⟩ K=K (.i .i64 0,[],[]):=by
  rw [adc (p:=prog) (f:=144) rfl]
  simp [nUsedSlots]
set_option maxHeartbeats 1000000 in
theorem at5 (s:Bs) (bad:Bool) (hs:s.length≤lim) (K:Out→Prop):
    Call prog 142 ⟨[.ptr 0 0,.agg [.nil]],[[.s s,.b bad]],[]⟩ K=K (.agg [.s [],.i .i64 0,.s []],[[.s (dTake 1 (dTake 1 s bad).2.1 (dTake 1 s bad).2.2).2.1,.b true]],[]):=by
  obtain ⟨a,ha⟩:∃ a,a=dTake 1 s bad:=⟨_,rfl⟩
  obtain ⟨b,hb⟩:∃ b,b=dTake 1 a.2.1 a.2.2:=⟨_,rfl⟩
  rw [← ha,← hb]
  refine Zc (f:=142) rfl rfl (by decide) ?_
  have la:a.2.1.length≤s.length:=by rw [ha];exact aal
  have e1:=fun K=>aa6 s bad hs K
  rw [← ha] at e1
  have e2:=fun K=>aa6 a.2.1 a.2.2 (by omega) K
  rw [← hb] at e2
  have e5:=fun K=>auh (leI a.1) K
  cases c1:b.2.2 <;> simp -implicitDefEqProofs [e1,e2,c1,e5]
set_option maxHeartbeats 1000000 in
theorem ajc (s:Bs) (hs:s.length≤lim) (K:Out→Prop):
    Call prog 120 ⟨[.s s,.agg [.nil]],[],[]⟩ K=K (if s=[] then (.tup [.sl 0 0 0 false,.b true],[],[.row 3 false []]) else (.tup [.nil,.b false],[],[])):=by
  refine Zc (f:=120) rfl rfl (by decide) ?_
  simp -implicitDefEqProofs [alf]
  refine WL_st (α:=Option Bs) (fun x=>⟨sp 49 [(3,.ptr 0 0),(6,.ptr 1 0),(7,.sl 0 0 (match x with | none=>0 | some _=>1) false)],[[.nil],[.s (x.getD s),.b x.isSome]],[.row 3 false (match x with | none=>[] | some _=>[.agg [.s [],.i .i64 0,.s []]])]⟩)
    (fun x=>if x.isSome then 0 else 1) (fun x=>x.isSome=true→s≠[]) none _ (by simp -implicitDefEqProofs) (by simp) ?_
  intro x hx
  cases x with
  | none=>
    by_cases h0:s=[]
    · have e3:=fun K=>aem false [] (by unfold lim;simp) (fun x hx=>absurd hx (by simp)) K
      have e3':∀ K,Call prog 143 ⟨[.view false 3 []],[],[]⟩ K=K (.b true,[],[]):=e3
      simp -implicitDefEqProofs [h0,e3',amh]
    · obtain ⟨t,e4⟩:∃ t,∀ K,Call prog 142 ⟨[.ptr 0 0,.agg [.nil]],[[.s s,.b false]],[]⟩ K=K (.agg [.s [],.i .i64 0,.s []],[[.s t,.b true]],[]):=by
        refine ⟨(dTake 1 (dTake 1 s false).2.1 (dTake 1 s false).2.2).2.1,fun K=>?_⟩
        exact at5 s false hs K
      have c2:1≤lim:=by unfold lim;omega
      simp -implicitDefEqProofs [h0,e4,c2]
      exact NextS.mk (some t) (fun _=>h0) (by simp) (by simp)
  | some t=>
    have h0:=hx rfl
    by_cases h1:t=[] <;> simp -implicitDefEqProofs [h0,h1]
end Go.VS
end
section
namespace Go.VS
theorem aru {s:Bs} {h:Hd} (e:decHdr s=some h):h.ok=true:=by
  rw [amq] at e
  simp only at e
  split at e
  · rename_i c;cases e;exact c.2.2
  · cases e
theorem Hd.ok_facts {h:Hd} (e:h.ok=true):h.msgs.length≤24∧∀ m,m ∈ h.msgs→m.data.length≤200:=by
  unfold Hd.ok at e
  simp only [Bool.and_eq_true,decide_eq_true_eq,Bool.not_eq_true',List.any_eq_false] at e
  refine ⟨by omega,fun m hm=>?_⟩
  have:=e.2 m hm
  unfold msBad at this
  simp only [Bool.not_eq_true',Bool.not_eq_false,Bool.and_eq_true,decide_eq_true_eq] at this
  omega
theorem aih {l:List Bs} (e:heapOk l=true):l.length≤30∧∀ y,y ∈ l→y.length≤12:=by
  unfold heapOk at e
  simp only [Bool.and_eq_true,decide_eq_true_eq,Bool.not_eq_true',List.any_eq_false] at e
  refine ⟨by omega,fun y hy=>?_⟩
  have:=e.2 y hy
  unfold heapBad at this
  by_cases h0:y=[]
  · simp [h0]
  · simp only [ne_eq,h0,not_false_eq_true,decide_true,Bool.true_and,Bool.not_eq_true',Bool.not_eq_false] at this
    unfold isName at this
    simp only [Bool.and_eq_true,decide_eq_true_eq] at this
    omega
theorem akx {s:Bs} {l:List Bs} (e:decHeap s=some l):heapOk l=true:=by
  unfold decHeap at e
  simp only at e
  split at e
  · rename_i c;cases e;exact c.2.2
  · cases e
theorem aoh {h:List Bs} {s:Bs} {l:List Lk} (e:decLinks h s=some l):lksOk l=true:=by
  unfold decLinks at e
  split at e
  · split at e
    · split at e
      · rename_i c;cases e;exact c.1
      · cases e
    · cases e
  · cases e
theorem Pr.hdr_ok {p:Pr} {k:Int} {h:Hd} (e:p.hdr k=some h):h.ok=true:=by
  unfold Pr.hdr at e
  split at e
  · cases e
  · exact aru e
structure Gr where
  hd:Hd
  heap:List Bs
  links:List Lk
def Pr.grp (p:Pr) (k:Int):Except Int Gr:=
  match p.hdr k with
  | none=>.error 10
  | some h=>if h.kind≠1 then .error 7 else if onlyB h.msgs 9=true∧onlyB h.msgs 7=true then
      match decHeap (h.msgs.getD (onlyX h.msgs 9).toNat default).data with
      | none=>.error 10
      | some hp=>match decLinks hp (h.msgs.getD (onlyX h.msgs 7).toNat default).data with
        | none=>.error 10
        | some l=>.ok ⟨h,hp,l⟩
    else .error 10
def grpOut (p:Pr) (k:Int):Out:=match p.grp k with
  | .error c=>(.tup [.agg [.i .i64 0,.i .i64 0,.i .i64 0,.nil,.nil,.nil],.i .i64 c],[],[])
  | .ok g=>(.tup [.agg [.i .i64 k,.i .i64 g.hd.kind,.i .i64 g.hd.refs,.sl 0 0 g.hd.msgs.length false,.sl 1 0 g.heap.length false,.sl 2 0 g.links.length false],.i .i64 0],[],
      [.row 3 false (g.hd.msgs.map msV),.row 1 false (g.heap.map .s),.row 3 false (g.links.map lkV)])
def sgrpOut (p:Pr) (k:Int):Out:=match p.grp k with
  | .error c=>(.tup [.agg [.i .i64 0,.i .i64 0,.nil,.nil,.nil],.i .i64 c],[],[])
  | .ok g=>(.tup [.agg [.i .i64 g.hd.kind,.i .i64 g.hd.refs,.sl 0 0 g.hd.msgs.length false,.sl 1 0 g.heap.length false,.sl 2 0 g.links.length false],.i .i64 0],[],
      [.row 3 false (g.hd.msgs.map msV),.row 1 false (g.heap.map .s),.row 3 false (g.links.map lkV)])
theorem ahh {ms:List Ms} {k:Int} (h:onlyB ms k=true):∃ j:Nat,∃ hj:j<ms.length,onlyX ms k=j∧ms.getD (onlyX ms k).toNat default=ms[j]:=by
  obtain ⟨j,h1,h2⟩:=aub h
  refine ⟨j,h2,h1,?_⟩
  rw [h1,Int.toNat_natCast,List.getD_eq_getElem?_getD,List.getElem?_eq_getElem h2];rfl
section
variable {p:Pr} {k:Int} {h:Hd}
theorem ap8 (c0:p.hdr k=none):p.grp k=.error 10:=by unfold Pr.grp;rw [c0]
theorem ap7 (c0:p.hdr k=some h) (c1:¬ h.kind=1):p.grp k=.error 7:=by unfold Pr.grp;rw [c0];exact if_pos c1
theorem ai3 (c0:p.hdr k=some h) (c1:h.kind=1) (c2:¬ (onlyB h.msgs 9=true∧onlyB h.msgs 7=true)):p.grp k=.error 10:=by
  unfold Pr.grp;rw [c0];simp only;rw [if_neg (by simp [c1]),if_neg c2]
variable {m n:Ms}
theorem ap6 (c0:p.hdr k=some h) (c1:h.kind=1) (c2:onlyB h.msgs 9=true) (c3:onlyB h.msgs 7=true) (hm:h.msgs.getD (onlyX h.msgs 9).toNat default=m) (c4:decHeap m.data=none):p.grp k=.error 10:=by
  unfold Pr.grp;rw [c0];simp only;rw [if_neg (by simp [c1]),if_pos ⟨c2,c3⟩,hm,c4]
theorem am6 (c0:p.hdr k=some h) (c1:h.kind=1) (c2:onlyB h.msgs 9=true) (c3:onlyB h.msgs 7=true) (hm:h.msgs.getD (onlyX h.msgs 9).toNat default=m) (hn:h.msgs.getD (onlyX h.msgs 7).toNat default=n)
    {hp:List Bs} (c4:decHeap m.data=some hp) (c5:decLinks hp n.data=none):p.grp k=.error 10:=by
  unfold Pr.grp;rw [c0];simp only;rw [if_neg (by simp [c1]),if_pos ⟨c2,c3⟩,hm,hn,c4];simp only;rw [c5]
theorem grp_ok (c0:p.hdr k=some h) (c1:h.kind=1) (c2:onlyB h.msgs 9=true) (c3:onlyB h.msgs 7=true) (hm:h.msgs.getD (onlyX h.msgs 9).toNat default=m) (hn:h.msgs.getD (onlyX h.msgs 7).toNat default=n)
    {hp:List Bs} {l:List Lk} (c4:decHeap m.data=some hp) (c5:decLinks hp n.data=some l):p.grp k=.ok ⟨h,hp,l⟩:=by
  unfold Pr.grp;rw [c0];simp only;rw [if_neg (by simp [c1]),if_pos ⟨c2,c3⟩,hm,hn,c4];simp only;rw [c5]
end
set_option maxHeartbeats 1000000 in
theorem ahy (q:Bool) (p:Pr) (h:p.Ok) (k:Int) (K:Out→Prop):Call prog 88 ⟨[.vp (prC q p),.i .i64 k],[],[]⟩ K=K (grpOut p k):=by
  refine Zc (f:=88) rfl rfl (by decide) ?_
  have e0:=fun K=>agi q p h k K
  unfold hdrOut at e0
  unfold grpOut
  cases c0:p.hdr k with
  | none=>rw [ap8 c0];simp only [c0] at e0;simp -implicitDefEqProofs [e0]
  | some h=>
    simp only [c0] at e0
    have f0:=Hd.ok_facts (Pr.hdr_ok c0)
    by_cases c1:h.kind=1
    · have e1:=fun K=>ano false h 9 (by unfold lim;omega) K
      have e2:=fun K=>ano false h 7 (by unfold lim;omega) K
      rw [c1] at e1 e2
      cases c2:onlyB h.msgs 9 with
      | false=>
        rw [ai3 c0 c1 (by simp [c2])]
        rw [c2] at e1
        simp -implicitDefEqProofs [e0,e1,e2,c1]
      | true=>
      cases c3:onlyB h.msgs 7 with
      | false=>
        rw [ai3 c0 c1 (by simp [c3])]
        rw [c2] at e1
        rw [c3] at e2
        simp -implicitDefEqProofs [e0,e1,e2,c1]
      | true=>
        rw [c2] at e1
        rw [c3] at e2
        obtain ⟨j,hj,hj1,hj2⟩:=ahh c2
        obtain ⟨i,hi,hi1,hi2⟩:=ahh c3
        have g1:=f0.2 _ (List.getElem_mem hj)
        have g2:=f0.2 _ (List.getElem_mem hi)
        rw [hj1] at e1
        rw [hi1] at e2
        have e3:=fun K=>ajb h.msgs[j].data (by unfold lim;omega) K
        unfold heapOut at e3
        cases c4:decHeap h.msgs[j].data with
        | none=>
          rw [ap6 c0 c1 c2 c3 hj2 c4]
          simp only [c4] at e3
          have e4:=fun K=>ajc h.msgs[i].data (by unfold lim;omega) K
          by_cases c5:h.msgs[i].data=[]
          · rw [c5] at e4
            simp only [if_true] at e4
            simp -implicitDefEqProofs [e0,e1,e2,e3,e4,c1,c5,msV,hj,hi]
          · simp only [if_neg c5] at e4
            simp -implicitDefEqProofs [e0,e1,e2,e3,e4,c1,msV,hj,hi]
        | some hp=>
          simp only [c4] at e3
          have f1:=aih (akx c4)
          have e4:=fun K=>aiw false hp h.msgs[i].data (by unfold lim;omega) (fun y hy=>by have:=f1.2 y hy;unfold lim;omega) (by unfold lim;omega) K
          unfold linksOut at e4
          cases c5:decLinks hp h.msgs[i].data with
          | none=>
            rw [am6 c0 c1 c2 c3 hj2 hi2 c4 c5]
            simp only [c5] at e4
            simp -implicitDefEqProofs [e0,e1,e2,e3,e4,c1,msV,hj,hi]
          | some l=>
            rw [grp_ok c0 c1 c2 c3 hj2 hi2 c4 c5]
            simp only [c5] at e4
            simp -implicitDefEqProofs [e0,e1,e2,e3,e4,c1,msV,hj,hi]
    · rw [ap7 c0 c1]
      simp -implicitDefEqProofs [e0,c1]
set_option maxHeartbeats 1000000 in
theorem ain (q:Bool) (p:Pr) (h:p.Ok) (k:Int) (K:Out→Prop):Call prog 44 ⟨[.vp (prC q p),.i .i64 k],[],[]⟩ K=K (sgrpOut p k):=by
  refine Zc (f:=44) rfl rfl (by decide) ?_
  have e0:=fun K=>ail q p h k K
  unfold hdrOut at e0
  unfold sgrpOut
  cases c0:p.hdr k with
  | none=>rw [ap8 c0];simp only [c0] at e0;simp -implicitDefEqProofs [e0]
  | some h=>
    simp only [c0] at e0
    have f0:=Hd.ok_facts (Pr.hdr_ok c0)
    by_cases c1:h.kind=1
    · have e1:=fun K=>aim false h 9 (by unfold lim;omega) K
      have e2:=fun K=>aim false h 7 (by unfold lim;omega) K
      rw [c1,aqp] at e1 e2
      cases c2:onlyB h.msgs 9 with
      | false=>
        rw [ai3 c0 c1 (by simp [c2])]
        rw [c2] at e1
        simp only [Bool.false_eq_true,if_false] at e1
        simp -implicitDefEqProofs [e0,e1,e2,c1]
      | true=>
      obtain ⟨j,hj,hj1,hj2⟩:=ahh c2
      rw [c2,hj1] at e1
      simp only [if_true,Int.natCast_zero,Int.add_zero] at e1
      have j0:¬ (j:Int)<0:=by omega
      cases c3:onlyB h.msgs 7 with
      | false=>
        rw [ai3 c0 c1 (by simp [c3])]
        rw [c3] at e2
        simp only [Bool.false_eq_true,if_false] at e2
        simp -implicitDefEqProofs [e0,e1,e2,c1,j0]
      | true=>
        obtain ⟨i,hi,hi1,hi2⟩:=ahh c3
        rw [c3,hi1] at e2
        simp only [if_true,Int.natCast_zero,Int.add_zero] at e2
        have i0:¬ (i:Int)<0:=by omega
        have g1:=f0.2 _ (List.getElem_mem hj)
        have g2:=f0.2 _ (List.getElem_mem hi)
        have e3:=fun K=>aiz h.msgs[j].data (by unfold lim;omega) K
        unfold heapOut at e3
        cases c4:decHeap h.msgs[j].data with
        | none=>
          rw [ap6 c0 c1 c2 c3 hj2 c4]
          simp only [c4] at e3
          simp -implicitDefEqProofs [e0,e1,e2,e3,c1,j0,i0,msV,hj,hi]
        | some hp=>
          simp only [c4] at e3
          have f1:=aih (akx c4)
          have e4:=fun K=>ah3 false hp h.msgs[i].data (by unfold lim;omega) (fun y hy=>by have:=f1.2 y hy;unfold lim;omega) (by unfold lim;omega) K
          unfold linksOut at e4
          cases c5:decLinks hp h.msgs[i].data with
          | none=>
            rw [am6 c0 c1 c2 c3 hj2 hi2 c4 c5]
            simp only [c5] at e4
            simp -implicitDefEqProofs [e0,e1,e2,e3,e4,c1,j0,i0,msV,hj,hi]
          | some l=>
            rw [grp_ok c0 c1 c2 c3 hj2 hi2 c4 c5]
            simp only [c5] at e4
            simp -implicitDefEqProofs [e0,e1,e2,e3,e4,c1,j0,i0,msV,hj,hi]
    · rw [ap7 c0 c1]
      simp -implicitDefEqProofs [e0,c1]
end Go.VS
end
section
namespace Go.VS
def hards (l:List Lk):List Int:=(l.filter fun x=>decide (x.target=[])).map Lk.block
def Pr.tg (p:Pr) (k:Int):List Int:=match p.grp k with
  | .error _=>[]
  | .ok g=>hards g.links
theorem abt {p:Pr} {k:Int} {g:Gr} (e:p.grp k=.ok g):lksOk g.links=true:=by
  unfold Pr.grp at e
  split at e
  · cases e
  · split at e
    · cases e
    · split at e
      · split at e
        · cases e
        · split at e
          · cases e
          · rename_i h;cases e;exact aoh h
      · cases e
theorem afd {p:Pr} {k c:Int} (e:p.grp k=.error c):c=10∨c=7:=by
  unfold Pr.grp at e
  split at e
  · cases e;exact .inl rfl
  · split at e
    · cases e;exact .inr rfl
    · split at e
      · split at e
        · cases e;exact .inl rfl
        · split at e
          · cases e;exact .inl rfl
          · cases e
      · cases e;exact .inl rfl
theorem abh {l:List Lk} (e:lksOk l=true):l.length≤12∧∀ x,x ∈ l→x.ok=true:=by
  unfold lksOk at e
  simp only [Bool.and_eq_true,decide_eq_true_eq,Bool.not_eq_true'] at e
  refine ⟨by omega,fun x hx=>?_⟩
  obtain ⟨i,hi,rfl⟩:=List.getElem_of_mem hx
  have:=adv _ _ e.1 i (Nat.zero_le _) (by omega)
  unfold lksBad at this
  rw [dif_pos hi] at this
  simp only [Bool.or_eq_false_iff,Bool.not_eq_false'] at this
  exact this.1
theorem alu {l:List Lk} (e:lksOk l=true) {k:Int} (h:k ∈ hards l):1≤k∧k≤255:=by
  unfold hards at h
  obtain ⟨x,hx,rfl⟩:=List.mem_map.1 h
  obtain ⟨h1,h2⟩:=List.mem_filter.1 hx
  have:=(abh e).2 x h1
  unfold Lk.ok at this
  have h3:x.target=[]:=by simpa using h2
  rw [if_pos h3] at this
  unfold inI at this
  simp only [Bool.and_eq_true,decide_eq_true_eq] at this
  exact this.2
end Go.VS
end
section
namespace Go.VS
end Go.VS
end
