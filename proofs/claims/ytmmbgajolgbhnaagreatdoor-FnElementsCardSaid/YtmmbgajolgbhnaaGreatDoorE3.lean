/-
  Draws; what the laws that draw answer.
-/
import Derived.Test.YtmmbgajolgbhnaaGreatDoorE2
set_option linter.all false
section
namespace Go.VS
set_option maxRecDepth 4000
attribute [-simp] isLeaf okRet ridL V.leaves
attribute [-simp] isLent expL
@[simp] theorem isLent_slvt (n z xs):isLent (slv n true z xs)=false:=by rcases aai n true z xs with ⟨h,_⟩ | ⟨h,_⟩ <;> rw [h] <;> rfl
@[simp] theorem isLent_b (x):isLent (.b x)=false:=rfl
@[simp] theorem isLent_i (k x):isLent (.i k x)=false:=rfl
@[simp] theorem isLent_s (x):isLent (.s x)=false:=rfl
@[simp] theorem isLent_nil:isLent .nil=false:=rfl
@[simp] theorem isLent_np:isLent .np=false:=rfl
@[simp] theorem isLent_view (q z xs):isLent (.view q z xs)=!q:=by cases q <;> rfl
@[simp] theorem isLent_sl (a b c d):isLent (.sl a b c d)=false:=rfl
@[simp] theorem isLent_ptr (a b):isLent (.ptr a b)=false:=rfl
@[simp] theorem isLent_vp (a):isLent (.vp a)=true:=rfl
@[simp] theorem isLent_bz:isLent .bz=false:=rfl
@[simp] theorem expL_slv (s k n q z xs xp):expL s k (slv n q z xs) xp=some (slv n q z xs,xp):=by rcases aai n q z xs with ⟨h,_⟩ | ⟨h,_⟩ <;> rw [h] <;> rfl
@[simp] theorem expL_b (s k x xp):expL s k (.b x) xp=some (.b x,xp):=rfl
@[simp] theorem expL_i (s k k' x xp):expL s k (.i k' x) xp=some (.i k' x,xp):=rfl
@[simp] theorem expL_s (s k x xp):expL s k (.s x) xp=some (.s x,xp):=rfl
@[simp] theorem expL_nil (s k xp):expL s k .nil xp=some (.nil,xp):=rfl
@[simp] theorem expL_np (s k xp):expL s k .np xp=some (.np,xp):=rfl
@[simp] theorem expL_bz (s k xp):expL s k .bz xp=some (.bz,xp):=rfl
@[simp] theorem expL_view (s k q z xs xp):expL s k (.view q z xs) xp=some (.view q z xs,xp):=rfl
@[simp] theorem expL_vp (s k cs xp):expL s k (.vp cs) xp=some (.vp cs,xp):=rfl
@[simp] theorem expL_sl (s k id lo n tg xp):expL s k (.sl id lo n tg) xp=match s.r.getD id .gone with
    | .row _ _ _=>if id ∈ xp.rw then some (.sl (xp.rw.idxOf id) lo n tg,xp) else some (.sl xp.rw.length lo n tg,{ xp with rw:=xp.rw++[id] })
    | .gone=>none:=rfl
@[simp] theorem expL_ptr (s k id off xp):expL s k (.ptr id off) xp=match findBl id off (if k=0 then (s.m.getD id []).length - off else k) xp.bl 0 with
    | some (j,o)=>some (.ptr j o,xp)
    | none=>if clashes id off (if k=0 then (s.m.getD id []).length - off else k) xp.bl=false∧0<(if k=0 then (s.m.getD id []).length - off else k)∧off+(if k=0 then (s.m.getD id []).length - off else k)≤(s.m.getD id []).length then some (.ptr xp.bl.length 0,{ xp with bl:=xp.bl++[(id,off,if k=0 then (s.m.getD id []).length - off else k)] }) else none:=rfl
structure Src where
  n:Bool
  l:Bs
  p:Nat
  sd:Int
def Src.c (s:Src):List V:=[slv s.n true 1 (bytesV s.l),.i .i64 (s.p:Int),.i .u64 s.sd]
def Src.Ok (s:Src):Prop:=s.l.length≤lim∧s.p≤1152921504606846976
structure Src.To (k:Nat) (s s':Src):Prop where
  n:s'.n=s.n
  l:s'.l=s.l
  p:s'.p≤s.p+k
theorem Src.To.trans {k j:Nat} {a b c:Src} (h:a.To k b) (g:b.To j c):a.To (k+j) c:=⟨g.n.trans h.n,g.l.trans h.l,by have:=h.p;have:=g.p;omega⟩
theorem Src.To.mono {k j:Nat} {a b:Src} (h:a.To k b) (hk:k≤j):a.To j b:=⟨h.n,h.l,by have:=h.p;omega⟩
theorem Src.To.refl (a:Src):a.To 0 a:=⟨rfl,rfl,Nat.le_refl _⟩
def Src.Rm (k:Nat) (s:Src):Prop:=s.l.length≤lim∧s.p+k≤1152921504606846976
theorem Src.Rm.to {k j:Nat} {a b:Src} (h:a.Rm (k+j)) (g:a.To k b):b.Rm j:=⟨by rw [g.l];exact h.1,by have:=g.p;have:=h.2;omega⟩
theorem Src.Rm.mono {k j:Nat} {a:Src} (h:a.Rm k) (g:j≤k):a.Rm j:=⟨h.1,by have:=h.2;omega⟩
theorem band255 (k:IntKind) (hk:k.bits=64) (n:Int):0≤bandI k n 255∧bandI k n 255≤255:=by
  have h:(BitVec.ofInt k.bits n &&& BitVec.ofInt k.bits 255).toNat≤255:=by
    rw [hk,BitVec.toNat_and]
    refine Nat.le_trans Nat.and_le_right ?_
    decide
  unfold bandI
  generalize (BitVec.ofInt k.bits n &&& BitVec.ofInt k.bits 255).toNat=x at h
  have:k.wrap (x:Int)=x:=by
    cases k <;> simp [IntKind.bits] at hk <;> simp [IntKind.wrap,IntKind.bits,IntKind.signed] <;> omega
  rw [this];omega
theorem aou (s:Src) (h:s.Rm 1):∃ x:Int × Src,(∀ K:Out→Prop,Call prog 499 ⟨[.ptr 0 0],[s.c],[]⟩ K=K (.i .i64 x.1,[x.2.c],[]))∧(0≤x.1∧x.1≤255∧s.To 1 x.2):=by
  refine aan (fun x:Int × Src=>(.i .i64 x.1,[x.2.c],[])) _ fun K hK=>?_
  rw [aar (p:=prog) (f:=499) rfl _ _ _ rfl (by decide)]
  obtain ⟨h1,h2⟩:=h
  unfold lim at h1
  obtain ⟨n,l,p,sd⟩:=s
  simp only at h1 h2
  have w1:IntKind.i64.wrap ((p:Int)+1)=(p:Int)+1:=wrap_i64 (by omega) (by omega)
  simp only [Src.c]
  by_cases hlt:p<l.length
  · have hc:(bytesV l)[p]'(by simpa using hlt)=.i .u8 (l[p].toNat:Int):=aml l _
    have hb:l[p].toNat<256:=UInt8.toNat_lt _
    have w2:IntKind.i64.wrap ((l[p].toNat:Nat):Int)=(l[p].toNat:Nat):=wrap_i64 (by omega) (by omega)
    have o:=fun sd'=>hK ((l[p].toNat:Nat),⟨n,l,p+1,sd'⟩) ⟨by simp only;omega,by simp only;omega,rfl,rfl,Nat.le_refl _⟩
    simp only [Src.c] at o
    have g1:(p:Int)+1≤l.length:=by omega
    simp -implicitDefEqProofs [hlt,hc,w1,w2,g1]
    exact o _
  · have g1:¬ (p:Int)+1≤l.length:=by omega
    have o:=fun (v:Int) sd' (hv:0≤v∧v≤255)=>hK (v,⟨n,l,p+1,sd'⟩) ⟨hv.1,hv.2,rfl,rfl,Nat.le_refl _⟩
    simp only [Src.c] at o
    have wb:∀ m,IntKind.i64.wrap (bandI .u64 m 255)=bandI .u64 m 255:=fun m=>wrap_i64 (by have:=band255 .u64 rfl m;omega) (by have:=band255 .u64 rfl m;omega)
    simp -implicitDefEqProofs [hlt,w1,g1,wb]
    exact o _ _ (band255 .u64 rfl _)
def Pk (n x:Int):Prop:=0≤x∧(x<n∨x=0)∧x≤65535
theorem aam (s:Src) (n:Int) (h:s.Rm 2):∃ x:Int × Src,(∀ K:Out→Prop,Call prog 450 ⟨[.ptr 0 0,.i .i64 n],[s.c],[]⟩ K=K (.i .i64 x.1,[x.2.c],[]))∧(Pk n x.1∧s.To 2 x.2):=by
  refine aan (fun x:Int × Src=>(.i .i64 x.1,[x.2.c],[])) _ fun K hK=>?_
  rw [aar (p:=prog) (f:=450) rfl _ _ _ rfl (by decide)]
  by_cases c1:n≤1
  · have o:=hK (0,s) ⟨⟨Int.le_refl _,.inr rfl,by simp only;omega⟩,(Src.To.refl s).mono (by omega)⟩
    simp only [Src.c] at o ⊢
    simp -implicitDefEqProofs [c1]
    exact o
  obtain ⟨x,ex,x1,x2,x3⟩:=aou s (h.mono (by omega))
  obtain ⟨y,ey,y1,y2,y3⟩:=aou x.2 (h.to (k:=1) (j:=1) x3)
  have hn:¬ n=0:=by omega
  have md:∀ a:Int,0≤a→a≤65535→Pk n (a.tmod n):=fun a h0 h1=>by
    rw [Int.tmod_eq_emod_of_nonneg h0]
    have q1:=Int.emod_nonneg a hn
    have q2:=Int.emod_lt_of_pos a (b:=n) (by omega)
    have q3:a % n≤a:=by
      have:=Int.emod_def a n
      have:0≤n*(a / n):=Int.mul_nonneg (by omega) (Int.ediv_nonneg h0 (by omega))
      omega
    exact ⟨q1,.inl q2,by omega⟩
  by_cases c2:n > 200
  · have w1:IntKind.i64.wrap (x.1*256)=x.1*256:=wrap_i64 (by omega) (by omega)
    have w2:IntKind.i64.wrap (x.1*256+y.1)=x.1*256+y.1:=wrap_i64 (by omega) (by omega)
    have o:=hK ((x.1*256+y.1).tmod n,y.2) ⟨md _ (by omega) (by omega),x3.trans y3⟩
    simp only [Src.c] at ex ey o ⊢
    simp -implicitDefEqProofs [c1,ex,ey,c2,w1,w2,hn]
    exact o
  · have o:=hK (x.1.tmod n,x.2) ⟨md _ (by omega) (by omega),x3.mono (by omega)⟩
    simp only [Src.c] at ex o ⊢
    simp -implicitDefEqProofs [c1,ex,c2,hn]
    exact o
theorem one_ex (s:Src) (n:Int) (h:s.Rm 2):∃ x:Bool × Src,(∀ K:Out→Prop,Call prog 452 ⟨[.ptr 0 0,.i .i64 n],[s.c],[]⟩ K=K (.b x.1,[x.2.c],[]))∧s.To 2 x.2:=by
  refine aan (fun x:Bool × Src=>(.b x.1,[x.2.c],[])) _ fun K hK=>?_
  rw [aar (p:=prog) (f:=452) rfl _ _ _ rfl (by decide)]
  obtain ⟨x,ex,x1,x2⟩:=aam s n h
  have o:=hK (decide (x.1=0),x.2) x2
  simp only [Src.c] at ex o ⊢
  simp -implicitDefEqProofs [ex]
  exact o
theorem abl (q:Bool) (s:Src) (xs:List Int) (hx:xs≠[]) (hl:xs.length≤lim) (h:s.Rm 2):∃ x:Int × Src,(∀ K:Out→Prop,Call prog 474 ⟨[.ptr 0 0,.view q 1 (xs.map (V.i .i64))],[s.c],[]⟩ K=K (.i .i64 x.1,[x.2.c],[]))∧(x.1 ∈ xs∧s.To 2 x.2):=by
  refine aan (fun x:Int × Src=>(.i .i64 x.1,[x.2.c],[])) _ fun K hK=>?_
  rw [aar (p:=prog) (f:=474) rfl _ _ _ rfl (by decide)]
  obtain ⟨x,ex,x1,x2⟩:=aam s xs.length h
  have hp:0<xs.length:=List.length_pos_iff.2 hx
  obtain ⟨k,hk⟩:∃ k:Nat,x.1=k:=⟨x.1.toNat,by have:=x1.1;omega⟩
  have hlt:k<xs.length:=by have:=x1.2.1;omega
  have o:=hK (xs[k],x.2) ⟨List.getElem_mem hlt,x2⟩
  rw [hk] at ex
  simp only [Src.c] at ex o ⊢
  simp -implicitDefEqProofs [ex,hlt]
  exact o
theorem aht (q:Bool) (s:Src) (xs:List Bs) (hx:xs≠[]) (hl:xs.length≤lim) (h:s.Rm 2):∃ x:Bs × Src,(∀ K:Out→Prop,Call prog 504 ⟨[.ptr 0 0,.view q 1 (xs.map V.s)],[s.c],[]⟩ K=K (.s x.1,[x.2.c],[]))∧(x.1 ∈ xs∧s.To 2 x.2):=by
  refine aan (fun x:Bs × Src=>(.s x.1,[x.2.c],[])) _ fun K hK=>?_
  rw [aar (p:=prog) (f:=504) rfl _ _ _ rfl (by decide)]
  obtain ⟨x,ex,x1,x2⟩:=aam s xs.length h
  have hp:0<xs.length:=List.length_pos_iff.2 hx
  obtain ⟨k,hk⟩:∃ k:Nat,x.1=k:=⟨x.1.toNat,by have:=x1.1;omega⟩
  have hlt:k<xs.length:=by have:=x1.2.1;omega
  have o:=hK (xs[k],x.2) ⟨List.getElem_mem hlt,x2⟩
  rw [hk] at ex
  simp only [Src.c] at ex o ⊢
  simp -implicitDefEqProofs [ex,hlt]
  exact o
theorem awb (s:Src) (n:Int) (h:s.Rm 65540):∃ x:Bs × Src,(∀ K:Out→Prop,Call prog 522 ⟨[.ptr 0 0,.i .i64 n],[s.c],[]⟩ K=K (.s x.1,[x.2.c],[]))∧(x.1.length≤65535∧s.To 65540 x.2):=by
  refine aan (fun x:Bs × Src=>(.s x.1,[x.2.c],[])) _ fun K hK=>?_
  rw [aar (p:=prog) (f:=522) rfl _ _ _ rfl (by decide)]
  obtain ⟨x,ex,x1,x2⟩:=aam s n (h.mono (by omega))
  obtain ⟨k,hk⟩:∃ k:Nat,x.1=k:=⟨x.1.toNat,by have:=x1.1;omega⟩
  have hk2:k≤65535:=by have:=x1.2.2;omega
  rw [hk] at ex
  simp only [Src.c] at ex ⊢
  simp -implicitDefEqProofs [ex]
  refine WL_st (α:=Nat × Bs × Src) (fun a=>⟨sp 23 [(0,.ptr 0 0),(5,.sl 0 0 a.2.1.length false),(6,.i .i64 a.1)],[a.2.2.c],[.row 1 false (bytesV a.2.1)]⟩) (fun a=>a.1) (fun a=>a.1≤k∧a.2.1.length+a.1=k∧s.To (2+a.2.1.length) a.2.2) (k,[],x.2) _ (by simp -implicitDefEqProofs [Src.c,bytesV]) ⟨Nat.le_refl _,by simp,x2⟩ ?_
  rintro ⟨i,b,t⟩ ⟨h1,h2,h3⟩
  simp only at h1 h2 h3
  by_cases hi:0<i
  · obtain ⟨y,ey,y1,y2,y3⟩:=aou t (h.mono (j:=(2+b.length)+1) (by omega) |>.to h3)
    have w1:IntKind.i64.wrap ((i:Int) - 1)=(i:Int) - 1:=wrap_i64 (by omega) (by omega)
    have w2:IntKind.u8.wrap y.1=y.1:=wrap_u8 (by omega) (by omega)
    simp only [Src.c] at ey ⊢
    have hl:b.length+1≤1073741824:=by omega
    simp -implicitDefEqProofs [hi,ey,w1,w2,lim,hl]
    refine NextS.mk (i - 1,b++[UInt8.ofNat y.1.toNat],y.2) ⟨by simp only;omega,by simp;omega,by simpa [Nat.add_assoc] using h3.trans y3⟩ (by simp only;omega) ?_
    have e1:bytesV b++[V.i .u8 y.1]=bytesV (b++[UInt8.ofNat y.1.toNat]):=by
      have:((UInt8.ofNat y.1.toNat).toNat:Int)=y.1:=by rw [UInt8.toNat_ofNat_of_lt' (by simp [UInt8.size];omega)];omega
      simp [bytesV,this]
      try omega
    have e2:((i - 1:Nat):Int)=(i:Int) - 1:=by omega
    simp -implicitDefEqProofs [Src.c,e1,e2]
  · have hi0:¬ (0:Int)<i:=by omega
    have o:=hK (b,t) ⟨by simp only;omega,h3.mono (by omega)⟩
    simp only [Src.c] at o ⊢
    simp -implicitDefEqProofs [hi,hi0,cvsV,St.cont,aer]
    exact o
end Go.VS
end
section
namespace Go.VS
set_option maxRecDepth 4000
attribute [-simp] isLeaf okRet ridL V.leaves isLent expL
@[simp] theorem slv_tn (q:Bool) (z:Nat):slv true q z []=.nil:=by simp [slv]
def mkT (k s:Int) (sg bg:Bool) (c:Int):Ty:=.mk k s sg bg true [] true [] true [] true [] c
theorem mkT_w (k s:Int) (sg bg:Bool) (c:Int):(mkT k s sg bg c).w=.agg [.i .i64 k,.i .i64 s,.b sg,.b bg,.nil,.nil,.nil,.nil,.i .i64 c]:=by
  simp [mkT,Ty.w]
theorem als (k s:Int) (sg bg:Bool):Bare (mkT k s sg bg 0):=⟨rfl,rfl,rfl,rfl,rfl⟩
def IsI (t:Ty):Prop:=∃ s sg bg,t=mkT 1 s sg bg 0∧IntF t
theorem IsI.g {t:Ty} (h:IsI t):IntG t:=by
  obtain ⟨s,sg,bg,rfl,f⟩:=h
  exact { toIntF:=f,toBare:=als _ _ _ _ }
theorem IsI.kind {t:Ty} (h:IsI t):t.kind=1:=by obtain ⟨s,sg,bg,rfl,f⟩:=h;rfl
theorem ad2 (s:Src) (h:s.Rm 6):∃ x:Ty × Src,(∀ K:Out→Prop,Call prog 472 ⟨[.ptr 0 0],[s.c],[]⟩ K=K (x.1.w,[x.2.c],[]))∧(IsI x.1∧s.To 6 x.2):=by
  refine aan (fun x:Ty × Src=>(x.1.w,[x.2.c],[])) _ fun K hK=>?_
  rw [abo (p:=prog) (f:=472) rfl _ _ _ rfl (by decide)]
  obtain ⟨x,ex,x1,x2⟩:=abl false s [1,2,4,8] (by simp) (by simp [lim]) (h.mono (by omega))
  obtain ⟨y,ey,y1⟩:=one_ex x.2 2 (h.to (k:=2) (j:=4) x2 |>.mono (by omega))
  obtain ⟨z,ez,z1⟩:=one_ex y.2 3 (h.to (k:=2) (j:=4) x2 |>.to (k:=2) (j:=2) y1)
  have hs:x.1=1∨x.1=2∨x.1=4∨x.1=8:=by simpa using x1
  have oz:x.1≠1→K ((mkT 1 x.1 (if x.1=8 then true else y.1) z.1 0).w,[z.2.c],[]):=fun h1=>hK (mkT 1 x.1 (if x.1=8 then true else y.1) z.1 0,z.2) ⟨⟨_,_,_,rfl,⟨hs,fun h8=>by
    have h8:x.1=8:=h8
    show (if x.1=8 then true else y.1)=true
    rw [if_pos h8],fun h8=>absurd h8 h1⟩⟩,(x2.trans y1).trans z1⟩
  have oy:x.1=1→K ((mkT 1 1 y.1 false 0).w,[y.2.c],[]):=fun h1=>hK (mkT 1 1 y.1 false 0,y.2) ⟨⟨_,_,_,rfl,⟨.inl rfl,fun h8=>by have h8:(1:Int)=8:=h8;omega,fun _=>rfl⟩⟩,(x2.trans y1).mono (by omega)⟩
  simp only [mkT_w,Src.c,Tag_eq] at ex ey ez oz oy ⊢
  simp only [List.map_cons,List.map_nil,Tag_eq] at ex
  rcases hs with h1 | h1 | h1 | h1 <;> simp only [h1,Tag_eq] at ex oz oy <;> simp at oz oy
  · simp -implicitDefEqProofs [ex,ey]
    exact oy
  all_goals
    simp -implicitDefEqProofs [ex,ey,ez]
    exact oz
end Go.VS
end
section
namespace Go.VS
set_option maxRecDepth 4000
attribute [-simp] isLeaf okRet ridL V.leaves isLent expL
def six:List Bs:=[[82,69,68],[71,82,69,69,78],[66,76,85,69],[88],[89],[90]]
theorem aud:∀ i:Fin 6,isName (six.getD i.val [])=true:=by decide +kernel
theorem six_df:∀ i j:Fin 6,i≠j→six.getD i.val []≠six.getD j.val []:=by decide +kernel
def mkEn (ns:List Bs) (us:List Int) (b:Ty):Ty:=.mk 3 0 false false false ns false us true [] false [b] 0
theorem mkEn_w (ns:List Bs) (us:List Int) (b:Ty):(mkEn ns us b).w=.agg [.i .i64 3,.i .i64 0,.b false,.b false,.view true 1 (ns.map .s),.view true 1 (us.map (.i .i64)),.nil,.view true 9 [b.w],.i .i64 0]:=by
  simp [mkEn,Ty.w,slv,Ty.v_w]
structure EnP (f k:Nat) (L:Int) (kk n:Int) (ns:List Bs) (us:List Int):Prop where
  k0:-1≤kk
  k1:(ns.length:Int)=k - kk
  kl:us.length=ns.length
  nl:L≤n
  nh:n≤2+9*(ns.length:Int)
  n2:-2≤n
  nm:∀ i,i<ns.length→ns.getD i []=six.getD ((f+(k - i)) % 6) []
  u1:∀ i,i<us.length→L≤us.getD i 0∧us.getD i 0<n
  u2:∀ i,i<us.length→0<i→us.getD (i - 1) 0<us.getD i 0
theorem ahc {α:Type} (l:List α) (a d:α) (i:Nat):(l++[a]).getD i d=if i<l.length then l.getD i d else if i=l.length then a else d:=by
  simp only [List.getD_eq_getElem?_getD,List.getElem?_append]
  split
  · rfl
  · rename_i h
    by_cases e:i=l.length
    · subst e;simp
    · rw [if_neg e,List.getElem?_eq_none (by simp;omega)];rfl
theorem EnP.step {f k:Nat} {L kk n p:Int} {ns:List Bs} {us:List Int} (h:EnP f k L kk n ns us) (hk:0≤kk) (h0:0≤p) (h8:p≤8):
    EnP f k L (kk - 1) (n+1+p) (ns++[six.getD ((f+kk.toNat) % 6) []]) (us++[n]):=by
  have:=h.k1;have:=h.kl;have:=h.nl;have:=h.nh;have:=h.n2
  refine ⟨by omega,by simp;omega,by simp [h.kl],by omega,by simp;omega,by omega,fun i hi=>?_,fun i hi=>?_,fun i hi h0=>?_⟩
  · rw [ahc]
    simp at hi
    split
    · rename_i hlt;exact h.nm i hlt
    · rename_i hlt
      rw [if_pos (by omega)]
      congr 3
      omega
  · rw [ahc]
    simp at hi
    split
    · rename_i hlt;have:=h.u1 i hlt;omega
    · rw [if_pos (by omega)];omega
  · rw [ahc,ahc]
    simp at hi
    rw [if_pos (by omega)]
    split
    · rename_i hlt;exact h.u2 i hlt h0
    · rw [if_pos (by omega)];exact (h.u1 (i - 1) (by omega)).2
theorem lo_le {b:Ty} (f:IntF b):lo b.size b.sg≤0∧(b.sg=true→lo b.size b.sg≤-128)∧(b.sg=false→lo b.size b.sg=0)∧127≤hi b.size b.sg:=by
  rcases f.s with e | e | e | e <;> cases h:b.sg <;> rw [e] <;> simp [lo,hi] <;> (try decide)
theorem EnP.gd {f k:Nat} {n:Int} {ns:List Bs} {us:List Int} {b:Ty} (hb:IsI b) (h:EnP f k (lo b.size b.sg) (-1) n ns us) (hk:k≤3):Gd 1 (mkEn ns us b):=by
  have h1:=h.k1
  have h2:=h.kl
  have hl:=lo_le hb.g.toIntF
  refine .inr (.inr (.inl ⟨rfl,⟨⟨rfl,rfl⟩,rfl,rfl,rfl,?_,?_,h2,b,rfl,hb.kind,hb.g,fun i hi=>⟨?_,?_,?_,?_,?_⟩⟩⟩))
  · show 1≤ns.length;omega
  · show ns.length≤6;omega
  · have hi:i<ns.length:=hi
    show isName (ns.getD i [])=true
    rw [h.nm i hi]
    exact aud ⟨_,Nat.mod_lt _ (by decide)⟩
  · have hi:i<ns.length:=hi
    exact (h.u1 i (by omega)).1
  · have hi:i<ns.length:=hi
    have:=(h.u1 i (by omega)).2
    have:=h.nh
    show us.getD i 0≤_
    omega
  · have hi:i<ns.length:=hi
    exact h.u2 i (by omega)
  · have hi:i<ns.length:=hi
    intro j hj
    show ns.getD j []≠ns.getD i []
    rw [h.nm i hi,h.nm j (by omega)]
    exact six_df ⟨_,Nat.mod_lt _ (by decide)⟩ ⟨_,Nat.mod_lt _ (by decide)⟩ (by simp only [ne_eq,Fin.mk.injEq];omega)
def IsE (t:Ty):Prop:=Gd 1 t∧t.kind=3∧1≤t.sz∧t.sz≤8∧t.tot≤100
set_option maxHeartbeats 2000000 in
theorem air (s:Src) (h:s.Rm 20):∃ x:Ty × Src,(∀ K:Out→Prop,Call prog 473 ⟨[.ptr 0 0],[s.c],[]⟩ K=K (x.1.w,[x.2.c],[]))∧(IsE x.1∧s.To 20 x.2):=by
  refine aan (fun x:Ty × Src=>(x.1.w,[x.2.c],[])) _ fun K hK=>?_
  rw [abo (p:=prog) (f:=473) rfl _ _ _ rfl (by decide)]
  obtain ⟨x,ex,x1,x2⟩:=ad2 s (h.mono (by omega))
  obtain ⟨y,ey,y1,y2⟩:=aam x.2 6 (h.to (k:=6) (j:=14) x2 |>.mono (by omega))
  have r1:=h.to (k:=6) (j:=14) x2 |>.to (k:=2) (j:=12) y2
  obtain ⟨z,ez,z1,z2⟩:=aam y.2 5 (r1.mono (by omega))
  have r2:=r1.to (k:=2) (j:=10) z2
  obtain ⟨w,ew,w1,w2⟩:=aam z.2 4 (r2.mono (by omega))
  have r3:=r2.to (k:=2) (j:=8) w2
  have t3:=((x2.trans y2).trans z2).trans w2
  obtain ⟨f,hf⟩:∃ f:Nat,y.1=f:=⟨y.1.toNat,by have:=y1.1;omega⟩
  obtain ⟨k,hk⟩:∃ k:Nat,w.1=k:=⟨w.1.toNat,by have:=w1.1;omega⟩
  have f5:f≤5:=by have:=y1.2.1;omega
  have k3:k≤3:=by have:=w1.2.1;omega
  have z4:z.1≤4:=by have:=z1.2.1;omega
  have z0:=z1.1
  have hI:=x1.g.toIntF
  obtain ⟨hl1,hl2,hl3,hl4⟩:=lo_le hI
  have er:=ac7 x.1 hI
  obtain ⟨b,src1⟩:=x
  simp only at x1 hI hl1 hl2 hl3 hl4 er x2 ex ey
  have hE:∀ (n:Int) (ns:List Bs) (us:List Int) (sr:Src),EnP f k (lo b.size b.sg) (-1) n ns us→z.2.To 10 sr→K ((mkEn ns us b).w,[sr.c],[]):=fun n ns us sr hp ht=>by
    refine hK (mkEn ns us b,sr) ⟨⟨hp.gd x1 k3,rfl,?_,?_,?_⟩,((x2.trans y2).trans z2).trans ht |>.mono (by omega)⟩
    · show 1≤b.size;rcases hI.s with e | e | e | e <;> omega
    · show b.size≤8;rcases hI.s with e | e | e | e <;> omega
    · have h1:=hp.k1
      have h2:=hp.kl
      have hb0:b.tot=0:=by
        obtain ⟨s,sg,bg,rfl,_⟩:=x1
        simp [mkT,Ty.tot,Mb.tots,Ty.tots,totS,sumL]
      have hl5:∀ i:Fin 6,(six.getD i.val []).length≤5:=by decide
      have hn:totS ns≤30:=by
        have hm:∀ x,x ∈ ns→x.length≤5:=fun x hx=>by
          obtain ⟨i,hi,rfl⟩:=List.getElem_of_mem hx
          have:=hp.nm i hi
          rw [List.getD_eq_getElem?_getD,List.getElem?_eq_getElem hi] at this
          simp only [Option.getD_some] at this
          rw [this]
          exact hl5 ⟨_,Nat.mod_lt _ (by decide)⟩
        have hs:∀ l:List Bs,(∀ x,x ∈ l→x.length≤5)→sumL l≤5*l.length:=fun l=>by
          induction l with
          | nil=>intro _;simp [sumL]
          | cons a l ih=>
            intro h
            have:=ih fun x hx=>h x (by simp [hx])
            have:=h a (by simp)
            simp [sumL] at *
            omega
        have:=hs ns hm
        unfold totS
        omega
      simp [mkEn,Ty.tot,Mb.tots,Ty.tots,hb0]
      omega
  rw [hf] at ey
  rw [hk] at ew
  have wz:IntKind.i64.wrap (z.1 - 2)=z.1 - 2:=wrap_i64 (by omega) (by omega)
  have em:=aem (lo b.size b.sg) (z.1 - 2)
  generalize hn0:(if z.1 - 2<lo b.size b.sg then lo b.size b.sg else z.1 - 2)=n0 at em
  have hn1:lo b.size b.sg≤n0∧n0≤2:=by rw [← hn0];split <;> omega
  have hn2:-2≤n0:=by rw [← hn0];split <;> omega
  have hbw:b.w.cells=[.i .i64 b.kind,.i .i64 b.size,.b b.sg,.b b.bg,.nil,.nil,.nil,.nil,.i .i64 b.count]:=by
    obtain ⟨s,sg,bg,rfl,_⟩:=x1
    rw [mkT_w];rfl
  have hbv:b.w=.agg [.i .i64 b.kind,.i .i64 b.size,.b b.sg,.b b.bg,.nil,.nil,.nil,.nil,.i .i64 b.count]:=by
    obtain ⟨s,sg,bg,rfl,_⟩:=x1
    rw [mkT_w];rfl
  simp only [mkEn_w,hbv,Src.c,Tag_eq] at ex ey ez ew er em hE ⊢
  simp -implicitDefEqProofs [ex,ey,ez,ew,er,em,wz]
  refine WL_st (α:=Int × Int × List Bs × List Int × Src) (fun a=>⟨sp 72 [(0,.ptr 0 0),(2,.ptr 1 0),(3,.ptr 2 0),(4,.sl 3 0 6 false),(5,.i .i64 f),(7,.i .i64 (hi b.size b.sg)),(8,.i .i64 a.2.1),(9,.i .i64 a.1)],
    [a.2.2.2.2.c,[.i .i64 0,.i .i64 0,.b false,.b false,.nil,.nil,.nil,.nil,.i .i64 0],[.i .i64 3,.i .i64 0,.b false,.b false,.sl 0 0 a.2.2.1.length false,.sl 1 0 a.2.2.2.1.length false,.nil,.sl 2 0 1 false,.i .i64 0]],
    [.row 1 false (a.2.2.1.map .s),.row 1 false (a.2.2.2.1.map (.i .i64)),.row 9 false [.agg [.i .i64 b.kind,.i .i64 b.size,.b b.sg,.b b.bg,.nil,.nil,.nil,.nil,.i .i64 b.count]],.row 1 false (six.map .s)]⟩)
    (fun a=>(a.1+1).toNat) (fun a=>EnP f k (lo b.size b.sg) a.1 a.2.1 a.2.2.1 a.2.2.2.1∧z.2.To (2+2*a.2.2.1.length) a.2.2.2.2) (k,n0,[],[],w.2) _ (by simp -implicitDefEqProofs [Src.c,six]) ⟨⟨by simp only;omega,by simp,rfl,hn1.1,by simp;omega,hn2,fun i hi=>by simp at hi,fun i hi=>by simp at hi,fun i hi=>by simp at hi⟩,by simpa using w2⟩ ?_
  rintro ⟨kk,n,ns,us,sr⟩ ⟨hP,hT⟩
  simp only at hP hT
  by_cases hk0:0≤kk
  · obtain ⟨v,ev,v1,v2⟩:=aam sr 9 (by
      have:=hP.k1
      exact (r2.mono (j:=(2+2*ns.length)+2) (by omega)).to hT)
    have v8:v.1≤8:=by have:=v1.2.1;omega
    have v0:=v1.1
    have h1:=hP.k1
    have h2:=hP.kl
    have h3:=hP.nl
    have h4:=hP.nh
    have h5:=hP.n2
    obtain ⟨q,rfl⟩:∃ q:Nat,kk=q:=⟨kk.toNat,by omega⟩
    have wa:IntKind.i64.wrap ((f:Int)+q)=(f:Int)+q:=wrap_i64 (by omega) (by omega)
    have wm:((f:Int)+q).tmod 6=(((f+q) % 6:Nat):Int):=by rw [Int.tmod_eq_emod_of_nonneg (by omega)];omega
    have hix:(f+q) % 6<6:=Nat.mod_lt _ (by decide)
    have hg:∀ j,j<6→(Option.map V.s six[j]?).getD .no=.s (six.getD j []):=fun j hj=>by
      have hj:j<six.length:=hj
      simp [List.getD_eq_getElem?_getD,List.getElem?_eq_getElem hj]
    have w1:IntKind.i64.wrap (n+1)=n+1:=wrap_i64 (by omega) (by omega)
    have w2:IntKind.i64.wrap (n+1+v.1)=n+1+v.1:=wrap_i64 (by omega) (by omega)
    have w3:IntKind.i64.wrap ((q:Int) - 1)=(q:Int) - 1:=wrap_i64 (by omega) (by omega)
    have el:=ace (n+1+v.1) (hi b.size b.sg)
    rw [Int.min_eq_left (by omega)] at el
    have hs:=hP.step hk0 v0 v8
    rw [Int.toNat_natCast] at hs
    generalize hnm:six.getD ((f+q) % 6) []=nm at hs
    have hg:(Option.map V.s six[(f+q) % 6]?).getD .no=.s nm:=by rw [hg _ hix,hnm]
    simp only [Src.c,Tag_eq] at ev ⊢
    generalize hix2:(f+q) % 6=j at *
    have hgj:=hg
    have hixI:((j:Nat):Int)<6:=by omega
    have l1:ns.length+1≤lim:=by unfold lim;omega
    have l2:us.length+1≤lim:=by unfold lim;omega
    have hle:¬ n+1+v.1≤n:=by omega
    have wl:IntKind.i64.wrap (us.length:Int)=us.length:=wrap_i64 (by omega) (by omega)
    have hla:(us.map (V.i .i64)++[V.i .i64 n])[us.length]?=some (V.i .i64 n):=by rw [List.getElem?_append_right (by simp)];simp
    have hlt:(us.length:Int)<us.length+1:=by omega
    simp -implicitDefEqProofs [hk0,wa,wm,hix,hixI,hgj,ev,w1,w2,w3,el,l1,l2,hle,wl,hla,hlt]
    refine NextS.mk ((q:Int) - 1,n+1+v.1,ns++[nm],us++[n],v.2) ⟨hs,by simpa [Nat.add_assoc,Nat.mul_add] using hT.trans v2⟩ (by simp only;omega) ?_
    simp -implicitDefEqProofs [Src.c,six]
  · have:kk=-1:=by have:=hP.k0;omega
    subst this
    have h1:=hP.k1
    have o:=hE n ns us sr hP (hT.mono (by omega))
    simp only [Src.c] at o ⊢
    simp -implicitDefEqProofs [o]
end Go.VS
end
section
namespace Go.VS
set_option maxRecDepth 4000
attribute [-simp] isLeaf okRet ridL V.leaves isLent expL
def dr1:C:=.r [.alc 6 [.i .i64 0,.i .i64 0,.b false,.b false,.nil,.nil,.nil,.nil,.i .i64 0]]
def dr2:C:=.r [.mv 16 (.t 0),.call (some 17) 450 [((.t 16),.m 3),((.c (.i .i64 6)),.b 0)],.bin 18 .add (.c (.i .i64 1)) (.t 17),.mv 7 (.t 18)]
def dr3:C:=.blk 0 (.seq (.r [.mv 20 (.t 7),.bin 21 .eql (.t 20) (.c (.i .i64 2)),.mv 19 (.t 21)])
 (.cond (.t 19) (.seq (.r [.mv 22 (.t 0),.mv 23 (.t 2),.call (some 24) 249 [((.t 23),.b 0),((.c (.i .i64 8)),.b 0)],.call (some 25) 450 [((.t 22),.m 3),((.t 24),.b 0)],.bin 26 .add (.c (.i .i64 1)) (.t 25),.bld 27 [.i .i64 0,.i .i64 0,.b false,.b false,.nil,.nil,.nil,.nil,.i .i64 0] [(0,1,(.c (.i .i64 2))),(1,1,(.t 26))],.st (.t 6) (.t 27) 9])
 (.ret))
 (.seq (.r [.mv 29 (.t 7),.bin 30 .eql (.t 29) (.c (.i .i64 3)),.mv 28 (.t 30)])
 (.cond (.t 28) (.seq (.r [.mv 31 (.t 0),.call (some 32) 473 [((.t 31),.m 3)],.alc 8 [.i .i64 0,.i .i64 0,.b false,.b false,.nil,.nil,.nil,.nil,.i .i64 0],.st (.t 8) (.t 32) 9])
 (.seq (.r [.ld 33 (.t 8) 9 true,.call (some 34) 487 [((.t 33),.b 0)],.mv 35 (.t 2),.bin 36 .leq (.t 34) (.t 35)])
 (.cond (.t 36) (.seq (.r [.ld 37 (.t 8) 9 true,.st (.t 6) (.t 37) 9])
 (.ret))
 (.skip))))
 (.seq (.r [.mv 39 (.t 7),.bin 40 .eql (.t 39) (.c (.i .i64 4)),.mv 41 (.t 40),.g 41 true (some 42) (.mv 42 (.t 1)),.g 41 true (some 43) (.bin 43 .gtr (.t 42) (.c (.i .i64 1))),.pick 44 (.t 41) (.t 43) (.c (.b false)),.mv 38 (.t 44)])
 (.cond (.t 38) (.seq (.r [.bld 45 [.i .i64 0,.i .i64 0,.b false,.b false,.nil,.nil,.nil,.nil,.i .i64 0] [(0,1,(.c (.i .i64 4)))],.alc 9 [.i .i64 0,.i .i64 0,.b false,.b false,.nil,.nil,.nil,.nil,.i .i64 0],.st (.t 9) (.t 45) 9])
 (.seq (.r [.mv 10 (.c (.i .i64 0))])
 (.seq (.r [.bsl 46 1 [(.c (.s [88])),(.c (.s [89])),(.c (.s [90])),(.c (.s [97]))],.mv 11 (.t 46)])
 (.seq (.seq (.r [.mv 12 (.c (.i .i64 0))])
 (.blk 1 (.loop [0,1,2,6,9,10,11,12] [] [(2,6,11)] (.seq (.seq (.r [.mv 47 (.t 12),.mv 48 (.t 0),.call (some 49) 450 [((.t 48),.m 3),((.c (.i .i64 3)),.b 0)],.bin 50 .leq (.t 47) (.t 49),.mv 51 (.t 50),.g 51 true (some 52) (.mv 52 (.t 10)),.g 51 true (some 53) (.mv 53 (.t 2)),.g 51 true (some 54) (.bin 54 .lss (.t 52) (.t 53)),.pick 55 (.t 51) (.t 54) (.c (.b false))])
 (.cond (.t 55) (.skip)
 (.ex 1)))
 (.seq (.blk 2 (.seq (.ra [.mv 58 (.t 11),.mv 59 (.t 12),.ck (.sb (.t 58) (.t 11)) (.ixa 60 (.t 58) (.t 59) 1),.ck (.sb (.t 60) (.t 11)) (.ld 61 (.t 60) 1 false),.mv 62 (.t 10),.mv 63 (.t 0),.ck (.dj [.t 11]) (.call (some 64) 450 [((.t 63),.m 3),((.c (.i .i64 6)),.b 0)]),.bin 65 .quo (.t 64) (.c (.i .i64 4)),.bin 66 .add (.t 62) (.t 65),.mv 67 (.t 2),.bin 68 .sub (.t 67) (.c (.i .i64 1)),.ck (.dq []) (.call (some 69) 249 [((.t 66),.b 0),((.t 68),.b 0)]),.bld 70 [.s [],.i .i64 0,.i .i64 0,.i .i64 0,.b false,.b false,.nil,.nil,.nil,.nil,.i .i64 0] [(0,1,(.t 61)),(1,1,(.t 69))],.alc 13 [.s [],.i .i64 0,.i .i64 0,.i .i64 0,.b false,.b false,.nil,.nil,.nil,.nil,.i .i64 0],.st (.t 13) (.t 70) 11] [6,11,13] [[0,1,2,3,4,5,6,7,8,9,10,11,12,13,14],[0,1,2,3,4,5,6,7,8,9,10,13,11,12,14],[0,1,2,3,4,5,9,10,13,6,7,8,11,12,14]])
 (.seq (.r [.mv 71 (.t 0),.mv 72 (.t 1),.bin 73 .sub (.t 72) (.c (.i .i64 1)),.mv 74 (.t 2),.fad 75 (.t 13) 1,.ld 76 (.t 75) 1 false,.bin 77 .sub (.t 74) (.t 76),.call (some 78) 449 [((.t 71),.m 3),((.t 73),.b 0),((.t 77),.b 0)],.fad 79 (.t 13) 2,.st (.t 79) (.t 78) 9])
 (.seq (.r [.fad 80 (.t 13) 1,.ld 81 (.t 80) 1 false,.fad 82 (.t 13) 2,.ld 83 (.t 82) 9 true,.call (some 84) 487 [((.t 83),.b 0)],.bin 85 .add (.t 81) (.t 84),.mv 10 (.t 85)])
 (.r [.fad 86 (.t 9) 6,.ld 87 (.t 86) 1 false,.ld 88 (.t 13) 11 true,.bsl 89 11 [(.t 88)],.app 90 (.t 87) (.t 89) 11,.fad 91 (.t 9) 6,.st (.t 91) (.t 90) 1])))))
 (.r [.mv 56 (.t 12),.bin 57 .add (.t 56) (.c (.i .i64 1)),.mv 12 (.t 57)]))))))
 (.seq (.r [.mv 92 (.t 2),.mv 93 (.t 10),.mv 94 (.t 0),.call (some 95) 450 [((.t 94),.m 3),((.c (.i .i64 6)),.b 0)],.bin 96 .quo (.t 95) (.c (.i .i64 4)),.bin 97 .add (.t 93) (.t 96),.call (some 98) 249 [((.t 92),.b 0),((.t 97),.b 0)],.fad 99 (.t 9) 1,.st (.t 99) (.t 98) 1])
 (.seq (.r [.ld 100 (.t 9) 9 true,.st (.t 6) (.t 100) 9])
 (.ret)))))))
 (.seq (.r [.mv 102 (.t 7),.bin 103 .eql (.t 102) (.c (.i .i64 5)),.mv 104 (.t 103),.g 104 true (some 105) (.mv 105 (.t 1)),.g 104 true (some 106) (.bin 106 .gtr (.t 105) (.c (.i .i64 1))),.pick 107 (.t 104) (.t 106) (.c (.b false)),.mv 101 (.t 107)])
 (.cond (.t 101) (.seq (.r [.mv 108 (.t 0),.call (some 109) 450 [((.t 108),.m 3),((.c (.i .i64 4)),.b 0)],.bin 110 .add (.c (.i .i64 1)) (.t 109),.mv 14 (.t 110)])
 (.seq (.r [.mv 111 (.t 2),.mv 112 (.t 14),.bin 113 .quo (.t 111) (.t 112),.bin 114 .gtr (.t 113) (.c (.i .i64 0))])
 (.cond (.t 114) (.seq (.r [.mv 115 (.t 14),.mv 116 (.t 0),.mv 117 (.t 1),.bin 118 .sub (.t 117) (.c (.i .i64 1)),.mv 119 (.t 2),.mv 120 (.t 14),.bin 121 .quo (.t 119) (.t 120),.call (some 122) 449 [((.t 116),.m 3),((.t 118),.b 0),((.t 121),.b 0)],.bsl 123 9 [(.t 122)],.bld 124 [.i .i64 0,.i .i64 0,.b false,.b false,.nil,.nil,.nil,.nil,.i .i64 0] [(0,1,(.c (.i .i64 5))),(8,1,(.t 115)),(7,1,(.t 123))],.st (.t 6) (.t 124) 9])
 (.ret))
 (.skip))))
 (.seq (.r [.mv 126 (.t 7),.bin 127 .eql (.t 126) (.c (.i .i64 6)),.mv 128 (.t 127),.g 128 true (some 129) (.mv 129 (.t 2)),.g 128 true (some 130) (.bin 130 .geq (.t 129) (.c (.i .i64 2))),.pick 131 (.t 128) (.t 130) (.c (.b false)),.mv 125 (.t 131)])
 (.cond (.t 125) (.seq (.r [.bld 132 [.i .i64 0,.i .i64 0,.b false,.b false,.nil,.nil,.nil,.nil,.i .i64 0] [(0,1,(.c (.i .i64 6))),(1,1,(.c (.i .i64 2)))],.st (.t 6) (.t 132) 9])
 (.ret))
 (.skip)))))))))))
def dr4:C:=.seq (.r [.mv 133 (.t 0),.call (some 134) 472 [((.t 133),.m 3)],.alc 15 [.i .i64 0,.i .i64 0,.b false,.b false,.nil,.nil,.nil,.nil,.i .i64 0],.st (.t 15) (.t 134) 9])
 (.seq (.blk 3 (.loop [2,6,15] [] [] (.seq (.seq (.r [.fad 135 (.t 15) 1,.ld 136 (.t 135) 1 false,.mv 137 (.t 2),.bin 138 .gtr (.t 136) (.t 137)])
 (.cond (.t 138) (.skip)
 (.ex 3)))
 (.blk 4 (.r [.fad 139 (.t 15) 1,.ld 140 (.t 139) 1 false,.bin 141 .quo (.t 140) (.c (.i .i64 2)),.fad 142 (.t 15) 1,.st (.t 142) (.t 141) 1])))))
 (.seq (.seq (.r [.fad 143 (.t 15) 1,.ld 144 (.t 143) 1 false,.bin 145 .eql (.t 144) (.c (.i .i64 1))])
 (.cond (.t 145) (.r [.fad 146 (.t 15) 3,.st (.t 146) (.c (.b false)) 1])
 (.skip)))
 (.seq (.r [.ld 147 (.t 15) 9 true,.st (.t 6) (.t 147) 9])
 (.ret))))
theorem dr_at:prog 449=some (.fin 3 148 [.c 6 9 true] (.seq dr1 (.seq dr2 (.seq dr3 dr4)))):=rfl
abbrev z9:List V:=[.i .i64 0,.i .i64 0,.b false,.b false,.nil,.nil,.nil,.nil,.i .i64 0]
set_option maxHeartbeats 1000000 in
theorem dr4_ok (l:List (Nat × V)) (en:List (List V)) (hen:en=[]∨∃ c,en=[c]) (s:Src) (most:Int) (K:Out→Prop) (h0:lk 0 l=.ptr 0 0) (h2:lk 2 l=.i .i64 most) (h6:lk 6 l=.ptr 1 0) (hm:1≤most) (h:s.Rm 6)
    (hK:∀ t sr,IsI t→t.size≤most→s.To 6 sr→K (t.w,[sr.c],[])):W prog dr4 ⟨sp 148 l,s.c :: z9 :: en,[]⟩ (finF [.c 6 9 true] 1 K):=by
  obtain ⟨x,ex,x1,x2⟩:=ad2 s h
  obtain ⟨t,sr⟩:=x
  simp only at ex x1 x2
  obtain ⟨sz,sg,bg,rfl,f⟩:=x1
  have hs:sz=1∨sz=2∨sz=4∨sz=8:=f.s
  have hg:sz=8→sg=true:=f.g
  have o:∀ z:Int,(z=1∨z=2∨z=4∨z=8)→(z=8→sg=true)→z≤most→K ((mkT 1 z sg (if z=1 then false else bg) 0).w,[sr.c],[]):=fun z q1 q2 q3=>
    hK _ sr ⟨z,sg,_,rfl,⟨q1,q2,fun (e:z=1)=>if_pos e⟩⟩ q3 x2
  simp only [mkT_w,Src.c,z9,Tag_eq] at ex o ⊢
  unfold dr4
  rcases hen with rfl | ⟨c,rfl⟩
  · simp -implicitDefEqProofs [h0,h2,h6,ex]
    refine WL_st (α:=Int × List V) (fun a=>⟨sp 148 [(2,.i .i64 most),(6,.ptr 1 0),(15,.ptr 2 0)],[sr.c,z9,[.i .i64 1,.i .i64 a.1,.b sg,.b bg,.nil,.nil,.nil,.nil,.i .i64 0]],[]⟩) (fun a=>a.1.toNat) (fun a=>(a.1=1∨a.1=2∨a.1=4∨a.1=8)∧(a.1=8→sg=true)) (sz,[]) _ (by simp -implicitDefEqProofs [Src.c,z9,h0,h2,h6]) ⟨hs,hg⟩ ?_
    rintro ⟨a,c'⟩ ⟨q1,q2⟩
    simp only at q1 q2
    simp only [Src.c,z9]
    by_cases hgt:most<a
    · have q3:a.tdiv 2=1∨a.tdiv 2=2∨a.tdiv 2=4:=by rcases q1 with e | e | e | e <;> rw [e] <;> first | omega | decide
      have q4:(a.tdiv 2).toNat<a.toNat:=by rcases q1 with e | e | e | e <;> rw [e] <;> first | (exfalso;omega) | decide
      have w1:IntKind.i64.wrap (a.tdiv 2)=a.tdiv 2:=wrap_i64 (by omega) (by omega)
      simp -implicitDefEqProofs [hgt,w1]
      refine NextS.mk (a.tdiv 2,[]) ⟨by simp only;omega,fun e=>by simp only at e;omega⟩ q4 ?_
      simp -implicitDefEqProofs [Src.c,z9]
    · have oo:=o a q1 q2 (by omega)
      by_cases h1:a=1
      · subst h1
        simp at oo
        simp -implicitDefEqProofs [hgt]
        exact oo
      · rw [if_neg h1] at oo
        simp -implicitDefEqProofs [hgt,h1]
        exact oo
  · simp -implicitDefEqProofs [h0,h2,h6,ex]
    refine WL_st (α:=Int × List V) (fun a=>⟨sp 148 [(2,.i .i64 most),(6,.ptr 1 0),(15,.ptr 3 0)],[sr.c,z9,a.2,[.i .i64 1,.i .i64 a.1,.b sg,.b bg,.nil,.nil,.nil,.nil,.i .i64 0]],[]⟩) (fun a=>a.1.toNat) (fun a=>(a.1=1∨a.1=2∨a.1=4∨a.1=8)∧(a.1=8→sg=true)) (sz,c.map (renL 4 [])) _ (by simp -implicitDefEqProofs [Src.c,z9,h0,h2,h6]) ⟨hs,hg⟩ ?_
    rintro ⟨a,c'⟩ ⟨q1,q2⟩
    simp only at q1 q2
    simp only [Src.c,z9]
    by_cases hgt:most<a
    · have q3:a.tdiv 2=1∨a.tdiv 2=2∨a.tdiv 2=4:=by rcases q1 with e | e | e | e <;> rw [e] <;> first | omega | decide
      have q4:(a.tdiv 2).toNat<a.toNat:=by rcases q1 with e | e | e | e <;> rw [e] <;> first | (exfalso;omega) | decide
      have w1:IntKind.i64.wrap (a.tdiv 2)=a.tdiv 2:=wrap_i64 (by omega) (by omega)
      simp -implicitDefEqProofs [hgt,w1]
      refine NextS.mk (a.tdiv 2,c'.map (renL 4 [])) ⟨by simp only;omega,fun e=>by simp only at e;omega⟩ q4 ?_
      simp -implicitDefEqProofs [Src.c,z9]
    · have oo:=o a q1 q2 (by omega)
      by_cases h1:a=1
      · subst h1
        simp at oo
        simp -implicitDefEqProofs [hgt]
        exact oo
      · rw [if_neg h1] at oo
        simp -implicitDefEqProofs [hgt,h1]
        exact oo
end Go.VS
end
section
namespace Go.VS
set_option maxRecDepth 4000
attribute [-simp] isLeaf okRet ridL V.leaves isLent expL
def Td (d:Nat):Nat:=100*4 ^ d
def Rd (d:Nat):Nat:=1000*5 ^ d
theorem Td_s (d:Nat):Td (d+1)=4*Td d:=by unfold Td;rw [Nat.pow_succ];omega
theorem Rd_s (d:Nat):Rd (d+1)=5*Rd d:=by unfold Rd;rw [Nat.pow_succ];omega
theorem Td_g (d:Nat):100≤Td d:=by unfold Td;have:=Nat.pow_pos (n:=d) (show 0<4 by decide);omega
theorem Rd_g (d:Nat):1000≤Rd d:=by unfold Rd;have:=Nat.pow_pos (n:=d) (show 0<5 by decide);omega
structure DrG (d:Nat) (most:Int) (t:Ty):Prop where
  g:Gd d t
  s1:1≤t.sz
  sm:t.sz≤most
  tt:t.tot≤Td d
theorem Gd.up {t:Ty} (h:Gd 1 t):∀ d,Gd (d+1) t
  | 0=>h
  | d+1=>(Gd.up h d).mono
def four:List Bs:=[[88],[89],[90],[97]]
theorem au6:∀ i:Fin 4,isName (four.getD i.val [])=true:=by decide +kernel
theorem au5:∀ i j:Fin 4,i≠j→four.getD i.val []≠four.getD j.val []:=by decide +kernel
theorem ato:∀ i:Fin 4,(four.getD i.val []).length=1:=by decide +kernel
theorem aj9 (ms:List Mb) (m:Mb) {i:Nat} (h:i≤ms.length):endOf (ms++[m]) i=endOf ms i:=by
  unfold endOf
  by_cases h0:i=0
  · simp [h0]
  · rw [if_neg h0,if_neg h0,List.getElem?_append_left (by omega)]
theorem aqm (ms:List Mb) (m:Mb):endOf (ms++[m]) (ms.length+1)=m.off+m.ty.sz:=by
  unfold endOf
  rw [if_neg (by omega)];simp
structure CmP (n:Nat) (most a:Int) (ms:List Mb):Prop where
  a0:0≤a
  a1:a≤most
  en:endOf ms ms.length=a
  l3:ms.length≤3
  ne:1≤ms.length→1≤a
  nm:∀ i m,ms[i]?=some m→m.name=four.getD i []
  mb:∀ i m,ms[i]?=some m→endOf ms i≤m.off∧m.off≤23∧Gd n m.ty∧m.ty.tot≤Td n
theorem CmP.nil (n:Nat) (most:Int) (h:0≤most):CmP n most 0 []:=⟨Int.le_refl _,h,rfl,by simp,fun h=>by simp at h,fun i m h=>by simp at h,fun i m h=>by simp at h⟩
theorem CmP.step {n:Nat} {most a:Int} {ms:List Mb} (h:CmP n most a ms) (hl:ms.length≤2) {o:Int} (ho:a≤o) (hm:o≤most - 1) (h24:most≤24) {t:Ty} (ht:DrG n (most - o) t):
    CmP n most (o+t.sz) (ms++[.mk (four.getD ms.length []) o t]):=by
  have:=h.a0;have:=ht.s1;have:=ht.sm
  have hg:∀ i m,(ms++[Mb.mk (four.getD ms.length []) o t])[i]?=some m→(i<ms.length∧ms[i]?=some m)∨(i=ms.length∧m=.mk (four.getD ms.length []) o t):=fun i m hi=>by
    rw [List.getElem?_append] at hi
    split at hi
    · rename_i hlt;exact .inl ⟨hlt,hi⟩
    · rename_i hge
      have:i - ms.length=0:=by
        have:=(List.getElem?_eq_some_iff.1 hi).1
        simp at this;omega
      rw [this] at hi
      exact .inr ⟨by omega,(Option.some.inj hi).symm⟩
  refine ⟨by omega,by omega,by rw [List.length_append];exact aqm _ _,by simp;omega,fun _=>by omega,fun i m hi=>?_,fun i m hi=>?_⟩
  · rcases hg i m hi with ⟨_,h1⟩ | ⟨rfl,rfl⟩
    · exact h.nm i m h1
    · rfl
  · rcases hg i m hi with ⟨h0,h1⟩ | ⟨rfl,rfl⟩
    · rw [aj9 _ _ (by omega)];exact h.mb i m h1
    · rw [aj9 _ _ (Nat.le_refl _),h.en]
      exact ⟨ho,by show o≤23;omega,ht.g,ht.tt⟩
def mkC (ms:List Mb) (s:Int):Ty:=.mk 4 s false false true [] true [] false ms true [] 0
theorem mkC_w (ms:List Mb) (s:Int):(mkC ms s).w=.agg [.i .i64 4,.i .i64 s,.b false,.b false,.nil,.nil,.view true 11 (ms.map Mb.c),.nil,.i .i64 0]:=by
  simp [mkC,Ty.w,slv]
theorem CmP.gd {n:Nat} {most a:Int} {ms:List Mb} (h:CmP n most a ms) (h1:1≤ms.length) (h24:most≤24) {s:Int} (hs:a≤s) (hm:s≤most):DrG (n+1) most (mkC ms s):=by
  have:=h.ne h1
  refine ⟨.inr (.inr (.inr (.inl ⟨rfl,⟨⟨rfl,rfl⟩,by show 1≤s;omega,by show s≤24;omega,rfl,rfl,rfl,rfl,h1,by show ms.length≤4;have:=h.l3;omega,by show endOf ms ms.length≤s;rw [h.en];exact hs,fun i m hi=>?_⟩,fun m hm=>?_⟩))),by show 1≤s;omega,hm,?_⟩
  · have hi:ms[i]?=some m:=hi
    have hlt:=(List.getElem?_eq_some_iff.1 hi).1
    have hl3:=h.l3
    obtain ⟨q1,q2,q3,q4⟩:=h.mb i m hi
    refine ⟨by rw [h.nm i m hi];exact au6 ⟨i,by omega⟩,q1,by omega,fun k m' hk hk2=>?_⟩
    rw [h.nm i m hi,h.nm k m' hk2]
    exact au5 ⟨k,by omega⟩ ⟨i,by omega⟩ (by simp only [ne_eq,Fin.mk.injEq];omega)
  · obtain ⟨i,hi,rfl⟩:=List.getElem_of_mem hm
    exact (h.mb i _ (List.getElem?_eq_getElem hi)).2.2.1
  · have hm1:∀ m,m ∈ ms→m.tot≤1+Td n:=fun m hm=>by
      obtain ⟨i,hi,rfl⟩:=List.getElem_of_mem hm
      have hi':=List.getElem?_eq_getElem hi
      have hl3:=h.l3
      rw [Mb.tot_eq,h.nm i _ hi',ato ⟨i,by omega⟩]
      have:=(h.mb i _ hi').2.2.2
      omega
    have hs:∀ l:List Mb,(∀ m,m ∈ l→m.tot≤1+Td n)→Mb.tots l≤l.length*(2+Td n):=fun l=>by
      induction l with
      | nil=>intro _;simp [Mb.tots]
      | cons a l ih=>
        intro hh
        have h1:=ih fun x hx=>hh x (by simp [hx])
        have h2:=hh a (by simp)
        rw [Mb.tots,List.length_cons,Nat.add_mul]
        omega
    have h3:=hs ms hm1
    have h4:ms.length*(2+Td n)≤3*(2+Td n):=Nat.mul_le_mul_right _ h.l3
    have h5:=Td_g n
    have h6:(mkC ms s).tot=Mb.tots ms:=by simp [mkC,Ty.tot,Ty.tots,totS,sumL]
    rw [h6,Td_s]
    omega
def mkA (c:Int) (b:Ty):Ty:=.mk 5 0 false false true [] true [] true [] false [b] c
theorem mkA_w (c:Int) (b:Ty):(mkA c b).w=.agg [.i .i64 5,.i .i64 0,.b false,.b false,.nil,.nil,.nil,.view true 9 [b.w],.i .i64 c]:=by
  simp [mkA,Ty.w,slv,Ty.v_w]
end Go.VS
end
section
namespace Go.VS
set_option maxRecDepth 4000
def WIp (p:Prog) (l:List I) (s:St) (K:St→Prop):Prop:=WI p l s K
@[congr] theorem WIp_congr {p:Prog} {l l':List I} {s:St} {K:St→Prop} (h:Tag l=l'):WIp p l s K=WIp p l' s K:=by rw [← h,Tag_eq]
@[simp] theorem WIp_cons (p:Prog) (i:I) (l:List I) (s:St) (K:St→Prop):WIp p (i :: l) s K=WI p (i :: l) s K:=rfl
def RaAll (p:Prog) (is:List I) (s s':St) (R:Prop):List (List Nat)→Prop
  | []=>R
  | q :: qs=>WIp p (q.map (isD is)) s (fun s''=>s''=s'∧RaAll p is s s' R qs)
@[congr] theorem RaAll_congr {p:Prog} {is:List I} {s s':St} {R R':Prop} {l l':List (List Nat)} (h:R=R') (h2:Tag l=l'):RaAll p is s s' R l=RaAll p is s s' R' l':=by rw [← h,← h2,Tag_eq]
theorem aiu (p:Prog) (is:List I) (s s':St) (R:Prop):∀ l,RaAll p is s s' R l ↔ (∀ q,q ∈ l→WI p (q.map (isD is)) s (fun s''=>s''=s'))∧R
  | []=>by simp [RaAll]
  | q :: l=>by
    simp only [RaAll,WIp,List.mem_cons,forall_eq_or_imp]
    constructor
    · rintro ⟨n,s2,h1,rfl,h2⟩
      obtain ⟨h3,h4⟩:=(aiu p is s s2 R l).1 h2
      exact ⟨⟨⟨n,s2,h1,rfl⟩,h3⟩,h4⟩
    · rintro ⟨⟨⟨n,s2,h1,rfl⟩,h3⟩,h4⟩
      exact ⟨n,s2,h1,rfl,(aiu p is s s2 R l).2 ⟨h3,h4⟩⟩
@[simp] theorem RaAll_nil (p:Prog) (is:List I) (s s':St) (R:Prop):RaAll p is s s' R []=R:=rfl
@[simp] theorem RaAll_cons (p:Prog) (is:List I) (s s':St) (R:Prop) (q:List Nat) (qs:List (List Nat)):RaAll p is s s' R (q :: qs)=WIp p (q.map (isD is)) s (fun s''=>s''=s'∧RaAll p is s s' R qs):=rfl
@[simp] theorem W_ra' {p:Prog} (is:List I) (cs:List Nat) (q:List Nat) (ps:List (List Nat)) (s:St) (Q:Ex→St→Prop):
    W p (.ra is cs (q :: ps)) s Q=WIp p (q.map (isD is)) s (fun s'=>RaAll p is s s' (Q .n s') ps):=by
  rw [W_ra]
  show WI p _ s _=WI p _ s _
  congr 1
  funext s'
  exact propext (aiu p is s s' _ ps).symm
def spE (l l':List (Nat × V)):Prop:=(∀ x,x ∈ l→lk x.1 l=lk x.1 l')∧(∀ x,x ∈ l'→lk x.1 l=lk x.1 l')
theorem lk_no {k:Nat}:∀ {l:List (Nat × V)},(∀ x,x ∈ l→x.1≠k)→lk k l=.no
  | [],_=>rfl
  | x :: l,h=>by
    have h1:=h x (by simp)
    have h2:=lk_no (l:=l) fun y hy=>h y (by simp [hy])
    obtain ⟨d,v⟩:=x
    simp only [lk]
    rw [if_neg (by simpa using h1)];exact h2
theorem sp_eqE {n:Nat} {l l':List (Nat × V)} (h:spE l l'):(sp n l=sp n l')=True:=by
  refine eq_true ?_
  apply List.ext_getElem?
  intro k
  rw [sp_get,sp_get]
  split
  · congr 1
    by_cases h1:∃ x,x ∈ l∧x.1=k
    · obtain ⟨x,hx,rfl⟩:=h1;exact h.1 x hx
    · by_cases h2:∃ x,x ∈ l'∧x.1=k
      · obtain ⟨x,hx,rfl⟩:=h2;exact h.2 x hx
      · rw [lk_no fun x hx e=>h1 ⟨x,hx,e⟩,lk_no fun x hx e=>h2 ⟨x,hx,e⟩]
  · rfl
end Go.VS
end
section
namespace Go.VS
set_option maxRecDepth 4000
attribute [-simp] isLeaf okRet ridL V.leaves isLent expL W_ra
def DrH (d:Nat):Prop:=∀ (most:Int) (_:1≤most) (_:most≤24) (s:Src) (_:s.Rm (Rd d)),∃ x:Ty × Src,(∀ K:Out→Prop,Call prog 449 ⟨[.ptr 0 0,.i .i64 d,.i .i64 most],[s.c],[]⟩ K=K (x.1.w,[x.2.c],[]))∧(DrG d most x.1∧s.To (Rd d) x.2)
theorem aue {t:Ty} (h:IsI t):t.sz=t.size∧1≤t.size:=by
  have hs:=h.g.s
  refine ⟨by rw [Ty.sz_eq,if_neg (by rw [h.kind];decide),if_neg (by rw [h.kind];decide)],?_⟩
  rcases hs with e | e | e | e <;> omega
theorem ah4 (k s:Int) (sg bg:Bool) (c:Int):(mkT k s sg bg c).tot=0:=by simp [mkT,Ty.tot,Mb.tots,Ty.tots,totS,sumL]
theorem Src.Rm.go {N k j:Nat} {a b:Src} (h:a.Rm N) (g:a.To k b) (e:k+j≤N):b.Rm j:=(h.mono e).to g
set_option maxHeartbeats 4000000 in
theorem akw:∀ d,1≤d→d≤3→DrH d
  | 0,h,_=>absurd h (by decide)
  | n+1,_,hd=>by
    intro most m1 m2 s h
    refine aan (fun x:Ty × Src=>(x.1.w,[x.2.c],[])) _ fun K hK=>?_
    rw [abo (p:=prog) (f:=449) dr_at _ _ _ rfl (by decide)]
    unfold dr1 dr2 dr3
    have hR:=Rd_g n
    have hRs:=Rd_s n
    have hTd:=Td_g n
    have hTs:=Td_s n
    rw [hRs] at h hK
    obtain ⟨x,ex,x1,x2⟩:=aam s 6 (h.mono (by omega))
    have tail:∀ sr:Src,s.To 100 sr→∀ t sr',IsI t→t.size≤most→sr.To 6 sr'→K (t.w,[sr'.c],[]):=fun sr hs t sr' hi hsz ht=>by
      obtain ⟨q1,q2⟩:=aue hi
      refine hK (t,sr') ⟨⟨.inl ⟨hi.kind,hi.g⟩,by rw [q1];exact q2,by rw [q1];exact hsz,?_⟩,(hs.trans ht).mono (by omega)⟩
      obtain ⟨s,sg,bg,rfl,_⟩:=hi
      rw [ah4];omega
    have hj:x.1=0∨x.1=1∨x.1=2∨x.1=3∨x.1=4∨x.1=5:=by have:=x1.1;have:=x1.2.1;omega
    have rm:x.2.Rm 6:=h.go x2 (by omega)
    have t2:s.To 100 x.2:=x2.mono (by omega)
    rcases hj with e | e | e | e | e | e <;> rw [e] at ex
    · 
      simp only [Src.c,Tag_eq] at ex ⊢
      simp -implicitDefEqProofs [ex]
      refine dr4_ok _ [] (.inl rfl) x.2 most K ?_ ?_ ?_ m1 rm (tail x.2 t2) <;> rfl
    · 
      have em:=ace most 8
      obtain ⟨y,ey,y1,y2⟩:=aam x.2 (min most 8) (h.go x2 (by omega))
      have y3:y.1<most∧y.1<8:=by have:=y1.2.1;omega
      have y0:=y1.1
      have w1:IntKind.i64.wrap (1+y.1)=1+y.1:=wrap_i64 (by omega) (by omega)
      have o:=hK (mkT 2 (1+y.1) false false 0,y.2) ⟨⟨.inr (.inl ⟨rfl,by show 1≤1+y.1;omega,by show 1+y.1≤16;omega,⟨rfl,rfl⟩,als _ _ _ _⟩),by show (1:Int)≤1+y.1;omega,by show (1+y.1:Int)≤most;omega,by rw [ah4];omega⟩,(x2.trans y2).mono (by omega)⟩
      simp only [mkT_w,Src.c,Tag_eq] at ex ey o ⊢
      generalize min most 8=mm at em ey
      simp -implicitDefEqProofs [ex,em,ey,w1]
      exact o
    · 
      obtain ⟨y,ey,y1,y2⟩:=air x.2 (h.go x2 (by omega))
      obtain ⟨g1,gk,gs1,gs8,gt⟩:=y1
      have es:=aa9 g1
      by_cases hle:y.1.sz≤most
      · have o:=hK y ⟨⟨g1.up n,gs1,hle,by omega⟩,(x2.trans y2).mono (by omega)⟩
        simp only [Src.c,Tag_eq] at ex ey o es ⊢
        simp -implicitDefEqProofs [ex,ey,es,hle]
        exact o
      · simp only [Src.c,Tag_eq] at ex ey es ⊢
        simp -implicitDefEqProofs [ex,ey,es,hle]
        refine dr4_ok _ _ (.inr ⟨_,rfl⟩) y.2 most K ?_ ?_ ?_ m1 (h.go (x2.trans y2) (by omega)) (tail y.2 ((x2.trans y2).mono (by omega))) <;> rfl
    · 
      by_cases hn:1≤n
      case neg=>
        have hn0:n=0:=by omega
        subst hn0
        simp only [Src.c,Tag_eq] at ex ⊢
        simp -implicitDefEqProofs [ex]
        refine dr4_ok _ [] (.inl rfl) x.2 most K ?_ ?_ ?_ m1 rm (tail x.2 t2) <;> rfl
      have hn1:(1:Int)<(n:Int)+1:=by omega
      have hE:∀ (ms:List Mb) (a:Int) (sr:Src),CmP n most a ms→1≤ms.length→x.2.To (ms.length*(Rd n+4)+2) sr→∀ v:Int × Src,Pk 6 v.1→sr.To 2 v.2→K ((mkC ms (min most (a+v.1.tdiv 4))).w,[v.2.c],[]):=fun ms a sr hp hl ht v v1 v2=>by
        have v5:v.1≤5:=by have:=v1.2.1;omega
        have v0:=v1.1
        have q1:0≤v.1.tdiv 4:=Int.tdiv_nonneg v0 (by decide)
        have a1:=hp.a1
        have l3:=hp.l3
        have hmul:ms.length*(Rd n+4)≤3*(Rd n+4):=Nat.mul_le_mul_right _ l3
        exact hK (mkC ms _,v.2) ⟨hp.gd hl m2 (by omega) (by omega),((x2.trans ht).trans v2).mono (by omega)⟩
      simp only [mkC_w,Src.c,Tag_eq] at ex hE ⊢
      simp -implicitDefEqProofs [ex,hn1]
      refine WL_st (α:=Int × List Mb × Src) (fun a=>⟨sp 148 [(0,.ptr 0 0),(1,.i .i64 ((n:Int)+1)),(2,.i .i64 most),(6,.ptr 1 0),(9,.ptr 2 0),(10,.i .i64 a.1),(11,.sl 1 0 4 false),(12,.i .i64 a.2.1.length)],
        [a.2.2.c,z9,[.i .i64 4,.i .i64 0,.b false,.b false,.nil,.nil,.sl 0 0 a.2.1.length false,.nil,.i .i64 0]],[.row 11 false (a.2.1.map Mb.c),.row 1 false (four.map .s)]⟩)
        (fun a=>4 - a.2.1.length) (fun a=>CmP n most a.1 a.2.1∧x.2.To (a.2.1.length*(Rd n+4)) a.2.2) (0,[],x.2) _ (by simp -implicitDefEqProofs [Src.c,z9,four]) ⟨CmP.nil n most (by omega),by simpa using Src.To.refl x.2⟩ ?_
      rintro ⟨a,ms,sr⟩ ⟨hP,hT⟩
      simp only at hP hT
      have l3:=hP.l3
      have a0:=hP.a0
      have a1:=hP.a1
      have hmul:ms.length*(Rd n+4)≤3*(Rd n+4):=Nat.mul_le_mul_right _ l3
      obtain ⟨y,ey,y1,y2⟩:=aam sr 3 (h.go (x2.trans hT) (by omega))
      have y3:y.1≤2:=by have:=y1.2.1;omega
      have y0:=y1.1
      have hT2:=hT.trans y2
      have w3:IntKind.i64.wrap (n:Int)=n:=wrap_i64 (by omega) (by omega)
      have leave:(((ms.length:Int)≤y.1→¬ a<most))→1≤ms.length:=fun hh=>Nat.pos_of_ne_zero fun h0=>by
        have he:=hP.en
        have hms:ms=[]:=List.length_eq_zero_iff.1 h0
        subst hms
        have:endOf ([]:List Mb) 0=0:=rfl
        simp only [List.length_nil] at he hh
        rw [this] at he
        exact hh (by simpa using y0) (by omega)
      obtain ⟨v,ev,v1,v2⟩:=aam y.2 6 (h.go (x2.trans hT2) (by omega))
      have v5:v.1≤5:=by have:=v1.2.1;omega
      have v0:=v1.1
      have q1:0≤v.1.tdiv 4:=Int.tdiv_nonneg v0 (by decide)
      have q2:v.1.tdiv 4≤v.1:=by rw [Int.tdiv_eq_ediv_of_nonneg v0];omega
      have w4:IntKind.i64.wrap (v.1.tdiv 4)=v.1.tdiv 4:=wrap_i64 (by omega) (by omega)
      have w5:IntKind.i64.wrap (a+v.1.tdiv 4)=a+v.1.tdiv 4:=wrap_i64 (by omega) (by omega)
      by_cases c1:(ms.length:Int)≤y.1
      · by_cases c2:a<most
        · have em:=ace (a+v.1.tdiv 4) (most - 1)
          have hoff:a≤min (a+v.1.tdiv 4) (most - 1)∧min (a+v.1.tdiv 4) (most - 1)≤most - 1:=by omega
          generalize min (a+v.1.tdiv 4) (most - 1)=off at em hoff
          have w6:IntKind.i64.wrap (most - 1)=most - 1:=wrap_i64 (by omega) (by omega)
          have w7:IntKind.i64.wrap (most - off)=most - off:=wrap_i64 (by omega) (by omega)
          obtain ⟨t,et,t1,t2⟩:=akw n hn (by omega) (most - off) (by omega) (by omega) v.2 (h.go ((x2.trans hT2).trans v2) (by omega))
          have s1:=t1.s1
          have sm:=t1.sm
          have es:=aa9 t1.g
          have w8:IntKind.i64.wrap (off+t.1.sz)=off+t.1.sz:=wrap_i64 (by omega) (by omega)
          have w9:IntKind.i64.wrap ((ms.length:Int)+1)=(ms.length:Int)+1:=wrap_i64 (by omega) (by omega)
          have hs:=hP.step (by omega) hoff.1 hoff.2 m2 t1
          have hl4:(ms.length:Int)<4:=by omega
          have hg:(Option.map V.s four[ms.length]?).getD .no=.s (four.getD ms.length []):=by
            have hj:ms.length<four.length:=by show ms.length<4;omega
            simp [List.getD_eq_getElem?_getD,List.getElem?_eq_getElem hj]
          have l1:ms.length+1≤lim:=by unfold lim;omega
          generalize hnm:four.getD ms.length []=nm at hs hg
          simp only [Src.c,z9,Tag_eq] at ey ev et es ⊢
          simp -implicitDefEqProofs [ey,c1,c2,hl4,hg,ev,w4,w5,w6,em,w7,w3,et,es,w8,l1,w9]
          refine ⟨of_eq_true (sp_eqE (by simp [spE,lk])),of_eq_true (sp_eqE (by simp [spE,lk])),?_⟩
          refine NextS.mk (off+t.1.sz,ms++[.mk nm off t.1],t.2) ⟨hs,((hT2.trans v2).trans t2).mono (by simp only [List.length_append,List.length_cons,List.length_nil,Nat.add_mul];omega)⟩ (by simp;omega) ?_
          have emb:Mb.c (.mk nm off t.1)=(Mb.mk nm off t.1).w:=Mb.c_w _
          simp -implicitDefEqProofs [Src.c,z9,emb]
        · have em:=ace most (a+v.1.tdiv 4)
          have o:=hE ms a y.2 hP (leave fun _=>c2) hT2 v v1 v2
          simp only [Src.c,z9,Tag_eq] at ey ev o ⊢
          simp -implicitDefEqProofs [ey,c1,c2,ev,w4,w5,em]
          exact o
      · have em:=ace most (a+v.1.tdiv 4)
        have o:=hE ms a y.2 hP (leave fun h=>absurd h c1) hT2 v v1 v2
        simp only [Src.c,z9,Tag_eq] at ey ev o ⊢
        simp -implicitDefEqProofs [ey,c1,ev,w4,w5,em]
        exact o
    · 
      by_cases hn:1≤n
      case neg=>
        have hn0:n=0:=by omega
        subst hn0
        simp only [Src.c,Tag_eq] at ex ⊢
        simp -implicitDefEqProofs [ex]
        refine dr4_ok _ [] (.inl rfl) x.2 most K ?_ ?_ ?_ m1 rm (tail x.2 t2) <;> rfl
      have hn1:(1:Int)<(n:Int)+1:=by omega
      obtain ⟨y,ey,y1,y2⟩:=aam x.2 4 (h.go x2 (by omega))
      have y3:y.1≤3:=by have:=y1.2.1;omega
      have y0:=y1.1
      have w1:IntKind.i64.wrap (1+y.1)=1+y.1:=wrap_i64 (by omega) (by omega)
      have c0:¬ 1+y.1=0:=by omega
      have q0:most.tdiv (1+y.1)=most / (1+y.1):=Int.tdiv_eq_ediv_of_nonneg (by omega)
      have q1:0≤most / (1+y.1):=Int.ediv_nonneg (by omega) (by omega)
      have q2:most / (1+y.1)≤most:=Int.ediv_le_self _ (by omega)
      have q3:(1+y.1)*(most / (1+y.1))≤most:=Int.mul_ediv_self_le (by omega)
      generalize hq:most / (1+y.1)=q at q0 q1 q2 q3
      have w2:IntKind.i64.wrap q=q:=wrap_i64 (by omega) (by omega)
      have w3:IntKind.i64.wrap (n:Int)=n:=wrap_i64 (by omega) (by omega)
      by_cases hq0:0<q
      · obtain ⟨z,ez,z1,z2⟩:=akw n hn (by omega) q (by omega) (by omega) y.2 (h.go (x2.trans y2) (by omega))
        have hz:(mkA (1+y.1) z.1).sz=(1+y.1)*z.1.sz:=by rw [Ty.sz_eq];rfl
        have p1:1≤(1+y.1)*z.1.sz:=by
          have:=Int.mul_le_mul (a:=1) (b:=1) (c:=1+y.1) (d:=z.1.sz) (by omega) z1.s1 (by decide) (by omega)
          omega
        have p2:(1+y.1)*z.1.sz≤most:=by
          have:=Int.mul_le_mul_of_nonneg_left z1.sm (show 0≤1+y.1 by omega)
          omega
        have o:=hK (mkA (1+y.1) z.1,z.2) ⟨⟨.inr (.inr (.inr (.inr (.inl ⟨rfl,⟨⟨rfl,rfl⟩,rfl,rfl,rfl,rfl,by show 1≤1+y.1;omega,by show 1+y.1≤4;omega⟩,z.1,rfl,z1.g,by rw [hz];omega⟩)))),by rw [hz];exact p1,by rw [hz];exact p2,by
          have:=z1.tt
          have e6:(mkA (1+y.1) z.1).tot=1+z.1.tot:=by simp [mkA,Ty.tot,Mb.tots,Ty.tots,totS,sumL]
          rw [e6,Td_s];omega⟩,((x2.trans y2).trans z2).mono (by omega)⟩
        simp only [mkA_w,Src.c,Tag_eq] at ex ey ez o ⊢
        simp -implicitDefEqProofs [ex,hn1,ey,w1,c0,q0,w2,hq0,w3,ez]
        exact o
      · simp only [Src.c,Tag_eq] at ex ey ⊢
        simp -implicitDefEqProofs [ex,hn1,ey,w1,c0,q0,w2,hq0]
        refine dr4_ok _ [] (.inl rfl) y.2 most K ?_ ?_ ?_ m1 (h.go (x2.trans y2) (by omega)) (tail y.2 ((x2.trans y2).mono (by omega))) <;> rfl
    · 
      by_cases h2:2≤most
      · have o:=hK (mkT 6 2 false false 0,x.2) ⟨⟨.inr (.inr (.inr (.inr (.inr ⟨rfl,rfl,⟨rfl,rfl⟩,als _ _ _ _⟩)))),by show (1:Int)≤2;decide,h2,by rw [ah4];omega⟩,x2.mono (by omega)⟩
        simp only [mkT_w,Src.c,Tag_eq] at ex o ⊢
        simp -implicitDefEqProofs [ex,h2]
        exact o
      · simp only [Src.c,Tag_eq] at ex ⊢
        simp -implicitDefEqProofs [ex,h2]
        refine dr4_ok _ [] (.inl rfl) x.2 most K ?_ ?_ ?_ m1 rm (tail x.2 t2) <;> rfl
end Go.VS
end
section
namespace Go.VS
set_option maxRecDepth 4000
attribute [-simp] isLeaf okRet ridL V.leaves isLent expL
def Re (d:Nat):Nat:=100*5 ^ d
theorem Re_s (d:Nat):Re (d+1)=5*Re d:=by unfold Re;rw [Nat.pow_succ];omega
theorem Re_g (d:Nat):100≤Re d:=by unfold Re;have:=Nat.pow_pos (n:=d) (show 0<5 by decide);omega
def EDr (d:Nat):Prop:=∀ (t:Ty) (_:Gd d t) (s:Src) (_:s.Rm (Re d)),∃ x:Bs × Src,(∀ K:Out→Prop,Call prog 500 ⟨[.ptr 0 0,t.w],[s.c],[]⟩ K=K (.s x.1,[x.2.c],[]))∧((x.1.length:Int)=t.sz∧s.To (Re d) x.2)
def nine:List Bs:=[[97],[90],[55],[32],[34],[92],[10],[255],[126]]
theorem put_sz {d:Nat} {t:Ty} (g:Gd (d+1) t) (k:t.kind=1∨t.kind=3∨t.kind=6) (n:Int):((t.it.put n).length:Int)=t.sz:=by
  have hsz:=g.sz
  have h1:(t.sz.toNat:Int)=t.sz:=by omega
  obtain ⟨h2,_⟩:=it_len g k (b:=List.replicate t.sz.toNat 0) (by simpa using h1)
  rw [List.length_replicate] at h2
  rw [alw];omega
set_option maxHeartbeats 4000000 in
theorem ao1:∀ d,EDr d
  | 0=>fun _ g=>g.elim
  | d+1=>by
    have ih:=ao1 d
    intro t g s h
    refine aan (fun x:Bs × Src=>(.s x.1,[x.2.c],[])) _ fun K hK=>?_
    rw [aar (p:=prog) (f:=500) rfl _ _ _ rfl (by decide)]
    have hR:=Re_g d
    have hRs:=Re_s d
    rw [hRs] at h hK
    have hk:=g.kind
    have hsz:=g.sz
    by_cases k2:t.kind=2
    · have hz:t.sz=t.size:=by rw [Ty.sz_eq,if_neg (by omega),if_neg (by omega)]
      obtain ⟨s1,s2,_⟩:=g.txt k2
      obtain ⟨x,ex,x1,x2⟩:=aam s (t.size+1) (h.mono (by omega))
      have xl:x.1≤t.size:=by have:=x1.2.1;omega
      obtain ⟨k,hkx⟩:∃ k:Nat,x.1=k:=⟨x.1.toNat,by have:=x1.1;omega⟩
      have w1:IntKind.i64.wrap (t.size+1)=t.size+1:=wrap_i64 (by omega) (by omega)
      rw [hkx] at ex xl
      simp only [Src.c,Tag_eq] at ex ⊢
      simp -implicitDefEqProofs [k2,w1,ex]
      refine WL_st (α:=Nat × Bs × Src) (fun a=>⟨sp 135 [(0,.ptr 0 0),(3,.ptr 1 0),(5,.s a.2.1),(6,.i .i64 a.1)],[a.2.2.c,t.k],[]⟩) (fun a=>a.1) (fun a=>a.2.1.length+a.1=k∧s.To (2+2*a.2.1.length) a.2.2) (k,[],x.2) _ (by simp -implicitDefEqProofs [Src.c,k2]) ⟨by simp,by simpa using x2⟩ ?_
      rintro ⟨i,out,sr⟩ ⟨h1,h2⟩
      simp only at h1 h2
      by_cases hi:0<i
      · obtain ⟨y,ey,y1,y2⟩:=aht false sr nine (by simp [nine]) (by simp [nine,lim]) (h.go h2 (by omega))
        have yl:y.1.length=1:=by
          have hh:∀ x,x ∈ nine→x.length=1:=by decide
          exact hh _ y1
        have wi:IntKind.i64.wrap ((i:Int) - 1)=(i:Int) - 1:=wrap_i64 (by omega) (by omega)
        have c1:out.length+y.1.length≤lim:=by unfold lim;omega
        simp only [Src.c,nine,List.map_cons,List.map_nil,Tag_eq] at ey ⊢
        simp -implicitDefEqProofs [hi,ey,wi,c1]
        refine NextS.mk (i - 1,out++y.1,y.2) ⟨by simp only [List.length_append];omega,(h2.trans y2).mono (by simp only [List.length_append];omega)⟩ (by simp only;omega) ?_
        have e2:((i - 1:Nat):Int)=(i:Int) - 1:=by omega
        simp -implicitDefEqProofs [Src.c,e2]
      · have hi0:¬ (0:Int)<i:=by omega
        have hw2:=wrap_i64 (n:=t.size - (out.length:Int)) (by omega) (by omega)
        have e1:=aao (t.size.toNat - out.length) (by unfold lim;omega)
        rw [show ((t.size.toNat - out.length:Nat):Int)=t.size - out.length by omega] at e1
        have c2:out.length+(t.size.toNat - out.length)≤lim:=by unfold lim;omega
        have o:=hK (out++List.replicate (t.size.toNat - out.length) 0,sr) ⟨by simp;omega,h2.mono (by omega)⟩
        simp only [Src.c] at o ⊢
        simp -implicitDefEqProofs [hi,hi0,hw2,e1,c2]
        exact o
    have f2:=eq_false k2
    by_cases k3:t.kind=3
    · have f3:=eq_true k3
      have en:=g.enum k3
      have n0:t.nums≠[]:=by
        intro e
        have h1:=en.nn
        have h2:=en.n1
        rw [e] at h1;simp at h1;omega
      obtain ⟨x,ex,x1,x2⟩:=abl true s t.nums n0 (by have h1:=en.nn;have h2:=en.n6;unfold lim;omega) (h.mono (by omega))
      have e1:=abd (g.n (.inr (.inl k3))) x.1
      have o:=hK (t.it.put x.1,x.2) ⟨put_sz g (.inr (.inl k3)) _,x2.mono (by omega)⟩
      simp only [Src.c,Tag_eq] at ex o ⊢
      simp -implicitDefEqProofs [f2,f3,ex,e1]
      exact o
    have f3:=eq_false k3
    by_cases k4:t.kind=4
    · have f4:=eq_true k4
      obtain ⟨c,gm⟩:=g.comp k4
      have L:=g.lay k4
      have hs:=c.s2
      have hn:=c.n4
      simp only [Src.c]
      simp -implicitDefEqProofs [f2,f3,f4]
      refine WL_st (α:=Nat × Bs × Src) (fun a=>⟨sp 135 [(0,.ptr 0 0),(3,.ptr 1 0),(7,.s a.2.1),(8,.i .i64 a.1)],[a.2.2.c,t.k],[]⟩) (fun a=>t.ms.length - a.1) (fun a=>a.1≤t.ms.length∧(a.2.1.length:Int)=endOf t.ms a.1∧s.To (a.1*Re d) a.2.2) (0,[],s) _ (by simp -implicitDefEqProofs [Src.c]) ⟨Nat.zero_le _,by simp [endOf],by simpa using Src.To.refl s⟩ ?_
      rintro ⟨i,O,sr⟩ ⟨h1,h2,h3⟩
      simp only at h1 h2 h3
      have hmul:i*Re d≤4*Re d:=Nat.mul_le_mul_right _ (by omega)
      have hle:=L.le h1
      by_cases hlt:i<t.ms.length
      · have hw:=wrap_i64 (n:=(i:Int)+1) (by omega) (by omega)
        have gz:=gm _ (List.getElem_mem hlt)
        have hsz:=gz.sz
        have hlo:=L.lo i hlt
        have hle2:=L.le (i:=i+1) hlt
        rw [aah hlt] at hle2
        have hes:=aah hlt
        have hmul2:(i+1)*Re d≤4*Re d:=Nat.mul_le_mul_right _ (by omega)
        obtain ⟨y,ey,y1,y2⟩:=ih _ gz sr (h.go h3 (by rw [Nat.add_mul] at hmul2;omega))
        generalize hm:t.ms[i]=m at *
        have hw2:=wrap_i64 (n:=m.off - (O.length:Int)) (by omega) (by omega)
        have e1:=aao (m.off.toNat - O.length) (by unfold lim;omega)
        rw [show ((m.off.toNat - O.length:Nat):Int)=m.off - O.length by omega] at e1
        have c1:O.length+(m.off.toNat - O.length)≤lim:=by unfold lim;omega
        have c2:O.length+(m.off.toNat - O.length)+y.1.length≤lim:=by unfold lim;omega
        have c3:O.length+((m.off.toNat - O.length)+y.1.length)≤lim:=by omega
        simp only [Src.c,Tag_eq] at ey ⊢
        simp -implicitDefEqProofs [hlt,hm,Mb.c_w,hw,hw2,e1,ey,c1,c2,c3]
        refine NextS.mk (i+1,O++(List.replicate (m.off.toNat - O.length) 0++y.1),y.2) ⟨hlt,by simp;omega,by simpa [Nat.add_mul] using h3.trans y2⟩ (by simp only;omega) ?_
        simp -implicitDefEqProofs [Src.c]
      · obtain rfl:i=t.ms.length:=by omega
        have hend:=c.en
        have hw2:=wrap_i64 (n:=t.size - (O.length:Int)) (by omega) (by omega)
        have e1:=aao (t.size.toNat - O.length) (by unfold lim;omega)
        rw [show ((t.size.toNat - O.length:Nat):Int)=t.size - O.length by omega] at e1
        have c2:O.length+(t.size.toNat - O.length)≤lim:=by unfold lim;omega
        have hz:t.sz=t.size:=by rw [Ty.sz_eq,if_neg (by omega),if_neg (by omega)]
        have o:=hK (O++List.replicate (t.size.toNat - O.length) 0,sr) ⟨by simp;omega,h3.mono (by omega)⟩
        simp only [Src.c] at o ⊢
        simp -implicitDefEqProofs [hw2,e1,c2]
        exact o
    have f4:=eq_false k4
    by_cases k5:t.kind=5
    · have f5:=eq_true k5
      obtain ⟨ag,c,hc,gc,h24⟩:=g.arr k5
      have c1:=ag.c1
      have c4:=ag.c4
      obtain ⟨b1,b2⟩:=base0 hc
      have hcs:=gc.sz
      obtain ⟨n,hn⟩:∃ n:Nat,t.count=n:=⟨t.count.toNat,by omega⟩
      have hz:t.sz=n*c.sz:=by rw [Ty.sz_eq,if_neg (by omega),if_pos k5,hc,hn];rfl
      simp only [Src.c]
      simp -implicitDefEqProofs [f2,f3,f4,f5,b1,b2,Ty.v_w]
      refine WL_st (α:=Nat × Bs × Src) (fun a=>⟨sp 135 [(0,.ptr 0 0),(3,.ptr 1 0),(10,.s a.2.1),(11,.i .i64 a.1)],[a.2.2.c,t.k],[]⟩) (fun a=>n - a.1) (fun a=>a.1≤n∧(a.2.1.length:Int)=a.1*c.sz∧s.To (a.1*Re d) a.2.2) (0,[],s) _ (by simp -implicitDefEqProofs [Src.c]) ⟨Nat.zero_le _,by simp,by simpa using Src.To.refl s⟩ ?_
      rintro ⟨i,O,sr⟩ ⟨h1,h2,h3⟩
      simp only at h1 h2 h3
      have hmul:i*Re d≤4*Re d:=Nat.mul_le_mul_right _ (by omega)
      have hml:(i:Int)*c.sz≤4*24:=Int.mul_le_mul (by omega) (by omega) (by omega) (by decide)
      by_cases hlt:i<n
      · have hi:((i:Int)<t.count)=True:=eq_true (by omega)
        have hw:=wrap_i64 (n:=(i:Int)+1) (by omega) (by omega)
        have hmul2:(i+1)*Re d≤4*Re d:=Nat.mul_le_mul_right _ (by omega)
        obtain ⟨y,ey,y1,y2⟩:=ih _ gc sr (h.go h3 (by rw [Nat.add_mul] at hmul2;omega))
        have c2:O.length+y.1.length≤lim:=by unfold lim;omega
        simp only [Src.c,Tag_eq] at ey ⊢
        simp -implicitDefEqProofs [hi,hlt,b1,b2,Ty.v_w,hw,ey,c2]
        refine NextS.mk (i+1,O++y.1,y.2) ⟨hlt,by simp [Int.add_mul];omega,by simpa [Nat.add_mul] using h3.trans y2⟩ (by simp only;omega) ?_
        simp -implicitDefEqProofs [Src.c]
      · obtain rfl:i=n:=by omega
        have hi:((i:Int)<t.count)=False:=eq_false (by omega)
        have o:=hK (O,sr) ⟨by rw [hz];exact h2,h3.mono (by omega)⟩
        simp only [Src.c] at o ⊢
        simp -implicitDefEqProofs [hi]
        exact o
    have f5:=eq_false k5
    have kn:t.kind=1∨t.kind=3∨t.kind=6:=by omega
    have gn:=g.n kn
    have e1:=agm t (fun h=>absurd h k3)
    have e2:=ac7 t.it gn.it
    generalize lo t.it.size t.it.sg=L at e2
    generalize hi t.it.size t.it.sg=H at e2
    obtain ⟨x,ex,x1,x2⟩:=aam s 9 (h.mono (by omega))
    obtain ⟨y,ey,y1⟩:=one_ex x.2 4 (h.go x2 (by omega))
    have xy:=x2.trans y1
    obtain ⟨z,ez,z1,z2⟩:=abl false y.2 [L,H,IntKind.i64.wrap (H - 1),IntKind.i64.wrap (L+1),100,200,255,256,1000,40000,-1000] (by simp) (by simp [lim]) (h.go xy (by omega))
    have em:=fun n=>ace H n
    have eM:=fun n=>aem L (min H n)
    have eb:=fun n=>abd gn n
    have o:=fun n sr (hs:s.To 100 sr)=>hK (t.it.put n,sr) ⟨put_sz g kn n,hs.mono (by omega)⟩
    cases hy:y.1
    · have o:=o (if min H (IntKind.i64.wrap (x.1 - 3))<L then L else min H (IntKind.i64.wrap (x.1 - 3))) y.2 (xy.mono (by omega))
      rw [hy] at ey
      simp only [Src.c,Tag_eq] at ex ey o ⊢
      simp -implicitDefEqProofs [f2,f3,f4,f5,e1,e2,ex,ey,em,eM,eb]
      exact o
    · rw [hy] at ey
      have o:=o (if min H z.1<L then L else min H z.1) z.2 ((xy.trans z2).mono (by omega))
      simp only [Src.c,List.map_cons,List.map_nil,Tag_eq] at ex ey ez o ⊢
      simp -implicitDefEqProofs [f2,f3,f4,f5,e1,e2,ex,ey,ez,em,eM,eb]
      exact o
end Go.VS
end
section
namespace Go.VS
set_option maxRecDepth 4000
attribute [-simp] isLeaf okRet ridL V.leaves isLent expL
theorem aul (q:Bool) (s:Src) (t:Bs) (ht:t.length≤1000) (ws:List Bs) (h0:ws≠[]) (hw:ws.length≤lim) (h1:∀ w,w ∈ ws→w.length≤1) (h:s.Rm 6):
    ∃ x:Bs × Src,(∀ K:Out→Prop,Call prog 501 ⟨[.ptr 0 0,.s t,.view q 1 (ws.map V.s)],[s.c],[]⟩ K=K (.s x.1,[x.2.c],[]))∧(x.1.length≤t.length+1∧s.To 6 x.2):=by
  refine aan (fun x:Bs × Src=>(.s x.1,[x.2.c],[])) _ fun K hK=>?_
  rw [aar (p:=prog) (f:=501) rfl _ _ _ rfl (by decide)]
  by_cases he:t=[]
  · obtain ⟨x,ex,x1,x2⟩:=aht q s ws h0 hw (h.mono (by omega))
    have o:=hK x ⟨by have:=h1 _ x1;omega,x2.mono (by omega)⟩
    simp only [Src.c,Tag_eq] at ex o ⊢
    simp -implicitDefEqProofs [he,ex]
    exact o
  have hp:0<t.length:=List.length_pos_iff.2 he
  obtain ⟨x,ex,x1,x2⟩:=aam s t.length (h.mono (by omega))
  obtain ⟨k,hk⟩:∃ k:Nat,x.1=k:=⟨x.1.toNat,by have:=x1.1;omega⟩
  have hlt:k<t.length:=by have:=x1.2.1;omega
  rw [hk] at ex
  obtain ⟨y,ey,y1,y2⟩:=aam x.2 3 (h.go x2 (by omega))
  have xy:=x2.trans y2
  have hy:y.1=0∨y.1=1∨y.1=2:=by have:=y1.1;have:=y1.2.1;omega
  obtain ⟨z,ez,z1,z2⟩:=aht q y.2 ws h0 hw (h.go xy (by omega))
  have hz:=h1 _ z1
  have b1:bnds t.length none (some (.i .i64 (k:Int)))=some (0,k):=by simp only [bnds,asN];rw [if_pos (by omega)];simp
  have b2:bnds t.length (some (.i .i64 ((k:Int)+1))) none=some (k+1,t.length):=by
    simp only [bnds,asN];rw [if_pos (by omega)];simp
  have b3:bnds t.length (some (.i .i64 (k:Int))) none=some (k,t.length):=by simp only [bnds,asN];rw [if_pos (by omega)];simp
  have w1:IntKind.i64.wrap ((k:Int)+1)=(k:Int)+1:=wrap_i64 (by omega) (by omega)
  have tt:t.take t.length=t:=List.take_length
  have l1:(t.take k).length+(t.drop (k+1)).length≤lim:=by simp;unfold lim;omega
  have l2:(t.take k).length+z.1.length≤lim:=by simp;unfold lim;omega
  have l3:(t.take k++z.1).length+(t.drop k).length≤lim:=by simp;unfold lim;omega
  have l4:(t.take k++z.1).length+(t.drop (k+1)).length≤lim:=by simp;unfold lim;omega
  rcases hy with e | e | e <;> rw [e] at ey
  · have o:=hK (t.take k++t.drop (k+1),y.2) ⟨by simp;omega,xy.mono (by omega)⟩
    simp only [Src.c,Tag_eq] at ex ey o ⊢
    simp only [List.length_take,List.length_drop] at l1
    simp -implicitDefEqProofs [he,ex,ey,b1,b2,w1,tt,l1]
    exact o
  · have o:=hK (t.take k++z.1++t.drop k,z.2) ⟨by simp;omega,(xy.trans z2).mono (by omega)⟩
    simp only [Src.c,Tag_eq] at ex ey ez o ⊢
    simp only [List.length_take,List.length_drop,List.length_append] at l2 l3
    simp -implicitDefEqProofs [he,ex,ey,ez,b1,b3,w1,tt,l2,l3]
    simpa using o
  · have o:=hK (t.take k++z.1++t.drop (k+1),z.2) ⟨by simp;omega,(xy.trans z2).mono (by omega)⟩
    simp only [Src.c,Tag_eq] at ex ey ez o ⊢
    simp only [List.length_take,List.length_drop,List.length_append] at l2 l4
    simp -implicitDefEqProofs [he,ex,ey,ez,b1,b2,w1,tt,l2,l4]
    simpa using o
theorem aum (d:Nat) (hd:d≤3) {t:Ty} (g:Gd d t) (s:Src) (n:Int) (h:s.Rm 20000):
    ∃ x:Bs × Src,(∀ K:Out→Prop,Call prog 451 ⟨[.ptr 0 0,t.w,.i .i64 n],[s.c],[]⟩ K=K (.s x.1,[x.2.c],[]))∧(x.1.length≤25∧s.To 20000 x.2):=by
  refine aan (fun x:Bs × Src=>(.s x.1,[x.2.c],[])) _ fun K hK=>?_
  rw [aar (p:=prog) (f:=451) rfl _ _ _ rfl (by decide)]
  have hR:Re d≤12500:=by
    have:Re 3=12500:=by decide
    rcases d with _ | _ | _ | _ | d
    · decide
    · decide
    · decide
    · decide
    · omega
  have hsz:=g.sz
  obtain ⟨x,ex,x1,x2⟩:=ao1 d t g s (h.mono (by omega))
  obtain ⟨y,ey,y1⟩:=one_ex x.2 n (h.go x2 (by omega))
  have xy:=x2.trans y1
  cases hy:y.1
  · rw [hy] at ey
    have o:=hK (x.1,y.2) ⟨by simp only;omega,xy.mono (by omega)⟩
    simp only [Src.c,Tag_eq] at ex ey o ⊢
    simp -implicitDefEqProofs [ex,ey]
    exact o
  · rw [hy] at ey
    obtain ⟨z,ez,z1,z2⟩:=aul false y.2 x.1 (by omega) [[0],[1],[97],[255]] (by simp) (by simp [lim]) (by decide) (h.go xy (by omega))
    have o:=hK z ⟨by omega,(xy.trans z2).mono (by omega)⟩
    simp only [Src.c,List.map_cons,List.map_nil,Tag_eq] at ex ey ez o ⊢
    simp -implicitDefEqProofs [ex,ey,ez]
    exact o
end Go.VS
end
section
namespace Go.VS
set_option maxRecDepth 4000
attribute [-simp] isLeaf okRet ridL V.leaves isLent expL W_ra
theorem ais (s:Src) (h:s.Rm 2):∃ x:Bs × Src,(∀ K:Out→Prop,Call prog 502 ⟨[.ptr 0 0],[s.c],[]⟩ K=K (.s x.1,[x.2.c],[]))∧(x.1.length≤5∧s.To 2 x.2):=by
  refine aan (fun x:Bs × Src=>(.s x.1,[x.2.c],[])) _ fun K hK=>?_
  rw [aar (p:=prog) (f:=502) rfl _ _ _ rfl (by decide)]
  obtain ⟨x,ex,x1,x2⟩:=aht false s [[88],[89],[90],[97],[98,49],[82,69,68],[66,76,85,69],[71,82,69,69,78],[116,105,109,101],[118,97,108,95,50]] (by simp) (by simp [lim]) h
  have hh:∀ y,y ∈ [[88],[89],[90],[97],[98,49],[82,69,68],[66,76,85,69],[71,82,69,69,78],[116,105,109,101],[118,97,108,95,(50:UInt8)]]→y.length≤5:=by decide
  have o:=hK x ⟨hh _ x1,x2⟩
  simp only [Src.c,List.map_cons,List.map_nil,Tag_eq] at ex o ⊢
  simp -implicitDefEqProofs [ex]
  exact o
theorem as3 (q:Bool) (xs:List Int) (hl:xs.length≤lim) (K:Out→Prop):Call prog 503 ⟨[.view q 1 (xs.map (V.i .i64))],[],[]⟩ K=K (.sl 0 0 xs.length false,[],[.row 1 false (xs.map (V.i .i64))]):=by
  refine Zc (f:=503) rfl rfl (by decide) ?_
  simp -implicitDefEqProofs [hl]
theorem aui (l:List Bs) (b:Bs):totS (l++[b])=totS l+1+b.length:=by simp [totS,sumL];omega
theorem auj (l:List Ty) (b:Ty):Ty.tots (l++[b])=Ty.tots l+1+b.tot:=by rw [Ty.tots_eq,Ty.tots_eq];simp [sumG];omega
theorem ar3 (l:List Mb) (b:Mb):Mb.tots (l++[b])=Mb.tots l+1+b.tot:=by rw [Mb.tots_eq,Mb.tots_eq];simp [sumG];omega
theorem tot_mk (k s:Int) (sg bg na:Bool) (ns:List Bs) (nb:Bool) (nu:List Int) (nc:Bool) (ms:List Mb) (nd:Bool) (bs:List Ty) (c:Int):
    (Ty.mk k s sg bg na ns nb nu nc ms nd bs c).tot=totS ns+nu.length+Mb.tots ms+Ty.tots bs:=Ty.tot_eq _
theorem ar2 (n:Bs) (o:Int) (t:Ty):(Mb.mk n o t).tot=n.length+t.tot:=Mb.tot_eq _
def AnyT (t:Ty):Prop:=t.tot≤20000
def sixN:List Bs:=[[88],[],[49],[65,66,67,68,69,70,71,72,73,74,75,76],[65,66,67,68,69,70,71,72,73,74,75,76,77],[97,32,98]]
set_option maxHeartbeats 4000000 in
theorem Any_ex (s:Src) (n:Int) (h:s.Rm 300000):∃ x:Ty × Src,(∀ K:Out→Prop,Call prog 453 ⟨[.ptr 0 0,.i .i64 n],[s.c],[]⟩ K=K (x.1.w,[x.2.c],[]))∧(AnyT x.1∧s.To 300000 x.2):=by
  refine aan (fun x:Ty × Src=>(x.1.w,[x.2.c],[])) _ fun K hK=>?_
  rw [abo (p:=prog) (f:=453) rfl _ _ _ rfl (by decide)]
  have hR:Rd 3=125000:=by decide
  have hT:Td 3=6400:=by decide
  obtain ⟨x,ex,x1,x2⟩:=akw 3 (by decide) (by decide) 24 (by decide) (by decide) s (h.mono (by omega))
  obtain ⟨y,ey,y1⟩:=one_ex x.2 n (h.go x2 (by omega))
  have xy:=x2.trans y1
  have ht:=x1.tt
  obtain ⟨t,sx⟩:=x
  simp only at ex x1 x2 ey y1 xy ht
  have ex:∀ K:Out→Prop,Call prog 449 ⟨[.ptr 0 0,.i .i64 3,.i .i64 24],[s.c],[]⟩ K=K (t.w,[sx.c],[]):=ex
  have h0:=Ty.tot_eq t
  have hn:t.names.length≤6400∧t.nums.length≤6400∧t.ms.length≤6400∧t.base.length≤6400:=by
    have h2:=Mb.tots_eq t.ms
    have h3:=Ty.tots_eq t.base
    unfold totS at h0
    omega
  cases hy:y.1
  · rw [hy] at ey
    have o:=hK (t,y.2) ⟨by show t.tot≤20000;omega,xy.mono (by omega)⟩
    simp only [Src.c,Tag_eq] at ex ey o ⊢
    simp -implicitDefEqProofs [ex,ey]
    exact o
  rw [hy] at ey
  obtain ⟨z,ez,z1,z2⟩:=aam y.2 12 (h.go xy (by omega))
  have xz:=xy.trans z2
  have hz:z.1=0∨z.1=1∨z.1=2∨z.1=3∨z.1=4∨z.1=5∨z.1=6∨z.1=7∨z.1=8∨z.1=9∨z.1=10∨z.1=11:=by have:=z1.1;have:=z1.2.1;omega
  have keep:∀ (k s:Int) (sg bg:Bool) (c:Int),(Ty.mk k s sg bg t.na t.names t.nb t.nums t.nc t.ms t.nd t.base c).tot≤20000:=fun k s sg bg c=>by rw [tot_mk];omega
  have l0:t.names.length≤lim:=by unfold lim;omega
  have l1:t.names.length+1≤lim:=by unfold lim;omega
  have l2:t.nums.length≤lim:=by unfold lim;omega
  have l3:t.nums.length+1≤lim:=by unfold lim;omega
  have l4:t.ms.length≤lim:=by unfold lim;omega
  have l5:t.ms.length+1≤lim:=by unfold lim;omega
  have l6:t.base.length≤lim:=by unfold lim;omega
  have l7:t.base.length+1≤lim:=by unfold lim;omega
  have eo:=fun q=>as3 q t.nums l2
  have k1:∀ x,(t.names.map V.s++[x]).take (t.names.length+1)=t.names.map V.s++[x]:=fun x=>List.take_of_length_le (by simp)
  have k2:∀ x,(t.nums.map (V.i .i64)++[x]).take (t.nums.length+1)=t.nums.map (V.i .i64)++[x]:=fun x=>List.take_of_length_le (by simp)
  have k3:∀ x,(t.ms.map Mb.c++[x]).take (t.ms.length+1)=t.ms.map Mb.c++[x]:=fun x=>List.take_of_length_le (by simp)
  have k4:∀ x,(t.base.map Ty.v++[x]).take (t.base.length+1)=t.base.map Ty.v++[x]:=fun x=>List.take_of_length_le (by simp)
  rcases hz with e | e | e | e | e | e | e | e | e | e | e | e <;> rw [e] at ez
  · obtain ⟨v,ev,v1,v2⟩:=abl false z.2 [0,1,2,3,4,5,6,7,-1] (by simp) (by simp [lim]) (h.go xz (by omega))
    have o:=hK (.mk v.1 t.size t.sg t.bg t.na t.names t.nb t.nums t.nc t.ms t.nd t.base t.count,v.2) ⟨keep _ _ _ _ _,(xz.trans v2).mono (by omega)⟩
    simp only [Src.c,List.map_cons,List.map_nil,Tag_eq] at ex ey ez ev o ⊢
    simp -implicitDefEqProofs [ex,ey,ez,ev]
    simpa -implicitDefEqProofs [Ty.w] using o
  · obtain ⟨v,ev,v1,v2⟩:=abl false z.2 [0,1,2,3,5,8,16,17,24,25,-1] (by simp) (by simp [lim]) (h.go xz (by omega))
    have o:=hK (.mk t.kind v.1 t.sg t.bg t.na t.names t.nb t.nums t.nc t.ms t.nd t.base t.count,v.2) ⟨keep _ _ _ _ _,(xz.trans v2).mono (by omega)⟩
    simp only [Src.c,List.map_cons,List.map_nil,Tag_eq] at ex ey ez ev o ⊢
    simp -implicitDefEqProofs [ex,ey,ez,ev]
    simpa -implicitDefEqProofs [Ty.w] using o
  · have o:=hK (.mk t.kind t.size (!t.sg) t.bg t.na t.names t.nb t.nums t.nc t.ms t.nd t.base t.count,z.2) ⟨keep _ _ _ _ _,xz.mono (by omega)⟩
    simp only [Src.c,Tag_eq] at ex ey ez o ⊢
    simp -implicitDefEqProofs [ex,ey,ez]
    simpa -implicitDefEqProofs [Ty.w] using o
  · have o:=hK (.mk t.kind t.size t.sg (!t.bg) t.na t.names t.nb t.nums t.nc t.ms t.nd t.base t.count,z.2) ⟨keep _ _ _ _ _,xz.mono (by omega)⟩
    simp only [Src.c,Tag_eq] at ex ey ez o ⊢
    simp -implicitDefEqProofs [ex,ey,ez]
    simpa -implicitDefEqProofs [Ty.w] using o
  · 
    obtain ⟨v,ev,v1,v2⟩:=ais z.2 (h.go xz (by omega))
    have o:=hK (.mk t.kind t.size t.sg t.bg false (t.names++[v.1]) t.nb t.nums t.nc t.ms t.nd t.base t.count,v.2) ⟨by show Ty.tot _≤20000;rw [tot_mk,aui];omega,(xz.trans v2).mono (by omega)⟩
    simp only [Src.c,Tag_eq] at ex ey ez ev o ⊢
    simp -implicitDefEqProofs [ex,ey,ez,ev,l0,l1,k1]
    simpa -implicitDefEqProofs [Ty.w] using o
  · 
    obtain ⟨v,ev,v1,v2⟩:=aam z.2 300 (h.go xz (by omega))
    have w1:IntKind.i64.wrap (v.1 - 9)=v.1 - 9:=wrap_i64 (by have:=v1.1;omega) (by have:=v1.2.2;omega)
    have o:=hK (.mk t.kind t.size t.sg t.bg t.na t.names false (t.nums++[v.1 - 9]) t.nc t.ms t.nd t.base t.count,v.2) ⟨by show Ty.tot _≤20000;rw [tot_mk,List.length_append];simp only [List.length_cons,List.length_nil];omega,(xz.trans v2).mono (by omega)⟩
    simp only [Src.c,Tag_eq] at ex ey ez ev o eo ⊢
    simp -implicitDefEqProofs [ex,ey,ez,ev,w1,eo,l2,l3,k2]
    simpa -implicitDefEqProofs [Ty.w] using o
  · 
    obtain ⟨v,ev,v1,v2⟩:=ais z.2 (h.go xz (by omega))
    have xv:=xz.trans v2
    obtain ⟨u,eu,u1,u2⟩:=aam v.2 26 (h.go xv (by omega))
    have xu:=xv.trans u2
    obtain ⟨w,ew,w2,w3⟩:=ad2 u.2 (h.go xu (by omega))
    have w1:IntKind.i64.wrap (u.1 - 1)=u.1 - 1:=wrap_i64 (by have:=u1.1;omega) (by have:=u1.2.2;omega)
    have hw:w.1.tot=0:=by obtain ⟨s,sg,bg,e,_⟩:=w2;rw [e,ah4]
    have o:=hK (.mk t.kind t.size t.sg t.bg t.na t.names t.nb t.nums false (t.ms++[.mk v.1 (u.1 - 1) w.1]) t.nd t.base t.count,w.2) ⟨by show Ty.tot _≤20000;rw [tot_mk,ar3,ar2];omega,(xu.trans w3).mono (by omega)⟩
    simp only [Src.c,Tag_eq] at ex ey ez ev eu ew o ⊢
    simp -implicitDefEqProofs [ex,ey,ez,ev,eu,ew,w1,l4,l5,k3]
    simpa -implicitDefEqProofs [Ty.w,Mb.c_w,Mb.w] using o
  · 
    obtain ⟨w,ew,w2,w3⟩:=ad2 z.2 (h.go xz (by omega))
    have hw:w.1.tot=0:=by obtain ⟨s,sg,bg,e,_⟩:=w2;rw [e,ah4]
    have o:=hK (.mk t.kind t.size t.sg t.bg t.na t.names t.nb t.nums t.nc t.ms false (t.base++[w.1]) t.count,w.2) ⟨by show Ty.tot _≤20000;rw [tot_mk,auj];omega,(xz.trans w3).mono (by omega)⟩
    simp only [Src.c,Tag_eq] at ex ey ez ew o ⊢
    simp -implicitDefEqProofs [ex,ey,ez,ew,l6,l7,k4]
    simpa -implicitDefEqProofs [Ty.w,Ty.v_w] using o
  · obtain ⟨v,ev,v1,v2⟩:=aam z.2 7 (h.go xz (by omega))
    have w1:IntKind.i64.wrap (v.1 - 1)=v.1 - 1:=wrap_i64 (by have:=v1.1;omega) (by have:=v1.2.2;omega)
    have o:=hK (.mk t.kind t.size t.sg t.bg t.na t.names t.nb t.nums t.nc t.ms t.nd t.base (v.1 - 1),v.2) ⟨keep _ _ _ _ _,(xz.trans v2).mono (by omega)⟩
    simp only [Src.c,Tag_eq] at ex ey ez ev o ⊢
    simp -implicitDefEqProofs [ex,ey,ez,ev,w1]
    simpa -implicitDefEqProofs [Ty.w] using o
  · 
    obtain ⟨v,ev,v1,v2⟩:=aam z.2 5 (h.go xz (by omega))
    have w1:IntKind.i64.wrap (1+v.1)=1+v.1:=wrap_i64 (by have:=v1.1;omega) (by have:=v1.2.2;omega)
    have o:=hK (mkA (1+v.1) t,v.2) ⟨by show Ty.tot (Ty.mk ..)≤20000;rw [tot_mk];simp only [totS,sumL,List.map_nil,List.sum_nil,List.length_nil,Mb.tots,Ty.tots];omega,(xz.trans v2).mono (by omega)⟩
    simp only [mkA_w,Src.c,Tag_eq] at ex ey ez ev o ⊢
    simp -implicitDefEqProofs [ex,ey,ez,ev,w1]
    refine ⟨of_eq_true (sp_eqE (by simp [spE,lk])),?_⟩
    simpa -implicitDefEqProofs [Ty.w,Mb.c_w,Mb.w] using o
  · 
    obtain ⟨u,eu,u1,u2⟩:=aam z.2 6 (h.go xz (by omega))
    have xu:=xz.trans u2
    obtain ⟨v,ev,v1,v2⟩:=aht false u.2 sixN (by simp [sixN]) (by simp [sixN,lim]) (h.go xu (by omega))
    have xv:=xu.trans v2
    obtain ⟨w,ew,w2,w3⟩:=aam v.2 3 (h.go xv (by omega))
    have hl:v.1.length≤13:=(by decide:∀ y,y ∈ sixN→y.length≤13) _ v1
    have w1:IntKind.i64.wrap (20+u.1)=20+u.1:=wrap_i64 (by have:=u1.1;omega) (by have:=u1.2.2;omega)
    have o:=hK (mkC [.mk v.1 w.1 t] (20+u.1),w.2) ⟨by show Ty.tot (Ty.mk ..)≤20000;rw [tot_mk];simp only [totS,sumL,List.map_nil,List.sum_nil,List.length_nil,Mb.tots,Ty.tots,ar2];omega,(xv.trans w3).mono (by omega)⟩
    simp only [mkC_w,sixN,Src.c,List.map_cons,List.map_nil,Tag_eq] at ex ey ez eu ev ew o ⊢
    simp -implicitDefEqProofs [ex,ey,ez,eu,ev,ew,w1]
    refine ⟨of_eq_true (sp_eqE (by simp [spE,lk])),?_⟩
    simpa -implicitDefEqProofs [Ty.w,Mb.c_w,Mb.w] using o
  · 
    by_cases hp:0<t.nums.length
    · obtain ⟨v,ev,v1,v2⟩:=abl false z.2 [-129,-128,255,256,65536] (by simp) (by simp [lim]) (h.go xz (by omega))
      have o:=hK (.mk t.kind t.size t.sg t.bg t.na t.names false (t.nums.set 0 v.1) t.nc t.ms t.nd t.base t.count,v.2) ⟨by show Ty.tot _≤20000;rw [tot_mk,List.length_set];omega,(xz.trans v2).mono (by omega)⟩
      have k5:((t.nums.map (V.i .i64)).set 0 (.i .i64 v.1)).take t.nums.length=(t.nums.map (V.i .i64)).set 0 (.i .i64 v.1):=List.take_of_length_le (by simp)
      have hp':(0:Int)<(t.nums.length:Int):=by omega
      simp only [Src.c,List.map_cons,List.map_nil,Tag_eq] at ex ey ez ev o eo ⊢
      simp -implicitDefEqProofs [ex,ey,ez,hp,hp',ev,eo,l2,k5]
      simpa -implicitDefEqProofs [Ty.w] using o
    · have o:=hK (t,z.2) ⟨by show t.tot≤20000;omega,xz.mono (by omega)⟩
      simp only [Src.c,Tag_eq] at ex ey ez o ⊢
      simp -implicitDefEqProofs [ex,ey,ez,hp]
      simpa -implicitDefEqProofs [Ty.w] using o
end Go.VS
end
section
namespace Go.VS
set_option maxRecDepth 4000
attribute [-simp] isLeaf okRet ridL V.leaves isLent expL W_ra
theorem aiy (n:Bool) (l:Bs) (K:Out→Prop):Call prog 414 ⟨[slv n true 1 (bytesV l)],[],[]⟩ K=K (.b (decide ((1048576:Int)<l.length)),[],[]):=by
  refine Zc (f:=414) rfl rfl (by decide) ?_
  simp -implicitDefEqProofs
theorem rs_d {d:Nat} (hd:d≤3) {most:Int} {t:Ty} (h:DrG d most t):t.tot≤6400:=by
  have:=h.tt
  have h3:Td 3=6400:=by decide
  have:Td d≤Td 3:=by
    rcases d with _ | _ | _ | _ | d
    · decide
    · decide
    · decide
    · decide
    · omega
  omega
def PrT (t:Ty) (b:Bs):Prop:=t.tot≤20000∧b.length≤65535
set_option maxHeartbeats 1000000 in
theorem auo (s:Src) (h:s.Rm 600000):∃ x:Ty × Bs × Src,(∀ K:Out→Prop,Call prog 470 ⟨[.ptr 0 0],[s.c],[]⟩ K=K (.tup [x.1.w,.s x.2.1],[x.2.2.c],[]))∧(PrT x.1 x.2.1∧s.To 600000 x.2.2):=by
  refine aan (fun x:Ty × Bs × Src=>(.tup [x.1.w,.s x.2.1],[x.2.2.c],[])) _ fun K hK=>?_
  rw [abo (p:=prog) (f:=470) rfl _ _ _ rfl (by decide)]
  have hR:Rd 3=125000:=by decide
  obtain ⟨x,ex,x1,x2⟩:=akw 3 (by decide) (by decide) 24 (by decide) (by decide) s (h.mono (by omega))
  obtain ⟨t,sx⟩:=x
  have ht:=rs_d (by decide) x1
  have g:=x1.g
  simp only at ex x1 x2 ht g
  have ex:∀ K:Out→Prop,Call prog 449 ⟨[.ptr 0 0,.i .i64 3,.i .i64 24],[s.c],[]⟩ K=K (t.w,[sx.c],[]):=ex
  obtain ⟨y,ey,y1⟩:=one_ex sx 20 (h.go x2 (by omega))
  have xy:=x2.trans y1
  cases hy:y.1
  · rw [hy] at ey
    obtain ⟨z,ez,z1,z2⟩:=aum 3 (by decide) g y.2 8 (h.go xy (by omega))
    have o:=hK (t,z.1,z.2) ⟨⟨by simp only;omega,by simp only;omega⟩,(xy.trans z2).mono (by omega)⟩
    simp only [Src.c,Tag_eq] at ex ey ez o ⊢
    simp -implicitDefEqProofs [ex,ey,ez]
    simpa -implicitDefEqProofs using o
  · rw [hy] at ey
    obtain ⟨z,ez,z1,z2⟩:=Any_ex y.2 1 (h.go xy (by omega))
    have xz:=xy.trans z2
    obtain ⟨v,ev,v1,v2⟩:=awb z.2 9 (h.go xz (by omega))
    have o:=hK (z.1,v.1,v.2) ⟨⟨z1,v1⟩,(xz.trans v2).mono (by omega)⟩
    simp only [Src.c,Tag_eq] at ex ey ez ev o ⊢
    simp -implicitDefEqProofs [ex,ey,ez,ev]
    simpa -implicitDefEqProofs using o
theorem abj (n:Bool) (l:Bs) (m:List (List V)) (r:List Rw) (K:Out→Prop):Call prog 5448 ⟨[gmk,slv n true 1 (bytesV l)],m,r⟩ K=K (.ptr m.length 0,m++[[slv n true 1 (bytesV l),.i .i64 0,.i .u64 0]],r):=by
  rw [anv (p:=prog) (f:=5448) rfl _ _ _ rfl (by decide) (by decide)]
  simp -implicitDefEqProofs
theorem agp (n:Bool) (l:Bs) (hl:l.length≤1048576):∃ x:Ty × Bs,(∀ K:Out→Prop,Call prog 427 ⟨[slv n true 1 (bytesV l)],[],[]⟩ K=K (.tup [x.1.w,.s x.2],[],[]))∧PrT x.1 x.2:=by
  refine aan (fun x:Ty × Bs=>(.tup [x.1.w,.s x.2],[],[])) _ fun K hK=>?_
  rw [abo (p:=prog) (f:=427) rfl _ _ _ rfl (by decide)]
  obtain ⟨x,ex,x1,x2⟩:=auo ⟨n,l,0,0⟩ ⟨by show l.length≤lim;unfold lim;omega,by show 0+600000≤_;decide⟩
  have o:=hK (x.1,x.2.1) x1
  have ex:∀ K:Out→Prop,Call prog 470 ⟨[.ptr 0 0],[[slv n true 1 (bytesV l),.i .i64 0,.i .u64 0]],[]⟩ K=K (.tup [x.1.w,.s x.2.1],[x.2.2.c],[]):=ex
  simp only [Src.c,Tag_eq] at ex o ⊢
  simp -implicitDefEqProofs [abj,ex]
  simpa -implicitDefEqProofs using o
end Go.VS
end
section
namespace Go.VS
set_option maxRecDepth 4000
attribute [-simp] isLeaf okRet ridL V.leaves isLent expL W_ra
def nbrs:List Int:=[0,1,-1,2,5,127,128,-128,-129,255,256,32767,32768,-32768,-32769,65535,65536,2147483647,2147483648,-2147483648,4294967295,4294967296]
theorem ajx (n:Bool) (l:Bs) (hl:l.length≤1048576):∃ x:Ty × Int,(∀ K:Out→Prop,Call prog 429 ⟨[slv n true 1 (bytesV l)],[],[]⟩ K=K (.tup [x.1.w,.i .i64 x.2],[],[]))∧x.1.tot≤20000:=by
  refine aan (fun x:Ty × Int=>(.tup [x.1.w,.i .i64 x.2],[],[])) _ fun K hK=>?_
  rw [abo (p:=prog) (f:=429) rfl _ _ _ rfl (by decide)]
  have h:Src.Rm 400000 ⟨n,l,0,0⟩:=⟨by show l.length≤lim;unfold lim;omega,by show 0+400000≤_;decide⟩
  obtain ⟨x,ex,x1,x2⟩:=ad2 ⟨n,l,0,0⟩ (h.mono (by omega))
  have ex:∀ K:Out→Prop,Call prog 472 ⟨[.ptr 0 0],[[slv n true 1 (bytesV l),.i .i64 0,.i .u64 0]],[]⟩ K=K (x.1.w,[x.2.c],[]):=ex
  have hx:x.1.tot=0:=by obtain ⟨s,sg,bg,e,_⟩:=x1;rw [e,ah4]
  obtain ⟨y,ey,y1,y2⟩:=aam x.2 5 (h.go x2 (by omega))
  have xy:=x2.trans y2
  have y0:=y1.1
  have y3:=y1.2.1
  by_cases c0:y.1=0
  · rw [c0] at ey
    obtain ⟨t,et,t1,t2⟩:=air y.2 (h.go xy (by omega))
    have ht:t.1.tot≤20000:=by have:=t1.2.2.2.2;omega
    have xt:=xy.trans t2
    obtain ⟨u,eu,u1,u2⟩:=abl false t.2 nbrs (by simp [nbrs]) (by simp [nbrs,lim]) (h.go xt (by omega))
    have xu:=xt.trans u2
    by_cases hp:0<(t.1).nums.length
    · have h0:=Ty.tot_eq (t.1)
      obtain ⟨v,ev,v1⟩:=one_ex u.2 3 (h.go xu (by omega))
      have xv:=xu.trans v1
      cases hv:v.1
      · rw [hv] at ev
        obtain ⟨w,ew,w1,w2⟩:=abl true v.2 (t.1).nums (List.length_pos_iff.1 hp) (by unfold lim;omega) (h.go xv (by omega))
        have o:=hK (t.1,w.1) ht
        simp only [Src.c,nbrs,List.map_cons,List.map_nil,Tag_eq] at ex ey eu ev ew et o ⊢
        simp -implicitDefEqProofs [abj,ex,ey,et,eu,hp,ev,ew]
        simpa -implicitDefEqProofs using o
      · rw [hv] at ev
        have o:=hK (t.1,u.1) ht
        simp only [Src.c,nbrs,List.map_cons,List.map_nil,Tag_eq] at ex ey eu ev et o ⊢
        simp -implicitDefEqProofs [abj,ex,ey,et,eu,hp,ev]
        simpa -implicitDefEqProofs using o
    · have o:=hK (t.1,u.1) ht
      simp only [Src.c,nbrs,List.map_cons,List.map_nil,Tag_eq] at ex ey eu et o ⊢
      simp -implicitDefEqProofs [abj,ex,ey,et,eu,hp]
      simpa -implicitDefEqProofs using o
  by_cases c1:y.1=1
  · rw [c1] at ey
    obtain ⟨t,et,t1,t2⟩:=Any_ex y.2 6 (h.go xy (by omega))
    have ht:t.1.tot≤20000:=t1
    have xt:=xy.trans t2
    obtain ⟨u,eu,u1,u2⟩:=abl false t.2 nbrs (by simp [nbrs]) (by simp [nbrs,lim]) (h.go xt (by omega))
    have xu:=xt.trans u2
    by_cases hp:0<(t.1).nums.length
    · have h0:=Ty.tot_eq (t.1)
      obtain ⟨v,ev,v1⟩:=one_ex u.2 3 (h.go xu (by omega))
      have xv:=xu.trans v1
      cases hv:v.1
      · rw [hv] at ev
        obtain ⟨w,ew,w1,w2⟩:=abl true v.2 (t.1).nums (List.length_pos_iff.1 hp) (by unfold lim;omega) (h.go xv (by omega))
        have o:=hK (t.1,w.1) ht
        simp only [Src.c,nbrs,List.map_cons,List.map_nil,Tag_eq] at ex ey eu ev ew et o ⊢
        simp -implicitDefEqProofs [abj,ex,ey,et,eu,hp,ev,ew]
        simpa -implicitDefEqProofs using o
      · rw [hv] at ev
        have o:=hK (t.1,u.1) ht
        simp only [Src.c,nbrs,List.map_cons,List.map_nil,Tag_eq] at ex ey eu ev et o ⊢
        simp -implicitDefEqProofs [abj,ex,ey,et,eu,hp,ev]
        simpa -implicitDefEqProofs using o
    · have o:=hK (t.1,u.1) ht
      simp only [Src.c,nbrs,List.map_cons,List.map_nil,Tag_eq] at ex ey eu et o ⊢
      simp -implicitDefEqProofs [abj,ex,ey,et,eu,hp]
      simpa -implicitDefEqProofs using o
  obtain ⟨u,eu,u1,u2⟩:=abl false y.2 nbrs (by simp [nbrs]) (by simp [nbrs,lim]) (h.go xy (by omega))
  have xu:=xy.trans u2
  by_cases hp:0<(x.1).nums.length
  · have h0:=Ty.tot_eq (x.1)
    obtain ⟨v,ev,v1⟩:=one_ex u.2 3 (h.go xu (by omega))
    have xv:=xu.trans v1
    cases hv:v.1
    · rw [hv] at ev
      obtain ⟨w,ew,w1,w2⟩:=abl true v.2 (x.1).nums (List.length_pos_iff.1 hp) (by unfold lim;omega) (h.go xv (by omega))
      have o:=hK (x.1,w.1) (by show x.1.tot≤20000;omega)
      simp only [Src.c,nbrs,List.map_cons,List.map_nil,Tag_eq] at ex ey eu ev ew  o ⊢
      simp -implicitDefEqProofs [abj,ex,ey,c0,c1,eu,hp,ev,ew]
      simpa -implicitDefEqProofs using o
    · rw [hv] at ev
      have o:=hK (x.1,u.1) (by show x.1.tot≤20000;omega)
      simp only [Src.c,nbrs,List.map_cons,List.map_nil,Tag_eq] at ex ey eu ev  o ⊢
      simp -implicitDefEqProofs [abj,ex,ey,c0,c1,eu,hp,ev]
      simpa -implicitDefEqProofs using o
  · have o:=hK (x.1,u.1) (by show x.1.tot≤20000;omega)
    simp only [Src.c,nbrs,List.map_cons,List.map_nil,Tag_eq] at ex ey eu  o ⊢
    simp -implicitDefEqProofs [abj,ex,ey,c0,c1,eu,hp]
    simpa -implicitDefEqProofs using o
end Go.VS
end
section
namespace Go.VS
set_option maxRecDepth 4000
attribute [-simp] isLeaf okRet ridL V.leaves isLent expL W_ra
theorem arv (n:Int):∀ k:Nat,k≤8→leI (leB n k)=n % 256 ^ k
  | 0,_=>by simp [leB,leI]
  | k+1,h8=>by
    have ih:=arv n k (by omega)
    rw [ahi,aik,ih,leB_len]
    have hp:(0:Int)<256 ^ k:=Int.pow_pos (by decide)
    have e3:shrI .i64 n (8*(k:Int))=n / 256 ^ k:=by
      unfold shrI
      have m:min (8*(k:Int)).toNat (IntKind.i64.bits)=8*k:=by
        have:IntKind.i64.bits=64:=rfl
        omega
      rw [m,Int.fdiv_eq_ediv_of_nonneg _ (by exact Int.le_of_lt (Int.pow_pos (by decide))),Int.pow_mul]
      rfl
    rw [ai0,ahv,e3,Int.pow_succ]
    have h1:=Int.emod_add_mul_ediv n (256 ^ k)
    have h2:=Int.emod_nonneg n (show (256:Int) ^ k≠0 by omega)
    have h3:=Int.emod_lt_of_pos n hp
    generalize (256:Int) ^ k=p at *
    generalize n % p=r at *
    generalize n / p=a at *
    have h4:=Int.emod_add_mul_ediv a 256
    have h5:=Int.emod_nonneg a (show (256:Int)≠0 by decide)
    have h6:=Int.emod_lt_of_pos a (show (0:Int)<256 by decide)
    generalize a % 256=c at *
    generalize a / 256=d at *
    have h7:n=(r+c*p)+p*256*d:=by
      rw [← h1,← h4,Int.mul_add,Int.mul_comm p c,← Int.mul_assoc,Int.add_assoc]
    have h8:c*p≤255*p:=Int.mul_le_mul_of_nonneg_right (by omega) (by omega)
    have h9:0≤c*p:=Int.mul_nonneg h5 (by omega)
    rw [h7,Int.add_mul_emod_self_left]
    exact (Int.emod_eq_of_lt (by omega) (by omega)).symm
theorem ar6 {t:Ty} (h:IntF t) (n:Int) (h1:lo t.size t.sg≤n) (h2:n≤hi t.size t.sg):t.num (t.put n)=n:=by
  unfold Ty.put Ty.num
  rw [asa]
  unfold numB sgnI
  have hk:=h.len
  rw [arv _ _ (by omega)]
  unfold lo at h1
  unfold hi at h2
  have hs:=h.s
  have hg:=h.g
  rcases hs with s | s | s | s
  · rw [s] at h1 h2 ⊢
    cases hsg:t.sg <;> rw [hsg] at h1 h2 <;> simp at h1 h2 ⊢ <;> (try split) <;> omega
  · rw [s] at h1 h2 ⊢
    cases hsg:t.sg <;> rw [hsg] at h1 h2 <;> simp at h1 h2 ⊢ <;> (try split) <;> omega
  · rw [s] at h1 h2 ⊢
    cases hsg:t.sg <;> rw [hsg] at h1 h2 <;> simp at h1 h2 ⊢ <;> (try split) <;> omega
  · rw [hg s] at h1 h2 ⊢
    rw [s] at h1 h2 ⊢
    simp at h1 h2 ⊢
    split <;> omega
end Go.VS
end
section
namespace Go.VS
set_option maxRecDepth 4000
attribute [-simp] isLeaf okRet ridL V.leaves isLent expL W_ra
noncomputable def elX (t:Ty) (b:Bs):Bs:=@ite _ (Gd 3 t∧Ok 3 t b) (Classical.propDecidable _) (shw 3 t b) []
theorem aif (t:Ty) (hb:t.tot≤lim) (b:Bs) (hl:b.length≤lim) (K:Out→Prop):Call prog 428 ⟨[t.w,.s b],[],[]⟩ K=K (.s (elX t b),[],[]):=by
  refine Zc (f:=428) rfl rfl (by decide) ?_
  have e1:=abc t hb b hl
  unfold elX
  by_cases g:Gd 3 t∧Ok 3 t b
  · rw [if_pos g]
    rw [tB_t g] at e1
    have e2:=abm 3 (Nat.le_refl _) g.1 b g.2
    simp -implicitDefEqProofs [e1,e2]
  · rw [if_neg g]
    rw [tB_f g] at e1
    simp -implicitDefEqProofs [e1]
theorem avu {t:Ty} {b:Bs} (g:Gd 3 t) (o:Ok 3 t b):(shw 3 t b).length≤1048576∧rdR t (shw 3 t b)=(b,true):=by
  have hl:(shw 3 t b).length≤1048576:=by have:=ajr 3 g b o;omega
  refine ⟨hl,?_⟩
  obtain ⟨x,_,hx⟩:=ai3 3 (Nat.le_refl _) t g (shw 3 t b) 0 false hl (Nat.zero_le _)
  have rd:∀ b',Ok 3 t b'→shw 3 t b'=shw 3 t b→x.1=b':=fun b' h1 h2=>(hx.rd b' [] rfl h1 (by rw [h2,List.append_nil];rfl) asr).1
  unfold rdR
  rw [if_pos g,rdE_eq ⟨o,rfl⟩ fun b' h1 h2=>by rw [← rd b' h1 h2,rd b o rfl]]
  rfl
theorem alh {t:Ty} (h:¬ (t.kind=1∨t.kind=3∨t.kind=6)) (n:Int) (K:Out→Prop):Call prog 475 ⟨[t.w,.i .i64 n],[],[]⟩ K=K (.b false,[],[]):=by
  refine Zc (f:=475) rfl rfl (by decide) ?_
  have f1:(t.kind=1)=False:=eq_false fun h'=>h (.inl h')
  have f3:(t.kind=3)=False:=eq_false fun h'=>h (.inr (.inl h'))
  have f6:(t.kind=6)=False:=eq_false fun h'=>h (.inr (.inr h'))
  simp -implicitDefEqProofs [f1,f3,f6]
theorem aj1 (t:Ty) (K:Out→Prop):Call prog 465 ⟨[t.w],[],[]⟩ K=K (.b (decide (t.kind=1∨t.kind=3∨t.kind=6)),[],[]):=by
  refine Zc (f:=465) rfl rfl (by decide) ?_
  by_cases k1:t.kind=1
  · simp -implicitDefEqProofs [k1]
  by_cases k3:t.kind=3
  · simp -implicitDefEqProofs [k3]
  simp -implicitDefEqProofs [k1,k3]
def BoP (t:Ty) (n:Int):Prop:=Gd 3 t∧(t.kind=1∨t.kind=3∨t.kind=6)∧t.holds n=true
noncomputable def boR (t:Ty) (n:Int):Bs × Bool:=@ite _ (BoP t n) (Classical.propDecidable _) (t.it.put n,true) ([],false)
theorem boR_t {t:Ty} {n:Int} (h:BoP t n):boR t n=(t.it.put n,true):=by unfold boR;rw [if_pos h]
theorem boR_f {t:Ty} {n:Int} (h:¬ BoP t n):boR t n=([],false):=by unfold boR;rw [if_neg h]
theorem ama (t:Ty) (hb:t.tot≤lim) (n:Int) (K:Out→Prop):Call prog 430 ⟨[t.w,.i .i64 n],[],[]⟩ K=K (.tup [.s (boR t n).1,.b (boR t n).2],[],[]):=by
  refine Zc (f:=430) rfl rfl (by decide) ?_
  have e0:=adz t hb
  by_cases g:Gd 3 t
  case neg=>
    rw [tB_f g] at e0
    rw [boR_f fun h=>g h.1]
    simp -implicitDefEqProofs [e0]
  rw [tB_t g] at e0
  by_cases kn:t.kind=1∨t.kind=3∨t.kind=6
  case neg=>
    have e1:=alh kn n
    rw [boR_f fun h=>kn h.2.1]
    simp -implicitDefEqProofs [e0,e1]
  have gn:=g.n kn
  have e1:=afd gn n
  have e2:=ah0 gn n
  cases hh:t.holds n
  · rw [boR_f fun h=>by have:=h.2.2;rw [hh] at this;cases this]
    rw [hh] at e1
    simp -implicitDefEqProofs [e0,e1]
  · rw [boR_t ⟨g,kn,hh⟩]
    rw [hh] at e1
    simp -implicitDefEqProofs [e0,e1,e2]
theorem aks (t:Ty) (hb:t.tot≤lim) (n:Int) (K:Out→Prop):Call prog 431 ⟨[t.w,.i .i64 n],[],[]⟩ K=K (.tup [.s (boR t n).1,.b (boR t n).2],[],[]):=by
  refine Zc (f:=431) rfl rfl (by decide) ?_
  have e0:=akf t hb
  by_cases g:Gd 3 t
  case neg=>
    rw [tB_f g] at e0
    rw [boR_f fun h=>g h.1]
    simp -implicitDefEqProofs [e0]
  rw [tB_t g] at e0
  by_cases kn:t.kind=1∨t.kind=3∨t.kind=6
  case neg=>
    have e1:=agm t (fun h=>absurd (.inr (.inl h)) kn)
    have e2:t.isN=false:=decide_eq_false kn
    rw [e2] at e1
    rw [boR_f fun h=>kn h.2.1]
    simp -implicitDefEqProofs [e0,e1]
  have gn:=g.n kn
  have e1:=gn.l03
  have e2:=aen gn n
  have e3:=abd gn n
  cases hh:t.holds n
  · rw [boR_f fun h=>by have:=h.2.2;rw [hh] at this;cases this]
    rw [hh] at e2
    simp -implicitDefEqProofs [e0,e1,e2]
  · rw [boR_t ⟨g,kn,hh⟩]
    rw [hh] at e2
    simp -implicitDefEqProofs [e0,e1,e2,e3]
theorem put_ok {t:Ty} {n:Int} (h:BoP t n):Ok 3 t (t.it.put n)∧(t.it.put n).length=t.it.size.toNat∧t.it.num (t.it.put n)=n:=by
  obtain ⟨g,kn,hh⟩:=h
  have gn:=g.n kn
  have hl:=put_sz g kn n
  obtain ⟨h1,h2⟩:=it_len g kn hl
  have hn:t.it.num (t.it.put n)=n:=by
    unfold Ty.holds at hh
    split at hh
    · rename_i k3
      have hm:n ∈ t.nums:=of_decide_eq_true hh
      obtain ⟨i,hi,e⟩:=List.mem_iff_getElem.1 hm
      have en:=gn.en k3
      obtain ⟨b,hb,_,ig,hc⟩:=en.ba
      have c:=hc i (by have:=en.nn;omega)
      have e2:t.nums.getD i 0=n:=by rw [List.getD_eq_getElem?_getD,List.getElem?_eq_getElem hi];exact e
      have e3:t.it=b:=by unfold Ty.it;rw [if_neg (by omega),if_pos k3,hb];rfl
      have c1:=c.lo
      have c2:=c.hi
      rw [e2] at c1 c2
      rw [e3]
      exact ar6 ig.toIntF n c1 c2
    · unfold inI at hh
      have hh:lo t.it.size t.it.sg≤n∧n≤hi t.it.size t.it.sg:=by simpa using hh
      exact ar6 h2 n hh.1 hh.2
  refine ⟨⟨hl,fun k=>by omega,fun k=>?_,fun k=>by omega,fun k=>by omega⟩,h1,hn⟩
  rw [hn]
  unfold Ty.holds at hh
  rw [if_pos k] at hh
  exact of_decide_eq_true hh
theorem agr {t:Ty} {n:Int} (hb:t.tot≤lim) (h:BoP t n) (K:Out→Prop):Call prog 432 ⟨[t.w,.s (t.it.put n)],[],[]⟩ K=K (.tup [.i .i64 n,.b true],[],[]):=by
  refine Zc (f:=432) rfl rfl (by decide) ?_
  obtain ⟨o,hl,hn⟩:=put_ok h
  have hs:=h.1.sz
  have e0:=abc t hb (t.it.put n) (by have:=Ok_len o;unfold lim;omega)
  rw [tB_t ⟨h.1,o⟩] at e0
  have e1:=aj1 t
  rw [decide_eq_true h.2.1] at e1
  have e2:=adk (h.1.n h.2.1) (t.it.put n) hl
  rw [hn] at e2
  simp -implicitDefEqProofs [e0,e1,e2]
end Go.VS
end
section
namespace Go.VS
set_option maxRecDepth 4000
attribute [-simp] isLeaf okRet ridL V.leaves isLent expL W_ra
set_option maxHeartbeats 1000000 in
theorem elLaw (na:Bool) (a:Bs) (nb:Bool) (b:Bs) (K:Out→Prop):
    Call prog 617 ⟨[slv na true 1 (bytesV a),slv nb true 1 (bytesV b)],[],[]⟩ K=K (.b true,[],[]):=by
  refine Zc (f:=617) rfl rfl (by decide) ?_
  have e0:=aiy false a
  have e1:=aiy false b
  simp only [slv_f,Tag_eq] at e0 e1
  by_cases ca:(1048576:Int)<a.length
  · rw [decide_eq_true ca] at e0
    simp -implicitDefEqProofs [e0]
  rw [decide_eq_false ca] at e0
  by_cases cb:(1048576:Int)<b.length
  · rw [decide_eq_true cb] at e1
    simp -implicitDefEqProofs [e0,e1]
  rw [decide_eq_false cb] at e1
  obtain ⟨⟨t,x⟩,e2,p1,p2⟩:=agp false a (by omega)
  obtain ⟨⟨u,n⟩,e3,q1⟩:=ajx false b (by omega)
  simp only [slv_f,Tag_eq] at e2 e3 p1 p2 q1
  have ht:t.tot≤lim:=by unfold lim;omega
  have hx:x.length≤lim:=by unfold lim;omega
  have hu:u.tot≤lim:=by unfold lim;omega
  have e4:=aif t ht x hx
  have e5:=agt t ht x hx
  have e6:=ama u hu n
  have e7:=aks u hu n
  by_cases g:Gd 3 t∧Ok 3 t x
  · obtain ⟨r1,r2⟩:=avu g.1 g.2
    have hs:elX t x=shw 3 t x:=by unfold elX;rw [if_pos g]
    rw [hs] at e4
    rw [tB_t g] at e5
    have e8:=aig t ht (shw 3 t x) r1
    rw [r2] at e8
    by_cases h:BoP u n
    · rw [boR_t h] at e6 e7
      have e9:=agr hu h
      have e10:=abc u hu (u.it.put n) (by have:=Ok_len (put_ok h).1;have:=h.1.sz;unfold lim;omega)
      rw [tB_t ⟨h.1,(put_ok h).1⟩] at e10
      simp -implicitDefEqProofs [e0,e1,e2,e3,e4,e5,e6,e7,e8,e9,e10]
    · rw [boR_f h] at e6 e7
      simp -implicitDefEqProofs [e0,e1,e2,e3,e4,e5,e6,e7,e8]
  · have hs:elX t x=[]:=by unfold elX;rw [if_neg g]
    rw [hs] at e4
    rw [tB_f g] at e5
    by_cases h:BoP u n
    · rw [boR_t h] at e6 e7
      have e9:=agr hu h
      have e10:=abc u hu (u.it.put n) (by have:=Ok_len (put_ok h).1;have:=h.1.sz;unfold lim;omega)
      rw [tB_t ⟨h.1,(put_ok h).1⟩] at e10
      simp -implicitDefEqProofs [e0,e1,e2,e3,e4,e5,e6,e7,e9,e10]
    · rw [boR_f h] at e6 e7
      simp -implicitDefEqProofs [e0,e1,e2,e3,e4,e5,e6,e7]
end Go.VS
end
