import Derived.Test.YtdnblconoegeaaaGreatDoorVwU6
set_option linter.all false
namespace Go.VS
set_option maxRecDepth 8000
attribute [-simp] isLeaf
theorem ah8 (q:Bool) (l:List Int) (hl:l.length≤lim) (K:Out→Prop):Call prog 335 ⟨[.view q 1 (iV l)],[],[]⟩ K=K (.sl 0 0 l.length false,[],[.row 1 false (iV l)]):=by
  refine Zc (f:=335) rfl rfl (by decide) ?_
  have hl':=hl
  unfold lim at hl'
  simp -implicitDefEqProofs [iV,hl]
  refine WL_for (fun i=>⟨sp 22 [(0,.view q 1 (l.map (V.i .i64))),(3,.sl 0 0 l.length false),(4,.i .i64 i)],[],[.row 1 false ((l.map (V.i .i64)).take i++List.replicate (l.length - i) (V.i .i64 0))]⟩) l.length (fun _=>True) _ (by simp -implicitDefEqProofs) trivial ?_
  intro i hi _
  by_cases hlt:i<l.length
  · have hw:=wrap_i64 (n:=(i:Int)+1) (by omega) (by omega)
    have h1:=ahs (xs:=l.map (V.i .i64)) (d:=V.i .i64 0) (e:=V.no) hlt (by simp)
    have h2:=aht (xs:=l.map (V.i .i64)) (d:=V.i .i64 0) (x:=V.i .i64 l[i]) hlt (by simp) (by simp [hlt])
    simp -implicitDefEqProofs [hlt,hw,h1,h2,Next]
  · have:i=l.length:=by omega
    subst this
    have ht:(l.map (V.i .i64)).take l.length=l.map (V.i .i64):=by rw [List.take_of_length_le (by simp)]
    simp -implicitDefEqProofs [ht]
structure Ni.sm (y:Ni):Prop where
  s:y.x.name.length≤lim
  d:y.x.dims.length≤lim
  n:y.x.nums.length≤lim
theorem alb (y:Ni) (hb:y.sm) (K:Out→Prop):
    Call prog 326 ⟨[.agg (niC y)],[],[]⟩ K=K (.agg [.sl 0 0 y.x.dims.length false,.sl 1 0 y.x.nums.length false],[],[.row 1 false (iV y.x.dims),.row 1 false (iV y.x.nums)]):=by
  refine Zc (f:=326) rfl rfl (by decide) ?_
  have e1:=fun K=>ah8 true y.x.dims hb.d K
  have e2:=fun K=>ah8 true y.x.nums hb.n K
  simp -implicitDefEqProofs [niC,e1,e2]
theorem agz (y:Ni) (hb:y.sm) (K:Out→Prop):
    Call prog 317 ⟨[niV y],[],[]⟩ K=K (.agg [.s y.x.name,.sl 0 0 y.x.dims.length false,.sl 1 0 y.x.nums.length false],[],[.row 1 false (iV y.x.dims),.row 1 false (iV y.x.nums)]):=by
  refine Zc (f:=317) rfl rfl (by decide) ?_
  have e1:=fun K=>alb y hb K
  simp only [niC,Tag_eq] at e1
  simp -implicitDefEqProofs [niV,e1]
def nnsV (l:List Ni):List V:=l.map fun y=>nnV y.x
theorem aft (q:Bool) (l:List Ni) (hl:l.length≤lim) (hs:∀ s,s ∈ l→s.sm) (K:Out→Prop):Call prog 304 ⟨[.view q 3 (l.map niV)],[],[]⟩ K=K (.sl 0 0 l.length false,[],[.row 3 false (nnsV l)]):=by
  refine Zc (f:=304) rfl rfl (by decide) ?_
  have hl':=hl
  unfold lim at hl'
  simp -implicitDefEqProofs [hl]
  refine WL_for (fun i=>⟨sp 23 [(0,.view q 3 (l.map niV)),(3,.sl 0 0 l.length false),(4,.i .i64 i)],[],[.row 3 false ((nnsV l).take i++List.replicate (l.length - i) (V.agg [.s [],.nil,.nil]))]⟩) l.length (fun _=>True) _ (by simp -implicitDefEqProofs) trivial ?_
  intro i hi _
  by_cases hlt:i<l.length
  · have hw:=wrap_i64 (n:=(i:Int)+1) (by omega) (by omega)
    have h1:=ahs (xs:=nnsV l) (d:=V.agg [.s [],.nil,.nil]) (e:=V.no) hlt (by simp [nnsV])
    have h2:=aht (xs:=nnsV l) (d:=V.agg [.s [],.nil,.nil]) (x:=nnV l[i].x) hlt (by simp [nnsV]) (by simp [nnsV,hlt])
    have e1:=fun K=>agz l[i] (hs _ (List.getElem_mem hlt)) K
    simp only [niV] at e1
    simp only [nnV] at h2
    have ht1:(iV l[i].x.dims).take l[i].x.dims.length=iV l[i].x.dims:=List.take_of_length_le (by simp [iV])
    have ht2:(iV l[i].x.nums).take l[i].x.nums.length=iV l[i].x.nums:=List.take_of_length_le (by simp [iV])
    simp -implicitDefEqProofs [hlt,hw,h1,h2,e1,niV,ht1,ht2,Next]
  · have:i=l.length:=by omega
    subst this
    have ht:(nnsV l).take l.length=nnsV l:=by rw [List.take_of_length_le (by simp [nnsV])]
    simp -implicitDefEqProofs [ht]
theorem akz (x:Nn) (h1:x.dims.length≤lim) (h2:x.nums.length≤lim) (K:Out→Prop):Call prog 330 ⟨[.agg (nuC x),.agg (nuC x)],[],[]⟩ K=K (.b true,[],[]):=by
  refine Zc (f:=330) rfl rfl (by decide) ?_
  have e1:=fun K=>ag5 true true x.dims h1 K
  have e2:=fun K=>ag5 true true x.nums h2 K
  simp -implicitDefEqProofs [nuC,iV,e1,e2]
theorem agw (x:Nn) (h1:x.dims.length≤lim) (h2:x.nums.length≤lim) (K:Out→Prop):Call prog 320 ⟨[nnV x,nnV x],[],[]⟩ K=K (.b true,[],[]):=by
  refine Zc (f:=320) rfl rfl (by decide) ?_
  have e1:=fun K=>akz x h1 h2 K
  simp only [nuC,Tag_eq] at e1
  simp -implicitDefEqProofs [nnV,e1]
theorem afr (q q':Bool) (l:List Nn) (s:NnSm l) (K:Out→Prop):Call prog 308 ⟨[.view q 3 (l.map nnV),.view q' 3 (l.map nnV)],[],[]⟩ K=K (.b true,[],[]):=by
  refine Zc (f:=308) rfl rfl (by decide) ?_
  have hn:=s.n
  simp -implicitDefEqProofs
  refine WL_for (fun i=>⟨sp 27 [(0,.view q 3 (l.map nnV)),(1,.view q' 3 (l.map nnV)),(5,.i .i64 i)],[],[]⟩) l.length (fun _=>True) _ (by simp -implicitDefEqProofs) trivial ?_
  intro i hi _
  by_cases hlt:i<l.length
  · have hw:=wrap_i64 (n:=(i:Int)+1) (by omega) (by omega)
    obtain ⟨s1,s2,s3⟩:=s.s _ (List.getElem_mem hlt)
    have e1:=fun K=>agw l[i] s2 s3 K
    simp only [nnV] at e1
    simp -implicitDefEqProofs [hlt,hw,e1,nnV,Next]
  · simp -implicitDefEqProofs [hlt]
theorem am5 (q q':Bool) (p:Pr) (h:p.sm) (K:Out→Prop):Call prog 307 ⟨[.agg (prC q p),.agg (prC q' p)],[],[]⟩ K=K (.b true,[],[]):=by
  refine Zc (f:=307) rfl rfl (by decide) ?_
  have e1:=fun K=>am3 q q' p h K
  simp only [prC,Tag_eq] at e1
  simp -implicitDefEqProofs [prC,e1]
theorem am4 (q q':Bool) (p:Pr) (h:p.sm) (l:List Nn) (s:NnSm l) (K:Out→Prop):Call prog 295 ⟨[.agg (shC q p l),.agg (shC q' p l)],[],[]⟩ K=K (.b true,[],[]):=by
  refine Zc (f:=295) rfl rfl (by decide) ?_
  have e1:=fun K=>am5 q q' p h K
  have e2:=fun K=>afr q q' l s K
  simp only [prC,Tag_eq] at e1
  simp -implicitDefEqProofs [shC,prC,e1,e2]
theorem aor (n:N4) (p:Pr) (h:p.sm) (K:Out→Prop):Call prog 303 ⟨[.agg (prR n p)],[],[]⟩ K=K (.agg (prW p),[],prRows p):=by
  refine Zc (f:=303) rfl rfl (by decide) ?_
  have e1:=fun K=>aop n p h K
  simp only [prR,prW,prRows,Tag_eq] at e1
  simp -implicitDefEqProofs [prR,prW,prRows,e1]
def shW (p:Pr) (n:Nat):List V:=prW p++[.sl 4 0 n false]
theorem aoq (n:N4) (p:Pr) (h:p.sm) (m:Bool) (l:List Ni) (hl:l.length≤lim) (hs:∀ s,s ∈ l→s.sm) (K:Out→Prop):
    Call prog 292 ⟨[.agg (shR n p m l)],[],[]⟩ K=K (.agg (shW p l.length),[],prRows p++[.row 3 false (nnsV l)]):=by
  refine Zc (f:=292) rfl rfl (by decide) ?_
  have e1:=fun K=>aor n p h K
  have e2:=fun K=>aft true l hl hs K
  simp only [prR,prW,prRows,Tag_eq] at e1
  simp -implicitDefEqProofs [shR,shW,prR,prW,prRows,e1,e2]
end Go.VS
