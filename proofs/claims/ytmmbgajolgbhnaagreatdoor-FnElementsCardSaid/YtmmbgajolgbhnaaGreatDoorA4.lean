/-
  A law's arguments: what a reading says of them; a call of a law.
-/
import Derived.Test.YtmmbgajolgbhnaaGreatDoorA5
import GoSem.ClaimChange
import Derived.OpenShut
import Derived.Carry
import Derived.ChangeSame
import Derived.RowKit
import Derived.ChangeMaps5
import Derived.WideShapes
set_option linter.all false
section
namespace Go.VS
open Go
inductive Sh where
  | bo
  | nu (k:IntKind)
  | st
  | sl (ag:Bool) (e:Sh)
  | un
  | pr (x y:Sh)
  deriving Inhabited
def Sh.z:Sh→Nat
  | .un=>0
  | .pr x y=>x.z+y.z
  | _=>1
def mkE (ag:Bool) (cs:List V):V:=if ag then .agg cs else cs.headD .no
def HasC:Sh→List V→Prop
  | .bo,vs=>∃ x,vs=[.b x]
  | .nu k,vs=>∃ n,vs=[.i k n]∧k.min≤n∧n≤k.max
  | .st,vs=>∃ l,vs=[.s l]∧l.length≤maxLen
  | .sl ag e,vs=>vs=[.nil]∨∃ xs,vs=[.view true e.z xs]∧xs.length≤maxLen∧∀ x,x ∈ xs→∃ cs,HasC e cs∧x=mkE ag cs
  | .un,vs=>vs=[]
  | .pr x y,vs=>∃ us ws,vs=us++ws∧HasC x us∧HasC y ws
theorem HasC.len:∀ {sh:Sh} {vs:List V},HasC sh vs→vs.length=sh.z
  | .bo,vs,⟨x,e⟩=>by rw [e];rfl
  | .nu k,vs,⟨x,e,_⟩=>by rw [e];rfl
  | .st,vs,⟨x,e,_⟩=>by rw [e];rfl
  | .sl ag e,vs,h=>by rcases h with e | ⟨xs,e,_⟩ <;> rw [e] <;> rfl
  | .un,vs,e=>by rw [show vs=[] from e];rfl
  | .pr x y,vs,⟨us,ws,e,h1,h2⟩=>by rw [e,List.length_append,h1.len,h2.len,Sh.z]
def allOld (w:World) (b _:Nat):Prop:=b<w.heap.size
theorem ar0 {ag:Bool} {cs:List V} (h:ag=true∨cs.length=1) (hl:∀ v,v ∈ cs→v.cells=[v]):(mkE ag cs).cells=cs:=by
  unfold mkE
  cases ag with
  | true=>rfl
  | false=>
    rcases h with h | h
    · cases h
    · obtain ⟨v,rfl⟩:=List.length_eq_one_iff.1 h
      simp only [Bool.false_eq_true,if_false,List.headD_cons]
      exact hl v (by simp)
theorem ana {α β:Type} {f:α→Option β}:∀ {l:List α} {r:List β},l.mapM f=some r→r.length=l.length∧∀ (j:Nat) x,l[j]?=some x→∃ y,r[j]?=some y∧f x=some y
  | [],r,h=>by simp at h;subst h;exact ⟨rfl,fun j x hj=>by simp at hj⟩
  | a :: l,r,h=>by
    simp only [List.mapM_cons,Option.bind_eq_bind,Option.pure_def] at h
    obtain ⟨y,hy,h⟩:=Option.bind_eq_some_iff.1 h
    obtain ⟨ys,hys,h⟩:=Option.bind_eq_some_iff.1 h
    cases h
    obtain ⟨l1,l2⟩:=ana hys
    refine ⟨by simp [l1],fun j x hj=>?_⟩
    cases j with
    | zero=>cases hj;exact ⟨y,rfl,hy⟩
    | succ j=>exact l2 j x (by simpa using hj)
section
variable {H:Type} {enc:TypeId × Value→H} {P:Program} {w:World} {base:Nat} {spare:Nat→Bool} {held:Bool}
def CellsOk (w:World) (vs:List V) (cs:List Value):Prop:=cs.length=vs.length∧∀ j v,vs[j]?=some v→POk w (allOld w) v (cs.getD j undef)∧(cs.getD j undef).oneCell'=true
theorem CellsOk.one {v:V} {c:Value} (h:POk w (allOld w) v c):CellsOk w [v] [c]:=⟨rfl,fun j u hj=>by
  cases j with
  | zero=>cases hj;exact ⟨h,h.leaf.2.1⟩
  | succ j=>simp at hj⟩
theorem CellsOk.leaf {vs:List V} {cs:List Value} (h:CellsOk w vs cs) {v:V} (hv:v ∈ vs):v.cells=[v]:=by
  obtain ⟨j,hj⟩:=List.mem_iff_getElem?.1 hv
  exact (h.2 j v hj).1.leaf.1
theorem CellsOk.append {us vs:List V} {cs ds:List Value} (h1:CellsOk w us cs) (h2:CellsOk w vs ds):CellsOk w (us++vs) (cs++ds):=by
  refine ⟨by simp [h1.1,h2.1],fun j v hj=>?_⟩
  rw [List.getD_eq_getElem?_getD]
  by_cases hlt:j<us.length
  · rw [List.getElem?_append_left hlt] at hj
    rw [List.getElem?_append_left (by rw [h1.1];exact hlt),← List.getD_eq_getElem?_getD]
    exact h1.2 j v hj
  · rw [List.getElem?_append_right (by omega)] at hj
    rw [List.getElem?_append_right (by rw [h1.1];omega),← List.getD_eq_getElem?_getD,h1.1]
    exact h2.2 _ v hj
theorem cells?_some {a:Addr} {n:Nat} {cs:List Value} (h:w.cells? base a n=some cs):cs.length=n∧∀ j,j<n→w.cell? (a.add j)=some (cs.getD j undef):=by
  unfold World.cells? at h
  split at h
  · obtain ⟨h1,h2⟩:=ana h
    rw [List.length_range] at h1
    refine ⟨h1,fun j hj=>?_⟩
    obtain ⟨y,hy1,hy2⟩:=h2 j j (List.getElem?_range hj)
    rw [hy2,List.getD_eq_getElem?_getD,hy1];rfl
  · cases h
end
end Go.VS
end
section
namespace Go.VS
open Go Go.ChangeShapes Go.WideShapes Go.RowKit
def top (W:World):Gh:=⟨allOld W,allOld W,fun _=>none,fun _=>none⟩
def topCx (W:World):Cx:=⟨W,fun _ _=>False,allOld W,allOld W,fun _=>none,fun _=>none⟩
theorem av8 (P:Program) (φ:Nat→FuncId) (W:World) {vs:List V} {args:Array Value} (hs:args.size=vs.length) (h:∀ j v,vs[j]?=some v→VOk φ W (top W) v (args.getD j undef)):
    Sim φ ⟨W.heap.size,P⟩ (topCx W) ⟨vs,[],[]⟩ ⟨args,[]⟩ W (top W):=by
  have nb:∀ i b lo hi,¬ BlkAt (top W) ⟨vs,[],[]⟩ i b lo hi:=by rintro i b lo hi ⟨cs,h1,_⟩;simp at h1
  have nr:∀ i b,¬ RowAt (top W) ⟨vs,[],[]⟩ i b:=by rintro i b ⟨z,xs,g,cap,h1,_⟩;simp at h1
  have no:∀ b o,¬ Owned (top W) ⟨vs,[],[]⟩ b o:=by
    rintro b o (⟨i,lo,hi,h1,_⟩ | ⟨i,h1⟩)
    · exact nb _ _ _ _ h1
    · exact nr _ _ h1
  exact {
    nt:=hs,df:=rfl,t:=h
    m:=fun id cs hc=>by simp at hc
    r:=fun id z fz xs hc=>by simp at hc
    bN:=fun _ _=>rfl,gN:=fun _ _=>rfl
    sR:=fun b o _=>no b o
    sM:=fun i j b lo hi lo' hi' _ _ _ h1=>absurd h1 (nb _ _ _ _)
    sX:=fun i id b lo hi _ h1=>absurd h1 (nb _ _ _ _)
    sW:=fun i j b h1=>absurd h1 (nr _ _)
    fr:=.refl _ _
    ow:=fun b o h1=>absurd h1 (no _ _)
    pl:=fun _ _ x=>x,p0:=fun _ _ x=>x,l0:=fun _ _ x=>x,p1:=fun _ _ x=>.inl x,l1:=fun _ _ x=>.inl x
    rb:=fun _ _ x=>x
    lo:=fun b o h1=>absurd h1 (no _ _)
    lN:=Nat.le_refl _
    oN:=fun _ _ x=>x.elim
    c0:=fun b o hR=>⟨fun x=>x,hR⟩
    b0:=fun id x hx=>by cases hx
    g0:=fun id x hx=>by cases hx }
def oldJ (W w:World):Prop:=w.os=W.os∧w.tape=W.tape∧(∀ b,b<W.heap.size→w.heap[b]?=W.heap[b]?)∧W.heap.size≤w.heap.size
theorem ajm (P:Program) (W:World):Keep P ⟨W.heap.size,P⟩ (oldJ W):=
  ⟨rfl,fun w w' h h1 h2 h3 h4=>⟨h1.trans h.1,h2.trans h.2.1,fun b hb=>(h3 b hb).trans (h.2.2.1 b hb),Nat.le_trans h.2.2.2 h4⟩⟩
theorem ar7 (W:World):oldJ W W:=⟨rfl,rfl,fun _ _=>rfl,Nat.le_refl _⟩
section
variable {H:Type} {enc:TypeId × Value→H} {P:Program} {w:World} {base:Nat} {spare:Nat→Bool} {held:Bool}
theorem atx {f:Func} {s:ChangeSpec} {W W':World} {args:Array Value} {ds gs:List (DataW H)} {before:List MemPlace} {fresh handsOn again:Bool} {tb:TypeId}
    (hW:DataW.Whole enc P f.params.toList s.vars false W args.toList ds gs before) (hvars:s.vars=[]) (hout:s.fn H (ds++gs)={ results:=[.lit (.bool true)],args:=ds }) (hres:f.resultTypes=#[tb]) (hb:P.underlying tb=some .bool)
    (hl:laidOutB P=true) (hpar:∀ t,t ∈ f.params.toList→P.readableRec t=true∧t<P.types.size) (hF:Fr (fun _ _=>False) W W'):
    s.post enc P f false fresh handsOn again W args (.bool true) W':=by
  have hWl:=hW.lt
  have hW0:=hW
  obtain ⟨p,q,hA,hV,rfl,hfz,hnd⟩:=hW
  rw [hvars] at hV
  obtain ⟨rfl,rfl⟩:=trodVars_none hV
  have hsame:∀ b,b<W.heap.size→W'.heap[b]?=W.heap[b]?:=fun b hb=>(hF.obj b hb).none
  have stays:∀ {sp:Nat→Bool} {ts:List TypeId} {vs:List Value} {ds:List (DataW H)} {ps:List MemPlace},(∀ t,t ∈ ts→P.readableRec t=true∧t<P.types.size)→(∀ x ∈ ps,x.block<W.heap.size)→(∀ x ∈ ps,sp x.block=true) →
      DataW.TrodAll enc P W 0 (fun _=>true) true ts vs ds ps→DataW.TrodAll enc P W' 0 sp true ts vs ds ps:=by
    intro sp ts
    induction ts with
    | nil=>
      intro vs ds ps _ _ _ h
      cases vs <;> cases ds <;> first | exact h | exact h.elim
    | cons t ts ih=>
      intro vs ds ps ht hlt hsp h
      cases vs <;> cases ds <;> (try exact h.elim)
      obtain ⟨p,q,h1,h2,rfl⟩:=h
      refine ⟨p,q,?_,ih (fun t' ht'=>ht t' (List.mem_cons_of_mem _ ht')) (fun x hx=>hlt x (List.mem_append_right _ hx)) (fun x hx=>hsp x (List.mem_append_right _ hx)) h2,rfl⟩
      refine WideElems.Trod_stays hl (ht t (by simp)).1 (ht t (by simp)).2 h1 (fun x hx=>?_) fun x hx=>hsp x (List.mem_append_left _ hx)
      have:=hsame _ (hlt x (List.mem_append_left _ hx))
      cases x with
      | cell b off=>simp only [World.sameAt,World.cell?];rw [show W'.heap[b]?=W.heap[b]? from this]
      | map b=>exact this
  rw [List.append_nil] at hWl hW0 hfz
  have hold:∀ x ∈ p,(fun b=>decide (b<W.heap.size)) x.block=true:=fun x hx=>by simpa using hWl x hx
  have tres:∀ (b:Nat) (sp:Nat→Bool) (hd:Bool),DataW.TrodAll enc P W' b sp hd f.resultTypes.toList ((Value.bool true).resultList f.resultTypes.size) [.lit (.bool true)] []:=by
    intro b sp hd
    rw [hres]
    exact trodAll_cons_mk (shut_bool hb _) trodAll_mk0
  have targs:∀ sp:Nat→Bool,(∀ x ∈ p,sp x.block=true)→DataW.TrodAll enc P W' 0 sp true f.params.toList args.toList ds p:=fun sp hsp=>stays hpar hWl hsp hA
  refine ⟨ds,[],p,[],p,[],hW0,?_,?_,?_,⟨hF.os,hF.output,fun i hi=>?_⟩,fun _=>⟨?_,[.lit (.bool true)]++ds,[],[]++p,⟨[]++p,[],?_,?_,by simp,?_,by simp⟩,?_⟩⟩
  · rw [hout];exact tres _ _ _
  · rw [hout];exact targs _ hold
  · rw [hout,hvars];rfl
  · rw [hsame i hi]
    cases h:W.heap[i]? with
    | none=>rfl
    | some o=>cases o <;> simp
  · refine ok_one hres rfl ?_
    exact okWide_bool_mk hb true
  · rw [show ([.lit (.bool true)]:List (DataW H))++ds=[.lit (.bool true)]++ds from rfl]
    have:=trodAll_append (targs (fun _=>true) (fun _ _=>rfl)) (tres 0 (fun _=>true) true)
    exact this
  · rw [hvars];rfl
  · intro b off hp
    rw [List.nil_append] at hp
    have h1:=hfz b off hp
    have h2:=hsame b (hWl _ hp)
    unfold World.frozen? at h1 ⊢
    rw [show W'.heap[(⟨b,off,none⟩:Addr).block]?=W.heap[(⟨b,off,none⟩:Addr).block]? from h2]
    exact h1
  · intro x hx _
    simpa using hx
theorem aru {φ:Nat→FuncId} {tb:TI} {p:Prog} {k:Nat} {f:FuncId} (hk:φ k=f) (h5:k<5000) (T:TIok P tb) (hmix:P.follows .mixedOrders=true) {W:World} (M:Matched P φ tb ⟨W.heap.size,P⟩ (oldJ W) p) {us:List V} {args:Array Value} (hs:args.size=us.length)
    (hv:∀ j u,us[j]?=some u→VOk φ W (top W) u (args.getD j undef)) (hev:∃ n o,evF p n k ⟨us,[],[]⟩=some o∧o.1=.b true) (hcall:∀ args w,(callFunc f args).run P w=.ok (.enter f args) w):
    Calls P f args W fun e W'=>e=.returned (.bool true)∧Fr (fun _ _=>False) W W':=by
  subst hk
  obtain ⟨n,o,he,ho⟩:=hev
  have hs:=sound T (ajm P W) hmix M n k _ o he
  rw [if_neg (by omega)] at hs
  obtain ⟨_,_,_,hg⟩:=hs
  have hh:=hg (topCx W) ⟨args,[]⟩ W (top W) (ar7 W) (fun id x hx=>by cases hx) (av8 P φ W hs hv)
  rcases hh with ⟨_,h2⟩ | ⟨v,w',h1,_⟩ | ⟨row,as,h1,_⟩
  · refine h2.mono fun e W' ⟨y,e1,h',S'⟩=>?_
    have hy:=S'.t 0 _ rfl
    rw [ho] at hy
    have:=hy.b_inv
    simp at this
    subst this
    exact ⟨e1,S'.fr⟩
  · rw [hcall] at h1;cases h1
  · rw [hcall] at h1;cases h1
end
end Go.VS
end
section
namespace Go.VS
open Go Go.ChangeShapes Go.WideShapes Go.RowKit
inductive Sr where
  | bo
  | nu (k:IntKind)
  | st
  | sl (ag:Bool) (e:Sr)
  | un
  | pr (x y:Sr)
  | rc (k z:Nat)
  deriving Inhabited,DecidableEq
def Sr.z:Sr→Nat
  | .un=>0
  | .pr x y=>x.z+y.z
  | .rc _ z=>z
  | _=>1
def HasW (R:Nat→List V→Prop):Sr→List V→Prop
  | .bo,vs=>∃ x,vs=[.b x]
  | .nu k,vs=>∃ n,vs=[.i k n]∧k.min≤n∧n≤k.max
  | .st,vs=>∃ l,vs=[.s l]∧l.length≤maxLen
  | .sl ag e,vs=>vs=[.nil]∨∃ xs,vs=[.view true e.z xs]∧xs.length≤maxLen∧∀ x,x ∈ xs→∃ cs,HasW R e cs∧x=mkE ag cs
  | .un,vs=>vs=[]
  | .pr x y,vs=>∃ us ws,vs=us++ws∧HasW R x us∧HasW R y ws
  | .rc k z,vs=>vs.length=z∧R k vs
def HasN (E:Nat→Sr):Nat→Nat→List V→Prop
  | 0,_,_=>False
  | n+1,k,vs=>HasW (HasN E n) (E k) vs
theorem HasW.len {R:Nat→List V→Prop}:∀ {sh:Sr} {vs:List V},HasW R sh vs→vs.length=sh.z
  | .bo,vs,⟨x,e⟩=>by rw [e];rfl
  | .nu k,vs,⟨x,e,_⟩=>by rw [e];rfl
  | .st,vs,⟨x,e,_⟩=>by rw [e];rfl
  | .sl ag e,vs,h=>by rcases h with e | ⟨xs,e,_⟩ <;> rw [e] <;> rfl
  | .un,vs,e=>by rw [show vs=[] from e];rfl
  | .pr x y,vs,⟨us,ws,e,h1,h2⟩=>by rw [e,List.length_append,h1.len,h2.len,Sr.z]
  | .rc k z,vs,h=>h.1
theorem HasW.mono {R R':Nat→List V→Prop} (hR:∀ k vs,R k vs→R' k vs):∀ {sh:Sr} {vs:List V},HasW R sh vs→HasW R' sh vs
  | .bo,vs,h=>h
  | .nu k,vs,h=>h
  | .st,vs,h=>h
  | .sl ag e,vs,h=>by
    rcases h with e | ⟨xs,e,h1,h2⟩
    · exact .inl e
    · exact .inr ⟨xs,e,h1,fun x hx=>by
        obtain ⟨cs,h3,h4⟩:=h2 x hx
        exact ⟨cs,h3.mono hR,h4⟩⟩
  | .un,vs,h=>h
  | .pr x y,vs,⟨us,ws,e,h1,h2⟩=>⟨us,ws,e,h1.mono hR,h2.mono hR⟩
  | .rc k z,vs,h=>⟨h.1,hR _ _ h.2⟩
theorem HasN.succ {E:Nat→Sr}:∀ (n k:Nat) (vs:List V),HasN E n k vs→HasN E (n+1) k vs
  | 0,_,_,h=>h.elim
  | n+1,k,vs,h=>HasW.mono (fun k vs h=>HasN.succ n k vs h) h
def srFs (r:TypeId→Option Sr) (cells:TypeId→Nat):List Field→Nat→Option Sr
  | [],_=>some .un
  | f :: fs,off=>match r f.type with
    | some sh=>if f.offset=off∧cells f.type=sh.z then (srFs r cells fs (off+sh.z)).map (.pr sh) else none
    | none=>none
def srB (P:Program) (r:TypeId→Option Sr) (t:TypeId):Option Sr:=match P.underlying t with
  | some .bool=>some .bo
  | some (.int k)=>some (.nu k)
  | some .string=>some .st
  | some (.slice e)=>match r e,agT P e with
    | some sh,some ag=>if P.cellsOf e=sh.z∧0<sh.z∧(ag=true∨sh.z=1) then some (.sl ag sh) else none
    | _,_=>none
  | some (.struct fs)=>match srFs r P.cellsOf fs.toList 0 with
    | some sh=>if P.cellsOf t=sh.z then some sh else none
    | none=>none
  | _=>none
def srOf (P:Program) (T:TypeId→Option (Nat × Nat)):Nat→TypeId→Option Sr
  | 0,_=>none
  | f+1,t=>match T t with
    | some (k,z)=>some (.rc k z)
    | none=>srB P (srOf P T f) t
def NamesOk (P:Program) (T:TypeId→Option (Nat × Nat)) (E:Nat→Sr):Prop:=∀ t k z,T t=some (k,z)→∃ f,srB P (srOf P T f) t=some (E k)∧(E k).z=z
section
variable {H:Type} {enc:TypeId × Value→H} {P:Program} {w:World} {base:Nat} {spare:Nat→Bool} {held:Bool} {T:TypeId→Option (Nat × Nat)} {E:Nat→Sr}
theorem trodFsR {R:Nat→List V→Prop} {r:TypeId→Option Sr} {fuel:Nat} (ih:∀ t cs x sh,r t=some sh→DataW.trod enc P w base spare held fuel t cs=some x→∃ vs,HasW R sh vs∧CellsOk w vs cs):
    ∀ (fs:List Field) (off:Nat) (sh:Sr) (cs:List Value),srFs r P.cellsOf fs off=some sh→cs.length=off+sh.z →
      (∀ f,f ∈ fs→∃ x,DataW.trod enc P w base spare held fuel f.type ((cs.drop f.offset).take (P.cellsOf f.type))=some x)→∃ vs,HasW R sh vs∧CellsOk w vs (cs.drop off)
  | [],off,sh,cs,hs,hl,_=>by
    cases hs
    refine ⟨[],rfl,by rw [List.length_drop];simp [Sr.z] at hl;simp;omega,fun j v hj=>by simp at hj⟩
  | f :: fs,off,sh,cs,hs,hl,hx=>by
    simp only [srFs] at hs
    split at hs
    · rename_i sh1 e1
      split at hs
      · rename_i hc
        obtain ⟨c1,c2⟩:=hc
        obtain ⟨sh',hs',rfl⟩:=Option.map_eq_some_iff.1 hs
        obtain ⟨y,hy⟩:=hx f (by simp)
        obtain ⟨us,h1,h2⟩:=ih f.type _ y sh1 e1 hy
        rw [Sr.z] at hl
        obtain ⟨ws,h3,h4⟩:=trodFsR ih fs (off+sh1.z) sh' cs hs' (by omega) fun g hg=>hx g (by simp [hg])
        refine ⟨us++ws,⟨us,ws,rfl,h1,h3⟩,?_⟩
        rw [c1,c2] at h2
        have:=h2.append h4
        rw [← List.drop_drop,List.take_append_drop] at this
        exact this
      · cases hs
    · cases hs
theorem trodB {R:Nat→List V→Prop} {r:TypeId→Option Sr} {m:Nat} (ih:∀ t cs x sh,r t=some sh→DataW.trod enc P w base spare held m t cs=some x→∃ vs,HasW R sh vs∧CellsOk w vs cs)
    (t:TypeId) (cs:List Value) (x:DataW H × List MemPlace) (sh:Sr) (hs:srB P r t=some sh) (hx:DataW.trod enc P w base spare held (m+1) t cs=some x):∃ vs,HasW R sh vs∧CellsOk w vs cs:=by
  unfold srB at hs
  split at hs
  · rename_i hu
    cases hs
    obtain ⟨y,rfl,_⟩:=DataW.trod_bool hu hx
    exact ⟨[.b y],⟨_,rfl⟩,.one (.b _)⟩
  · rename_i k hu
    cases hs
    obtain ⟨y,rfl,_,hw⟩:=DataW.trod_int hu hx
    refine ⟨[.i k y],⟨y,rfl,?_⟩,.one (.i _ _)⟩
    simpa [Lit.wf] using hw
  · rename_i hu
    cases hs
    obtain ⟨y,rfl,_,hw⟩:=DataW.trod_string hu hx
    exact ⟨[.s y.data.toList],⟨_,rfl,by simpa using hw⟩,.one (.s _)⟩
  · rename_i e hu
    split at hs
    · rename_i she ag e1 e2
      split at hs
      · rename_i hc
        cases hs
        obtain ⟨c1,c2,c3⟩:=hc
        rcases DataW.trod_slice hu hx with ⟨rfl,_⟩ | ⟨a,len,cap,elems,rest,fuel',hf',rfl,_,hb,hlc,hcm,hel,hall,_,_⟩
        · exact ⟨[.nil],.inl rfl,.one .nil⟩
        · obtain rfl:fuel'=m:=by omega
          have hi:∀ i,i<len→∃ us cs',HasW R she us∧CellsOk w us cs'∧cs'.length=she.z∧∀ j,j<she.z→w.cell? ((a.add (i*she.z)).add j)=some (cs'.getD j undef):=by
            intro i hi
            have h1:=hall i hi
            rw [List.getElem?_eq_getElem (by omega)] at h1
            obtain ⟨cs',h2,h3⟩:=Option.bind_eq_some_iff.1 h1
            obtain ⟨us,h4,h5⟩:=ih e cs' _ she e1 h3
            rw [c1] at h2
            obtain ⟨h6,h7⟩:=cells?_some h2
            exact ⟨us,cs',h4,h5,h6,h7⟩
          let g:Nat→List V:=fun i=>if h:i<len then (hi i h).choose else []
          have hg:∀ i,i<len→∃ cs',HasW R she (g i)∧CellsOk w (g i) cs'∧cs'.length=she.z∧∀ j,j<she.z→w.cell? ((a.add (i*she.z)).add j)=some (cs'.getD j undef):=by
            intro i h
            have:=(hi i h).choose_spec
            simp only [g,h,dif_pos]
            exact this
          have hxs:∀ x,x ∈ (List.range len).map (fun i=>mkE ag (g i))→∃ cs,HasW R she cs∧x=mkE ag cs:=by
            intro x hx
            obtain ⟨i,h1,rfl⟩:=List.mem_map.1 hx
            obtain ⟨cs',h2,_⟩:=hg i (List.mem_range.1 h1)
            exact ⟨_,h2,rfl⟩
          have hcell:∀ i,i<len→(mkE ag (g i)).cells=g i:=by
            intro i h
            obtain ⟨cs',h2,h3,h4,_⟩:=hg i h
            refine ar0 ?_ fun v hv=>h3.leaf hv
            rcases c3 with c3 | c3
            · exact .inl c3
            · right;rw [h2.len,c3]
          have hz:∀ x,x ∈ (List.range len).map (fun i=>mkE ag (g i))→x.cells.length=she.z:=by
            intro x hx
            obtain ⟨i,h1,rfl⟩:=List.mem_map.1 hx
            rw [hcell i (List.mem_range.1 h1)]
            obtain ⟨cs',h2,_⟩:=hg i (List.mem_range.1 h1)
            exact h2.len
          have hfl:∀ j v,(flat ((List.range len).map (fun i=>mkE ag (g i))))[j]?=some v→∃ b o,a=⟨b,o,none⟩∧b<w.heap.size∧∃ c,w.cell? ⟨b,o+j,none⟩=some c∧POk w (allOld w) v c∧c.oneCell'=true:=by
            intro j v hj
            obtain ⟨hz0,hd,el,he,hv⟩:=afr hz hj
            rw [List.length_map,List.length_range] at hd
            rw [List.getElem?_map,List.getElem?_range hd] at he
            cases he
            rw [hcell _ hd] at hv
            obtain ⟨cs',k1,k2,k3,k4⟩:=hg _ hd
            have hm:=Nat.mod_lt j hz0
            have h5:=k4 (j % she.z) hm
            obtain ⟨b,o,spt⟩:=a
            have hsp:spt=none:=by
              obtain ⟨cs0,q1,q2,q3,q4⟩:=hg 0 (Nat.lt_of_le_of_lt (Nat.zero_le _) hd)
              have:=q4 0 hz0
              rw [Nat.zero_mul] at this
              simp only [Addr.add,if_pos] at this
              cases spt with
              | none=>rfl
              | some _=>simp [World.cell?] at this;split at this <;> cases this
            subst hsp
            rw [aa4,aa4,Nat.add_assoc,Nat.mul_comm,Nat.div_add_mod] at h5
            refine ⟨b,o,rfl,World.block_lt_of_cell? w _ h5,_,h5,?_⟩
            exact k2.2 _ v hv
          refine ⟨[.view true she.z ((List.range len).map fun i=>mkE ag (g i))],.inr ⟨_,rfl,by simp;omega,hxs⟩,.one ?_⟩
          have:=POk.view (w:=w) (R:=allOld w) she.z ((List.range len).map fun i=>mkE ag (g i)) (some a) cap (fun j=>(w.cell? (a.add j)).getD undef) (by simpa using hlc) hz (fun h0=>?_) (fun j v hj=>?_)
          · rw [List.length_map,List.length_range] at this
            exact this
          · obtain ⟨b,o,rfl,hlt,_⟩:=hfl 0 _ (List.getElem?_eq_getElem h0)
            refine ⟨b,o,rfl,fun j hj=>⟨hlt,?_⟩⟩
            obtain ⟨b',o',e',_,c,h1,h2,h3⟩:=hfl j _ (List.getElem?_eq_getElem hj)
            cases e'
            simp only [aa4,h1]
            exact ⟨rfl,h3⟩
          · obtain ⟨b,o,rfl,hlt,c,h1,h2,h3⟩:=hfl j v hj
            simp only [aa4,h1]
            exact h2
      · cases hs
    · cases hs
  · rename_i fs hu
    split at hs
    · rename_i sh' e1
      split at hs
      · rename_i hc
        cases hs
        obtain ⟨xs,n',hn',_,hl,hxl,hall⟩:=DataW.trod_struct hu hx
        obtain rfl:n'=m:=by omega
        have:=trodFsR ih fs.toList 0 sh cs e1 (by omega) fun f hf=>by
          obtain ⟨i,hi⟩:=List.mem_iff_getElem?.1 hf
          have hi':fs[i]?=some f:=by simpa using hi
          have h1:=hall i f hi'
          have hlt:=(Array.getElem?_eq_some_iff.1 hi').1
          rw [List.getElem?_eq_getElem (by omega)] at h1
          exact ⟨_,h1⟩
        simpa using this
      · cases hs
    · cases hs
  · cases hs
theorem trodR (hE:NamesOk P T E):∀ (fuel f:Nat) (t:TypeId) (cs:List Value) (x:DataW H × List MemPlace) (sh:Sr),srOf P T f t=some sh→DataW.trod enc P w base spare held fuel t cs=some x →
    ∃ vs,HasW (HasN E fuel) sh vs∧CellsOk w vs cs
  | 0,f,t,cs,x,sh,hs,hx=>by simp [DataW.trod] at hx
  | m+1,0,t,cs,x,sh,hs,hx=>by simp [srOf] at hs
  | m+1,f+1,t,cs,x,sh,hs,hx=>by
    rw [srOf] at hs
    split at hs
    · rename_i k z ht
      cases hs
      obtain ⟨f',h1,h2⟩:=hE t k z ht
      obtain ⟨vs,h3,h4⟩:=trodB (R:=HasN E m) (fun t cs x sh h5 h6=>trodR hE m f' t cs x sh h5 h6) t cs x (E k) h1 hx
      exact ⟨vs,⟨h3.len.trans h2,h3⟩,h4⟩
    · obtain ⟨vs,h3,h4⟩:=trodB (R:=HasN E m) (fun t cs x sh h5 h6=>trodR hE m f t cs x sh h5 h6) t cs x sh hs hx
      exact ⟨vs,h3.mono (HasN.succ m),h4⟩
def HasAR (E:Nat→Sr):List (Bool × Sr)→List V→Prop
  | [],vs=>vs=[]
  | (ag,sh) :: r,vs=>∃ n cs ws,HasW (HasN E n) sh cs∧HasAR E r ws∧vs=mkE ag cs :: ws
theorem val_ok {r:TypeId→Option Sr} {t:TypeId} {sh:Sr} {ag:Bool} {v:Value} (hs:srB P r t=some sh) (ha:agT P t=some ag) (hv:Value.okWide P w .any base t v):
    (ag=false∧v.cells=#[v])∨(ag=true∧∃ x,v=.agg x):=by
  unfold agT at ha
  unfold srB at hs
  split at hs
  · rename_i hu
    rw [hu] at ha;cases ha
    obtain ⟨x,rfl⟩:=okWide_bool hu hv
    exact .inl ⟨rfl,rfl⟩
  · rename_i hu
    rw [hu] at ha;cases ha
    obtain ⟨x,rfl⟩:=okWide_int hu hv
    exact .inl ⟨rfl,rfl⟩
  · rename_i hu
    rw [hu] at ha;cases ha
    obtain ⟨x,rfl⟩:=okWide_string hu hv
    exact .inl ⟨rfl,rfl⟩
  · rename_i hu
    rw [hu] at ha;cases ha
    obtain ⟨x,y,z,rfl⟩:=okWide_slice hu hv
    exact .inl ⟨rfl,rfl⟩
  · rename_i hu
    rw [hu] at ha;cases ha
    obtain ⟨x,rfl,_⟩:=okWide_struct hu hv
    exact .inr ⟨rfl,x,rfl⟩
  · cases hs
theorem srOf_B (hE:NamesOk P T E) {f:Nat} {t:TypeId} {sh:Sr} (hs:srOf P T f t=some sh):∃ r sh',srB P r t=some sh':=by
  cases f with
  | zero=>simp [srOf] at hs
  | succ f=>
    rw [srOf] at hs
    split at hs
    · rename_i k z ht
      obtain ⟨f',h1,_⟩:=hE t k z ht
      exact ⟨_,_,h1⟩
    · exact ⟨_,_,hs⟩
theorem aur (hE:NamesOk P T E) {φ:Nat→FuncId} {f:Nat} {t:TypeId} {sh:Sr} {ag:Bool} {v:Value} {d:DataW H} {ps:List MemPlace} (hs:srOf P T f t=some sh) (ha:agT P t=some ag) (hv:Value.okWide P w .any base t v) (hd:DataW.Trod enc P w 0 spare held t v d ps):
    ∃ n cs,HasW (HasN E n) sh cs∧VOk φ w (top w) (mkE ag cs) v:=by
  obtain ⟨fuel,hx⟩:=hd
  obtain ⟨cs,h1,h2⟩:=trodR hE fuel f t _ _ sh hs hx
  refine ⟨fuel,cs,h1,?_⟩
  obtain ⟨r,sh',hB⟩:=srOf_B hE hs
  rcases val_ok hB ha hv with ⟨rfl,h3⟩ | ⟨rfl,x,rfl⟩
  · rw [h3] at h2
    obtain ⟨u,rfl⟩:=List.length_eq_one_iff.1 (show cs.length=1 from h2.1.symm)
    simp only [mkE,Bool.false_eq_true,if_false,List.headD_cons]
    exact .mkp (h2.2 0 u rfl).1
  · exact .agg cs x h2.1 fun j u hj=>by
      have:=h2.2 j u hj
      rw [List.getD_eq_getElem?_getD] at this
      refine ⟨.l (.pl ?_),?_⟩
      · have h3:=this.1
        simp only [Value.cells,list_getElem?_arr] at h3
        rw [aaa];exact h3
      · have h3:=this.2
        simp only [Value.cells,list_getElem?_arr] at h3
        rw [aaa];exact h3
def srAs (P:Program) (T:TypeId→Option (Nat × Nat)) (f:Nat):List TypeId→Option (List (Bool × Sr))
  | []=>some []
  | t :: ts=>match srOf P T f t,agT P t,srAs P T f ts with
    | some sh,some ag,some r=>some ((ag,sh) :: r)
    | _,_,_=>none
theorem ao3 (hE:NamesOk P T E) {φ:Nat→FuncId} {n:Nat}:∀ {ts:List TypeId} {r:List (Bool × Sr)} {vs:List Value} {ds:List (DataW H)} {ps:List MemPlace},srAs P T n ts=some r→(∀ (j:Nat) t v,ts[j]?=some t→vs[j]?=some v→Value.okWide P w .any base t v)→DataW.TrodAll enc P w 0 spare held ts vs ds ps →
    ∃ us,HasAR E r us∧us.length=vs.length∧∀ j u,us[j]?=some u→VOk φ w (top w) u (vs.getD j undef)
  | [],r,[],[],ps,hs,_,_=>by cases hs;exact ⟨[],rfl,rfl,fun j u hj=>by simp at hj⟩
  | t :: ts,r,v :: vs,d :: ds,ps,hs,hv,⟨p,q,h1,h2,_⟩=>by
    simp only [srAs] at hs
    split at hs
    · rename_i sh ag r' e1 e2 e3
      cases hs
      obtain ⟨m,cs,k1,k2⟩:=aur hE (φ:=φ) e1 e2 (hv 0 t v rfl rfl) h1
      obtain ⟨us,k3,k4,k5⟩:=ao3 hE (φ:=φ) e3 (fun j t' v' h3 h4=>hv (j+1) t' v' (by simpa using h3) (by simpa using h4)) h2
      refine ⟨mkE ag cs :: us,⟨m,cs,us,k1,k3,rfl⟩,by simp [k4],fun j u hj=>?_⟩
      cases j with
      | zero=>cases hj;exact k2
      | succ j=>exact k5 j u (by simpa using hj)
    · cases hs
end
end Go.VS
end
