/-
  What the evaluator computes the machine computes: the relation between the two, and the instructions (first part).
-/
import Derived.Test.YtmmbgajolgbhnaaGreatDoorVsB
import Derived.Laws.AppendOwn
import Derived.Orders
import Derived.LoopN
import Derived.Laws.IdiomCopy
import Derived.Laws.Rows
import Derived.Laws.StructEq
import Derived.Laws.Cover3
import Derived.Laws.Tables
import Derived.Laws.MakeOwn
import Derived.Laws.IdiomStrings
import Derived.Laws.Append
set_option linter.all false
section
namespace Go.VS
open Go
structure RG where
  z:Nat
  len:Nat
  loc:Option (Nat × Nat)
  mp:Bool
structure Env where
  n:Nat
  P:Program
instance:Coe Env Nat:=⟨Env.n⟩
def isU8:TypeDesc→Bool
  | .int .u8=>true
  | _=>false
def isBld:TypeDesc→Bool
  | .named n _=>n == "strings.Builder"
  | _=>false
def U8 (P:Program) (T:TypeId):Prop:=∃ i,P.types[T]?=some i∧isU8 i.desc=true
def Ub (P:Program) (T:TypeId):Prop:=∃ i,P.types[T]?=some i∧isBld i.desc=true
structure Gh where
  Rp:Nat→Nat→Prop
  Rl:Nat→Nat→Prop
  B:Nat→Option (Nat × Nat × Nat)
  G:Nat→Option RG
abbrev World.at (w:World) (b o:Nat):Option Value:=w.cell? ⟨b,o,none⟩
def CellsAt (w:World) (R:Nat→Nat→Prop) (A:Option Addr) (n:Nat) (f:Nat→Value):Prop:=
  0<n→∃ b o,A=some ⟨b,o,none⟩∧∀ j,j<n→R b (o+j)∧w.cell? ⟨b,o+j,none⟩=some (f j)∧(f j).oneCell'=true
inductive POk (w:World) (R:Nat→Nat→Prop):V→Value→Prop
  | b (x:Bool):POk w R (.b x) (.bool x)
  | i (k:IntKind) (n:Int):POk w R (.i k n) (.int k n)
  | s (a:ByteArray):POk w R (.s a.data.toList) (.string a)
  | nil:POk w R .nil (.slice none 0 0)
  | np:POk w R .np (.pointer none)
  | npf:POk w R .nf .nilFunc
  | bz:POk w R .bz (.pointer none)
  | bt (n:Int):POk w R (.bt n) (.int .u8 n)
  | view (z:Nat) (xs:List V) (A:Option Addr) (c:Nat) (f:Nat→Value) (hc:xs.length≤c) (hz:∀ x,x ∈ xs→x.cells.length=z)
      (ha:CellsAt w R A (flat xs).length f) (hv:∀ j v,(flat xs)[j]?=some v→POk w R v (f j)):POk w R (.view true z xs) (.slice A xs.length c)
inductive LOk (φ:Nat→FuncId) (w:World) (Rp Rl:Nat→Nat→Prop):V→Value→Prop
  | pl {v:V} {c:Value} (h:POk w Rp v c):LOk φ w Rp Rl v c
  | no (c:Value):LOk φ w Rp Rl .no c
  | view (z:Nat) (xs:List V) (A:Option Addr) (c:Nat) (f:Nat→Value) (hc:xs.length≤c) (hz:∀ x,x ∈ xs→x.cells.length=z)
      (ha:CellsAt w Rl A (flat xs).length f) (hv:∀ j v,(flat xs)[j]?=some v→POk w Rp v (f j)):LOk φ w Rp Rl (.view false z xs) (.slice A xs.length c)
  | vp (cs:List V) (b o:Nat) (f:Nat→Value) (ha:∀ j,j<cs.length→Rl b (o+j)∧w.cell? ⟨b,o+j,none⟩=some (f j)∧(f j).oneCell'=true)
      (hv:∀ j v,cs[j]?=some v→LOk φ w Rp Rl v (f j)):LOk φ w Rp Rl (.vp cs) (.pointer (some ⟨b,o,none⟩))
  | fn (f:Nat) (caps:List V) (cc:Array Value) (hs:cc.size=caps.length) (hv:∀ j v,caps[j]?=some v→LOk φ w Rp Rl v (cc.getD j undef)):
      LOk φ w Rp Rl (.fn f caps) (.func (.func (φ f)) #[] cc)
inductive KOk (φ:Nat→FuncId) (w:World) (h:Gh):V→Value→Prop
  | l {v:V} {c:Value} (hl:LOk φ w h.Rp h.Rl v c):KOk φ w h v c
  | sl (id lo n:Nat) (tg:Bool) (A:Option Addr) (c:Nat) (g:RG) (hg:h.G id=some g) (hn:lo+n≤g.len) (hc:n≤c) (ht:tg=true→c=n)
      (hl:match g.loc with | none=>c=0 | some (b,cap)=>lo+c≤cap∧(0<c→A=some ⟨b,lo*g.z,none⟩))
      (ha:match g.loc with | none=>A=none | some (b,_)=>∃ off,A=some ⟨b,off,none⟩) (hp:g.mp=false):KOk φ w h (.sl id lo n tg) (.slice A n c)
  | ptr (id off b base k:Nat) (hb:h.B id=some (b,base,k)):KOk φ w h (.ptr id off) (.pointer (some ⟨b,base+off,none⟩))
  | ep (id idx off b cap:Nat) (g:RG) (hg:h.G id=some g) (hi:idx<g.len) (hl:g.loc=some (b,cap)) (hp:g.mp=false):KOk φ w h (.ep id idx off) (.pointer (some ⟨b,idx*g.z+off,none⟩))
  | mr (id b cap:Nat) (g:RG) (hg:h.G id=some g) (hl:g.loc=some (b,cap)) (hp:g.mp=true):KOk φ w h (.mr id) (.map (some b))
  | fn (f:Nat) (caps:List V) (cc:Array Value) (hs:cc.size=caps.length) (hv:∀ j v,caps[j]?=some v→KOk φ w h v (cc.getD j undef)):
      KOk φ w h (.fn f caps) (.func (.func (φ f)) #[] cc)
def COk (φ:Nat→FuncId) (w:World) (h:Gh) (v:V) (c:Value):Prop:=KOk φ w h v c∧c.oneCell'=true
inductive VOk (φ:Nat→FuncId) (w:World) (h:Gh):V→Value→Prop
  | k {v:V} {c:Value} (hk:KOk φ w h v c):VOk φ w h v c
  | agg (cs:List V) (cc:Array Value) (hs:cc.size=cs.length) (hv:∀ j v,cs[j]?=some v→COk φ w h v (cc.getD j undef)):VOk φ w h (.agg cs) (.agg cc)
  | tup (vs:List V) (cc:Array Value) (hs:cc.size=vs.length) (hv:∀ j v,vs[j]?=some v→VOk φ w h v (cc.getD j undef)):VOk φ w h (.tup vs) (.tuple cc)
def KeptR (R:Nat→Nat→Prop) (w w':World):Prop:=∀ b o,R b o→w'.cell? ⟨b,o,none⟩=w.cell? ⟨b,o,none⟩
theorem CellsAt.mono {w w':World} {R R':Nat→Nat→Prop} {A:Option Addr} {n:Nat} {f:Nat→Value} (hk:KeptR R w w') (hR:∀ b o,R b o→R' b o) (h:CellsAt w R A n f):CellsAt w' R' A n f:=by
  intro hn
  obtain ⟨b,o,ha,hj⟩:=h hn
  refine ⟨b,o,ha,fun j hlt=>?_⟩
  obtain ⟨h1,h2,h3⟩:=hj j hlt
  exact ⟨hR _ _ h1,by rw [hk _ _ h1];exact h2,h3⟩
theorem POk.mono {w w':World} {R R':Nat→Nat→Prop} (hk:KeptR R w w') (hR:∀ b o,R b o→R' b o) {v:V} {c:Value} (h:POk w R v c):POk w' R' v c:=by
  induction h with
  | b x=>exact .b x
  | i k n=>exact .i k n
  | s a=>exact .s a
  | nil=>exact .nil
  | np=>exact .np
  | npf=>exact .npf
  | bz=>exact .bz
  | bt n=>exact .bt n
  | view z xs A c f hc hz ha _ ih=>exact .view z xs A c f hc hz (ha.mono hk hR) ih
theorem LOk.mono {φ:Nat→FuncId} {w w':World} {Rp Rp' Rl Rl':Nat→Nat→Prop} (hp:KeptR Rp w w') (hl:KeptR Rl w w') (hP:∀ b o,Rp b o→Rp' b o) (hL:∀ b o,Rl b o→Rl' b o)
    {v:V} {c:Value} (h:LOk φ w Rp Rl v c):LOk φ w' Rp' Rl' v c:=by
  induction h with
  | pl h=>exact .pl (h.mono hp hP)
  | no c=>exact .no c
  | view z xs A c f hc hz ha hv=>exact .view z xs A c f hc hz (ha.mono hl hL) fun j v hj=>(hv j v hj).mono hp hP
  | vp cs b o f ha _ ih=>
    refine .vp cs b o f (fun j hj=>?_) ih
    obtain ⟨h1,h2,h3⟩:=ha j hj
    exact ⟨hL _ _ h1,by rw [hl _ _ h1];exact h2,h3⟩
  | fn f caps cc hs _ ih=>exact .fn f caps cc hs ih
structure Gh.Le (h h':Gh) (w w':World):Prop where
  p:∀ b o,h.Rp b o→h'.Rp b o
  l:∀ b o,h.Rl b o→h'.Rl b o
  kp:KeptR h.Rp w w'
  kl:KeptR h.Rl w w'
  B:∀ id x,h.B id=some x→h'.B id=some x
  G:∀ id x,h.G id=some x→h'.G id=some x
theorem KOk.mono {φ:Nat→FuncId} {w w':World} {h h':Gh} (hh:h.Le h' w w') {v:V} {c:Value} (hk:KOk φ w h v c):KOk φ w' h' v c:=by
  induction hk with
  | l hl=>exact .l (hl.mono hh.kp hh.kl hh.p hh.l)
  | sl id lo n tg A c g hg hn hc ht hl ha hp=>exact .sl id lo n tg A c g (hh.G _ _ hg) hn hc ht hl ha hp
  | ptr id off b base k hb=>exact .ptr id off b base k (hh.B _ _ hb)
  | ep id idx off b cap g hg hi hl hp=>exact .ep id idx off b cap g (hh.G _ _ hg) hi hl hp
  | mr id b cap g hg hl hp=>exact .mr id b cap g (hh.G _ _ hg) hl hp
  | fn f caps cc hs _ ih=>exact .fn f caps cc hs ih
theorem COk.mono {φ:Nat→FuncId} {w w':World} {h h':Gh} (hh:h.Le h' w w') {v:V} {c:Value} (hk:COk φ w h v c):COk φ w' h' v c:=⟨hk.1.mono hh,hk.2⟩
theorem VOk.mono {φ:Nat→FuncId} {w w':World} {h h':Gh} (hh:h.Le h' w w') {v:V} {c:Value} (hk:VOk φ w h v c):VOk φ w' h' v c:=by
  induction hk with
  | k hk=>exact .k (hk.mono hh)
  | agg cs cc hs hv=>exact .agg cs cc hs fun j v hj=>(hv j v hj).mono hh
  | tup vs cc hs _ ih=>exact .tup vs cc hs ih
def CellRow (N:Env) (w:World) (h:Gh) (z:Nat) (fz:Bool) (xs:List V) (g:RG):Prop:=
  g.z=z∧g.len=xs.length∧(∀ x,x ∈ xs→x.cells.length=z) ∧
  match g.loc with
  | none=>xs=[]
  | some (b,cap)=>∃ cc T fr,w.heap[b]?=some (.cells cc T fr)∧cc.size=cap*z∧xs.length≤cap∧(cap≤maxLen∧(∀ n,V.bt n ∈ xs→U8 N.P T)∧(z≠1→fz=false→fr=(0,0))) ∧
      (fz=false→∀ o,o<cc.size→¬ (fr.1≤o∧o<fr.2))∧(fz=true→∀ o,h.Rp b o) ∧
      ∀ j v,(flat xs)[j]?=some v→POk w h.Rp v (cc.getD j undef)∧(cc.getD j undef).oneCell'=true
def MapRow (w:World) (h:Gh) (xs:List V) (g:RG):Prop:=
  ∃ b cap es clock,g.loc=some (b,cap)∧w.heap[b]?=some (.map es clock)∧es.size=xs.length ∧
    ∀ (j:Nat) (x:V),xs[j]?=some x→∃ (e:MapEntry) (kv vv:V),es[j]?=some e∧x=.agg [kv,vv]∧POk w h.Rp kv e.key∧POk w h.Rp vv e.val∧e.val.oneCell'=true
def RowOk (N:Env) (w:World) (h:Gh) (z:Nat) (fz:Bool) (xs:List V) (g:RG):Prop:=
  (g.mp=false∧CellRow N w h z fz xs g)∨(g.mp=true∧fz=false∧MapRow w h xs g)
theorem RowOk.cells {N:Env} {w:World} {h:Gh} {z:Nat} {fz:Bool} {xs:List V} {g:RG} (hr:RowOk N w h z fz xs g) (hp:g.mp=false):CellRow N w h z fz xs g:=by
  rcases hr with ⟨_,h1⟩ | ⟨h1,_⟩
  · exact h1
  · rw [hp] at h1;cases h1
theorem RowOk.maps {N:Env} {w:World} {h:Gh} {z:Nat} {fz:Bool} {xs:List V} {g:RG} (hr:RowOk N w h z fz xs g) (hp:g.mp=true):MapRow w h xs g:=by
  rcases hr with ⟨h1,_⟩ | ⟨_,_,h1⟩
  · rw [hp] at h1;cases h1
  · exact h1
theorem RowOk.rp {N:Env} {w:World} {h:Gh} {z:Nat} {xs:List V} {g:RG} {b cap:Nat} (hr:RowOk N w h z true xs g) (hl:g.loc=some (b,cap)) (o:Nat):h.Rp b o:=by
  rcases hr with ⟨_,_,_,_,h4⟩ | ⟨_,h1,_⟩
  · rw [hl] at h4
    obtain ⟨cc,T,fr,e1,e2,e3,e4,e5,e6,e7⟩:=h4
    exact e6 rfl o
  · cases h1
theorem RowOk.lt {N:Env} {w:World} {h:Gh} {z:Nat} {fz:Bool} {xs:List V} {g:RG} {b cap:Nat} (hr:RowOk N w h z fz xs g) (hl:g.loc=some (b,cap)):b<w.heap.size:=by
  have key:∃ o,w.heap[b]?=some o:=by
    rcases hr with ⟨_,_,_,_,h4⟩ | ⟨_,_,b',cap',es,clock,h1,h2,_⟩
    · rw [hl] at h4
      obtain ⟨cc,T,fr,e1,_⟩:=h4
      exact ⟨_,e1⟩
    · rw [hl] at h1;cases h1;exact ⟨_,h2⟩
  obtain ⟨o,ho⟩:=key
  exact (Array.getElem?_eq_some_iff.1 ho).1
def BlkOk (N:Env) (φ:Nat→FuncId) (w:World) (h:Gh) (cs:List V) (b base:Nat):Prop:=
  ∃ cc T fr,w.heap[b]?=some (.cells cc T fr)∧base+cs.length≤cc.size∧(∀ j v,cs[j]?=some v→COk φ w h v (cc.getD (base+j) undef))∧(0<cs.length→fr=(0,0))∧∀ j,cs[j]?=some .bz→Ub N.P T∧cc.size=2∧base+j=0
def BlkAt (h:Gh) (s:St) (id b lo hi:Nat):Prop:=∃ cs,s.m[id]?=some cs∧h.B id=some (b,lo,cs.length)∧hi=lo+cs.length
def RowAt (h:Gh) (s:St) (id b:Nat):Prop:=∃ z xs g cap,s.r[id]?=some (.row z false xs)∧h.G id=some g∧g.loc=some (b,cap)
def Owned (h:Gh) (s:St) (b o:Nat):Prop:=(∃ id lo hi,BlkAt h s id b lo hi∧lo≤o∧o<hi)∨∃ id,RowAt h s id b
def ObjSame (S:Nat→Prop) (o o':Option Obj):Prop:=
  o'=o∨(∃ c T f c' f',o=some (.cells c T f)∧o'=some (.cells c' T f')∧c'.size=c.size∧(∀ j,¬ S j→c'[j]?=c[j]?)∧(f'=f∨∀ j,S j)) ∨
    ∃ e k e' k',o=some (.map e k)∧o'=some (.map e' k')∧∀ j,S j
structure Fr (O:Nat→Nat→Prop) (w w':World):Prop where
  os:w'.os=w.os
  tape:w'.tape=w.tape
  output:w'.output=w.output
  size:w.heap.size≤w'.heap.size
  obj:∀ b,b<w.heap.size→ObjSame (O b) (w.heap[b]?) (w'.heap[b]?)
theorem ObjSame.refl (S:Nat→Prop) (o:Option Obj):ObjSame S o o:=.inl rfl
theorem ObjSame.trans {S:Nat→Prop} {a b c:Option Obj} (h:ObjSame S a b) (k:ObjSame S b c):ObjSame S a c:=by
  rcases h with rfl | ⟨x,T,f,x',f',rfl,rfl,hs,hj,hf⟩ | ⟨e,q,e',q',rfl,rfl,hS⟩
  · exact k
  · rcases k with rfl | ⟨y,T',g,y',g',hy,rfl,hs',hj',hg⟩ | ⟨e,q,e',q',hy,rfl,hS⟩
    · exact .inr (.inl ⟨x,T,f,x',f',rfl,rfl,hs,hj,hf⟩)
    · cases hy
      exact .inr (.inl ⟨x,T,f,y',g',rfl,rfl,hs'.trans hs,fun j hn=>(hj' j hn).trans (hj j hn),hf.elim (fun e=>hg.elim (fun e'=>.inl (e'.trans e)) .inr) .inr⟩)
    · cases hy
  · rcases k with rfl | ⟨y,T',g,y',g',hy,rfl,hs',hj',hg⟩ | ⟨e2,q2,e3,q3,hy,rfl,hS2⟩
    · exact .inr (.inr ⟨e,q,e',q',rfl,rfl,hS⟩)
    · cases hy
    · cases hy
      exact .inr (.inr ⟨e,q,e3,q3,rfl,rfl,hS⟩)
theorem ObjSame.mono {S S':Nat→Prop} (hS:∀ j,S j→S' j) {a b:Option Obj} (h:ObjSame S a b):ObjSame S' a b:=by
  rcases h with rfl | ⟨x,T,f,x',f',rfl,rfl,hs,hj,hf⟩ | ⟨e,q,e',q',rfl,rfl,h2⟩
  · exact .inl rfl
  · exact .inr (.inl ⟨x,T,f,x',f',rfl,rfl,hs,fun j hn=>hj j fun h=>hn (hS j h),hf.imp id fun hh j=>hS j (hh j)⟩)
  · exact .inr (.inr ⟨e,q,e',q',rfl,rfl,fun j=>hS j (h2 j)⟩)
theorem ObjSame.none {a b:Option Obj} (h:ObjSame (fun _=>False) a b):b=a:=by
  rcases h with rfl | ⟨x,T,f,x',f',rfl,rfl,hs,hj,hf⟩ | ⟨e,q,e',q',rfl,rfl,h2⟩
  · rfl
  · have:x'=x:=by
      apply Array.ext hs
      intro j h1 h2
      have:=hj j (fun h=>h)
      rw [Array.getElem?_eq_getElem h1,Array.getElem?_eq_getElem h2] at this
      injection this
    rw [this,hf.resolve_right fun h=>h 0]
  · exact (h2 0).elim
theorem Fr.refl (O:Nat→Nat→Prop) (w:World):Fr O w w:=⟨rfl,rfl,rfl,Nat.le_refl _,fun _ _=>.refl _ _⟩
theorem Fr.trans {O O':Nat→Nat→Prop} {a b c:World} (h:Fr O a b) (k:Fr O' b c) (hO:∀ x o,x<a.heap.size→O' x o→O x o):Fr O a c:=
  ⟨k.os.trans h.os,k.tape.trans h.tape,k.output.trans h.output,Nat.le_trans h.size k.size,fun x hx=>
    (h.obj x hx).trans ((k.obj x (Nat.lt_of_lt_of_le hx h.size)).mono fun o=>hO x o hx)⟩
theorem Fr.mono {O O':Nat→Nat→Prop} {a b:World} (h:Fr O a b) (hO:∀ x o,x<a.heap.size→O x o→O' x o):Fr O' a b:=
  ⟨h.os,h.tape,h.output,h.size,fun x hx=>(h.obj x hx).mono fun o=>hO x o hx⟩
theorem Fr.cell {O:Nat→Nat→Prop} {w w':World} (h:Fr O w w') {b o:Nat} (hb:b<w.heap.size) (hO:¬ O b o):w'.cell? ⟨b,o,none⟩=w.cell? ⟨b,o,none⟩:=by
  rcases h.obj b hb with he | ⟨c,T,f,c',f',h1,h2,hs,hj,hf⟩ | ⟨_,_,_,_,_,_,h2⟩
  · simp only [World.cell?,he]
  · simp only [World.cell?,h1,h2]
    simpa using hj o hO
  · exact absurd (h2 o) hO
structure Cx where
  w0:World
  O:Nat→Nat→Prop
  Rp:Nat→Nat→Prop
  Rl:Nat→Nat→Prop
  B0:Nat→Option (Nat × Nat × Nat)
  G0:Nat→Option RG
structure Sim (φ:Nat→FuncId) (N:Env) (c:Cx) (s:St) (a:Act) (w:World) (h:Gh):Prop where
  nt:a.tmps.size=s.t.length
  df:a.defers=[]
  t:∀ j v,s.t[j]?=some v→VOk φ w h v (a.tmps.getD j undef)
  m:∀ id cs,s.m[id]?=some cs→∃ b base,h.B id=some (b,base,cs.length)∧BlkOk N φ w h cs b base
  r:∀ id z fz xs,s.r[id]?=some (.row z fz xs)→∃ g,h.G id=some g∧RowOk N w h z fz xs g
  bN:∀ id,s.m.length≤id→h.B id=none
  gN:∀ id,s.r.length≤id→h.G id=none
  sR:∀ b o,h.Rl b o→¬ Owned h s b o
  sM:∀ i j b lo hi lo' hi',i≠j→lo<hi→lo'<hi'→BlkAt h s i b lo hi→BlkAt h s j b lo' hi'→hi≤lo'∨hi'≤lo
  sX:∀ i id b lo hi,lo<hi→BlkAt h s i b lo hi→RowAt h s id b→False
  sW:∀ i j b,RowAt h s i b→RowAt h s j b→i=j
  fr:Fr c.O c.w0 w
  ow:∀ b o,Owned h s b o→c.O b o∨c.w0.heap.size≤b
  pl:∀ b o,h.Rp b o→h.Rl b o
  p0:∀ b o,c.Rp b o→h.Rp b o
  l0:∀ b o,c.Rl b o→h.Rl b o
  p1:∀ b o,h.Rp b o→c.Rp b o∨c.O b o∨c.w0.heap.size≤b
  l1:∀ b o,h.Rl b o→c.Rl b o∨h.Rp b o
  rb:∀ b o,h.Rl b o→b<w.heap.size
  lo:∀ b o,Owned h s b o→N≤b
  lN:N≤c.w0.heap.size
  oN:∀ b o,c.O b o→N≤b
  c0:∀ b o,c.Rl b o→¬ c.O b o∧b<c.w0.heap.size
  b0:∀ id x,c.B0 id=some x→h.B id=some x
  g0:∀ id x,c.G0 id=some x→h.G id=some x
end Go.VS
end
section
namespace Go.VS
open Go
section
variable {φ:Nat→FuncId} {N:Env} {c:Cx} {s:St} {a:Act} {w w':World} {h h':Gh}
theorem ad0 {w:World} {b:Nat} {o:Obj} (h:w.heap[b]?=some o):b<w.heap.size:=by
  rcases Nat.lt_or_ge b w.heap.size with h1 | h1
  · exact h1
  · rw [Array.getElem?_eq_none h1] at h;cases h
theorem Gh.Le.refl (h:Gh) (w:World):h.Le h w w:=⟨fun _ _ x=>x,fun _ _ x=>x,fun _ _ _=>rfl,fun _ _ _=>rfl,fun _ _ x=>x,fun _ _ x=>x⟩
theorem Gh.Le.trans {h1 h2 h3:Gh} {w1 w2 w3:World} (a:h1.Le h2 w1 w2) (b:h2.Le h3 w2 w3):h1.Le h3 w1 w3:=
  ⟨fun _ _ x=>b.p _ _ (a.p _ _ x),fun _ _ x=>b.l _ _ (a.l _ _ x),fun _ _ x=>(b.kp _ _ (a.p _ _ x)).trans (a.kp _ _ x),fun _ _ x=>(b.kl _ _ (a.l _ _ x)).trans (a.kl _ _ x),
    fun _ _ x=>b.B _ _ (a.B _ _ x),fun _ _ x=>b.G _ _ (a.G _ _ x)⟩
theorem Gh.Le.fr {S:Nat→Nat→Prop} (F:Fr S w w') (hp:∀ b o,h.Rp b o→h.Rl b o) (hR:∀ b o,h.Rl b o→¬ S b o∧b<w.heap.size):h.Le h w w':=
  ⟨fun _ _ x=>x,fun _ _ x=>x,fun b o x=>F.cell (hR b o (hp _ _ x)).2 (hR b o (hp _ _ x)).1,fun b o x=>F.cell (hR b o x).2 (hR b o x).1,fun _ _ x=>x,fun _ _ x=>x⟩
theorem abx {S:Nat→Nat→Prop} (F:Fr S w w') (hle:h.Le h' w w') {cs:List V} {b lo:Nat} (hd:∀ o,lo≤o→o<lo+cs.length→¬ S b o) (hb:BlkOk N φ w h cs b lo):BlkOk N φ w' h' cs b lo:=by
  obtain ⟨cc,T,fr,h1,h2,h3,h4⟩:=hb
  rcases F.obj b (ad0 h1) with he | ⟨x,T',f,x',f',hx,hx',hs,hj,hf⟩ | ⟨_,_,_,_,hx,_,_⟩
  · exact ⟨cc,T,fr,he.trans h1,h2,fun j v hv=>(h3 j v hv).mono hle,h4⟩
  rotate_left
  · rw [h1] at hx;cases hx
  · rw [h1] at hx
    cases hx
    refine ⟨x',T,f',hx',by omega,fun j v hv=>?_,fun h0=>(hf.resolve_right fun hh=>hd lo (Nat.le_refl _) (by omega) (hh lo)).trans (h4.1 h0),fun j hj=>by rw [hs];exact h4.2 j hj⟩
    have hlt:j<cs.length:=(List.getElem?_eq_some_iff.1 hv).1
    have e:=hj (lo+j) (hd (lo+j) (by omega) (by omega))
    have:=(h3 j v hv).mono hle
    rw [Array.getD_eq_getD_getElem?] at this ⊢
    rw [e]
    exact this
theorem abe {S:Nat→Nat→Prop} (F:Fr S w w') (hle:h.Le h' w w') {z:Nat} {fz:Bool} {xs:List V} {g:RG} (hd:∀ b cap,g.loc=some (b,cap)→∀ o,¬ S b o) (hr:RowOk N w h z fz xs g):RowOk N w' h' z fz xs g:=by
  rcases hr with ⟨h0,h1,h2,h3,h4⟩ | ⟨h0,h1,b,cap,es,clock,hl,e1,e2,e3⟩
  rotate_left
  · refine .inr ⟨h0,h1,b,cap,es,clock,hl,?_,e2,fun j x hj=>?_⟩
    · exact ((F.obj b (ad0 e1)).mono fun o ho=>hd b cap hl o ho).none.trans e1
    · obtain ⟨e,kv,vv,f1,f2,f3,f4,f5⟩:=e3 j x hj
      exact ⟨e,kv,vv,f1,f2,f3.mono hle.kp hle.p,f4.mono hle.kp hle.p,f5⟩
  refine .inl ⟨h0,h1,h2,h3,?_⟩
  cases hl:g.loc with
  | none=>rw [hl] at h4;exact h4
  | some bc=>
    obtain ⟨b,cap⟩:=bc
    rw [hl] at h4
    obtain ⟨cc,T,fr,e1,e2,e3,e4,e5,e6,e7⟩:=h4
    have hsame:w'.heap[b]?=w.heap[b]?:=by
      have:=F.obj b (ad0 e1)
      exact (this.mono fun o ho=>hd b cap hl o ho).none
    exact ⟨cc,T,fr,hsame.trans e1,e2,e3,e4,e5,fun hf o=>hle.p _ _ (e6 hf o),fun j v hv=>⟨(e7 j v hv).1.mono hle.kp hle.p,(e7 j v hv).2⟩⟩
theorem Sim.put (S:Sim φ N c s a w h) {d:Nat} {v:V} {cv:Value} (hv:VOk φ w h v cv):Sim φ N c (s.put d v) (a.put (some d) cv) w h:=by
  refine { S with nt:=?_,df:=S.df,t:=?_ }
  · show (a.tmps.setIfInBounds d cv).size=(s.t.set d v).length
    simp [S.nt]
  · intro j v' hj
    show VOk φ w h v' ((a.tmps.setIfInBounds d cv).getD j undef)
    replace hj:(s.t.set d v)[j]?=some v':=hj
    rw [List.getElem?_set] at hj
    rw [Array.getD_eq_getD_getElem?,Array.getElem?_setIfInBounds]
    by_cases e:d=j
    · subst e
      rw [if_pos rfl] at hj ⊢
      split at hj
      · rename_i hlt
        rw [if_pos (by rw [S.nt];exact hlt)]
        cases hj
        exact hv
      · cases hj
    · rw [if_neg e] at hj ⊢
      rw [← Array.getD_eq_getD_getElem?]
      exact S.t j v' hj
theorem Sim.putO_un (S:Sim φ N c s a w h) (d:Option Nat):Sim φ N c (s.putO d (.tup [])) (a.put d undef) w h:=by
  cases d with
  | none=>exact S
  | some d=>exact S.put (.tup [] #[] rfl fun j v hj=>by simp at hj)
theorem Sim.heap (S:Sim φ N c s a w h) (h1:w'.heap=w.heap) (h2:w'.os=w.os) (h3:w'.tape=w.tape) (h4:w'.output=w.output):Sim φ N c s a w' h:=by
  have F:Fr (fun _ _=>False) w w':=⟨h2,h3,h4,by rw [h1];exact Nat.le_refl _,fun b _=>by rw [h1];exact .refl _ _⟩
  have hle:h.Le h w w':=.fr F S.pl fun b o x=>⟨fun e=>e,S.rb b o x⟩
  refine { S with t:=fun j v hj=>(S.t j v hj).mono hle,m:=?_,r:=?_,fr:=S.fr.trans F (fun _ _ _ e=>e.elim),rb:=fun b o x=>by rw [h1];exact S.rb b o x }
  · intro id cs hc
    obtain ⟨b,base,hb,hk⟩:=S.m id cs hc
    exact ⟨b,base,hb,abx F hle (fun _ _ _ e=>e) hk⟩
  · intro id z fz xs hx
    obtain ⟨g,hg,hk⟩:=S.r id z fz xs hx
    exact ⟨g,hg,abe F hle (fun _ _ _ _ e=>e) hk⟩
structure Free (N:Env) (c:Cx) (s:St) (w:World) (h:Gh) (b:Nat):Prop where
  r:∀ o,¬ h.Rl b o
  o:∀ o,¬ Owned h s b o
  c:(∀ o,c.O b o)∨c.w0.heap.size≤b
  n:N≤b
  lt:b<w.heap.size
theorem RowAt.gone {id id' b:Nat} (hr:RowAt h { s with r:=s.r.set id .gone } id' b):id'≠id∧RowAt h s id' b:=by
  obtain ⟨z,xs,g,cap,h1,h2,h3⟩:=hr
  replace h1:(s.r.set id .gone)[id']?=_:=h1
  rw [List.getElem?_set] at h1
  by_cases e:id=id'
  · rw [if_pos e] at h1
    split at h1 <;> cases h1
  · rw [if_neg e] at h1
    exact ⟨fun x=>e x.symm,z,xs,g,cap,h1,h2,h3⟩
theorem Owned.gone {id b o:Nat} (ho:Owned h { s with r:=s.r.set id .gone } b o):Owned h s b o:=by
  rcases ho with ⟨i,lo,hi,hb,h1,h2⟩ | ⟨i,hr⟩
  · exact .inl ⟨i,lo,hi,hb,h1,h2⟩
  · exact .inr ⟨i,hr.gone.2⟩
theorem Sim.gone (S:Sim φ N c s a w h) (id:Nat):Sim φ N c { s with r:=s.r.set id .gone } a w h:=by
  refine { S with m:=S.m,r:=?_,gN:=?_,sR:=fun b o x y=>S.sR b o x y.gone,sX:=fun i j b lo hi hlt hb hr=>S.sX i j b lo hi hlt hb hr.gone.2,sW:=fun i j b hi hj=>S.sW i j b hi.gone.2 hj.gone.2,ow:=fun b o x=>S.ow b o x.gone,lo:=fun b o x=>S.lo b o x.gone }
  · intro i z fz xs hx
    replace hx:(s.r.set id .gone)[i]?=_:=hx
    rw [List.getElem?_set] at hx
    by_cases e:id=i
    · rw [if_pos e] at hx;split at hx <;> cases hx
    · rw [if_neg e] at hx;exact S.r i z fz xs hx
  · intro i hi
    exact S.gN i (by simpa using hi)
theorem Sim.free_row (S:Sim φ N c s a w h) {id b:Nat} (hr:RowAt h s id b):Free N c { s with r:=s.r.set id .gone } w h b:=by
  have hlt:b<w.heap.size:=by
    obtain ⟨z,xs,g,cap,h1,h2,h3⟩:=hr
    obtain ⟨g',hg',hk⟩:=S.r id z false xs h1
    rw [h2] at hg'
    cases hg'
    exact hk.lt h3
  refine ⟨fun o x=>S.sR b o x (.inr ⟨id,hr⟩),?_,?_,S.lo b 0 (.inr ⟨id,hr⟩),hlt⟩
  · rintro o (⟨i,lo,hi,hb,_,_⟩ | ⟨i,hi⟩)
    · exact S.sX i id b lo hi (by omega) hb hr
    · have:=hi.gone
      exact this.1 (S.sW i id b this.2 hr)
  · rcases S.ow b 0 (.inr ⟨id,hr⟩) with h1 | h1
    · refine Classical.byCases (fun hx:c.w0.heap.size≤b=>.inr hx) fun hx=>.inl fun o=>?_
      exact (S.ow b o (.inr ⟨id,hr⟩)).resolve_right hx
    · exact .inr h1
theorem Fr.alloc (O:Nat→Nat→Prop) (w:World) (o:Obj):Fr O w (w.alloc o):=
  ⟨rfl,rfl,rfl,by simp,fun b hb=>by rw [heap_alloc_old w o b hb];exact .refl _ _⟩
theorem Sim.alloc (S:Sim φ N c s a w h) (o:Obj):Sim φ N c s a (w.alloc o) h∧Free N c s (w.alloc o) h w.heap.size:=by
  have F:Fr (fun _ _=>False) w (w.alloc o):=.alloc _ w o
  have hle:h.Le h w (w.alloc o):=.fr F S.pl fun b o x=>⟨fun e=>e,S.rb b o x⟩
  refine ⟨{ S with t:=fun j v hj=>(S.t j v hj).mono hle,m:=?_,r:=?_,fr:=S.fr.trans F (fun _ _ _ e=>e.elim),rb:=fun b o x=>by simp only [World.size_alloc];exact Nat.lt_succ_of_lt (S.rb b o x) },?_⟩
  · intro id cs hc
    obtain ⟨b,base,hb,hk⟩:=S.m id cs hc
    exact ⟨b,base,hb,abx F hle (fun _ _ _ e=>e) hk⟩
  · intro id z fz xs hx
    obtain ⟨g,hg,hk⟩:=S.r id z fz xs hx
    exact ⟨g,hg,abe F hle (fun _ _ _ _ e=>e) hk⟩
  · refine ⟨fun o x=>absurd (S.rb _ _ x) (Nat.lt_irrefl _),?_,.inr S.fr.size,Nat.le_trans S.lN S.fr.size,by simp⟩
    rintro o (⟨i,lo,hi,⟨cs,hc,hb,_⟩,_,_⟩ | ⟨i,z,xs,g,cap,h1,h2,h3⟩)
    · obtain ⟨b,base,hb',cc,T,fr,e1,_⟩:=S.m i cs hc
      rw [hb] at hb'
      cases hb'
      exact absurd (ad0 e1) (Nat.lt_irrefl _)
    · obtain ⟨g',hg',hk⟩:=S.r i z false xs h1
      rw [h2] at hg'
      cases hg'
      exact absurd (hk.lt h3) (Nat.lt_irrefl _)
structure Upd (w w':World) (b:Nat) (cc cc':Array Value) (T:TypeId) (fr:Nat × Nat):Prop where
  os:w'.os=w.os
  tape:w'.tape=w.tape
  output:w'.output=w.output
  size:w'.heap.size=w.heap.size
  other:∀ k,k≠b→w'.heap[k]?=w.heap[k]?
  old:w.heap[b]?=some (.cells cc T fr)
  new:w'.heap[b]?=some (.cells cc' T fr)
  len:cc'.size=cc.size
theorem Upd.fr {b:Nat} {cc cc':Array Value} {T:TypeId} {fr:Nat × Nat} (U:Upd w w' b cc cc' T fr) (S:Nat→Nat→Prop) (hS:∀ j,¬ S b j→cc'[j]?=cc[j]?):Fr S w w':=
  ⟨U.os,U.tape,U.output,by rw [U.size];exact Nat.le_refl _,fun k hk=>by
    by_cases e:k=b
    · subst e;exact .inr (.inl ⟨cc,T,fr,cc',fr,U.old,U.new,U.len,hS,.inl rfl⟩)
    · exact .inl (U.other k e)⟩
theorem Upd.trans {w2:World} {b:Nat} {cc cc' cc2:Array Value} {T:TypeId} {fr:Nat × Nat} (U:Upd w w' b cc cc' T fr) (U':Upd w' w2 b cc' cc2 T fr):Upd w w2 b cc cc2 T fr:=
  ⟨U'.os.trans U.os,U'.tape.trans U.tape,U'.output.trans U.output,U'.size.trans U.size,fun k hk=>(U'.other k hk).trans (U.other k hk),U.old,U'.new,U'.len.trans U.len⟩
theorem Sim.setFree (S:Sim φ N c s a w h) {b:Nat} (F:Free N c s w h b) {cc cc':Array Value} {T:TypeId} {fr:Nat × Nat} (U:Upd w w' b cc cc' T fr):Sim φ N c s a w' h∧Free N c s w' h b:=by
  have FR:Fr (fun k _=>k=b) w w':=U.fr _ fun j hj=>absurd rfl hj
  have hle:h.Le h w w':=.fr FR S.pl fun k o x=>⟨fun e=>F.r o (e ▸ x),S.rb k o x⟩
  refine ⟨{ S with t:=fun j v hj=>(S.t j v hj).mono hle,m:=?_,r:=?_,fr:=S.fr.trans FR ?_,rb:=fun b o x=>by rw [U.size];exact S.rb b o x },F.r,F.o,F.c,F.n,by rw [U.size];exact F.lt⟩
  · intro id cs hc
    obtain ⟨k,base,hb,hk⟩:=S.m id cs hc
    refine ⟨k,base,hb,abx FR hle (fun o h1 h2 e=>?_) hk⟩
    subst e
    exact F.o o (.inl ⟨id,base,base+cs.length,⟨cs,hc,hb,rfl⟩,h1,h2⟩)
  · intro id z fz xs hx
    obtain ⟨g,hg,hk⟩:=S.r id z fz xs hx
    refine ⟨g,hg,abe FR hle (fun k cap hl o e=>?_) hk⟩
    subst e
    cases fz with
    | false=>exact F.o o (.inr ⟨id,z,xs,g,cap,hx,hg,hl⟩)
    | true=>exact F.r 0 (S.pl _ _ (hk.rp hl 0))
  · intro x o hx e
    subst e
    rcases F.c with h1 | h1
    · exact h1 o
    · omega
theorem Gh.Le.addG (h:Gh) (w:World) {id:Nat} (g:RG) (hn:h.G id=none):h.Le { h with G:=fun k=>if k=id then some g else h.G k } w w:=
  ⟨fun _ _ x=>x,fun _ _ x=>x,fun _ _ _=>rfl,fun _ _ _=>rfl,fun _ _ x=>x,fun k x hx=>by
    show (if k=id then some g else h.G k)=some x
    rw [if_neg (fun e=>by rw [e,hn] at hx;cases hx)]
    exact hx⟩
theorem Gh.Le.addB (h:Gh) (w:World) {id:Nat} (g:Nat × Nat × Nat) (hn:h.B id=none):h.Le { h with B:=fun k=>if k=id then some g else h.B k } w w:=
  ⟨fun _ _ x=>x,fun _ _ x=>x,fun _ _ _=>rfl,fun _ _ _=>rfl,fun k x hx=>by
    show (if k=id then some g else h.B k)=some x
    rw [if_neg (fun e=>by rw [e,hn] at hx;cases hx)]
    exact hx,fun _ _ x=>x⟩
theorem getElem?_snoc {α:Type} {l:List α} {x:α} {i:Nat} {y:α} (h:(l++[x])[i]?=some y):(i<l.length∧l[i]?=some y)∨(i=l.length∧y=x):=by
  rcases Nat.lt_trichotomy i l.length with h1 | h1 | h1
  · rw [List.getElem?_append_left h1] at h;exact .inl ⟨h1,h⟩
  · subst h1;rw [List.getElem?_append_right (Nat.le_refl _)] at h;simp at h;exact .inr ⟨rfl,h.symm⟩
  · rw [List.getElem?_eq_none (by simp;omega)] at h;cases h
theorem Sim.addRow (S:Sim φ N c s a w h) {z:Nat} {xs:List V} {g:RG} (hF:∀ b cap,g.loc=some (b,cap)→Free N c s w h b) (hr:RowOk N w h z false xs g):
    Sim φ N c ⟨s.t,s.m,s.r++[.row z false xs]⟩ a w { h with G:=fun k=>if k=s.r.length then some g else h.G k }:=by
  have hle:h.Le { h with G:=fun k=>if k=s.r.length then some g else h.G k } w w:=.addG h w g (S.gN _ (Nat.le_refl _))
  have FR:Fr (fun _ _=>False) w w:=.refl _ w
  have hrow:∀ i b,RowAt { h with G:=fun k=>if k=s.r.length then some g else h.G k } ⟨s.t,s.m,s.r++[.row z false xs]⟩ i b→(i=s.r.length∧∃ cap,g.loc=some (b,cap))∨(i≠s.r.length∧RowAt h s i b):=by
    rintro i b ⟨z',xs',g',cap,h1,h2,h3⟩
    rcases getElem?_snoc h1 with ⟨e1,e2⟩ | ⟨e1,e2⟩
    · refine .inr ⟨by omega,z',xs',g',cap,e2,?_,h3⟩
      simpa [show i≠s.r.length by omega] using h2
    · refine .inl ⟨e1,cap,?_⟩
      simp [e1] at h2
      rw [h2];exact h3
  have hblk:∀ i b lo hi,BlkAt { h with G:=fun k=>if k=s.r.length then some g else h.G k } ⟨s.t,s.m,s.r++[.row z false xs]⟩ i b lo hi→BlkAt h s i b lo hi:=fun _ _ _ _ x=>x
  refine { S with t:=fun j v hj=>(S.t j v hj).mono hle,m:=?_,r:=?_,gN:=?_,sR:=?_,sM:=S.sM,sX:=?_,sW:=?_,ow:=?_,lo:=?_,fr:=S.fr,g0:=fun id x e=>hle.G _ _ (S.g0 id x e) }
  · intro id cs hc
    obtain ⟨b,base,hb,hk⟩:=S.m id cs hc
    exact ⟨b,base,hb,abx FR hle (fun _ _ _ e=>e) hk⟩
  · intro id z' fz xs' hx
    rcases getElem?_snoc hx with ⟨e1,e2⟩ | ⟨e1,e2⟩
    · obtain ⟨g',hg',hk⟩:=S.r id z' fz xs' e2
      exact ⟨g',by simp [show id≠s.r.length by omega,hg'],abe FR hle (fun _ _ _ _ e=>e) hk⟩
    · cases e2
      exact ⟨g,by simp [e1],abe FR hle (fun _ _ _ _ e=>e) hr⟩
  · intro id hid
    have:id≠s.r.length:=by simp at hid;omega
    simp [this]
    exact S.gN id (by simp at hid;omega)
  · rintro b o x (⟨i,lo,hi,hb,h1,h2⟩ | ⟨i,hi⟩)
    · exact S.sR b o x (.inl ⟨i,lo,hi,hblk _ _ _ _ hb,h1,h2⟩)
    · rcases hrow i b hi with ⟨_,cap,hl⟩ | ⟨_,hr'⟩
      · exact (hF b cap hl).r o x
      · exact S.sR b o x (.inr ⟨i,hr'⟩)
  · intro i j b lo hi hlt hb hj
    rcases hrow j b hj with ⟨_,cap,hl⟩ | ⟨_,hr'⟩
    · obtain ⟨cs,hc,hB,rfl⟩:=hblk _ _ _ _ hb
      exact (hF b cap hl).o lo (.inl ⟨i,lo,_,⟨cs,hc,hB,rfl⟩,Nat.le_refl _,hlt⟩)
    · exact S.sX i j b lo hi hlt (hblk _ _ _ _ hb) hr'
  · intro i j b hi hj
    rcases hrow i b hi with ⟨e1,cap,hl⟩ | ⟨e1,hr1⟩ <;> rcases hrow j b hj with ⟨e2,cap2,hl2⟩ | ⟨e2,hr2⟩
    · omega
    · exact absurd (.inr ⟨j,hr2⟩) ((hF b cap hl).o 0)
    · exact absurd (.inr ⟨i,hr1⟩) ((hF b cap2 hl2).o 0)
    · exact S.sW i j b hr1 hr2
  · rintro b o (⟨i,lo,hi,hb,h1,h2⟩ | ⟨i,hi⟩)
    · exact S.ow b o (.inl ⟨i,lo,hi,hblk _ _ _ _ hb,h1,h2⟩)
    · rcases hrow i b hi with ⟨_,cap,hl⟩ | ⟨_,hr'⟩
      · rcases (hF b cap hl).c with h1 | h1
        · exact .inl (h1 o)
        · exact .inr h1
      · exact S.ow b o (.inr ⟨i,hr'⟩)
  · rintro b o (⟨i,lo,hi,hb,h1,h2⟩ | ⟨i,hi⟩)
    · exact S.lo b o (.inl ⟨i,lo,hi,hblk _ _ _ _ hb,h1,h2⟩)
    · rcases hrow i b hi with ⟨_,cap,hl⟩ | ⟨_,hr'⟩
      · exact (hF b cap hl).n
      · exact S.lo b o (.inr ⟨i,hr'⟩)
theorem Sim.addBlk (S:Sim φ N c s a w h) {cs:List V} {b:Nat} (F:Free N c s w h b) (hb:BlkOk N φ w h cs b 0):
    Sim φ N c ⟨s.t,s.m++[cs],s.r⟩ a w { h with B:=fun k=>if k=s.m.length then some (b,0,cs.length) else h.B k }:=by
  have hle:h.Le { h with B:=fun k=>if k=s.m.length then some (b,0,cs.length) else h.B k } w w:=.addB h w _ (S.bN _ (Nat.le_refl _))
  have FR:Fr (fun _ _=>False) w w:=.refl _ w
  have hblk:∀ i k lo hi,BlkAt { h with B:=fun k=>if k=s.m.length then some (b,0,cs.length) else h.B k } ⟨s.t,s.m++[cs],s.r⟩ i k lo hi →
      (i=s.m.length∧k=b∧lo=0∧hi=cs.length)∨(i≠s.m.length∧BlkAt h s i k lo hi):=by
    rintro i k lo hi ⟨cs',h1,h2,h3⟩
    rcases getElem?_snoc h1 with ⟨e1,e2⟩ | ⟨e1,e2⟩
    · refine .inr ⟨by omega,cs',e2,?_,h3⟩
      simpa [show i≠s.m.length by omega] using h2
    · subst e2
      simp [e1] at h2
      exact .inl ⟨e1,h2.1.symm,h2.2.symm,by omega⟩
  have hrow:∀ i k,RowAt { h with B:=fun k=>if k=s.m.length then some (b,0,cs.length) else h.B k } ⟨s.t,s.m++[cs],s.r⟩ i k→RowAt h s i k:=fun _ _ x=>x
  have hown:∀ k o,Owned { h with B:=fun k=>if k=s.m.length then some (b,0,cs.length) else h.B k } ⟨s.t,s.m++[cs],s.r⟩ k o→k=b∨Owned h s k o:=by
    rintro k o (⟨i,lo,hi,hb',h1,h2⟩ | ⟨i,hi⟩)
    · rcases hblk _ _ _ _ hb' with ⟨_,e,_,_⟩ | ⟨_,e⟩
      · exact .inl e
      · exact .inr (.inl ⟨i,lo,hi,e,h1,h2⟩)
    · exact .inr (.inr ⟨i,hi⟩)
  refine { S with t:=fun j v hj=>(S.t j v hj).mono hle,m:=?_,r:=?_,bN:=?_,sR:=?_,sM:=?_,sX:=?_,sW:=S.sW,ow:=?_,lo:=?_,fr:=S.fr,b0:=fun id x e=>hle.B _ _ (S.b0 id x e) }
  · intro id cs' hc
    rcases getElem?_snoc hc with ⟨e1,e2⟩ | ⟨e1,e2⟩
    · obtain ⟨k,base,hb',hk⟩:=S.m id cs' e2
      exact ⟨k,base,by simp [show id≠s.m.length by omega,hb'],abx FR hle (fun _ _ _ e=>e) hk⟩
    · subst e2
      exact ⟨b,0,by simp [e1],abx FR hle (fun _ _ _ e=>e) hb⟩
  · intro id z fz xs hx
    obtain ⟨g,hg,hk⟩:=S.r id z fz xs hx
    exact ⟨g,hg,abe FR hle (fun _ _ _ _ e=>e) hk⟩
  · intro id hid
    have:id≠s.m.length:=by simp at hid;omega
    simp [this]
    exact S.bN id (by simp at hid;omega)
  · intro k o x y
    rcases hown k o y with e | e
    · subst e;exact F.r o x
    · exact S.sR k o x e
  · intro i j k lo hi lo' hi' hne hlt1 hlt2 hi1 hj1
    rcases hblk _ _ _ _ hi1 with ⟨e1,e2,e3,e4⟩ | ⟨e1,e2⟩ <;> rcases hblk _ _ _ _ hj1 with ⟨f1,f2,f3,f4⟩ | ⟨f1,f2⟩
    · omega
    · subst e2
      exact absurd (.inl ⟨j,lo',hi',f2,Nat.le_refl _,hlt2⟩) (F.o lo')
    · subst f2
      exact absurd (.inl ⟨i,lo,hi,e2,Nat.le_refl _,hlt1⟩) (F.o lo)
    · exact S.sM i j k lo hi lo' hi' hne hlt1 hlt2 e2 f2
  · intro i id k lo hi hlt hi1 hr
    rcases hblk _ _ _ _ hi1 with ⟨e1,e2,e3,e4⟩ | ⟨e1,e2⟩
    · subst e2;exact absurd (.inr ⟨id,hr⟩) (F.o 0)
    · exact S.sX i id k lo hi hlt e2 hr
  · intro k o y
    rcases hown k o y with e | e
    · subst e
      rcases F.c with h1 | h1
      · exact .inl (h1 o)
      · exact .inr h1
    · exact S.ow k o e
  · intro k o y
    rcases hown k o y with e | e
    · subst e;exact F.n
    · exact S.lo k o e
theorem Sim.freeze (S:Sim φ N c s a w h) {id z:Nat} {fz:Bool} {xs:List V} (hx:s.r[id]?=some (.row z fz xs)) (hp:∀ g,h.G id=some g→g.mp=false):
    ∃ h',Sim φ N c { s with r:=s.r.set id (.row z true xs) } a w h'∧h.Le h' w w∧h'.B=h.B∧h'.G=h.G:=by
  obtain ⟨g,hg,hk⟩:=S.r id z fz xs hx
  replace hp:=hp g hg
  have hlen:id<s.r.length:=(List.getElem?_eq_some_iff.1 hx).1
  have key:∃ R:Nat→Nat→Prop,(∀ b o,R b o→(fz=false∧∃ cap,g.loc=some (b,cap)))∧(∀ b cap,g.loc=some (b,cap)→∀ o,R b o∨h.Rp b o):=by
    cases fz with
    | true=>
      exact ⟨fun _ _=>False,fun _ _ e=>e.elim,fun b cap hl o=>.inr (hk.rp hl o)⟩
    | false=>exact ⟨fun b _=>∃ cap,g.loc=some (b,cap),fun b o e=>⟨rfl,e⟩,fun b cap hl o=>.inl ⟨cap,hl⟩⟩
  obtain ⟨R,hR1,hR2⟩:=key
  have hRrow:∀ b o,R b o→RowAt h s id b:=by
    intro b o e
    obtain ⟨rfl,cap,hl⟩:=hR1 b o e
    exact ⟨z,xs,g,cap,hx,hg,hl⟩
  have hrow:∀ i b,RowAt h { s with r:=s.r.set id (.row z true xs) } i b→i≠id∧RowAt h s i b:=by
    rintro i b ⟨z',xs',g',cap,h1,h2,h3⟩
    replace h1:(s.r.set id (.row z true xs))[i]?=_:=h1
    rw [List.getElem?_set] at h1
    by_cases e:id=i
    · rw [if_pos e] at h1;split at h1 <;> cases h1
    · rw [if_neg e] at h1;exact ⟨fun x=>e x.symm,z',xs',g',cap,h1,h2,h3⟩
  have hown:∀ b o,Owned h { s with r:=s.r.set id (.row z true xs) } b o→Owned h s b o:=by
    rintro b o (⟨i,lo,hi,hb',h1,h2⟩ | ⟨i,hi⟩)
    · exact .inl ⟨i,lo,hi,hb',h1,h2⟩
    · exact .inr ⟨i,(hrow i b hi).2⟩
  have hle:h.Le { h with Rp:=fun b o=>h.Rp b o∨R b o,Rl:=fun b o=>h.Rl b o∨R b o } w w:=⟨fun _ _ x=>.inl x,fun _ _ x=>.inl x,fun _ _ _=>rfl,fun _ _ _=>rfl,fun _ _ x=>x,fun _ _ x=>x⟩
  have FR:Fr (fun _ _=>False) w w:=.refl _ w
  refine ⟨{ h with Rp:=fun b o=>h.Rp b o∨R b o,Rl:=fun b o=>h.Rl b o∨R b o },?_,hle,rfl,rfl⟩
  refine { S with t:=fun j v hj=>(S.t j v hj).mono hle,m:=?_,r:=?_,gN:=?_,sR:=?_,sM:=S.sM,sX:=?_,sW:=?_,ow:=fun b o x=>S.ow b o (hown b o x),pl:=?_,p0:=fun b o x=>.inl (S.p0 b o x),l0:=fun b o x=>.inl (S.l0 b o x),p1:=?_,l1:=?_,rb:=?_,lo:=fun b o x=>S.lo b o (hown b o x),fr:=S.fr }
  · intro i cs hc
    obtain ⟨b,base,hb,hk⟩:=S.m i cs hc
    exact ⟨b,base,hb,abx FR hle (fun _ _ _ e=>e) hk⟩
  · intro i z' fz' xs' hi
    replace hi:(s.r.set id (.row z true xs))[i]?=_:=hi
    rw [List.getElem?_set] at hi
    by_cases e:id=i
    · subst e
      rw [if_pos rfl,if_pos hlen] at hi
      cases hi
      refine ⟨g,hg,?_⟩
      have hk':=abe FR hle (fun _ _ _ _ e=>e) hk
      obtain ⟨k1,k2,k3,k4⟩:=hk'.cells hp
      refine .inl ⟨hp,k1,k2,k3,?_⟩
      cases hl:g.loc with
      | none=>rw [hl] at k4;exact k4
      | some bc=>
        obtain ⟨b,cap⟩:=bc
        rw [hl] at k4
        obtain ⟨cc,T,fr,e1,e2,e3,e4,e5,e6,e7⟩:=k4
        exact ⟨cc,T,fr,e1,e2,e3,⟨e4.1,e4.2.1,fun _ e=>nomatch e⟩,(fun e=>nomatch e),fun _ o=>(hR2 b cap hl o).symm,e7⟩
    · rw [if_neg e] at hi
      obtain ⟨g',hg',hk'⟩:=S.r i z' fz' xs' hi
      exact ⟨g',hg',abe FR hle (fun _ _ _ _ e=>e) hk'⟩
  · intro i hi
    exact S.gN i (by simpa using hi)
  · rintro b o (x | x) y
    · exact S.sR b o x (hown b o y)
    · have hr:=hRrow b o x
      rcases y with ⟨i,lo,hi,hb',h1,h2⟩ | ⟨i,hi⟩
      · exact S.sX i id b lo hi (by omega) hb' hr
      · exact (hrow i b hi).1 (S.sW i id b (hrow i b hi).2 hr)
  · intro i j b lo hi hlt hb hr
    exact S.sX i j b lo hi hlt hb (hrow j b hr).2
  · intro i j b hi hj
    exact S.sW i j b (hrow i b hi).2 (hrow j b hj).2
  · rintro b o (x | x)
    · exact .inl (S.pl b o x)
    · exact .inr x
  · rintro b o (x | x)
    · exact S.p1 b o x
    · exact .inr (S.ow b o (.inr ⟨id,hRrow b o x⟩))
  · rintro b o (x | x)
    · rcases S.l1 b o x with e | e
      · exact .inl e
      · exact .inr (.inl e)
    · exact .inr (.inr x)
  · rintro b o (x | x)
    · exact S.rb b o x
    · exact (S.free_row (hRrow b o x)).lt
theorem Sim.setRowF (S:Sim φ N c s a w h) {id z b cap:Nat} {xs xs':List V} {g:RG} (hx:s.r[id]?=some (.row z false xs)) (hg:h.G id=some g) (hl:g.loc=some (b,cap))
    (FR:Fr (fun k _=>k=b) w w') (hsz:w'.heap.size=w.heap.size) (hr:h.Le h w w'→RowOk N w' h z false xs' g):Sim φ N c { s with r:=s.r.set id (.row z false xs') } a w' h:=by
  have hat:RowAt h s id b:=⟨z,xs,g,cap,hx,hg,hl⟩
  have hlen:id<s.r.length:=(List.getElem?_eq_some_iff.1 hx).1
  have hle:h.Le h w w':=.fr FR S.pl fun k o x=>⟨fun e=>S.sR b o (e ▸ x) (.inr ⟨id,hat⟩),S.rb k o x⟩
  have hrow:∀ i k,RowAt h { s with r:=s.r.set id (.row z false xs') } i k→RowAt h s i k:=by
    rintro i k ⟨z',ys,g',cap',h1,h2,h3⟩
    replace h1:(s.r.set id (.row z false xs'))[i]?=_:=h1
    rw [List.getElem?_set] at h1
    by_cases e:id=i
    · subst e
      rw [hg] at h2;cases h2
      exact ⟨z,xs,g,cap',hx,hg,h3⟩
    · rw [if_neg e] at h1;exact ⟨z',ys,g',cap',h1,h2,h3⟩
  have hown:∀ k o,Owned h { s with r:=s.r.set id (.row z false xs') } k o→Owned h s k o:=by
    rintro k o (⟨i,lo,hi,hb',h1,h2⟩ | ⟨i,hi⟩)
    · exact .inl ⟨i,lo,hi,hb',h1,h2⟩
    · exact .inr ⟨i,hrow i k hi⟩
  refine { S with t:=fun j v hj=>(S.t j v hj).mono hle,m:=?_,r:=?_,gN:=?_,sR:=fun k o x y=>S.sR k o x (hown k o y),sX:=fun i j k lo hi hlt hb hr=>S.sX i j k lo hi hlt hb (hrow j k hr),sW:=fun i j k hi hj=>S.sW i j k (hrow i k hi) (hrow j k hj),ow:=fun k o x=>S.ow k o (hown k o x),lo:=fun k o x=>S.lo k o (hown k o x),fr:=S.fr.trans FR ?_,rb:=fun k o x=>by rw [hsz];exact S.rb k o x }
  · intro i cs hc
    obtain ⟨k,base,hb,hk⟩:=S.m i cs hc
    refine ⟨k,base,hb,abx FR hle (fun o h1 h2 e=>?_) hk⟩
    subst e
    exact S.sX i id k base (base+cs.length) (by omega) ⟨cs,hc,hb,rfl⟩ hat
  · intro i z' fz' ys hi
    replace hi:(s.r.set id (.row z false xs'))[i]?=_:=hi
    rw [List.getElem?_set] at hi
    by_cases e:id=i
    · subst e
      rw [if_pos rfl,if_pos hlen] at hi
      cases hi
      exact ⟨g,hg,hr hle⟩
    · rw [if_neg e] at hi
      obtain ⟨g',hg',hk'⟩:=S.r i z' fz' ys hi
      refine ⟨g',hg',abe FR hle (fun k cap' hl' o e'=>?_) hk'⟩
      subst e'
      cases fz' with
      | false=>exact e (S.sW id i k hat ⟨z',ys,g',cap',hi,hg',hl'⟩)
      | true=>exact S.sR k 0 (S.pl _ _ (hk'.rp hl' 0)) (.inr ⟨id,hat⟩)
  · intro i hi
    exact S.gN i (by simpa using hi)
  · intro x o hx' e
    subst e
    exact (S.ow x o (.inr ⟨id,hat⟩)).resolve_right (by omega)
theorem Sim.setRow (S:Sim φ N c s a w h) {id z b cap:Nat} {xs xs':List V} {g:RG} (hx:s.r[id]?=some (.row z false xs)) (hg:h.G id=some g) (hl:g.loc=some (b,cap))
    {cc cc':Array Value} {T:TypeId} {fr:Nat × Nat} (U:Upd w w' b cc cc' T fr) (hr:h.Le h w w'→RowOk N w' h z false xs' g):Sim φ N c { s with r:=s.r.set id (.row z false xs') } a w' h:=
  S.setRowF hx hg hl (U.fr _ fun j hj=>absurd rfl hj) U.size hr
theorem Sim.setBlk (S:Sim φ N c s a w h) {id b base:Nat} {cs cs':List V} (hx:s.m[id]?=some cs) (hB:h.B id=some (b,base,cs.length)) (hl:cs'.length=cs.length)
    {cc cc':Array Value} {T:TypeId} {fr:Nat × Nat} (U:Upd w w' b cc cc' T fr) (ho:∀ j,¬ (base≤j∧j<base+cs.length)→cc'[j]?=cc[j]?) (hr:h.Le h w w'→BlkOk N φ w' h cs' b base):
    Sim φ N c { s with m:=s.m.set id cs' } a w' h:=by
  have hat:BlkAt h s id b base (base+cs.length):=⟨cs,hx,hB,rfl⟩
  have hlen:id<s.m.length:=(List.getElem?_eq_some_iff.1 hx).1
  have FR:Fr (fun k o=>k=b∧base≤o∧o<base+cs.length) w w':=U.fr _ fun j hj=>ho j fun e=>hj ⟨rfl,e⟩
  have hle:h.Le h w w':=.fr FR S.pl fun k o x=>⟨fun e=>S.sR k o x (.inl ⟨id,base,_,by rw [e.1];exact hat,e.2.1,e.2.2⟩),S.rb k o x⟩
  have hblk:∀ i k lo hi,BlkAt h { s with m:=s.m.set id cs' } i k lo hi→BlkAt h s i k lo hi:=by
    rintro i k lo hi ⟨ds,h1,h2,h3⟩
    replace h1:(s.m.set id cs')[i]?=_:=h1
    rw [List.getElem?_set] at h1
    by_cases e:id=i
    · subst e
      rw [if_pos rfl,if_pos hlen] at h1
      cases h1
      exact ⟨cs,hx,by rw [← hl];exact h2,by rw [← hl];exact h3⟩
    · rw [if_neg e] at h1;exact ⟨ds,h1,h2,h3⟩
  have hown:∀ k o,Owned h { s with m:=s.m.set id cs' } k o→Owned h s k o:=by
    rintro k o (⟨i,lo,hi,hb',h1,h2⟩ | ⟨i,hi⟩)
    · exact .inl ⟨i,lo,hi,hblk _ _ _ _ hb',h1,h2⟩
    · exact .inr ⟨i,hi⟩
  refine { S with t:=fun j v hj=>(S.t j v hj).mono hle,m:=?_,r:=?_,bN:=?_,sR:=fun k o x y=>S.sR k o x (hown k o y),sM:=fun i j k lo hi lo' hi' hne e1 e2 hi1 hj1=>S.sM i j k lo hi lo' hi' hne e1 e2 (hblk _ _ _ _ hi1) (hblk _ _ _ _ hj1),sX:=fun i j k lo hi hlt hb hr=>S.sX i j k lo hi hlt (hblk _ _ _ _ hb) hr,sW:=S.sW,ow:=fun k o x=>S.ow k o (hown k o x),lo:=fun k o x=>S.lo k o (hown k o x),fr:=S.fr.trans FR ?_,rb:=fun k o x=>by rw [U.size];exact S.rb k o x }
  · intro i ds hc
    replace hc:(s.m.set id cs')[i]?=_:=hc
    rw [List.getElem?_set] at hc
    by_cases e:id=i
    · subst e
      rw [if_pos rfl,if_pos hlen] at hc
      cases hc
      exact ⟨b,base,by rw [hl];exact hB,hr hle⟩
    · rw [if_neg e] at hc
      obtain ⟨k,base',hb,hk⟩:=S.m i ds hc
      refine ⟨k,base',hb,abx FR hle (fun o h1 h2 e'=>?_) hk⟩
      obtain ⟨rfl,h3,h4⟩:=e'
      have:=S.sM id i k base _ base' _ e (by omega) (by omega) hat ⟨ds,hc,hb,rfl⟩
      omega
  · intro i z' fz' ys hi
    obtain ⟨g',hg',hk'⟩:=S.r i z' fz' ys hi
    refine ⟨g',hg',abe FR hle (fun k cap' hl' o e'=>?_) hk'⟩
    obtain ⟨rfl,h3,h4⟩:=e'
    cases fz' with
    | false=>exact S.sX id i k base _ (by omega) hat ⟨z',ys,g',cap',hi,hg',hl'⟩
    | true=>exact S.sR k o (S.pl _ _ (hk'.rp hl' o)) (.inl ⟨id,base,_,hat,h3,h4⟩)
  · intro i hi
    exact S.bN i (by simpa using hi)
  · rintro x o hx' ⟨rfl,h3,h4⟩
    exact (S.ow x o (.inl ⟨id,base,_,hat,h3,h4⟩)).resolve_right (by omega)
end
end Go.VS
end
section
namespace Go.VS
open Go
theorem aa4 (b o n:Nat):(⟨b,o,none⟩:Addr).add n=⟨b,o+n,none⟩:=by unfold Addr.add;split <;> simp_all
def arrSet:Array Value→Nat→List Value→Array Value
  | cc,_,[]=>cc
  | cc,o,v :: vs=>arrSet (cc.setIfInBounds o v) (o+1) vs
theorem abp:∀ (vs:List Value) (cc:Array Value) (o:Nat),(arrSet cc o vs).size=cc.size
  | [],_,_=>rfl
  | v :: vs,cc,o=>by rw [arrSet,abp vs];simp
theorem aaq:∀ (vs:List Value) (cc:Array Value) (o j:Nat),¬ (o≤j∧j<o+vs.length)→(arrSet cc o vs)[j]?=cc[j]?
  | [],_,_,_,_=>rfl
  | v :: vs,cc,o,j,h=>by
    rw [arrSet,aaq vs _ _ _ (by simp at h;omega),Array.getElem?_setIfInBounds_ne (by simp at h;omega)]
theorem aci:∀ (vs:List Value) (cc:Array Value) (o j:Nat),o+vs.length≤cc.size→j<vs.length→(arrSet cc o vs)[o+j]?=vs[j]?
  | v :: vs,cc,o,j,h,hj=>by
    rw [arrSet]
    cases j with
    | zero=>
      rw [aaq vs _ _ _ (by omega)]
      rw [List.length_cons] at h
      simp [show o<cc.size by omega]
    | succ j=>
      have:=aci vs (cc.setIfInBounds o v) (o+1) j (by simp at h ⊢;omega) (by simpa using hj)
      rw [show o+(j+1)=o+1+j by omega,this]
      simp
theorem aq6 {w:World} {b o:Nat} {cc:Array Value} {T:TypeId} {fr:Nat × Nat} (h:w.heap[b]?=some (.cells cc T fr)):w.cell? ⟨b,o,none⟩=cc[o]?:=by
  simp [World.cell?,h]
theorem arg {w:World} {b o:Nat} {cc:Array Value} {T:TypeId} {fr:Nat × Nat} (h:w.heap[b]?=some (.cells cc T fr)) (hf:¬ (fr.1≤o∧o<fr.2)):w.frozen? ⟨b,o,none⟩=false:=by
  simp only [World.frozen?,h]
  simpa using hf
theorem Upd.setCell {w:World} {b o:Nat} {cc:Array Value} {T:TypeId} {fr:Nat × Nat} (h:w.heap[b]?=some (.cells cc T fr)) (v:Value):Upd w (w.setCell ⟨b,o,none⟩ v) b cc (cc.setIfInBounds o v) T fr:=by
  refine ⟨rfl,rfl,rfl,by simp [World.setCell],fun k hk=>?_,h,?_,by simp⟩
  · simp only [World.setCell,Array.getElem?_modify]
    rw [if_neg (fun e=>hk e.symm)]
  · simp [World.setCell,Array.getElem?_modify,h]
theorem aef (P:Program) (b o:Nat) {T:TypeId} {fr:Nat × Nat}:∀ (vs:List Value) (i:Nat) (cc:Array Value) (w:World),w.heap[b]?=some (.cells cc T fr)→o+i+vs.length≤cc.size →
    (∀ j,o+i≤j→j<o+i+vs.length→¬ (fr.1≤j∧j<fr.2))→(∀ v,v ∈ vs→v.oneCell'=true) →
    ∃ w',(storeCells ⟨b,o,none⟩ vs i).run P w=.ok () w'∧Upd w w' b cc (arrSet cc (o+i) vs) T fr
  | [],i,cc,w,h,_,_,_=>⟨w,rfl,rfl,rfl,rfl,rfl,fun _ _=>rfl,h,h,rfl⟩
  | v :: vs,i,cc,w,h,hs,hf,h1=>by
    have hlt:o+i<cc.size:=by simp at hs;omega
    have hst:(store ((⟨b,o,none⟩:Addr).add i) v).run P w=.ok () (w.setCell ⟨b,o+i,none⟩ v):=by
      rw [aa4,run_store P w _ v _ (h1 v (by simp)),aq6 h,Array.getElem?_eq_getElem hlt]
      simp [arg h (hf (o+i) (by omega) (by simp))]
    have U:=Upd.setCell (o:=o+i) h v
    obtain ⟨w',hr,U'⟩:=aef P b o vs (i+1) (cc.setIfInBounds (o+i) v) _ U.new (by simp at hs ⊢;omega) (fun j h2 h3=>hf j (by omega) (by simp;omega)) (fun x hx=>h1 x (by simp [hx]))
    refine ⟨w',?_,U.trans ?_⟩
    · simp only [storeCells,Sem.run_bind,hst,Result.andThen_ok,hr]
    · rw [arrSet,show o+i+1=o+(i+1) by omega]
      exact U'
def szT (P:Program) (t:TypeId):Option Nat:=(P.info? t).map (·.size)
def agT (P:Program) (t:TypeId):Option Bool:=match P.underlying t with | some (.struct _)=>some true | some (.array _ _)=>some true | some _=>some false | none=>none
section
variable {P:Program} {w:World}
theorem acf {t:TypeId} {z:Nat} (h:szT P t=some z):(sizeOf t).run P w=.ok z w:=by
  unfold szT at h
  obtain ⟨i,hi,rfl⟩:=Option.map_eq_some_iff.1 h
  simp [sizeOf,typeInfo,hi]
theorem ahr {t:TypeId} {ag:Bool} (h:agT P t=some ag):(isAgg t).run P w=.ok ag w:=by
  unfold agT at h
  cases hu:P.underlying t with
  | none=>rw [hu] at h;cases h
  | some d=>
    simp only [isAgg,Sem.run_bind,run_underlying hu,Result.andThen_ok]
    rw [hu] at h
    cases d <;> simp_all
theorem aoz {t:TypeId} {z:Nat} {ag:Bool} {b o:Nat} (hz:szT P t=some z) (ha:agT P t=some ag) (f:Nat→Value) (hz1:ag=false→z=1) (h:∀ j,j<z→w.cell? ⟨b,o+j,none⟩=some (f j)):
    (loadVar t ⟨b,o,none⟩).run P w=.ok (if ag then .agg ((List.range z).map f).toArray else f 0) w:=by
  cases ag with
  | true=>
    simp only [loadVar,Sem.run_bind,ahr ha,Result.andThen_ok,if_true,acf hz]
    rw [run_loadCells w ⟨b,o,none⟩ z f (fun j hj=>by rw [aa4];exact h j hj)]
    simp
  | false=>
    have h0:=h 0 (by rw [hz1 rfl];omega)
    simp only [Nat.add_zero] at h0
    simp only [loadVar,Sem.run_bind,ahr ha,Result.andThen_ok]
    simp [h0]
theorem aid {t:TypeId} {b o:Nat} {T:TypeId} {fr:Nat × Nat} {cc:Array Value} (v:Value) (hz:szT P t=some v.cells.size) (h:w.heap[b]?=some (.cells cc T fr)) (hs:o+v.cells.size≤cc.size)
    (hf:∀ j,o≤j→j<o+v.cells.size→¬ (fr.1≤j∧j<fr.2)) (h1:∀ x,x ∈ v.cells.toList→x.oneCell'=true):
    ∃ w',(storeVar t ⟨b,o,none⟩ v).run P w=.ok () w'∧Upd w w' b cc (arrSet cc o v.cells.toList) T fr:=by
  obtain ⟨w',hr,U⟩:=aef P b o v.cells.toList 0 cc w h (by simpa using hs) (fun j h2 h3=>hf j (by omega) (by simpa using h3)) h1
  refine ⟨w',?_,U⟩
  simp [storeVar,acf hz,hr]
end
end Go.VS
end
section
namespace Go.VS
open Go
section
variable {φ:Nat→FuncId} {N:Env} {c:Cx} {s:St} {a:Act} {w:World} {h:Gh}
theorem VOk.mkp {v:V} {x:Value} (hp:POk w h.Rp v x):VOk φ w h v x:=.k (.l (.pl hp))
theorem VOk.mkb (x:Bool):VOk φ w h (.b x) (.bool x):=.mkp (.b x)
theorem VOk.mki (k:IntKind) (n:Int):VOk φ w h (.i k n) (.int k n):=.mkp (.i k n)
theorem VOk.mks {l:List UInt8} {x:ByteArray} (e:x.data.toList=l):VOk φ w h (.s l) (.string x):=e ▸ .mkp (.s x)
theorem VOk.mkno (x:Value):VOk φ w h .no x:=.k (.l (.no x))
theorem VOk.b_inv {x:Bool} {y:Value} (h1:VOk φ w h (.b x) y):y=.bool x:=by
  cases h1 with | k h1=>cases h1 with | l h1=>cases h1 with | pl h1=>cases h1;rfl
theorem VOk.i_inv {k:IntKind} {n:Int} {y:Value} (h1:VOk φ w h (.i k n) y):y=.int k n:=by
  cases h1 with | k h1=>cases h1 with | l h1=>cases h1 with | pl h1=>cases h1;rfl
theorem VOk.s_inv {l:List UInt8} {y:Value} (h1:VOk φ w h (.s l) y):∃ x:ByteArray,y=.string x∧x.data.toList=l:=by
  cases h1 with | k h1=>cases h1 with | l h1=>cases h1 with | pl h1=>cases h1 with | s x=>exact ⟨x,rfl,rfl⟩
theorem VOk.nil_inv {y:Value} (h1:VOk φ w h .nil y):y=.slice none 0 0:=by
  cases h1 with | k h1=>cases h1 with | l h1=>cases h1 with | pl h1=>cases h1;rfl
theorem VOk.np_inv {y:Value} (h1:VOk φ w h .np y):y=.pointer none:=by
  cases h1 with | k h1=>cases h1 with | l h1=>cases h1 with | pl h1=>cases h1;rfl
theorem VOk.nf_inv {y:Value} (h1:VOk φ w h .nf y):y=.nilFunc:=by
  cases h1 with | k h1=>cases h1 with | l h1=>cases h1 with | pl h1=>cases h1;rfl
theorem VOk.agg_inv {cs:List V} {y:Value} (h1:VOk φ w h (.agg cs) y):∃ cc,y=.agg cc∧cc.size=cs.length∧∀ j v,cs[j]?=some v→COk φ w h v (cc.getD j undef):=by
  cases h1 with
  | k h1=>cases h1 with | l h1=>cases h1 with | pl h1=>cases h1
  | agg cs cc hs hv=>exact ⟨cc,rfl,hs,hv⟩
theorem VOk.tup_inv {cs:List V} {y:Value} (h1:VOk φ w h (.tup cs) y):∃ cc,y=.tuple cc∧cc.size=cs.length∧∀ j v,cs[j]?=some v→VOk φ w h v (cc.getD j undef):=by
  cases h1 with
  | k h1=>cases h1 with | l h1=>cases h1 with | pl h1=>cases h1
  | tup cs cc hs hv=>exact ⟨cc,rfl,hs,hv⟩
theorem VOk.ptr_inv {id off:Nat} {y:Value} (h1:VOk φ w h (.ptr id off) y):∃ b base len,h.B id=some (b,base,len)∧y=.pointer (some ⟨b,base+off,none⟩):=by
  cases h1 with
  | k h1=>cases h1 with
    | l h1=>cases h1 with | pl h1=>cases h1
    | ptr _ _ b base len hb=>exact ⟨b,base,len,hb,rfl⟩
theorem VOk.ep_inv {id idx off:Nat} {y:Value} (h1:VOk φ w h (.ep id idx off) y):∃ b cap g,h.G id=some g∧idx<g.len∧g.loc=some (b,cap)∧y=.pointer (some ⟨b,idx*g.z+off,none⟩):=by
  cases h1 with
  | k h1=>cases h1 with
    | l h1=>cases h1 with | pl h1=>cases h1
    | ep id idx off b cap g hg hi hl hp=>exact ⟨b,cap,g,hg,hi,hl,rfl⟩
theorem VOk.ep_mp {id idx off:Nat} {y:Value} (h1:VOk φ w h (.ep id idx off) y) {g:RG} (hg:h.G id=some g):g.mp=false:=by
  cases h1 with
  | k h1=>cases h1 with
    | l h1=>cases h1 with | pl h1=>cases h1
    | ep id idx off b cap g' hg' hi hl hp=>rw [hg] at hg';cases hg';exact hp
theorem VOk.mr_inv {id:Nat} {y:Value} (h1:VOk φ w h (.mr id) y):∃ b cap g,h.G id=some g∧g.loc=some (b,cap)∧g.mp=true∧y=.map (some b):=by
  cases h1 with
  | k h1=>cases h1 with
    | l h1=>cases h1 with | pl h1=>cases h1
    | mr id b cap g hg hl hp=>exact ⟨b,cap,g,hg,hl,hp,rfl⟩
theorem VOk.vp_inv {cs:List V} {y:Value} (h1:VOk φ w h (.vp cs) y):∃ (b o:Nat) (f:Nat→Value),y=.pointer (some ⟨b,o,none⟩) ∧
    (∀ j,j<cs.length→h.Rl b (o+j)∧w.cell? ⟨b,o+j,none⟩=some (f j)∧(f j).oneCell'=true)∧∀ j v,cs[j]?=some v→LOk φ w h.Rp h.Rl v (f j):=by
  cases h1 with
  | k h1=>cases h1 with
    | l h1=>cases h1 with
      | pl h1=>cases h1
      | vp cs b o f ha hv=>exact ⟨b,o,f,rfl,ha,hv⟩
theorem VOk.sl_inv2 {id lo n:Nat} {tg:Bool} {y:Value} (h1:VOk φ w h (.sl id lo n tg) y):∃ A cap g,y=.slice A n cap∧h.G id=some g∧lo+n≤g.len∧n≤cap∧(tg=true→cap=n) ∧
    (match g.loc with | none=>cap=0 | some (b,room)=>lo+cap≤room∧(0<cap→A=some ⟨b,lo*g.z,none⟩))∧(match g.loc with | none=>A=none | some (b,_)=>∃ off,A=some ⟨b,off,none⟩):=by
  cases h1 with
  | k h1=>cases h1 with
    | l h1=>cases h1 with | pl h1=>cases h1
    | sl id lo n tg A cap g hg hn hc ht hl ha hp=>exact ⟨A,cap,g,rfl,hg,hn,hc,ht,hl,ha⟩
theorem VOk.sl_mp {id lo n:Nat} {tg:Bool} {y:Value} (h1:VOk φ w h (.sl id lo n tg) y) {g:RG} (hg:h.G id=some g):g.mp=false:=by
  cases h1 with
  | k h1=>cases h1 with
    | l h1=>cases h1 with | pl h1=>cases h1
    | sl id lo n tg A cap g' hg' hn hc ht hl ha hp=>rw [hg] at hg';cases hg';exact hp
theorem VOk.sl_inv {id lo n:Nat} {tg:Bool} {y:Value} (h1:VOk φ w h (.sl id lo n tg) y):∃ A cap g,y=.slice A n cap∧h.G id=some g∧lo+n≤g.len∧n≤cap∧(tg=true→cap=n) ∧
    (match g.loc with | none=>cap=0 | some (b,room)=>lo+cap≤room∧(0<cap→A=some ⟨b,lo*g.z,none⟩)):=by
  obtain ⟨A,cap,g,h1,h2,h3,h4,h5,h6,_⟩:=h1.sl_inv2
  exact ⟨A,cap,g,h1,h2,h3,h4,h5,h6⟩
theorem VOk.view_inv {q:Bool} {z:Nat} {xs:List V} {y:Value} (h1:VOk φ w h (.view q z xs) y):∃ (A:Option Addr) (cap:Nat) (f:Nat→Value),y=.slice A xs.length cap∧xs.length≤cap∧(∀ x,x ∈ xs→x.cells.length=z) ∧
    CellsAt w (if q then h.Rp else h.Rl) A (flat xs).length f∧∀ j v,(flat xs)[j]?=some v→POk w h.Rp v (f j):=by
  cases h1 with
  | k h1=>cases h1 with
    | l h1=>cases h1 with
      | pl h1=>cases h1 with | view z xs A cap f hc hz ha hv=>exact ⟨A,cap,f,rfl,hc,hz,ha,hv⟩
      | view z xs A cap f hc hz ha hv=>exact ⟨A,cap,f,rfl,hc,hz,ha,hv⟩
theorem VOk.fn_inv {f:Nat} {caps:List V} {y:Value} (h1:VOk φ w h (.fn f caps) y):∃ cc,y=.func (.func (φ f)) #[] cc∧cc.size=caps.length∧∀ j v,caps[j]?=some v→KOk φ w h v (cc.getD j undef):=by
  cases h1 with
  | k h1=>cases h1 with
    | l h1=>cases h1 with
      | pl h1=>cases h1
      | fn f caps cc hs hv=>exact ⟨cc,rfl,hs,fun j v hj=>.l (hv j v hj)⟩
    | fn f caps cc hs hv=>exact ⟨cc,rfl,hs,hv⟩
theorem VOk.cells_ok {v:V} {y:Value} (h1:VOk φ w h v y) (hl:v.cells.all isLeaf=true):y.cells.size=v.cells.length∧∀ j u,v.cells[j]?=some u→COk φ w h u (y.cells.getD j undef):=by
  cases h1 with
  | k h1=>
    have hone:y.oneCell'=true:=by
      cases h1 with
      | l h1=>cases h1 with
        | pl h1=>cases h1 <;> rfl
        | no=>simp [V.cells,isLeaf] at hl
        | _=>rfl
      | _=>rfl
    have hcv:v.cells=[v]:=by
      cases h1 with
      | l h1=>cases h1 with
        | pl h1=>cases h1 <;> rfl
        | _=>rfl
      | _=>rfl
    have hcy:y.cells=#[y]:=by cases y <;> first | rfl | (simp [Value.oneCell'] at hone)
    rw [hcv,hcy]
    refine ⟨rfl,fun j u hj=>?_⟩
    cases j with
    | zero=>cases hj;exact ⟨h1,hone⟩
    | succ j=>simp at hj
  | agg cs cc hs hv=>exact ⟨hs,hv⟩
  | tup vs cc hs hv=>simp [V.cells,isLeaf] at hl
def mV:V→Value→Bool
  | .b x,.bool y=>x == y
  | .i k n,.int k' m=>k == k' && n == m
  | .s l,.string y=>y.data.toList == l
  | .nil,.slice none 0 0=>true
  | .view true _ [],.slice none 0 0=>true
  | .np,.pointer none=>true
  | .nf,.nilFunc=>true
  | _,_=>false
def mX (φ:Nat→FuncId):X→Operand→Bool
  | .t n,.tmp m=>n == m
  | .c (.fn k []),.func f=>φ k == f
  | .c .no,.const _=>true
  | .c v,.const y=>mV v y
  | _,_=>false
theorem mV_ok {v:V} {y:Value} (hm:mV v y=true):VOk φ w h v y:=by
  unfold mV at hm
  split at hm
  · rw [beq_iff_eq] at hm;subst hm;exact .mkb _
  · simp at hm;obtain ⟨rfl,rfl⟩:=hm;exact .mki _ _
  · rw [beq_iff_eq] at hm;exact .mks hm
  · exact .mkp .nil
  · exact .mkp (.view _ [] none 0 (fun _=>undef) (Nat.le_refl _) (fun x hx=>by simp at hx) (fun h0=>by simp [flat] at h0) (fun j v hj=>by simp [flat] at hj))
  · exact .mkp .np
  · exact .mkp .npf
  · cases hm
theorem Sim.slot (S:Sim φ N c s a w h) (n:Nat):VOk φ w h (s.t.getD n .no) (a.tmps.getD n undef):=by
  rw [List.getD_eq_getElem?_getD]
  cases e:s.t[n]? with
  | none=>exact .mkno _
  | some v=>exact S.t n v e
theorem mX_ok (S:Sim φ N c s a w h) {x:X} {o:Operand} (hm:mX φ x o=true):VOk φ w h (s.ev x) (a.eval o):=by
  unfold mX at hm
  split at hm
  · rw [beq_iff_eq] at hm;subst hm;exact S.slot _
  · rename_i k f
    rw [beq_iff_eq] at hm;subst hm
    exact .k (.fn k [] #[] rfl fun j v hj=>by simp at hj)
  · exact .mkno _
  · exact mV_ok hm
  · cases hm
def Stp (P:Program) (φ:Nat→FuncId) (N:Env) (c:Cx) (o:Oper) (s':St) (a:Act) (w:World):Prop:=
  ∃ a' w' h',(∀ (K:Act→World→Prop) (Q:Exit→Act→World→Prop),K a' w'→o.wp P a w K Q)∧Sim φ N c s' a' w' h'
theorem Stp.value {P:Program} {o:Oper} {s':St} {cv:Value} {w':World} {h':Gh} (hr:(execOp a.eval o).run P w=.ok (.value cv) w') (S:Sim φ N c s' (a.put o.dst cv) w' h'):Stp P φ N c o s' a w:=
  ⟨_,w',h',fun K Q hk=>by unfold Oper.wp;rw [hr];exact hk,S⟩
theorem Stp.skip {P:Program} {o:Oper} {s':St} {w':World} {h':Gh} (hr:(execOp a.eval o).run P w=.ok .skip w') (S:Sim φ N c s' (a.put o.dst undef) w' h'):Stp P φ N c o s' a w:=
  ⟨_,w',h',fun K Q hk=>by unfold Oper.wp;rw [hr];exact hk,S⟩
theorem Stp.val (S:Sim φ N c s a w h) {P:Program} {o:Oper} {d:Nat} {v:V} {cv:Value} (hd:o.dst=some d) (hr:(execOp a.eval o).run P w=.ok (.value cv) w) (hv:VOk φ w h v cv):Stp P φ N c o (s.put d v) a w:=
  .value hr (by rw [hd];exact S.put hv)
def OpOk (P:Program) (φ:Nat→FuncId) (o:Oper) (i:I):Prop:=
  ∀ (N:Env),N.P=P→∀ (c:Cx) (s s':St) (a:Act) (w:World) (h:Gh),Sim φ N c s a w h→evI i s=some s'→Stp P φ N c o s' a w
end
section
variable {P:Program} {φ:Nat→FuncId} {o:Oper}
theorem ok_mv {d:Nat} {x:X} {y:Operand} (hd:o.dst=some d) (hm:mX φ x y=true) (ho:o.op=.move y∨o.op=.assign y):OpOk P φ o (.mv d x):=by
  intro N hNP c s s' a w h S he
  cases he
  refine Stp.val S hd ?_ (mX_ok S hm)
  rcases ho with ho | ho <;> simp [execOp,ho]
theorem aeq {op:BinOp} {t:TypeId} {x y:Operand} {u v:Value} {w:World} (h:¬ (u=.nilIface∧v=.nilIface)) (h2:∀ cs ds,¬ (u=.agg cs∧v=.agg ds)):(eqGuard op t x y u v).run P w=.ok () w:=by
  unfold eqGuard
  cases op <;> first
    | rfl
    | (rw [if_neg (by decide)]
       split
       · exact absurd ⟨rfl,rfl⟩ h
       · exact absurd ⟨rfl,rfl⟩ (h2 _ _)
       · rfl)
theorem aus {op:BinOp} {k:IntKind} {x y:Int} {v:V} (hs:isShift op=false) (he:binI op k x y=some v) {w:World} {t:TypeId}:
    ∃ cv,(binOp op t (.int k x) (.int k y)).run P w=.ok cv w∧∀ (φ:Nat→FuncId) (h:Gh),VOk φ w h v cv:=by
  cases op <;> simp only [isShift] at hs <;> (try cases hs) <;> simp only [binI] at he <;> (try cases he) <;>
    first
    | exact ⟨_,by simp [binOp,Op.intArith,Op.intBits,Op.intCmp,bandI,borI,bxorI,bandnI] <;> rfl,fun φ h=>.mki _ _⟩
    | exact ⟨_,by simp [binOp,Op.intArith,Op.intBits,Op.intCmp] <;> rfl,fun φ h=>.mkb _⟩
    | (split at he
       · cases he
       · rename_i hy
         cases he
         exact ⟨_,by simp [binOp,Op.intDiv,hy] <;> rfl,fun φ h=>.mki _ _⟩)
theorem shI_ok {op:BinOp} {k k':IntKind} {x y:Int} {v:V} (hs:isShift op=true) (he:shI op k x y=some v) {w:World} {t:TypeId}:
    ∃ cv,(binOp op t (.int k x) (.int k' y)).run P w=.ok cv w∧∀ (φ:Nat→FuncId) (h:Gh),VOk φ w h v cv:=by
  cases op <;> simp only [isShift] at hs <;> (try cases hs) <;> simp only [shI] at he <;>
    (split at he
     · cases he
     · rename_i hy
       cases he
       exact ⟨_,by simp [binOp,Op.shift,hy] <;> rfl,fun φ h=>.mki _ _⟩)
theorem aut {op:BinOp} {x y:ByteArray} {v:V} (he:binS op x.data.toList y.data.toList=some v) {w:World} {t:TypeId}:
    ∃ cv,(binOp op t (.string x) (.string y)).run P w=.ok cv w∧∀ (φ:Nat→FuncId) (h:Gh),VOk φ w h v cv:=by
  have hb:∀ x y:ByteArray,(x.data.toList == y.data.toList)=decide (x.data.toList=y.data.toList):=fun _ _=>by rw [Bool.eq_iff_iff];simp only [beq_iff_eq,decide_eq_true_eq]
  cases op <;> simp only [binS] at he <;> (try cases he) <;>
    first
    | exact ⟨_,by simp only [binOp,Op.stringOp,ByteArray.toList_eq,hb] <;> rfl,fun φ h=>.mkb _⟩
    | (split at he
       · rename_i hl
         cases he
         refine ⟨_,?_,fun φ h=>.mks (x:=x++y) (by simp)⟩
         have h1:x.data.toList.length=x.size:=by simp
         have h2:y.data.toList.length=y.size:=by simp
         rw [h1,h2] at hl
         have h3:¬ ((x.size+y.size:Nat):Int) > IntKind.i64.max:=by
           have:IntKind.i64.max=9223372036854775807:=by decide
           rw [this]
           simp only [lim] at hl
           omega
         simp only [binOp,Op.stringOp]
         rw [if_neg h3]
         rfl
       · cases he)
theorem ok_bin {d:Nat} {op:BinOp} {x y:X} {t t':TypeId} {x' y':Operand} (hd:o.dst=some d) (hx:mX φ x x'=true) (hy:mX φ y y'=true) (ho:o.op=.binOp op t x' y' t'):OpOk P φ o (.bin d op x y):=by
  intro N hNP c s s' a w h S he
  simp only [evI] at he
  obtain ⟨v,hv,rfl⟩:=Option.map_eq_some_iff.1 he
  have vx:=mX_ok S hx
  have vy:=mX_ok S hy
  have fin:∀ cv,(eqGuard op t x' y' (a.eval x') (a.eval y')).run P w=.ok () w→(binOp op t (a.eval x') (a.eval y')).run P w=.ok cv w→VOk φ w h v cv→Stp P φ N c o (s.put d v) a w:=by
    intro cv h1 h2 h3
    refine Stp.val S hd ?_ h3
    simp [execOp,ho,h1,h2]
  unfold binV at hv
  split at hv
  · rename_i k p k' q e1 e2
    rw [e1] at vx;rw [e2] at vy
    have f1:=vx.i_inv
    have f2:=vy.i_inv
    have g:=aeq (P:=P) (op:=op) (t:=t) (x:=x') (y:=y') (u:=a.eval x') (v:=a.eval y') (w:=w) (by rw [f1];simp) (by rw [f1];simp)
    rw [f1,f2] at fin g
    split at hv
    · rename_i hsh
      obtain ⟨cv,r,hok⟩:=shI_ok (P:=P) (w:=w) (t:=t) (k':=k') hsh hv
      exact fin cv g r (hok φ h)
    · rename_i hsh
      split at hv
      · rename_i hk
        subst hk
        obtain ⟨cv,r,hok⟩:=aus (P:=P) (w:=w) (t:=t) (by simpa using hsh) hv
        exact fin cv g r (hok φ h)
      · cases hv
  · rename_i p q e1 e2
    rw [e1] at vx;rw [e2] at vy
    obtain ⟨p',f1,rfl⟩:=vx.s_inv
    obtain ⟨q',f2,rfl⟩:=vy.s_inv
    have g:=aeq (P:=P) (op:=op) (t:=t) (x:=x') (y:=y') (u:=a.eval x') (v:=a.eval y') (w:=w) (by rw [f1];simp) (by rw [f1];simp)
    rw [f1,f2] at fin g
    obtain ⟨cv,r,hok⟩:=aut (P:=P) (w:=w) (t:=t) hv
    exact fin cv g r (hok φ h)
  · cases hv
theorem ok_un {d:Nat} {op:UnOp} {x:X} {t:TypeId} {x':Operand} (hd:o.dst=some d) (hx:mX φ x x'=true) (ho:o.op=.unOp op t x'):OpOk P φ o (.un d op x):=by
  intro N hNP c s s' a w h S he
  simp only [evI] at he
  obtain ⟨v,hv,rfl⟩:=Option.map_eq_some_iff.1 he
  have vx:=mX_ok S hx
  unfold unV at hv
  split at hv
  · rename_i k n e1
    rw [e1] at vx;cases hv
    exact Stp.val S hd (by simp [execOp,ho,vx.i_inv,Op.unary,Op.intArith] <;> rfl) (.mki _ _)
  · rename_i b e1
    rw [e1] at vx;cases hv
    exact Stp.val S hd (by simp [execOp,ho,vx.b_inv,Op.unary] <;> rfl) (.mkb _)
  · rename_i k n e1
    rw [e1] at vx;cases hv
    exact Stp.val S hd (by simp [execOp,ho,vx.i_inv,Op.unary,Op.intBits,bxorI] <;> rfl) (.mki _ _)
  · cases hv
theorem avo {d:Nat} {x y z:X} {x' y' z':Operand} (hd:o.dst=some d) (hx:mX φ x x'=true) (hy:mX φ y y'=true) (hz:mX φ z z'=true) (ho:o.op=.pick x' y' z'):OpOk P φ o (.pick d x y z):=by
  intro N hNP c s s' a w h S he
  simp only [evI] at he
  obtain ⟨v,hv,rfl⟩:=Option.map_eq_some_iff.1 he
  have vx:=mX_ok S hx
  have vy:=mX_ok S hy
  have vz:=mX_ok S hz
  have main:∀ b,s.ev x=.b b→VOk φ w h (if b then s.ev y else s.ev z) (if b then a.eval y' else a.eval z')∧(execOp a.eval o).run P w=.ok (.value (if b then a.eval y' else a.eval z')) w:=by
    intro b e1
    rw [e1] at vx
    refine ⟨by cases b <;> simpa,?_⟩
    simp [execOp,ho,vx.b_inv,asBool]
    try (cases b <;> rfl)
  unfold pickV at hv
  split at hv
  · rename_i b p q e1 e2 e3
    cases hv
    obtain ⟨m1,m2⟩:=main b e1
    refine Stp.val S hd m2 ?_
    rw [e2,e3] at m1
    cases b <;> exact m1
  · cases hv
    exact Stp.val S hd (main _ (by assumption)).2 (main _ (by assumption)).1
  · cases hv
theorem ok_cvi {d:Nat} {k:IntKind} {x:X} {t u:TypeId} {x':Operand} (hd:o.dst=some d) (hx:mX φ x x'=true) (ho:o.op=.convert t u x') (ht:(P.underlying t).isSome=true) (hu:P.underlying u=some (.int k)):OpOk P φ o (.cvi d k x):=by
  intro N hNP c s s' a w h S he
  simp only [evI] at he
  obtain ⟨n,hn,rfl⟩:=Option.map_eq_some_iff.1 he
  obtain ⟨dt,hdt⟩:=Option.isSome_iff_exists.1 ht
  have vx:=mX_ok S hx
  unfold asN at hn
  split at hn
  · rename_i k' n' e1
    rw [e1] at vx;cases hn
    exact Stp.val S hd (by simp [execOp,ho,vx.i_inv,convert,run_underlying hdt,run_underlying hu,Conv.intToInt] <;> rfl) (.mki _ _)
  · cases hn
theorem ok_cvn {d:Nat} {x:X} {t u:TypeId} {x':Operand} (hd:o.dst=some d) (hx:mX φ x x'=true) (ho:o.op=.convert t u x') (ht:P.underlying t=some .string) (hu:P.underlying u=some .string):OpOk P φ o (.cvn d x):=by
  intro N hNP c s s' a w h S he
  have vx:=mX_ok S hx
  simp only [evI] at he
  split at he
  · rename_i l e1
    rw [e1] at vx;cases he
    obtain ⟨y,f1,rfl⟩:=vx.s_inv
    exact Stp.val S hd (by simp [execOp,ho,f1,convert,run_underlying ht,run_underlying hu] <;> rfl) (.mks rfl)
  · cases he
theorem ok_ext {d:Nat} {x:X} {j:Nat} {x':Operand} (hd:o.dst=some d) (hx:mX φ x x'=true) (ho:o.op=.extract x' j):OpOk P φ o (.ext d x j):=by
  intro N hNP c s s' a w h S he
  have vx:=mX_ok S hx
  simp only [evI] at he
  split at he
  · rename_i vs e1
    rw [e1] at vx
    obtain ⟨v,hv,rfl⟩:=Option.map_eq_some_iff.1 he
    obtain ⟨cc,f1,hs,hall⟩:=vx.tup_inv
    have hlt:j<cc.size:=by rw [hs];exact (List.getElem?_eq_some_iff.1 hv).1
    refine Stp.val S hd (cv:=cc.getD j undef) ?_ (hall j v hv)
    simp [execOp,ho,f1,Instr.extract,Array.getElem?_eq_getElem hlt,Array.getD_eq_getD_getElem?]
  · cases he
theorem ok_eqb {d:Nat} {neq:Bool} {x y:X} {t t':TypeId} {x' y':Operand} (hd:o.dst=some d) (hx:mX φ x x'=true) (hy:mX φ y y'=true) (ho:o.op=.binOp (if neq then .neq else .eql) t x' y' t') (ht:P.underlying t=some .bool):OpOk P φ o (.eqb d neq x y):=by
  intro N hNP c s s' a w h S he
  have vx:=mX_ok S hx
  have vy:=mX_ok S hy
  simp only [evI] at he
  split at he
  · rename_i p q e1 e2
    rw [e1] at vx;rw [e2] at vy;cases he
    have g:=aeq (P:=P) (op:=if neq then .neq else .eql) (t:=t) (x:=x') (y:=y') (u:=a.eval x') (v:=a.eval y') (w:=w) (by rw [vx.b_inv];simp) (by rw [vx.b_inv];simp)
    rw [vx.b_inv,vy.b_inv] at g
    refine Stp.val S hd (cv:=.bool ((p == q) ^^ neq)) ?_ (.mkb _)
    cases neq <;> simp only [Bool.false_eq_true,if_false,if_true] at g ho <;> simp [execOp,ho,vx.b_inv,vy.b_inv,g,binOp,run_equal_bool w t p q ht]
  · cases he
end
end Go.VS
end
section
namespace Go.VS
open Go
theorem ach:flat []=[]:=rfl
theorem aa3 (x:V) (xs:List V):flat (x :: xs)=x.cells++flat xs:=rfl
theorem acd (xs ys:List V):flat (xs++ys)=flat xs++flat ys:=List.flatMap_append ..
theorem aaf {z:Nat}:∀ {xs:List V},(∀ x,x ∈ xs→x.cells.length=z)→(flat xs).length=xs.length*z
  | [],_=>by simp [ach]
  | x :: xs,h=>by
    rw [aa3,List.length_append,h x (by simp),aaf fun y hy=>h y (by simp [hy]),List.length_cons,Nat.add_mul]
    omega
theorem adx {z:Nat}:∀ {xs:List V} {i j:Nat} {e:V},(∀ x,x ∈ xs→x.cells.length=z)→xs[i]?=some e→j<z→(flat xs)[i*z+j]?=e.cells[j]?
  | x :: xs,0,j,e,h,hi,hj=>by
    simp only [List.getElem?_cons_zero,Option.some.injEq] at hi
    subst hi
    rw [aa3,Nat.zero_mul,Nat.zero_add,List.getElem?_append_left (by rw [h x (by simp)];exact hj)]
  | x :: xs,i+1,j,e,h,hi,hj=>by
    simp only [List.getElem?_cons_succ] at hi
    have hx:=h x (by simp)
    rw [aa3,List.getElem?_append_right (by rw [hx,Nat.add_mul];omega),hx,show (i+1)*z+j - z=i*z+j by rw [Nat.add_mul];omega]
    exact adx (fun y hy=>h y (by simp [hy])) hi hj
theorem afa {z:Nat}:∀ (xs:List V) (k:Nat),(∀ x,x ∈ xs→x.cells.length=z)→flat (xs.drop k)=(flat xs).drop (k*z)
  | xs,0,_=>by simp
  | [],k+1,_=>by simp [ach]
  | x :: xs,k+1,h=>by
    rw [List.drop_succ_cons,afa xs k fun y hy=>h y (by simp [hy]),aa3,Nat.add_mul,Nat.one_mul,Nat.add_comm,← List.drop_drop,List.drop_left' (h x (by simp))]
theorem aeb {z:Nat}:∀ (xs:List V) (k:Nat),(∀ x,x ∈ xs→x.cells.length=z)→flat (xs.take k)=(flat xs).take (k*z)
  | xs,0,_=>by simp [ach]
  | [],k+1,_=>by simp [ach]
  | x :: xs,k+1,h=>by
    have hx:=h x (by simp)
    rw [List.take_succ_cons,aa3,aeb xs k fun y hy=>h y (by simp [hy]),aa3,Nat.add_mul,Nat.one_mul,List.take_append,hx,Nat.add_sub_cancel,
      List.take_of_length_le (l:=x.cells) (by omega)]
theorem abb:∀ (vs cs:List V) (o:Nat),(setAt cs o vs).length=cs.length
  | [],_,_=>rfl
  | v :: vs,cs,o=>by rw [setAt,abb vs];simp
theorem adl:∀ (vs cs:List V) (o j:Nat),¬ (o≤j∧j<o+vs.length)→(setAt cs o vs)[j]?=cs[j]?
  | [],_,_,_,_=>rfl
  | v :: vs,cs,o,j,h=>by
    rw [List.length_cons] at h
    rw [setAt,adl vs _ _ _ (by omega),List.getElem?_set_ne (by omega)]
theorem aft:∀ (vs cs:List V) (o j:Nat),o+vs.length≤cs.length→j<vs.length→(setAt cs o vs)[o+j]?=vs[j]?
  | v :: vs,cs,o,j,h,hj=>by
    rw [List.length_cons] at h hj
    rw [setAt]
    cases j with
    | zero=>
      rw [adl vs _ _ _ (by omega)]
      simp [show o<cs.length by omega]
    | succ j=>
      rw [show o+(j+1)=o+1+j by omega,aft vs _ (o+1) j (by simp;omega) (by omega)]
      simp
theorem ac9 {cs part:List V} {off k:Nat} (h:range cs off k=some part):part.length=k∧∀ j,j<k→part[j]?=cs[off+j]?:=by
  unfold range at h
  split at h
  · rename_i hl
    cases h
    refine ⟨by simp;omega,fun j hj=>?_⟩
    rw [List.getElem?_take_of_lt hj,List.getElem?_drop]
  · cases h
theorem aae {α:Type} {l:List α} {i:Nat} {d x:α} (h:l.getD i d=x) (hne:x≠d):l[i]?=some x:=by
  rw [List.getD_eq_getElem?_getD] at h
  cases e:l[i]? with
  | none=>rw [e] at h;exact absurd h.symm hne
  | some y=>rw [e] at h;exact congrArg some h
section
variable {φ:Nat→FuncId} {N:Env} {c:Cx} {s:St} {a:Act} {w:World} {h:Gh} {P:Program} {o:Oper}
theorem ak4 (f:Nat→Value) {n j:Nat} (hj:j<n):((List.range n).map f).toArray.getD j undef=f j:=by
  rw [Array.getD_eq_getD_getElem?]
  simp [hj]
theorem mkV_ok {ag:Bool} {part:List V} {v:V} {f:Nat→Value} (hm:mkV ag part=some v) (hv:∀ j u,part[j]?=some u→COk φ w h u (f j)):
    VOk φ w h v (if ag then .agg ((List.range part.length).map f).toArray else f 0):=by
  cases ag with
  | true=>
    cases hm
    refine .agg part _ (by simp) fun j u hj=>?_
    rw [ak4 f (List.getElem?_eq_some_iff.1 hj).1]
    exact hv j u hj
  | false=>
    simp only [mkV] at hm
    split at hm
    · rename_i hh;cases hh
    · split at hm
      · cases hm
        exact .k (hv 0 _ rfl).1
      · cases hm
theorem ar1 {ag:Bool} {part:List V} {v:V} (hm:mkV ag part=some v):ag=false→part.length=1:=by
  rintro rfl
  simp only [mkV] at hm
  split at hm
  · rename_i hh;cases hh
  · split at hm
    · rfl
    · cases hm
theorem ap8 (S:Sim φ N c s a w h) {id idx z:Nat} {fz:Bool} {xs:List V} {g:RG} {b cap:Nat} (hx:s.r[id]?=some (.row z fz xs)) (hg:h.G id=some g) (hl:g.loc=some (b,cap)) (hp:g.mp=false) {e:V} (he:xs[idx]?=some e):
    g.z=z∧e.cells.length=z∧∃ cc T fr,w.heap[b]?=some (.cells cc T fr)∧cc.size=cap*z∧idx*z+z≤cc.size ∧
      ∀ j u,e.cells[j]?=some u→POk w h.Rp u (cc.getD (idx*z+j) undef)∧(cc.getD (idx*z+j) undef).oneCell'=true:=by
  obtain ⟨g',hg',hrw⟩:=S.r id z fz xs hx
  rw [hg] at hg'
  cases hg'
  obtain ⟨h1,h2,h3,h4⟩:=hrw.cells hp
  rw [hl] at h4
  obtain ⟨cc,T,fr,e1,e2,e3,e4,e5,e6,e7⟩:=h4
  have hlt:idx<xs.length:=(List.getElem?_eq_some_iff.1 he).1
  have hez:=h3 e (List.mem_of_getElem? he)
  have hle:idx*z+z≤cc.size:=by
    rw [e2]
    have:(idx+1)*z≤cap*z:=Nat.mul_le_mul_right _ (by omega)
    rw [Nat.add_mul] at this
    omega
  refine ⟨h1,hez,cc,T,fr,e1,e2,hle,fun j u hj=>?_⟩
  have hjz:j<z:=by rw [← hez];exact (List.getElem?_eq_some_iff.1 hj).1
  exact e7 _ u ((adx h3 he hjz).trans hj)
theorem aa7 {w:World} {b o:Nat} {cc:Array Value} {T:TypeId} {fr:Nat × Nat} (h:w.heap[b]?=some (.cells cc T fr)) (ho:o<cc.size):w.cell? ⟨b,o,none⟩=some (cc.getD o undef):=by
  rw [aq6 h,Array.getD_eq_getD_getElem?,Array.getElem?_eq_getElem ho];rfl
theorem arx (S:Sim φ N c s a w h) {p v:V} {y:Value} {z:Nat} {ag:Bool} {t:TypeId} (vx:VOk φ w h p y) (hv:loadV s p z ag=some v) (hz:szT P t=some z) (ha:agT P t=some ag):
    ∃ A cv,y=.pointer (some A)∧(loadVar t A).run P w=.ok cv w∧VOk φ w h v cv:=by
  have fin:∀ (b p:Nat) (part:List V) (f:Nat→Value),y=.pointer (some ⟨b,p,none⟩)→part.length=z→mkV ag part=some v→(∀ j,j<z→w.cell? ⟨b,p+j,none⟩=some (f j))→(∀ j u,part[j]?=some u→COk φ w h u (f j)) →
      ∃ A cv,y=.pointer (some A)∧(loadVar t A).run P w=.ok cv w∧VOk φ w h v cv:=by
    intro b p part f h1 h2 h3 h4 h5
    have hr:=aoz (P:=P) (w:=w) hz ha f (fun e=>h2 ▸ ar1 h3 e) h4
    have hvv:=mkV_ok h3 h5
    rw [h2] at hvv
    exact ⟨_,_,h1,hr,hvv⟩
  unfold loadV at hv
  split at hv
  · rename_i id off
    obtain ⟨b,base,len,hB,f1⟩:=vx.ptr_inv
    obtain ⟨part,hp,hm⟩:=Option.bind_eq_some_iff.1 hv
    obtain ⟨hlen,hget⟩:=ac9 hp
    cases hcs:s.m[id]? with
    | none=>
      have:=S.bN id (by rw [List.getElem?_eq_none_iff] at hcs;exact hcs)
      rw [hB] at this;cases this
    | some cs=>
      have hgd:s.m.getD id []=cs:=by rw [List.getD_eq_getElem?_getD,hcs];rfl
      rw [hgd] at hp hget
      obtain ⟨b',base',hB',cc,T,fr,k1,k2,k3,k4⟩:=S.m id cs hcs
      rw [hB] at hB';cases hB'
      unfold range at hp
      split at hp
      · rename_i hle
        refine fin b (base+off) part (fun j=>cc.getD (base+off+j) undef) f1 hlen hm (fun j hj=>aa7 k1 (by omega)) fun j u hj=>?_
        have hjz:j<z:=by rw [← hlen];exact (List.getElem?_eq_some_iff.1 hj).1
        rw [hget j hjz] at hj
        rw [show base+off+j=base+(off+j) by omega]
        exact k3 _ u hj
      · cases hp
  · rename_i cs
    obtain ⟨b,p,f,f1,f2,f3⟩:=vx.vp_inv
    obtain ⟨part,hp,hm⟩:=Option.bind_eq_some_iff.1 hv
    obtain ⟨hlen,hget⟩:=ac9 hp
    unfold range at hp
    split at hp
    · rename_i hle
      refine fin b p part f f1 hlen hm (fun j hj=>(f2 j (by omega)).2.1) fun j u hj=>?_
      have hjz:j<z:=by rw [← hlen];exact (List.getElem?_eq_some_iff.1 hj).1
      rw [hget j hjz,Nat.zero_add] at hj
      exact ⟨.l (f3 j u hj),(f2 j (List.getElem?_eq_some_iff.1 hj).1).2.2⟩
    · cases hp
  · rename_i id idx off
    obtain ⟨b,cap,g,hg,hi,hl,f1⟩:=vx.ep_inv
    split at hv
    · rename_i z' fz xs hr
      obtain ⟨part,hp,hm⟩:=Option.bind_eq_some_iff.1 hv
      obtain ⟨hlen,hget⟩:=ac9 hp
      have hx:=aae hr (by simp)
      have hlx:idx<xs.length:=by
        obtain ⟨g',hg',hrw⟩:=S.r id z' fz xs hx
        rw [hg] at hg';cases hg'
        obtain ⟨h1,h2,_⟩:=hrw.cells (vx.ep_mp hg)
        omega
      have hex:xs[idx]?=some (xs.getD idx .no):=by rw [List.getD_eq_getElem?_getD,List.getElem?_eq_getElem hlx];rfl
      obtain ⟨k0,k1,cc,T,fr,k2,k3,k4,k5⟩:=ap8 S hx hg hl (vx.ep_mp hg) hex
      unfold range at hp
      split at hp
      · rename_i hle
        rw [k1] at hle
        refine fin b (idx*g.z+off) part (fun j=>cc.getD (idx*z'+(off+j)) undef) f1 hlen hm (fun j hj=>?_) fun j u hj=>?_
        · rw [k0,show idx*z'+off+j=idx*z'+(off+j) by omega]
          exact aa7 k2 (by omega)
        · have hjz:j<z:=by rw [← hlen];exact (List.getElem?_eq_some_iff.1 hj).1
          rw [hget j hjz] at hj
          obtain ⟨p1,p2⟩:=k5 _ u hj
          exact ⟨.l (.pl p1),p2⟩
      · cases hp
    · cases hv
  · cases hv
theorem ok_ld {d z:Nat} {ag:Bool} {x:X} {t:TypeId} {x':Operand} (hd:o.dst=some d) (hx:mX φ x x'=true) (ho:o.op=.load t x') (hz:szT P t=some z) (ha:agT P t=some ag):OpOk P φ o (.ld d x z ag):=by
  intro N hNP c s s' a w h S he
  simp only [evI] at he
  obtain ⟨v,hv,rfl⟩:=Option.map_eq_some_iff.1 he
  obtain ⟨A,cv,h1,h2,h3⟩:=arx (P:=P) S (mX_ok S hx) hv hz ha
  refine Stp.val S hd ?_ h3
  simp [execOp,ho,h1,Instr.loadAt,Instr.sureAddr,h2]
theorem ok_nck {d:Nat} {x:X} {x':Operand} (hd:o.dst=some d) (hx:mX φ x x'=true) (ho:o.op=.nilCheck x'):OpOk P φ o (.nck d x):=by
  intro N hNP c s s' a w h S he
  have vx:=mX_ok S hx
  simp only [evI] at he
  split at he
  · rename_i hn
    cases he
    refine Stp.val S hd ?_ vx
    unfold nckV at hn
    split at hn
    · rename_i e1;rw [e1] at vx;obtain ⟨b,base,len,_,f1⟩:=vx.ptr_inv;simp [execOp,ho,f1]
    · rename_i e1;rw [e1] at vx;obtain ⟨b,cap,g,_,_,_,f1⟩:=vx.ep_inv;simp [execOp,ho,f1]
    · rename_i e1;rw [e1] at vx;obtain ⟨b,p,f,f1,_⟩:=vx.vp_inv;simp [execOp,ho,f1]
    · rename_i e1;rw [e1] at vx;obtain ⟨cc,f1,_⟩:=vx.fn_inv;simp [execOp,ho,f1]
    · cases hn
  · cases he
theorem ok_fad {d off:Nat} {x:X} {t:TypeId} {x':Operand} {i:Nat} {fs:Array Field} {fd:Field} {z:Nat} (hd:o.dst=some d) (hx:mX φ x x'=true) (ho:o.op=.fieldAddr t x' i)
    (ht:P.underlying t=some (.struct fs)) (hf:fs[i]?=some fd) (hoff:fd.offset=off) (hz:szT P fd.type=some z) (hz0:z≠0):OpOk P φ o (.fad d x off):=by
  intro N hNP c s s' a w h S he
  have vx:=mX_ok S hx
  simp only [evI] at he
  obtain ⟨v,hv,rfl⟩:=Option.map_eq_some_iff.1 he
  have fin:∀ b p,a.eval x'=.pointer (some ⟨b,p,none⟩)→VOk φ w h v (.pointer (some ⟨b,p+off,none⟩))→Stp P φ N c o (s.put d v) a w:=by
    intro b p h1 h2
    refine Stp.val S hd ?_ h2
    simp [execOp,ho,h1,Instr.fieldAt,run_underlying ht,hf,Instr.sureAddr,fieldPlace,acf hz,hz0,aa4,hoff]
  unfold fadV at hv
  split at hv
  · rename_i id q e1
    rw [e1] at vx;cases hv
    obtain ⟨b,base,len,hB,f1⟩:=vx.ptr_inv
    refine fin b _ f1 ?_
    rw [Nat.add_assoc]
    exact .k (.ptr id (q+off) b base len hB)
  · rename_i id idx q e1
    rw [e1] at vx;cases hv
    obtain ⟨b,cap,g,hg,hi,hl,f1⟩:=vx.ep_inv
    refine fin b _ f1 ?_
    rw [Nat.add_assoc]
    exact .k (.ep id idx (q+off) b cap g hg hi hl (vx.ep_mp hg))
  · rename_i cs e1
    rw [e1] at vx;cases hv
    obtain ⟨b,p,f,f1,f2,f3⟩:=vx.vp_inv
    refine fin b _ f1 (.k (.l (.vp (cs.drop off) b (p+off) (fun j=>f (off+j)) (fun j hj=>?_) fun j u hj=>?_)))
    · rw [List.length_drop] at hj
      rw [Nat.add_assoc]
      exact f2 (off+j) (by omega)
    · rw [List.getElem?_drop] at hj
      exact f3 _ u hj
  · cases hv
theorem ok_len {d:Nat} {str:Bool} {x:X} {t:TypeId} {x':Operand} (hd:o.dst=some d) (hx:mX φ x x'=true) (ho:o.op=.call { callee:=.builtin .len,args:=#[x'],argTypes:=#[t] })
    (ht:if str then P.underlying t=some .string else ∃ e,P.underlying t=some (.slice e)):OpOk P φ o (.len d str x):=by
  intro N hNP c s s' a w h S he
  have vx:=mX_ok S hx
  simp only [evI] at he
  obtain ⟨n,hn,rfl⟩:=Option.map_eq_some_iff.1 he
  have slc:str=false→∀ A cap,a.eval x'=.slice A n cap→Stp P φ N c o (s.put d (.i .i64 n)) a w:=by
    intro hs A cap f1
    subst hs
    simp only [Bool.false_eq_true,if_false] at ht
    obtain ⟨e,ht⟩:=ht
    exact Stp.val S hd (by simp [execOp,ho,resolve,invoke,builtin,f1,Builtin.len_,run_underlying ht] <;> rfl) (.mki _ _)
  unfold lenV at hn
  split at hn
  · rename_i l e1
    rw [e1] at vx;cases hn
    obtain ⟨y,f1,rfl⟩:=vx.s_inv
    simp only [if_true] at ht
    refine Stp.val S hd (cv:=.int .i64 y.size) ?_ ?_
    · simp [execOp,ho,resolve,invoke,builtin,f1,Builtin.len_,run_underlying ht] <;> rfl
    · have:y.data.toList.length=y.size:=by simp
      rw [this];exact .mki _ _
  · rename_i e1
    rw [e1] at vx;cases hn
    exact slc rfl _ _ vx.nil_inv
  · rename_i q z xs e1
    rw [e1] at vx;cases hn
    obtain ⟨A,cap,f,f1,_⟩:=vx.view_inv
    exact slc rfl _ _ f1
  · rename_i id lo m tg e1
    rw [e1] at vx;cases hn
    obtain ⟨A,cap,g,f1,_⟩:=vx.sl_inv
    exact slc rfl _ _ f1
  · cases hn
theorem ok_ixs {d:Nat} {x i:X} {t:TypeId} {x' i':Operand} (hd:o.dst=some d) (hx:mX φ x x'=true) (hi:mX φ i i'=true) (ho:o.op=.index t x' i') (ht:P.underlying t=some .string):OpOk P φ o (.ixs d x i):=by
  intro N hNP c s s' a w h S he
  have vx:=mX_ok S hx
  have vi:=mX_ok S hi
  simp only [evI] at he
  split at he
  · rename_i l k n e1 e2
    rw [e1] at vx;rw [e2] at vi
    split at he
    · rename_i hlt
      cases he
      obtain ⟨y,f1,rfl⟩:=vx.s_inv
      have hsz:n.toNat<y.size:=by
        have:y.data.toList.length=y.size:=by simp
        omega
      have hg:y[n.toNat]?=some (y.data.toList.getD n.toNat 0):=by
        rw [getElem?_pos y n.toNat hsz,List.getD_eq_getElem?_getD,List.getElem?_eq_getElem (by simpa using hsz)]
        rfl
      refine Stp.val S hd ?_ (.mki _ _)
      simp only [execOp,ho,f1,vi.i_inv,Instr.index,asIntOf,pure_bind,Sem.run_bind,run_underlying ht,Result.andThen_ok,hlt.1,if_true,hg]
      rfl
    · cases he
  · cases he
theorem ok_ixa {d z:Nat} {x i:X} {t e:TypeId} {x' i':Operand} (hd:o.dst=some d) (hx:mX φ x x'=true) (hi:mX φ i i'=true) (ho:o.op=.indexAddr t x' i') (ht:P.underlying t=some (.slice e)) (hz:szT P e=some z) (hz0:0<z):OpOk P φ o (.ixa d x i z):=by
  intro N hNP c s s' a w h S he
  have vx:=mX_ok S hx
  have vi:=mX_ok S hi
  simp only [evI] at he
  obtain ⟨v,hv,rfl⟩:=Option.map_eq_some_iff.1 he
  have fin:∀ (b p len cap:Nat) (k:IntKind) (n:Int),a.eval x'=.slice (some ⟨b,p,none⟩) len cap→a.eval i'=.int k n→0≤n→n<len→VOk φ w h v (.pointer (some ⟨b,p+n.toNat * z,none⟩))→Stp P φ N c o (s.put d v) a w:=by
    intro b p len cap k n h1 h2 h3 h4 h5
    refine Stp.val S hd ?_ h5
    simp [execOp,ho,h1,h2,Instr.indexAt,asIntOf,run_underlying ht,h3,h4,acf hz,aa4]
  unfold idxV at hv
  split at hv
  · rename_i k n e2
    rw [e2] at vi
    split at hv
    · rename_i q z' xs e1
      rw [e1] at vx
      split at hv
      · rename_i hc
        obtain ⟨rfl,hn0,hn1⟩:=hc
        cases hv
        obtain ⟨A,cap,f,f1,f2,f3,f4,f5⟩:=vx.view_inv
        have hlx:n.toNat<xs.length:=by omega
        have hex:xs[n.toNat]?=some (xs.getD n.toNat .no):=by rw [List.getD_eq_getElem?_getD,List.getElem?_eq_getElem hlx];rfl
        have hel:=f3 _ (List.mem_of_getElem? hex)
        have hle:n.toNat * z'+z'≤(flat xs).length:=by
          rw [aaf f3]
          have:(n.toNat+1)*z'≤xs.length*z':=Nat.mul_le_mul_right _ (by omega)
          rw [Nat.add_mul] at this
          omega
        · obtain ⟨b,p,rfl,f6⟩:=f4 (by omega)
          refine fin b p xs.length cap k n f1 vi.i_inv hn0 hn1 (.k (.l (.vp _ b (p+n.toNat * z') (fun j=>f (n.toNat * z'+j)) (fun j hj=>?_) fun j u hj=>?_)))
          · rw [Nat.add_assoc]
            obtain ⟨g1,g2,g3⟩:=f6 (n.toNat * z'+j) (by omega)
            refine ⟨?_,g2,g3⟩
            cases q with
            | true=>exact S.pl _ _ g1
            | false=>exact g1
          · have hjz:j<z':=by rw [← hel];exact (List.getElem?_eq_some_iff.1 hj).1
            exact .pl (f5 _ u ((adx f3 hex hjz).trans hj))
      · cases hv
    · rename_i id lo m tg e1
      rw [e1] at vx
      split at hv
      · rename_i z' fz xs hr
        split at hv
        · rename_i hc
          obtain ⟨rfl,hn0,hn1⟩:=hc
          cases hv
          obtain ⟨A,cap,g,f1,hg,f2,f3,f4,f5⟩:=vx.sl_inv
          obtain ⟨g',hg',hrw⟩:=S.r id z' fz xs (aae hr (by simp))
          rw [hg] at hg';cases hg'
          obtain ⟨h1,h2,_⟩:=hrw.cells (vx.sl_mp hg)
          cases hl:g.loc with
          | none=>rw [hl] at f5;simp only at f5;omega
          | some bc=>
            obtain ⟨b,room⟩:=bc
            rw [hl] at f5
            simp only at f5
            have hA:=f5.2 (by omega)
            subst hA
            refine fin b _ m cap k n f1 vi.i_inv hn0 hn1 ?_
            rw [h1,← Nat.add_mul,← h1]
            exact .k (.ep id (lo+n.toNat) 0 b room g hg (by omega) hl (vx.sl_mp hg))
        · cases hv
      · cases hv
    · cases hv
  · cases hv
end
end Go.VS
end
section
namespace Go.VS
open Go
section
variable {φ:Nat→FuncId} {N:Env} {c:Cx} {s:St} {a:Act} {w:World} {h:Gh} {P:Program} {o:Oper}
theorem POk.leaf {R:Nat→Nat→Prop} {v:V} {x:Value} (hp:POk w R v x):v.cells=[v]∧x.oneCell'=true∧True:=by
  cases hp <;> exact ⟨rfl,rfl,trivial⟩
theorem KOk.plain {v:V} {x:Value} (hk:KOk φ w h v x) (hv:match v with | .b _=>True | .i _ _=>True | .s _=>True | .nil=>True | .np=>True | .nf=>True | .view true _ _=>True | _=>False):POk w h.Rp v x:=by
  cases hk with
  | l hl=>cases hl with
    | pl hp=>exact hp
    | no=>exact hv.elim
    | view=>exact hv.elim
    | vp=>exact hv.elim
    | fn=>exact hv.elim
  | _=>exact hv.elim
theorem ahq {z:Nat} {fz:Bool} {xs:List V} {g:RG} {lo n cap:Nat} {A:Option Addr} (hr:RowOk N w h z fz xs g) (hp:g.mp=false) (hn:lo+n≤g.len) (hc:n≤cap)
    (hl:match g.loc with | none=>cap=0 | some (b,room)=>lo+cap≤room∧(0<cap→A=some ⟨b,lo*g.z,none⟩)) {R:Nat→Nat→Prop} (hR:∀ b room,g.loc=some (b,room)→∀ o,R b o):
    ∃ f,CellsAt w R A (flat ((xs.drop lo).take n)).length f∧(∀ j v,(flat ((xs.drop lo).take n))[j]?=some v→POk w h.Rp v (f j))∧(∀ x,x ∈ (xs.drop lo).take n→x.cells.length=z)∧((xs.drop lo).take n).length=n:=by
  obtain ⟨h1,h2,h3,h4⟩:=hr.cells hp
  have hz:∀ x,x ∈ (xs.drop lo).take n→x.cells.length=z:=fun x hx=>h3 x (List.mem_of_mem_drop (List.mem_of_mem_take hx))
  have hlen:((xs.drop lo).take n).length=n:=by rw [List.length_take,List.length_drop];omega
  have hflat:flat ((xs.drop lo).take n)=((flat xs).drop (lo*z)).take (n*z):=by rw [aeb _ _ (fun x hx=>h3 x (List.mem_of_mem_drop hx)),afa _ _ h3]
  cases hloc:g.loc with
  | none=>
    rw [hloc] at hl h4
    simp only at hl h4
    subst h4
    refine ⟨fun _=>undef,fun h0=>?_,fun j v hj=>?_,hz,hlen⟩
    · rw [List.drop_nil,List.take_nil] at h0;exact absurd h0 (by simp [ach])
    · rw [List.drop_nil,List.take_nil] at hj;simp [ach] at hj
  | some bc=>
    obtain ⟨b,room⟩:=bc
    rw [hloc] at hl h4
    simp only at hl h4
    obtain ⟨cc,T,fr,e1,e2,e3,e4,e5,e6,e7⟩:=h4
    have hin:∀ j,j<n*z→lo*z+j<(flat xs).length:=by
      intro j hj
      rw [aaf h3]
      have:(lo+n)*z≤xs.length*z:=Nat.mul_le_mul_right _ (by omega)
      rw [Nat.add_mul] at this
      omega
    have hin2:∀ j,j<n*z→lo*z+j<cc.size:=by
      intro j hj
      have:=hin j hj
      rw [aaf h3] at this
      rw [e2]
      have h8:xs.length*z≤room*z:=Nat.mul_le_mul_right _ e3
      omega
    have hfl:(flat ((xs.drop lo).take n)).length=n*z:=by rw [aaf hz,hlen]
    refine ⟨fun j=>cc.getD (lo*z+j) undef,fun h0=>?_,fun j v hj=>?_,hz,hlen⟩
    · rw [hfl] at h0
      have hn0:0<n:=Nat.pos_of_ne_zero (fun e=>by rw [e,Nat.zero_mul] at h0;omega)
      refine ⟨b,lo*z,by rw [hl.2 (by omega),h1],fun j hj=>?_⟩
      rw [hfl] at hj
      refine ⟨hR b room hloc _,aa7 e1 (hin2 j hj),?_⟩
      obtain ⟨v,hv⟩:∃ v,(flat xs)[lo*z+j]?=some v:=⟨_,List.getElem?_eq_getElem (hin j hj)⟩
      exact (e7 _ v hv).2
    · have hj':j<n*z:=by rw [← hfl];exact (List.getElem?_eq_some_iff.1 hj).1
      rw [hflat,List.getElem?_take_of_lt hj',List.getElem?_drop] at hj
      exact (e7 _ v hj).1
structure Frz (φ:Nat→FuncId) (N:Env) (c:Cx) (s s':St) (a:Act) (w:World) (h h':Gh):Prop where
  sim:Sim φ N c s' a w h'
  le:h.Le h' w w
  B:h'.B=h.B
  G:h'.G=h.G
  t:s'.t=s.t
  m:s'.m=s.m
  r:s'.r.length=s.r.length
theorem Frz.refl (S:Sim φ N c s a w h):Frz φ N c s s a w h h:=⟨S,.refl _ _,rfl,rfl,rfl,rfl,rfl⟩
theorem Frz.trans {s1 s2 s3:St} {h1 h2 h3:Gh} (x:Frz φ N c s1 s2 a w h1 h2) (y:Frz φ N c s2 s3 a w h2 h3):Frz φ N c s1 s3 a w h1 h3:=
  ⟨y.sim,x.le.trans y.le,y.B.trans x.B,y.G.trans x.G,y.t.trans x.t,y.m.trans x.m,y.r.trans x.r⟩
theorem aoe (S:Sim φ N c s a w h) {v v':V} {s':St} {x:Value} (hv:KOk φ w h v x) (he:frzL v s=some (v',s')):∃ h',Frz φ N c s s' a w h h'∧POk w h'.Rp v' x:=by
  unfold frzL at he
  split at he
  · cases he;exact ⟨h,.refl S,hv.plain trivial⟩
  · cases he;exact ⟨h,.refl S,hv.plain trivial⟩
  · cases he;exact ⟨h,.refl S,hv.plain trivial⟩
  · cases he;exact ⟨h,.refl S,hv.plain trivial⟩
  · cases he;exact ⟨h,.refl S,hv.plain trivial⟩
  · cases he;exact ⟨h,.refl S,hv.plain trivial⟩
  · cases he;exact ⟨h,.refl S,hv.plain trivial⟩
  · rename_i id lo n tg
    split at he
    · rename_i z fz xs hr
      cases he
      have hx:=aae hr (by simp)
      obtain ⟨A,cap,g,rfl,hg,f2,f3,f4,f5⟩:=(VOk.k hv).sl_inv
      have hmp:=(VOk.k hv).sl_mp hg
      obtain ⟨h',S',hle,hB,hG⟩:=S.freeze hx (fun g' e=>by rw [hg] at e;cases e;exact hmp)
      refine ⟨h',⟨S',hle,hB,hG,rfl,rfl,by simp⟩,?_⟩
      have hlen:id<s.r.length:=(List.getElem?_eq_some_iff.1 hx).1
      obtain ⟨g',hg',hrow⟩:=S'.r id z true xs (by show (s.r.set id (.row z true xs))[id]?=_;rw [List.getElem?_set];simp [hlen])
      rw [hG,hg] at hg'
      cases hg'
      have hR:∀ b room,g.loc=some (b,room)→∀ o,h'.Rp b o:=by
        intro b room hl o
        exact hrow.rp hl o
      obtain ⟨f,k1,k2,k3,k4⟩:=ahq hrow hmp f2 f3 f5 hR
      have:=POk.view z _ A cap f (by rw [k4];exact f3) k3 k1 k2
      rw [k4] at this
      exact this
    · cases he
  · cases he
theorem aof:∀ (vs:List V) {s s':St} {vs':List V} {h:Gh} (f:Nat→Value),Sim φ N c s a w h→(∀ j v,vs[j]?=some v→COk φ w h v (f j))→frzs vs s=some (vs',s') →
    ∃ h',Frz φ N c s s' a w h h'∧vs'.length=vs.length∧∀ j v,vs'[j]?=some v→POk w h'.Rp v (f j)∧(f j).oneCell'=true
  | [],s,s',vs',h,f,S,_,he=>by
    cases he
    exact ⟨h,.refl S,rfl,fun j v hj=>by simp at hj⟩
  | v :: vs,s,s',vs',h,f,S,hv,he=>by
    unfold frzs at he
    split at he
    · rename_i v1 s1 e1
      split at he
      · rename_i vs1 s2 e2
        cases he
        have hv0:=hv 0 v rfl
        obtain ⟨h1,F1,p1⟩:=aoe S hv0.1 e1
        obtain ⟨h2,F2,l2,p2⟩:=aof vs (fun j=>f (j+1)) F1.sim (fun j u hj=>(hv (j+1) u (by simpa using hj)).mono F1.le) e2
        refine ⟨h2,F1.trans F2,by simp [l2],fun j u hj=>?_⟩
        cases j with
        | zero=>cases hj;exact ⟨p1.mono F2.le.kp F2.le.p,hv0.2⟩
        | succ j=>exact p2 j u (by simpa using hj)
      · cases he
    · cases he
theorem alb (S:Sim φ N c s a w h) {v v':V} {s':St} {x:Value} (hv:VOk φ w h v x) (he:frzV v s=some (v',s')):∃ h',Frz φ N c s s' a w h h'∧v'.cells.length=v.cells.length∧x.cells.size=v.cells.length ∧
    (∀ j u,v'.cells[j]?=some u→POk w h'.Rp u (x.cells.getD j undef)∧(x.cells.getD j undef).oneCell'=true)∧VOk φ w h' v' x:=by
  unfold frzV at he
  split at he
  · rename_i cs
    split at he
    · rename_i cs' s1 e1
      cases he
      obtain ⟨cc,rfl,hs,hall⟩:=hv.agg_inv
      obtain ⟨h',F,l,p⟩:=aof cs (fun j=>cc.getD j undef) S hall e1
      refine ⟨h',F,l,hs,p,.agg cs' cc (by rw [hs];exact l.symm) fun j u hj=>⟨.l (.pl (p j u hj).1),(p j u hj).2⟩⟩
    · cases he
  · rename_i hne
    cases hv with
    | k hk=>
      obtain ⟨h',F,p⟩:=aoe S hk he
      obtain ⟨l1,l2,l3⟩:=p.leaf
      have hcx:x.cells=#[x]:=by cases x <;> first | rfl | (simp [Value.oneCell'] at l2)
      have hcv:v.cells=[v]:=by
        cases v <;> first | rfl | exact absurd rfl (hne _)
      refine ⟨h',F,by rw [l1,hcv];rfl,by rw [hcx,hcv];rfl,fun j u hj=>?_,.mkp p⟩
      rw [l1] at hj
      cases j with
      | zero=>cases hj;rw [hcx];exact ⟨p,l2⟩
      | succ j=>simp at hj
    | agg cs cc hs hv=>exact absurd rfl (hne _)
    | tup vs cc hs hv=>cases he
theorem ok_frz {d:Nat} {x:X} {x':Operand} (hd:o.dst=some d) (hx:mX φ x x'=true) (ho:o.op=.move x'∨o.op=.assign x'):OpOk P φ o (.frz d x):=by
  intro N hNP c s s' a w h S he
  have vx:=mX_ok S hx
  simp only [evI] at he
  split at he
  · rename_i v s1 e1
    cases he
    obtain ⟨h',F,_,_,_,hv⟩:=alb S vx e1
    refine Stp.value (cv:=a.eval x') (h':=h') (w':=w) ?_ ?_
    · rcases ho with ho | ho <;> simp [execOp,ho] <;> rfl
    · rw [hd];exact F.sim.put hv
  · cases he
theorem amy:∀ (us:List V) {s s':St} {us':List V},frzs us s=some (us',s')→∀ n,V.bt n ∉ us'
  | [],_,_,_,he=>by cases he;simp
  | u :: us,s,s',us',he=>by
    simp only [frzs] at he
    split at he
    · rename_i v1 s1 e1
      split at he
      · rename_i vs1 s2 e2
        cases he
        intro n hn
        rcases List.mem_cons.1 hn with h | h
        · subst h
          unfold frzL at e1
          split at e1 <;> (try cases e1)
          split at e1 <;> cases e1
        · exact amy us e2 n h
      · cases he
    · cases he
theorem aql {e e':V} {off:Nat} {vs:List V} (he:elSet e off vs=some e') (hv:∀ n,V.bt n ∉ vs) (n:Int):e'≠.bt n:=by
  unfold elSet at he
  split at he
  · split at he
    · cases he;intro h;cases h
    · cases he
  · split at he
    · cases he;intro h;exact hv n (by rw [h];simp)
    · cases he
  · cases he
theorem an8 {e e':V} {off:Nat} {vs:List V} (he:elSet e off vs=some e') (hl:∀ v,v ∈ vs→v.cells=[v]):off+vs.length≤e.cells.length∧e'.cells=setAt e.cells off vs:=by
  unfold elSet at he
  split at he
  · split at he
    · rename_i hle;cases he;exact ⟨hle,rfl⟩
    · cases he
  · rename_i v hne
    split at he
    · rename_i h0
      cases he
      subst h0
      have:e.cells=[e]:=by cases e <;> first | rfl | exact absurd rfl (hne _)
      rw [this,hl e' (by simp)]
      exact ⟨by simp,rfl⟩
    · cases he
  · cases he
theorem ok_st {z:Nat} {x v:X} {t:TypeId} {x' v':Operand} (hd:o.dst=none) (hx:mX φ x x'=true) (hv:mX φ v v'=true) (ho:o.op=.store t x' v') (hz:szT P t=some z):OpOk P φ o (.st x v z):=by
  intro N hNP c s s' a w h S he
  have vx:=mX_ok S hx
  have vv:=mX_ok S hv
  simp only [evI] at he
  unfold storeV at he
  split at he
  · cases he
  · rename_i hlen
    replace hlen:(s.ev v).cells.length=z:=Classical.not_not.1 hlen
    split at he
    · rename_i id off e1
      rw [e1] at vx
      split at he
      · rename_i hc
        obtain ⟨hleaf,hle⟩:=hc
        cases he
        obtain ⟨b,base,len,hB,f1⟩:=vx.ptr_inv
        obtain ⟨hsz,hcells⟩:=vv.cells_ok hleaf
        cases hcs:s.m[id]? with
        | none=>
          have:=S.bN id (by rw [List.getElem?_eq_none_iff] at hcs;exact hcs)
          rw [hB] at this;cases this
        | some cs=>
          have hgd:s.m.getD id []=cs:=by rw [List.getD_eq_getElem?_getD,hcs];rfl
          rw [hgd] at hle ⊢
          obtain ⟨b',base',hB',cc,T,fr,k1,k2,k3,k4⟩:=S.m id cs hcs
          rw [hB] at hB';cases hB'
          obtain ⟨w',hr,U⟩:=aid (P:=P) (t:=t) (b:=b) (o:=base+off) (a.eval v') (by rw [hz,hsz,hlen]) k1 (by rw [hsz,hlen];omega) (fun j _ _=>by rw [k4.1 (by omega)];simp) (by
            intro y hy
            obtain ⟨j,hj⟩:=List.getElem?_of_mem hy
            have hj':j<(s.ev v).cells.length:=by rw [← hsz];have:=(List.getElem?_eq_some_iff.1 hj).1;simpa using this
            obtain ⟨u,hu⟩:∃ u,(s.ev v).cells[j]?=some u:=⟨_,List.getElem?_eq_getElem hj'⟩
            have:=(hcells j u hu).2
            rw [Array.getD_eq_getD_getElem?] at this
            simp only [Array.getElem?_toList] at hj
            rw [hj] at this
            exact this)
          refine Stp.skip (h':=h) (w':=w') ?_ ?_
          · simp [execOp,ho,f1,Instr.storeAt,Instr.sureAddr,hr]
          · rw [hd]
            refine S.setBlk hcs hB (abb _ _ _) U (fun j hj=>aaq _ _ _ _ (fun e=>hj ?_)) fun hle'=>⟨_,T,fr,U.new,by rw [abb,U.len];exact k2,fun j u hj=>?_,by rw [abb];exact k4.1,fun j hj=>?_⟩
            · have e2:(a.eval v').cells.toList.length=z:=by rw [← hlen,← hsz];simp
              rw [e2] at e
              omega
            · have e2:(a.eval v').cells.toList.length=z:=by rw [← hlen,← hsz];simp
              by_cases hin:off≤j∧j<off+z
              · obtain ⟨i,rfl⟩:∃ i,j=off+i:=⟨j - off,by omega⟩
                rw [aft _ _ _ _ (by rw [hlen];exact hle) (by rw [hlen];omega)] at hj
                have:=(hcells i u hj).mono hle'
                rw [Array.getD_eq_getD_getElem?] at this ⊢
                rw [show base+(off+i)=base+off+i by omega,aci _ _ _ _ (by rw [e2];omega) (by rw [e2];omega)]
                simpa using this
              · rw [adl _ _ _ _ (by rw [hlen];exact hin)] at hj
                have:=(k3 j u hj).mono hle'
                rw [Array.getD_eq_getD_getElem?] at this ⊢
                rw [aaq _ _ _ _ (by rw [e2];omega)]
                exact this
            · rw [abp]
              by_cases hin:off≤j∧j<off+z
              · obtain ⟨i,rfl⟩:∃ i,j=off+i:=⟨j - off,by omega⟩
                rw [aft _ _ _ _ (by rw [hlen];exact hle) (by rw [hlen];omega)] at hj
                have:=List.all_eq_true.1 hleaf _ (List.mem_of_getElem? hj)
                simp [isLeaf] at this
              · rw [adl _ _ _ _ (by rw [hlen];exact hin)] at hj
                exact k4.2 j hj
      · cases he
    · rename_i id idx off e1
      rw [e1] at vx
      obtain ⟨b,cap,g,hg,hi,hl,f1⟩:=vx.ep_inv
      split at he
      · rename_i cs s1 e2
        split at he
        · rename_i z' xs hr
          obtain ⟨e',hel,hs'⟩:=Option.bind_eq_some_iff.1 he
          cases hs'
          have hcok:∀ j u,(s.ev v).cells[j]?=some u→COk φ w h u ((a.eval v').cells.getD j undef):=by
            cases hvv:s.ev v with
            | agg ds=>
              rw [hvv] at vv
              obtain ⟨cc,f2,hs,hall⟩:=vv.agg_inv
              intro j u hj
              rw [f2];exact hall j u hj
            | tup ds=>rw [hvv] at e2;simp [V.cells,frzs,frzL] at e2
            | no=>rw [hvv] at e2;simp [V.cells,frzs,frzL] at e2
            | bz=>rw [hvv] at e2;simp [V.cells,frzs,frzL] at e2
            | bt n=>rw [hvv] at e2;simp [V.cells,frzs,frzL] at e2
            | _=>rw [hvv] at vv;exact (vv.cells_ok (by simp [V.cells,isLeaf])).2
          have hsz:(a.eval v').cells.size=z:=by
            cases hvv:s.ev v with
            | agg ds=>
              rw [hvv] at vv hlen
              obtain ⟨cc,f2,hs,hall⟩:=vv.agg_inv
              rw [f2];show cc.size=z;rw [hs];exact hlen
            | tup ds=>rw [hvv] at e2;simp [V.cells,frzs,frzL] at e2
            | bz=>rw [hvv] at e2;simp [V.cells,frzs,frzL] at e2
            | bt n=>rw [hvv] at e2;simp [V.cells,frzs,frzL] at e2
            | no=>rw [hvv] at e2;simp [V.cells,frzs,frzL] at e2
            | _=>rw [hvv] at vv hlen;exact ((vv.cells_ok (by simp [V.cells,isLeaf])).1).trans hlen
          obtain ⟨h1,F,l1,p1⟩:=aof _ (fun j=>(a.eval v').cells.getD j undef) S hcok e2
          have hx:=aae hr (by simp)
          have hg1:h1.G id=some g:=by rw [F.G];exact hg
          obtain ⟨g',hg',hrw⟩:=F.sim.r id z' false xs hx
          rw [hg1] at hg';cases hg'
          have hmp:=vx.ep_mp hg
          obtain ⟨k1,k2,k3,k4⟩:=hrw.cells hmp
          rw [hl] at k4
          obtain ⟨cc,T,fr,q1,q2,q3,q4,q5,q6,q7⟩:=k4
          have hlx:idx<xs.length:=by omega
          have hex:xs[idx]?=some (xs.getD idx .no):=by rw [List.getD_eq_getElem?_getD,List.getElem?_eq_getElem hlx];rfl
          have hez:=k3 _ (List.mem_of_getElem? hex)
          obtain ⟨m1,m2⟩:=an8 hel (fun u hu=>by
            obtain ⟨j,hj⟩:=List.getElem?_of_mem hu
            exact (p1 j u hj).1.leaf.1)
          rw [l1,hlen,hez] at m1
          have hrow:idx*z'+z'≤cc.size:=by
            rw [q2]
            have:(idx+1)*z'≤cap*z':=Nat.mul_le_mul_right _ (by omega)
            rw [Nat.add_mul] at this
            omega
          have e3:(a.eval v').cells.toList.length=z:=by simpa using hsz
          obtain ⟨w',hrun,U⟩:=aid (P:=P) (t:=t) (b:=b) (o:=idx*g.z+off) (a.eval v') (by rw [hz,hsz]) q1 (by rw [hsz,k1];omega) (fun j h2 h3=>q5 rfl j (by rw [hsz,k1] at h3;omega)) (by
            intro y hy
            obtain ⟨j,hj⟩:=List.getElem?_of_mem hy
            have hj':j<cs.length:=by rw [l1,hlen,← e3];exact (List.getElem?_eq_some_iff.1 hj).1
            obtain ⟨u,hu⟩:∃ u,cs[j]?=some u:=⟨_,List.getElem?_eq_getElem hj'⟩
            have:=(p1 j u hu).2
            rw [Array.getD_eq_getD_getElem?] at this
            simp only [Array.getElem?_toList] at hj
            rw [hj] at this
            exact this)
          refine Stp.skip (h':=h1) (w':=w') ?_ ?_
          · simp [execOp,ho,f1,Instr.storeAt,Instr.sureAddr,hrun]
          · rw [hd]
            refine F.sim.setRow hx hg1 hl U fun hle'=>?_
            have hset:∀ y,y ∈ xs.set idx e'→y.cells.length=z':=by
              intro y hy
              rcases List.mem_or_eq_of_mem_set hy with hy | rfl
              · exact k3 y hy
              · rw [m2,abb];exact hez
            refine .inl ⟨hmp,k1,by rw [List.length_set];exact k2,hset,?_⟩
            rw [hl]
            refine ⟨_,T,fr,U.new,by rw [U.len];exact q2,by rw [List.length_set];exact q3,⟨q4.1,fun n hn=>(List.mem_or_eq_of_mem_set hn).elim (q4.2.1 n) fun h=>absurd h.symm (aql hel (amy _ e2) n),q4.2.2⟩,by rw [U.len];exact q5,(fun e=>nomatch e),fun j u hj=>?_⟩
            have hjl:j<(xs.set idx e').length*z':=by rw [← aaf hset];exact (List.getElem?_eq_some_iff.1 hj).1
            rw [List.length_set] at hjl
            have hz0:0<z':=Nat.pos_of_ne_zero (fun e=>by rw [e] at hjl;omega)
            obtain ⟨i,r,rfl,hr'⟩:∃ i r,j=i*z'+r∧r<z':=⟨j / z',j % z',by rw [Nat.mul_comm];exact (Nat.div_add_mod j z').symm,Nat.mod_lt _ hz0⟩
            have hi':i<xs.length:=by
              rcases Nat.lt_or_ge i xs.length with h8 | h8
              · exact h8
              · have:=Nat.mul_le_mul_right z' h8;omega
            by_cases hii:i=idx
            · subst hii
              have hge:(xs.set i e')[i]?=some e':=by rw [List.getElem?_set];simp [hi']
              rw [adx hset hge hr',m2] at hj
              by_cases hin:off≤r∧r<off+z
              · obtain ⟨r',rfl⟩:∃ r',r=off+r':=⟨r - off,by omega⟩
                rw [aft _ _ _ _ (by rw [l1,hlen,hez];omega) (by rw [l1,hlen];omega)] at hj
                have:=p1 r' u hj
                have hgd:(arrSet cc (i*g.z+off) (a.eval v').cells.toList).getD (i*z'+(off+r')) undef=(a.eval v').cells.getD r' undef:=by
                  rw [Array.getD_eq_getD_getElem?,Array.getD_eq_getD_getElem?,k1,show i*z'+(off+r')=i*z'+off+r' by omega,aci _ _ _ _ (by rw [e3];omega) (by rw [e3];omega)]
                  simp
                rw [hgd]
                exact ⟨this.1.mono hle'.kp hle'.p,this.2⟩
              · rw [adl _ _ _ _ (by rw [l1,hlen];exact hin)] at hj
                have:=q7 (i*z'+r) u ((adx k3 hex hr').trans hj)
                have hgd:(arrSet cc (i*g.z+off) (a.eval v').cells.toList).getD (i*z'+r) undef=cc.getD (i*z'+r) undef:=by
                  rw [Array.getD_eq_getD_getElem?,Array.getD_eq_getD_getElem?,k1,aaq _ _ _ _ (by rw [e3];omega)]
                rw [hgd]
                exact ⟨this.1.mono hle'.kp hle'.p,this.2⟩
            · have hexi:xs[i]?=some (xs.getD i .no):=by rw [List.getD_eq_getElem?_getD,List.getElem?_eq_getElem hi'];rfl
              have hge:(xs.set idx e')[i]?=some (xs.getD i .no):=by rw [List.getElem?_set_ne (fun e=>hii e.symm)];exact hexi
              rw [adx hset hge hr'] at hj
              have:=q7 (i*z'+r) u ((adx k3 hexi hr').trans hj)
              have hgd:(arrSet cc (idx*g.z+off) (a.eval v').cells.toList).getD (i*z'+r) undef=cc.getD (i*z'+r) undef:=by
                rw [Array.getD_eq_getD_getElem?,Array.getD_eq_getD_getElem?,k1,aaq _ _ _ _ (by
                  rw [e3]
                  rcases Nat.lt_or_ge i idx with h8 | h8
                  · have:=Nat.mul_le_mul_right z' (show i+1≤idx by omega);rw [Nat.add_mul] at this;omega
                  · have:=Nat.mul_le_mul_right z' (show idx+1≤i by omega);rw [Nat.add_mul] at this;omega)]
              rw [hgd]
              exact ⟨this.1.mono hle'.kp hle'.p,this.2⟩
        · cases he
      · cases he
    · cases he
end
end Go.VS
end
section
namespace Go.VS
open Go
section
variable {φ:Nat→FuncId} {N:Env} {c:Cx} {s:St} {a:Act} {w:World} {h:Gh} {P:Program} {o:Oper}
theorem Sim.newBlk (S:Sim φ N c s a w h) {d:Nat} {cs:List V} {cc:Array Value} (T:TypeId) (hs:cc.size=cs.length) (hbz:∀ j,cs[j]?=some .bz→Ub N.P T∧cc.size=2∧j=0) (hv:∀ j v,cs[j]?=some v→COk φ w h v (cc.getD j undef)):
    ∃ h',Sim φ N c ⟨s.t.set d (.ptr s.m.length 0),s.m++[cs],s.r⟩ (a.put (some d) (.pointer (some ⟨w.heap.size,0,none⟩))) (w.alloc (.cells cc T)) h':=by
  obtain ⟨S1,F⟩:=S.alloc (.cells cc T)
  have hle:h.Le h w (w.alloc (.cells cc T)):=.fr (.alloc (fun _ _=>False) w _) S.pl fun b o x=>⟨fun e=>e,S.rb b o x⟩
  have S2:=S1.addBlk F (cs:=cs) ⟨cc,T,(0,0),heap_alloc_new w _,by omega,fun j v hj=>by rw [Nat.zero_add];exact (hv j v hj).mono hle,fun _=>rfl,fun j hj=>by rw [Nat.zero_add];exact hbz j hj⟩
  refine ⟨_,S2.put (v:=.ptr s.m.length 0) ?_⟩
  have:=KOk.ptr (φ:=φ) (w:=w.alloc (.cells cc T)) (h:={ h with B:=fun k=>if k=s.m.length then some (w.heap.size,0,cs.length) else h.B k }) s.m.length 0 w.heap.size 0 cs.length (by simp)
  exact .k this
theorem Sim.newRow (S:Sim φ N c s a w h) {d z cap:Nat} {es:List V} {cc:Array Value} (T:TypeId) (fr:Nat × Nat) (hz:∀ x,x ∈ es→x.cells.length=z) (hs:cc.size=cap*z) (hc:es.length≤cap) (hm:cap≤maxLen) (hbt:∀ n,V.bt n ∈ es→U8 N.P T)
    (hf:∀ o,o<cc.size→¬ (fr.1≤o∧o<fr.2)) (hv:∀ j v,(flat es)[j]?=some v→POk w h.Rp v (cc.getD j undef)∧(cc.getD j undef).oneCell'=true) (hfr:z≠1→fr=(0,0):=by first | (intro _;rfl) | (intro e;exact absurd rfl e)):
    ∃ h',Sim φ N c (s.new d z es) (a.put (some d) (.slice (some ⟨w.heap.size,0,none⟩) es.length cap)) (w.alloc (.cells cc T fr)) h':=by
  obtain ⟨S1,F⟩:=S.alloc (.cells cc T fr)
  have hle:h.Le h w (w.alloc (.cells cc T fr)):=.fr (.alloc (fun _ _=>False) w _) S.pl fun b o x=>⟨fun e=>e,S.rb b o x⟩
  have S2:=S1.addRow (z:=z) (xs:=es) (g:=⟨z,es.length,some (w.heap.size,cap),false⟩) (fun b cap' e=>by cases e;exact F)
    (.inl ⟨rfl,rfl,rfl,hz,cc,T,fr,heap_alloc_new w _,hs,hc,⟨hm,hbt,fun hz1 _=>hfr hz1⟩,fun _=>hf,(fun e=>nomatch e),fun j v hj=>⟨(hv j v hj).1.mono hle.kp hle.p,(hv j v hj).2⟩⟩)
  refine ⟨_,S2.put (v:=.sl s.r.length 0 es.length false) (.k (.sl _ 0 _ false _ cap ⟨z,es.length,some (w.heap.size,cap),false⟩ (by simp) (by simp) hc (fun e=>nomatch e) ?_ ⟨0,rfl⟩ rfl))⟩
  simp
theorem Sim.newNone (S:Sim φ N c s a w h) {d:Nat} (z:Nat):∃ h',Sim φ N c (s.new d z []) (a.put (some d) (.slice none 0 0)) w h':=by
  have S2:=S.addRow (z:=z) (xs:=[]) (g:=⟨z,0,none,false⟩) (fun b cap' e=>by cases e) (.inl ⟨rfl,rfl,rfl,fun x hx=>by simp at hx,rfl⟩)
  refine ⟨_,S2.put (v:=.sl s.r.length 0 0 false) (.k (.sl _ 0 _ false _ 0 ⟨z,0,none,false⟩ (by simp) (by simp) (Nat.le_refl _) (fun e=>nomatch e) ?_ rfl rfl))⟩
  simp
def mVs:List V→List Value→Bool
  | [],[]=>true
  | v :: vs,x :: xs=>mV v x && isLeaf v && x.oneCell' && mVs vs xs
  | _,_=>false
theorem mVs_ok:∀ {vs:List V} {xs:List Value},mVs vs xs=true→vs.length=xs.length∧∀ j v,vs[j]?=some v→COk φ w h v (xs.getD j undef)
  | [],[],_=>⟨rfl,fun j v hj=>by simp at hj⟩
  | v :: vs,x :: xs,hm=>by
    simp only [mVs,Bool.and_eq_true] at hm
    obtain ⟨⟨⟨h1,h2⟩,h3⟩,h4⟩:=hm
    obtain ⟨l,p⟩:=mVs_ok (vs:=vs) (xs:=xs) h4
    refine ⟨by simp [l],fun j u hj=>?_⟩
    cases j with
    | zero=>
      cases hj
      refine ⟨?_,h3⟩
      cases mV_ok (φ:=φ) (w:=w) (h:=h) h1 with
      | k hk=>exact hk
      | agg=>simp [isLeaf] at h2
      | tup=>simp [isLeaf] at h2
    | succ j=>exact p j u (by simpa using hj)
  | [],_ :: _,hm=>by simp [mVs] at hm
  | _ :: _,[],hm=>by simp [mVs] at hm
theorem apw:∀ {vs:List V} {xs:List Value},mVs vs xs=true→∀ j:Nat,vs[j]?≠some V.bz
  | [],[],_,j=>by simp
  | v :: vs,x :: xs,hm,j=>by
    simp only [mVs,Bool.and_eq_true] at hm
    intro hj
    cases j with
    | zero=>
      rw [List.getElem?_cons_zero] at hj
      cases hj
      have:=hm.1.1.2
      simp [isLeaf] at this
    | succ j=>exact apw hm.2 j (by simpa using hj)
  | [],_ :: _,hm,_=>by simp [mVs] at hm
  | _ :: _,[],hm,_=>by simp [mVs] at hm
theorem avn {d:Nat} {t:TypeId} {i:TypeInfo} {zv:Value} (hd:o.dst=some d) (ho:o.op=.alloc t) (hi:P.info? t=some i) (hi2:P.types[t]?=some i) (hiz:i.zero=some zv) (hb:isBld i.desc=true) (hc:zv.cells=#[.pointer none,.slice none 0 0]):OpOk P φ o (.alc d [.bz,.nil]):=by
  intro N hNP c s s' a w h S he
  cases he
  obtain ⟨h',S'⟩:=S.newBlk (d:=d) (cs:=[.bz,.nil]) (cc:=zv.cells) t (by rw [hc];rfl) (fun j hj=>by
    cases j with
    | zero=>exact ⟨⟨i,by rw [hNP];exact hi2,hb⟩,by rw [hc];rfl,rfl⟩
    | succ j=>cases j <;> simp at hj) (fun j v hj=>by
    rw [hc]
    cases j with
    | zero=>cases hj;exact ⟨.l (.pl .bz),rfl⟩
    | succ j=>cases j with
      | zero=>cases hj;exact ⟨.l (.pl .nil),rfl⟩
      | succ j=>simp at hj)
  refine Stp.value (h':=h') (w':=w.alloc (.cells zv.cells t)) ?_ (by rw [hd];exact S')
  simp only [execOp,ho,Instr.alloc,zeroValue,typeInfo,Sem.run_bind,run_program,Result.andThen_ok,hi,Sem.run_pure,hiz,newVar,newRow]
  rfl
theorem ok_alc {d:Nat} {zs:List V} {t:TypeId} {zv:Value} (hd:o.dst=some d) (ho:o.op=.alloc t) (hz:(P.info? t).bind (·.zero)=some zv) (hm:mVs zs zv.cells.toList=true):OpOk P φ o (.alc d zs):=by
  intro N hNP c s s' a w h S he
  cases he
  obtain ⟨i,hi,hiz⟩:=Option.bind_eq_some_iff.1 hz
  obtain ⟨l,p⟩:=mVs_ok (φ:=φ) (w:=w) (h:=h) hm
  obtain ⟨h',S'⟩:=S.newBlk (d:=d) (cs:=zs) (cc:=zv.cells) t (by simpa using l.symm) (fun j hj=>absurd hj (apw hm j)) (fun j v hj=>by
    have:=p j v hj
    rw [Array.getD_eq_getD_getElem?]
    simpa [List.getD_eq_getElem?_getD] using this)
  refine Stp.value (h':=h') (w':=w.alloc (.cells zv.cells t)) ?_ (by rw [hd];exact S')
  simp only [execOp,ho,Instr.alloc,zeroValue,typeInfo,Sem.run_bind,run_program,Result.andThen_ok,hi,Sem.run_pure,hiz,newVar,newRow]
  rfl
theorem ok_box {d:Nat} {x:X} {t:TypeId} {x':Operand} (hd:o.dst=some d) (hx:mX φ x x'=true) (ho:o.op=.box t x'):OpOk P φ o (.box d x):=by
  intro N hNP c s s' a w h S he
  have vx:=mX_ok S hx
  simp only [evI] at he
  split at he
  · rename_i hl
    cases he
    obtain ⟨k1,k2⟩:=vx.cells_ok hl
    obtain ⟨h',S'⟩:=S.newBlk (d:=d) (cs:=(s.ev x).cells) (cc:=(a.eval x').cells) t k1 (fun j hj=>by have:=List.all_eq_true.1 hl _ (List.mem_of_getElem? hj);simp [isLeaf] at this) k2
    refine Stp.value (h':=h') (w':=w.alloc (.cells (a.eval x').cells t)) ?_ (by rw [hd];exact S')
    simp only [execOp,ho,Instr.box,newVar,newRow,Sem.run_bind,Result.andThen_ok,Sem.run_pure]
    rfl
  · cases he
theorem ok_fld {d off z:Nat} {ag:Bool} {x:X} {t:TypeId} {x':Operand} {i:Nat} {fs:Array Field} {fd:Field} (hd:o.dst=some d) (hx:mX φ x x'=true) (ho:o.op=.field t x' i)
    (ht:P.underlying t=some (.struct fs)) (hf:fs[i]?=some fd) (hoff:fd.offset=off) (hz:szT P fd.type=some z) (ha:agT P fd.type=some ag):OpOk P φ o (.fld d x off z ag):=by
  intro N hNP c s s' a w h S he
  have vx:=mX_ok S hx
  simp only [evI] at he
  split at he
  · rename_i cs e1
    rw [e1] at vx
    obtain ⟨v,hv,rfl⟩:=Option.map_eq_some_iff.1 he
    obtain ⟨part,hp,hm⟩:=Option.bind_eq_some_iff.1 hv
    obtain ⟨cc,f1,hs,hall⟩:=vx.agg_inv
    obtain ⟨hlen,hget⟩:=ac9 hp
    have hle:off+z≤cc.size:=by
      unfold range at hp
      split at hp
      · rename_i hle;rw [hs];exact hle
      · cases hp
    cases ag with
    | true=>
      cases hm
      refine Stp.val S hd (cv:=.agg (cc.extract off (off+z))) ?_ (.agg part _ (by simp;omega) fun j u hj=>?_)
      · simp [execOp,ho,f1,Instr.field,run_underlying ht,hf,asAgg,ahr ha,acf hz,hoff,Go.part]
      · have hj':j<z:=by rw [← hlen];exact (List.getElem?_eq_some_iff.1 hj).1
        rw [hget j hj'] at hj
        have:=hall _ u hj
        rw [Array.getD_eq_getD_getElem?] at this ⊢
        rw [Array.getElem?_extract]
        simpa [show j<min (off+z) cc.size - off by omega] using this
    | false=>
      have h1:=ar1 hm rfl
      have hz1:z=1:=by omega
      subst hz1
      have hk:VOk φ w h v (cc.getD off undef):=by
        have:=mkV_ok (f:=fun j=>cc.getD (off+j) undef) hm fun j u hj=>by
          have hj':j<1:=by rw [← hlen];exact (List.getElem?_eq_some_iff.1 hj).1
          rw [hget j hj'] at hj
          exact hall _ u hj
        simpa using this
      obtain ⟨y,hy⟩:∃ y,cc[off]?=some y:=⟨_,Array.getElem?_eq_getElem (by omega)⟩
      rw [Array.getD_eq_getD_getElem?,hy,Option.getD_some] at hk
      refine Stp.val S hd (cv:=y) ?_ hk
      simp only [execOp,ho,f1,Instr.field,Sem.run_bind,run_underlying ht,Result.andThen_ok,hf,asAgg,Sem.run_pure,Go.part,ahr ha,hoff,hy]
      simp
  · cases he
theorem ok_mkf {d f:Nat} {caps:List X} {g:FuncId} {caps':Array Operand} (hd:o.dst=some d) (hx:caps.length=caps'.size) (hm:∀ (j:Nat) (x:X) (y:Operand),caps[j]?=some x→caps'[j]?=some y→mX φ x y=true)
    (hf:φ f=g) (ho:o.op=.makeFunc (.func g) #[] caps'):OpOk P φ o (.mkf d f caps):=by
  intro N hNP c s s' a w h S he
  simp only [evI] at he
  split at he
  · rename_i hk
    cases he
    subst hf
    refine Stp.val S hd (cv:=.func (.func (φ f)) #[] (caps'.map a.eval)) ?_ (.k (.fn f _ _ (by simp [hx]) fun j v hj=>?_))
    · simp [execOp,ho,Instr.makeFunc] <;> rfl
    · have hcap:=List.all_eq_true.1 hk v (List.mem_of_getElem? hj)
      obtain ⟨x,hx1,rfl⟩:∃ x,caps[j]?=some x∧s.ev x=v:=by
        rw [List.getElem?_map] at hj
        obtain ⟨x,h1,h2⟩:=Option.map_eq_some_iff.1 hj
        exact ⟨x,h1,h2⟩
      have hlt:j<caps'.size:=by rw [← hx];exact (List.getElem?_eq_some_iff.1 hx1).1
      have hv:=mX_ok S (hm j x _ hx1 (Array.getElem?_eq_getElem hlt))
      rw [Array.getD_eq_getD_getElem?]
      simp only [Array.getElem?_map,Array.getElem?_eq_getElem hlt,Option.map_some,Option.getD_some]
      cases hvv:s.ev x <;> rw [hvv] at hv hcap <;> first
          | (cases hv with | k hk=>exact hk)
          | (simp [isCap] at hcap)
  · cases he
theorem anq (d:Nat) (t e:TypeId) (b:Option Addr) (hu:P.underlying t=some (.pointer e)):(Op.equalIn (d+1) t (.pointer none) (.pointer b)).run P w=.ok b.isNone w:=by
  simp only [Op.equalIn,Sem.run_bind,run_underlying hu,Result.andThen_ok];rfl
theorem anr (d:Nat) (t e:TypeId) (b:Addr) (hu:P.underlying t=some (.pointer e)):(Op.equalIn (d+1) t (.pointer (some b)) (.pointer none)).run P w=.ok false w:=by
  simp only [Op.equalIn,Sem.run_bind,run_underlying hu,Result.andThen_ok];rfl
theorem ans (d:Nat) (t e:TypeId) (b:Option Addr) (n k:Nat) (hu:P.underlying t=some (.slice e)):(Op.equalIn (d+1) t (.slice none 0 0) (.slice b n k)).run P w=.ok b.isNone w:=by
  simp only [Op.equalIn,Sem.run_bind,run_underlying hu,Result.andThen_ok];rfl
theorem ant (d:Nat) (t e:TypeId) (b:Addr) (n k:Nat) (hu:P.underlying t=some (.slice e)):(Op.equalIn (d+1) t (.slice (some b) n k) (.slice none 0 0)).run P w=.ok false w:=by
  simp only [Op.equalIn,Sem.run_bind,run_underlying hu,Result.andThen_ok];rfl
theorem aqv (d:Nat) (t:TypeId) (p q:Array TypeId) (b:Bool) (u v:Value) (r:Bool) (hu:P.underlying t=some (.func p q b))
    (h3:u=.nilFunc∧v=.nilFunc∧r=true∨u=.nilFunc∧(∃ f p q,v=.func f p q)∧r=false∨(∃ f p q,u=.func f p q)∧v=.nilFunc∧r=false):(Op.equalIn (d+1) t u v).run P w=.ok r w:=by
  rcases h3 with ⟨rfl,rfl,rfl⟩ | ⟨rfl,⟨f,p',q',rfl⟩,rfl⟩ | ⟨⟨f,p',q',rfl⟩,rfl,rfl⟩ <;>
    (simp only [Op.equalIn,Sem.run_bind,run_underlying hu,Result.andThen_ok];rfl)
theorem fin_eq (S:Sim φ N c s a w h) {d:Nat} {neq r:Bool} {t t':TypeId} {x' y':Operand} (hd:o.dst=some d) (ho:o.op=.binOp (if neq then .neq else .eql) t x' y' t')
    (h1:(Op.equal t (a.eval x') (a.eval y')).run P w=.ok r w) (h2:∀ cs ds,¬ (a.eval x'=.agg cs∧a.eval y'=.agg ds)) (h3:¬ (a.eval x'=.nilIface∧a.eval y'=.nilIface))
    (h4:binOp .eql t (a.eval x') (a.eval y')=(do pure (.bool (← Op.equal t (a.eval x') (a.eval y'))))) (h5:binOp .neq t (a.eval x') (a.eval y')=(do pure (.bool (!(← Op.equal t (a.eval x') (a.eval y')))))):Stp P φ N c o (s.put d (.b (r ^^ neq))) a w:=by
  refine Stp.val S hd (cv:=.bool (r ^^ neq)) ?_ (.mkb _)
  have g:=aeq (P:=P) (op:=if neq then .neq else .eql) (t:=t) (x:=x') (y:=y') (w:=w) h3 h2
  cases neq <;> simp only [Bool.false_eq_true,if_false,if_true] at g ho <;>
    (simp only [execOp,ho,Sem.run_bind,g,Result.andThen_ok,h4,h5,h1,Sem.run_pure];simp)
theorem ok_eqn {d k:Nat} {neq:Bool} {x y:X} {t t':TypeId} {x' y':Operand} (hd:o.dst=some d) (hx:mX φ x x'=true) (hy:mX φ y y'=true) (ho:o.op=.binOp (if neq then .neq else .eql) t x' y' t')
    (ht:(k=0→∃ e,P.underlying t=some (.pointer e))∧(k=1→∃ e,P.underlying t=some (.slice e))∧(k=2→∃ p q b,P.underlying t=some (.func p q b))):OpOk P φ o (.eqn d k neq x y):=by
  intro N hNP c s s' a w h S he
  have vx:=mX_ok S hx
  have vy:=mX_ok S hy
  simp only [evI] at he
  obtain ⟨r,hr,rfl⟩:=Option.map_eq_some_iff.1 he
  obtain ⟨t0,t1,t2⟩:=ht
  have ptr_l:∀ v,k=0→a.eval x'=.pointer none→a.eval y'=.pointer v→r=v.isNone→Stp P φ N c o (s.put d (.b (r ^^ neq))) a w:=by
    rintro v hk h1 h2 rfl
    obtain ⟨e,hu⟩:=t0 hk
    exact fin_eq S hd ho (by rw [h1,h2];exact anq 9999 t e v hu) (by rw [h1];simp) (by rw [h1];simp) (by rw [h1,h2];rfl) (by rw [h1,h2];rfl)
  have ptr_r:∀ v,k=0→a.eval x'=.pointer (some v)→a.eval y'=.pointer none→r=false→Stp P φ N c o (s.put d (.b (r ^^ neq))) a w:=by
    rintro v hk h1 h2 rfl
    obtain ⟨e,hu⟩:=t0 hk
    exact fin_eq S hd ho (by rw [h1,h2];exact anr 9999 t e v hu) (by rw [h1];simp) (by rw [h1];simp) (by rw [h1,h2];rfl) (by rw [h1,h2];rfl)
  have slc_l:∀ v n m,k=1→a.eval x'=.slice none 0 0→a.eval y'=.slice v n m→r=v.isNone→Stp P φ N c o (s.put d (.b (r ^^ neq))) a w:=by
    rintro v n m hk h1 h2 rfl
    obtain ⟨e,hu⟩:=t1 hk
    exact fin_eq S hd ho (by rw [h1,h2];exact ans 9999 t e v n m hu) (by rw [h1];simp) (by rw [h1];simp) (by rw [h1,h2];rfl) (by rw [h1,h2];rfl)
  have slc_r:∀ v n m,k=1→a.eval x'=.slice (some v) n m→a.eval y'=.slice none 0 0→r=false→Stp P φ N c o (s.put d (.b (r ^^ neq))) a w:=by
    rintro v n m hk h1 h2 rfl
    obtain ⟨e,hu⟩:=t1 hk
    exact fin_eq S hd ho (by rw [h1,h2];exact ant 9999 t e v n m hu) (by rw [h1];simp) (by rw [h1];simp) (by rw [h1,h2];rfl) (by rw [h1,h2];rfl)
  have fun_f:∀ (u v:Value),k=2→a.eval x'=u→a.eval y'=v→(u=.nilFunc∧v=.nilFunc∧r=true∨u=.nilFunc∧(∃ f p q,v=.func f p q)∧r=false∨(∃ f p q,u=.func f p q)∧v=.nilFunc∧r=false) →
      Stp P φ N c o (s.put d (.b (r ^^ neq))) a w:=by
    rintro u v hk h1 h2 h3
    obtain ⟨p,q,b,hu⟩:=t2 hk
    refine fin_eq S hd ho (by rw [h1,h2];exact aqv 9999 t p q b u v r hu h3) ?_ ?_ ?_ ?_ <;> rw [h1,h2] <;>
      (rcases h3 with ⟨rfl,rfl,rfl⟩ | ⟨rfl,⟨f,p',q',rfl⟩,rfl⟩ | ⟨⟨f,p',q',rfl⟩,rfl,rfl⟩ <;> first | rfl | simp)
  have vw:∀ {q:Bool} {z:Nat} {v:V} {vs:List V} {y:Value},VOk φ w h (.view q (z+1) (v :: vs)) y→∃ A n cap,y=.slice (some A) n cap:=by
    intro q z v vs y hv
    obtain ⟨A,cap,f,rfl,_,h3,h4,_⟩:=hv.view_inv
    obtain ⟨b,p,rfl,_⟩:=h4 (by rw [aa3,List.length_append,h3 v (by simp)];omega)
    exact ⟨_,_,_,rfl⟩
  have sv:∀ {id lo n:Nat} {tg:Bool} {y:Value},VOk φ w h (.sl id lo (n+1) tg) y→∃ A n cap,y=.slice (some A) n cap:=by
    intro id lo n tg y hv
    obtain ⟨A,cap,g,rfl,hg,h2,h3,h4,h5⟩:=hv.sl_inv
    cases hl:g.loc with
    | none=>rw [hl] at h5;simp only at h5;omega
    | some bc=>
      rw [hl] at h5
      simp only at h5
      rw [h5.2 (by omega)]
      exact ⟨_,_,_,rfl⟩
  unfold eqNil at hr
  split at hr <;> (try cases hr) <;> (rename_i e1 e2;rw [e1] at vx;rw [e2] at vy)
  · exact ptr_l _ rfl vx.np_inv vy.np_inv rfl
  · obtain ⟨_,_,_,_,f2⟩:=vy.ptr_inv;exact ptr_l _ rfl vx.np_inv f2 rfl
  · obtain ⟨_,_,_,_,_,_,f2⟩:=vy.ep_inv;exact ptr_l _ rfl vx.np_inv f2 rfl
  · obtain ⟨_,_,_,f2,_⟩:=vy.vp_inv;exact ptr_l _ rfl vx.np_inv f2 rfl
  · obtain ⟨_,_,_,_,f2⟩:=vx.ptr_inv;exact ptr_r _ rfl f2 vy.np_inv rfl
  · obtain ⟨_,_,_,_,_,_,f2⟩:=vx.ep_inv;exact ptr_r _ rfl f2 vy.np_inv rfl
  · obtain ⟨_,_,_,f2,_⟩:=vx.vp_inv;exact ptr_r _ rfl f2 vy.np_inv rfl
  · exact slc_l _ _ _ rfl vx.nil_inv vy.nil_inv rfl
  · obtain ⟨_,_,_,f2⟩:=vw vy;exact slc_l _ _ _ rfl vx.nil_inv f2 rfl
  · obtain ⟨_,_,_,f2⟩:=sv vy;exact slc_l _ _ _ rfl vx.nil_inv f2 rfl
  · obtain ⟨_,_,_,f2⟩:=vw vx;exact slc_r _ _ _ rfl f2 vy.nil_inv rfl
  · obtain ⟨_,_,_,f2⟩:=sv vx;exact slc_r _ _ _ rfl f2 vy.nil_inv rfl
  · exact fun_f _ _ rfl vx.nf_inv vy.nf_inv (.inl ⟨rfl,rfl,rfl⟩)
  · obtain ⟨_,f2,_⟩:=vy.fn_inv;exact fun_f _ _ rfl vx.nf_inv f2 (.inr (.inl ⟨rfl,⟨_,_,_,rfl⟩,rfl⟩))
  · obtain ⟨_,f2,_⟩:=vx.fn_inv;exact fun_f _ _ rfl f2 vy.nf_inv (.inr (.inr ⟨⟨_,_,_,rfl⟩,rfl,rfl⟩))
end
end Go.VS
end
section
namespace Go.VS
open Go
theorem aia (off:Nat):∀ (vs:List Value) (k:Nat) (cells:Array Value),(vs.zipIdx k).foldl (fun cs (p:Value × Nat)=>cs.setIfInBounds (off+p.2) p.1) cells=arrSet cells (off+k) vs
  | [],_,_=>rfl
  | v :: vs,k,cells=>by
    rw [List.zipIdx_cons,List.foldl_cons,aia off vs (k+1),arrSet]
    rfl
theorem amt {place:Nat→Option (Nat × Nat)} {cells:Array Value} {i off z:Nat} {v:Value} {rest:List (Nat × Value)} (hp:place i=some (off,z)) (hs:v.cells.size=z) (hl:off+z≤cells.size):
    Instr.fill place cells ((i,v) :: rest)=Instr.fill place (arrSet cells off v.cells.toList) rest:=by
  simp only [Instr.fill,hp]
  rw [if_neg (by simp [hs];omega)]
  congr 1
  have:=aia off v.cells.toList 0 cells
  rw [Nat.add_zero] at this
  rw [← this,← Array.foldl_toList,Array.toList_zipIdx]
def placesOf (P:Program) (t:TypeId):Option (Nat→Option (Nat × Nat)):=
  match P.underlying t with
  | some (.array _ e)=>(P.info? e).map fun ie i=>some (i*ie.size,ie.size)
  | some (.struct fields)=>(fields.toList.mapM (fun f=>(P.info? f.type).map fun i=>(f.offset,i.size))).map fun places=>(places.toArray[·]?)
  | _=>none
def mPs (φ:Nat→FuncId) (place:Nat→Option (Nat × Nat)):List (Nat × Nat × X)→List (Nat × Operand)→Bool
  | [],[]=>true
  | (off,z,x) :: ps,(i,y) :: qs=>(place i == some (off,z)) && mX φ x y && mPs φ place ps qs
  | _,_=>false
theorem aaa (cc:Array Value) (j:Nat):cc.getD j undef=(cc[j]?).getD undef:=Array.getD_eq_getD_getElem? ..
theorem list_getElem?_arr (cc:Array Value) (j:Nat):cc.toList[j]?=cc[j]?:=by simp
section
variable {φ:Nat→FuncId} {N:Env} {c:Cx} {s:St} {a:Act} {w:World} {h:Gh} {P:Program} {o:Oper}
theorem aq3 (S:Sim φ N c s a w h) {place:Nat→Option (Nat × Nat)}:∀ (ps:List (Nat × Nat × X)) (qs:List (Nat × Operand)) (cs:List V) (cc:Array Value) (v:V),mPs φ place ps qs=true→cc.size=cs.length →
    (∀ j u,cs[j]?=some u→COk φ w h u (cc.getD j undef))→bldV s cs ps=some v→∃ cc',Instr.fill place cc (qs.map fun (i,x)=>(i,a.eval x))=some cc'∧VOk φ w h v (.agg cc')
  | [],[],cs,cc,v,_,hs,hall,he=>by cases he;exact ⟨cc,rfl,.agg cs cc hs hall⟩
  | [],_ :: _,_,_,_,hm,_,_,_=>by simp [mPs] at hm
  | _ :: _,[],_,_,_,hm,_,_,_=>by simp [mPs] at hm
  | (off,z,x) :: ps,(i,y) :: qs,cs,cc,v,hm,hs,hall,he=>by
    simp only [mPs,Bool.and_eq_true,beq_iff_eq] at hm
    obtain ⟨⟨m1,m2⟩,m3⟩:=hm
    simp only [bldV] at he
    split at he
    · rename_i hc
      obtain ⟨hl,hz,hle⟩:=hc
      obtain ⟨k1,k2⟩:=(mX_ok S m2).cells_ok hl
      obtain ⟨cc',r1,r2⟩:=aq3 S ps qs (setAt cs off (s.ev x).cells) (arrSet cc off (a.eval y).cells.toList) v m3 (by rw [abp,abb,hs]) (fun j u hj=>by
        rw [aaa]
        by_cases hin:off≤j∧j<off+(s.ev x).cells.length
        · obtain ⟨k,rfl⟩:∃ k,j=off+k:=⟨j - off,by omega⟩
          rw [aft _ _ _ _ (by omega) (by omega)] at hj
          rw [aci _ _ _ _ (by simp;omega) (by simp;omega),list_getElem?_arr,← aaa]
          exact k2 k u hj
        · rw [adl _ _ _ _ hin] at hj
          rw [aaq _ _ _ _ (by simpa [k1] using hin),← aaa]
          exact hall j u hj) he
      refine ⟨cc',?_,r2⟩
      simp only [List.map_cons]
      rw [amt m1 (by omega) (by omega)]
      exact r1
    · cases he
theorem ok_bld {d:Nat} {zs:List V} {ps:List (Nat × Nat × X)} {t:TypeId} {parts:Array (Nat × Operand)} {zv:Value} {place:Nat→Option (Nat × Nat)} (hd:o.dst=some d) (ho:o.op=.build t parts) (hz:(P.info? t).bind (·.zero)=some zv)
    (hm:mVs zs zv.cells.toList=true) (hp:placesOf P t=some place) (hps:mPs φ place ps parts.toList=true):OpOk P φ o (.bld d zs ps):=by
  intro N hNP c s s' a w h S he
  simp only [evI] at he
  obtain ⟨v,hv,rfl⟩:=Option.map_eq_some_iff.1 he
  obtain ⟨l,p⟩:=mVs_ok (φ:=φ) (w:=w) (h:=h) hm
  obtain ⟨cc',r1,r2⟩:=aq3 S ps parts.toList zs zv.cells v hps (by simpa using l.symm) (fun j u hj=>by
    have:=p j u hj
    rw [List.getD_eq_getElem?_getD,list_getElem?_arr,← aaa] at this
    exact this) hv
  refine Stp.val S hd (cv:=.agg cc') ?_ r2
  have hb:P.built t (parts.map fun (i,x)=>(i,a.eval x)).toList=some cc':=by
    obtain ⟨i,hi,hiz⟩:=Option.bind_eq_some_iff.1 hz
    unfold placesOf at hp
    unfold Program.built
    rw [hi]
    cases hu:P.underlying t with
    | none=>rw [hu] at hp;cases hp
    | some dd=>
      rw [hu] at hp
      cases dd <;> simp only at hp ⊢ <;> (try cases hp)
      case array n e=>
        obtain ⟨ie,hie,rfl⟩:=Option.map_eq_some_iff.1 hp
        simp only [hiz,hie]
        simpa using r1
      case struct fs=>
        obtain ⟨pl,hpl,rfl⟩:=Option.map_eq_some_iff.1 hp
        simp only [hiz,hpl]
        simpa using r1
  simp only [execOp,ho,Sem.run_bind,run_build w t _ cc' hb,Result.andThen_ok,Sem.run_pure]
theorem ok_mm {d:Nat} {mx:Bool} {x y:X} {ts:Array TypeId} {x' y':Operand} (hd:o.dst=some d) (hx:mX φ x x'=true) (hy:mX φ y y'=true)
    (ho:o.op=.call { callee:=.builtin (if mx then .max else .min),args:=#[x',y'],argTypes:=ts }):OpOk P φ o (.mm d mx x y):=by
  intro N hNP c s s' a w h S he
  have vx:=mX_ok S hx
  have vy:=mX_ok S hy
  simp only [evI] at he
  obtain ⟨v,hv,rfl⟩:=Option.map_eq_some_iff.1 he
  unfold mmI at hv
  split at hv
  · rename_i k p k' q e1 e2
    rw [e1] at vx;rw [e2] at vy
    split at hv
    · rename_i hk
      subst hk
      cases hv
      refine Stp.val S hd (cv:=.int k (if mx then max p q else min p q)) ?_ (.mki _ _)
      cases mx with
      | true=>
        simp only [if_true] at ho
        simp [execOp,ho,resolve,invoke,builtin,Builtin.max_,vx.i_inv,vy.i_inv,Builtin.max2,Int.max_def]
        split <;> split <;> first | rfl | omega
      | false=>
        simp only [Bool.false_eq_true,if_false] at ho
        simp [execOp,ho,resolve,invoke,builtin,Builtin.min_,vx.i_inv,vy.i_inv,Builtin.min2,Int.min_def]
        split <;> split <;> first | rfl | omega
    · cases hv
  · cases hv
end
end Go.VS
end
section
namespace Go.VS
open Go
section
variable {φ:Nat→FuncId} {N:Env} {c:Cx} {s:St} {a:Act} {w:World} {h:Gh} {P:Program} {o:Oper}
def mXo (φ:Nat→FuncId):Option X→Option Operand→Bool
  | none,none=>true
  | some x,some y=>mX φ x y
  | _,_=>false
theorem asN_ok {v:V} {n:Int} {y:Value} (hv:VOk φ w h v y) (he:asN v=some n):∃ k,y=.int k n:=by
  unfold asN at he
  split at he
  · cases he;exact ⟨_,hv.i_inv⟩
  · cases he
theorem agi {k:IntKind} {i:Int} {y:Nat} {code:BoundsCode} (h0:0≤i) (h1:i≤y):(Instr.sliceBound (.int k i) y code).run P w=.ok i.toNat w:=by
  simp [Instr.sliceBound,asIntOf,h0,h1]
theorem aqu {lo hi:Option Value} {len cap:Nat} {isS:Bool} {li ui:Int} (g1:0≤li) (g2:li≤ui) (g3:ui≤len) (hc:len≤cap) (g4:(∃ k,hi=some (.int k ui))∨(hi=none∧ui=len)) (g5:(∃ k,lo=some (.int k li))∨(lo=none∧li=0)):
    (Instr.sliceBounds isS len cap lo hi none).run P w=.ok (li.toNat,ui.toNat,cap) w:=by
  have r1:∀ (k:IntKind) (code:BoundsCode),(Instr.sliceBound (.int k ui) cap code).run P w=.ok ui.toNat w:=fun k code=>agi (by omega) (by omega)
  have r2:∀ (k:IntKind) (code:BoundsCode),(Instr.sliceBound (.int k li) ui.toNat code).run P w=.ok li.toNat w:=fun k code=>agi (by omega) (by omega)
  rcases g4 with ⟨k,rfl⟩ | ⟨rfl,e4⟩ <;> rcases g5 with ⟨k',rfl⟩ | ⟨rfl,e5⟩
  · simp [Instr.sliceBounds,r1,r2]
  · subst e5;simp [Instr.sliceBounds,r1,r2]
  · subst e4
    simp only [Int.toNat_natCast] at r2
    simp [Instr.sliceBounds,r2]
  · subst e4 e5;simp [Instr.sliceBounds]
theorem aq4 (S:Sim φ N c s a w h) {lo hi:Option X} {lo' hi':Option Operand} (hl:mXo φ lo lo'=true) (hh:mXo φ hi hi'=true) {len cap l u:Nat} (hc:len≤cap) (isS:Bool) (he:bnds len (lo.map s.ev) (hi.map s.ev)=some (l,u)):
    l≤u∧u≤len∧(Instr.sliceBounds isS len cap (lo'.map a.eval) (hi'.map a.eval) none).run P w=.ok (l,u,cap) w:=by
  unfold bnds at he
  split at he
  · rename_i u' l' e1 e2
    split at he
    · rename_i hb
      cases he
      refine ⟨by omega,by omega,aqu hb.1 hb.2.1 hb.2.2 hc ?_ ?_⟩
      · cases hi <;> cases hi' <;> (try (simp [mXo] at hh;done))
        · right;cases e1;exact ⟨rfl,rfl⟩
        · left
          obtain ⟨k,hk⟩:=asN_ok (mX_ok S hh) e1
          exact ⟨k,by simp [hk]⟩
      · cases lo <;> cases lo' <;> (try (simp [mXo] at hl;done))
        · right;cases e2;exact ⟨rfl,rfl⟩
        · left
          obtain ⟨k,hk⟩:=asN_ok (mX_ok S hl) e2
          exact ⟨k,by simp [hk]⟩
    · cases he
  · cases he
theorem al4 {t e:TypeId} {z len cap l u:Nat} {A:Option Addr} {lo hi:Option Value} (ht:P.underlying t=some (.slice e)) (hz:szT P e=some z) (hb:(Instr.sliceBounds true len cap lo hi none).run P w=.ok (l,u,cap) w):
    (Instr.sliceAt t (.slice A len cap) lo hi none).run P w=.ok (.slice (if cap=l then A else A.map (·.add (l*z))) (u - l) (cap - l)) w:=by
  simp [Instr.sliceAt,Instr.slice,run_underlying ht,hb,acf hz]
theorem ok_slc {d z:Nat} {x:X} {lo hi:Option X} {t:TypeId} {x':Operand} {lo' hi':Option Operand} (hd:o.dst=some d) (hx:mX φ x x'=true) (hl:mXo φ lo lo'=true) (hh:mXo φ hi hi'=true) (ho:o.op=.slice t x' lo' hi' none)
    (ht:(z=0∧P.underlying t=some .string)∨∃ e,P.underlying t=some (.slice e)∧szT P e=some z∧0<z):OpOk P φ o (.slc d x lo hi z):=by
  intro N hNP c s s' a w h S he
  have vx:=mX_ok S hx
  simp only [evI] at he
  obtain ⟨v,hv,rfl⟩:=Option.map_eq_some_iff.1 he
  unfold slcV at hv
  split at hv
  · split at hv
    · rename_i b e1
      rw [e1] at vx
      obtain ⟨y,f1,rfl⟩:=vx.s_inv
      obtain ⟨⟨l,u⟩,hb,rfl⟩:=Option.map_eq_some_iff.1 hv
      have ht0:P.underlying t=some .string:=by
        rcases ht with ⟨_,h1⟩ | ⟨e,_,_,h1⟩
        · exact h1
        · omega
      have hsz:y.data.toList.length=y.size:=by simp
      rw [hsz] at hb
      obtain ⟨b1,b2,b3⟩:=aq4 (P:=P) S hl hh (Nat.le_refl y.size) false hb
      refine Stp.val S hd (cv:=.string (y.extract l u)) ?_ (.mks ?_)
      · simp [execOp,ho,f1,Instr.sliceAt,Instr.slice,run_underlying ht0,b3]
      · rw [List.drop_take];simp [ByteArray.data_extract]
    · cases hv
  · rename_i z
    obtain ⟨e,ht,hz⟩:∃ e,P.underlying t=some (.slice e)∧szT P e=some (z+1):=by
      rcases ht with ⟨h1,_⟩ | ⟨e,h1,h2,_⟩
      · omega
      · exact ⟨e,h1,h2⟩
    have fin:∀ (A:Option Addr) (len cap l u:Nat),a.eval x'=.slice A len cap→len≤cap→bnds len (lo.map s.ev) (hi.map s.ev)=some (l,u) →
        (l≤u→u≤len→VOk φ w h v (.slice (if cap=l then A else A.map (·.add (l*(z+1)))) (u - l) (cap - l)))→Stp P φ N c o (s.put d v) a w:=by
      intro A len cap l u f1 hc hb hv
      obtain ⟨b1,b2,b3⟩:=aq4 (P:=P) S hl hh hc true hb
      refine Stp.val S hd ?_ (hv b1 b2)
      simp [execOp,ho,f1,al4 ht hz b3]
    split at hv
    · rename_i q z' xs e1
      rw [e1] at vx
      split at hv
      · rename_i hzz
        subst hzz
        obtain ⟨⟨l,u⟩,hb,rfl⟩:=Option.map_eq_some_iff.1 hv
        obtain ⟨A,cap,f,f1,f2,f3,f4,f5⟩:=vx.view_inv
        refine fin A xs.length cap l u f1 f2 hb fun b1 b2=>?_
        have hlen:((xs.take u).drop l).length=u - l:=by rw [List.length_drop,List.length_take];omega
        have hz':∀ x,x ∈ (xs.take u).drop l→x.cells.length=z+1:=fun x hx=>f3 x (List.mem_of_mem_take (List.mem_of_mem_drop hx))
        have hfl:flat ((xs.take u).drop l)=((flat xs).take (u*(z+1))).drop (l*(z+1)):=by
          rw [afa _ _ (fun x hx=>f3 x (List.mem_of_mem_take hx)),aeb _ _ f3]
        have hget:∀ j y,(flat ((xs.take u).drop l))[j]?=some y→(flat xs)[l*(z+1)+j]?=some y:=by
          intro j y hj
          rw [hfl,List.getElem?_drop] at hj
          have hlt:=(List.getElem?_eq_some_iff.1 hj).1
          rw [List.length_take] at hlt
          rwa [List.getElem?_take_of_lt (by omega)] at hj
        have hcell:CellsAt w (if q then h.Rp else h.Rl) (if cap=l then A else A.map (·.add (l*(z+1)))) (flat ((xs.take u).drop l)).length (fun j=>f (l*(z+1)+j)):=by
          intro h0
          rw [aaf hz',hlen] at h0
          have hul:0<u - l:=Nat.pos_of_ne_zero fun e=>by rw [e,Nat.zero_mul] at h0;omega
          rw [if_neg (by omega)]
          obtain ⟨b,p,rfl,h6⟩:=f4 (by rw [aaf f3];exact Nat.mul_pos (by omega) (by omega))
          refine ⟨b,p+l*(z+1),by simp [aa4],fun j hj=>?_⟩
          obtain ⟨y,hy⟩:∃ y,(flat ((xs.take u).drop l))[j]?=some y:=⟨_,List.getElem?_eq_getElem hj⟩
          have:=h6 (l*(z+1)+j) (List.getElem?_eq_some_iff.1 (hget j y hy)).1
          rw [← Nat.add_assoc] at this
          exact this
        rw [← hlen]
        have hc':((xs.take u).drop l).length≤cap - l:=by omega
        cases q with
        | true=>exact .mkp (.view (z+1) _ _ _ _ hc' hz' hcell fun j y hj=>f5 _ _ (hget j y hj))
        | false=>exact .k (.l (.view (z+1) _ _ _ _ hc' hz' hcell fun j y hj=>f5 _ _ (hget j y hj)))
      · cases hv
    · rename_i id k n tg e1
      rw [e1] at vx
      split at hv
      · rename_i z' fz xs hr
        split at hv
        · rename_i hzz
          subst hzz
          obtain ⟨⟨l,u⟩,hb,rfl⟩:=Option.map_eq_some_iff.1 hv
          obtain ⟨A,cap,g,f1,hg,f2,f3,f4,f5,f6⟩:=vx.sl_inv2
          obtain ⟨g',hg',hrw⟩:=S.r id _ fz xs (aae hr (by simp))
          rw [hg] at hg';cases hg'
          have hmp:=vx.sl_mp hg
          obtain ⟨h1,h2,_⟩:=hrw.cells hmp
          refine fin A n cap l u f1 f3 hb fun b1 b2=>.k (.sl id (k+l) (u - l) _ _ (cap - l) g hg (by omega) (by omega) (fun ht=>?_) ?_ ?_ hmp)
          rotate_right
          · cases hl:g.loc with
            | none=>rw [hl] at f6;simp only at f6 ⊢;subst f6;split <;> rfl
            | some bc=>
              obtain ⟨b,room⟩:=bc
              rw [hl] at f6
              obtain ⟨off,rfl⟩:=f6
              simp only
              split
              · exact ⟨off,rfl⟩
              · exact ⟨off+l*(z+1),by simp [aa4]⟩
          · simp at ht
            have:=f4 ht.1
            omega
          · cases hl:g.loc with
            | none=>rw [hl] at f5;simp only at f5 ⊢;omega
            | some bc=>
              obtain ⟨b,room⟩:=bc
              rw [hl] at f5
              simp only at f5 ⊢
              refine ⟨by omega,fun h0=>?_⟩
              rw [if_neg (by omega),f5.2 (by omega),h1,Nat.add_mul]
              simp [aa4]
        · cases hv
      · cases hv
    · rename_i e1
      rw [e1] at vx
      obtain ⟨⟨l,u⟩,hb,rfl⟩:=Option.map_eq_some_iff.1 hv
      refine fin none 0 0 l u vx.nil_inv (Nat.le_refl _) hb fun b1 b2=>?_
      have:l=0:=by omega
      have:u=0:=by omega
      subst l u
      exact .mkp .nil
    · cases hv
theorem aq8 (S:Sim φ N c s a w h) {z:Nat} {v:V} {ys:List V} {y:Value} (hv:VOk φ w h v y) (he:s.cont z v=some ys):
    (∀ x,x ∈ ys→x.cells.length=z)∧((∃ b:ByteArray,v=.s b.data.toList∧y=.string b∧ys=bytesV b.data.toList∧z=1) ∨
    ((∀ l,v≠.s l)∧∃ A cap f,y=.slice A ys.length cap∧ys.length≤cap∧CellsAt w (fun _ _=>True) A (flat ys).length f∧∀ j u,(flat ys)[j]?=some u→POk w h.Rp u (f j))):=by
  unfold St.cont at he
  split at he
  · cases he
    exact ⟨fun x hx=>by simp at hx,.inr ⟨fun l e=>(by cases e),none,0,fun _=>undef,hv.nil_inv,Nat.le_refl _,fun h0=>by simp [ach] at h0,fun j u hj=>by simp [ach] at hj⟩⟩
  · split at he
    · rename_i q z' xs hz
      cases he;subst hz
      obtain ⟨A,cap,f,f1,f2,f3,f4,f5⟩:=hv.view_inv
      exact ⟨f3,.inr ⟨fun l e=>(by cases e),A,cap,f,f1,f2,f4.mono (fun _ _ _=>rfl) (fun _ _ _=>trivial),f5⟩⟩
    · cases he
  · rename_i id lo n tg
    split at he
    · rename_i z' fz xs hr
      split at he
      · rename_i hz
        subst hz
        cases he
        obtain ⟨A,cap,g,f1,hg,f2,f3,f4,f5⟩:=hv.sl_inv
        obtain ⟨g',hg',hrow⟩:=S.r id _ fz xs (aae hr (by simp))
        rw [hg] at hg';cases hg'
        obtain ⟨f,r1,r2,r3,r4⟩:=ahq (R:=fun _ _=>True) hrow (hv.sl_mp hg) f2 f3 f5 (fun _ _ _ _=>trivial)
        exact ⟨r3,.inr ⟨fun l e=>(by cases e),A,cap,f,by rw [r4];exact f1,by rw [r4];exact f3,r1,r2⟩⟩
      · cases he
    · cases he
  · rename_i l
    split at he
    · rename_i hz
      cases he
      obtain ⟨b,f1,rfl⟩:=hv.s_inv
      refine ⟨fun x hx=>?_,.inl ⟨b,rfl,f1,rfl,hz⟩⟩
      simp only [bytesV,List.mem_map] at hx
      obtain ⟨_,_,rfl⟩:=hx
      rw [hz];rfl
    · cases he
  · cases he
theorem ako:∀ {ys:List V} {l:List UInt8},vbytes ys=some l→∃ ns:List Int,ys=ns.map (V.i .u8)∧l=ns.map fun n=>UInt8.ofNat n.toNat
  | [],l,he=>by cases he;exact ⟨[],rfl,rfl⟩
  | y :: ys,l,he=>by
    unfold vbytes at he
    split at he
    · rename_i h0;cases h0
    · rename_i n ys' h0
      cases h0
      obtain ⟨l',hl,rfl⟩:=Option.map_eq_some_iff.1 he
      obtain ⟨ns,rfl,rfl⟩:=ako hl
      exact ⟨n :: ns,rfl,rfl⟩
    · cases he
theorem afb:∀ (ns:List Int) (r:ByteArray),(ns.foldl (fun r n=>r.push (UInt8.ofNat n.toNat)) r).data.toList=r.data.toList++ns.map fun n=>UInt8.ofNat n.toNat
  | [],r=>by simp
  | n :: ns,r=>by
    rw [List.foldl_cons,afb ns]
    simp [ByteArray.push]
theorem aja (k:IntKind):∀ ns:List Int,flat (ns.map (V.i k))=ns.map (V.i k)
  | []=>rfl
  | n :: ns=>by rw [List.map_cons,aa3,aja k ns];rfl
theorem ok_cvs {d:Nat} {x:X} {src dst e:TypeId} {x':Operand} (hd:o.dst=some d) (hx:mX φ x x'=true) (ho:o.op=.convert src dst x') (hs:P.underlying src=some (.slice e)) (hE:P.underlying e=some (.int .u8)) (hD:P.underlying dst=some .string):OpOk P φ o (.cvs d x):=by
  intro N hNP c s s' a w h S he
  have vx:=mX_ok S hx
  simp only [evI] at he
  split at he
  · cases he
  · rename_i hns
    obtain ⟨l,hl,rfl⟩:=Option.map_eq_some_iff.1 he
    obtain ⟨ys,hc,hb⟩:=Option.bind_eq_some_iff.1 hl
    obtain ⟨ns,rfl,rfl⟩:=ako hb
    obtain ⟨_,h1⟩:=aq8 S vx hc
    rcases h1 with ⟨b,e1,_⟩ | ⟨_,A,cap,f,f1,f2,f3,f4⟩
    · exact absurd e1 (hns _)
    · rw [aja] at f3 f4
      have hv:VOk φ w h (.s (ns.map fun n=>UInt8.ofNat n.toNat)) (.string (ns.foldl (fun r n=>r.push (UInt8.ofNat n.toNat)) ByteArray.empty)):=.mks (by rw [afb];simp)
      refine Stp.val S hd ?_ hv
      simp only [execOp,ho,f1]
      have hr:(convert src dst (.slice A (ns.map (V.i .u8)).length cap)).run P w=.ok (.string (ns.foldl (fun r n=>r.push (UInt8.ofNat n.toNat)) ByteArray.empty)) w:=by
        rw [run_convert_bytes_string w src dst e A _ cap hs hE hD]
        cases A with
        | none=>
          have:ns=[]:=by
            cases ns with
            | nil=>rfl
            | cons n ns=>obtain ⟨_,_,h0,_⟩:=f3 (by simp);cases h0
          subst this
          simp [Conv.bytesToString] <;> rfl
        | some ad=>
          refine run_bytesToString w ad _ cap ns ?_
          have hl:=run_loadCells_list (P:=P) w ad (ns.map (Value.int .u8)) (fun j v hj=>by
            have hj':j<ns.length:=by
              have:=(List.getElem?_eq_some_iff.1 hj).1
              simpa using this
            obtain ⟨b,o,h0,h2⟩:=f3 (by simp;omega)
            cases h0
            rw [aa4,(h2 j (by simpa using hj')).2.1]
            rw [List.getElem?_map,List.getElem?_eq_getElem hj'] at hj
            have:=f4 j (.i .u8 (ns[j])) (by rw [List.getElem?_map,List.getElem?_eq_getElem hj'];rfl)
            cases hj
            generalize f j=fj at this ⊢
            cases this;rfl)
          simp only [List.length_map] at hl ⊢
          exact hl
      rw [List.length_map] at hr ⊢
      simp [hr]
theorem akc (b:ByteArray) (rest:Array Value) (j:Nat) (u:V) (hj:(flat (bytesV b.data.toList))[j]?=some u) {R:Nat→Nat→Prop} {w:World}:
    POk w R u ((b.data.map (fun x=>Value.int .u8 x.toNat)++rest).getD j undef)∧((b.data.map (fun x=>Value.int .u8 x.toNat)++rest).getD j undef).oneCell'=true:=by
  have hf:flat (bytesV b.data.toList)=bytesV b.data.toList:=by
    have:=aja .u8 (b.data.toList.map fun x=>(x.toNat:Int))
    simpa [bytesV,Function.comp_def] using this
  rw [hf] at hj
  have hj':j<b.data.size:=by
    have:=(List.getElem?_eq_some_iff.1 hj).1
    simpa [bytesV] using this
  rw [aaa,Array.getElem?_append_left (by simpa using hj'),Array.getElem?_map,Array.getElem?_eq_getElem hj']
  simp only [bytesV,List.getElem?_map,Array.getElem?_toList,Array.getElem?_eq_getElem hj',Option.map_some,Option.some.injEq] at hj
  subst hj
  exact ⟨.i _ _,rfl⟩
theorem ok_cvb {d:Nat} {x:X} {src dst e:TypeId} {x':Operand} (hd:o.dst=some d) (hx:mX φ x x'=true) (ho:o.op=.convert src dst x') (hs:P.underlying src=some .string) (hD:P.underlying dst=some (.slice e)) (hE:P.underlying e=some (.int .u8)):OpOk P φ o (.cvb d x):=by
  intro N hNP c s s' a w h S he
  have vx:=mX_ok S hx
  simp only [evI] at he
  split at he
  · rename_i l e1
    rw [e1] at vx
    obtain ⟨b,f1,rfl⟩:=vx.s_inv
    split at he
    · rename_i hlim
      cases he
      have hsz:b.data.toList.length=b.size:=by simp
      have hbl:(bytesV b.data.toList).length=b.size:=by simp [bytesV]
      rw [hsz] at hlim
      have hge:=grownCap_ge w b.size 0 e
      have hrs:(bytesRow b (grownCap w b.size 0 e)).size=grownCap w b.size 0 e:=by
        have:b.data.size=b.size:=rfl
        simp [bytesRow,this];omega
      have S0:Sim φ N c s a w.drew h:=S.heap rfl rfl rfl rfl
      obtain ⟨h',S'⟩:=S0.newRow (d:=d) (z:=1) (cap:=grownCap w b.size 0 e) (es:=bytesV b.data.toList) (cc:=bytesRow b (grownCap w b.size 0 e)) e ((bytesRow b (grownCap w b.size 0 e)).size,(bytesRow b (grownCap w b.size 0 e)).size+1)
        (fun x hx=>by
          simp only [bytesV,List.mem_map] at hx
          obtain ⟨_,_,rfl⟩:=hx;rfl) (by rw [hrs];omega) (by rw [hbl];exact hge) (grownCap_le_maxLen w _ _ _ (by simp only [lim,maxLen] at hlim ⊢;omega)) (fun n hn=>by simp [bytesV] at hn) (fun o ho=>by simp only;omega)
        (fun j v hj=>akc b _ j v hj)
      refine Stp.value (w':=w.drew.alloc _) ?_ (by rw [hd];exact S')
      rw [hbl]
      simp only [execOp,ho,f1]
      have:=run_bytes_of_string w src dst e b hs hD hE
      simp [this]
    · cases he
  · cases he
theorem mV_pok {R:Nat→Nat→Prop} {v:V} {y:Value} (hm:mV v y=true):POk w R v y:=by
  unfold mV at hm
  split at hm
  · rw [beq_iff_eq] at hm;subst hm;exact .b _
  · simp at hm;obtain ⟨rfl,rfl⟩:=hm;exact .i _ _
  · rw [beq_iff_eq] at hm;exact hm ▸ .s _
  · exact .nil
  · exact .view _ [] none 0 (fun _=>undef) (Nat.le_refl _) (fun x hx=>by simp at hx) (fun h0=>by simp [flat] at h0) (fun j v hj=>by simp [flat] at hj)
  · exact .np
  · exact .npf
  · cases hm
theorem aor {R:Nat→Nat→Prop}:∀ {vs:List V} {xs:List Value},mVs vs xs=true→∀ j v,vs[j]?=some v→POk w R v (xs.getD j undef)∧(xs.getD j undef).oneCell'=true
  | [],[],_=>fun j v hj=>by simp at hj
  | v :: vs,x :: xs,hm=>by
    simp only [mVs,Bool.and_eq_true] at hm
    obtain ⟨⟨⟨h1,h2⟩,h3⟩,h4⟩:=hm
    intro j u hj
    cases j with
    | zero=>cases hj;exact ⟨mV_pok h1,h3⟩
    | succ j=>exact aor h4 j u (by simpa using hj)
  | [],_ :: _,hm=>by simp [mVs] at hm
  | _ :: _,[],hm=>by simp [mVs] at hm
theorem afr {z:Nat} {xs:List V} (hz:∀ x,x ∈ xs→x.cells.length=z) {j:Nat} {u:V} (hj:(flat xs)[j]?=some u):0<z∧j / z<xs.length∧∃ e,xs[j / z]?=some e∧e.cells[j % z]?=some u:=by
  have hlt:=(List.getElem?_eq_some_iff.1 hj).1
  rw [aaf hz] at hlt
  have hz0:0<z:=Nat.pos_of_ne_zero fun e=>by rw [e,Nat.mul_zero] at hlt;omega
  have hd:j / z<xs.length:=Nat.div_lt_of_lt_mul (by rwa [Nat.mul_comm] at hlt)
  refine ⟨hz0,hd,xs[j / z],List.getElem?_eq_getElem hd,?_⟩
  have:=adx (z:=z) hz (List.getElem?_eq_getElem hd) (Nat.mod_lt j hz0)
  rw [Nat.mul_comm,Nat.div_add_mod] at this
  rw [← this]
  exact hj
theorem ok_mks {d z:Nat} {el:V} {len cap:X} {t e:TypeId} {len' cap':Operand} {i:TypeInfo} {zv:Value} (hd:o.dst=some d) (hx:mX φ len len'=true) (hy:mX φ cap cap'=true) (ho:o.op=.makeSlice t len' cap') (ht:P.underlying t=some (.slice e))
    (hi:P.info? e=some i) (hz:i.zero=some zv) (hsz:i.size=z) (hzz:zv.cells.size=z) (hm:mVs el.cells zv.cells.toList=true) (hb:i.bytes≤65536):OpOk P φ o (.mks d z el len cap):=by
  intro N hNP c s s' a w h S he
  have vx:=mX_ok S hx
  have vy:=mX_ok S hy
  simp only [evI,mksV] at he
  split at he
  · rename_i k n k' q e1 e2
    rw [e1] at vx;rw [e2] at vy
    split at he
    · rename_i hc
      obtain ⟨c1,c2,c3⟩:=hc
      cases he
      have hlen:el.cells.length=z:=by
        have:=(mVs_ok (φ:=φ) (w:=w) (h:=h) hm).1
        rw [this];simpa using hzz
      have hz':∀ x,x ∈ List.replicate n.toNat el→x.cells.length=z:=fun x hx=>by rw [(List.mem_replicate.1 hx).2];exact hlen
      have hsz2:(madeCells zv.cells (q.toNat * i.size)).size=q.toNat * z:=by rw [size_madeCells,hsz]
      obtain ⟨h',S'⟩:=S.newRow (d:=d) (z:=z) (cap:=q.toNat) (es:=List.replicate n.toNat el) (cc:=madeCells zv.cells (q.toNat * i.size)) e (0,0) hz' hsz2 (by simp;omega) (by simp only [maxLen];simp only [lim] at c3;omega) (fun n hn=>by
          have e1:=(List.mem_replicate.1 hn).2
          subst e1
          exfalso
          generalize zv.cells.toList=l at hm
          cases l <;> simp [V.cells,mVs,mV] at hm) (fun o _=>by simp)
        (fun j v hj=>by
          obtain ⟨hz0,hd,e',he',hu⟩:=afr hz' hj
          obtain ⟨_,rfl⟩:=List.mem_replicate.1 (List.mem_of_getElem? he')
          rw [List.length_replicate] at hd
          have hlt:j<q.toNat * i.size:=by
            rw [hsz]
            have h1:j<n.toNat * z:=by
              have:=(List.getElem?_eq_some_iff.1 hj).1
              rwa [aaf hz',List.length_replicate] at this
            have h2:n.toNat * z≤q.toNat * z:=Nat.mul_le_mul_right _ (by omega)
            omega
          have hg:(madeCells zv.cells (q.toNat * i.size)).getD j undef=zv.cells.toList.getD (j % z) undef:=by
            have hjz:j % z<zv.cells.size:=by rw [hzz];exact Nat.mod_lt j hz0
            rw [aaa,madeCells,Array.getElem?_map,List.getD_eq_getElem?_getD,list_getElem?_arr]
            rw [Array.getElem?_range,if_pos hlt]
            simp only [Option.map_some,Option.getD_some]
            rw [hzz,getElem!_pos zv.cells (j % z) hjz,Array.getElem?_eq_getElem hjz,Option.getD_some]
          rw [hg]
          exact aor hm _ _ hu)
      refine Stp.value (w':=w.alloc _) ?_ (by rw [hd];exact S')
      have hr:=run_make (P:=P) w t e i zv ht hi hz k k' n q c1 c2 (by
        have h1:(i.bytes:Int)≤65536:=by omega
        have h2:(i.bytes:Int)*q≤65536*q:=Int.mul_le_mul_of_nonneg_right h1 (by omega)
        simp only [lim] at c3
        omega) (by simp only [lim] at c3;omega)
      simp [execOp,ho,vx.i_inv,vy.i_inv,hr]
    · cases he
  · cases he
end
end Go.VS
end
section
namespace Go.VS
open Go
section
variable {φ:Nat→FuncId} {N:Env} {c:Cx} {s:St} {a:Act} {w:World} {h:Gh} {P:Program} {o:Oper}
theorem apm:∀ (vs:List V) {s s':St} {es:List V} {h:Gh} (f:Nat→Value),Sim φ N c s a w h→(∀ j v,vs[j]?=some v→VOk φ w h v (f j))→frzVs vs s=some (es,s') →
    ∃ h',Frz φ N c s s' a w h h'∧es.length=vs.length∧∀ i e,es[i]?=some e→(f i).cells.size=e.cells.length∧∀ j u,e.cells[j]?=some u→POk w h'.Rp u ((f i).cells.getD j undef)∧((f i).cells.getD j undef).oneCell'=true
  | [],s,s',es,h,f,S,_,he=>by cases he;exact ⟨h,.refl S,rfl,fun i e hj=>by simp at hj⟩
  | v :: vs,s,s',es,h,f,S,hv,he=>by
    simp only [frzVs] at he
    split at he
    · rename_i v' s1 e1
      split at he
      · rename_i vs' s2 e2
        cases he
        obtain ⟨h1,F1,l1,l2,p1,_⟩:=alb S (hv 0 v rfl) e1
        obtain ⟨h2,F2,l3,p2⟩:=apm vs (fun j=>f (j+1)) F1.sim (fun j u hj=>(hv (j+1) u (by simpa using hj)).mono F1.le) e2
        refine ⟨h2,F1.trans F2,by simp [l3],fun i e hi=>?_⟩
        cases i with
        | zero=>cases hi;exact ⟨l2.trans l1.symm,fun j u hj=>⟨(p1 j u hj).1.mono F2.le.kp F2.le.p,(p1 j u hj).2⟩⟩
        | succ i=>exact p2 i e (by simpa using hi)
      · cases he
    · cases he
theorem apj {z:Nat}:∀ (ys:List Value) (k:Nat) (cc:Array Value),(∀ y,y ∈ ys→y.cells.size=z)→(k+ys.length)*z≤cc.size →
    ∃ cc',Instr.fill (fun i=>some (i*z,z)) cc ((ys.zipIdx k).map fun p=>(p.2,p.1))=some cc'∧cc'.size=cc.size∧(∀ j,j<k*z→cc'[j]?=cc[j]?)∧∀ i y,ys[i]?=some y→∀ j,j<z→cc'[(k+i)*z+j]?=y.cells[j]?
  | [],k,cc,_,_=>⟨cc,rfl,rfl,fun _ _=>rfl,fun i y hi=>by simp at hi⟩
  | y :: ys,k,cc,hz,hs=>by
    have hy:=hz y (by simp)
    have h1:(k+(ys.length+1))*z=k*z+(ys.length*z+z):=by rw [Nat.add_mul,Nat.add_mul,Nat.one_mul]
    have hle:k*z+z≤cc.size:=by rw [List.length_cons,h1] at hs;omega
    obtain ⟨cc',r1,r2,r3,r4⟩:=apj ys (k+1) (arrSet cc (k*z) y.cells.toList) (fun x hx=>hz x (by simp [hx])) (by rw [abp];rw [List.length_cons] at hs;rwa [show k+1+ys.length=k+(ys.length+1) by omega])
    have hk:(k+1)*z=k*z+z:=by rw [Nat.add_mul,Nat.one_mul]
    refine ⟨cc',?_,by rw [r2,abp],fun j hj=>?_,fun i x hi j hj=>?_⟩
    · rw [List.zipIdx_cons,List.map_cons,amt (place:=fun i=>some (i*z,z)) rfl hy hle]
      exact r1
    · rw [r3 j (by omega),aaq _ _ _ _ (by omega)]
    · cases i with
      | zero=>
        cases hi
        rw [Nat.add_zero,r3 _ (by omega),aci _ _ _ _ (by simp;omega) (by simp;omega),list_getElem?_arr]
      | succ i=>
        have:=r4 i x (by simpa using hi) j hj
        rwa [show k+1+i=k+(i+1) by omega] at this
def mBs (φ:Nat→FuncId):Nat→List X→List (Nat × Operand)→Bool
  | _,[],[]=>true
  | k,x :: xs,(i,y) :: ys=>(i == k) && mX φ x y && mBs φ (k+1) xs ys
  | _,_,_=>false
theorem akb:∀ (us:List V) {s s':St} {us':List V},frzVs us s=some (us',s')→∀ n,V.bt n ∉ us'
  | [],_,_,_,he=>by cases he;simp
  | u :: us,s,s',us',he=>by
    simp only [frzVs] at he
    split at he
    · rename_i v1 s1 e1
      split at he
      · rename_i vs1 s2 e2
        cases he
        intro n hn
        rcases List.mem_cons.1 hn with h | h
        · subst h
          unfold frzV at e1
          split at e1
          · split at e1 <;> cases e1
          · unfold frzL at e1
            split at e1 <;> (try cases e1)
            split at e1 <;> cases e1
        · exact akb us e2 n h
      · cases he
    · cases he
theorem mBs_ok (S:Sim φ N c s a w h):∀ (xs:List X) (ys:List (Nat × Operand)) (k:Nat),mBs φ k xs ys=true→xs.length=ys.length∧(ys.map fun (i,x)=>(i,a.eval x))=((ys.map fun p=>a.eval p.2).zipIdx k).map (fun p=>(p.2,p.1)) ∧
    ∀ j v,(xs.map s.ev)[j]?=some v→VOk φ w h v ((ys.map fun p=>a.eval p.2).getD j undef)
  | [],[],_,_=>⟨rfl,rfl,fun j v hj=>by simp at hj⟩
  | [],_ :: _,_,hm=>by simp [mBs] at hm
  | _ :: _,[],_,hm=>by simp [mBs] at hm
  | x :: xs,(i,y) :: ys,k,hm=>by
    simp only [mBs,Bool.and_eq_true,beq_iff_eq] at hm
    obtain ⟨⟨rfl,m2⟩,m3⟩:=hm
    obtain ⟨l,e,p⟩:=mBs_ok S xs ys (i+1) m3
    refine ⟨by simp [l],by simp only [List.map_cons,List.zipIdx_cons,e],fun j v hj=>?_⟩
    cases j with
    | zero=>cases hj;exact mX_ok S m2
    | succ j=>exact p j v (by simpa using hj)
theorem ok_bsl {d z:Nat} {ps:List X} {t e:TypeId} {len:Nat} {parts:Array (Nat × Operand)} {i:TypeInfo} {zv:Value} (hd:o.dst=some d) (ho:o.op=.buildSlice t len parts) (ht:P.underlying t=some (.slice e)) (hi:P.info? e=some i) (hz:i.zero=some zv)
    (hsz:i.size=z) (hlen:ps.length=len) (hm:mBs φ 0 ps parts.toList=true) (hbig:len*z≤2 ^ 24) (hbig':len≤2 ^ 24):OpOk P φ o (.bsl d z ps):=by
  intro N hNP c s s' a w h S he
  obtain ⟨b1,b2,b3⟩:=mBs_ok S ps parts.toList 0 hm
  simp only [evI] at he
  split at he
  · rename_i es s1 e1
    split at he
    · rename_i hall
      cases he
      obtain ⟨h1,F,l,p⟩:=apm (ps.map s.ev) (fun j=>(parts.toList.map fun p=>a.eval p.2).getD j undef) S b3 e1
      have hes:es.length=len:=by rw [l,List.length_map,hlen]
      have hcell:∀ x,x ∈ es→x.cells.length=z:=fun x hx=>by simpa using List.all_eq_true.1 hall x hx
      have hys:∀ y,y ∈ (parts.toList.map fun p=>a.eval p.2)→y.cells.size=z:=by
        intro y hy
        obtain ⟨k,hk⟩:=List.mem_iff_getElem?.1 hy
        have hlt:=(List.getElem?_eq_some_iff.1 hk).1
        rw [List.length_map,← b1,hlen,← hes] at hlt
        have:=(p k _ (List.getElem?_eq_getElem hlt)).1
        rw [List.getD_eq_getElem?_getD,hk,Option.getD_some] at this
        rw [this];exact hcell _ (List.getElem_mem hlt)
      obtain ⟨cc',r1,r2,r3,r4⟩:=apj (z:=z) (parts.toList.map fun p=>a.eval p.2) 0 (madeCells zv.cells (len*z)) hys (by rw [size_madeCells,List.length_map,← b1,hlen,Nat.zero_add];exact Nat.le_refl _)
      rw [size_madeCells] at r2
      obtain ⟨h',S'⟩:=F.sim.newRow (d:=d) (z:=z) (cap:=len) (es:=es) (cc:=cc') e (0,0) hcell r2 (by omega) (by
          simp only [maxLen];omega) (fun n hn=>absurd hn (akb _ e1 n)) (fun o _=>by simp)
        (fun j v hj=>by
          obtain ⟨hz0,hdv,e',he',hu⟩:=afr hcell hj
          have:=(p _ _ he').2 _ _ hu
          rw [List.length_map,← hlen] at *
          have hlt:j / z<(parts.toList.map fun p=>a.eval p.2).length:=by rw [List.length_map,← b1];omega
          have hr:=r4 (j / z) _ (List.getElem?_eq_getElem hlt) (j % z) (Nat.mod_lt j hz0)
          rw [Nat.zero_add,Nat.mul_comm,Nat.div_add_mod] at hr
          rw [List.getD_eq_getElem?_getD,List.getElem?_eq_getElem hlt,Option.getD_some] at this
          rw [aaa,hr,← aaa]
          exact this)
      refine Stp.value (w':=w.alloc _) ?_ (by rw [hd];exact S')
      have hb:¬ (len*z > 2 ^ 24):=by omega
      have hrun:(Instr.buildSlice t len (parts.map fun (i,x)=>(i,a.eval x))).run P w=.ok (.slice (some ⟨w.heap.size,0,none⟩) len len) (w.alloc (.cells cc' e)):=by
        have hfill:Instr.fill (fun i=>some (i*z,z)) (madeCells zv.cells (len*z)) (parts.map fun (i,x)=>(i,a.eval x)).toList=some cc':=by
          rw [Array.toList_map,b2];exact r1
        unfold madeCells at hfill
        by_cases hn:len*z=0
        · simp [hn,Array.range_zero'] at hfill
          simp [Instr.buildSlice,run_underlying ht,sizeOf,typeInfo,hi,hsz,hn,Array.range_zero',hfill,newRow]
        · simp at hfill
          have hb':¬ (16777216<len*z):=by omega
          simp [Instr.buildSlice,run_underlying ht,sizeOf,typeInfo,hi,hsz,hn,hfill,newRow,zeroValue,hz,hb']
      rw [hes]
      simp [execOp,ho,hrun]
    · cases he
  · cases he
end
end Go.VS
end
section
namespace Go.VS
open Go
section
variable {φ:Nat→FuncId} {N:Env} {c:Cx} {s:St} {a:Act} {w:World} {h:Gh} {P:Program} {o:Oper}
theorem aot (P:Program) (S:Sim φ N c s a w h) {z:Nat} {v:V} {ys:List V} {y:Value} (hv:VOk φ w h v y) (he:s.cont z v=some ys):
    (∀ x,x ∈ ys→x.cells.length=z)∧∃ news:List Value,news.length=ys.length*z∧(∀ j u,(flat ys)[j]?=some u→POk w h.Rp u (news.getD j undef)∧(news.getD j undef).oneCell'=true)∧(∀ x,x ∈ news→x.oneCell'=true) ∧
    (∀ w',(Builtin.lenOf y).run P w'=.ok ys.length w')∧∀ w',w'.heap=w.heap→(Builtin.firstCells z ys.length y).run P w'=.ok news.toArray w':=by
  obtain ⟨hz,h1⟩:=aq8 S hv he
  refine ⟨hz,?_⟩
  rcases h1 with ⟨b,rfl,rfl,rfl,rfl⟩ | ⟨_,A,cap,f,rfl,f2,f3,f4⟩
  · refine ⟨b.data.toList.map (fun x=>.int .u8 x.toNat),by simp [bytesV],fun j u hj=>?_,fun x hx=>?_,fun w'=>?_,fun w' _=>?_⟩
    · have:=akc b #[] j u hj (R:=h.Rp) (w:=w)
      rw [Array.append_empty] at this
      rw [List.getD_eq_getElem?_getD]
      simpa [aaa] using this
    · simp only [List.mem_map] at hx
      obtain ⟨_,_,rfl⟩:=hx;rfl
    · simp [Builtin.lenOf,bytesV]
    · have h2:b.extract 0 b.size=b:=by simp
      have h3:b.data.size=b.size:=rfl
      simp [Builtin.firstCells,bytesV,h2,h3]
      apply Array.ext'
      simp
  · have hl:(flat ys).length=ys.length*z:=aaf hz
    refine ⟨(List.range (flat ys).length).map f,by simp [hl],fun j u hj=>?_,fun x hx=>?_,fun w'=>rfl,fun w' hw=>?_⟩
    · have hj':=(List.getElem?_eq_some_iff.1 hj).1
      rw [List.getD_eq_getElem?_getD,List.getElem?_map,List.getElem?_range hj',Option.map_some,Option.getD_some]
      obtain ⟨b,p,_,h2⟩:=f3 (by omega)
      exact ⟨f4 j u hj,(h2 j hj').2.2⟩
    · simp only [List.mem_map,List.mem_range] at hx
      obtain ⟨j,hj,rfl⟩:=hx
      obtain ⟨b,p,_,h2⟩:=f3 (by omega)
      exact (h2 j hj).2.2
    · cases A with
      | none=>
        have h0:(flat ys).length=0:=Nat.eq_zero_of_not_pos fun h0=>by obtain ⟨_,_,h0,_⟩:=f3 h0;cases h0
        simp [Builtin.firstCells,h0]
      | some ad=>
        refine run_firstCells_some w' z ys.length ad ys.length cap _ (by simp [hl]) fun j v hj=>?_
        have hj':j<(flat ys).length:=by simpa using (List.getElem?_eq_some_iff.1 hj).1
        obtain ⟨b,p,h0,h2⟩:=f3 (by omega)
        cases h0
        rw [List.getElem?_map,List.getElem?_range hj'] at hj
        cases hj
        rw [aa4]
        have:=(h2 j hj').2.1
        unfold World.cell? at this ⊢
        rw [hw]
        exact this
def appT (P:Program) (t:TypeId):Bool:=match P.underlying t with | some .string=>true | some (.slice _)=>true | _=>false
section
variable {sT xT ty e:TypeId} {i:TypeInfo} {zv:Value} {z n m cap:Nat} {y:Value} {news:List Value}
theorem ady (ht:P.underlying sT=some (.slice e)) (hi:P.info? e=some i) (hsz:i.size=z) (hx:appT P xT=true) (hl:∀ w',(Builtin.lenOf y).run P w'=.ok m w') (hn:(Builtin.firstCells z m y).run P w=.ok news.toArray w) (hfit:n+m≤cap):
    (Builtin.append_ #[sT,xT] ty #[.slice none n cap,y]).run P w=.ok (.slice none (n+m) cap) w:=by
  unfold appT at hx
  split at hx <;> (try cases hx) <;> rename_i hu <;>
    simp [Builtin.append_,run_underlying ht,run_underlying hu,sizeOf,typeInfo,hi,hsz,hl,hfit,hn]
theorem aep {w':World} {ad:Addr} (ht:P.underlying sT=some (.slice e)) (hi:P.info? e=some i) (hsz:i.size=z) (hx:appT P xT=true) (hl:∀ w',(Builtin.lenOf y).run P w'=.ok m w') (hn:(Builtin.firstCells z m y).run P w=.ok news.toArray w) (hfit:n+m≤cap)
    (hst:(storeCells (ad.add (n*z)) news).run P w=.ok () w'):
    (Builtin.append_ #[sT,xT] ty #[.slice (some ad) n cap,y]).run P w=.ok (.slice (some ad) (n+m) cap) w':=by
  unfold appT at hx
  split at hx <;> (try cases hx) <;> rename_i hu <;>
    simp [Builtin.append_,run_underlying ht,run_underlying hu,sizeOf,typeInfo,hi,hsz,hl,hfit,hn,hst]
theorem anp {base:Option Addr} {olds:List Value} (ht:P.underlying sT=some (.slice e)) (hi:P.info? e=some i) (hz:i.zero=some zv) (hsz:i.size=z) (hx:appT P xT=true) (hl:∀ w',(Builtin.lenOf y).run P w'=.ok m w')
    (hn:(Builtin.firstCells z m y).run P w.drew=.ok news.toArray w.drew) (ho:(Builtin.firstCells z n (.slice base n cap)).run P w.drew=.ok olds.toArray w.drew) (hg:cap<n+m) (h63:((n+m:Nat):Int)≤9223372036854775807) (hfit:Builtin.nextslicecap (n+m) cap*i.bytes≤281474976710656):
    (Builtin.append_ #[sT,xT] ty #[.slice base n cap,y]).run P w=.ok (.slice (some ⟨w.heap.size,0,none⟩) (n+m) (grownCap w (n+m) cap e))
      (w.drew.alloc (.cells (olds.toArray++news.toArray++Builtin.zeroCells zv.cells (grownCap w (n+m) cap e - (n+m))) e)):=by
  have hn':¬ (n+m≤cap):=by omega
  have h63':¬ (9223372036854775807<((n:Int)+(m:Int))):=by omega
  have h48':¬ (281474976710656<Builtin.nextslicecap (n+m) cap*i.bytes):=by omega
  unfold appT at hx
  split at hx <;> (try cases hx) <;> rename_i hu <;>
    (simp [Builtin.append_,run_underlying ht,run_underlying hu,sizeOf,typeInfo,zeroValue,hi,hz,hsz,hl,hn',h63',h48',Question.forced,hn,ho,newRow,grownCap]
     try (congr 2;apply Array.ext';simp [List.append_assoc]))
end
theorem apq {l:List Value} {rest:Array Value} {j:Nat} (hj:j<l.length):(l.toArray++rest).getD j undef=l.getD j undef:=by
  rw [aaa,Array.getElem?_append_left (by simpa using hj),List.getD_eq_getElem?_getD]
  simp
theorem ale {l r:List Value} {j:Nat} (hj:j<l.length):(l++r).getD j undef=l.getD j undef:=by
  rw [List.getD_eq_getElem?_getD,List.getElem?_append_left hj,List.getD_eq_getElem?_getD]
theorem apy:∀ {l:List V},noBt l=true→∀ n,V.bt n ∉ l
  | [],_,n=>by simp
  | v :: l,h,n=>by
    simp only [noBt,Bool.and_eq_true,Bool.not_eq_true'] at h
    intro hn
    rcases List.mem_cons.1 hn with e | e
    · subst e;simp [isBt] at h
    · exact apy h.2 n e
theorem tagOk {z:Nat} {l:List V} (h:nbOk z l=true) (hz:∀ x,x ∈ l→x.cells.length=z) (n:Int):V.bt n ∉ l:=by
  intro hn
  have h1:z=1:=(hz _ hn).symm
  subst h1
  exact apy (by simpa [nbOk] using h) n hn
structure News (P:Program) (w:World) (h:Gh) (z:Nat) (ys:List V) (y:Value) (news:List Value):Prop where
  zs:∀ x,x ∈ ys→x.cells.length=z
  len:news.length=ys.length*z
  el:∀ j u,(flat ys)[j]?=some u→POk w h.Rp u (news.getD j undef)∧(news.getD j undef).oneCell'=true
  one:∀ x,x ∈ news→x.oneCell'=true
  lof:∀ w',(Builtin.lenOf y).run P w'=.ok ys.length w'
  fst:∀ w',w'.heap=w.heap→(Builtin.firstCells z ys.length y).run P w'=.ok news.toArray w'
theorem ak3 {s s':St} {d z:Nat} {x:X} {ys:List V} {sT xT e:TypeId} {x' y':Operand} {i:TypeInfo} {zv:Value} (hNP:N.P=P) (S:Sim φ N c s a w h) (hd:o.dst=some d) (hx:mX φ x x'=true) (ho:o.op=.call { callee:=.builtin .append,args:=#[x',y'],argTypes:=#[sT,xT] })
    (ht:P.underlying sT=some (.slice e)) (hi:P.info? e=some i) (hz:i.zero=some zv) (hsz:i.size=z) (hzz:zv.cells.size=z) (hxT:appT P xT=true) (hb:i.bytes≤65536) {news:List Value} (hnews:News P w h z ys (a.eval y') news)
    (hE:(∀ n,V.bt n ∈ ys→U8 P e)∧∀ id lo n tg z' fz xs,s.ev x=.sl id lo n tg→s.r.getD id .gone=.row z' fz xs→(∀ m,V.bt m ∈ xs→U8 P e)∧∀ T,tg=false→(∀ m,V.bt m ∈ xs→U8 P T)→∀ m,V.bt m ∈ ys→U8 P T)
    (he:appR s d (s.ev x) ys z=some s'):Stp P φ N c o s' a w:=by
  have vx:=mX_ok S hx
  obtain ⟨z2,n1,n2,n3,n4,n5⟩:=hnews
  have exec:∀ (r:Value) (w':World),(Builtin.append_ #[sT,xT] o.type #[a.eval x',a.eval y']).run P w=.ok r w'→(execOp a.eval o).run P w=.ok (.value r) w':=by
    intro r w' hr
    simp [execOp,ho,resolve,invoke,builtin,hr]
  unfold appR at he
  have grow:∀ (base:Option Addr) (cap n:Nat) (xs:List V) (olds:List Value),a.eval x'=.slice base n cap→xs.length=n→n≤cap→n+ys.length≤lim→cap<n+ys.length→(∀ u,u ∈ xs→u.cells.length=z)→(∀ n,V.bt n ∈ xs++ys→U8 P e)→olds.length=n*z →
      (∀ j u,(flat xs)[j]?=some u→POk w h.Rp u (olds.getD j undef)∧(olds.getD j undef).oneCell'=true)→(Builtin.firstCells z n (.slice base n cap)).run P w.drew=.ok olds.toArray w.drew→∀ s1:St,Sim φ N c s1 a w h→Stp P φ N c o (s1.new d z (xs++ys)) a w:=by
    intro base cap n xs olds f1 hxn hnc hlim hg hxz hnb hol hop hof s1 S1
    simp only [lim] at hlim
    have hkd:KeptR h.Rp w w.drew:=fun _ _ _=>rfl
    have hlen:(xs++ys).length=n+ys.length:=by rw [List.length_append,hxn]
    have hge:=grownCap_ge w (n+ys.length) cap e
    have S0:Sim φ N c s1 a w.drew h:=S1.heap rfl rfl rfl rfl
    have hzc:(Builtin.zeroCells zv.cells (grownCap w (n+ys.length) cap e - (n+ys.length))).size=(grownCap w (n+ys.length) cap e - (n+ys.length))*z:=by rw [size_zeroCells,hzz]
    have hxf:(flat xs).length=n*z:=by rw [aaf hxz,hxn]
    have hyf:(flat ys).length=ys.length*z:=aaf z2
    obtain ⟨h',S'⟩:=S0.newRow (d:=d) (z:=z) (cap:=grownCap w (n+ys.length) cap e) (es:=xs++ys) (cc:=olds.toArray++news.toArray++Builtin.zeroCells zv.cells (grownCap w (n+ys.length) cap e - (n+ys.length))) e (0,0)
      (fun u hu=>by
        rcases List.mem_append.1 hu with hu | hu
        · exact hxz u hu
        · exact z2 u hu)
      (by
        rw [Array.size_append,Array.size_append,hzc]
        simp only [List.size_toArray,hol,n1]
        rw [← Nat.add_mul,← Nat.add_mul]
        congr 1;omega)
      (by rw [hlen];exact hge) (grownCap_le_maxLen w _ _ _ (by simp only [maxLen];omega)) (fun n hn=>by rw [hNP];exact hnb n hn) (fun o _=>by simp)
      (fun j u hj=>by
        rw [acd] at hj
        have happ:olds.toArray++news.toArray=(olds++news).toArray:=by simp
        rw [happ]
        by_cases hlt:j<n*z
        · rw [List.getElem?_append_left (by omega)] at hj
          rw [apq (by rw [List.length_append];omega),ale (by omega)]
          exact ⟨(hop j u hj).1.mono hkd (fun _ _ x=>x),(hop j u hj).2⟩
        · rw [List.getElem?_append_right (by omega)] at hj
          have hj':=(List.getElem?_eq_some_iff.1 hj).1
          rw [apq (by rw [List.length_append];omega),List.getD_eq_getElem?_getD,List.getElem?_append_right (by omega),hol,← List.getD_eq_getElem?_getD]
          rw [hxf] at hj
          exact ⟨(n2 _ u hj).1.mono hkd (fun _ _ x=>x),(n2 _ u hj).2⟩)
    refine Stp.value (w':=w.drew.alloc _) ?_ (by rw [hd];exact S')
    rw [hlen]
    apply exec
    rw [f1]
    refine anp ht hi hz hsz hxT n4 (n5 _ rfl) hof hg (by omega) (growslice_fits hg ?_)
    have:(n+ys.length)*i.bytes≤1073741824*65536:=Nat.mul_le_mul hlim hb
    omega
  split at he
  · 
    rename_i e1
    rw [e1] at vx
    have f1:=vx.nil_inv
    split at he
    · rename_i hlim
      cases he
      by_cases h0:ys=[]
      · subst h0
        obtain ⟨h',S'⟩:=S.newNone (d:=d) z
        refine Stp.value (w':=w) (exec _ _ ?_) (by rw [hd];exact S')
        rw [f1]
        exact ady ht hi hsz hxT n4 (n5 w rfl) (by simp)
      · have hpos:0<ys.length:=Nat.pos_of_ne_zero fun e=>h0 (List.eq_nil_of_length_eq_zero e)
        exact grow none 0 0 [] [] f1 rfl (Nat.le_refl _) (by omega) (by omega) (fun u hu=>by simp at hu) hE.1 (by simp) (fun j u hj=>by simp [ach] at hj) (by simp [Builtin.firstCells]) s S
    · cases he
  · rename_i id lo n tg e1
    rw [e1] at vx
    split at he
    · rename_i z' fz xs hr
      split at he
      · cases he
      · rename_i hzz'
        have hzz'':z'=z:=by simpa using hzz'
        subst hzz''
        have hcx:s.cont z' (.sl id lo n tg)=some ((xs.drop lo).take n):=by simp only [St.cont,hr];rw [if_pos trivial]
        obtain ⟨A,cap,g,f1,hg,f2,f3,f4,f5,f6⟩:=vx.sl_inv2
        have hrs:=aae hr (by simp)
        obtain ⟨g',hg',hrow⟩:=S.r id _ fz xs hrs
        rw [hg] at hg';cases hg'
        replace hrow:=hrow.cells (vx.sl_mp hg)
        obtain ⟨x2,olds,o1,o2,o3,o4,o5⟩:=aot P S vx hcx
        have hxl:((xs.drop lo).take n).length=n:=by
          have:=hrow.2.1
          rw [List.length_take,List.length_drop];omega
        obtain ⟨hE2,hE3⟩:=hE.2 id lo n tg _ fz xs e1 hr
        have hnb2:∀ lo m,V.bt m ∈ (xs.drop lo).take n++ys→U8 P e:=fun lo m hm=>(List.mem_append.1 hm).elim (fun h=>hE2 m (List.mem_of_mem_drop (List.mem_of_mem_take h))) (hE.1 m)
        rw [hxl,f1] at o5
        rw [hxl] at o1
        split at he
        · rename_i hlim
          split at he
          · rename_i htg
            split at he
            · rename_i h0
              cases he
              subst h0
              have fin:(Builtin.append_ #[sT,xT] o.type #[a.eval x',a.eval y']).run P w=.ok (.slice A n cap) w:=by
                rw [f1]
                cases A with
                | none=>exact ady (m:=0) ht hi hsz hxT n4 (n5 w rfl) (by omega)
                | some ad=>
                  have hn:news=[]:=by simpa using n1
                  subst hn
                  exact aep (m:=0) ht hi hsz hxT n4 (n5 w rfl) (by omega) rfl
              refine Stp.value (w':=w) (h':=h) (exec _ _ fin) ?_
              rw [hd,← f1]
              exact S.put (mX_ok S hx)
            · rename_i h0
              cases he
              have hcn:=f4 htg
              have hpos:0<ys.length:=Nat.pos_of_ne_zero fun e=>h0 (List.eq_nil_of_length_eq_zero e)
              exact grow A cap n _ olds f1 hxl f3 hlim (by omega) x2 (hnb2 lo) o1 o2 (o5 _ rfl) s S
          · rename_i htg
            split at he
            · rename_i hfl
              obtain ⟨rfl,rfl⟩:=hfl
              cases he
              rw [List.drop_zero] at x2 o2 hxl
              have S1:=S.gone id
              by_cases hg':cap<n+ys.length
              · exact grow A cap n _ olds f1 hxl f3 hlim hg' x2 (by have:=hnb2 0;rw [List.drop_zero] at this;exact this) o1 o2 (o5 _ rfl) _ S1
              · have hfit:n+ys.length≤cap:=by omega
                by_cases hc0:cap=0
                · subst hc0
                  have hn0:n=0:=by omega
                  have hy0:ys=[]:=List.eq_nil_of_length_eq_zero (by omega)
                  subst hn0 hy0
                  rw [List.take_zero,List.nil_append]
                  have run:(Builtin.append_ #[sT,xT] o.type #[a.eval x',a.eval y']).run P w=.ok (.slice A 0 0) w:=by
                    rw [f1]
                    cases A with
                    | none=>exact ady (m:=0) ht hi hsz hxT n4 (n5 w rfl) (by omega)
                    | some ad=>
                      have hn:news=[]:=by simpa using n1
                      subst hn
                      exact aep (m:=0) ht hi hsz hxT n4 (n5 w rfl) (by omega) rfl
                  obtain ⟨q1,q2,q3,q4⟩:=hrow
                  cases hl:g.loc with
                  | none=>
                    rw [hl] at f6
                    have hA:A=none:=f6
                    subst hA
                    obtain ⟨h',S'⟩:=S1.newNone (d:=d) z'
                    exact Stp.value (w':=w) (exec _ _ run) (by rw [hd];exact S')
                  | some bc=>
                    obtain ⟨b,room⟩:=bc
                    rw [hl] at f6 q4
                    obtain ⟨off,rfl⟩:=f6
                    obtain ⟨cc,T,fr,u1,u2,u3,u4,u5,u6,u7⟩:=q4
                    have F:=S.free_row (id:=id) (b:=b) ⟨z',xs,g,room,hrs,hg,hl⟩
                    have S3:=S1.addRow (z:=z') (xs:=[]) (g:=⟨z',0,some (b,room),false⟩) (fun b' cap' e=>by cases e;exact F)
                      (.inl ⟨rfl,rfl,rfl,fun u hu=>by simp at hu,cc,T,fr,u1,u2,Nat.zero_le _,⟨u4.1,fun n hn=>by simp at hn,fun e _=>u4.2.2 e rfl⟩,u5,(fun e=>nomatch e),fun j u hj=>by simp [ach] at hj⟩)
                    refine Stp.value (w':=w) (exec _ _ run) (by
                      rw [hd]
                      exact S3.put (v:=.sl (s.r.set id .gone).length 0 0 false) (.k (.sl _ 0 _ false _ 0 ⟨z',0,some (b,room),false⟩ (by simp) (by simp) (Nat.le_refl _) (fun e=>nomatch e) ⟨by omega,fun e=>by omega⟩ ⟨off,rfl⟩ rfl)))
                · obtain ⟨q1,q2,q3,q4⟩:=hrow
                  cases hl:g.loc with
                  | none=>rw [hl] at f5;simp only at f5;omega
                  | some bc=>
                    obtain ⟨b,room⟩:=bc
                    rw [hl] at f5 q4
                    simp only at f5 q4
                    obtain ⟨cc,T,fr,u1,u2,u3,u4,u5,u6,u7⟩:=q4
                    have F:=S.free_row (id:=id) (b:=b) ⟨z',xs,g,room,hrs,hg,hl⟩
                    have hA:=f5.2 (by omega)
                    rw [q1,Nat.zero_mul] at hA
                    subst hA
                    have hroom:(n+ys.length)*z'≤cc.size:=by rw [u2];exact Nat.mul_le_mul_right _ (by omega)
                    rw [Nat.add_mul] at hroom
                    obtain ⟨w',hst,U⟩:=aef P b (n*z') news 0 cc w u1 (by omega) (fun j h2 h3=>u5 trivial j (by omega)) n3
                    rw [Nat.add_zero] at U
                    obtain ⟨S2,F2⟩:=S1.setFree F U
                    have FR:Fr (fun k _=>k=b) w w':=U.fr _ fun j hj=>absurd rfl hj
                    have hle:h.Le h w w':=.fr FR S.pl fun k o x=>⟨fun e=>F.r o (e ▸ x),S.rb k o x⟩
                    have hxf:(flat (xs.take n)).length=n*z':=by rw [aaf x2,hxl]
                    have hlen:(xs.take n++ys).length=n+ys.length:=by rw [List.length_append,hxl]
                    have S3:=S2.addRow (z:=z') (xs:=xs.take n++ys) (g:=⟨z',n+ys.length,some (b,room),false⟩) (fun b' cap' e=>by cases e;exact F2)
                      (.inl ⟨rfl,rfl,hlen.symm,fun u hu=>by
                        rcases List.mem_append.1 hu with hu | hu
                        · exact x2 u hu
                        · exact z2 u hu,_,T,fr,U.new,by rw [abp,u2],by rw [hlen];omega,⟨u4.1,fun m hm=>(List.mem_append.1 hm).elim (fun h=>u4.2.1 m (List.mem_of_mem_take h)) (fun h=>by rw [hNP];exact hE3 T (by simpa using htg) (fun m' hm'=>by rw [← hNP];exact u4.2.1 m' hm') m h),fun e _=>u4.2.2 e trivial⟩,fun _ o ho=>u5 trivial o (by rwa [abp] at ho),(fun e=>nomatch e),fun j u hj=>by
                        rw [acd] at hj
                        by_cases hlt:j<n*z'
                        · rw [List.getElem?_append_left (by omega)] at hj
                          rw [aaa,aaq _ _ _ _ (by omega),← aaa]
                          have hj2:(flat xs)[j]?=some u:=by
                            rw [aeb _ _ q3,List.getElem?_take_of_lt hlt] at hj
                            exact hj
                          exact ⟨(u7 j u hj2).1.mono hle.kp hle.p,(u7 j u hj2).2⟩
                        · obtain ⟨k,rfl⟩:∃ k,j=n*z'+k:=⟨j - n*z',by omega⟩
                          rw [List.getElem?_append_right (by omega),hxf,Nat.add_sub_cancel_left] at hj
                          have hk:=(List.getElem?_eq_some_iff.1 hj).1
                          rw [aaf z2] at hk
                          have:=n2 k u hj
                          rw [aaa,aci _ _ _ _ (by omega) (by omega),← List.getD_eq_getElem?_getD]
                          exact ⟨this.1.mono hle.kp hle.p,this.2⟩⟩)
                    refine Stp.value (w':=w') (cv:=.slice (some ⟨b,0,none⟩) (n+ys.length) cap) (exec _ _ ?_) (by
                      rw [hd]
                      refine S3.put (v:=.sl (s.r.set id .gone).length 0 (xs.take n++ys).length false) (.k ?_)
                      rw [hlen]
                      exact .sl _ 0 _ false _ cap ⟨z',n+ys.length,some (b,room),false⟩ (by simp) (by simp) hfit (fun e=>nomatch e) ⟨by omega,fun _=>by simp⟩ ⟨0,rfl⟩ rfl)
                    rw [f1]
                    exact aep ht hi hsz hxT n4 (n5 w rfl) hfit (by rw [aa4,Nat.zero_add];exact hst)
            · cases he
        · cases he
    · cases he
  · cases he
theorem ok_app {d z:Nat} {x y:X} {sT xT e:TypeId} {x' y':Operand} {i:TypeInfo} {zv:Value} (hd:o.dst=some d) (hx:mX φ x x'=true) (hy:mX φ y y'=true) (ho:o.op=.call { callee:=.builtin .append,args:=#[x',y'],argTypes:=#[sT,xT] })
    (ht:P.underlying sT=some (.slice e)) (hi:P.info? e=some i) (hz:i.zero=some zv) (hsz:i.size=z) (hzz:zv.cells.size=z) (hxT:appT P xT=true) (hb:i.bytes≤65536):OpOk P φ o (.app d x y z):=by
  intro N hNP c s s' a w h S he
  have vy:=mX_ok S hy
  simp only [evI] at he
  unfold appV at he
  split at he
  · cases he
  rename_i ys hc
  split at he
  · rename_i hnb
    simp only [Bool.and_eq_true] at hnb
    obtain ⟨z2,news,n1,n2,n3,n4,n5⟩:=aot P S vy hc
    have hno:∀ n,V.bt n ∉ ys:=tagOk hnb.1 z2
    refine ak3 hNP S hd hx ho ht hi hz hsz hzz hxT hb ⟨z2,n1,n2,n3,n4,n5⟩ ⟨fun n hn=>absurd hn (hno n),fun id lo n tg z' fz xs e1 hr=>⟨fun m hm=>?_,fun T _ _ m hm=>absurd hm (hno m)⟩⟩ he
    have h2:=hnb.2
    rw [e1] at h2
    simp only [rowNb,hr] at h2
    obtain ⟨g,hg,hrow⟩:=S.r id _ fz xs (aae hr (by simp))
    have he2:=he
    rw [e1] at he2
    simp only [appR,hr] at he2
    split at he2
    · cases he2
    · rename_i hzz'
      have hzz'':z'=z:=by simpa using hzz'
      subst hzz''
      exact absurd hm (tagOk h2 (hrow.cells ((e1 ▸ mX_ok S hx:VOk φ w h (.sl id lo n tg) _).sl_mp hg)).2.2.1 m)
  · cases he
theorem amg:∀ {l:List V},allBt l=true→0<l.length→∃ n,V.bt n ∈ l
  | [],_,h=>by simp at h
  | v :: l,h,_=>by
    simp only [allBt,Bool.and_eq_true] at h
    unfold isBt at h
    cases v <;> simp at h
    exact ⟨_,List.mem_cons_self ..⟩
theorem ao7:∀ {ys l:List V},btOf ys=some l→∃ ns:List Int,ys=ns.map (V.i .u8)∧l=ns.map V.bt
  | [],l,h=>by cases h;exact ⟨[],rfl,rfl⟩
  | v :: ys,l,h=>by
    unfold btOf at h
    split at h
    · cases h;rename_i e;cases e
    · rename_i n xs e
      cases e
      obtain ⟨l',hl,rfl⟩:=Option.map_eq_some_iff.1 h
      obtain ⟨ns,rfl,rfl⟩:=ao7 hl
      exact ⟨n :: ns,rfl,rfl⟩
    · cases h
theorem ajb {f:Int→V} (h:∀ n,(f n).cells=[f n]):∀ ns:List Int,flat (ns.map f)=ns.map f
  | []=>rfl
  | n :: ns=>by rw [List.map_cons,aa3,ajb h ns,h n];rfl
theorem ok_apb {d:Nat} {x y:X} {sT xT e:TypeId} {x' y':Operand} {i:TypeInfo} {zv:Value} (hd:o.dst=some d) (hx:mX φ x x'=true) (hy:mX φ y y'=true) (ho:o.op=.call { callee:=.builtin .append,args:=#[x',y'],argTypes:=#[sT,xT] })
    (ht:P.underlying sT=some (.slice e)) (hi:P.info? e=some i) (hi2:P.types[e]?=some i) (hz:i.zero=some zv) (hsz:i.size=1) (hzz:zv.cells.size=1) (hxT:appT P xT=true) (hb:i.bytes≤65536) (h8:isU8 i.desc=true):OpOk P φ o (.apb d x y):=by
  intro N hNP c s s' a w h S he
  have vx:=mX_ok S hx
  have vy:=mX_ok S hy
  simp only [evI] at he
  unfold apbV at he
  split at he
  · rename_i l ey
    rw [ey] at vy
    obtain ⟨b,f2,hbl⟩:=vy.s_inv
    subst hbl
    have U:U8 P e:=⟨i,hi2,h8⟩
    have hnw:News P w h 1 (bytesT b.data.toList) (a.eval y') (b.data.toList.map fun x=>.int .u8 x.toNat):=by
      refine ⟨fun x hx=>?_,by simp [bytesT],fun j u hj=>?_,fun x hx=>?_,fun w'=>?_,fun w' _=>?_⟩
      · obtain ⟨_,_,rfl⟩:=List.mem_map.1 hx;rfl
      · have hf:∀ l:List UInt8,flat (bytesT l)=bytesT l:=by
          intro l
          induction l with
          | nil=>rfl
          | cons q l ih=>rw [bytesT,List.map_cons,aa3,← bytesT,ih];rfl
        rw [hf,bytesT,List.getElem?_map] at hj
        obtain ⟨q,hq,rfl⟩:=Option.map_eq_some_iff.1 hj
        rw [List.getD_eq_getElem?_getD,List.getElem?_map,hq]
        exact ⟨.bt _,rfl⟩
      · simp only [List.mem_map] at hx
        obtain ⟨_,_,rfl⟩:=hx;rfl
      · rw [f2];simp [Builtin.lenOf,bytesT]
      · rw [f2]
        have h2:b.extract 0 b.size=b:=by simp
        have h3:b.data.size=b.size:=rfl
        simp [Builtin.firstCells,bytesT,h2,h3]
        apply Array.ext'
        simp
    split at he
    · rename_i hok
      split at he
      · rename_i h0
        cases he
        have exec:∀ (r:Value),(Builtin.append_ #[sT,xT] o.type #[a.eval x',a.eval y']).run P w=.ok r w→(execOp a.eval o).run P w=.ok (.value r) w:=by
          intro r hr
          simp [execOp,ho,resolve,invoke,builtin,hr]
        obtain ⟨_,n1,n2,n3,n4,n5⟩:=hnw
        simp only [h0,bytesT,List.map_nil,List.length_nil] at n4 n5
        have n5:=n5 w rfl
        have same:∃ A n cap,a.eval x'=.slice A n cap∧n≤cap:=by
          unfold okB at hok
          split at hok
          · rename_i e1;rw [e1] at vx;exact ⟨none,0,0,vx.nil_inv,Nat.le_refl _⟩
          · rename_i e1
            rw [e1] at vx
            obtain ⟨A,cap,g,f1,hg,f2,f3,_⟩:=vx.sl_inv
            exact ⟨A,_,cap,f1,f3⟩
          · cases hok
        obtain ⟨A,n,cap,f1,hcap⟩:=same
        refine Stp.value (w':=w) (h':=h) (exec (.slice A n cap) ?_) (by rw [hd,← f1];exact S.put vx)
        rw [f1]
        cases A with
        | none=>exact ady (m:=0) (news:=[]) ht hi hsz hxT n4 n5 (by omega)
        | some ad=>exact aep (m:=0) (news:=[]) ht hi hsz hxT n4 n5 (by omega) rfl
      · rename_i h0
        refine ak3 hNP S hd hx ho ht hi hz hsz hzz hxT hb hnw ⟨fun _ _=>U,fun id lo n tg z' fz xs e1 hr=>⟨fun _ _=>U,fun T htg hT m hm=>?_⟩⟩ he
        rw [e1] at hok
        simp only [okB,hr,htg,Bool.false_or,Bool.and_eq_true,decide_eq_true_eq] at hok
        obtain ⟨q,hq⟩:=amg hok.2.2 (by omega)
        exact hT q hq
    · cases he
  · unfold apbR at he
    split at he
    · rename_i l0 c0 l hbt
      obtain ⟨ys,hc,hvb⟩:=Option.bind_eq_some_iff.1 hbt
      have U:U8 P e:=⟨i,hi2,h8⟩
      obtain ⟨z2,news,n1,n2,n3,n4,n5⟩:=aot P S vy hc
      obtain ⟨ns,rfl,hns⟩:=ao7 hvb
      have hnw:News P w h 1 (c0 :: l) (a.eval y') news:=by
        have hlen:(c0 :: l).length=(ns.map (V.i .u8)).length:=by rw [hns];simp
        refine ⟨fun x hx=>?_,by rw [n1,hlen],fun j u hj=>?_,n3,fun w'=>by rw [n4,hlen],fun w' hw=>by rw [hlen];exact n5 w' hw⟩
        · rw [hns] at hx;obtain ⟨_,_,rfl⟩:=List.mem_map.1 hx;rfl
        · rw [hns,ajb fun _=>rfl,List.getElem?_map] at hj
          obtain ⟨q,hq,rfl⟩:=Option.map_eq_some_iff.1 hj
          have:=n2 j (.i .u8 q) (by rw [ajb fun _=>rfl,List.getElem?_map,hq];rfl)
          obtain ⟨h1,_⟩:=this
          generalize news.getD j undef=y at h1 ⊢
          cases h1
          exact ⟨.bt _,rfl⟩
      split at he
      · rename_i hok
        refine ak3 hNP S hd hx ho ht hi hz hsz hzz hxT hb hnw ⟨fun _ _=>U,fun id lo n tg z' fz xs e1 hr=>⟨fun _ _=>U,fun T htg hT m hm=>?_⟩⟩ he
        rw [e1] at hok
        simp only [okB,hr,htg,Bool.false_or,Bool.and_eq_true,decide_eq_true_eq] at hok
        obtain ⟨q,hq⟩:=amg hok.2.2 (by omega)
        exact hT q hq
      · cases he
    · cases he
end
end Go.VS
end
