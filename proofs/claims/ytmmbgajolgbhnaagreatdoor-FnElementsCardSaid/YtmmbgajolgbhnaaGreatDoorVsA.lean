import GoSem.Dispatch
set_option linter.all false
namespace Go.VS
def lim:Nat:=1073741824
inductive V where
  | b (x:Bool)
  | i (k:IntKind) (n:Int)
  | s (l:List UInt8)
  | nil
  | np
  | nf
  | no
  | view (q:Bool) (z:Nat) (xs:List V)
  | sl (id lo n:Nat) (tg:Bool)
  | ptr (id off:Nat)
  | ep (id idx off:Nat)
  | vp (cs:List V)
  | fn (f:Nat) (caps:List V)
  | agg (cs:List V)
  | tup (vs:List V)
  | bz
  | bt (n:Int)
  | mr (id:Nat)
  deriving Inhabited
def V.cells:V→List V
  | .agg cs=>cs
  | v=>[v]
def flat (xs:List V):List V:=xs.flatMap V.cells
inductive Rw where
  | row (z:Nat) (fz:Bool) (xs:List V)
  | gone
  deriving Inhabited
structure St where
  t:List V
  m:List (List V)
  r:List Rw
inductive X where
  | t (n:Nat)
  | c (v:V)
def St.ev (s:St):X→V
  | .t n=>s.t.getD n .no
  | .c v=>v
def St.put (s:St) (d:Nat) (v:V):St:={ s with t:=s.t.set d v }
def St.putO (s:St) (d:Option Nat) (v:V):St:=match d with | some d=>s.put d v | none=>s
inductive Md where
  | b (k:Nat)
  | m (k:Nat)
inductive Ck where
  | np (y:X)
  | dj (ys:List X)
  | sb (y z:X)
  | df (y z:X)
  | dq (ys:List X)
inductive I where
  | mv (d:Nat) (x:X)
  | bin (d:Nat) (op:BinOp) (x y:X)
  | un (d:Nat) (op:UnOp) (x:X)
  | pick (d:Nat) (c x y:X)
  | cvi (d:Nat) (k:IntKind) (x:X)
  | cvn (d:Nat) (x:X)
  | cvb (d:Nat) (x:X)
  | cvs (d:Nat) (x:X)
  | ext (d:Nat) (x:X) (j:Nat)
  | fld (d:Nat) (x:X) (off z:Nat) (ag:Bool)
  | bld (d:Nat) (zs:List V) (ps:List (Nat × Nat × X))
  | bsl (d:Nat) (z:Nat) (ps:List X)
  | mks (d:Nat) (z:Nat) (el:V) (len cap:X)
  | alc (d:Nat) (zs:List V)
  | box (d:Nat) (x:X)
  | ld (d:Nat) (x:X) (z:Nat) (ag:Bool)
  | st (x v:X) (z:Nat)
  | nck (d:Nat) (x:X)
  | fad (d:Nat) (x:X) (off:Nat)
  | ixa (d:Nat) (x i:X) (z:Nat)
  | ixs (d:Nat) (x i:X)
  | slc (d:Nat) (x:X) (lo hi:Option X) (z:Nat)
  | len (d:Nat) (str:Bool) (x:X)
  | app (d:Nat) (x y:X) (z:Nat)
  | apb (d:Nat) (x y:X)
  | mm (d:Nat) (mx:Bool) (x y:X)
  | mkf (d:Nat) (f:Nat) (caps:List X)
  | eqs (d:Nat) (neq:Bool) (x y:X)
  | eqb (d:Nat) (neq:Bool) (x y:X)
  | eqn (d:Nat) (k:Nat) (neq:Bool) (x y:X)
  | frz (d:Nat) (x:X)
  | clr (d:Option Nat) (x:X) (z:Nat) (el:V)
  | cpy (d:Option Nat) (x y:X)
  | mkm (d:Nat)
  | mup (str:Bool) (m k v:X)
  | mlk (d:Nat) (str:Bool) (zv:V) (m k:X) (ok:Bool)
  | call (d:Option Nat) (f:Nat) (as:List (X × Md))
  | callv (d:Option Nat) (x:X) (as:List (X × Md))
  | callg (d:Option Nat) (f:Nat) (as:List X)
  | callr (d:Option Nat) (f:Nat) (as:List (X × Nat))
  | g (sl:Nat) (w:Bool) (d:Option Nat) (i:I)
  | ck (c:Ck) (i:I)
def isD (is:List I) (i:Nat):I:=is.getD i (.st (.t 0) (.t 0) 0)
inductive C where
  | r (is:List I)
  | ra (is:List I) (cs:List Nat) (alts:List (List Nat))
  | seq (a b:C)
  | cond (x:X) (a b:C)
  | blk (id:Nat) (c:C)
  | loop (lv:List Nat) (ow:List (Nat × Nat)) (om:List (Nat × Nat × Nat)) (c:C)
  | ex (id:Nat)
  | ret
  | skip
  | any
def bandI (k:IntKind) (x y:Int):Int:=k.wrap (BitVec.ofInt k.bits x &&& BitVec.ofInt k.bits y).toNat
def borI (k:IntKind) (x y:Int):Int:=k.wrap (BitVec.ofInt k.bits x ||| BitVec.ofInt k.bits y).toNat
def bxorI (k:IntKind) (x y:Int):Int:=k.wrap (BitVec.ofInt k.bits x ^^^ BitVec.ofInt k.bits y).toNat
def bandnI (k:IntKind) (x y:Int):Int:=k.wrap (BitVec.ofInt k.bits x &&& ~~~(BitVec.ofInt k.bits y)).toNat
def binI (op:BinOp) (k:IntKind) (x y:Int):Option V:=
  match op with
  | .add=>some (.i k (k.wrap (x+y)))
  | .sub=>some (.i k (k.wrap (x - y)))
  | .mul=>some (.i k (k.wrap (x*y)))
  | .quo=>if y=0 then none else some (.i k (k.wrap (x.tdiv y)))
  | .rem=>if y=0 then none else some (.i k (x.tmod y))
  | .and=>some (.i k (bandI k x y))
  | .or=>some (.i k (borI k x y))
  | .xor=>some (.i k (bxorI k x y))
  | .andNot=>some (.i k (bandnI k x y))
  | .eql=>some (.b (decide (x=y)))
  | .neq=>some (.b (!decide (x=y)))
  | .lss=>some (.b (decide (x<y)))
  | .leq=>some (.b (decide (x≤y)))
  | .gtr=>some (.b (decide (y<x)))
  | .geq=>some (.b (decide (y≤x)))
  | _=>none
def shI (op:BinOp) (k:IntKind) (x y:Int):Option V:=
  match op with
  | .shl=>if y<0 then none else some (.i k (k.wrap (x*2 ^ (min y.toNat k.bits))))
  | .shr=>if y<0 then none else some (.i k (x.fdiv (2 ^ (min y.toNat k.bits))))
  | _=>none
def binS (op:BinOp) (x y:List UInt8):Option V:=
  match op with
  | .add=>if x.length+y.length≤lim then some (.s (x++y)) else none
  | .eql=>some (.b (decide (x=y)))
  | .neq=>some (.b (!decide (x=y)))
  | .lss=>some (.b (Op.bytesLess x y))
  | .leq=>some (.b (Op.bytesLess x y || decide (x=y)))
  | .gtr=>some (.b (!(Op.bytesLess x y || decide (x=y))))
  | .geq=>some (.b (!Op.bytesLess x y))
  | _=>none
def eqNil (k:Nat) (x y:V):Option Bool:=
  match k,x,y with
  | 0,.np,.np=>some true
  | 0,.np,.ptr _ _=>some false
  | 0,.np,.ep _ _ _=>some false
  | 0,.np,.vp _=>some false
  | 0,.ptr _ _,.np=>some false
  | 0,.ep _ _ _,.np=>some false
  | 0,.vp _,.np=>some false
  | 1,.nil,.nil=>some true
  | 1,.nil,.view _ (_+1) (_ :: _)=>some false
  | 1,.nil,.sl _ _ (_+1) _=>some false
  | 1,.view _ (_+1) (_ :: _),.nil=>some false
  | 1,.sl _ _ (_+1) _,.nil=>some false
  | 2,.nf,.nf=>some true
  | 2,.nf,.fn _ _=>some false
  | 2,.fn _ _,.nf=>some false
  | _,_,_=>none
def isShift:BinOp→Bool
  | .shl=>true
  | .shr=>true
  | _=>false
def binV (op:BinOp) (x y:V):Option V:=
  match x,y with
  | .i k a,.i k' b=>if isShift op then shI op k a b else if k=k' then binI op k a b else none
  | .s a,.s b=>binS op a b
  | _,_=>none
def nckV:V→Bool
  | .ptr _ _=>true
  | .ep _ _ _=>true
  | .vp _=>true
  | .fn _ _=>true
  | _=>false
def unV (op:UnOp) (x:V):Option V:=
  match op,x with
  | .neg,.i k n=>some (.i k (k.wrap (0 - n)))
  | .not,.b x=>some (.b (!x))
  | .xor,.i k n=>some (.i k (bxorI k (if k.signed then -1 else k.max) n))
  | _,_=>none
def pickV (c x y:V):Option V:=
  match c,x,y with
  | .b c,.b x,.b y=>some (.b (if c then x else y))
  | .b c,x,y=>some (if c then x else y)
  | _,_,_=>none
def leafEq:List V→List V→Option Bool
  | [],[]=>some true
  | .i k a :: xs,.i k' b :: ys=>if k=k' then (leafEq xs ys).map fun r=>decide (a=b) && r else none
  | .s a :: xs,.s b :: ys=>(leafEq xs ys).map fun r=>decide (a=b) && r
  | .b a :: xs,.b b :: ys=>(leafEq xs ys).map fun r=>(a == b) && r
  | _,_=>none
def mmI (mx:Bool) (x y:V):Option V:=
  match x,y with
  | .i k a,.i k' b=>if k=k' then some (.i k (if mx then max a b else min a b)) else none
  | _,_=>none
def mkV (ag:Bool) (cs:List V):Option V:=if ag then some (.agg cs) else match cs with | [v]=>some v | _=>none
def setAt:List V→Nat→List V→List V
  | cs,_,[]=>cs
  | cs,o,v :: vs=>setAt (cs.set o v) (o+1) vs
def range (cs:List V) (off k:Nat):Option (List V):=if off+k≤cs.length then some ((cs.drop off).take k) else none
def elSet (e:V) (off:Nat) (vs:List V):Option V:=
  match e,vs with
  | .agg cs,vs=>if off+vs.length≤cs.length then some (.agg (setAt cs off vs)) else none
  | _,[v]=>if off=0 then some v else none
  | _,_=>none
def isLeaf:V→Bool
  | .agg _=>false
  | .tup _=>false
  | .no=>false
  | .bz=>false
  | .bt _=>false
  | _=>true
def isCap:V→Bool
  | .agg _=>false
  | .tup _=>false
  | _=>true
def bytesV (l:List UInt8):List V:=l.map fun b=>.i .u8 b.toNat
def bytesT (l:List UInt8):List V:=l.map fun b=>.bt b.toNat
def tbytes:List V→Option (List UInt8)
  | []=>some []
  | .bt n :: xs=>if n=((UInt8.ofNat n.toNat).toNat:Int) then (tbytes xs).map fun l=>UInt8.ofNat n.toNat :: l else none
  | _=>none
def isBt:V→Bool
  | .bt _=>true
  | _=>false
def noBt:List V→Bool
  | []=>true
  | v :: vs=>!isBt v && noBt vs
def allBt:List V→Bool
  | []=>true
  | v :: vs=>isBt v && allBt vs
def vbytes:List V→Option (List UInt8)
  | []=>some []
  | .i .u8 n :: xs=>(vbytes xs).map fun l=>UInt8.ofNat n.toNat :: l
  | _=>none
def St.cont (s:St) (z:Nat):V→Option (List V)
  | .nil=>some []
  | .view _ z' xs=>if z'=z then some xs else none
  | .sl id lo n _=>match s.r.getD id .gone with
    | .row z' _ xs=>if z'=z then some ((xs.drop lo).take n) else none
    | .gone=>none
  | .s l=>if z=1 then some (bytesV l) else none
  | _=>none
def frzL (v:V) (s:St):Option (V × St):=
  match v with
  | .b x=>some (.b x,s)
  | .i k n=>some (.i k n,s)
  | .s l=>some (.s l,s)
  | .nil=>some (.nil,s)
  | .np=>some (.np,s)
  | .nf=>some (.nf,s)
  | .view true z xs=>some (.view true z xs,s)
  | .sl id lo n _=>match s.r.getD id .gone with
    | .row z _ xs=>some (.view true z ((xs.drop lo).take n),{ s with r:=s.r.set id (.row z true xs) })
    | .gone=>none
  | _=>none
def frzs:List V→St→Option (List V × St)
  | [],s=>some ([],s)
  | v :: vs,s=>match frzL v s with
    | some (v',s')=>match frzs vs s' with
      | some (vs',s'')=>some (v' :: vs',s'')
      | none=>none
    | none=>none
def frzV (v:V) (s:St):Option (V × St):=
  match v with
  | .agg cs=>match frzs cs s with
    | some (cs',s')=>some (.agg cs',s')
    | none=>none
  | v=>frzL v s
def frzVs:List V→St→Option (List V × St)
  | [],s=>some ([],s)
  | v :: vs,s=>match frzV v s with
    | some (v',s')=>match frzVs vs s' with
      | some (vs',s'')=>some (v' :: vs',s'')
      | none=>none
    | none=>none
def asN:V→Option Int
  | .i _ n=>some n
  | _=>none
def bnds (len:Nat) (lo hi:Option V):Option (Nat × Nat):=
  match (match hi with | none=>some (len:Int) | some h=>asN h),(match lo with | none=>some 0 | some l=>asN l) with
  | some h,some l=>if 0≤l∧l≤h∧h≤len then some (l.toNat,h.toNat) else none
  | _,_=>none
def slcV (s:St) (z:Nat) (x:V) (lo hi:Option V):Option V:=
  match z with
  | 0=>match x with
    | .s b=>(bnds b.length lo hi).map fun (l,h)=>.s ((b.take h).drop l)
    | _=>none
  | z+1=>match x with
    | .view q z' xs=>if z'=z+1 then (bnds xs.length lo hi).map fun (l,h)=>.view q (z+1) ((xs.take h).drop l) else none
    | .sl id a n tg=>match s.r.getD id .gone with
      | .row z' _ _=>if z'=z+1 then (bnds n lo hi).map fun (l,h)=>.sl id (a+l) (h - l) (tg && h == n) else none
      | .gone=>none
    | .nil=>(bnds 0 lo hi).map fun _=>.nil
    | _=>none
def lenV (str:Bool) (v:V):Option Nat:=
  match str,v with
  | true,.s l=>some l.length
  | false,.nil=>some 0
  | false,.view _ _ xs=>some xs.length
  | false,.sl _ _ n _=>some n
  | _,_=>none
def idxV (s:St) (z:Nat) (x i:V):Option V:=
  match i with
  | .i _ n=>
    match x with
    | .view _ z' xs=>if z'=z∧0≤n∧n<xs.length then some (.vp (xs.getD n.toNat .no).cells) else none
    | .sl id lo m _=>match s.r.getD id .gone with
      | .row z' _ _=>if z'=z∧0≤n∧n<m then some (.ep id (lo+n.toNat) 0) else none
      | .gone=>none
    | _=>none
  | _=>none
def loadV (s:St) (p:V) (z:Nat) (ag:Bool):Option V:=
  match p with
  | .ptr id off=>(range (s.m.getD id []) off z).bind (mkV ag)
  | .vp cs=>(range cs 0 z).bind (mkV ag)
  | .ep id idx off=>match s.r.getD id .gone with
    | .row _ _ xs=>(range (xs.getD idx .no).cells off z).bind (mkV ag)
    | .gone=>none
  | _=>none
def storeV (s:St) (p v:V) (z:Nat):Option St:=
  if v.cells.length≠z then none else
  match p with
  | .ptr id off=>if v.cells.all isLeaf∧off+z≤(s.m.getD id []).length then some { s with m:=s.m.set id (setAt (s.m.getD id []) off v.cells) } else none
  | .ep id idx off=>
    match frzs v.cells s with
    | some (cs,s)=>
      match s.r.getD id .gone with
      | .row z' false xs=>(elSet (xs.getD idx .no) off cs).bind fun e=>some { s with r:=s.r.set id (.row z' false (xs.set idx e)) }
      | _=>none
    | none=>none
  | _=>none
def fadV (p:V) (off:Nat):Option V:=
  match p with
  | .ptr id o=>some (.ptr id (o+off))
  | .ep id idx o=>some (.ep id idx (o+off))
  | .vp cs=>some (.vp (cs.drop off))
  | _=>none
def St.new (s:St) (d:Nat) (z:Nat) (xs:List V):St:=⟨s.t.set d (.sl s.r.length 0 xs.length false),s.m,s.r++[.row z false xs]⟩
def appR (s:St) (d:Nat) (x:V) (ys:List V) (z:Nat):Option St:=
  match x with
  | .nil=>if ys.length≤lim then some (s.new d z ys) else none
  | .sl id lo n tg=>
    match s.r.getD id .gone with
    | .row z' fz xs=>
      if z'≠z then none else
      if n+ys.length≤lim then
        if tg then if ys=[] then some (s.put d x) else some (s.new d z ((xs.drop lo).take n++ys))
        else if fz=false∧lo=0 then some ({ s with r:=s.r.set id .gone }.new d z (xs.take n++ys)) else none
      else none
    | .gone=>none
  | _=>none
def nbOk (z:Nat) (xs:List V):Bool:=z != 1 || noBt xs
def rowNb (s:St) (z:Nat):V→Bool
  | .sl id _ _ _=>match s.r.getD id .gone with | .row _ _ xs=>nbOk z xs | .gone=>true
  | _=>true
def appV (s:St) (d:Nat) (x y:V) (z:Nat):Option St:=
  match s.cont z y with
  | none=>none
  | some ys=>if nbOk z ys && rowNb s z x then appR s d x ys z else none
def okB (s:St):V→Bool
  | .nil=>true
  | .sl id lo n tg=>match s.r.getD id .gone with
    | .row _ _ xs=>decide (lo=0) && decide (n=xs.length) && (tg || (decide (0<n) && allBt xs))
    | .gone=>false
  | _=>false
def btOf:List V→Option (List V)
  | []=>some []
  | .i .u8 n :: xs=>(btOf xs).map (.bt n :: ·)
  | _=>none
def apbR (s:St) (d:Nat) (x:V):Option (List V)→Option St
  | some (c :: l)=>if okB s x then appR s d x (c :: l) 1 else none
  | _=>none
def apbV (s:St) (d:Nat) (x y:V):Option St:=
  match y with
  | .s l=>if okB s x then (if l=[] then some (s.put d x) else appR s d x (bytesT l) 1) else none
  | y=>apbR s d x ((s.cont 1 y).bind btOf)
def bldV (s:St):List V→List (Nat × Nat × X)→Option V
  | cs,[]=>some (.agg cs)
  | cs,(o,z,x) :: ps=>if (s.ev x).cells.all isLeaf∧(s.ev x).cells.length=z∧o+z≤cs.length then bldV s (setAt cs o (s.ev x).cells) ps else none
def clrV (s:St) (x:V) (z:Nat) (el:V):Option St:=
  match x with
  | .nil=>some s
  | .sl id lo n _=>match s.r.getD id .gone with
    | .row z' false xs=>if z'=z then some { s with r:=s.r.set id (.row z' false (xs.take lo++(List.replicate n el++xs.drop (lo+n)))) } else none
    | _=>none
  | _=>none
def cpyV (s:St) (x y:V):Option (St × Nat):=
  match y with
  | .s l=>match x with
    | .nil=>some (s,0)
    | .sl id lo n _=>match s.r.getD id .gone with
      | .row z' false xs=>if z'=1 then some ({ s with r:=s.r.set id (.row z' false (xs.take lo++(bytesV (l.take n)++xs.drop (lo+(l.take n).length)))) },(l.take n).length) else none
      | _=>none
    | _=>none
  | _=>none
def kEq (str:Bool):V→V→Option Bool
  | .i .i64 a,.i .i64 b=>if str then none else some (decide (a=b))
  | .s a,.s b=>if str then some (decide (a=b)) else none
  | _,_=>none
def isKey (str:Bool):V→Bool
  | .i .i64 _=>!str
  | .s _=>str
  | _=>false
def mFind (str:Bool) (k:V):List V→Nat→Option (Option Nat)
  | [],_=>some none
  | .agg [k',_] :: xs,i=>match kEq str k k' with
    | some true=>some (some i)
    | some false=>mFind str k xs (i+1)
    | none=>none
  | _,_=>none
def mIns (str:Bool) (k v:V) (xs:List V):Option (List V):=
  match mFind str k xs 0 with
  | some (some i)=>some (xs.set i (.agg [k,v]))
  | some none=>some (xs++[.agg [k,v]])
  | none=>none
def mupV (s:St) (str:Bool) (m k v:V):Option St:=
  match frzL v s with
  | some (v,s)=>match m with
    | .mr id=>match s.r.getD id .gone with
      | .row z false xs=>if isKey str k then (mIns str k v xs).map fun xs=>{ s with r:=s.r.set id (.row z false xs) } else none
      | _=>none
    | _=>none
  | none=>none
def mGet (xs:List V) (i:Nat):Option V:=match xs[i]? with
  | some (.agg [_,v])=>some v
  | _=>none
def mlkV (s:St) (str:Bool) (zv:V) (m k:V) (ok:Bool):Option V:=
  match m with
  | .mr id=>match s.r.getD id .gone with
    | .row _ _ xs=>if isKey str k then match mFind str k xs 0 with
      | some (some i)=>(mGet xs i).map fun v=>if ok then .tup [v,.b true] else v
      | some none=>some (if ok then .tup [zv,.b false] else zv)
      | none=>none
      else none
    | .gone=>none
  | _=>none
def mksV (s:St) (d z:Nat) (el len cap:V):Option St:=
  match len,cap with
  | .i _ n,.i _ c=>if 0≤n∧n≤c∧c≤lim then some (s.new d z (List.replicate n.toNat el)) else none
  | _,_=>none
def evI:I→St→Option St
  | .mv d x,s=>some (s.put d (s.ev x))
  | .bin d op x y,s=>(binV op (s.ev x) (s.ev y)).map (s.put d)
  | .un d op x,s=>(unV op (s.ev x)).map (s.put d)
  | .pick d c x y,s=>(pickV (s.ev c) (s.ev x) (s.ev y)).map (s.put d)
  | .cvi d k x,s=>(asN (s.ev x)).map fun n=>s.put d (.i k (k.wrap n))
  | .cvn d x,s=>match s.ev x with | .s l=>some (s.put d (.s l)) | _=>none
  | .cvb d x,s=>match s.ev x with | .s l=>if l.length≤lim then some (s.new d 1 (bytesV l)) else none | _=>none
  | .cvs d x,s=>match s.ev x with | .s _=>none | v=>((s.cont 1 v).bind vbytes).map fun l=>s.put d (.s l)
  | .ext d x j,s=>match s.ev x with | .tup vs=>(vs[j]?).map (s.put d) | _=>none
  | .fld d x off z ag,s=>match s.ev x with | .agg cs=>((range cs off z).bind (mkV ag)).map (s.put d) | _=>none
  | .bld d zs ps,s=>(bldV s zs ps).map (s.put d)
  | .bsl d z ps,s=>match frzVs (ps.map s.ev) s with
    | some (es,s)=>if es.all (·.cells.length == z) then some (s.new d z es) else none
    | none=>none
  | .mks d z el len cap,s=>mksV s d z el (s.ev len) (s.ev cap)
  | .alc d zs,s=>some ⟨s.t.set d (.ptr s.m.length 0),s.m++[zs],s.r⟩
  | .box d x,s=>if (s.ev x).cells.all isLeaf then some ⟨s.t.set d (.ptr s.m.length 0),s.m++[(s.ev x).cells],s.r⟩ else none
  | .ld d x z ag,s=>(loadV s (s.ev x) z ag).map (s.put d)
  | .st x v z,s=>storeV s (s.ev x) (s.ev v) z
  | .nck d x,s=>if nckV (s.ev x) then some (s.put d (s.ev x)) else none
  | .fad d x off,s=>(fadV (s.ev x) off).map (s.put d)
  | .ixa d x i z,s=>(idxV s z (s.ev x) (s.ev i)).map (s.put d)
  | .ixs d x i,s=>match s.ev x,s.ev i with
    | .s l,.i _ n=>if 0≤n∧n<l.length then some (s.put d (.i .u8 (l.getD n.toNat 0).toNat)) else none
    | _,_=>none
  | .slc d x lo hi z,s=>(slcV s z (s.ev x) (lo.map s.ev) (hi.map s.ev)).map (s.put d)
  | .len d str x,s=>(lenV str (s.ev x)).map fun (n:Nat)=>s.put d (.i .i64 (n:Int))
  | .app d x y z,s=>appV s d (s.ev x) (s.ev y) z
  | .apb d x y,s=>apbV s d (s.ev x) (s.ev y)
  | .mm d mx x y,s=>(mmI mx (s.ev x) (s.ev y)).map (s.put d)
  | .mkf d f caps,s=>if (caps.map s.ev).all isCap then some (s.put d (.fn f (caps.map s.ev))) else none
  | .eqs d neq x y,s=>match s.ev x,s.ev y with
    | .agg a,.agg b=>(leafEq a b).map fun r=>s.put d (.b (r ^^ neq))
    | _,_=>none
  | .eqb d neq x y,s=>match s.ev x,s.ev y with
    | .b a,.b b=>some (s.put d (.b ((a == b) ^^ neq)))
    | _,_=>none
  | .eqn d k neq x y,s=>(eqNil k (s.ev x) (s.ev y)).map fun r=>s.put d (.b (r ^^ neq))
  | .frz d x,s=>match frzV (s.ev x) s with
    | some (v,s)=>some (s.put d v)
    | none=>none
  | .clr d x z el,s=>(clrV s (s.ev x) z el).map (·.putO d (.tup []))
  | .cpy d x y,s=>(cpyV s (s.ev x) (s.ev y)).map fun p=>p.1.putO d (.i .i64 (p.2:Int))
  | .mkm d,s=>some ⟨s.t.set d (.mr s.r.length),s.m,s.r++[.row 0 false []]⟩
  | .mup str m k v,s=>mupV s str (s.ev m) (s.ev k) (s.ev v)
  | .mlk d str zv m k ok,s=>(mlkV s str zv (s.ev m) (s.ev k) ok).map (s.put d)
  | _,_=>none
structure Xp where
  bl:List (Nat × Nat × Nat)
  rw:List Nat
def findBl (id off k:Nat):List (Nat × Nat × Nat)→Nat→Option (Nat × Nat)
  | [],_=>none
  | (id',off',k') :: bs,j=>if id=id'∧off'≤off∧off+k≤off'+k' then some (j,off - off') else findBl id off k bs (j+1)
def clashes (id off k:Nat) (bl:List (Nat × Nat × Nat)):Bool:=
  bl.any fun (id',off',k')=>id == id' && decide (off<off'+k') && decide (off'<off+k)
def expL (s:St) (k:Nat) (v:V) (xp:Xp):Option (V × Xp):=
  match v with
  | .ptr id off=>
    let k:=if k=0 then (s.m.getD id []).length - off else k
    match findBl id off k xp.bl 0 with
    | some (j,o)=>some (.ptr j o,xp)
    | none=>if clashes id off k xp.bl=false∧0<k∧off+k≤(s.m.getD id []).length then some (.ptr xp.bl.length 0,{ xp with bl:=xp.bl++[(id,off,k)] }) else none
  | .sl id lo n tg=>match s.r.getD id .gone with
    | .row _ _ _=>if id ∈ xp.rw then some (.sl (xp.rw.idxOf id) lo n tg,xp) else some (.sl xp.rw.length lo n tg,{ xp with rw:=xp.rw++[id] })
    | .gone=>none
  | .mr id=>match s.r.getD id .gone with
    | .row _ _ _=>if id ∈ xp.rw then some (.mr (xp.rw.idxOf id),xp) else some (.mr xp.rw.length,{ xp with rw:=xp.rw++[id] })
    | .gone=>none
  | .ep _ _ _=>none
  | .fn _ _=>none
  | .agg _=>none
  | .tup _=>none
  | v=>some (v,xp)
def expLs (s:St) (k:Nat):List V→Xp→Option (List V × Xp)
  | [],xp=>some ([],xp)
  | v :: vs,xp=>match expL s k v xp with
    | some (v',xp')=>match expLs s k vs xp' with
      | some (vs',xp'')=>some (v' :: vs',xp'')
      | none=>none
    | none=>none
def expV (s:St) (k:Nat) (v:V) (xp:Xp):Option (V × Xp):=
  match v with
  | .agg cs=>match expLs s 0 cs xp with
    | some (cs',xp')=>some (.agg cs',xp')
    | none=>none
  | .fn f caps=>match expLs s 0 caps xp with
    | some (cs',xp')=>some (.fn f cs',xp')
    | none=>none
  | v=>expL s k v xp
def expAs (s:St):List (X × Md)→Xp→Option (List V × Xp)
  | [],xp=>some ([],xp)
  | (_,.b _) :: as,xp=>match expAs s as xp with
    | some (vs,xp')=>some (.no :: vs,xp')
    | none=>none
  | (x,.m k) :: as,xp=>match expV s k (s.ev x) xp with
    | some (v,xp')=>match expAs s as xp' with
      | some (vs,xp'')=>some (v :: vs,xp'')
      | none=>none
    | none=>none
def lend (s:St) (xp:Xp):Nat→V→V
  | 0,_=>.no
  | n+1,v=>match v with
    | .sl id lo k _=>match s.r.getD id .gone with
      | .row z true xs=>.view true z ((xs.drop lo).take k)
      | .row z false xs=>if id ∈ xp.rw then .no else .view false z ((xs.drop lo).take k)
      | .gone=>.no
    | .ptr id off=>if clashes id off ((s.m.getD id []).length - off) xp.bl then .no else .vp (((s.m.getD id []).drop off).map (lend s xp n))
    | .ep id idx off=>match s.r.getD id .gone with
      | .row _ fz xs=>if fz=false∧id ∈ xp.rw then .no else .vp ((xs.getD idx .no).cells.drop off)
      | .gone=>.no
    | .fn f caps=>.fn f (caps.map (lend s xp n))
    | .agg cs=>.agg (cs.map (lend s xp n))
    | .tup _=>.no
    | .mr _=>.no
    | v=>v
def lendA (s:St) (xp:Xp) (k:Nat) (v:V):V:=
  match v with
  | .nil=>if k=0 then .nil else .view true k []
  | .ptr id off=>if k=0 then lend s xp 4 v else if clashes id off k xp.bl then .no else .vp ((((s.m.getD id []).drop off).take k).map (lend s xp 3))
  | v=>match lend s xp 4 v with
    | .vp cs=>if k=0 then .vp cs else .vp (cs.take k)
    | v=>v
def lends (s:St) (xp:Xp):List (X × Md)→List V→List V
  | (x,.b k) :: as,_ :: vs=>lendA s xp k (s.ev x) :: lends s xp as vs
  | (_,.m _) :: as,v :: vs=>v :: lends s xp as vs
  | _,_=>[]
def isLent:V→Bool
  | .view false _ _=>true
  | .vp _=>true
  | .fn _ _=>true
  | _=>false
def expBl (s:St):Nat→Nat→Xp→Option (List (List V) × Xp)
  | 0,_,_=>none
  | f+1,j,xp=>match xp.bl[j]? with
    | none=>some ([],xp)
    | some (id,off,k)=>match range (s.m.getD id []) off k with
      | none=>none
      | some cs=>
        if cs.any isLent then none else
        match expLs s 0 cs xp with
        | some (cs',xp')=>match expBl s f (j+1) xp' with
          | some (bs,xp'')=>some (cs' :: bs,xp'')
          | none=>none
        | none=>none
def expo (s:St) (as:List (X × Md)) (caps:List V):Option (St × Xp):=
  match expAs s as ⟨[],[]⟩ with
  | none=>none
  | some (vs,xp)=>match expLs s 0 caps xp with
    | none=>none
    | some (cs,xp)=>match expBl s (s.m.length+1) 0 xp with
      | none=>none
      | some (bs,xp)=>some (⟨lends s xp as vs++cs,bs,xp.rw.map fun id=>s.r.getD id .gone⟩,xp)
def impL (bl:List (Nat × Nat × Nat)) (base:Nat):V→V
  | .sl id lo n tg=>.sl (base+id) lo n tg
  | .mr id=>.mr (base+id)
  | .ptr j o=>match bl[j]? with
    | some (id,off,_)=>.ptr id (off+o)
    | none=>.no
  | v=>v
def V.mapL (f:V→V):V→V
  | .agg cs=>.agg (cs.map f)
  | .tup vs=>.tup (vs.map fun | .agg cs=>.agg (cs.map f) | v=>f v)
  | .fn k caps=>.fn k (caps.map f)
  | v=>f v
def impM (base:Nat) (bl:List (Nat × Nat × Nat)):List (Nat × Nat × Nat)→List (List V)→List (List V)→List (List V)
  | (id,off,_) :: bs,cs :: ms,m=>impM base bl bs ms (m.set id (setAt (m.getD id []) off (cs.map (impL bl base))))
  | _,_,m=>m
def gones:List Nat→List Rw→List Rw
  | [],r=>r
  | id :: ids,r=>gones ids (r.set id .gone)
def impo (s:St) (xp:Xp) (d:Option Nat) (v:V) (m:List (List V)) (r:List Rw):St:=
  (St.mk s.t (impM s.r.length xp.bl xp.bl m s.m) (gones xp.rw s.r++r)).putO d (v.mapL (impL xp.bl s.r.length))
def backs (base:Nat):Nat→List Nat→List Rw→List Rw
  | _,[],r=>r
  | j,id :: ids,r=>backs base (j+1) ids ((r.set id (r.getD (base+j) .gone)).set (base+j) .gone)
def impoF (f:Nat) (s:St) (xp:Xp) (d:Option Nat) (v:V) (m:List (List V)) (r:List Rw):St:=
  if 1000≤f then { impo s xp d v m r with r:=backs s.r.length 0 xp.rw (impo s xp d v m r).r } else impo s xp d v m r
abbrev Out:=V × List (List V) × List Rw
def doCall (call:Nat→St→Option Out) (s:St) (d:Option Nat) (f:Nat) (as:List (X × Md)) (caps:List V):Option St:=
  match expo s as caps with
  | none=>none
  | some (s0,xp)=>match call f s0 with
    | none=>none
    | some (v,m,r)=>some (impoF f s xp d v m r)
def gd (v:V) (w:Bool):Option Bool:=
  match v with
  | .b c=>some (c == w)
  | .tup []=>some false
  | _=>none
def notEp:V→Bool
  | .ep _ _ _=>false
  | .sl _ _ _ _=>false
  | .mr _=>false
  | _=>true
def isRow:Rw→Bool
  | .row _ _ _=>true
  | .gone=>false
def notIn (s:St) (xp:Xp):V→Bool
  | .ptr id _=>!(xp.bl.map (·.1)).contains id
  | .sl id _ _ _=>isRow (s.r.getD id .gone) && !xp.rw.contains id
  | .ep id _ _=>isRow (s.r.getD id .gone) && !xp.rw.contains id
  | .mr id=>isRow (s.r.getD id .gone) && !xp.rw.contains id
  | _=>true
def sameP:V→V→Bool
  | .ptr id _,.ptr id' _=>id == id'
  | .sl id _ _ _,.sl id' _ _ _=>id == id'
  | .sl id _ _ _,.ep id' _ _=>id == id'
  | .ep id _ _,.sl id' _ _ _=>id == id'
  | .ep id _ _,.ep id' _ _=>id == id'
  | .ptr _ _,_=>false
  | .sl _ _ _ _,_=>false
  | .ep _ _ _,_=>false
  | .mr id,.mr id'=>id == id'
  | .mr _,_=>false
  | _,_=>true
def lentIds (s:St):I→Option Xp
  | .call _ _ as=>(expo s as []).map (·.2)
  | .bsl _ _ _=>some ⟨[],[]⟩
  | .app _ x _ _=>some ⟨[],match s.ev x with | .sl id _ _ _=>[id] | _=>[]⟩
  | _=>none
def diffP:V→V→Bool
  | .ptr id _,.ptr id' _=>id != id'
  | .vp _,_=>true
  | _,_=>false
def noPtrL:V→Bool
  | .ptr _ _=>false
  | .fn _ _=>false
  | .agg _=>false
  | .tup _=>false
  | _=>true
def noPtr:V→Bool
  | .agg cs=>cs.all noPtrL
  | v=>noPtrL v
def nqS (s:St):I→Bool
  | .call _ _ as=>as.all fun a=>noPtr (s.ev a.1)
  | _=>false
def djB (s:St) (ys:List X) (i:I):Bool:=match lentIds s i with
    | some xp=>ys.all fun y=>notIn s xp (s.ev y)
    | none=>false
def ckS (s:St):Ck→I→Bool
  | .np y,_=>notEp (s.ev y)
  | .sb y z,_=>sameP (s.ev y) (s.ev z)
  | .dj ys,i=>djB s ys i
  | .df y z,_=>diffP (s.ev y) (s.ev z)
  | .dq ys,i=>nqS s i && djB s ys i
def gmk:V:=.tup [.nf]
def scal:V→Bool
  | .b _=>true
  | .i _ _=>true
  | .s _=>true
  | _=>false
def scalT:V→Bool
  | .tup vs=>vs.all scal
  | v=>scal v
def rlend (s:St):V→V
  | .b x=>.b x
  | .i k n=>.i k n
  | .s l=>.s l
  | .nil=>.nil
  | .np=>.np
  | .nf=>.nf
  | .view _ z xs=>.view true z xs
  | .sl id lo n _=>match s.r.getD id .gone with
    | .row z _ xs=>.view true z ((xs.drop lo).take n)
    | .gone=>.no
  | _=>.no
def rlendA (s:St) (k:Nat):V→V
  | .nil=>if k=0 then .nil else .view true k []
  | .agg cs=>.agg (cs.map (rlend s))
  | .vp cs=>.vp ((cs.take k).map (rlend s))
  | .ptr id off=>match range (s.m.getD id []) off k with
    | some cs=>.vp (cs.map (rlend s))
    | none=>.no
  | v=>rlend s v
def ev1 (call:Nat→St→Option Out):I→St→Option St
  | .call d f as,s=>doCall call s d f as []
  | .callv d x as,s=>match s.ev x with
    | .fn f caps=>doCall call s d f as caps
    | _=>none
  | .callg d f as,s=>if 5000≤f then (call f ⟨gmk :: as.map s.ev,s.m,s.r⟩).map fun o=>(St.mk s.t o.2.1 o.2.2).putO d o.1 else none
  | .callr d f as,s=>match call f ⟨as.map fun a=>rlendA s a.2 (s.ev a.1),[],[]⟩ with
    | some o=>if scalT o.1=true then some (s.putO d o.1) else none
    | none=>none
  | .g sl w d i,s=>match gd (s.t.getD sl .no) w with
    | some true=>ev1 call i s
    | some false=>some (s.putO d (.tup []))
    | none=>none
  | .ck c i,s=>if ckS s c i=true then ev1 call i s else none
  | i,s=>evI i s
def evIs (call:Nat→St→Option Out):List I→St→Option St
  | [],s=>some s
  | i :: is,s=>match ev1 call i s with
    | some s'=>evIs call is s'
    | none=>none
def V.leaves:V→List V
  | .agg cs=>cs
  | .tup vs=>vs.flatMap V.cells
  | .fn _ caps=>caps
  | v=>[v]
def ridL (r:List Rw) (ids:List Nat):V→List Nat
  | .sl id _ _ _=>if id ∈ ids then ids else match r.getD id .gone with | .row _ _ _=>ids++[id] | .gone=>ids
  | .mr id=>if id ∈ ids then ids else match r.getD id .gone with | .row _ _ _=>ids++[id] | .gone=>ids
  | _=>ids
def rids (r:List Rw) (ids:List Nat) (vs:List V):List Nat:=vs.foldl (ridL r) ids
def renL (nb:Nat) (ids:List Nat):V→V
  | .sl id lo n tg=>if id ∈ ids then .sl (ids.idxOf id) lo n tg else .no
  | .mr id=>if id ∈ ids then .mr (ids.idxOf id) else .no
  | .ptr id off=>if id<nb then .ptr id off else .no
  | .ep _ _ _=>.no
  | .fn _ _=>.no
  | .agg _=>.no
  | .tup _=>.no
  | v=>v
def keep (lv:List Nat):Nat→List V→List V
  | _,[]=>[]
  | j,v :: vs=>(if j ∈ lv then v else .no) :: keep lv (j+1) vs
def St.canonP (pc:Nat) (s:St) (lv:List Nat) (nb:Nat):St:=
  let t:=keep lv 0 s.t
  let m:=s.m.take nb
  let ids:=rids s.r (List.range pc) ((m.flatMap fun cs=>cs)++t.flatMap V.leaves)
  ⟨t.map (V.mapL (renL nb ids)),m.map fun cs=>cs.map (renL nb ids),ids.map fun id=>s.r.getD id .gone⟩
def St.canon (s:St) (lv:List Nat) (nb:Nat):St:=
  let t:=keep lv 0 s.t
  let m:=s.m.take nb
  let ids:=rids s.r [] ((m.flatMap fun cs=>cs)++t.flatMap V.leaves)
  ⟨t.map (V.mapL (renL nb ids)),m.map fun cs=>cs.map (renL nb ids),ids.map fun id=>s.r.getD id .gone⟩
def St.ownT (s:St):List (Nat × Nat)→St
  | []=>s
  | (d,z) :: l=>St.ownT (match s.t.getD d .no with | .nil=>s.new d z [] | _=>s) l
def St.ownM (s:St):List (Nat × Nat × Nat)→St
  | []=>s
  | (b,o,z) :: l=>St.ownM (match (s.m.getD b []).getD o .no with
    | .nil=>⟨s.t,s.m.set b ((s.m.getD b []).set o (.sl s.r.length 0 0 (5000≤z))),s.r++[.row (if 5000≤z then z - 5000 else z) false []]⟩
    | _=>s) l
def St.head (s:St) (lv:List Nat) (ow:List (Nat × Nat)) (om:List (Nat × Nat × Nat)) (nb:Nat):St:=match om with
  | (3000000,_,_) :: _=>⟨keep lv 0 s.t,s.m,s.r⟩
  | (1000000,pc,_) :: om=>((s.ownT ow).ownM om).canonP pc lv nb
  | om=>((s.ownT ow).ownM om).canon lv nb
def isGl:List (Nat × Nat × Nat)→Bool
  | (3000000,_,_) :: _=>true
  | _=>false
def pinsO:List (Nat × Nat × Nat)→Nat
  | (1000000,pc,_) :: _=>pc
  | _=>0
inductive Ex where
  | n
  | x (id:Nat)
  | r
def rounds (f:St→Option (Ex × St)):Nat→St→Option (Ex × St)
  | 0,_=>none
  | k+1,s=>match f s with
    | some (.n,s')=>rounds f k s'
    | o=>o
noncomputable def evC (call:Nat→St→Option Out) (n:Nat):C→St→Option (Ex × St)
  | .r is,s=>(evIs call is s).map fun s'=>(.n,s')
  | .ra _ _ [],_=>none
  | .ra is _ (p :: ps),s=>match evIs call (p.map (isD is)) s with
    | some s'=>@ite _ (∀ q,q ∈ ps→evIs call (q.map (isD is)) s=some s') (Classical.propDecidable _) (some (.n,s')) none
    | none=>none
  | .seq a b,s=>match evC call n a s with
    | some (.n,s')=>evC call n b s'
    | o=>o
  | .cond x a b,s=>match s.ev x with
    | .b c=>if c then evC call n a s else evC call n b s
    | _=>none
  | .blk id c,s=>match evC call n c s with
    | some (.x id',s')=>if id'=id then some (.n,s') else some (.x id',s')
    | o=>o
  | .loop lv ow om c,s=>rounds (fun s'=>evC call n c (s'.head lv ow om s.m.length)) n s
  | .ex id,s=>some (.x id,s)
  | .ret,s=>some (.r,s)
  | .skip,s=>some (.n,s)
  | .any,_=>none
inductive Rs where
  | t (n:Nat)
  | c (n z:Nat) (ag:Bool)
def St.res1 (s:St):Rs→Option V
  | .t n=>some (s.t.getD n .no)
  | .c n z ag=>loadV s (s.t.getD n .no) z ag
def St.resL (s:St):List Rs→Option (List V)
  | []=>some []
  | r :: rs=>match s.res1 r with
    | none=>none
    | some v=>match s.resL rs with
      | none=>none
      | some vs=>some (v :: vs)
def St.res (s:St) (rs:List Rs):Option V:=
  match rs with
  | [r]=>s.res1 r
  | rs=>(s.resL rs).map .tup
def okRet (nb:Nat):V→Bool
  | .view q _ _=>q
  | .ptr id _=>decide (id<nb)
  | .ep _ _ _=>false
  | .vp _=>false
  | .fn _ _=>false
  | .agg _=>false
  | .tup _=>false
  | _=>true
def St.out (s:St) (rs:List Rs) (nb:Nat):Option Out:=
  match s.res rs with
  | none=>none
  | some v=>
    let m:=s.m.take nb
    if v.leaves.all (okRet nb)∧m.all (·.all (okRet nb)) then
      let ids:=rids s.r [] (v.leaves++m.flatMap fun cs=>cs)
      some (v.mapL (renL nb ids),m.map fun cs=>cs.map (renL nb ids),ids.map fun id=>s.r.getD id .gone)
    else none
def frzT (v:V) (s:St):Option (V × St):=
  match v with
  | .tup vs=>match frzVs vs s with
    | some (vs',s')=>some (.tup vs',s')
    | none=>none
  | v=>frzV v s
def St.outF (s:St) (rs:List Rs) (nb:Nat):Option Out:=
  match s.res rs with
  | none=>none
  | some v=>match frzT v s with
    | none=>none
    | some (v',s')=>(St.mk [v'] s'.m s'.r).out [.t 0] nb
def St.outP (pc:Nat) (s:St) (rs:List Rs) (nb:Nat):Option Out:=
  match s.res rs with
  | none=>none
  | some v=>
    let m:=s.m.take nb
    if v.leaves.all (okRet nb)∧m.all (·.all (okRet nb)) then
      let ids:=rids s.r (List.range pc) (v.leaves++m.flatMap fun cs=>cs)
      some (v.mapL (renL nb ids),m.map fun cs=>cs.map (renL nb ids),ids.map fun id=>s.r.getD id .gone)
    else none
def C.pinned (pc:Nat):C→Bool
  | .seq a b=>a.pinned pc && b.pinned pc
  | .cond _ a b=>a.pinned pc && b.pinned pc
  | .blk _ c=>c.pinned pc
  | .loop _ _ om c=>(isGl om || decide (pc≤pinsO om)) && c.pinned pc
  | _=>true
def C.glob:C→Bool
  | .seq a b=>a.glob && b.glob
  | .cond _ a b=>a.glob && b.glob
  | .blk _ c=>c.glob
  | .loop _ _ om c=>isGl om && c.glob
  | _=>true
inductive Fd where
  | ir (np nt:Nat) (rs:List Rs) (body:C)
  | pin (np nt:Nat) (rs:List Rs) (body:C)
  | glb (np nt:Nat) (rs:List Rs) (body:C)
  | fin (np nt:Nat) (rs:List Rs) (body:C)
  | intr (sem:St→Option Out)
abbrev Prog:=Nat→Option Fd
noncomputable def evF (p:Prog):Nat→Nat→St→Option Out
  | 0,_,_=>none
  | n+1,f,s=>match p f with
    | none=>none
    | some (.intr sem)=>sem s
    | some (.ir np nt rs body)=>
      if s.t.length=np then
        match evC (evF p n) n body ⟨s.t++List.replicate (nt - np) .no,s.m,s.r⟩ with
        | some (.n,s')=>s'.out rs s.m.length
        | some (.r,s')=>s'.out rs s.m.length
        | _=>none
      else none
    | some (.pin np nt rs body)=>
      if s.t.length=np∧body.pinned s.r.length=true then
        match evC (evF p n) n body ⟨s.t++List.replicate (nt - np) .no,s.m,s.r⟩ with
        | some (.n,s')=>s'.outP s.r.length rs s.m.length
        | some (.r,s')=>s'.outP s.r.length rs s.m.length
        | _=>none
      else none
    | some (.glb np nt rs body)=>match s.t with
      | .tup [.nf] :: ts=>
        if ts.length=np∧body.glob=true then
          match evC (evF p n) n body ⟨ts++List.replicate (nt - np) .no,s.m,s.r⟩ with
          | some (.n,s')=>(s'.res rs).map fun v=>(v,s'.m,s'.r)
          | some (.r,s')=>(s'.res rs).map fun v=>(v,s'.m,s'.r)
          | _=>none
        else none
      | _=>none
    | some (.fin np nt rs body)=>
      if s.t.length=np then
        match evC (evF p n) n body ⟨s.t++List.replicate (nt - np) .no,s.m,s.r⟩ with
        | some (.n,s')=>s'.outF rs s.m.length
        | some (.r,s')=>s'.outF rs s.m.length
        | _=>none
      else none
end Go.VS
