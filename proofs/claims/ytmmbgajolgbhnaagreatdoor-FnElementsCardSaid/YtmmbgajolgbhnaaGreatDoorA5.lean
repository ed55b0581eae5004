/-
  What the evaluator computes the machine computes: regions in any order, code, functions.
-/
import Derived.Test.YtmmbgajolgbhnaaGreatDoorA3
set_option linter.all false
section
namespace Go.VS
open Go
def X.rd:X→List Nat
  | .t n=>[n]
  | .c _=>[]
def rdO:Option X→List Nat
  | some x=>x.rd
  | none=>[]
def Ck.rd:Ck→List Nat
  | .np y=>y.rd
  | .sb y z=>y.rd++z.rd
  | .dj ys=>ys.flatMap X.rd
  | .df y z=>y.rd++z.rd
  | .dq ys=>ys.flatMap X.rd
def rdI:I→List Nat
  | .mv _ x=>x.rd
  | .bin _ _ x y=>x.rd++y.rd
  | .un _ _ x=>x.rd
  | .pick _ c x y=>c.rd++(x.rd++y.rd)
  | .cvi _ _ x=>x.rd
  | .cvn _ x=>x.rd
  | .cvb _ x=>x.rd
  | .cvs _ x=>x.rd
  | .ext _ x _=>x.rd
  | .fld _ x _ _ _=>x.rd
  | .bld _ _ ps=>ps.flatMap fun p=>p.2.2.rd
  | .bsl _ _ ps=>ps.flatMap X.rd
  | .mks _ _ _ l c=>l.rd++c.rd
  | .alc _ _=>[]
  | .box _ x=>x.rd
  | .ld _ x _ _=>x.rd
  | .st x v _=>x.rd++v.rd
  | .nck _ x=>x.rd
  | .fad _ x _=>x.rd
  | .ixa _ x i _=>x.rd++i.rd
  | .ixs _ x i=>x.rd++i.rd
  | .slc _ x lo hi _=>x.rd++(rdO lo++rdO hi)
  | .len _ _ x=>x.rd
  | .app _ x y _=>x.rd++y.rd
  | .apb _ x y=>x.rd++y.rd
  | .mm _ _ x y=>x.rd++y.rd
  | .mkf _ _ caps=>caps.flatMap X.rd
  | .eqs _ _ x y=>x.rd++y.rd
  | .eqb _ _ x y=>x.rd++y.rd
  | .eqn _ _ _ x y=>x.rd++y.rd
  | .frz _ x=>x.rd
  | .clr _ x _ _=>x.rd
  | .cpy _ x y=>x.rd++y.rd
  | .mkm _=>[]
  | .mup _ m k v=>m.rd++(k.rd++v.rd)
  | .mlk _ _ _ m k _=>m.rd++k.rd
  | .call _ _ as=>as.flatMap fun p=>p.1.rd
  | .callv _ x as=>x.rd++as.flatMap fun p=>p.1.rd
  | .callg _ _ as=>as.flatMap X.rd
  | .callr _ _ as=>as.flatMap fun p=>p.1.rd
  | .g sl _ _ i=>sl :: rdI i
  | .ck c i=>c.rd++rdI i
def wrI:I→Option Nat
  | .mv d _=>some d
  | .bin d _ _ _=>some d
  | .un d _ _=>some d
  | .pick d _ _ _=>some d
  | .cvi d _ _=>some d
  | .cvn d _=>some d
  | .cvb d _=>some d
  | .cvs d _=>some d
  | .ext d _ _=>some d
  | .fld d _ _ _ _=>some d
  | .bld d _ _=>some d
  | .bsl d _ _=>some d
  | .mks d _ _ _ _=>some d
  | .alc d _=>some d
  | .box d _=>some d
  | .ld d _ _ _=>some d
  | .st _ _ _=>none
  | .nck d _=>some d
  | .fad d _ _=>some d
  | .ixa d _ _ _=>some d
  | .ixs d _ _=>some d
  | .slc d _ _ _ _=>some d
  | .len d _ _=>some d
  | .app d _ _ _=>some d
  | .apb d _ _=>some d
  | .mm d _ _ _=>some d
  | .mkf d _ _=>some d
  | .eqs d _ _ _=>some d
  | .eqb d _ _ _=>some d
  | .eqn d _ _ _ _=>some d
  | .frz d _=>some d
  | .clr d _ _ _=>d
  | .cpy d _ _=>d
  | .mkm d=>some d
  | .mup _ _ _ _=>none
  | .mlk d _ _ _ _ _=>some d
  | .call d _ _=>d
  | .callv d _ _=>d
  | .callg d _ _=>d
  | .callr d _ _=>d
  | .g _ _ d _=>d
  | .ck _ i=>wrI i
def kdI:I→Nat
  | .cvb _ _=>2
  | .cvs _ _=>1
  | .bsl _ _ _=>2
  | .mks _ _ _ _ _=>2
  | .alc _ _=>2
  | .box _ _=>2
  | .ld _ _ _ _=>1
  | .st _ _ _=>2
  | .ixa _ _ _ _=>1
  | .slc _ _ _ _ _=>1
  | .app _ _ _ _=>2
  | .apb _ _ _=>2
  | .frz _ _=>2
  | .clr _ _ _ _=>2
  | .cpy _ _ _=>2
  | .mkm _=>2
  | .mup _ _ _ _=>2
  | .mlk _ _ _ _ _ _=>1
  | .call _ _ _=>2
  | .callv _ _ _=>2
  | .callg _ _ _=>2
  | .callr _ _ _=>1
  | .g _ _ _ i=>kdI i
  | .ck _ i=>kdI i
  | _=>0
def okG:I→Bool
  | .g _ _ d i=>wrI i == d && okG i
  | .ck _ i=>okG i
  | _=>true
section
variable {s s':St} {d:Nat} {v:V} {call:Nat→St→Option Out}
theorem St.put_comm {d d':Nat} (h:d≠d') (s:St) (v v':V):(s.put d v).put d' v'=(s.put d' v').put d v:=by
  simp only [St.put];rw [List.set_comm _ _ h]
theorem St.putO_comm {d:Nat} {d':Option Nat} (h:d'≠some d) (s:St) (v v':V):(s.put d v).putO d' v'=(s.putO d' v').put d v:=by
  cases d' with
  | none=>rfl
  | some d'=>exact St.put_comm (fun e=>h (by rw [e])) s v v'
theorem ev_put {x:X} (h:d ∉ x.rd):(s.put d v).ev x=s.ev x:=by
  cases x with
  | c=>rfl
  | t n=>
    simp only [X.rd,List.mem_singleton] at h
    simp only [St.ev,St.put,List.getD_eq_getElem?_getD]
    rw [List.getElem?_set_ne h]
theorem ah2 {d' z:Nat} (h:d'≠d) (xs:List V):(s.put d v).new d' z xs=(s.new d' z xs).put d v:=by
  simp only [St.new,St.put];rw [List.set_comm _ _ (Ne.symm h)]
theorem acv {d':Nat} (h:d'≠d) (f:Option V):f.map ((s.put d v).put d')=(f.map (s.put d')).map (·.put d v):=by
  cases f with
  | none=>rfl
  | some u=>simp [St.put_comm h.symm]
theorem ahk {α:Type} {d':Nat} (h:d'≠d) (f:Option α) (g:α→V):(f.map fun x=>(s.put d v).put d' (g x))=(f.map fun x=>s.put d' (g x)).map (·.put d v):=by
  cases f with
  | none=>rfl
  | some u=>simp [St.put_comm h.symm]
theorem aoa {xs:List X} (h:d ∉ xs.flatMap X.rd):xs.map (s.put d v).ev=xs.map s.ev:=by
  apply List.map_congr_left
  intro x hx
  exact ev_put fun e=>h (List.mem_flatMap.2 ⟨x,hx,e⟩)
theorem arb {x:Option X} (h:d ∉ rdO x):x.map (s.put d v).ev=x.map s.ev:=by
  cases x with
  | none=>rfl
  | some x=>simp [ev_put (s:=s) (v:=v) h]
theorem ao6:∀ (ps:List (Nat × Nat × X)) (cs:List V),d ∉ ps.flatMap (fun p=>p.2.2.rd)→bldV (s.put d v) cs ps=bldV s cs ps
  | [],_,_=>rfl
  | (o,z,x) :: ps,cs,h=>by
    simp only [List.flatMap_cons,List.mem_append,not_or] at h
    simp only [bldV,ev_put (s:=s) (v:=v) h.1,ao6 ps _ h.2]
theorem ala (u:V):frzL u (s.put d v)=(frzL u s).map fun p=>(p.1,p.2.put d v):=by
  cases u <;> try rfl
  case view q z xs=>cases q <;> rfl
  case sl id lo n tg=>
    simp only [frzL,St.put]
    cases s.r.getD id .gone <;> rfl
theorem ald:∀ (us:List V) (s:St),frzs us (s.put d v)=(frzs us s).map fun p=>(p.1,p.2.put d v)
  | [],s=>rfl
  | u :: us,s=>by
    simp only [frzs,ala]
    cases frzL u s with
    | none=>rfl
    | some p=>
      simp only [Option.map_some,ald us p.2]
      cases frzs us p.2 <;> rfl
theorem apl (u:V) (s:St):frzV u (s.put d v)=(frzV u s).map fun p=>(p.1,p.2.put d v):=by
  cases u <;> simp only [frzV,ald]
  case agg cs=>cases frzs cs s <;> rfl
  all_goals exact ala _
theorem amx:∀ (us:List V) (s:St),frzVs us (s.put d v)=(frzVs us s).map fun p=>(p.1,p.2.put d v)
  | [],s=>rfl
  | u :: us,s=>by
    simp only [frzVs,apl]
    cases frzV u s with
    | none=>rfl
    | some p=>
      simp only [Option.map_some,amx us p.2]
      cases frzVs us p.2 <;> rfl
theorem aqw (p u:V) (z:Nat):storeV (s.put d v) p u z=(storeV s p u z).map (·.put d v):=by
  unfold storeV
  split
  · rfl
  · cases p <;> try rfl
    case ptr id off=>
      show (if _ then _ else _)=Option.map _ (if _ then _ else _)
      split <;> split <;> first | rfl | (rename_i h1 h2;exact absurd h1 h2) | (rename_i h1 h2;exact absurd h2 h1)
    case ep id idx off=>
      simp only [ald]
      cases frzs u.cells s with
      | none=>rfl
      | some q=>
        simp only [Option.map_some]
        show (match q.2.r.getD id .gone with | .row z' false xs=>_ | _=>_)=_
        cases q.2.r.getD id .gone with
        | gone=>rfl
        | row z' fz xs=>
          cases fz with
          | true=>rfl
          | false=>
            simp only []
            cases elSet (xs.getD idx .no) off q.1 <;> rfl
theorem ak2 {d' z:Nat} (h:d'≠d) (x:V) (ys:List V):appR (s.put d v) d' x ys z=(appR s d' x ys z).map (·.put d v):=by
  unfold appR
  have e2:(s.put d v).r=s.r:=rfl
  have e3:∀ (id:Nat) (xs:List V),({ s.put d v with r:=s.r.set id .gone }:St).new d' z xs=(({ s with r:=s.r.set id .gone }:St).new d' z xs).put d v:=fun id xs=>ah2 (s:=({ s with r:=s.r.set id .gone }:St)) h xs
  simp only [e2]
  cases x <;> simp only [Option.map_none]
  case nil=>split <;> simp [ah2 h]
  case sl id lo n tg=>
    cases s.r.getD id .gone with
    | gone=>rfl
    | row z' fz xs=>
      simp only []
      split
      · rfl
      · split
        · split
          · split
            · simp [St.put_comm h.symm]
            · simp [ah2 h]
          · split
            · simp only [Option.map_some,Option.some.injEq]
              exact e3 id _
            · rfl
        · rfl
theorem ata {d' z:Nat} (h:d'≠d) (x y:V):appV (s.put d v) d' x y z=(appV s d' x y z).map (·.put d v):=by
  unfold appV
  have e1:(s.put d v).cont z y=s.cont z y:=rfl
  have e2:rowNb (s.put d v) z x=rowNb s z x:=rfl
  simp only [e1,e2]
  cases s.cont z y with
  | none=>rfl
  | some ys=>
    by_cases hc:(nbOk z ys && rowNb s z x)=true
    · simp only [hc,if_true];exact ak2 h x ys
    · simp only [if_neg hc,Option.map_none]
theorem as8 {d':Nat} (h:d'≠d) (x y:V):apbV (s.put d v) d' x y=(apbV s d' x y).map (·.put d v):=by
  unfold apbV
  have e2:okB (s.put d v) x=okB s x:=rfl
  have k:∀ q:Option (List V),apbR (s.put d v) d' x q=(apbR s d' x q).map (fun s=>s.put d v):=by
    intro q
    unfold apbR
    rw [e2]
    rcases q with _ | _ | ⟨c,l⟩
    · rfl
    · rfl
    · simp only
      split
      · exact ak2 h x _
      · rfl
  cases y <;> try exact k _
  simp only [e2]
  split
  · split
    · simp [St.put_comm h.symm]
    · exact ak2 h x _
  · rfl
theorem ai4:∀ (as:List (X × Md)) (xp:Xp),d ∉ as.flatMap (fun p=>p.1.rd)→expAs (s.put d v) as xp=expAs s as xp
  | [],_,_=>rfl
  | (x,.b k) :: as,xp,h=>by
    simp only [List.flatMap_cons,List.mem_append,not_or] at h
    simp only [expAs,ai4 as _ h.2]
  | (x,.m k) :: as,xp,h=>by
    simp only [List.flatMap_cons,List.mem_append,not_or] at h
    have e:∀ u,expV (s.put d v) k u xp=expV s k u xp:=by
      intro u
      have l:∀ (k:Nat) (vs:List V) (xp:Xp),expLs (s.put d v) k vs xp=expLs s k vs xp:=by
        intro k vs
        induction vs with
        | nil=>intro xp;rfl
        | cons u vs ih=>
          intro xp
          have e1:expL (s.put d v) k u xp=expL s k u xp:=by cases u <;> rfl
          simp only [expLs,ih,e1]
      cases u <;> simp only [expV,l] <;> rfl
    simp only [expAs,ev_put (s:=s) (v:=v) h.1,e,ai4 as _ h.2]
theorem ai5 (k:Nat):∀ (vs:List V) (xp:Xp),expLs (s.put d v) k vs xp=expLs s k vs xp
  | [],_=>rfl
  | u :: vs,xp=>by
    have e1:expL (s.put d v) k u xp=expL s k u xp:=by cases u <;> rfl
    simp only [expLs,ai5 k vs,e1]
theorem alp (xp:Xp):∀ (n:Nat) (u:V),lend (s.put d v) xp n u=lend s xp n u
  | 0,_=>rfl
  | n+1,u=>by
    have e:lend (s.put d v) xp n=lend s xp n:=funext (alp xp n)
    cases u <;> simp only [lend,e] <;> rfl
theorem ajj (xp:Xp):∀ (as:List (X × Md)) (vs:List V),d ∉ as.flatMap (fun p=>p.1.rd)→lends (s.put d v) xp as vs=lends s xp as vs
  | [],vs,_=>by cases vs <;> rfl
  | (x,.b k) :: as,[],_=>rfl
  | (x,.m k) :: as,[],_=>rfl
  | (x,.b k) :: as,u :: vs,h=>by
    simp only [List.flatMap_cons,List.mem_append,not_or] at h
    have e:lendA (s.put d v) xp k (s.ev x)=lendA s xp k (s.ev x):=by
      have e3:lend (s.put d v) xp 3=lend s xp 3:=funext (alp xp 3)
      unfold lendA
      cases s.ev x <;> simp only [alp,e3] <;> rfl
    simp only [lends,ev_put (s:=s) (v:=v) h.1,ajj xp as vs h.2,e]
  | (x,.m k) :: as,u :: vs,h=>by
    simp only [List.flatMap_cons,List.mem_append,not_or] at h
    simp only [lends,ajj xp as vs h.2]
theorem amr:∀ (f j:Nat) (xp:Xp),expBl (s.put d v) f j xp=expBl s f j xp
  | 0,_,_=>rfl
  | f+1,j,xp=>by
    simp only [expBl,ai5,amr f]
    rfl
theorem aph {as:List (X × Md)} {caps:List V} (ha:d ∉ as.flatMap (fun p=>p.1.rd)):expo (s.put d v) as caps=expo s as caps:=by
  unfold expo
  simp only [ai4 as _ ha,ai5,amr,ajj _ as _ ha]
  rfl
theorem ara {ys:List X} {i:I} (h:d ∉ ys.flatMap X.rd) (hi:d ∉ rdI i):djB (s.put d v) ys i=djB s ys i:=by
    have e:lentIds (s.put d v) i=lentIds s i:=by
      cases i <;> first | rfl | skip
      · rename_i d' x y z
        simp only [rdI,List.mem_append,not_or] at hi
        show some (Xp.mk [] (match (s.put d v).ev x with | .sl id _ _ _=>[id] | _=>[]))=some (Xp.mk [] (match s.ev x with | .sl id _ _ _=>[id] | _=>[]))
        rw [ev_put (s:=s) (v:=v) hi.1]
      · rename_i d' f as
        show (expo (s.put d v) as []).map _=(expo s as []).map _
        rw [aph (s:=s) (v:=v) (as:=as) (caps:=[]) hi]
    show (match lentIds (s.put d v) i with | some xp=>ys.all fun y=>notIn (s.put d v) xp ((s.put d v).ev y) | none=>false)=match lentIds s i with | some xp=>ys.all fun y=>notIn s xp (s.ev y) | none=>false
    rw [e]
    have e2:∀ xp u,notIn (s.put d v) xp u=notIn s xp u:=fun xp u=>by cases u <;> rfl
    cases lentIds s i with
    | none=>rfl
    | some xp=>
      show (ys.all fun y=>notIn (s.put d v) xp ((s.put d v).ev y))=ys.all fun y=>notIn s xp (s.ev y)
      rw [Bool.eq_iff_iff,List.all_eq_true,List.all_eq_true]
      constructor
      · intro hh x hx
        have:=hh x hx
        rwa [e2,ev_put fun e=>h (List.mem_flatMap.2 ⟨x,hx,e⟩)] at this
      · intro hh x hx
        have:=hh x hx
        rwa [e2,ev_put fun e=>h (List.mem_flatMap.2 ⟨x,hx,e⟩)]
theorem avm {i:I} (hi:d ∉ rdI i):nqS (s.put d v) i=nqS s i:=by
  cases i <;> try rfl
  rename_i d' f as
  show (as.all fun a=>noPtr ((s.put d v).ev a.1))=as.all fun a=>noPtr (s.ev a.1)
  simp only [rdI] at hi
  rw [Bool.eq_iff_iff,List.all_eq_true,List.all_eq_true]
  constructor
  · intro hh x hx
    have:=hh x hx
    rwa [ev_put fun e=>hi (List.mem_flatMap.2 ⟨x,hx,e⟩)] at this
  · intro hh x hx
    have:=hh x hx
    rwa [ev_put fun e=>hi (List.mem_flatMap.2 ⟨x,hx,e⟩)]
theorem auv {c:Ck} {i:I} (h:d ∉ c.rd) (hi:d ∉ rdI i):ckS (s.put d v) c i=ckS s c i:=by
  cases c with
  | np y=>simp only [ckS,ev_put (s:=s) (v:=v) h]
  | sb y z=>
    simp only [Ck.rd,List.mem_append,not_or] at h
    simp only [ckS,ev_put (s:=s) (v:=v) h.1,ev_put (s:=s) (v:=v) h.2]
  | df y z=>
    simp only [Ck.rd,List.mem_append,not_or] at h
    simp only [ckS,ev_put (s:=s) (v:=v) h.1,ev_put (s:=s) (v:=v) h.2]
  | dj ys=>exact ara h hi
  | dq ys=>simp only [ckS,ara (s:=s) (v:=v) h hi,avm (s:=s) (v:=v) hi]
theorem aj7 {d':Option Nat} (h:d'≠some d) {f:Nat} {as:List (X × Md)} {caps:List V} (ha:d ∉ as.flatMap (fun p=>p.1.rd)):doCall call (s.put d v) d' f as caps=(doCall call s d' f as caps).map (·.put d v):=by
  have e:expo (s.put d v) as caps=expo s as caps:=aph ha
  unfold doCall
  rw [e]
  cases expo s as caps with
  | none=>rfl
  | some p=>
    obtain ⟨s0,xp⟩:=p
    simp only []
    cases call f s0 with
    | none=>rfl
    | some o=>
      obtain ⟨u,m,r⟩:=o
      simp only [Option.map_some,Option.some.injEq]
      have hi:impo (s.put d v) xp d' u m r=(impo s xp d' u m r).put d v:=by
        unfold impo
        cases d' with
        | none=>rfl
        | some d'=>
          have hne:d≠d':=fun e=>h (by rw [e])
          simp only [St.putO,St.put]
          rw [List.set_comm _ _ hne]
      unfold impoF
      rw [hi]
      split <;> rfl
theorem frameE {i:I} (hr:d ∉ rdI i) (hw:wrI i≠some d) (hc:isCall i=false):evI i (s.put d v)=(evI i s).map (·.put d v):=by
  cases i <;> (try (simp [isCall] at hc;done)) <;> simp only [rdI,wrI,List.mem_append,not_or,ne_eq,Option.some.injEq] at hr hw <;> simp only [evI]
  case mv d' x=>rw [ev_put hr];simp [St.put_comm (Ne.symm hw)]
  case bin d' op x y=>rw [ev_put hr.1,ev_put hr.2];exact acv hw _
  case un d' op x=>rw [ev_put hr];exact acv hw _
  case pick d' c x y=>rw [ev_put hr.1,ev_put hr.2.1,ev_put hr.2.2];exact acv hw _
  case cvi d' k x=>rw [ev_put hr];exact ahk hw _ _
  case cvn d' x=>rw [ev_put hr];cases s.ev x <;> simp [St.put_comm (Ne.symm hw)]
  case cvb d' x=>
    rw [ev_put hr]
    cases s.ev x <;> try rfl
    simp only []
    split <;> simp [ah2 hw]
  case cvs d' x=>
    rw [ev_put hr]
    have e:∀ u,(s.put d v).cont 1 u=s.cont 1 u:=fun u=>rfl
    cases hx:s.ev x <;> simp only [e,Option.map_none] <;> first | exact ahk hw _ _ | rfl
  case ext d' x j=>rw [ev_put hr];cases s.ev x <;> first | rfl | exact acv hw _
  case fld d' x off z ag=>rw [ev_put hr];cases s.ev x <;> first | rfl | exact acv hw _
  case bld d' zs ps=>rw [ao6 ps zs hr];exact acv hw _
  case bsl d' z ps=>
    rw [aoa hr,amx]
    cases frzVs (ps.map s.ev) s with
    | none=>rfl
    | some p=>
      simp only [Option.map_some]
      split <;> simp [ah2 hw]
  case mks d' z el l c=>
    rw [ev_put hr.1,ev_put hr.2]
    unfold mksV
    cases s.ev l <;> try rfl
    cases s.ev c <;> try rfl
    simp only []
    split <;> simp [ah2 hw]
  case alc d' zs=>simp only [Option.map_some,St.put];rw [List.set_comm _ _ (Ne.symm hw)]
  case box d' x=>
    rw [ev_put hr]
    split
    · simp only [Option.map_some,St.put];rw [List.set_comm _ _ (Ne.symm hw)]
    · rfl
  case ld d' x z ag=>
    rw [ev_put hr]
    have e:∀ u,loadV (s.put d v) u z ag=loadV s u z ag:=fun u=>by cases u <;> rfl
    rw [e];exact acv hw _
  case st x u z=>rw [ev_put hr.1,ev_put hr.2];exact aqw _ _ _
  case nck d' x=>rw [ev_put hr];split <;> simp [St.put_comm (Ne.symm hw)]
  case fad d' x off=>rw [ev_put hr];exact acv hw _
  case ixa d' x i z=>
    rw [ev_put hr.1,ev_put hr.2]
    have e:∀ u y,idxV (s.put d v) z u y=idxV s z u y:=fun u y=>by cases y <;> cases u <;> rfl
    rw [e];exact acv hw _
  case ixs d' x i=>
    rw [ev_put hr.1,ev_put hr.2]
    cases s.ev x <;> try rfl
    cases s.ev i <;> try rfl
    simp only []
    split <;> simp [St.put_comm (Ne.symm hw)]
  case slc d' x lo hi z=>
    rw [ev_put hr.1,arb hr.2.1,arb hr.2.2]
    have e:∀ u l h,slcV (s.put d v) z u l h=slcV s z u l h:=fun u l h=>by cases z <;> cases u <;> rfl
    rw [e];exact acv hw _
  case len d' str x=>rw [ev_put hr];exact ahk hw _ _
  case app d' x y z=>rw [ev_put hr.1,ev_put hr.2];exact ata hw _ _
  case apb d' x y=>rw [ev_put hr.1,ev_put hr.2];exact as8 hw _ _
  case mm d' mx x y=>rw [ev_put hr.1,ev_put hr.2];exact acv hw _
  case mkf d' f caps=>rw [aoa hr];split <;> simp [St.put_comm (Ne.symm hw)]
  case eqs d' neq x y=>
    rw [ev_put hr.1,ev_put hr.2]
    cases s.ev x <;> try rfl
    cases s.ev y <;> try rfl
    exact ahk hw _ _
  case eqb d' neq x y=>
    rw [ev_put hr.1,ev_put hr.2]
    cases s.ev x <;> try rfl
    cases s.ev y <;> try rfl
    simp [St.put_comm (Ne.symm hw)]
  case eqn d' k neq x y=>rw [ev_put hr.1,ev_put hr.2];exact ahk hw _ _
  case frz d' x=>
    rw [ev_put hr,apl]
    cases frzV (s.ev x) s with
    | none=>rfl
    | some p=>simp [St.put_comm (Ne.symm hw)]
  case clr d' x z el=>
    rw [ev_put hr]
    have e:clrV (s.put d v) (s.ev x) z el=(clrV s (s.ev x) z el).map (·.put d v):=by
      unfold clrV
      cases s.ev x <;> try rfl
      rename_i id lo n tg
      have hq:(s.put d v).r=s.r:=rfl
      simp only [hq]
      cases s.r.getD id .gone with
      | gone=>rfl
      | row z' fz xs=>
        cases fz with
        | true=>rfl
        | false=>
          simp only []
          split <;> rfl
    rw [e,Option.map_map,Option.map_map]
    congr 1
    funext s1
    cases d' with
    | none=>rfl
    | some d'=>exact St.put_comm (fun e=>hw (by rw [e])) _ _ _
  case cpy d' x y=>
    rw [ev_put hr.1,ev_put hr.2]
    have e:cpyV (s.put d v) (s.ev x) (s.ev y)=(cpyV s (s.ev x) (s.ev y)).map (fun p=>(p.1.put d v,p.2)):=by
      unfold cpyV
      cases s.ev y <;> try rfl
      cases s.ev x <;> try rfl
      rename_i l id lo n tg
      have hq:(s.put d v).r=s.r:=rfl
      simp only [hq]
      cases s.r.getD id .gone with
      | gone=>rfl
      | row z' fz xs=>
        cases fz with
        | true=>rfl
        | false=>
          simp only []
          split <;> rfl
    rw [e,Option.map_map,Option.map_map]
    congr 1
    funext p
    cases d' with
    | none=>rfl
    | some d'=>exact St.put_comm (fun e=>hw (by rw [e])) _ _ _
  case mkm d'=>simp only [Option.map_some,St.put];rw [List.set_comm _ _ (Ne.symm hw)]
  case mup str m k u=>
    rw [ev_put hr.1,ev_put hr.2.1,ev_put hr.2.2]
    unfold mupV
    rw [ala]
    cases frzL (s.ev u) s with
    | none=>rfl
    | some p=>
      simp only [Option.map_some]
      cases s.ev m <;> try rfl
      rename_i id
      have hq:(p.2.put d v).r=p.2.r:=rfl
      simp only [hq]
      cases p.2.r.getD id .gone with
      | gone=>rfl
      | row z fz xs=>
        cases fz with
        | true=>rfl
        | false=>
          simp only []
          split
          · simp only [Option.map_map];rfl
          · rfl
  case mlk d' str zv m k ok=>
    rw [ev_put hr.1,ev_put hr.2]
    have e:∀ u y,mlkV (s.put d v) str zv u y ok=mlkV s str zv u y ok:=fun u y=>by cases u <;> rfl
    rw [e];exact acv hw _
end
end Go.VS
end
section
namespace Go.VS
open Go
section
variable {s s':St} {d:Nat} {v:V} {call:Nat→St→Option Out}
theorem frame:∀ {i:I} {s:St},okG i=true→d ∉ rdI i→wrI i≠some d→ev1 call i (s.put d v)=(ev1 call i s).map (·.put d v)
  | .g sl w d' i,s,hg,hr,hw=>by
    simp only [okG,Bool.and_eq_true,beq_iff_eq] at hg
    simp only [rdI,List.mem_cons,not_or] at hr
    simp only [wrI] at hw
    have e:(s.put d v).t.getD sl .no=s.t.getD sl .no:=by
      simp only [St.put,List.getD_eq_getElem?_getD]
      rw [List.getElem?_set_ne hr.1]
    simp only [ev1,e]
    cases gd (s.t.getD sl .no) w with
    | none=>rfl
    | some b=>
      cases b with
      | true=>exact frame hg.2 hr.2 (by rw [hg.1];exact hw)
      | false=>
        simp only [Option.map_some,Option.some.injEq]
        exact St.putO_comm hw s v (.tup [])
  | .ck c i,s,hg,hr,hw=>by
    simp only [rdI,List.mem_append,not_or] at hr
    simp only [ev1,auv (s:=s) (v:=v) hr.1 hr.2]
    split
    · exact frame hg hr.2 hw
    · rfl
  | .call d' f as,s,_,hr,hw=>aj7 hw hr
  | .callv d' x as,s,_,hr,hw=>by
    simp only [rdI,List.mem_append,not_or] at hr
    simp only [ev1,ev_put (s:=s) (v:=v) hr.1]
    cases s.ev x <;> try rfl
    exact aj7 hw hr.2
  | .callg d' f as,s,_,hr,hw=>by
    simp only [rdI] at hr
    simp only [wrI] at hw
    simp only [ev1,aoa (s:=s) (v:=v) hr]
    split
    · show Option.map _ (call f ⟨_,s.m,s.r⟩)=_
      cases call f ⟨gmk :: as.map s.ev,s.m,s.r⟩ with
      | none=>rfl
      | some o => 
        simp only [Option.map_some,Option.some.injEq]
        exact St.putO_comm hw (St.mk s.t o.2.1 o.2.2) v o.1
    · rfl
  | .callr d' f as,s,_,hr,hw=>by
    simp only [rdI] at hr
    simp only [wrI] at hw
    have e:(as.map fun a=>rlendA (s.put d v) a.2 ((s.put d v).ev a.1))=as.map fun a=>rlendA s a.2 (s.ev a.1):=
      List.map_congr_left fun a ha=>by
        rw [ev_put (fun h=>hr (List.mem_flatMap.2 ⟨a,ha,h⟩))]
        cases s.ev a.1 <;> rfl
    simp only [ev1,e]
    cases call f ⟨as.map fun a=>rlendA s a.2 (s.ev a.1),[],[]⟩ with
    | none=>rfl
    | some o=>
      simp only
      split
      · simp only [Option.map_some,Option.some.injEq]
        exact St.putO_comm hw s v o.1
      · rfl
  | .mv _ _,s,_,hr,hw=>frameE hr hw rfl
  | .bin _ _ _ _,s,_,hr,hw=>frameE hr hw rfl
  | .un _ _ _,s,_,hr,hw=>frameE hr hw rfl
  | .pick _ _ _ _,s,_,hr,hw=>frameE hr hw rfl
  | .cvi _ _ _,s,_,hr,hw=>frameE hr hw rfl
  | .cvn _ _,s,_,hr,hw=>frameE hr hw rfl
  | .cvb _ _,s,_,hr,hw=>frameE hr hw rfl
  | .cvs _ _,s,_,hr,hw=>frameE hr hw rfl
  | .ext _ _ _,s,_,hr,hw=>frameE hr hw rfl
  | .fld _ _ _ _ _,s,_,hr,hw=>frameE hr hw rfl
  | .bld _ _ _,s,_,hr,hw=>frameE hr hw rfl
  | .bsl _ _ _,s,_,hr,hw=>frameE hr hw rfl
  | .mks _ _ _ _ _,s,_,hr,hw=>frameE hr hw rfl
  | .alc _ _,s,_,hr,hw=>frameE hr hw rfl
  | .box _ _,s,_,hr,hw=>frameE hr hw rfl
  | .ld _ _ _ _,s,_,hr,hw=>frameE hr hw rfl
  | .st _ _ _,s,_,hr,hw=>frameE hr hw rfl
  | .nck _ _,s,_,hr,hw=>frameE hr hw rfl
  | .fad _ _ _,s,_,hr,hw=>frameE hr hw rfl
  | .ixa _ _ _ _,s,_,hr,hw=>frameE hr hw rfl
  | .ixs _ _ _,s,_,hr,hw=>frameE hr hw rfl
  | .slc _ _ _ _ _,s,_,hr,hw=>frameE hr hw rfl
  | .len _ _ _,s,_,hr,hw=>frameE hr hw rfl
  | .app _ _ _ _,s,_,hr,hw=>frameE hr hw rfl
  | .apb _ _ _,s,_,hr,hw=>frameE hr hw rfl
  | .mm _ _ _ _,s,_,hr,hw=>frameE hr hw rfl
  | .mkf _ _ _,s,_,hr,hw=>frameE hr hw rfl
  | .eqs _ _ _ _,s,_,hr,hw=>frameE hr hw rfl
  | .eqb _ _ _ _,s,_,hr,hw=>frameE hr hw rfl
  | .eqn _ _ _ _ _,s,_,hr,hw=>frameE hr hw rfl
  | .frz _ _,s,_,hr,hw=>frameE hr hw rfl
  | .clr _ _ _ _,s,_,hr,hw=>frameE hr hw rfl
  | .cpy _ _ _,s,_,hr,hw=>frameE hr hw rfl
  | .mkm _,s,_,hr,hw=>frameE hr hw rfl
  | .mup _ _ _ _,s,_,hr,hw=>frameE hr hw rfl
  | .mlk _ _ _ _ _ _,s,_,hr,hw=>frameE hr hw rfl
theorem acw {f:Option V} (he:f.map (s.put d)=some s'):∃ u,s'=s.put d u:=by
  obtain ⟨u,_,rfl⟩:=Option.map_eq_some_iff.1 he
  exact ⟨u,rfl⟩
theorem ahl {α:Type} {f:Option α} {g:α→V} (he:(f.map fun x=>s.put d (g x))=some s'):∃ u,s'=s.put d u:=by
  obtain ⟨u,_,rfl⟩:=Option.map_eq_some_iff.1 he
  exact ⟨_,rfl⟩
theorem aag:∀ {i:I},okG i=true→kdI i≤1→ev1 call i s=some s'→∃ u,s'=s.putO (wrI i) u
  | .g sl w d' i,hg,hk,he=>by
    simp only [okG,Bool.and_eq_true,beq_iff_eq] at hg
    simp only [ev1] at he
    split at he
    · have:=aag hg.2 hk he
      rwa [hg.1] at this
    · cases he;exact ⟨.tup [],rfl⟩
    · cases he
  | .ck c i,hg,hk,he=>by
    simp only [ev1] at he
    split at he
    · exact aag (i:=i) hg hk he
    · cases he
  | .mv _ _,_,_,he=>by cases he;exact ⟨_,rfl⟩
  | .bin _ _ _ _,_,_,he=>acw he
  | .un _ _ _,_,_,he=>acw he
  | .pick _ _ _ _,_,_,he=>acw he
  | .cvi _ _ _,_,_,he=>ahl he
  | .cvn _ x,_,_,he=>by
    simp only [ev1,evI] at he
    split at he
    · cases he;exact ⟨_,rfl⟩
    · cases he
  | .cvs _ x,_,_,he=>by
    simp only [ev1,evI] at he
    split at he
    · cases he
    · exact ahl he
  | .ext _ _ _,_,_,he=>by
    simp only [ev1,evI] at he
    split at he
    · exact acw he
    · cases he
  | .fld _ _ _ _ _,_,_,he=>by
    simp only [ev1,evI] at he
    split at he
    · exact acw he
    · cases he
  | .bld _ _ _,_,_,he=>acw he
  | .ld _ _ _ _,_,_,he=>acw he
  | .nck _ _,_,_,he=>by
    simp only [ev1,evI] at he
    split at he
    · cases he;exact ⟨_,rfl⟩
    · cases he
  | .fad _ _ _,_,_,he=>acw he
  | .ixa _ _ _ _,_,_,he=>acw he
  | .ixs _ _ _,_,_,he=>by
    simp only [ev1,evI] at he
    split at he
    · split at he
      · cases he;exact ⟨_,rfl⟩
      · cases he
    · cases he
  | .slc _ _ _ _ _,_,_,he=>acw he
  | .len _ _ _,_,_,he=>ahl he
  | .mm _ _ _ _,_,_,he=>acw he
  | .mkf _ _ _,_,_,he=>by
    simp only [ev1,evI] at he
    split at he
    · cases he;exact ⟨_,rfl⟩
    · cases he
  | .eqs _ _ _ _,_,_,he=>by
    simp only [ev1,evI] at he
    split at he
    · exact ahl he
    · cases he
  | .eqb _ _ _ _,_,_,he=>by
    simp only [ev1,evI] at he
    split at he
    · cases he;exact ⟨_,rfl⟩
    · cases he
  | .eqn _ _ _ _ _,_,_,he=>ahl he
  | .cvb _ _,_,hk,_=>by simp [kdI] at hk
  | .bsl _ _ _,_,hk,_=>by simp [kdI] at hk
  | .mks _ _ _ _ _,_,hk,_=>by simp [kdI] at hk
  | .alc _ _,_,hk,_=>by simp [kdI] at hk
  | .box _ _,_,hk,_=>by simp [kdI] at hk
  | .st _ _ _,_,hk,_=>by simp [kdI] at hk
  | .app _ _ _ _,_,hk,_=>by simp [kdI] at hk
  | .apb _ _ _,_,hk,_=>by simp [kdI] at hk
  | .frz _ _,_,hk,_=>by simp [kdI] at hk
  | .clr _ _ _ _,_,hk,_=>by simp [kdI] at hk
  | .cpy _ _ _,_,hk,_=>by simp [kdI] at hk
  | .mkm _,_,hk,_=>by simp [kdI] at hk
  | .mup _ _ _ _,_,hk,_=>by simp [kdI] at hk
  | .mlk _ _ _ _ _ _,_,_,he=>acw he
  | .callg _ _ _,_,hk,_=>by simp [kdI] at hk
  | .callr _ _ _,_,_,he=>by
    simp only [ev1] at he
    split at he
    · split at he
      · cases he;exact ⟨_,rfl⟩
      · cases he
    · cases he
  | .call _ _ _,_,hk,_=>by simp [kdI] at hk
  | .callv _ _ _,_,hk,_=>by simp [kdI] at hk
def Same (l:List Nat) (s s2:St):Prop:=∀ n,n ∈ l→s2.t.getD n .no=s.t.getD n .no
theorem Same.ev {x:X} {s s2:St} (h:Same x.rd s s2):s2.ev x=s.ev x:=by
  cases x with
  | c=>rfl
  | t n=>exact h n (by simp [X.rd])
theorem Same.l {a b:List Nat} {s s2:St} (h:Same (a++b) s s2):Same a s s2:=fun n hn=>h n (by simp [hn])
theorem Same.r {a b:List Nat} {s s2:St} (h:Same (a++b) s s2):Same b s s2:=fun n hn=>h n (by simp [hn])
theorem Same.evs {xs:List X} {s s2:St} (h:Same (xs.flatMap X.rd) s s2):xs.map s2.ev=xs.map s.ev:=
  List.map_congr_left fun x hx=>Same.ev fun n hn=>h n (List.mem_flatMap.2 ⟨x,hx,hn⟩)
theorem amj {s s2:St}:∀ (ps:List (Nat × Nat × X)) (cs:List V),Same (ps.flatMap fun p=>p.2.2.rd) s s2→bldV s2 cs ps=bldV s cs ps
  | [],_,_=>rfl
  | (o,z,x) :: ps,cs,h=>by
    rw [List.flatMap_cons] at h
    simp only [bldV,h.l.ev,amj ps _ h.r]
theorem afp {s2:St} {f:Option V} (he:f.map (s.put d)=some s'):∃ u,s'=s.put d u∧f.map (s2.put d)=some (s2.put d u):=by
  obtain ⟨u,h,rfl⟩:=Option.map_eq_some_iff.1 he
  exact ⟨u,rfl,by rw [h];rfl⟩
theorem aiq {s2:St} {α:Type} {f:Option α} {g:α→V} (he:(f.map fun x=>s.put d (g x))=some s'):∃ u,s'=s.put d u∧(f.map fun x=>s2.put d (g x))=some (s2.put d u):=by
  obtain ⟨u,h,rfl⟩:=Option.map_eq_some_iff.1 he
  exact ⟨_,rfl,by rw [h];rfl⟩
theorem afu {s2:St}:∀ {i:I},okG i=true→kdI i=0→Same (rdI i) s s2→ev1 call i s=some s'→∃ u,s'=s.putO (wrI i) u∧ev1 call i s2=some (s2.putO (wrI i) u)
  | .g sl w d' i,hg,hk,hs,he=>by
    simp only [okG,Bool.and_eq_true,beq_iff_eq] at hg
    have e:s2.t.getD sl .no=s.t.getD sl .no:=hs sl (by simp [rdI])
    simp only [ev1] at he ⊢
    rw [e]
    split at he
    · rename_i hc
      have:=afu hg.2 hk (fun n hn=>hs n (by simp [rdI,hn])) he
      rwa [hg.1] at this
    · rename_i hc
      cases he
      exact ⟨.tup [],rfl,rfl⟩
    · cases he
  | .ck c i,hg,hk,hs,he=>by
    simp only [rdI] at hs
    simp only [ev1] at he ⊢
    split at he
    · rename_i hc
      have e:ckS s2 c i=true:=by
        cases c with
        | np y=>
          simp only [ckS] at hc ⊢
          rw [Same.ev (x:=y) hs.l];exact hc
        | sb y z=>
          simp only [ckS] at hc ⊢
          have h1:=hs.l
          simp only [Ck.rd] at h1
          rw [h1.l.ev,h1.r.ev];exact hc
        | df y z=>
          simp only [ckS] at hc ⊢
          have h1:=hs.l
          simp only [Ck.rd] at h1
          rw [h1.l.ev,h1.r.ev];exact hc
        | dq ys=>
          simp only [ckS,Bool.and_eq_true] at hc
          cases i <;> simp only [nqS] at hc <;> (try (cases hc.1;done)) <;> simp [kdI] at hk
        | dj ys=>
          simp only [ckS,djB] at hc
          split at hc
          · rename_i hl
            cases i <;> simp only [lentIds] at hl <;> (try (cases hl;done)) <;> simp [kdI] at hk
          · cases hc
      rw [if_pos e]
      exact afu (i:=i) hg hk hs.r he
    · cases he
  | .mv _ x,_,_,hs,he=>by
    cases he
    refine ⟨_,rfl,?_⟩
    simp only [ev1,evI,wrI,Same.ev (x:=x) hs];rfl
  | .bin _ _ x y,_,_,hs,he=>by
    simp only [rdI] at hs
    simp only [ev1,evI] at he ⊢
    rw [hs.l.ev,hs.r.ev];exact afp he
  | .un _ _ x,_,_,hs,he=>by
    simp only [rdI] at hs
    simp only [ev1,evI] at he ⊢
    rw [hs.ev];exact afp he
  | .pick _ c x y,_,_,hs,he=>by
    simp only [rdI] at hs
    simp only [ev1,evI] at he ⊢
    rw [hs.l.ev,hs.r.l.ev,hs.r.r.ev];exact afp he
  | .cvi _ _ x,_,_,hs,he=>by
    simp only [rdI] at hs
    simp only [ev1,evI] at he ⊢
    rw [hs.ev];exact aiq he
  | .cvn _ x,_,_,hs,he=>by
    simp only [rdI] at hs
    simp only [ev1,evI] at he ⊢
    rw [hs.ev]
    split at he
    · cases he;exact ⟨_,rfl,rfl⟩
    · cases he
  | .ext _ x _,_,_,hs,he=>by
    simp only [rdI] at hs
    simp only [ev1,evI] at he ⊢
    rw [hs.ev]
    split at he
    · exact afp he
    · cases he
  | .fld _ x _ _ _,_,_,hs,he=>by
    simp only [rdI] at hs
    simp only [ev1,evI] at he ⊢
    rw [hs.ev]
    split at he
    · exact afp he
    · cases he
  | .bld _ zs ps,_,_,hs,he=>by
    simp only [rdI] at hs
    simp only [ev1,evI] at he ⊢
    rw [amj ps zs hs];exact afp he
  | .nck _ x,_,_,hs,he=>by
    simp only [rdI] at hs
    simp only [ev1,evI] at he ⊢
    rw [hs.ev]
    split at he
    · rename_i h1
      cases he
      rw [if_pos h1];exact ⟨_,rfl,rfl⟩
    · cases he
  | .fad _ x _,_,_,hs,he=>by
    simp only [rdI] at hs
    simp only [ev1,evI] at he ⊢
    rw [hs.ev];exact afp he
  | .ixs _ x i,_,_,hs,he=>by
    simp only [rdI] at hs
    simp only [ev1,evI] at he ⊢
    rw [hs.l.ev,hs.r.ev]
    split at he
    · split at he
      · rename_i h1
        cases he
        simp only [h1];exact ⟨_,rfl,rfl⟩
      · cases he
    · cases he
  | .len _ _ x,_,_,hs,he=>by
    simp only [rdI] at hs
    simp only [ev1,evI] at he ⊢
    rw [hs.ev];exact aiq he
  | .mm _ _ x y,_,_,hs,he=>by
    simp only [rdI] at hs
    simp only [ev1,evI] at he ⊢
    rw [hs.l.ev,hs.r.ev];exact afp he
  | .mkf _ _ caps,_,_,hs,he=>by
    simp only [rdI] at hs
    simp only [ev1,evI] at he ⊢
    rw [hs.evs]
    split at he
    · rename_i h1
      cases he
      rw [if_pos h1];exact ⟨_,rfl,rfl⟩
    · cases he
  | .eqs _ _ x y,_,_,hs,he=>by
    simp only [rdI] at hs
    simp only [ev1,evI] at he ⊢
    rw [hs.l.ev,hs.r.ev]
    split at he
    · exact aiq he
    · cases he
  | .eqb _ _ x y,_,_,hs,he=>by
    simp only [rdI] at hs
    simp only [ev1,evI] at he ⊢
    rw [hs.l.ev,hs.r.ev]
    split at he
    · cases he;exact ⟨_,rfl,rfl⟩
    · cases he
  | .eqn _ _ _ x y,_,_,hs,he=>by
    simp only [rdI] at hs
    simp only [ev1,evI] at he ⊢
    rw [hs.l.ev,hs.r.ev];exact aiq he
  | .cvs _ _,_,hk,_,_=>by simp [kdI] at hk
  | .ld _ _ _ _,_,hk,_,_=>by simp [kdI] at hk
  | .ixa _ _ _ _,_,hk,_,_=>by simp [kdI] at hk
  | .slc _ _ _ _ _,_,hk,_,_=>by simp [kdI] at hk
  | .cvb _ _,_,hk,_,_=>by simp [kdI] at hk
  | .bsl _ _ _,_,hk,_,_=>by simp [kdI] at hk
  | .mks _ _ _ _ _,_,hk,_,_=>by simp [kdI] at hk
  | .alc _ _,_,hk,_,_=>by simp [kdI] at hk
  | .box _ _,_,hk,_,_=>by simp [kdI] at hk
  | .st _ _ _,_,hk,_,_=>by simp [kdI] at hk
  | .clr _ _ _ _,_,hk,_,_=>by simp [kdI] at hk
  | .cpy _ _ _,_,hk,_,_=>by simp [kdI] at hk
  | .mkm _,_,hk,_,_=>by simp [kdI] at hk
  | .mup _ _ _ _,_,hk,_,_=>by simp [kdI] at hk
  | .mlk _ _ _ _ _ _,_,hk,_,_=>by simp [kdI] at hk
  | .app _ _ _ _,_,hk,_,_=>by simp [kdI] at hk
  | .apb _ _ _,_,hk,_,_=>by simp [kdI] at hk
  | .frz _ _,_,hk,_,_=>by simp [kdI] at hk
  | .call _ _ _,_,hk,_,_=>by simp [kdI] at hk
  | .callv _ _ _,_,hk,_,_=>by simp [kdI] at hk
  | .callg _ _ _,_,hk,_,_=>by simp [kdI] at hk
  | .callr _ _ _,_,hk,_,_=>by simp [kdI] at hk
def Off (d:Option Nat) (s s':St):Prop:=∀ n,d≠some n→s'.t.getD n .no=s.t.getD n .no
theorem Off.put (s:St) (d:Nat) (v:V):Off (some d) s (s.put d v):=fun n hn=>by
  simp only [St.put,List.getD_eq_getElem?_getD]
  rw [List.getElem?_set_ne fun e=>hn (by rw [e])]
theorem Off.putO (s:St) (d:Option Nat) (v:V):Off d s (s.putO d v):=by
  cases d with
  | none=>exact fun n _=>rfl
  | some d=>exact .put s d v
theorem Off.t {d:Nat} {s s':St} {v:V} (h:s'.t=s.t.set d v):Off (some d) s s':=fun n hn=>by
  rw [h,List.getD_eq_getElem?_getD,List.getElem?_set_ne fun e=>hn (by rw [e]),List.getD_eq_getElem?_getD]
theorem frzs_t:∀ (us:List V) {s s':St} {us':List V},frzs us s=some (us',s')→s'.t=s.t
  | [],_,_,_,he=>by cases he;rfl
  | u :: us,s,s',us',he=>by
    simp only [frzs] at he
    split at he
    · rename_i v1 s1 e1
      split at he
      · rename_i e2
        cases he
        rw [frzs_t us e2]
        unfold frzL at e1
        split at e1 <;> (try cases e1) <;> try rfl
        split at e1
        · cases e1;rfl
        · cases e1
      · cases he
    · cases he
theorem frzL_t {u u':V} {s s':St} (he:frzL u s=some (u',s')):s'.t=s.t:=by
  have:frzs [u] s=some ([u'],s'):=by simp [frzs,he]
  exact frzs_t _ this
theorem frzV_t {u u':V} {s s':St} (he:frzV u s=some (u',s')):s'.t=s.t:=by
  unfold frzV at he
  split at he
  · split at he
    · rename_i e;cases he;exact frzs_t _ e
    · cases he
  · exact frzL_t he
theorem arh:∀ (us:List V) {s s':St} {us':List V},frzVs us s=some (us',s')→s'.t=s.t
  | [],_,_,_,he=>by cases he;rfl
  | u :: us,s,s',us',he=>by
    simp only [frzVs] at he
    split at he
    · rename_i v1 s1 e1
      split at he
      · rename_i e2
        cases he
        rw [arh us e2,frzV_t e1]
      · cases he
    · cases he
theorem ak1 {d:Nat} {x:V} {ys:List V} {z:Nat} (he:appR s d x ys z=some s'):Off (some d) s s':=by
  unfold appR at he
  split at he
  · split at he
    · cases he;exact .t rfl
    · cases he
  · split at he
    · split at he
      · cases he
      · split at he
        · split at he
          · split at he
            · cases he;exact .put _ _ _
            · cases he;exact .t rfl
          · split at he
            · cases he;exact .t rfl
            · cases he
        · cases he
    · cases he
  · cases he
theorem aj6 {d:Option Nat} {f:Nat} {as:List (X × Md)} {caps:List V} (he:doCall call s d f as caps=some s'):Off d s s':=by
  unfold doCall at he
  split at he
  · cases he
  · split at he
    · cases he
    · cases he
      unfold impoF
      split
      · unfold impo
        exact fun n hn=>Off.putO ⟨s.t,_,_⟩ d _ n hn
      · unfold impo
        exact fun n hn=>Off.putO ⟨s.t,_,_⟩ d _ n hn
theorem off:∀ {i:I},okG i=true→ev1 call i s=some s'→Off (wrI i) s s'
  | .g sl w d' i,hg,he=>by
    simp only [okG,Bool.and_eq_true,beq_iff_eq] at hg
    simp only [ev1] at he
    split at he
    · have:=off hg.2 he
      rwa [hg.1] at this
    · cases he;exact .putO _ _ _
    · cases he
  | .ck c i,hg,he=>by
    simp only [ev1] at he
    split at he
    · exact off (i:=i) hg he
    · cases he
  | .cvb _ _,_,he=>by
    simp only [ev1,evI] at he
    split at he
    · split at he
      · cases he;exact .t rfl
      · cases he
    · cases he
  | .bsl _ _ _,_,he=>by
    simp only [ev1,evI] at he
    split at he
    · rename_i e1
      split at he
      · cases he;exact .t (by simp only [St.new];rw [arh _ e1])
      · cases he
    · cases he
  | .mks _ _ _ _ _,_,he=>by
    simp only [ev1,evI,mksV] at he
    split at he
    · split at he
      · cases he;exact .t rfl
      · cases he
    · cases he
  | .alc _ _,_,he=>by cases he;exact .t rfl
  | .box _ _,_,he=>by
    simp only [ev1,evI] at he
    split at he
    · cases he;exact .t rfl
    · cases he
  | .st x v z,_,he=>by
    simp only [ev1,evI,storeV] at he
    split at he
    · cases he
    · split at he
      · split at he
        · cases he;exact fun n _=>rfl
        · cases he
      · split at he
        · rename_i e1
          split at he
          · obtain ⟨e,_,h2⟩:=Option.bind_eq_some_iff.1 he
            cases h2
            exact fun n _=>by rw [← frzs_t _ e1]
          · cases he
        · cases he
      · cases he
  | .app _ _ _ _,_,he=>by
    simp only [ev1,evI,appV] at he
    split at he
    · cases he
    · split at he
      · exact ak1 he
      · cases he
  | .apb _ _ _,_,he=>by
    simp only [ev1,evI,apbV] at he
    split at he
    · split at he
      · split at he
        · cases he;exact .put _ _ _
        · exact ak1 he
      · cases he
    · unfold apbR at he
      split at he
      · split at he
        · exact ak1 he
        · cases he
      · cases he
  | .frz _ _,_,he=>by
    simp only [ev1,evI] at he
    split at he
    · rename_i e1
      cases he
      exact .t (by simp only [St.put];rw [frzV_t e1])
    · cases he
  | .clr d x z el,_,he=>by
    simp only [ev1,evI] at he
    obtain ⟨s1,h1,rfl⟩:=Option.map_eq_some_iff.1 he
    have e:s1.t=s.t:=by
      unfold clrV at h1
      split at h1
      · cases h1;rfl
      · split at h1
        · split at h1
          · cases h1;rfl
          · cases h1
        · cases h1
      · cases h1
    exact fun n hn=>(Off.putO s1 d _ n hn).trans (by rw [e])
  | .cpy d x y,_,he=>by
    simp only [ev1,evI] at he
    obtain ⟨p,h1,rfl⟩:=Option.map_eq_some_iff.1 he
    have e:p.1.t=s.t:=by
      unfold cpyV at h1
      split at h1
      · split at h1
        · cases h1;rfl
        · split at h1
          · split at h1
            · cases h1;rfl
            · cases h1
          · cases h1
        · cases h1
      · cases h1
    exact fun n hn=>(Off.putO p.1 d _ n hn).trans (by rw [e])
  | .mkm _,_,he=>by cases he;exact .t rfl
  | .mup _ _ _ _,_,he=>by
    simp only [ev1,evI,mupV] at he
    split at he
    · rename_i e1
      split at he
      · split at he
        · split at he
          · obtain ⟨xs,_,rfl⟩:=Option.map_eq_some_iff.1 he
            exact fun n _=>by rw [← frzL_t e1]
          · cases he
        · cases he
      · cases he
    · cases he
  | .mlk _ _ _ _ _ _,hg,he=>by obtain ⟨u,rfl⟩:=aag (call:=call) hg (by simp [kdI]) he;exact .putO _ _ _
  | .call _ _ _,_,he=>aj6 he
  | .callg d _ _,_,he=>by
    simp only [ev1] at he
    split at he
    · obtain ⟨o,_,rfl⟩:=Option.map_eq_some_iff.1 he
      exact fun n hn=>Off.putO ⟨s.t,_,_⟩ d _ n hn
    · cases he
  | .callr d _ _,_,he=>by
    simp only [ev1] at he
    split at he
    · split at he
      · cases he;exact Off.putO _ _ _
      · cases he
    · cases he
  | .callv _ _ _,_,he=>by
    simp only [ev1] at he
    split at he
    · exact aj6 he
    · cases he
  | .mv _ _,hg,he=>by obtain ⟨u,rfl⟩:=aag (call:=call) hg (by simp [kdI]) he;exact .putO _ _ _
  | .bin _ _ _ _,hg,he=>by obtain ⟨u,rfl⟩:=aag (call:=call) hg (by simp [kdI]) he;exact .putO _ _ _
  | .un _ _ _,hg,he=>by obtain ⟨u,rfl⟩:=aag (call:=call) hg (by simp [kdI]) he;exact .putO _ _ _
  | .pick _ _ _ _,hg,he=>by obtain ⟨u,rfl⟩:=aag (call:=call) hg (by simp [kdI]) he;exact .putO _ _ _
  | .cvi _ _ _,hg,he=>by obtain ⟨u,rfl⟩:=aag (call:=call) hg (by simp [kdI]) he;exact .putO _ _ _
  | .cvn _ _,hg,he=>by obtain ⟨u,rfl⟩:=aag (call:=call) hg (by simp [kdI]) he;exact .putO _ _ _
  | .cvs _ _,hg,he=>by obtain ⟨u,rfl⟩:=aag (call:=call) hg (by simp [kdI]) he;exact .putO _ _ _
  | .ext _ _ _,hg,he=>by obtain ⟨u,rfl⟩:=aag (call:=call) hg (by simp [kdI]) he;exact .putO _ _ _
  | .fld _ _ _ _ _,hg,he=>by obtain ⟨u,rfl⟩:=aag (call:=call) hg (by simp [kdI]) he;exact .putO _ _ _
  | .bld _ _ _,hg,he=>by obtain ⟨u,rfl⟩:=aag (call:=call) hg (by simp [kdI]) he;exact .putO _ _ _
  | .ld _ _ _ _,hg,he=>by obtain ⟨u,rfl⟩:=aag (call:=call) hg (by simp [kdI]) he;exact .putO _ _ _
  | .nck _ _,hg,he=>by obtain ⟨u,rfl⟩:=aag (call:=call) hg (by simp [kdI]) he;exact .putO _ _ _
  | .fad _ _ _,hg,he=>by obtain ⟨u,rfl⟩:=aag (call:=call) hg (by simp [kdI]) he;exact .putO _ _ _
  | .ixa _ _ _ _,hg,he=>by obtain ⟨u,rfl⟩:=aag (call:=call) hg (by simp [kdI]) he;exact .putO _ _ _
  | .ixs _ _ _,hg,he=>by obtain ⟨u,rfl⟩:=aag (call:=call) hg (by simp [kdI]) he;exact .putO _ _ _
  | .slc _ _ _ _ _,hg,he=>by obtain ⟨u,rfl⟩:=aag (call:=call) hg (by simp [kdI]) he;exact .putO _ _ _
  | .len _ _ _,hg,he=>by obtain ⟨u,rfl⟩:=aag (call:=call) hg (by simp [kdI]) he;exact .putO _ _ _
  | .mm _ _ _ _,hg,he=>by obtain ⟨u,rfl⟩:=aag (call:=call) hg (by simp [kdI]) he;exact .putO _ _ _
  | .mkf _ _ _,hg,he=>by obtain ⟨u,rfl⟩:=aag (call:=call) hg (by simp [kdI]) he;exact .putO _ _ _
  | .eqs _ _ _ _,hg,he=>by obtain ⟨u,rfl⟩:=aag (call:=call) hg (by simp [kdI]) he;exact .putO _ _ _
  | .eqb _ _ _ _,hg,he=>by obtain ⟨u,rfl⟩:=aag (call:=call) hg (by simp [kdI]) he;exact .putO _ _ _
  | .eqn _ _ _ _ _,hg,he=>by obtain ⟨u,rfl⟩:=aag (call:=call) hg (by simp [kdI]) he;exact .putO _ _ _
def offO (d:Option Nat) (l:List Nat):Bool:=match d with | some d=>!l.contains d | none=>true
def allBw:List (X × Md)→Bool
  | []=>true
  | (_,.b _) :: as=>allBw as
  | _=>false
def rdr:I→Option (Nat × X)
  | .ld d y _ _=>some (d,y)
  | .ixa d y _ _=>some (d,y)
  | .slc d y _ _ _=>some (d,y)
  | .cvs d y=>some (d,y)
  | _=>none
inductive Al where
  | no
  | np
  | sb (z:X)
  | df (z:X)
def isT:X→X→Bool
  | .t n,.t m=>n == m
  | _,_=>false
def isLd:I→Option (Nat × X × Al × I)
  | .ck (.np y') i=>match rdr i with
    | some (d,y)=>if isT y' y then some (d,y,.np,i) else none
    | none=>none
  | .ck (.sb y' z) i=>match rdr i with
    | some (d,y)=>if isT y' y then some (d,y,.sb z,i) else none
    | none=>none
  | .ck (.df y' z) i=>match rdr i with
    | some (d,y)=>if isT y' y then some (d,y,.df z,i) else none
    | none=>none
  | i=>(rdr i).map fun p=>(p.1,p.2,.no,i)
def lookS (s:St) (y:X):Al→Bool
  | .no=>true
  | .np=>notEp (s.ev y)
  | .sb z=>sameP (s.ev y) (s.ev z)
  | .df z=>diffP (s.ev y) (s.ev z)
def isWr:I→Bool
  | .call _ _ _=>true
  | .bsl _ _ _=>true
  | .app _ _ _ _=>true
  | _=>false
def isCl:I→Option (I × List X)
  | .ck (.dj ys) i=>if isWr i then some (i,ys) else none
  | .ck (.dq ys) i=>if isWr i then some (i,ys) else none
  | i=>if isWr i then some (i,[]) else none
def quiet:I→Bool
  | .call _ _ as=>allBw as
  | .bsl _ _ _=>true
  | _=>false
def hitX (y:X) (al:Al) (z:X):Bool:=isT y z || match al with | .sb z'=>isT z' z | _=>false
def isNp:Al→Bool
  | .np=>true
  | _=>false
def isApp:I→Bool
  | .app _ _ _ _=>true
  | _=>false
def ldc (x i:I):Bool:=
  match isLd x,isCl i with
  | some (_,y,al,_),some (w,ys)=>quiet w || (isApp w && isNp al) || ys.any (hitX y al)
  | _,_=>match isCl x,isLd i with
    | some (w,ys),some (_,y,al,_)=>((quiet w || isApp w) && isNp al) || ys.any (hitX y al)
    | _,_=>false
def ldc2 (x:I):I→Bool
  | .g _ _ _ i=>ldc2 x i
  | i=>ldc x i
def ldcG (i:I):I→Bool
  | .g _ _ _ x=>ldcG i x
  | x=>ldc2 x i
def bs (x i:I):Bool:=okG x && okG i && offO (wrI x) (rdI i) && offO (wrI i) (rdI x) && (wrI x != wrI i || wrI x == none)
def ldPos:I→Bool
  | .ld _ _ z _=>decide (0<z)
  | _=>true
def isDq:I→Bool
  | .ck (.dq _) (.call _ _ _)=>true
  | _=>false
def alcC (x:I):I→Bool
  | .alc _ _=>(match isLd x with | some (_,_,_,x0)=>ldPos x0 | none=>false) || isDq x
  | _=>false
def stOf:I→Option (X × X)
  | .st y _ _=>some (y,y)
  | .ck (.sb y' z) (.st y _ _)=>if isT y' y then some (y,z) else none
  | _=>none
def isLdI:I→Bool
  | .ld _ _ _ _=>true
  | _=>false
def stC (x i:I):Bool:=
  match isLd x,stOf i with
  | some (_,_,.df z,x0),some (y,z2)=>(isT z y || isT z z2) && isLdI x0
  | _,_=>match stOf x,isLd i with
    | some (y,z2),some (_,_,.df z,i0)=>(isT z y || isT z z2) && isLdI i0
    | _,_=>false
def nc (x i:I):Bool:=bs x i && (kdI x == 0 || kdI i == 0 || (kdI x == 1 && kdI i == 1) || ldcG i x || alcC x i || stC x i)
theorem apc (s:St) (xp:Xp):∀ (as:List (X × Md)),allBw as=true→expAs s as xp=some (as.map fun _=>V.no,xp)
  | [],_=>rfl
  | (x,.b k) :: as,h=>by simp only [expAs,apc s xp as h,List.map_cons]
  | (x,.m k) :: as,h=>by simp [allBw] at h
theorem amo {d:Option Nat} {f:Nat} {as:List (X × Md)} (h:allBw as=true) (he:doCall call s d f as []=some s'):∃ (r:List Rw) (u:V),s'=(St.mk s.t s.m (s.r++r)).putO d u:=by
  unfold doCall at he
  have e0:∃ s0,expo s as []=some (s0,⟨[],[]⟩):=by
    simp only [expo,apc s _ as h,expLs,expBl,List.getElem?_nil,List.append_nil,List.map_nil]
    exact ⟨_,rfl⟩
  obtain ⟨s0,e0⟩:=e0
  rw [e0] at he
  simp only at he
  split at he
  · cases he
  · rename_i v m r _
    cases he
    refine ⟨r,v.mapL (impL [] s.r.length),?_⟩
    unfold impoF
    split <;> rfl
theorem acs {d:Option Nat} {l:List Nat} (h:offO d l=true) {n:Nat} (hd:d=some n):n ∉ l:=by
  subst hd;simpa [offO] using h
theorem frameO {i:I} {d:Option Nat} (hg:okG i=true) (hr:offO d (rdI i)=true) (hw:d=none∨wrI i≠d):ev1 call i (s.putO d v)=(ev1 call i s).map (·.putO d v):=by
  cases d with
  | none=>simp only [St.putO];cases ev1 call i s <;> rfl
  | some d=>exact frame hg (acs hr rfl) (by rcases hw with h | h;cases h;exact h)
theorem asg {d d':Option Nat} (h:d=none∨d'≠d) (s:St) (v v':V):(s.putO d v).putO d' v'=(s.putO d' v').putO d v:=by
  cases d with
  | none=>rfl
  | some d=>exact St.putO_comm (by rcases h with h | h;cases h;exact h) s v v'
theorem isT_eq {x y:X} (h:isT x y=true):x=y:=by
  cases x <;> cases y <;> simp [isT] at h
  rw [h]
def rdV:I→St→Option V
  | .ld _ y z ag,s=>loadV s (s.ev y) z ag
  | .ixa _ x i z,s=>idxV s z (s.ev x) (s.ev i)
  | .slc _ x lo hi z,s=>slcV s z (s.ev x) (lo.map s.ev) (hi.map s.ev)
  | .cvs _ x,s=>match s.ev x with | .s _=>none | v=>((s.cont 1 v).bind vbytes).map V.s
  | _,_=>none
theorem rdr_ev {x:I} {d:Nat} {y:X} (h:rdr x=some (d,y)) (s:St):ev1 call x s=(rdV x s).map (s.put d):=by
  cases x <;> simp only [rdr] at h <;> (try (cases h;done)) <;> cases h <;> try rfl
  simp only [ev1,evI,rdV]
  cases s.ev y <;> simp [Option.map_map,Function.comp_def]
def MemUp (v:V) (s s2:St):Prop:=match v with
  | .ptr id _=>s2.m.getD id []=s.m.getD id []
  | .ep id _ _=>∀ z fz xs,s.r.getD id .gone=.row z fz xs→∃ fz',s2.r.getD id .gone=.row z fz' xs
  | .sl id _ _ _=>∀ z fz xs,s.r.getD id .gone=.row z fz xs→∃ fz',s2.r.getD id .gone=.row z fz' xs
  | _=>True
theorem apa {x:Option X} {s s2:St} (h:Same (rdO x) s s2):x.map s2.ev=x.map s.ev:=by
  cases x with
  | none=>rfl
  | some x=>simp only [Option.map_some,Same.ev (x:=x) h]
theorem rdV_up {x:I} {d:Nat} {y:X} {v:V} {s s2:St} (h:rdr x=some (d,y)) (hs:Same (rdI x) s s2) (hm:MemUp (s.ev y) s s2) (hv:rdV x s=some v):rdV x s2=some v:=by
  cases x <;> simp only [rdr] at h <;> (try (cases h;done)) <;> cases h
  case ld z ag=>
    simp only [rdV] at hv ⊢
    rw [Same.ev (x:=y) hs]
    cases hy:s.ev y <;> rw [hy] at hv hm <;> simp only [loadV] at hv ⊢ <;> (try (cases hv;done))
    case ptr id off=>rw [show s2.m.getD id []=s.m.getD id [] from hm];exact hv
    case ep id idx off=>
      split at hv
      · rename_i z' fz xs hr
        obtain ⟨fz',h2⟩:=hm _ _ _ hr
        rw [h2];exact hv
      · cases hv
    case vp cs=>exact hv
  case ixa i z=>
    simp only [rdV] at hv ⊢
    simp only [rdI] at hs
    rw [hs.l.ev,hs.r.ev]
    cases hy:s.ev y <;> rw [hy] at hv hm <;> cases hi:s.ev i <;> rw [hi] at hv <;> simp only [idxV] at hv ⊢ <;> (try (cases hv;done))
    case view.i=>exact hv
    case sl.i id lo n tg k u=>
      split at hv
      · rename_i z' fz xs hr
        obtain ⟨fz',h2⟩:=hm _ _ _ hr
        rw [h2];exact hv
      · cases hv
  case slc lo hi z=>
    simp only [rdV] at hv ⊢
    simp only [rdI] at hs
    rw [hs.l.ev,apa hs.r.l,apa hs.r.r]
    cases z with
    | zero=>cases hy:s.ev y <;> rw [hy] at hv <;> simp only [slcV] at hv ⊢ <;> (try (cases hv;done)) <;> exact hv
    | succ z=>
      cases hy:s.ev y <;> rw [hy] at hv hm <;> simp only [slcV] at hv ⊢ <;> (try (cases hv;done)) <;> try exact hv
      case sl id lo n tg=>
        split at hv
        · rename_i z' fz xs hr
          obtain ⟨fz',h2⟩:=hm _ _ _ hr
          rw [h2];exact hv
        · cases hv
  case cvs=>
    simp only [rdV] at hv ⊢
    rw [Same.ev (x:=y) hs]
    cases hy:s.ev y <;> rw [hy] at hv hm <;> simp only [St.cont] at hv ⊢ <;> (try (cases hv;done)) <;> try exact hv
    case sl id lo n tg=>
      cases hr:s.r.getD id .gone with
      | gone=>rw [hr] at hv;cases hv
      | row z' fz xs=>
        obtain ⟨fz',h2⟩:=hm _ _ _ hr
        rw [hr] at hv
        rw [h2];exact hv
theorem ajf {x:I} {d:Nat} {y:X} {al:Al} {x0:I} (h:isLd x=some (d,y,al,x0)):rdr x0=some (d,y)∧wrI x=some d∧(∀ n,n ∈ rdI x0→n ∈ rdI x)∧(∀ z,al=.sb z∨al=.df z→∀ n,n ∈ z.rd→n ∈ rdI x)∧∀ s,ev1 call x s=if lookS s y al=true then (rdV x0 s).map (s.put d) else none:=by
  have wr:∀ {i:I} {d:Nat} {y:X},rdr i=some (d,y)→wrI i=some d:=by
    intro i d y h
    cases i <;> simp only [rdr] at h <;> (try (cases h;done)) <;> cases h <;> rfl
  unfold isLd at h
  split at h
  · split at h
    · rename_i hr
      split at h
      · rename_i e
        cases h
        have e:=isT_eq e;subst e
        refine ⟨hr,(show wrI x0=some d from wr hr),fun n hn=>by simp only [rdI,List.mem_append];exact .inr hn,fun z hz=>(by rcases hz with hz | hz <;> cases hz),fun s=>?_⟩
        rw [← rdr_ev (call:=call) hr]
        rfl
      · cases h
    · cases h
  · split at h
    · rename_i hr
      split at h
      · rename_i e
        cases h
        have e:=isT_eq e;subst e
        refine ⟨hr,(show wrI x0=some d from wr hr),fun n hn=>by simp only [rdI,List.mem_append];exact .inr hn,fun z hz n hn=>(by rcases hz with hz | hz <;> cases hz;simp only [rdI,Ck.rd,List.mem_append];exact .inl (.inr hn)),fun s=>?_⟩
        rw [← rdr_ev (call:=call) hr]
        rfl
      · cases h
    · cases h
  · split at h
    · rename_i hr
      split at h
      · rename_i e
        cases h
        have e:=isT_eq e;subst e
        refine ⟨hr,(show wrI x0=some d from wr hr),fun n hn=>by simp only [rdI,List.mem_append];exact .inr hn,fun z hz n hn=>(by rcases hz with hz | hz <;> cases hz;simp only [rdI,Ck.rd,List.mem_append];exact .inl (.inr hn)),fun s=>?_⟩
        rw [← rdr_ev (call:=call) hr]
        rfl
      · cases h
    · cases h
  · obtain ⟨⟨d',y'⟩,hr,e⟩:=Option.map_eq_some_iff.1 h
    cases e
    exact ⟨hr,wr hr,fun n hn=>hn,fun z hz=>(by rcases hz with hz | hz <;> cases hz),fun s=>(rdr_ev hr s).trans (if_pos rfl).symm⟩
theorem an7 {d:Option Nat} {f:Nat} {as:List (X × Md)} (he:doCall call s d f as []=some s'):∃ xp:Xp,lentIds s (.call d f as)=some xp∧∃ v m r,s'=impoF f s xp d v m r:=by
  unfold doCall at he
  split at he
  · cases he
  · rename_i s0 xp e0
    split at he
    · cases he
    · rename_i v m r _
      cases he
      exact ⟨xp,by simp only [lentIds,e0,Option.map_some],v,m,r,rfl⟩
theorem arp {i w:I} {ys:List X} (h:isCl i=some (w,ys)) (he:ev1 call i s=some s'):ev1 call w s=some s'∧isWr w=true∧(ys=[]∨∃ xp,lentIds s w=some xp∧∀ y,y ∈ ys→notIn s xp (s.ev y)=true):=by
  have dj:djB s ys w=true→∃ xp,lentIds s w=some xp∧∀ y,y ∈ ys→notIn s xp (s.ev y)=true:=by
    intro hc
    unfold djB at hc
    split at hc
    · rename_i xp hx
      exact ⟨xp,hx,fun y hy=>List.all_eq_true.1 hc y hy⟩
    · cases hc
  unfold isCl at h
  split at h
  · split at h
    · rename_i hw
      cases h
      simp only [ev1] at he
      split at he
      · rename_i hc
        exact ⟨he,hw,.inr (dj hc)⟩
      · cases he
    · cases h
  · split at h
    · rename_i hw
      cases h
      simp only [ev1] at he
      split at he
      · rename_i hc
        simp only [ckS,Bool.and_eq_true] at hc
        exact ⟨he,hw,.inr (dj hc.2)⟩
      · cases he
    · cases h
  · split at h
    · rename_i hw;cases h;exact ⟨he,hw,.inl rfl⟩
    · cases h
theorem akd {id:Nat} (base:Nat) (bl0:List (Nat × Nat × Nat)):∀ (bl:List (Nat × Nat × Nat)) (ms m:List (List V)),id ∉ bl.map (·.1)→(impM base bl0 bl ms m).getD id []=m.getD id []
  | [],ms,m,_=>by cases ms <;> rfl
  | (id',off,k) :: bl,[],m,_=>rfl
  | (id',off,k) :: bl,cs :: ms,m,h=>by
    simp only [List.map_cons,List.mem_cons,not_or] at h
    rw [impM,akd base bl0 bl ms _ h.2,List.getD_eq_getElem?_getD,List.getElem?_set_ne (Ne.symm h.1),← List.getD_eq_getElem?_getD]
theorem putO_m (s:St) (d:Option Nat) (v:V):(s.putO d v).m=s.m:=by cases d <;> rfl
theorem avb (f:Nat) (s:St) (xp:Xp) (d:Option Nat) (v:V) (m:List (List V)) (r:List Rw):(impoF f s xp d v m r).m=impM s.r.length xp.bl xp.bl m s.m:=by
  unfold impoF impo
  split <;> simp only [putO_m]
theorem aiz {id base:Nat} (hb:id<base):∀ (ids:List Nat) (j:Nat) (r:List Rw),id ∉ ids→(backs base j ids r).getD id .gone=r.getD id .gone
  | [],j,r,_=>rfl
  | x :: ids,j,r,h=>by
    simp only [List.mem_cons,not_or] at h
    rw [backs,aiz hb ids _ _ h.2,List.getD_eq_getElem?_getD,List.getElem?_set_ne (by omega),List.getElem?_set_ne (Ne.symm h.1),← List.getD_eq_getElem?_getD]
theorem aje {id:Nat}:∀ (ids:List Nat) (r:List Rw),id ∉ ids→(gones ids r).getD id .gone=r.getD id .gone
  | [],r,_=>rfl
  | x :: ids,r,h=>by
    simp only [List.mem_cons,not_or] at h
    rw [gones,aje ids _ h.2,List.getD_eq_getElem?_getD,List.getElem?_set_ne (Ne.symm h.1),← List.getD_eq_getElem?_getD]
theorem arn {id:Nat} (f:Nat) (s:St) (xp:Xp) (d:Option Nat) (v:V) (m:List (List V)) (r:List Rw) (hlt:id<s.r.length) (hn:id ∉ xp.rw):(impoF f s xp d v m r).r.getD id .gone=s.r.getD id .gone:=by
  have e:(gones xp.rw s.r++r).getD id .gone=s.r.getD id .gone:=by
    rw [List.getD_eq_getElem?_getD,List.getElem?_append_left (by rw [aap];exact hlt),← List.getD_eq_getElem?_getD,aje _ _ hn]
  have e2:(impo s xp d v m r).r=gones xp.rw s.r++r:=by unfold impo;rw [putO_r]
  unfold impoF
  split
  · show (backs _ _ _ _).getD id .gone=_
    rw [aiz hlt _ _ _ hn,e2,e]
  · rw [e2,e]
theorem row_lt {id:Nat} {r:List Rw} (h:isRow (r.getD id .gone)=true):id<r.length:=Nat.lt_of_not_le fun hge=>by
  rw [List.getD_eq_getElem?_getD,List.getElem?_eq_none hge] at h;cases h
theorem at5 {d:Option Nat} {f:Nat} {as:List (X × Md)} {xp:Xp} {p:V} (he:doCall call s d f as []=some s') (hi:lentIds s (.call d f as)=some xp) (hp:notIn s xp p=true):MemUp p s s'∧MemUp p s' s:=by
  obtain ⟨xp',h1,v,m,r,rfl⟩:=an7 he
  rw [h1] at hi
  cases hi
  cases p <;> simp only [notIn] at hp <;> try exact ⟨trivial,trivial⟩
  case ptr id off=>
    have:(impoF f s xp d v m r).m.getD id []=s.m.getD id []:=by
      rw [avb,akd _ _ _ _ _ (by simpa using hp)]
    exact ⟨this,this.symm⟩
  case sl id lo n tg=>
    simp only [Bool.and_eq_true] at hp
    have:=arn (id:=id) f s xp d v m r (row_lt hp.1) (by simpa using hp.2)
    exact ⟨fun z fz xs hr=>⟨fz,by rw [this,hr]⟩,fun z fz xs hr=>⟨fz,by rw [← this,hr]⟩⟩
  case ep id idx off=>
    simp only [Bool.and_eq_true] at hp
    have:=arn (id:=id) f s xp d v m r (row_lt hp.1) (by simpa using hp.2)
    exact ⟨fun z fz xs hr=>⟨fz,by rw [this,hr]⟩,fun z fz xs hr=>⟨fz,by rw [← this,hr]⟩⟩
theorem avt (s:St) (d:Option Nat) (v:V):(s.putO d v).r=s.r:=by cases d <;> rfl
theorem mem_bw {d:Option Nat} {f:Nat} {as:List (X × Md)} {p:V} (hb:allBw as=true) (he:doCall call s d f as []=some s') (hp:notEp p=true):MemUp p s' s:=by
  obtain ⟨r,u,rfl⟩:=amo hb he
  cases p <;> simp only [notEp] at hp <;> (try (cases hp;done)) <;> simp only [MemUp,putO_m]
theorem aio {id z:Nat} {fz:Bool} {xs:List V} {r r':List Rw} (hr:r.getD id .gone=.row z fz xs):(r++r').getD id .gone=.row z fz xs:=by
  rw [List.getD_eq_getElem?_getD] at hr ⊢
  cases hx:r[id]? with
  | none=>rw [hx] at hr;cases hr
  | some y=>
    rw [List.getElem?_append_left (List.getElem?_eq_some_iff.1 hx).1,hx]
    rw [hx] at hr;exact hr
theorem mem_up {d:Option Nat} {f:Nat} {as:List (X × Md)} {p:V} (hb:allBw as=true) (he:doCall call s d f as []=some s'):MemUp p s s':=by
  obtain ⟨r,u,rfl⟩:=amo hb he
  cases p <;> simp only [MemUp,putO_m,avt] <;> exact fun z fz xs hr=>⟨fz,aio hr⟩
theorem apk {p u u':V} {s s':St} (he:frzL u s=some (u',s')):MemUp p s s':=by
  have key:s'.m=s.m∧∀ id z fz xs,s.r.getD id .gone=.row z fz xs→∃ fz',s'.r.getD id .gone=.row z fz' xs:=by
    have triv:s'.m=s.m→s'.r=s.r→s'.m=s.m∧∀ id z fz xs,s.r.getD id .gone=.row z fz xs→∃ fz',s'.r.getD id .gone=.row z fz' xs:=fun h1 h2=>⟨h1,fun id z fz xs hr=>⟨fz,by rw [h2,hr]⟩⟩
    unfold frzL at he
    split at he <;> (try (cases he;done)) <;> try (cases he;exact triv rfl rfl)
    rename_i id lo n tg
    split at he
    · rename_i z' fz0 xs0 hr0
      cases he
      refine ⟨rfl,fun id' z fz xs hr=>?_⟩
      by_cases h:id=id'
      · subst h
        rw [hr0] at hr
        cases hr
        have hlt:id<s.r.length:=row_lt (by rw [hr0];rfl)
        exact ⟨true,by rw [List.getD_eq_getElem?_getD,List.getElem?_set_self hlt];rfl⟩
      · exact ⟨fz,by simp only [];rw [List.getD_eq_getElem?_getD,List.getElem?_set_ne h,← List.getD_eq_getElem?_getD,hr]⟩
    · cases he
  cases p <;> simp only [MemUp]
  · exact key.2 _
  · rw [key.1]
  · exact key.2 _
theorem MemUp.trans {p:V} {s s' s2:St} (h1:MemUp p s s') (h2:MemUp p s' s2):MemUp p s s2:=by
  cases p <;> simp only [MemUp] at h1 h2 ⊢
  · intro z fz xs hr;obtain ⟨fz',h⟩:=h1 z fz xs hr;exact h2 z fz' xs h
  · rw [h2,h1]
  · intro z fz xs hr;obtain ⟨fz',h⟩:=h1 z fz xs hr;exact h2 z fz' xs h
theorem MemUp.refl (p:V) (s:St):MemUp p s s:=by
  cases p <;> simp only [MemUp] <;> exact fun z fz xs hr=>⟨fz,hr⟩
theorem apn {p:V}:∀ (us:List V) {s s':St} {us':List V},frzs us s=some (us',s')→MemUp p s s'
  | [],_,_,_,he=>by cases he;exact .refl _ _
  | u :: us,s,s',us',he=>by
    simp only [frzs] at he
    split at he
    · rename_i v1 s1 e1
      split at he
      · rename_i e2
        cases he
        exact (apk e1).trans (apn us e2)
      · cases he
    · cases he
theorem atp {p u u':V} {s s':St} (he:frzV u s=some (u',s')):MemUp p s s':=by
  unfold frzV at he
  split at he
  · split at he
    · rename_i e;cases he;exact apn _ e
    · cases he
  · exact apk he
theorem amv {p:V}:∀ (us:List V) {s s':St} {us':List V},frzVs us s=some (us',s')→MemUp p s s'
  | [],_,_,_,he=>by cases he;exact .refl _ _
  | u :: us,s,s',us',he=>by
    simp only [frzVs] at he
    split at he
    · rename_i v1 s1 e1
      split at he
      · rename_i e2
        cases he
        exact (atp e1).trans (amv us e2)
      · cases he
    · cases he
theorem atq:∀ (us:List V) {s s':St} {us':List V},frzVs us s=some (us',s')→s'.m=s.m∧s'.r.length=s.r.length∧∀ id z fz xs,s'.r.getD id .gone=.row z fz xs→∃ fz',s.r.getD id .gone=.row z fz' xs:=by
  have triv:∀ {s s':St},s'.m=s.m→s'.r=s.r→s'.m=s.m∧s'.r.length=s.r.length∧∀ id z fz xs,s'.r.getD id .gone=.row z fz xs→∃ fz',s.r.getD id .gone=.row z fz' xs:=fun h1 h2=>⟨h1,by rw [h2],fun id z fz xs hr=>⟨fz,by rw [← h2,hr]⟩⟩
  have tr:∀ {s s1 s2:St},(s1.m=s.m∧s1.r.length=s.r.length∧∀ id z fz xs,s1.r.getD id .gone=.row z fz xs→∃ fz',s.r.getD id .gone=.row z fz' xs)→(s2.m=s1.m∧s2.r.length=s1.r.length∧∀ id z fz xs,s2.r.getD id .gone=.row z fz xs→∃ fz',s1.r.getD id .gone=.row z fz' xs)→s2.m=s.m∧s2.r.length=s.r.length∧∀ id z fz xs,s2.r.getD id .gone=.row z fz xs→∃ fz',s.r.getD id .gone=.row z fz' xs:=
    fun h1 h2=>⟨h2.1.trans h1.1,h2.2.1.trans h1.2.1,fun id z fz xs hr=>by obtain ⟨fz',h⟩:=h2.2.2 id z fz xs hr;exact h1.2.2 id z fz' xs h⟩
  have hL:∀ {u u':V} {s s':St},frzL u s=some (u',s')→s'.m=s.m∧s'.r.length=s.r.length∧∀ id z fz xs,s'.r.getD id .gone=.row z fz xs→∃ fz',s.r.getD id .gone=.row z fz' xs:=by
    intro u u' s s' he
    unfold frzL at he
    split at he <;> (try (cases he;done)) <;> try (cases he;exact triv rfl rfl)
    rename_i id lo n tg
    split at he
    · rename_i z' fz0 xs0 hr0
      cases he
      refine ⟨rfl,by simp,fun id' z fz xs hr=>?_⟩
      by_cases h:id=id'
      · subst h
        have hlt:id<s.r.length:=row_lt (by rw [hr0];rfl)
        simp only [] at hr
        rw [List.getD_eq_getElem?_getD,List.getElem?_set_self hlt] at hr
        cases hr
        exact ⟨fz0,hr0⟩
      · simp only [] at hr
        rw [List.getD_eq_getElem?_getD,List.getElem?_set_ne h,← List.getD_eq_getElem?_getD] at hr
        exact ⟨fz,hr⟩
    · cases he
  have hs:∀ (us:List V) {s s':St} {us':List V},frzs us s=some (us',s')→s'.m=s.m∧s'.r.length=s.r.length∧∀ id z fz xs,s'.r.getD id .gone=.row z fz xs→∃ fz',s.r.getD id .gone=.row z fz' xs:=by
    intro us
    induction us with
    | nil=>intro s s' us' he;cases he;exact triv rfl rfl
    | cons u us ih=>
      intro s s' us' he
      simp only [frzs] at he
      split at he
      · rename_i e1
        split at he
        · rename_i e2
          cases he
          exact tr (hL e1) (ih e2)
        · cases he
      · cases he
  intro us
  induction us with
  | nil=>intro s s' us' he;cases he;exact triv rfl rfl
  | cons u us ih=>
    intro s s' us' he
    simp only [frzVs] at he
    split at he
    · rename_i e1
      split at he
      · rename_i e2
        cases he
        refine tr ?_ (ih e2)
        unfold frzV at e1
        split at e1
        · split at e1
          · rename_i e3;cases e1;exact hs _ e3
          · cases e1
        · exact hL e1
      · cases he
    · cases he
theorem al3 {id z:Nat} {fz:Bool} {xs:List V} {r r':List Rw} (hlt:id<r.length) (hr:(r++r').getD id .gone=.row z fz xs):r.getD id .gone=.row z fz xs:=by
  rw [List.getD_eq_getElem?_getD,List.getElem?_append_left hlt] at hr
  rw [List.getD_eq_getElem?_getD];exact hr
theorem an4 {d z:Nat} {ps:List X} {p:V} (he:ev1 call (.bsl d z ps) s=some s'):MemUp p s s'∧(notIn s ⟨[],[]⟩ p=true→MemUp p s' s)∧(notEp p=true→MemUp p s' s):=by
  simp only [ev1,evI] at he
  split at he
  · rename_i xs s1 e1
    split at he
    · cases he
      obtain ⟨k1,k2,k3⟩:=atq _ e1
      refine ⟨(amv _ e1).trans ?_,fun hp=>?_,fun hp=>?_⟩
      · cases p <;> simp only [MemUp,St.new] <;> exact fun z fz xs hr=>⟨fz,aio hr⟩
      · cases p <;> simp only [notIn,Bool.and_eq_true] at hp <;> simp only [MemUp,St.new]
        case ptr=>rw [k1]
        all_goals
          intro z fz xs hr
          exact k3 _ z fz xs (al3 (by rw [k2];exact row_lt hp.1) hr)
      · cases p <;> simp only [notEp] at hp <;> (try (cases hp;done)) <;> simp only [MemUp,St.new]
        rw [k1]
    · cases he
  · cases he
theorem aos {t:List V} {r:List Rw} {d z:Nat} {xs:List V} {p:V} (k:∀ id,(∃ lo n tg,p=.sl id lo n tg)∨(∃ i o,p=.ep id i o)→r.getD id .gone=s.r.getD id .gone∧id<r.length):MemUp p s ((St.mk t s.m r).new d z xs)∧MemUp p ((St.mk t s.m r).new d z xs) s:=by
  cases p <;> simp only [MemUp,St.new,and_self]
  case sl id lo n tg=>
    obtain ⟨k1,k2⟩:=k id (.inl ⟨_,_,_,rfl⟩)
    exact ⟨fun z fz xs hr=>⟨fz,aio (by rw [k1];exact hr)⟩,fun z fz xs hr=>⟨fz,by rw [← k1];exact al3 k2 hr⟩⟩
  case ep id i o=>
    obtain ⟨k1,k2⟩:=k id (.inr ⟨_,_,rfl⟩)
    exact ⟨fun z fz xs hr=>⟨fz,aio (by rw [k1];exact hr)⟩,fun z fz xs hr=>⟨fz,by rw [← k1];exact al3 k2 hr⟩⟩
theorem auq {d z:Nat} {x y:X} {p:V} {xp:Xp} (he:ev1 call (.app d x y z) s=some s') (hi:lentIds s (.app d x y z)=some xp) (hp:notIn s xp p=true):MemUp p s s'∧MemUp p s' s:=by
  have hx:xp=⟨[],match s.ev x with | .sl id _ _ _=>[id] | _=>[]⟩:=by simp only [lentIds] at hi;cases hi;rfl
  have hrow:∀ id,(∃ lo n tg,p=.sl id lo n tg)∨(∃ i o,p=.ep id i o)→id<s.r.length∧id ∉ xp.rw:=by
    rintro id (⟨lo,n,tg,rfl⟩ | ⟨i,o,rfl⟩) <;> simp only [notIn,Bool.and_eq_true] at hp <;> exact ⟨row_lt hp.1,by simpa using hp.2⟩
  have same:∀ v,MemUp p s (s.put d v)∧MemUp p (s.put d v) s:=fun v=>by cases p <;> simp only [MemUp,St.put,and_self] <;> exact fun z fz xs hr=>⟨fz,hr⟩
  simp only [ev1,evI,appV] at he
  split at he
  · cases he
  · split at he
    · unfold appR at he
      split at he
      · split at he
        · cases he;exact aos (s:=s) fun id h=>⟨rfl,(hrow id h).1⟩
        · cases he
      · rename_i id0 lo n tg hv
        split at he
        · split at he
          · cases he
          · split at he
            · split at he
              · split at he
                · cases he;exact same _
                · cases he;exact aos (s:=s) fun id h=>⟨rfl,(hrow id h).1⟩
              · split at he
                · cases he
                  refine aos (s:=s) fun id h=>?_
                  obtain ⟨h1,h2⟩:=hrow id h
                  rw [hx,hv] at h2
                  simp only [List.mem_singleton] at h2
                  exact ⟨by rw [List.getD_eq_getElem?_getD,List.getElem?_set_ne (Ne.symm h2),← List.getD_eq_getElem?_getD],by simpa using h1⟩
                · cases he
            · cases he
        · cases he
      · cases he
    · cases he
theorem mem_dj {w:I} {xp:Xp} {p:V} (hw:isWr w=true) (he:ev1 call w s=some s') (hi:lentIds s w=some xp) (hp:notIn s xp p=true):MemUp p s s'∧MemUp p s' s:=by
  cases w <;> simp only [isWr] at hw <;> (try (cases hw;done))
  · simp only [lentIds] at hi
    cases hi
    obtain ⟨h1,h2,_⟩:=an4 (p:=p) he
    exact ⟨h1,h2 hp⟩
  · exact auq he hi hp
  · exact at5 he hi hp
theorem at8 {w:I} {p:V} (hq:quiet w=true) (he:ev1 call w s=some s'):MemUp p s s':=by
  cases w <;> simp only [quiet] at hq <;> (try (cases hq;done))
  · exact (an4 he).1
  · exact mem_up hq he
theorem aqr {w:I} {p:V} (hq:quiet w=true) (he:ev1 call w s=some s') (hp:notEp p=true):MemUp p s' s:=by
  cases w <;> simp only [quiet] at hq <;> (try (cases hq;done))
  · exact (an4 he).2.2 hp
  · exact mem_bw hq he hp
theorem appR_m {d z:Nat} {x:V} {ys:List V} (he:appR s d x ys z=some s'):s'.m=s.m:=by
  unfold appR at he
  split at he
  · split at he <;> cases he;rfl
  · split at he
    · split at he
      · cases he
      · split at he
        · split at he
          · split at he <;> cases he <;> rfl
          · split at he <;> cases he;rfl
        · cases he
    · cases he
  · cases he
theorem app_np {w:I} {p:V} (hw:isApp w=true) (he:ev1 call w s=some s') (hp:notEp p=true):MemUp p s s'∧MemUp p s' s:=by
  cases w <;> simp only [isApp] at hw <;> (try (cases hw;done))
  have hm:s'.m=s.m:=by
    simp only [ev1,evI,appV] at he
    split at he
    · cases he
    · split at he
      · exact appR_m he
      · cases he
  cases p <;> simp only [notEp] at hp <;> (try (cases hp;done)) <;> first | exact ⟨trivial,trivial⟩ | exact ⟨by simp only [MemUp,hm],by simp only [MemUp,hm]⟩
theorem aqq {u v:V} {xp:Xp} (h:sameP u v=true) (hv:notIn s xp v=true):notIn s xp u=true:=by
  cases u <;> cases v <;> simp only [sameP,beq_iff_eq] at h <;> (try (cases h;done)) <;> first | rfl | (subst h;exact hv)
theorem ap0 {d:Option Nat} {l l':List Nat} (h:offO d l=true) (hs:∀ n,n ∈ l'→n ∈ l):offO d l'=true:=by
  cases d with
  | none=>rfl
  | some d=>simp only [offO,Bool.not_eq_true',List.contains_eq_mem,decide_eq_false_iff_not] at h ⊢;exact fun h'=>h (hs _ h')
def Sw (call:Nat→St→Option Out) (x i:I):Prop:=∀ {s s1 s2:St},ev1 call x s=some s1→ev1 call i s1=some s2→∃ si,ev1 call i s=some si∧ev1 call x si=some s2
theorem bs_inv {x i:I} (h:bs x i=true):okG x=true∧okG i=true∧offO (wrI x) (rdI i)=true∧offO (wrI i) (rdI x)=true∧(wrI x=none∨wrI i≠wrI x)∧(wrI i=none∨wrI x≠wrI i):=by
  simp only [bs,Bool.and_eq_true] at h
  obtain ⟨⟨⟨⟨gx,gi⟩,o1⟩,o2⟩,hw⟩:=h
  have w1:wrI x=none∨wrI i≠wrI x:=by
    cases hx:wrI x with
    | none=>exact .inl rfl
    | some d=>rw [hx] at hw;right;intro e;simp [e] at hw
  refine ⟨gx,gi,o1,o2,w1,?_⟩
  cases hi:wrI i with
  | none=>exact .inl rfl
  | some d=>rw [hi] at w1;right;intro e;rcases w1 with h | h;simp [h] at e;exact h e.symm
theorem hit_ok {y z:X} {al:Al} {xp:Xp} (h:hitX y al z=true) (hl:lookS s y al=true) (hz:notIn s xp (s.ev z)=true):notIn s xp (s.ev y)=true:=by
  simp only [hitX,Bool.or_eq_true] at h
  rcases h with h | h
  · rw [isT_eq h];exact hz
  · cases al with
    | sb z'=>
      simp only at h
      have e:=isT_eq h;subst e
      exact aqq hl hz
    | no=>cases h
    | np=>cases h
    | df _=>cases h
theorem auh {x i:I} (hb:bs x i=true) (hl:ldc x i=true):Sw call x i:=by
  obtain ⟨gx,gi,o1,o2,w1,w2⟩:=bs_inv hb
  intro s s1 s2 h1 h2
  have yr:∀ {d:Nat} {y:X} {x0:I},rdr x0=some (d,y)→∀ n,n ∈ y.rd→n ∈ rdI x0:=by
    intro d y x0 hr n hn
    cases x0 <;> simp only [rdr] at hr <;> (try (cases hr;done)) <;> cases hr <;> simp only [rdI,List.mem_append] <;> first | exact hn | exact .inl hn
  have look:∀ {s s2:St} {y:X} {al:Al},s2.ev y=s.ev y→(∀ z,al=.sb z∨al=.df z→s2.ev z=s.ev z)→lookS s2 y al=lookS s y al:=by
    intro s s2 y al hy hz
    cases al with
    | no=>rfl
    | np=>simp only [lookS,hy]
    | sb z=>simp only [lookS,hy,hz z (.inl rfl)]
    | df z=>simp only [lookS,hy,hz z (.inr rfl)]
  unfold ldc at hl
  split at hl
  · rename_i d y al x0 w ys hx hi
    obtain ⟨hr,x1,x2,x3,hev⟩:=ajf (call:=call) hx
    rw [hev] at h1
    split at h1
    · rename_i hlk
      obtain ⟨v,hv,rfl⟩:=Option.map_eq_some_iff.1 h1
      have h3:=frameO (call:=call) (s:=s) (v:=v) (d:=some d) gi (by rw [← x1];exact o1) (.inr (by rw [← x1];rcases w1 with h | h;rw [x1] at h;cases h;exact h))
      simp only [St.putO] at h3
      rw [h3] at h2
      obtain ⟨si,hsi,rfl⟩:=Option.map_eq_some_iff.1 h2
      refine ⟨si,hsi,?_⟩
      have of:∀ n,n ∈ rdI x→si.t.getD n .no=s.t.getD n .no:=fun n hn=>off gi hsi n fun e=>acs o2 e hn
      have sm:Same (rdI x0) s si:=fun n hn=>of n (x2 n hn)
      have ey:si.ev y=s.ev y:=Same.ev fun n hn=>sm n (yr hr n hn)
      have ez:∀ z,al=.sb z∨al=.df z→si.ev z=s.ev z:=fun z hz=>Same.ev fun n hn=>of n (x3 z hz n hn)
      have hmem:MemUp (s.ev y) s si:=by
        obtain ⟨hc,hw,hd⟩:=arp hi hsi
        simp only [Bool.or_eq_true,Bool.and_eq_true] at hl
        rcases hl with (hl | ⟨hl,hnp⟩) | hl
        · exact at8 hl hc
        · cases al <;> simp only [isNp] at hnp <;> (try (cases hnp;done))
          exact (app_np hl hc hlk).1
        · obtain ⟨z,hz,e⟩:=List.any_eq_true.1 hl
          rcases hd with rfl | ⟨xp,hxp,hd⟩
          · cases hz
          · exact (mem_dj hw hc hxp (hit_ok e hlk (hd _ hz))).1
      rw [hev,look ey ez,if_pos hlk,rdV_up hr sm hmem hv];rfl
    · cases h1
  · split at hl
    · rename_i w ys d y al x0 hx hi
      obtain ⟨hr,x1,x2,x3,hev⟩:=ajf (call:=call) hi
      rw [hev] at h2
      split at h2
      · rename_i hlk
        obtain ⟨v,hv,rfl⟩:=Option.map_eq_some_iff.1 h2
        obtain ⟨hc,hw,hd⟩:=arp hx h1
        have of:∀ n,n ∈ rdI i→s.t.getD n .no=s1.t.getD n .no:=fun n hn=>(off gx h1 n fun e=>acs o1 e hn).symm
        have sm:Same (rdI x0) s1 s:=fun n hn=>of n (x2 n hn)
        have ey:s.ev y=s1.ev y:=Same.ev fun n hn=>sm n (yr hr n hn)
        have ez:∀ z,al=.sb z∨al=.df z→s.ev z=s1.ev z:=fun z hz=>Same.ev fun n hn=>of n (x3 z hz n hn)
        have hlk':lookS s y al=true:=by rw [look ey ez];exact hlk
        have hmem:MemUp (s1.ev y) s1 s:=by
          rw [← ey]
          simp only [Bool.or_eq_true,Bool.and_eq_true] at hl
          rcases hl with ⟨hl,hnp⟩ | hl
          · cases al <;> simp only [isNp] at hnp <;> (try (cases hnp;done))
            rcases hl with hl | hl
            · exact aqr hl hc hlk'
            · exact (app_np hl hc hlk').2
          · obtain ⟨z,hz,e⟩:=List.any_eq_true.1 hl
            rcases hd with rfl | ⟨xp,hxp,hd⟩
            · cases hz
            · exact (mem_dj hw hc hxp (hit_ok e hlk' (hd _ hz))).2
        refine ⟨s.put d v,by rw [hev,if_pos hlk',rdV_up hr sm hmem hv];rfl,?_⟩
        have h3:=frameO (call:=call) (s:=s) (v:=v) (d:=some d) gx (by rw [← x1];exact o2) (.inr (by rw [← x1];rcases w2 with h | h;rw [x1] at h;cases h;exact h))
        simp only [St.putO] at h3
        rw [h3,h1];rfl
      · cases h2
    · cases hl
theorem bs_gl {sl:Nat} {w:Bool} {d:Option Nat} {x i:I} (h:bs (.g sl w d x) i=true):bs x i=true:=by
  simp only [bs,okG,wrI,rdI,Bool.and_eq_true,beq_iff_eq] at h ⊢
  obtain ⟨⟨⟨⟨⟨e,h1⟩,h2⟩,h3⟩,h4⟩,h5⟩:=h
  rw [e]
  exact ⟨⟨⟨⟨h1,h2⟩,h3⟩,ap0 h4 fun n hn=>List.mem_cons_of_mem _ hn⟩,h5⟩
theorem bs_gr {sl:Nat} {w:Bool} {d:Option Nat} {x i:I} (h:bs x (.g sl w d i)=true):bs x i=true:=by
  simp only [bs,okG,wrI,rdI,Bool.and_eq_true,beq_iff_eq] at h ⊢
  obtain ⟨⟨⟨⟨h1,e,h2⟩,h3⟩,h4⟩,h5⟩:=h
  rw [e]
  exact ⟨⟨⟨⟨h1,h2⟩,ap0 h3 fun n hn=>List.mem_cons_of_mem _ hn⟩,h4⟩,h5⟩
theorem ap1 {i:I} {n:Nat} {l:List Nat} (hg:okG i=true) (he:ev1 call i s=some s') (ho:offO (wrI i) (n :: l)=true):s'.t.getD n .no=s.t.getD n .no:=
  off hg he n fun e=>acs ho e (by simp)
theorem av0 {sl:Nat} {w:Bool} {d:Option Nat} {x i:I} (hb:bs (.g sl w d x) i=true) (h:Sw call x i):Sw call (.g sl w d x) i:=by
  obtain ⟨gx,gi,o1,o2,w1,w2⟩:=bs_inv hb
  intro s s1 s2 h1 h2
  have hsl:∀ {si},ev1 call i s=some si→si.t.getD sl .no=s.t.getD sl .no:=fun he=>ap1 gi he o2
  simp only [ev1] at h1 ⊢
  split at h1
  · rename_i hg
    obtain ⟨si,h3,h4⟩:=h h1 h2
    exact ⟨si,h3,by rw [hsl h3,hg];exact h4⟩
  · rename_i hg
    cases h1
    rw [show s.putO d (.tup [])=s.putO (wrI (.g sl w d x)) (.tup []) from rfl,frameO gi o1 w1] at h2
    obtain ⟨si,h3,rfl⟩:=Option.map_eq_some_iff.1 h2
    exact ⟨si,h3,by rw [hsl h3,hg];rfl⟩
  · cases h1
theorem av1 {sl:Nat} {w:Bool} {d:Option Nat} {x i:I} (hb:bs x (.g sl w d i)=true) (h:Sw call x i):Sw call x (.g sl w d i):=by
  obtain ⟨gx,gi,o1,o2,w1,w2⟩:=bs_inv hb
  intro s s1 s2 h1 h2
  have hsl:s1.t.getD sl .no=s.t.getD sl .no:=ap1 gx h1 o1
  simp only [ev1] at h2 ⊢
  rw [hsl] at h2
  split at h2
  · obtain ⟨si,h3,h4⟩:=h h1 h2
    exact ⟨si,h3,h4⟩
  · cases h2
    refine ⟨_,rfl,?_⟩
    have h3:=frameO (call:=call) (s:=s) (v:=.tup []) gx o2 w2
    simp only [wrI] at h3
    rw [h3,h1];rfl
  · cases h2
theorem ass {x:I}:∀ {i:I},bs x i=true→ldc2 x i=true→Sw call x i:=by
  intro i
  induction i with
  | g sl w d i ih=>exact fun hb hl=>av1 hb (ih (bs_gr hb) hl)
  | _=>exact fun hb hl=>auh hb hl
theorem ast {i:I}:∀ {x:I},bs x i=true→ldcG i x=true→Sw call x i:=by
  intro x
  induction x with
  | g sl w d x ih=>exact fun hb hl=>av0 hb (ih (bs_gl hb) hl)
  | _=>exact fun hb hl=>ass hb hl
theorem rdr_rd {d:Nat} {y:X} {x0:I} (hr:rdr x0=some (d,y)):∀ n,n ∈ y.rd→n ∈ rdI x0:=by
  intro n hn
  cases x0 <;> simp only [rdr] at hr <;> (try (cases hr;done)) <;> cases hr <;> simp only [rdI,List.mem_append] <;> first | exact hn | exact .inl hn
theorem ajk {s s2:St} {y:X} {al:Al} (hy:s2.ev y=s.ev y) (hz:∀ z,al=.sb z∨al=.df z→s2.ev z=s.ev z):lookS s2 y al=lookS s y al:=by
  cases al with
  | no=>rfl
  | np=>simp only [lookS,hy]
  | sb z=>simp only [lookS,hy,hz z (.inl rfl)]
  | df z=>simp only [lookS,hy,hz z (.inr rfl)]
theorem up_alc {x0:I} {d:Nat} {y:X} {v:V} {s s2:St} (hr:rdr x0=some (d,y)) (hp:ldPos x0=true) (hv:rdV x0 s=some v) {zs:List V} (hm:s2.m=s.m++[zs]) (hrr:s2.r=s.r):MemUp (s.ev y) s s2:=by
  cases hy:s.ev y <;> simp only [MemUp]
  case ptr id off=>
    have hlt:id<s.m.length:=by
      refine Nat.lt_of_not_le fun hge=>?_
      have hg:s.m.getD id []=[]:=by rw [List.getD_eq_getElem?_getD,List.getElem?_eq_none hge];rfl
      cases x0 <;> simp only [rdr] at hr <;> (try (cases hr;done)) <;> cases hr <;> simp only [rdV,hy] at hv
      case ld z ag=>
        simp only [ldPos,decide_eq_true_eq] at hp
        simp only [loadV,hg,range,List.length_nil] at hv
        rw [if_neg (by omega)] at hv
        cases hv
      case ixa i z=>
        unfold idxV at hv
        split at hv
        · split at hv <;> (rename_i h;first | cases h | cases hv)
        · cases hv
      case slc z=>cases z <;> cases hv
      case cvs=>cases hv
    rw [hm,List.getD_eq_getElem?_getD,List.getElem?_append_left hlt,← List.getD_eq_getElem?_getD]
  all_goals (rw [hrr];intro z fz xs h;exact ⟨fz,h⟩)
theorem arc {s s2:St} {k:Nat} {v:V} {xp:Xp} (hv:noPtrL v=true) (hr:s2.r=s.r):expL s2 k v xp=expL s k v xp∧∀ v' xp',expL s k v xp=some (v',xp')→xp'.bl=xp.bl:=by
  cases v <;> simp only [noPtrL] at hv <;> (try (cases hv;done)) <;> simp only [expL,hr,true_and]
  case sl id lo n tg=>
    intro v' xp' h
    split at h
    · split at h <;> cases h <;> rfl
    · cases h
  case mr id=>
    intro v' xp' h
    split at h
    · split at h <;> cases h <;> rfl
    · cases h
  all_goals (intro v' xp' h;cases h;try rfl)
theorem apg {s s2:St} {k:Nat} (hr:s2.r=s.r):∀ (vs:List V) (xp:Xp),vs.all noPtrL=true→expLs s2 k vs xp=expLs s k vs xp∧∀ v' xp',expLs s k vs xp=some (v',xp')→xp'.bl=xp.bl
  | [],xp,_=>⟨rfl,fun v' xp' h=>by cases h;rfl⟩
  | v :: vs,xp,h=>by
    simp only [List.all_cons,Bool.and_eq_true] at h
    obtain ⟨e1,b1⟩:=arc (k:=k) (xp:=xp) h.1 hr
    simp only [expLs,e1]
    cases hx:expL s k v xp with
    | none=>exact ⟨rfl,fun v' xp' h=>(by cases h)⟩
    | some p=>
      obtain ⟨v1,xp1⟩:=p
      obtain ⟨e2,b2⟩:=apg (s:=s) (s2:=s2) (k:=k) hr vs xp1 h.2
      dsimp only
      rw [e2]
      refine ⟨rfl,?_⟩
      cases hy:expLs s k vs xp1 with
      | none=>intro v' xp' h;cases h
      | some q=>
        obtain ⟨v2,xp2⟩:=q
        intro v' xp' h
        cases h
        rw [b2 _ _ hy,b1 _ _ hx]
theorem au0 {s s2:St} {k:Nat} {v:V} {xp:Xp} (hv:noPtr v=true) (hr:s2.r=s.r):expV s2 k v xp=expV s k v xp∧∀ v' xp',expV s k v xp=some (v',xp')→xp'.bl=xp.bl:=by
  cases v
  case agg cs=>
    obtain ⟨e,b⟩:=apg (s:=s) (s2:=s2) (k:=0) hr cs xp hv
    simp only [expV,e,true_and]
    intro v' xp' h
    split at h
    · rename_i hx;cases h;exact b _ _ hx
    · cases h
  case fn f caps=>simp [noPtr,noPtrL] at hv
  all_goals (simp only [noPtr] at hv;simp only [expV];exact arc hv hr)
theorem ak8 {s s2:St} (hr:s2.r=s.r):∀ (as:List (X × Md)) (xp:Xp),(∀ a,a ∈ as→s2.ev a.1=s.ev a.1)→(as.all fun a=>noPtr (s.ev a.1))=true→expAs s2 as xp=expAs s as xp∧∀ v' xp',expAs s as xp=some (v',xp')→xp'.bl=xp.bl
  | [],xp,_,_=>⟨rfl,fun v' xp' h=>by cases h;rfl⟩
  | (x,.b k) :: as,xp,he,h=>by
    simp only [List.all_cons,Bool.and_eq_true] at h
    obtain ⟨e2,b2⟩:=ak8 hr as xp (fun a ha=>he a (by simp [ha])) h.2
    simp only [expAs,e2,true_and]
    intro v' xp' h
    split at h
    · rename_i hx;cases h;exact b2 _ _ hx
    · cases h
  | (x,.m k) :: as,xp,he,h=>by
    simp only [List.all_cons,Bool.and_eq_true] at h
    obtain ⟨e1,b1⟩:=au0 (s:=s) (s2:=s2) (k:=k) (xp:=xp) h.1 hr
    have ex:s2.ev x=s.ev x:=he (x,.m k) (by simp)
    simp only [expAs,ex,e1]
    cases hx:expV s k (s.ev x) xp with
    | none=>exact ⟨rfl,fun v' xp' h=>(by cases h)⟩
    | some p=>
      obtain ⟨v1,xp1⟩:=p
      obtain ⟨e2,b2⟩:=ak8 hr as xp1 (fun a ha=>he a (by simp [ha])) h.2
      dsimp only
      rw [e2]
      refine ⟨rfl,?_⟩
      cases hy:expAs s as xp1 with
      | none=>intro v' xp' h;cases h
      | some q=>
        obtain ⟨v2,xp2⟩:=q
        intro v' xp' h
        cases h
        rw [b2 _ _ hy,b1 _ _ hx]
theorem at2 {s s2:St} {xp:Xp} (hr:s2.r=s.r) (n:Nat) {v:V} (hv:noPtrL v=true):lend s2 xp n v=lend s xp n v:=by
  cases n with
  | zero=>rfl
  | succ n=>cases v <;> simp only [noPtrL] at hv <;> (try (cases hv;done)) <;> simp only [lend,hr]
theorem at0 {s s2:St} {xp:Xp} (hr:s2.r=s.r) (k:Nat) {v:V} (hv:noPtr v=true):lendA s2 xp k v=lendA s xp k v:=by
  cases v
  case agg cs=>
    simp only [lendA,lend]
    congr 1
    refine List.map_congr_left fun c hc=>?_
    exact at2 hr 3 (List.all_eq_true.1 hv c hc)
  case ptr=>simp [noPtr,noPtrL] at hv
  case fn=>simp [noPtr,noPtrL] at hv
  case tup=>simp [noPtr,noPtrL] at hv
  all_goals simp only [lendA,lend,hr]
theorem alq {s s2:St} {xp:Xp} (hr:s2.r=s.r):∀ (as:List (X × Md)) (vs:List V),(∀ a,a ∈ as→s2.ev a.1=s.ev a.1)→(as.all fun a=>noPtr (s.ev a.1))=true→lends s2 xp as vs=lends s xp as vs
  | [],vs,_,_=>by cases vs <;> rfl
  | (x,.b k) :: as,[],_,_=>rfl
  | (x,.m k) :: as,[],_,_=>rfl
  | (x,.b k) :: as,v :: vs,he,h=>by
    simp only [List.all_cons,Bool.and_eq_true] at h
    have ex:s2.ev x=s.ev x:=he (x,.b k) (by simp)
    simp only [lends,ex,at0 hr k h.1,alq hr as vs (fun a ha=>he a (by simp [ha])) h.2]
  | (x,.m k) :: as,v :: vs,he,h=>by
    simp only [List.all_cons,Bool.and_eq_true] at h
    simp only [lends,alq hr as vs (fun a ha=>he a (by simp [ha])) h.2]
theorem au3 {s s2:St} (hr:s2.r=s.r) {as:List (X × Md)} (he:∀ a,a ∈ as→s2.ev a.1=s.ev a.1) (hq:(as.all fun a=>noPtr (s.ev a.1))=true):expo s2 as []=expo s as []∧∀ s0 xp,expo s as []=some (s0,xp)→xp.bl=[]:=by
  obtain ⟨e,b⟩:=ak8 hr as ⟨[],[]⟩ he hq
  unfold expo
  rw [e]
  cases hx:expAs s as ⟨[],[]⟩ with
  | none=>exact ⟨rfl,fun s0 xp h=>by cases h⟩
  | some p=>
    obtain ⟨vs,xp⟩:=p
    have hb:xp.bl=[]:=b _ _ hx
    have hB:∀ (u:St) (n:Nat),expBl u (n+1) 0 xp=some ([],xp):=fun u n=>by simp only [expBl,hb,List.getElem?_nil]
    simp only [expLs,hB,hr,alq hr as vs he hq,true_and]
    intro s0 xp' h
    cases h
    exact hb
theorem atr {f:Nat} {s:St} {xp:Xp} {d:Option Nat} {v:V} {m:List (List V)} {r:List Rw} (hb:xp.bl=[]):∃ (R:List Rw) (u:V),∀ t m',impoF f ⟨t,m',s.r⟩ xp d v m r=(St.mk t m' R).putO d u:=by
  refine ⟨(impoF f s xp none v m r).r,v.mapL (impL [] s.r.length),fun t m'=>?_⟩
  unfold impoF impo
  simp only [hb,impM]
  split <;> cases d <;> rfl
theorem aug {x i:I} (hb:bs x i=true) (ha:alcC x i=true):Sw call x i:=by
  obtain ⟨gx,gi,o1,o2,w1,w2⟩:=bs_inv hb
  cases i <;> simp only [alcC] at ha <;> (try (cases ha;done))
  rename_i d zs
  intro s s1 s2 h1 h2
  cases h2
  refine ⟨⟨s.t.set d (.ptr s.m.length 0),s.m++[zs],s.r⟩,rfl,?_⟩
  have hd:∀ n,n ∈ rdI x→n≠d:=fun n hn e=>acs o2 (n:=d) rfl (e ▸ hn)
  have sm:∀ n,n ∈ rdI x→(St.mk (s.t.set d (.ptr s.m.length 0)) (s.m++[zs]) s.r).t.getD n .no=s.t.getD n .no:=fun n hn=>by
    have:=hd n hn
    simp only [List.getD_eq_getElem?_getD]
    rw [List.getElem?_set_ne (Ne.symm this)]
  simp only [Bool.or_eq_true] at ha
  rcases ha with ha | ha
  · cases hx:isLd x with
    | none=>rw [hx] at ha;cases ha
    | some p=>
      obtain ⟨dx,y,al,x0⟩:=p
      rw [hx] at ha
      simp only at ha
      obtain ⟨hr,x1,x2,x3,hev⟩:=ajf (call:=call) hx
      rw [hev] at h1 ⊢
      split at h1
      · rename_i hlk
        obtain ⟨v,hv,rfl⟩:=Option.map_eq_some_iff.1 h1
        have s0:Same (rdI x0) s ⟨s.t.set d (.ptr s.m.length 0),s.m++[zs],s.r⟩:=fun n hn=>sm n (x2 n hn)
        have ey:(St.mk (s.t.set d (.ptr s.m.length 0)) (s.m++[zs]) s.r).ev y=s.ev y:=Same.ev fun n hn=>s0 n (rdr_rd hr n hn)
        have ez:∀ z,al=.sb z∨al=.df z→(St.mk (s.t.set d (.ptr s.m.length 0)) (s.m++[zs]) s.r).ev z=s.ev z:=fun z hz=>Same.ev fun n hn=>sm n (x3 z hz n hn)
        rw [ajk ey ez,if_pos hlk,rdV_up hr s0 (up_alc hr ha hv rfl rfl) hv]
        simp only [Option.map_some,Option.some.injEq]
        have hne:dx≠d:=by
          intro e;subst e
          rw [x1] at w1
          rcases w1 with h | h
          · cases h
          · exact h rfl
        show (⟨(s.t.set d _).set dx v,s.m++[zs],s.r⟩:St)=⟨(s.t.set dx v).set d _,s.m++[zs],s.r⟩
        rw [List.set_comm _ _ (Ne.symm hne)];rfl
      · cases h1
  · unfold isDq at ha
    split at ha
    · rename_i ys dd f as
      simp only [ev1] at h1 ⊢
      split at h1
      · rename_i hc
        simp only [ckS,Bool.and_eq_true] at hc
        obtain ⟨hq,hj⟩:=hc
        have hq:(as.all fun a=>noPtr (s.ev a.1))=true:=hq
        have hrd:∀ a,a ∈ as→∀ n,n ∈ a.1.rd→n ∈ rdI (.ck (.dq ys) (.call dd f as)):=fun a h n hn=>by
          simp only [rdI,List.mem_append];exact .inr (List.mem_flatMap.2 ⟨a,h,hn⟩)
        have he:∀ a,a ∈ as→(St.mk (s.t.set d (.ptr s.m.length 0)) (s.m++[zs]) s.r).ev a.1=s.ev a.1:=fun a h=>Same.ev fun n hn=>sm n (hrd a h n hn)
        obtain ⟨e1,e2⟩:=au3 (s:=s) (s2:=⟨s.t.set d (.ptr s.m.length 0),s.m++[zs],s.r⟩) rfl he hq
        have hck:ckS ⟨s.t.set d (.ptr s.m.length 0),s.m++[zs],s.r⟩ (.dq ys) (.call dd f as)=true:=by
          simp only [ckS,Bool.and_eq_true]
          refine ⟨?_,?_⟩
          · show (as.all fun a=>noPtr ((St.mk (s.t.set d (.ptr s.m.length 0)) (s.m++[zs]) s.r).ev a.1))=true
            rw [List.all_eq_true] at hq ⊢
            intro a h
            rw [he a h];exact hq a h
          · unfold djB lentIds at hj ⊢
            dsimp only at hj ⊢
            rw [e1]
            cases hx:expo s as [] with
            | none=>rw [hx] at hj;exact hj
            | some p=>
              rw [hx] at hj
              simp only [Option.map_some] at hj ⊢
              rw [List.all_eq_true] at hj ⊢
              intro y hy
              have hyr:∀ n,n ∈ y.rd→n ∈ rdI (.ck (.dq ys) (.call dd f as)):=fun n hn=>by
                simp only [rdI,Ck.rd,List.mem_append];exact .inl (List.mem_flatMap.2 ⟨y,hy,hn⟩)
              have ey:(St.mk (s.t.set d (.ptr s.m.length 0)) (s.m++[zs]) s.r).ev y=s.ev y:=Same.ev fun n hn=>sm n (hyr n hn)
              have:=hj y hy
              rw [ey]
              cases hu:s.ev y <;> rw [hu] at this <;> exact this
        rw [if_pos hck]
        unfold doCall at h1 ⊢
        rw [e1]
        cases hx:expo s as [] with
        | none=>rw [hx] at h1;cases h1
        | some p=>
          obtain ⟨s0,xp⟩:=p
          rw [hx] at h1
          simp only at h1 ⊢
          cases hcl:call f s0 with
          | none=>rw [hcl] at h1;cases h1
          | some q=>
            obtain ⟨v,m,r⟩:=q
            rw [hcl] at h1
            simp only [Option.some.injEq] at h1 ⊢
            obtain ⟨R,u,hF⟩:=atr (f:=f) (s:=s) (xp:=xp) (d:=dd) (v:=v) (m:=m) (r:=r) (e2 _ _ hx)
            have h3:impoF f s xp dd v m r=(St.mk s.t s.m R).putO dd u:=hF s.t s.m
            rw [h3] at h1
            subst h1
            rw [hF]
            cases dd with
            | none=>rfl
            | some dd=>
              have hne:dd≠d:=by
                intro e;subst e
                rcases w1 with h | h
                · cases h
                · exact h rfl
              show (⟨(s.t.set d _).set dd u,s.m++[zs],R⟩:St)=⟨(s.t.set dd u).set d _,s.m++[zs],R⟩
              rw [List.set_comm _ _ (Ne.symm hne)];rfl
      · cases h1
    · cases ha
theorem ai2 {y v:V} {z:Nat} {p:V} {s s2:St} (hd:diffP y p=true) (hs:storeV s p v z=some s2):(MemUp y s s2∧MemUp y s2 s)∧s2.t=s.t:=by
  cases y <;> simp only [diffP] at hd <;> (try (cases hd;done))
  case ptr id off=>
    cases p <;> simp only at hd <;> (try (cases hd;done))
    rename_i id' off'
    simp only [storeV] at hs
    split at hs
    · cases hs
    · split at hs
      · cases hs
        have hne:id'≠id:=by intro e;subst e;simp at hd
        have e:(s.m.set id' (setAt (s.m.getD id' []) off' v.cells)).getD id []=s.m.getD id []:=by
          simp only [List.getD_eq_getElem?_getD]
          rw [List.getElem?_set_ne hne]
        exact ⟨⟨e,e.symm⟩,rfl⟩
      · cases hs
  case vp cs=>
    refine ⟨⟨True.intro,True.intro⟩,?_⟩
    unfold storeV at hs
    split at hs
    · cases hs
    · split at hs
      · split at hs
        · cases hs;rfl
        · cases hs
      · split at hs
        · rename_i hf
          split at hs
          · obtain ⟨e,_,he⟩:=Option.bind_eq_some_iff.1 hs
            cases he
            have h9:=frzs_t _ hf
            exact h9
          · cases hs
        · cases hs
      · cases hs
theorem aq9 {w z y:V} {k:Nat} {v:V} {s s2:St} (hd:diffP w z=true) (hs:sameP y z=true) (he:storeV s y v k=some s2):diffP w y=true:=by
  cases w <;> simp only [diffP] at hd <;> (try (cases hd;done))
  case ptr id off=>
    cases z <;> simp only at hd <;> (try (cases hd;done))
    rename_i id2 off2
    cases y <;> simp only [sameP] at hs <;> (try (cases hs;done)) <;> (try (simp [storeV] at he;done))
    rename_i id3 off3
    simp only [diffP]
    have:id3=id2:=by simpa using hs
    rw [this];exact hd
  case vp cs=>rfl
theorem st_mem {i:I} {y2 z2 z:X} {w:V} {s s2:St} (h:stOf i=some (y2,z2)) (hz:(isT z y2 || isT z z2)=true) (hd:diffP w (s.ev z)=true) (he:ev1 call i s=some s2):MemUp w s s2∧MemUp w s2 s:=by
  cases i <;> (try (simp only [stOf] at h;cases h;done))
  case st a v k=>
    simp only [stOf,Option.some.injEq,Prod.mk.injEq] at h
    obtain ⟨h1,h2⟩:=h
    have ez:z=a:=by
      rcases (Bool.or_eq_true _ _).mp hz with q | q
      · rw [← h1] at q;exact isT_eq q
      · rw [← h2] at q;exact isT_eq q
    rw [ez] at hd
    exact (ai2 hd he).1
  case ck c j=>
    cases c <;> (try (simp only [stOf] at h;cases h;done))
    case sb a b=>
      cases j <;> (try (simp only [stOf] at h;cases h;done))
      case st y v k=>
        simp only [stOf] at h
        split at h
        · rename_i hit
          simp only [Option.some.injEq,Prod.mk.injEq] at h
          obtain ⟨h1,h2⟩:=h
          simp only [ev1] at he
          split at he
          · rename_i hc
            have ey:=isT_eq hit
            rw [ey] at hc
            simp only [ckS] at hc
            rcases (Bool.or_eq_true _ _).mp hz with q | q
            · rw [← h1] at q
              rw [isT_eq q] at hd
              exact (ai2 hd he).1
            · rw [← h2] at q
              rw [isT_eq q] at hd
              exact (ai2 (aq9 hd hc he) he).1
          · cases he
        · cases h
theorem av2 {x i:I} (hb:bs x i=true) (ha:stC x i=true):Sw call x i:=by
  obtain ⟨gx,gi,o1,o2,w1,w2⟩:=bs_inv hb
  intro s s1 s2 h1 h2
  unfold stC at ha
  split at ha
  · rename_i dx y z x0 p z2 hx hi
    simp only [Bool.and_eq_true] at ha
    obtain ⟨hr,x1,x2,x3,hev⟩:=ajf (call:=call) hx
    rw [hev] at h1
    split at h1
    · rename_i hlk
      obtain ⟨u,hv,rfl⟩:=Option.map_eq_some_iff.1 h1
      have h3:=frameO (call:=call) (s:=s) (v:=u) (d:=some dx) gi (by rw [← x1];exact o1) (.inr (by rw [← x1];rcases w1 with h | h;rw [x1] at h;cases h;exact h))
      simp only [St.putO] at h3
      rw [h3] at h2
      obtain ⟨si,hsi,rfl⟩:=Option.map_eq_some_iff.1 h2
      refine ⟨si,hsi,?_⟩
      have of:∀ n,n ∈ rdI x→si.t.getD n .no=s.t.getD n .no:=fun n hn=>off gi hsi n fun e=>acs o2 e hn
      have sm:Same (rdI x0) s si:=fun n hn=>of n (x2 n hn)
      have ey:si.ev y=s.ev y:=Same.ev fun n hn=>sm n (rdr_rd hr n hn)
      have ez:∀ z',Al.df z=.sb z'∨Al.df z=.df z'→si.ev z'=s.ev z':=fun z' hz=>Same.ev fun n hn=>of n (x3 z' hz n hn)
      have hmem:MemUp (s.ev y) s si:=(st_mem hi ha.1 hlk hsi).1
      rw [hev,ajk ey ez,if_pos hlk,rdV_up hr sm hmem hv];rfl
    · cases h1
  · split at ha
    · rename_i y z2 d y' z i0 hx hi
      simp only [Bool.and_eq_true] at ha
      obtain ⟨hr,x1,x2,x3,hev⟩:=ajf (call:=call) hi
      rw [hev] at h2
      split at h2
      · rename_i hlk
        obtain ⟨u,hv,rfl⟩:=Option.map_eq_some_iff.1 h2
        have of:∀ n,n ∈ rdI i→s.t.getD n .no=s1.t.getD n .no:=fun n hn=>(off gx h1 n fun e=>acs o1 e hn).symm
        have sm:Same (rdI i0) s1 s:=fun n hn=>of n (x2 n hn)
        have ey:s.ev y'=s1.ev y':=Same.ev fun n hn=>sm n (rdr_rd hr n hn)
        have ez:∀ z',Al.df z=.sb z'∨Al.df z=.df z'→s.ev z'=s1.ev z':=fun z' hz=>Same.ev fun n hn=>of n (x3 z' hz n hn)
        have hlk':lookS s y' (.df z)=true:=by rw [ajk ey ez];exact hlk
        have hmem:MemUp (s1.ev y') s1 s:=by
          rw [← ey]
          exact (st_mem hx ha.1 hlk' h1).2
        refine ⟨s.put d u,by rw [hev,if_pos hlk',rdV_up hr sm hmem hv];rfl,?_⟩
        have h3:=frameO (call:=call) (s:=s) (v:=u) (d:=some d) gx (by rw [← x1];exact o2) (.inr (by rw [← x1];rcases w2 with h | h;rw [x1] at h;cases h;exact h))
        simp only [St.putO] at h3
        rw [h3,h1];rfl
      · cases h2
    · cases ha
theorem swap {x i:I} {s s1 s2:St} (hn:nc x i=true) (h1:ev1 call x s=some s1) (h2:ev1 call i s1=some s2):∃ si,ev1 call i s=some si∧ev1 call x si=some s2:=by
  simp only [nc,Bool.and_eq_true] at hn
  obtain ⟨hb,hk⟩:=hn
  obtain ⟨gx,gi,o1,o2,w1,w2⟩:=bs_inv hb
  by_cases hl:ldcG i x=true
  · exact ast hb hl h1 h2
  by_cases ha:alcC x i=true
  · exact aug hb ha h1 h2
  by_cases hst:stC x i=true
  · exact av2 hb hst h1 h2
  have hl':ldcG i x=false:=by simpa using hl
  have ha':alcC x i=false:=by simpa using ha
  have hst':stC x i=false:=by simpa using hst
  rw [hl',ha',hst',Bool.or_false,Bool.or_false,Bool.or_false] at hk
  have same:∀ {y z:I} {u u':St},okG y=true→offO (wrI y) (rdI z)=true→ev1 call y u=some u'→Same (rdI z) u u':=fun gy oy he n hn=>
    off gy he n fun e=>acs oy e hn
  by_cases kx:kdI x≤1
  · obtain ⟨vx,rfl⟩:=aag gx kx h1
    rw [frameO gi o1 w1] at h2
    obtain ⟨si,hsi,rfl⟩:=Option.map_eq_some_iff.1 h2
    refine ⟨si,hsi,?_⟩
    by_cases ki:kdI i≤1
    · obtain ⟨vi,rfl⟩:=aag gi ki hsi
      rw [frameO gx o2 w2,h1]
      simp only [Option.map_some,Option.some.injEq]
      exact asg w1 s vx vi
    · have kx0:kdI x=0:=by
        simp only [Bool.or_eq_true,Bool.and_eq_true,beq_iff_eq] at hk
        omega
      obtain ⟨u,e1,e2⟩:=afu gx kx0 (same gi o2 hsi) h1
      rw [e2]
      congr 1
      have:s.putO (wrI x) vx=s.putO (wrI x) u:=e1
      have h3:=frameO (call:=call) (s:=s) (v:=vx) gi o1 w1
      have h4:=frameO (call:=call) (s:=s) (v:=u) gi o1 w1
      rw [this,h4,hsi] at h3
      simpa using h3
  · have ki0:kdI i=0:=by
      simp only [Bool.or_eq_true,Bool.and_eq_true,beq_iff_eq] at hk
      omega
    have sm:Same (rdI i) s1 s:=fun n hn=>(same gx o1 h1 n hn).symm
    obtain ⟨u,rfl,e2⟩:=afu gi ki0 sm h2
    refine ⟨_,e2,?_⟩
    rw [frameO gx o2 w2,h1]
    rfl
theorem pull {i:I}:∀ (pre post:List I) {s:St},(∀ x,x ∈ pre→nc x i=true)→evIs call (pre++i :: post) s=some s'→∃ s1,ev1 call i s=some s1∧evIs call (pre++post) s1=some s'
  | [],post,s,_,he=>by
    simp only [List.nil_append,evIs] at he
    split at he
    · rename_i s1 e1;exact ⟨s1,e1,he⟩
    · cases he
  | x :: pre,post,s,hn,he=>by
    simp only [List.cons_append,evIs] at he
    split at he
    · rename_i sx ex
      obtain ⟨s1,e1,e2⟩:=pull pre post (fun y hy=>hn y (by simp [hy])) he
      obtain ⟨si,e3,e4⟩:=swap (hn x (by simp)) ex e1
      refine ⟨si,e3,?_⟩
      simp only [List.cons_append,evIs,e4]
      exact e2
    · cases he
end
end Go.VS
end
section
namespace Go.VS
open Go
def reach (ops:Array Oper):Nat→Nat→Nat→Bool
  | 0,_,_=>false
  | f+1,j,i=>match ops[j]? with
    | some o=>o.after.toList.any fun e=>Region.binds .any e && (e.on == i || reach ops f e.on i)
    | none=>false
def backOk:Nat→List Oper→Bool
  | _,[]=>true
  | k,o :: os=>(o.after.toList.all fun e=>!Region.binds .any e || decide (e.on<k)) && backOk (k+1) os
def ordOk (ops:Array Oper) (is:List I):Bool:=
  (List.range is.length).all fun j=>(List.range j).all fun i=>nc (is.getD i (.st (.t 0) (.t 0) 0)) (is.getD j (.st (.t 0) (.t 0) 0)) || reach ops is.length j i
section
variable {P:Program} {φ:Nat→FuncId} {N:Env} {J:World→Prop} {c:Cx} {s s':St} {a:Act} {w:World} {h:Gh} {tb:TI} {o:Oper} {call:Nat→St→Option Out}
theorem ahw:∀ (k:Nat) (os:List Oper),backOk k os=true→∀ j o,os[j]?=some o→∀ e,e ∈ o.after→Region.binds .any e=true→e.on<k+j
  | k,[],_,j,o,hj=>by simp at hj
  | k,o :: os,hb,j,o',hj=>by
    simp only [backOk,Bool.and_eq_true] at hb
    intro e he hbi
    cases j with
    | zero=>
      cases hj
      have:=List.all_eq_true.1 hb.1 e (by simpa using he)
      simp [hbi] at this
      omega
    | succ j=>
      have:=ahw (k+1) os hb.2 j o' (by simpa using hj) e he hbi
      omega
theorem aoq {ops:Array Oper}:∀ {is:List I} {os:List Oper},mRs tb φ ops is os=true→∀ (j:Nat) (i:I) (o:Oper),is[j]?=some i→os[j]?=some o→mG tb φ ops i o=true
  | i :: is,o :: os,hm,j,i',o',h1,h2=>by
    simp only [mRs,Bool.and_eq_true] at hm
    cases j with
    | zero=>cases h1;cases h2;exact hm.1
    | succ j=>exact aoq hm.2 j i' o' (by simpa using h1) (by simpa using h2)
  | [],_,_,j,i,o,h1,_=>by simp at h1
  | _ :: _,[],hm,_,_,_,_,_=>by simp [mRs] at hm
def Closed (ops:Array Oper) (listed:Array Bool):Prop:=∀ j o,ops[j]?=some o→listed.getD j true=true→∀ e,e ∈ o.after→Region.binds .any e=true→listed.getD e.on false=true
theorem afi {ops:Array Oper} {listed:Array Bool} (hc:Closed ops listed) (hs:listed.size=ops.size):∀ (f j i:Nat),reach ops f j i=true→(∀ o,ops[j]?=some o→∀ e,e ∈ o.after→Region.binds .any e=true→listed.getD e.on false=true)→listed.getD i false=true
  | 0,_,_,h,_=>by simp [reach] at h
  | f+1,j,i,h,hj=>by
    simp only [reach] at h
    split at h
    · rename_i o ho
      obtain ⟨e,he,h⟩:=List.any_eq_true.1 h
      simp only [Bool.and_eq_true,Bool.or_eq_true,beq_iff_eq] at h
      have hl:=hj o ho e (by simpa using he) h.1
      rcases h.2 with h2 | h2
      · rw [← h2];exact hl
      · refine afi hc hs f e.on i h2 fun o' ho' e' he' hb'=>hc e.on o' ho' ?_ e' he' hb'
        rw [Array.getD_eq_getD_getElem?] at hl ⊢
        cases hx:listed[e.on]? with
        | none=>rfl
        | some b=>rw [hx] at hl;exact hl
    · cases h
def pend (n:Nat) (listed:Array Bool):List Nat:=(List.range n).filter fun i=>!listed.getD i true
theorem akj {n i:Nat} {listed:Array Bool} (hs:listed.size=n) (hi:i<n) (hl:listed.getD i true=false):∃ pre post,pend n listed=pre++i :: post∧pend n (listed.setIfInBounds i true)=pre++post∧∀ x,x ∈ pre→x<i∧listed.getD x true=false:=by
  have hr:List.range n=List.range i++i :: List.range' (i+1) (n - (i+1)):=by
    have h1:=List.range'_append_1 (s:=0) (m:=i) (n:=n - i)
    rw [show i+(n - i)=n by omega,Nat.zero_add,show n - i=(n - (i+1))+1 by omega,List.range'_succ] at h1
    rw [List.range_eq_range',List.range_eq_range',← h1]
  have hset:∀ k,(listed.setIfInBounds i true).getD k true=if k=i then true else listed.getD k true:=by
    intro k
    rw [Array.getD_eq_getD_getElem?,Array.getElem?_setIfInBounds,Array.getD_eq_getD_getElem?]
    by_cases h:i=k
    · subst h;simp [hs,hi]
    · rw [if_neg h,if_neg (Ne.symm h)]
  refine ⟨(List.range i).filter fun k=>!listed.getD k true,(List.range' (i+1) (n - (i+1))).filter fun k=>!listed.getD k true,?_,?_,?_⟩
  · rw [pend,hr,List.filter_append,List.filter_cons,hl];rfl
  · rw [pend,hr,List.filter_append,List.filter_cons]
    rw [if_neg (by rw [hset,if_pos rfl];simp)]
    congr 1
    · refine List.filter_congr fun k hk=>?_
      rw [hset,if_neg (by simp at hk;omega)]
    · refine List.filter_congr fun k hk=>?_
      rw [hset,if_neg (by simp at hk;omega)]
  · intro x hx
    simpa using hx
theorem awc {ops:Array Oper} {listed:Array Bool} {i:Nat}:i ∈ Region.ready .any ops listed ↔ ∃ o,ops[i]?=some o∧listed.getD i true=false∧∀ e,e ∈ o.after→Region.binds .any e=true→listed.getD e.on false=true:=by
  unfold Region.ready
  rw [List.mem_filter,List.mem_range]
  constructor
  · rintro ⟨h1,h2⟩
    simp only [Bool.and_eq_true,Bool.not_eq_true'] at h2
    obtain ⟨h2,h3⟩:=h2
    rw [Array.getElem?_eq_getElem h1] at h3
    refine ⟨ops[i],Array.getElem?_eq_getElem h1,h2,fun e he hb=>?_⟩
    have:=Array.all_eq_true_iff_forall_mem.1 h3 e he
    simpa [hb] using this
  · rintro ⟨o,h1,h2,h3⟩
    refine ⟨(Array.getElem?_eq_some_iff.1 h1).1,?_⟩
    rw [h2,h1]
    simp only [Bool.not_false,Bool.true_and,Option.map_some,Option.getD_some]
    refine Array.all_eq_true_iff_forall_mem.2 fun e he=>?_
    cases hb:Region.binds .any e with
    | false=>rfl
    | true=>simp [h3 e he hb]
theorem any_ok (T:TIok P tb) (hJ:Keep P N J) (h0:J c.w0) (hc:Sound P φ N J call) {ops:Array Oper} {Q:Exit→Act→World→Prop} {is:List I} (hm:mRs tb φ ops is ops.toList=true) (hb:backOk 0 ops.toList=true) (hord:ordOk ops is=true)
    (hQ:∀ a' w' h',Sim φ N c s' a' w' h'→Q .normal a' w'):∀ (fuel:Nat) (listed:Array Bool) {s:St} {a:Act} {w:World} {h:Gh},listed.size=ops.size→Closed ops listed→fuel=(pend ops.size listed).length→Sim φ N c s a w h →
    evIs call ((pend ops.size listed).map fun i=>is.getD i (.st (.t 0) (.t 0) 0)) s=some s'→wpAny P .any ops Q fuel listed a w
  | 0,listed,s,a,w,h,hs,hcl,hf,S,he=>by
    have hp:pend ops.size listed=[]:=List.eq_nil_of_length_eq_zero hf.symm
    rw [hp] at he
    cases he
    refine ⟨?_,hQ _ _ _ S⟩
    apply List.eq_nil_iff_forall_not_mem.2
    intro i hi
    obtain ⟨o,h1,h2,_⟩:=awc.1 hi
    have:i ∈ pend ops.size listed:=List.mem_filter.2 ⟨List.mem_range.2 (Array.getElem?_eq_some_iff.1 h1).1,by simpa using h2⟩
    rw [hp] at this;cases this
  | fuel+1,listed,s,a,w,h,hs,hcl,hf,S,he=>by
    refine ⟨fun hr=>?_,fun i hi=>?_⟩
    · have key:∀ k,k<ops.size→listed.getD k true=false→False:=by
        intro k
        induction k using Nat.strongRecOn with
        | _ k ih=>
          intro hk hl
          have hno:k ∉ Region.ready .any ops listed:=by rw [hr];simp
          apply hno
          refine awc.2 ⟨ops[k],Array.getElem?_eq_getElem hk,hl,fun e he' hbi=>?_⟩
          have hlt:=ahw 0 ops.toList hb k ops[k] (by simp [hk]) e he' hbi
          rw [Nat.zero_add] at hlt
          cases hx:listed.getD e.on false with
          | true=>rfl
          | false=>
            refine (ih e.on hlt (by omega) ?_).elim
            rw [Array.getD_eq_getD_getElem?,Array.getElem?_eq_getElem (by omega)] at hx ⊢
            exact hx
      cases hp:pend ops.size listed with
      | nil=>rw [hp] at hf;simp at hf
      | cons k ks=>
        have hk:k ∈ pend ops.size listed:=by rw [hp];simp
        obtain ⟨h1,h2⟩:=List.mem_filter.1 hk
        exact (key k (List.mem_range.1 h1) (by simpa using h2)).elim
    · obtain ⟨o,h1,h2,h3⟩:=awc.1 hi
      have hin:=(Array.getElem?_eq_some_iff.1 h1).1
      obtain ⟨pre,post,p1,p2,p3⟩:=akj hs hin h2
      have hlen:is.length=ops.size:=by have:=alr hm;simpa using this
      rw [p1,List.map_append,List.map_cons] at he
      obtain ⟨s1,e1,e2⟩:=pull _ _ (fun x hx=>by
        obtain ⟨k,hk,rfl⟩:=List.mem_map.1 hx
        obtain ⟨k1,k2⟩:=p3 k hk
        have h4:=List.all_eq_true.1 (List.all_eq_true.1 hord i (by rw [List.mem_range];omega)) k (List.mem_range.2 k1)
        simp only [Bool.or_eq_true] at h4
        rcases h4 with h4 | h4
        · exact h4
        · have:=afi hcl hs _ i k h4 (fun o' ho' e he' hbi=>by rw [h1] at ho';cases ho';exact h3 e he' hbi)
          rw [Array.getD_eq_getD_getElem?,Array.getElem?_eq_getElem (by omega)] at this k2
          simp only [Option.getD_some] at this k2
          rw [this] at k2;cases k2) he
      rw [← List.map_append,← p2] at e2
      unfold wpOp
      rw [h1]
      have hix:is[i]?=some (is.getD i (.st (.t 0) (.t 0) 0)):=by rw [List.getD_eq_getElem?_getD,List.getElem?_eq_getElem (by omega)];rfl
      have hset:∀ k,(listed.setIfInBounds i true).getD k true=if k=i then true else listed.getD k true:=by
        intro k
        rw [Array.getD_eq_getD_getElem?,Array.getElem?_setIfInBounds,Array.getD_eq_getD_getElem?]
        by_cases h:i=k
        · subst h;simp [hs,hin]
        · rw [if_neg h,if_neg (Ne.symm h)]
      have hsetf:∀ k,listed.getD k false=true→(listed.setIfInBounds i true).getD k false=true:=by
        intro k hk
        rw [Array.getD_eq_getD_getElem?,Array.getElem?_setIfInBounds]
        by_cases h:i=k
        · subst h;simp [hs,hin]
        · rw [if_neg h,← Array.getD_eq_getD_getElem?];exact hk
      refine alg T hJ h0 hc (aoq hm i _ o hix (by simpa using h1)) S e1 fun a' w' h' S'=>any_ok T hJ h0 hc hm hb hord hQ fuel _ (by simpa using hs) (fun j o' ho' hl e he' hbi=>?_) ?_ S' e2
      · rw [hset] at hl
        by_cases hji:j=i
        · subst hji
          rw [h1] at ho';cases ho'
          exact hsetf _ (h3 e he' hbi)
        · rw [if_neg hji] at hl
          exact hsetf _ (hcl j o' ho' hl e he' hbi)
      · rw [p1] at hf
        rw [p2]
        simp at hf ⊢
        omega
end
end Go.VS
end
section
namespace Go.VS
open Go
def rem (p:List Nat) (listed:Array Bool):List Nat:=p.filter fun i=>!listed.getD i true
def csP (C p:List Nat):List Nat:=p.filter fun i=>C.contains i
def altOk (ops:Array Oper) (is:List I) (C:List Nat) (alts:List (List Nat)):Bool:=
  !alts.isEmpty && alts.all fun p=>decide p.Nodup && (List.range ops.size).all (fun i=>p.contains i) && p.all (fun i=>decide (i<ops.size)) &&
    decide (p.Pairwise fun x i=>(nc (isD is x) (isD is i) || reach ops is.length i x || (C.contains x && C.contains i))=true) &&
    (List.range (p.length+1)).all fun k=>C.all fun i=>((csP C p).take k).contains i || alts.any (fun p'=>decide ((csP C p').take (k+1)=(csP C p).take k++[i])) || C.any fun j=>!((csP C p).take k).contains j && reach ops is.length i j
section
variable {P:Program} {φ:Nat→FuncId} {N:Env} {J:World→Prop} {c:Cx} {s:St} {a:Act} {w:World} {h:Gh} {tb:TI} {call:Nat→St→Option Out}
theorem asj {p pre post:List Nat} {i:Nat} {listed:Array Bool} (hp:p=pre++i :: post) (hn:p.Nodup) (hi:i<listed.size) (hl:listed.getD i true=false):
    rem p listed=rem pre listed++i :: rem post listed∧rem p (listed.setIfInBounds i true)=rem pre listed++rem post listed:=by
  subst hp
  have hset:∀ k,(listed.setIfInBounds i true).getD k true=if k=i then true else listed.getD k true:=by
    intro k
    rw [Array.getD_eq_getD_getElem?,Array.getElem?_setIfInBounds,Array.getD_eq_getD_getElem?]
    by_cases h:i=k
    · subst h;simp [hi]
    · rw [if_neg h,if_neg (Ne.symm h)]
  rw [List.nodup_append] at hn
  obtain ⟨_,n2,n3⟩:=hn
  rw [List.nodup_cons] at n2
  refine ⟨by rw [rem,List.filter_append,List.filter_cons,hl];rfl,?_⟩
  rw [rem,List.filter_append,List.filter_cons,if_neg (by rw [hset,if_pos rfl];simp)]
  congr 1
  · refine List.filter_congr fun k hk=>?_
    rw [hset,if_neg (fun e=>n3 k hk i (by simp) e)]
  · refine List.filter_congr fun k hk=>?_
    rw [hset,if_neg (fun e:k=i=>n2.1 (by rw [← e];exact hk))]
theorem before {A B hist:List Nat} {i x:Nat} (hi:i ∉ A) (ht:(A++i :: B).take (hist.length+1)=hist++[i]) (hx:x ∈ A):x ∈ hist:=by
  have hm:i ∈ (A++i :: B).take (hist.length+1):=by rw [ht];simp
  have hA:A.length≤hist.length:=Nat.le_of_not_lt fun hlt=>by
    rw [List.take_append_of_le_length (by omega)] at hm
    exact hi (List.mem_of_mem_take hm)
  have e:(A++i :: B).take hist.length=hist:=by
    have:=congrArg (List.take hist.length) ht
    rw [List.take_take,Nat.min_eq_left (by omega),List.take_append_of_le_length (Nat.le_refl _),List.take_length] at this
    exact this
  rw [← e,List.take_append,List.take_of_length_le hA]
  exact List.mem_append_left _ hx
theorem asu {l hist:List Nat} {i:Nat} (ht:l.take (hist.length+1)=hist++[i]):l.take hist.length=hist:=by
  have:=congrArg (List.take hist.length) ht
  rw [List.take_take,Nat.min_eq_left (by omega),List.take_append_of_le_length (Nat.le_refl _),List.take_length] at this
  exact this
theorem ao2 (T:TIok P tb) (hJ:Keep P N J) (h0:J c.w0) (hc:Sound P φ N J call) {ops:Array Oper} {Q:Exit→Act→World→Prop} {is:List I} (hm:mRs tb φ ops is ops.toList=true) (hb:backOk 0 ops.toList=true)
    {C:List Nat} {alts:List (List Nat)} (ha:altOk ops is C alts=true) {s':List Nat→St} (hQ:∀ p,p ∈ alts→∀ a' w' h',Sim φ N c (s' p) a' w' h'→Q .normal a' w'):
    ∀ (fuel:Nat) (listed:Array Bool) (hist:List Nat) {s:St} {a:Act} {w:World} {h:Gh},listed.size=ops.size→Closed ops listed→fuel=(pend ops.size listed).length→Sim φ N c s a w h →
    (∃ p,p ∈ alts∧(csP C p).take hist.length=hist)→(∀ i,i ∈ C→(i ∈ hist ↔ listed.getD i true=true))→hist.Nodup→(∀ i,i ∈ hist→i ∈ C) →
    (∀ p,p ∈ alts→(csP C p).take hist.length=hist→evIs call ((rem p listed).map (isD is)) s=some (s' p))→wpAny P .any ops Q fuel listed a w
  | 0,listed,hist,s,a,w,h,hs,hcl,hf,S,hsv,hin,hnd,hCi,he=>by
    have hp:pend ops.size listed=[]:=List.eq_nil_of_length_eq_zero hf.symm
    obtain ⟨p,p1,p2⟩:=hsv
    have e:=he p p1 p2
    have hr:rem p listed=[]:=by
      rw [rem,List.filter_eq_nil_iff]
      intro i _ hl
      have hlt:i<ops.size:=Nat.lt_of_not_le fun hge=>by
        rw [Array.getD_eq_getD_getElem?,Array.getElem?_eq_none (by omega)] at hl
        simp at hl
      have:i ∈ pend ops.size listed:=List.mem_filter.2 ⟨List.mem_range.2 hlt,hl⟩
      rw [hp] at this;cases this
    rw [hr] at e
    have e':s=s' p:=Option.some.inj e
    refine ⟨?_,hQ p p1 _ _ h (e' ▸ S)⟩
    apply List.eq_nil_iff_forall_not_mem.2
    intro i hi
    obtain ⟨o,h1,h2,_⟩:=awc.1 hi
    have:i ∈ pend ops.size listed:=List.mem_filter.2 ⟨List.mem_range.2 (Array.getElem?_eq_some_iff.1 h1).1,by simpa using h2⟩
    rw [hp] at this;cases this
  | fuel+1,listed,hist,s,a,w,h,hs,hcl,hf,S,hsv,hin,hnd,hCi,he=>by
    have ha':=ha
    simp only [altOk,Bool.and_eq_true,List.all_eq_true,decide_eq_true_eq] at ha'
    refine ⟨fun hr=>?_,fun i hi=>?_⟩
    · have key:∀ k,k<ops.size→listed.getD k true=false→False:=by
        intro k
        induction k using Nat.strongRecOn with
        | _ k ih=>
          intro hk hl
          have hno:k ∉ Region.ready .any ops listed:=by rw [hr];simp
          apply hno
          refine awc.2 ⟨ops[k],Array.getElem?_eq_getElem hk,hl,fun e he' hbi=>?_⟩
          have hlt:=ahw 0 ops.toList hb k ops[k] (by simp [hk]) e he' hbi
          rw [Nat.zero_add] at hlt
          cases hx:listed.getD e.on false with
          | true=>rfl
          | false=>
            refine (ih e.on hlt (by omega) ?_).elim
            rw [Array.getD_eq_getD_getElem?,Array.getElem?_eq_getElem (by omega)] at hx ⊢
            exact hx
      cases hp:pend ops.size listed with
      | nil=>rw [hp] at hf;simp at hf
      | cons k ks=>
        have hk:k ∈ pend ops.size listed:=by rw [hp];simp
        obtain ⟨h1,h2⟩:=List.mem_filter.1 hk
        exact (key k (List.mem_range.1 h1) (by simpa using h2)).elim
    · obtain ⟨o,h1,h2,h3⟩:=awc.1 hi
      have hin':=(Array.getElem?_eq_some_iff.1 h1).1
      obtain ⟨pre0,post0,p1,p2,p3⟩:=akj hs hin' h2
      have hisl:is.length=ops.size:=by have:=alr hm;simpa using this
      have hlst:∀ k,reach ops is.length i k=true→listed.getD k true=true:=fun k hk=>by
        have:=afi hcl hs _ i k hk (fun o' ho' e he' hbi=>by rw [h1] at ho';cases ho';exact h3 e he' hbi)
        rw [Array.getD_eq_getD_getElem?] at this ⊢
        cases hx:listed[k]? with
        | none=>rfl
        | some b=>rw [hx] at this;exact this
      have hset:∀ k,(listed.setIfInBounds i true).getD k true=if k=i then true else listed.getD k true:=by
        intro k
        rw [Array.getD_eq_getD_getElem?,Array.getElem?_setIfInBounds,Array.getD_eq_getD_getElem?]
        by_cases h:i=k
        · subst h;simp [hs,hin']
        · rw [if_neg h,if_neg (Ne.symm h)]
      have hsetf:∀ k,listed.getD k false=true→(listed.setIfInBounds i true).getD k false=true:=by
        intro k hk
        rw [Array.getD_eq_getD_getElem?,Array.getElem?_setIfInBounds]
        by_cases h:i=k
        · subst h;simp [hs,hin']
        · rw [if_neg h,← Array.getD_eq_getD_getElem?];exact hk
      have hnh:i ∈ C→i ∉ hist:=fun hC hmem=>by
        rw [(hin i hC).1 hmem] at h2;cases h2
      obtain ⟨hist',q2,q3,q4,q5,q6,q7⟩:∃ hist':List Nat,(∃ p,p ∈ alts∧(csP C p).take hist'.length=hist')∧(∀ k,k ∈ C→(k ∈ hist' ↔ (listed.setIfInBounds i true).getD k true=true))∧hist'.Nodup∧(∀ k,k ∈ hist'→k ∈ C) ∧
          (∀ p,(csP C p).take hist'.length=hist'→(csP C p).take hist.length=hist)∧(i ∈ C→hist'=hist++[i]):=by
        by_cases hC:i ∈ C
        · have hn':(hist++[i]).Nodup:=by
            rw [List.nodup_append]
            exact ⟨hnd,by simp,fun x hx y hy e=>by simp at hy;subst hy;subst e;exact hnh hC hx⟩
          have hsub:∀ k,k ∈ hist++[i]→k ∈ C:=fun k hk=>by
            rcases List.mem_append.1 hk with hk | hk
            · exact hCi k hk
            · simp at hk;subst hk;exact hC
          refine ⟨hist++[i],?_,?_,hn',hsub,fun p hp=>asu (by simpa using hp),fun _=>rfl⟩
          · obtain ⟨p,p4,p5⟩:=hsv
            have:=(ha'.2 p p4).2 hist.length (List.mem_range.2 (by
              have l1:hist.length≤(csP C p).length:=by rw [← p5,List.length_take];omega
              have l2:(csP C p).length≤p.length:=List.length_filter_le _ _
              omega)) i hC
            rw [p5] at this
            simp only [Bool.or_eq_true,List.any_eq_true,Bool.and_eq_true,decide_eq_true_eq,List.contains_iff_mem,Bool.not_eq_true',decide_eq_false_iff_not] at this
            rcases this with (g | ⟨p',g1,g2⟩) | ⟨j,g1,g2,g3⟩
            · exact absurd g (hnh hC)
            · exact ⟨p',g1,by simpa using g2⟩
            · have:=(hin j g1).2 (hlst j g3)
              rw [List.contains_iff_mem.2 this] at g2;cases g2
          · intro k hk
            rw [hset,List.mem_append,hin k hk]
            by_cases e:k=i
            · simp [e]
            · simp [e]
        · refine ⟨hist,hsv,?_,hnd,hCi,fun _ hp=>hp,fun h=>absurd h hC⟩
          intro k hk
          rw [hset,if_neg (fun e:k=i=>hC (by rw [← e];exact hk)),hin k hk]
      have step:∀ p,p ∈ alts→(csP C p).take hist'.length=hist'→∃ s1,ev1 call (isD is i) s=some s1∧evIs call ((rem p (listed.setIfInBounds i true)).map (isD is)) s1=some (s' p):=by
        intro p hp hpt
        obtain ⟨⟨⟨⟨b1,b2⟩,_⟩,b3⟩,_⟩:=ha'.2 p hp
        have him:i ∈ p:=by simpa using b2 i (List.mem_range.2 hin')
        obtain ⟨pre,post,hsp⟩:=List.append_of_mem him
        obtain ⟨r1,r2⟩:=asj hsp b1 (by rw [hs];exact hin') h2
        have e:=he p hp (q6 p hpt)
        rw [r1,List.map_append,List.map_cons] at e
        rw [r2,List.map_append]
        refine pull _ _ (fun y hy=>?_) e
        obtain ⟨x,hx,rfl⟩:=List.mem_map.1 hy
        obtain ⟨hx1,hx2⟩:=List.mem_filter.1 hx
        have hx2:listed.getD x true=false:=by simpa using hx2
        rw [hsp,List.pairwise_append] at b3
        have:=b3.2.2 x hx1 i (by simp)
        simp only [Bool.or_eq_true,Bool.and_eq_true,List.contains_iff_mem] at this
        rcases this with (g | g) | ⟨g1,g2⟩
        · exact g
        · rw [hlst x g] at hx2;cases hx2
        · exfalso
          have hh:=q7 g2
          subst hh
          have hni:i ∉ pre:=fun hmem=>by
            rw [hsp,List.nodup_append] at b1
            exact b1.2.2 i hmem i (by simp) rfl
          have ecs:csP C p=csP C pre++i :: csP C post:=by
            rw [hsp,csP,List.filter_append,List.filter_cons,if_pos (by simpa using g2)];rfl
          have:=before (hist:=hist) (A:=csP C pre) (B:=csP C post) (fun hmem=>hni (List.mem_filter.1 hmem).1) (by rw [← ecs];simpa using hpt) (x:=x) (List.mem_filter.2 ⟨hx1,by simpa using g1⟩)
          rw [(hin x g1).1 this] at hx2;cases hx2
      obtain ⟨pq,w1,w2⟩:=q2
      obtain ⟨s1,e1,_⟩:=step pq w1 w2
      unfold wpOp
      rw [h1]
      have hix:is[i]?=some (isD is i):=by rw [isD,List.getD_eq_getElem?_getD,List.getElem?_eq_getElem (by omega)];rfl
      refine alg T hJ h0 hc (aoq hm i _ o hix (by simpa using h1)) S e1 fun a' w' h' S'=>ao2 T hJ h0 hc hm hb ha hQ fuel _ hist' (by simpa using hs) (fun j o' ho' hl e he' hbi=>?_) ?_ S' ⟨pq,w1,w2⟩ q3 q4 q5 fun p hp hpt=>?_
      · rw [hset] at hl
        by_cases hji:j=i
        · subst hji
          rw [h1] at ho';cases ho'
          exact hsetf _ (h3 e he' hbi)
        · rw [if_neg hji] at hl
          exact hsetf _ (hcl j o' ho' hl e he' hbi)
      · rw [p1] at hf
        rw [p2]
        simp at hf ⊢
        omega
      · obtain ⟨s2,g1,g2⟩:=step p hp hpt
        rw [e1] at g1
        cases g1
        exact g2
theorem aox (T:TIok P tb) (hJ:Keep P N J) (h0:J c.w0) (hmix:P.follows .mixedOrders=true) (hc:Sound P φ N J call) {id:Nat} {ops:Array Oper} {Q:Exit→Act→World→Prop} {is:List I} (hm:mRs tb φ ops is ops.toList=true) (hb:backOk 0 ops.toList=true)
    {C:List Nat} {alts:List (List Nat)} (ha:altOk ops is C alts=true) (hC:C.all (·<ops.size)=true) (S:Sim φ N c s a w h) {s':List Nat→St} (he:∀ p,p ∈ alts→evIs call (p.map (isD is)) s=some (s' p)) (hQ:∀ p,p ∈ alts→∀ a' w' h',Sim φ N c (s' p) a' w' h'→Q .normal a' w'):
    (Code.region id ops true).wp P Q a w:=by
  refine wp_region_any hmix ?_
  have hfalse:∀ i,i<ops.size→(Array.replicate ops.size false).getD i true=false:=fun i hi=>by
    rw [Array.getD_eq_getD_getElem?,Array.getElem?_replicate,if_pos hi];rfl
  have hp:pend ops.size (Array.replicate ops.size false)=List.range ops.size:=by
    unfold pend
    rw [List.filter_eq_self]
    intro k hk
    rw [hfalse k (List.mem_range.1 hk)];rfl
  have ha':=ha
  simp only [altOk,Bool.and_eq_true,List.all_eq_true,decide_eq_true_eq] at ha'
  refine ao2 T hJ h0 hc hm hb ha hQ ops.size _ [] (by simp) (fun j o hj hl=>?_) (by rw [hp];simp) (S.heap rfl rfl rfl rfl) ?_ (fun i hi=>?_) List.nodup_nil (fun i hi=>by cases hi) fun p hpm _=>?_
  · rw [hfalse j (Array.getElem?_eq_some_iff.1 hj).1] at hl
    cases hl
  · cases alts with
    | nil=>simp at ha'
    | cons p ps=>exact ⟨p,by simp,by simp⟩
  · have:=List.all_eq_true.1 hC i hi
    rw [hfalse i (by simpa using this)];simp
  · have hall:rem p (Array.replicate ops.size false)=p:=by
      rw [rem,List.filter_eq_self]
      intro k hk
      rw [hfalse k ((ha'.2 p hpm).1.1.2 k hk)];rfl
    rw [hall]
    exact he p hpm
end
end Go.VS
end
section
namespace Go.VS
open Go
def mC (tb:TI) (φ:Nat→FuncId):C→Code→Bool
  | .r is,.region _ ops draw=>mRs tb φ ops is ops.toList && (!draw || (backOk 0 ops.toList && ordOk ops is))
  | .ra is cs alts,.region _ ops draw=>mRs tb φ ops is ops.toList && draw && backOk 0 ops.toList && altOk ops is cs alts && cs.all (·<ops.size)
  | .seq a b,.seq a' b'=>mC tb φ a a' && mC tb φ b b'
  | .cond x a b,.cond y a' b'=>mX φ x y && mC tb φ a a' && mC tb φ b b'
  | .blk id k,.block id' k'=>id == id' && mC tb φ k k'
  | .loop _ _ _ k,.loop k'=>mC tb φ k k'
  | .ex id,.exit id'=>id == id'
  | .ret,.ret=>true
  | .skip,.skip=>true
  | .skip,.label _=>true
  | .any,_=>true
  | _,_=>false
def mR (tb:TI):List Rs→List ResultVar→Bool
  | [],[]=>true
  | .t n :: rs,.tmp m :: ms=>n == m && mR tb rs ms
  | .c n z ag :: rs,.cell m t :: ms=>n == m && sz' tb t == some z && ag' tb t == some ag && mR tb rs ms
  | _,_=>false
def exX:Ex→Exit
  | .n=>.normal
  | .x id=>.exit id
  | .r=>.ret
section
variable {P:Program} {φ:Nat→FuncId} {N:Env} {J:World→Prop} {c:Cx} {s s':St} {a:Act} {w:World} {h:Gh} {tb:TI} {o:Oper} {call:Nat→St→Option Out}
theorem Sim.b0len (S:Sim φ N c s a w h):∀ id x,c.B0 id=some x→id<s.m.length:=fun id x hx=>Nat.lt_of_not_le fun hge=>by
  have:=S.b0 id x hx
  rw [S.bN id hge] at this
  cases this
theorem acu (T:TIok P tb) (hJ:Keep P N J) (h0:J c.w0) (hmix:P.follows .mixedOrders=true) (hc:Sound P φ N J call) {pc:Nat} (hG:∀ id x,c.G0 id=some x→id<pc) (n:Nat):∀ (k:C) (code:Code) {s s':St} {a:Act} {w:World} {h:Gh} {ex:Ex} {Q:Exit→Act→World→Prop},k.pinned pc=true→mC tb φ k code=true→Sim φ N c s a w h→evC call n k s=some (ex,s') →
    (∀ a' w' h',Sim φ N c s' a' w' h'→Q (exX ex) a' w')→code.wp P Q a w
  | .r is,code,s,s',a,w,h,ex,Q,hk,hm,S,he,hQ=>by
    cases code <;> simp only [mC] at hm <;> (try (cases hm;done))
    rename_i id ops draw
    simp only [Bool.and_eq_true,Bool.or_eq_true] at hm
    simp only [evC] at he
    obtain ⟨s1,e1,e2⟩:=Option.map_eq_some_iff.1 he
    cases e2
    have hlen:is.length=ops.size:=by have:=alr hm.1;simpa using this
    cases draw with
    | false=>
      refine wp_region ?_
      have:=ops_ok T hJ h0 hc is ops.toList 0 hm.1 (fun j=>by simp) S e1 hQ
      rw [List.range_eq_range']
      simpa using this
    | true=>
      have hd:backOk 0 ops.toList=true∧ordOk ops is=true:=by simpa using hm.2
      refine wp_region_any hmix ?_
      have hp:pend ops.size (Array.replicate ops.size false)=List.range ops.size:=by
        unfold pend
        rw [List.filter_eq_self]
        intro k hk
        rw [Array.getD_eq_getD_getElem?,Array.getElem?_replicate,if_pos (List.mem_range.1 hk)];rfl
      refine any_ok T hJ h0 hc hm.1 hd.1 hd.2 hQ ops.size _ (by simp) (fun j o hj hl=>?_) (by rw [hp];simp) (S.heap rfl rfl rfl rfl) ?_
      · rw [Array.getD_eq_getD_getElem?,Array.getElem?_replicate,if_pos (Array.getElem?_eq_some_iff.1 hj).1] at hl
        cases hl
      · rw [hp]
        have:(List.range ops.size).map (fun i=>is.getD i (.st (.t 0) (.t 0) 0))=is:=by
          apply List.ext_getElem?
          intro j
          rw [List.getElem?_map]
          by_cases hj:j<is.length
          · rw [List.getElem?_range (by omega),Option.map_some,List.getD_eq_getElem?_getD,List.getElem?_eq_getElem hj];rfl
          · rw [List.getElem?_eq_none (by omega:is.length≤j),List.getElem?_eq_none (by simp;omega)];rfl
        rw [this];exact e1
  | .ra is cs alts,code,s,s',a,w,h,ex,Q,hk,hm,S,he,hQ=>by
    cases code <;> simp only [mC] at hm <;> (try (cases hm;done))
    rename_i id ops draw
    simp only [Bool.and_eq_true] at hm
    obtain ⟨⟨⟨⟨m1,m2⟩,m3⟩,m4⟩,m5⟩:=hm
    subst m2
    cases alts with
    | nil=>simp [evC] at he
    | cons p ps=>
      simp only [evC] at he
      split at he
      · rename_i s1 h1
        split at he
        · rename_i hq
          cases he
          refine aox T hJ h0 hmix hc m1 m3 m4 m5 S (s':=fun _=>s') (fun q hm=>?_) fun q hm a' w' h' S'=>hQ a' w' h' S'
          rcases List.mem_cons.1 hm with rfl | hm
          · exact h1
          · exact hq q hm
        · cases he
      · cases he
  | .seq x y,code,s,s',a,w,h,ex,Q,hk,hm,S,he,hQ=>by
    simp only [C.pinned,Bool.and_eq_true] at hk
    cases code <;> simp only [mC] at hm <;> (try (cases hm;done))
    simp only [Bool.and_eq_true] at hm
    simp only [evC] at he
    refine wp_seq ?_
    split at he
    · rename_i s1 e1
      exact acu T hJ h0 hmix hc hG n x _ hk.1 hm.1 S e1 fun a' w' h' S'=>acu T hJ h0 hmix hc hG n y _ hk.2 hm.2 S' he hQ
    · rename_i hne
      refine acu T hJ h0 hmix hc hG n x _ hk.1 hm.1 S he fun a' w' h' S'=>?_
      cases ex with
      | n=>exact (hne s' he).elim
      | x id=>exact hQ a' w' h' S'
      | r=>exact hQ a' w' h' S'
  | .cond x y z,code,s,s',a,w,h,ex,Q,hk,hm,S,he,hQ=>by
    simp only [C.pinned,Bool.and_eq_true] at hk
    cases code <;> simp only [mC] at hm <;> (try (cases hm;done))
    simp only [Bool.and_eq_true] at hm
    simp only [evC] at he
    have vx:=mX_ok S hm.1.1
    split at he
    · rename_i b e1
      rw [e1] at vx
      refine wp_cond vx.b_inv ?_
      cases b with
      | true=>simp only [if_true] at he ⊢;exact acu T hJ h0 hmix hc hG n y _ hk.1 hm.1.2 S he hQ
      | false=>simp only [Bool.false_eq_true,if_false] at he ⊢;exact acu T hJ h0 hmix hc hG n z _ hk.2 hm.2 S he hQ
    · cases he
  | .blk id k,code,s,s',a,w,h,ex,Q,hk,hm,S,he,hQ=>by
    simp only [C.pinned] at hk
    cases code <;> simp only [mC] at hm <;> (try (cases hm;done))
    simp only [Bool.and_eq_true,beq_iff_eq] at hm
    obtain ⟨rfl,hm⟩:=hm
    simp only [evC] at he
    refine wp_block ?_
    split at he
    · rename_i id' s1 e1
      refine acu T hJ h0 hmix hc hG n k _ hk hm S e1 fun a' w' h' S'=>?_
      simp only [exX,Exit.inBlock]
      split at he
      · rename_i hid
        cases he
        rw [if_pos hid];exact hQ a' w' h' S'
      · rename_i hid
        cases he
        rw [if_neg hid];exact hQ a' w' h' S'
    · rename_i hne
      refine acu T hJ h0 hmix hc hG n k _ hk hm S he fun a' w' h' S'=>?_
      cases ex with
      | n=>exact hQ a' w' h' S'
      | x id=>exact (hne id s' he).elim
      | r=>exact hQ a' w' h' S'
  | .loop lv ow om k,code,s,s',a,w,h,ex,Q,hk,hm,S,he,hQ=>by
    simp only [C.pinned,Bool.and_eq_true,Bool.or_eq_true,decide_eq_true_eq] at hk
    cases code <;> simp only [mC] at hm <;> (try (cases hm;done))
    rename_i body
    simp only [evC] at he
    have hB:=S.b0len
    generalize s.m.length=nb at he hB
    refine wp_loop_rounds n ?_
    have key:∀ (m:Nat) {s:St} {a:Act} {w:World} {h:Gh},Sim φ N c s a w h→rounds (fun s'=>evC call n k (s'.head lv ow om nb)) m s=some (ex,s')→Code.rounds P body Q m a w:=by
      intro m
      induction m with
      | zero=>intro s a w h _ he;simp [rounds] at he
      | succ m ih=>
        intro s a w h S he
        simp only [rounds] at he
        rw [rounds_succ]
        obtain ⟨h1,S1⟩:=S.head lv ow om hB (hk.1.imp id fun hk=>fun id x hx=>Nat.lt_of_lt_of_le (hG id x hx) hk)
        split at he
        · rename_i s1 e1
          exact acu T hJ h0 hmix hc hG n k _ hk.2 hm S1 e1 fun a' w' h' S'=>ih S' he
        · rename_i hne
          refine acu T hJ h0 hmix hc hG n k _ hk.2 hm S1 he fun a' w' h' S'=>?_
          cases ex with
          | n=>exact (hne s' he).elim
          | x id=>exact hQ a' w' h' S'
          | r=>exact hQ a' w' h' S'
    exact key n S he
  | .ex id,code,s,s',a,w,h,ex,Q,hk,hm,S,he,hQ=>by
    cases code <;> simp only [mC] at hm <;> (try (cases hm;done))
    simp only [beq_iff_eq] at hm
    subst hm
    cases he
    exact wp_exit (hQ _ _ _ S)
  | .ret,code,s,s',a,w,h,ex,Q,hk,hm,S,he,hQ=>by
    cases code <;> simp only [mC] at hm <;> (try (cases hm;done))
    cases he
    exact wp_ret (hQ _ _ _ S)
  | .skip,code,s,s',a,w,h,ex,Q,hk,hm,S,he,hQ=>by
    cases code <;> simp only [mC] at hm <;> (try (cases hm;done)) <;> cases he
    · exact wp_skip (hQ _ _ _ S)
    · exact wp_label (hQ _ _ _ S)
  | .any,code,s,s',a,w,h,ex,Q,hk,hm,S,he,hQ=>by cases he
def resM (tmps:Array Value) (r:ResultVar):Sem Value:=
  match r with
  | .tmp t=>pure (tmps.getD t undef)
  | .cell p t=>do loadVar t (← asAddr (tmps.getD p undef))
theorem aoy (T:TIok P tb) (S:Sim φ N c s a w h):∀ {rs:List Rs} {ms:List ResultVar} {vs:List V},mR tb rs ms=true→s.resL rs=some vs →
    ∃ ys:List Value,(ms.mapM (resM a.tmps)).run P w=.ok ys w∧ys.length=vs.length∧∀ j v,vs[j]?=some v→VOk φ w h v (ys.getD j undef)
  | [],[],vs,_,he=>by cases he;exact ⟨[],rfl,rfl,fun j v hj=>by simp at hj⟩
  | .t n :: rs,.tmp m :: ms,vs,hm,he=>by
    simp only [mR,Bool.and_eq_true,beq_iff_eq] at hm
    obtain ⟨rfl,hm⟩:=hm
    simp only [St.resL,St.res1] at he
    split at he
    · cases he
    · rename_i vs1 e1
      cases he
      obtain ⟨ys,h1,h2,h3⟩:=aoy T S hm e1
      refine ⟨a.tmps.getD n undef :: ys,by simp only [List.mapM_cons,Sem.run_bind,Sem.run_pure,Result.andThen_ok,h1,resM],by simp [h2],fun j v hj=>?_⟩
      cases j with
      | zero=>cases hj;exact S.slot n
      | succ j=>exact h3 j v (by simpa using hj)
  | .c n z ag :: rs,.cell m t :: ms,vs,hm,he=>by
    simp only [mR,Bool.and_eq_true,beq_iff_eq] at hm
    obtain ⟨⟨⟨rfl,k1⟩,k2⟩,hm⟩:=hm
    simp only [St.resL,St.res1] at he
    split at he
    · cases he
    · rename_i v e0
      split at he
      · cases he
      · rename_i vs1 e1
        cases he
        obtain ⟨ys,h1,h2,h3⟩:=aoy T S hm e1
        obtain ⟨A,cv,g1,g2,g3⟩:=arx (P:=P) S (S.slot n) e0 (sz_ok T k1) (ag_ok T k2)
        refine ⟨cv :: ys,?_,by simp [h2],fun j v hj=>?_⟩
        · have e:(resM a.tmps (.cell n t)).run P w=.ok cv w:=by simp only [resM,g1,asAddr,Sem.run_bind,Sem.run_pure,Result.andThen_ok,g2]
          simp only [List.mapM_cons,Sem.run_bind,Sem.run_pure,Result.andThen_ok,e,h1]
        · cases j with
          | zero=>cases hj;exact g3
          | succ j=>exact h3 j v (by simpa using hj)
  | [],_ :: _,_,hm,_=>by simp [mR] at hm
  | .t _ :: _,[],_,hm,_=>by simp [mR] at hm
  | .c _ _ _ :: _,[],_,hm,_=>by simp [mR] at hm
  | .t _ :: _,.cell _ _ :: _,_,hm,_=>by simp [mR] at hm
  | .c _ _ _ :: _,.tmp _ :: _,_,hm,_=>by simp [mR] at hm
theorem res_ok (T:TIok P tb) (S:Sim φ N c s a w h) {rs:List Rs} {fn:Func} {v:V} (hm:mR tb rs fn.results.toList=true) (he:s.res rs=some v):∃ y,(results fn a.tmps).run P w=.ok y w∧VOk φ w h v y:=by
  have hl:∃ vs,s.resL rs=some vs∧((vs=[v]∧rs.length=1)∨(v=.tup vs∧rs.length≠1)):=by
    unfold St.res at he
    split at he
    · rename_i r
      exact ⟨[v],by simp [St.resL,he],.inl ⟨rfl,rfl⟩⟩
    · rename_i hne
      obtain ⟨vs,h1,h2⟩:=Option.map_eq_some_iff.1 he
      refine ⟨vs,h1,.inr ⟨h2.symm,fun e=>?_⟩⟩
      obtain ⟨r,rfl⟩:=List.length_eq_one_iff.1 e
      exact hne r rfl
  obtain ⟨vs,h1,h2⟩:=hl
  obtain ⟨ys,g1,g2,g3⟩:=aoy T S hm h1
  have hrl:∀ {rs:List Rs} {vs:List V},s.resL rs=some vs→vs.length=rs.length:=by
    intro rs
    induction rs with
    | nil=>intro vs he;cases he;rfl
    | cons r rs ih=>
      intro vs he
      simp only [St.resL] at he
      split at he
      · cases he
      · split at he
        · cases he
        · rename_i e;cases he;simp [ih e]
  have hlen:=hrl h1
  have hrun:(results fn a.tmps).run P w=.ok (if h:ys.length=1 then ys[0] else .tuple ys.toArray) w:=by
    have e:results fn a.tmps=(do let vs ← fn.results.mapM (resM a.tmps);pure (if h:vs.size=1 then vs[0] else Value.tuple vs)):=rfl
    rw [e,Array.mapM_eq_mapM_toList,← bind_pure_comp]
    simp only [Sem.run_bind,Sem.run_pure,Result.andThen_ok,g1]
    simp
  refine ⟨_,hrun,?_⟩
  rcases h2 with ⟨rfl,h2⟩ | ⟨rfl,h2⟩
  · have hy1:ys.length=1:=by simpa using g2
    rw [dif_pos hy1]
    have:=g3 0 v rfl
    rw [List.getD_eq_getElem?_getD,List.getElem?_eq_getElem (by omega)] at this
    exact this
  · have hy1:ys.length≠1:=by omega
    rw [dif_neg hy1]
    exact .tup vs _ (by simpa using g2) fun j u hj=>by
      have:=g3 j u hj
      rw [List.getD_eq_getElem?_getD] at this
      rw [aaa]
      simpa using this
def mF (tb:TI) (φ:Nat→FuncId) (fn:Func) (nt:Nat) (rs:List Rs) (k:C):Bool:=
  match fn.body with
  | some code=>fn.ntmps == nt && mC tb φ k code && mR tb rs fn.results.toList
  | none=>false
structure Matched (P:Program) (φ:Nat→FuncId) (tb:TI) (N:Env) (J:World→Prop) (p:Prog):Prop where
  ir:∀ f np nt rs k,p f=some (.ir np nt rs k)→f<1000∧(∀ args w,(callFunc (φ f) args).run P w=.ok (.enter (φ f) args) w)∧∃ fn,P.funcs[φ f]?=some fn∧mF tb φ fn nt rs k=true
  pin:∀ f np nt rs k,p f=some (.pin np nt rs k)→f<5000∧(∀ args w,(callFunc (φ f) args).run P w=.ok (.enter (φ f) args) w)∧∃ fn,P.funcs[φ f]?=some fn∧mF tb φ fn nt rs k=true
  intr:∀ f sem,p f=some (.intr sem)→f<5000∧∀ s o,sem s=some o→Good P φ N J (decide (1000≤f)) (φ f) s o
  fin:∀ f np nt rs k,p f=some (.fin np nt rs k)→f<1000∧(∀ args w,(callFunc (φ f) args).run P w=.ok (.enter (φ f) args) w)∧∃ fn,P.funcs[φ f]?=some fn∧mF tb φ fn nt rs k=true
  glb:∀ f np nt rs k,p f=some (.glb np nt rs k)→5000≤f∧(∀ args w,(callFunc (φ f) args).run P w=.ok (.enter (φ f) args) w)∧∃ fn,P.funcs[φ f]?=some fn∧mF tb φ fn nt rs k=true
theorem aba:∀ k:C,k.pinned 0=true
  | .r _=>rfl
  | .ra _ _ _=>rfl
  | .seq a b=>by simp [C.pinned,aba a,aba b]
  | .cond _ a b=>by simp [C.pinned,aba a,aba b]
  | .blk _ c=>by simp [C.pinned,aba c]
  | .loop _ _ _ c=>by simp [C.pinned,aba c]
  | .ex _=>rfl
  | .ret=>rfl
  | .skip=>rfl
  | .any=>rfl
theorem aqa (T:TIok P tb) (hJ:Keep P N J) (hmix:P.follows .mixedOrders=true) {p:Prog} {n:Nat} (ih:Sound P φ N J (evF p n)) {f np nt:Nat} {rs:List Rs} {k:C} {pn:Bool} {pc:Nat} {s:St} {o:Out}
    (hk:k.pinned pc=true) (hpc:pn=true→s.r.length≤pc) (hnp:s.t.length=np) (hcall:∀ args w,(callFunc (φ f) args).run P w=.ok (.enter (φ f) args) w) {fn:Func} (hfn:P.funcs[φ f]?=some fn) (hmf:mF tb φ fn nt rs k=true)
    (hout:∃ ex s',evC (evF p n) n k ⟨s.t++List.replicate (nt - np) .no,s.m,s.r⟩=some (ex,s')∧s'.outP pc rs s.m.length=some o∧(ex=.n∨ex=.r)):Good P φ N J pn (φ f) s o:=by
  obtain ⟨ex,s',e1,e2,e3⟩:=hout
  obtain ⟨q1,q2,q3⟩:=anh e2
  refine ⟨q1,q2,q3,fun c a w h hJw hG S=>.inl ⟨hcall _ _,?_⟩⟩
  have hG':∀ id x,c.G0 id=some x→id<pc:=fun id x hx=>Nat.lt_of_lt_of_le (hG id x hx).2 (hpc (hG id x hx).1)
  unfold mF at hmf
  split at hmf
  · rename_i code hbody
    simp only [Bool.and_eq_true,beq_iff_eq] at hmf
    obtain ⟨⟨hnt,hmc⟩,hmr⟩:=hmf
    refine calls_of_wp hfn hbody ?_
    have S1:Sim φ N c ⟨s.t++List.replicate (nt - np) .no,s.m,s.r⟩ { tmps:=a.tmps++Array.replicate (fn.ntmps - a.tmps.size) undef,defers:=[] } w h:=
      { S with
        nt:=by simp [S.nt,hnp,hnt]
        df:=rfl
        t:=fun j v hj=>by
          rw [aaa]
          by_cases hlt:j<s.t.length
          · rw [List.getElem?_append_left hlt] at hj
            rw [Array.getElem?_append_left (by rw [S.nt];exact hlt),← aaa]
            exact S.t j v hj
          · rw [List.getElem?_append_right (by omega)] at hj
            have:=(List.mem_replicate.1 (List.mem_of_getElem? hj)).2
            rw [this]
            exact .mkno _ }
    refine acu T hJ hJw hmix ih hG' n k code hk hmc S1 e1 fun a' w' h' S'=>?_
    · obtain ⟨v,hv⟩:∃ v,s'.res rs=some v:=by
        unfold St.outP at e2
        split at e2
        · cases e2
        · rename_i v hv;exact ⟨v,hv⟩
      obtain ⟨y,hy1,hy2⟩:=res_ok (fn:=fn) T S' hmr hv
      obtain ⟨h2,S2⟩:=asb S' e2 S.b0len hG' (y:=y) fun v' hv'=>by rw [hv] at hv';cases hv';exact hy2
      have:a'.defers=[]∧∃ v,(results fn a'.tmps).run P w'=.ok v w'∧∃ v_1,Ending.returned v=Ending.returned v_1∧∃ h',Sim φ N c ⟨[o.1],o.2.1,o.2.2⟩ ⟨#[v_1],[]⟩ w' h':=⟨S'.df,y,hy1,y,rfl,h2,S2⟩
      rcases e3 with rfl | rfl <;> exact this
  · cases hmf
theorem amw:∀ (vs:List V) {s s':St} {es:List V} {h:Gh} (f:Nat→Value),Sim φ N c s a w h→(∀ j v,vs[j]?=some v→VOk φ w h v (f j))→frzVs vs s=some (es,s') →
    ∃ h',Frz φ N c s s' a w h h'∧es.length=vs.length∧∀ i e,es[i]?=some e→VOk φ w h' e (f i)
  | [],s,s',es,h,f,S,_,he=>by cases he;exact ⟨h,.refl S,rfl,fun i e hj=>by simp at hj⟩
  | v :: vs,s,s',es,h,f,S,hv,he=>by
    simp only [frzVs] at he
    split at he
    · rename_i v' s1 e1
      split at he
      · rename_i vs' s2 e2
        cases he
        obtain ⟨h1,F1,l1,l2,p1,q1⟩:=alb S (hv 0 v rfl) e1
        obtain ⟨h2,F2,l3,p2⟩:=amw vs (fun j=>f (j+1)) F1.sim (fun j u hj=>(hv (j+1) u (by simpa using hj)).mono F1.le) e2
        refine ⟨h2,F1.trans F2,by simp [l3],fun i e hi=>?_⟩
        cases i with
        | zero=>cases hi;exact q1.mono F2.le
        | succ i=>exact p2 i e (by simpa using hi)
      · cases he
    · cases he
theorem au7 (S:Sim φ N c s a w h) {v v':V} {s':St} {y:Value} (hv:VOk φ w h v y) (he:frzT v s=some (v',s')):∃ h',Sim φ N c s' a w h'∧VOk φ w h' v' y:=by
  unfold frzT at he
  split at he
  · rename_i vs
    split at he
    · rename_i vs' s1 e1
      cases he
      obtain ⟨cc,rfl,hs,hall⟩:=hv.tup_inv
      obtain ⟨h',F,l,p⟩:=amw vs (fun j=>cc.getD j undef) S hall e1
      exact ⟨h',F.sim,.tup vs' cc (by rw [hs];exact l.symm) p⟩
    · cases he
  · obtain ⟨h',F,_,_,_,h2⟩:=alb S hv he
    exact ⟨h',F.sim,h2⟩
theorem avv (T:TIok P tb) (hJ:Keep P N J) (hmix:P.follows .mixedOrders=true) {p:Prog} {n:Nat} (ih:Sound P φ N J (evF p n)) {f np nt:Nat} {rs:List Rs} {k:C} {s:St} {o:Out}
    (hnp:s.t.length=np) (hcall:∀ args w,(callFunc (φ f) args).run P w=.ok (.enter (φ f) args) w) {fn:Func} (hfn:P.funcs[φ f]?=some fn) (hmf:mF tb φ fn nt rs k=true)
    (hout:∃ ex s',evC (evF p n) n k ⟨s.t++List.replicate (nt - np) .no,s.m,s.r⟩=some (ex,s')∧s'.outF rs s.m.length=some o∧(ex=.n∨ex=.r)):Good P φ N J false (φ f) s o:=by
  obtain ⟨ex,s',e1,e2,e3⟩:=hout
  obtain ⟨v,v',s2,hv,hz,e2⟩:∃ v v' s2,s'.res rs=some v∧frzT v s'=some (v',s2)∧(St.mk [v'] s2.m s2.r).out [.t 0] s.m.length=some o:=by
    unfold St.outF at e2
    split at e2
    · cases e2
    · rename_i v hv
      split at e2
      · cases e2
      · rename_i v' s2 hz;exact ⟨v,v',s2,hv,hz,e2⟩
  have e2:(St.mk [v'] s2.m s2.r).outP 0 [.t 0] s.m.length=some o:=e2
  obtain ⟨q1,q2,q3⟩:=anh e2
  refine ⟨q1,q2,q3,fun c a w h hJw hG S=>.inl ⟨hcall _ _,?_⟩⟩
  have hG':∀ id x,c.G0 id=some x→id<0:=fun id x hx=>absurd (hG id x hx).1 (by simp)
  unfold mF at hmf
  split at hmf
  · rename_i code hbody
    simp only [Bool.and_eq_true,beq_iff_eq] at hmf
    obtain ⟨⟨hnt,hmc⟩,hmr⟩:=hmf
    refine calls_of_wp hfn hbody ?_
    have S1:Sim φ N c ⟨s.t++List.replicate (nt - np) .no,s.m,s.r⟩ { tmps:=a.tmps++Array.replicate (fn.ntmps - a.tmps.size) undef,defers:=[] } w h:=
      { S with
        nt:=by simp [S.nt,hnp,hnt]
        df:=rfl
        t:=fun j v hj=>by
          rw [aaa]
          by_cases hlt:j<s.t.length
          · rw [List.getElem?_append_left hlt] at hj
            rw [Array.getElem?_append_left (by rw [S.nt];exact hlt),← aaa]
            exact S.t j v hj
          · rw [List.getElem?_append_right (by omega)] at hj
            have:=(List.mem_replicate.1 (List.mem_of_getElem? hj)).2
            rw [this]
            exact .mkno _ }
    refine acu T hJ hJw hmix ih hG' n k code (aba k) hmc S1 e1 fun a' w' h' S'=>?_
    · obtain ⟨y,hy1,hy2⟩:=res_ok (fn:=fn) T S' hmr hv
      obtain ⟨h2,S2,hv2⟩:=au7 S' hy2 hz
      have S3:Sim φ N c ⟨[v'],s2.m,s2.r⟩ ⟨#[y],[]⟩ w' h2:={ S2 with
        nt:=rfl
        df:=rfl
        t:=fun j u hj=>by
          cases j with
          | zero=>cases hj;exact hv2
          | succ j=>simp at hj }
      obtain ⟨h3,S4⟩:=asb (pc:=0) S3 e2 S.b0len (fun id x hx=>absurd (hG id x hx).1 (by simp)) (y:=y) fun v2 hv'=>by
        have:v'=v2:=Option.some.inj hv'
        rw [← this];exact hv2
      have:a'.defers=[]∧∃ v,(results fn a'.tmps).run P w'=.ok v w'∧∃ v_1,Ending.returned v=Ending.returned v_1∧∃ h',Sim φ N c ⟨[o.1],o.2.1,o.2.2⟩ ⟨#[v_1],[]⟩ w' h':=⟨S'.df,y,hy1,y,rfl,h3,S4⟩
      rcases e3 with rfl | rfl <;> exact this
  · cases hmf
theorem abq (pc:Nat):∀ k:C,k.glob=true→k.pinned pc=true
  | .r _,_=>rfl
  | .ra _ _ _,_=>rfl
  | .seq a b,h=>by simp only [C.glob,Bool.and_eq_true] at h;simp only [C.pinned,abq pc a h.1,abq pc b h.2,Bool.and_self]
  | .cond _ a b,h=>by simp only [C.glob,Bool.and_eq_true] at h;simp only [C.pinned,abq pc a h.1,abq pc b h.2,Bool.and_self]
  | .blk _ c,h=>by simp only [C.glob] at h;simp only [C.pinned,abq pc c h]
  | .loop _ _ _ c,h=>by simp only [C.glob,Bool.and_eq_true] at h;simp only [C.pinned,abq pc c h.2,h.1,Bool.true_or,Bool.and_self]
  | .ex _,_=>rfl
  | .ret,_=>rfl
  | .skip,_=>rfl
  | .any,_=>rfl
theorem aub (T:TIok P tb) (hJ:Keep P N J) (hmix:P.follows .mixedOrders=true) {p:Prog} {n:Nat} (ih:Sound P φ N J (evF p n)) {f np nt:Nat} {rs:List Rs} {k:C} {s:St} {ts:List V} {o:Out}
    (hk:k.glob=true) (hnp:ts.length=np) (hcall:∀ args w,(callFunc (φ f) args).run P w=.ok (.enter (φ f) args) w) {fn:Func} (hfn:P.funcs[φ f]?=some fn) (hmf:mF tb φ fn nt rs k=true)
    (hout:∃ ex s' v,evC (evF p n) n k ⟨ts++List.replicate (nt - np) .no,s.m,s.r⟩=some (ex,s')∧s'.res rs=some v∧o=(v,s'.m,s'.r)∧(ex=.n∨ex=.r)):GoodG P φ N J (φ f) ⟨ts,s.m,s.r⟩ o:=by
  obtain ⟨ex,s',vv,e1,e2,rfl,e3⟩:=hout
  refine fun c a w h hJw S=>.inl ⟨hcall _ _,?_⟩
  have hG':∀ id x,c.G0 id=some x→id<s.r.length:=fun id x hx=>Nat.lt_of_not_le fun hge=>by
    have h1:=S.gN id hge
    rw [S.g0 id x hx] at h1
    cases h1
  unfold mF at hmf
  split at hmf
  · rename_i code hbody
    simp only [Bool.and_eq_true,beq_iff_eq] at hmf
    obtain ⟨⟨hnt,hmc⟩,hmr⟩:=hmf
    refine calls_of_wp hfn hbody ?_
    have S1:Sim φ N c ⟨ts++List.replicate (nt - np) .no,s.m,s.r⟩ { tmps:=a.tmps++Array.replicate (fn.ntmps - a.tmps.size) undef,defers:=[] } w h:=
      { S with
        nt:=by simp [S.nt,hnp,hnt]
        df:=rfl
        t:=fun j v hj=>by
          have hsz:a.tmps.size=ts.length:=S.nt
          rw [aaa]
          by_cases hlt:j<ts.length
          · rw [List.getElem?_append_left hlt] at hj
            rw [Array.getElem?_append_left (by omega),← aaa]
            exact S.t j v hj
          · rw [List.getElem?_append_right (by omega)] at hj
            have:=(List.mem_replicate.1 (List.mem_of_getElem? hj)).2
            rw [this]
            exact .mkno _ }
    refine acu T hJ hJw hmix ih hG' n k code (abq _ k hk) hmc S1 e1 fun a' w' h' S'=>?_
    obtain ⟨y,hy1,hy2⟩:=res_ok (fn:=fn) T S' hmr e2
    have S2:Sim φ N c ⟨[vv],s'.m,s'.r⟩ ⟨#[y],[]⟩ w' h':=
      { S' with
        nt:=rfl
        df:=rfl
        t:=fun j u hj=>by
          cases j with
          | zero=>cases hj;exact hy2
          | succ j=>simp at hj }
    have:a'.defers=[]∧∃ v,(results fn a'.tmps).run P w'=.ok v w'∧∃ v_1,Ending.returned v=Ending.returned v_1∧∃ h',Sim φ N c ⟨[vv],s'.m,s'.r⟩ ⟨#[v_1],[]⟩ w' h':=⟨S'.df,y,hy1,y,rfl,h',S2⟩
    rcases e3 with rfl | rfl <;> exact this
  · cases hmf
theorem sound (T:TIok P tb) (hJ:Keep P N J) (hmix:P.follows .mixedOrders=true) {p:Prog} (M:Matched P φ tb N J p):∀ n,Sound P φ N J (evF p n)
  | 0,f,s,o,he=>by simp [evF] at he
  | n+1,f,s,o,he=>by
    have ih:=sound T hJ hmix M n
    simp only [evF] at he
    split at he
    · cases he
    · rename_i sem hp
      obtain ⟨h5,hh⟩:=M.intr f sem hp
      rw [if_neg (by omega)]
      exact hh s o he
    · rename_i np nt rs k hp
      split at he
      · rename_i hnp
        obtain ⟨hlo,hcall,fn,hfn,hmf⟩:=M.ir f np nt rs k hp
        rw [if_neg (by omega)]
        refine aqa T hJ hmix ih (pc:=0) (aba k) (fun hpn=>absurd (of_decide_eq_true hpn) (by omega)) hnp hcall hfn hmf ?_
        split at he
        · rename_i s' e;exact ⟨.n,s',e,he,.inl rfl⟩
        · rename_i s' e;exact ⟨.r,s',e,he,.inr rfl⟩
        · cases he
      · cases he
    · rename_i np nt rs k hp
      split at he
      · rename_i hnp
        obtain ⟨h5,hcall,fn,hfn,hmf⟩:=M.pin f np nt rs k hp
        rw [if_neg (by omega)]
        refine aqa T hJ hmix ih (pc:=s.r.length) hnp.2 (fun _=>Nat.le_refl _) hnp.1 hcall hfn hmf ?_
        split at he
        · rename_i s' e;exact ⟨.n,s',e,he,.inl rfl⟩
        · rename_i s' e;exact ⟨.r,s',e,he,.inr rfl⟩
        · cases he
      · cases he
    · rename_i np nt rs k hp
      split at he
      · rename_i ts hts
        split at he
        · rename_i hnp
          obtain ⟨h5,hcall,fn,hfn,hmf⟩:=M.glb f np nt rs k hp
          rw [if_pos h5]
          refine ⟨ts,hts,aub T hJ hmix ih hnp.2 hnp.1 hcall hfn hmf ?_⟩
          split at he
          · rename_i s' e
            obtain ⟨v,hv,rfl⟩:=Option.map_eq_some_iff.1 he
            exact ⟨.n,s',v,e,hv,rfl,.inl rfl⟩
          · rename_i s' e
            obtain ⟨v,hv,rfl⟩:=Option.map_eq_some_iff.1 he
            exact ⟨.r,s',v,e,hv,rfl,.inr rfl⟩
          · cases he
        · cases he
      · cases he
    · rename_i np nt rs k hp
      split at he
      · rename_i hnp
        obtain ⟨hlo,hcall,fn,hfn,hmf⟩:=M.fin f np nt rs k hp
        rw [if_neg (by omega),decide_eq_false (by omega)]
        refine avv T hJ hmix ih hnp hcall hfn hmf ?_
        split at he
        · rename_i s' e;exact ⟨.n,s',e,he,.inl rfl⟩
        · rename_i s' e;exact ⟨.r,s',e,he,.inr rfl⟩
        · cases he
      · cases he
end
end Go.VS
end
