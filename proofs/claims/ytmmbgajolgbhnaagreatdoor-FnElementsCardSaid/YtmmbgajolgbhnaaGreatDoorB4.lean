/-
  What the functions of the program answer (second part): links, groups, the walk.
-/
import Derived.Test.YtmmbgajolgbhnaaGreatDoorB3
set_option linter.all false
section
namespace Go.VS
structure Pr.Ow (p:Pr):Prop where
  ok:p.Ok
  ft:p.su.fits p.dirty.length=true
theorem asp {l:List Pg}:Sorted l ↔ l.Pairwise fun a b=>a.block<b.block:=by
  rw [List.pairwise_iff_getElem]
  exact ⟨fun h i j hi hj hij=>h i j hi hj hij,fun h i j hi hj hij=>h i j hi hj hij⟩
def putPg (l:List Pg) (k:Int) (d:Bs):List Pg:=
  if (pgAt l k).isSome=true then l.set (lowI l k) ⟨k,d⟩ else l.take (lowI l k)++⟨k,d⟩ :: l.drop (lowI l k)
theorem asc {l:List Pg} (hs:Sorted l) {k:Int} (h:(pgAt l k).isSome=true):∃ hlt:lowI l k<l.length,l[lowI l k].block=k:=by
  rw [ap3 hs] at h
  cases hx:l[lowI l k]? with
  | none=>rw [hx] at h;cases h
  | some y=>
    rw [hx] at h
    simp only at h
    split at h
    · rename_i h0
      obtain ⟨h1,h2⟩:=List.getElem?_eq_some_iff.1 hx
      refine ⟨h1,?_⟩
      rw [h2]
      unfold cmpI at h0
      split at h0
      · cases h0
      · split at h0
        · cases h0
        · omega
    · cases h
theorem asd {l:List Pg} (hs:Sorted l) {k:Int} (h:(pgAt l k).isSome=false):∀ x,x ∈ l.drop (lowI l k)→k<x.block:=by
  intro x hx
  obtain ⟨h1,h2⟩:=ahj l k
  obtain ⟨j,hj,rfl⟩:=List.getElem_of_mem hx
  rw [List.length_drop] at hj
  rw [List.getElem_drop]
  have hlt:lowI l k<l.length:=by omega
  have h3:=h2 hlt
  have h4:l[lowI l k].block≠k:=by
    intro e
    rw [ap3 hs,List.getElem?_eq_getElem hlt] at h
    simp [cmpI,e] at h
  by_cases e:j=0
  · subst e;simp only [Nat.add_zero];omega
  · have:=hs (lowI l k) (lowI l k+j) hlt (by omega) (by omega)
    omega
theorem avh {l:List Pg} {k:Int}:∀ x,x ∈ l.take (lowI l k)→x.block<k:=by
  intro x hx
  obtain ⟨h1,h2⟩:=ahj l k
  obtain ⟨j,hj,rfl⟩:=List.getElem_of_mem hx
  rw [List.length_take] at hj
  rw [List.getElem_take]
  exact h1 j (by omega) (by omega)
theorem ank {l:List Pg} (hs:Sorted l) (k:Int) (d:Bs):Sorted (putPg l k d):=by
  unfold putPg
  split
  · rename_i h
    obtain ⟨hlt,hk⟩:=asc hs h
    have e:(l.set (lowI l k) ⟨k,d⟩).map Pg.block=l.map Pg.block:=by
      rw [List.map_set]
      have:(⟨k,d⟩:Pg).block=(l.map Pg.block)[lowI l k]'(by simpa using hlt):=by simp [hk]
      rw [this]
      exact List.set_getElem_self _
    have h1:(l.map Pg.block).Pairwise (·<·):=by rw [List.pairwise_map];exact asp.1 hs
    rw [← e,List.pairwise_map] at h1
    exact asp.2 h1
  · rename_i h
    have h:=Bool.eq_false_iff.2 h
    have hp:=asp.1 hs
    rw [asp,List.pairwise_append]
    refine ⟨hp.sublist (List.take_sublist _ _),List.pairwise_cons.2 ⟨fun x hx=>asd hs h x hx,hp.sublist (List.drop_sublist _ _)⟩,?_⟩
    intro a ha b hb
    have h1:=avh a ha
    rcases List.mem_cons.1 hb with rfl | hb
    · exact h1
    · have:=asd hs h b hb;omega
theorem asi {l:List Pg} {k:Int} {d:Bs} {x:Pg} (h:x ∈ putPg l k d):x=⟨k,d⟩∨x ∈ l:=by
  unfold putPg at h
  split at h
  · rcases List.mem_or_eq_of_mem_set h with h | h
    · exact .inr h
    · exact .inl h
  · rcases List.mem_append.1 h with h | h
    · exact .inr (List.mem_of_mem_take h)
    · rcases List.mem_cons.1 h with h | h
      · exact .inl h
      · exact .inr (List.mem_of_mem_drop h)
theorem ash (l:List Pg) (k:Int) (d:Bs):(putPg l k d).length=if (pgAt l k).isSome=true then l.length else l.length+1:=by
  have:=ary l k
  unfold putPg
  split
  · simp
  · simp;omega
def Pr.setP (p:Pr) (k:Int) (d:Bs):Int × Pr:=
  if (pgAt p.dirty k).isSome=true∨p.su.fits (p.dirty.length+1)=true then (0,{ p with dirty:=putPg p.dirty k d }) else (5,p)
theorem Su.fits_le {s:Su} {n:Nat} (h:s.fits n=true):n≤60:=by
  simp only [Su.fits,Bool.or_eq_true,decide_eq_true_eq,Bool.and_eq_true,Tag_eq] at h
  omega
theorem Pr.Ow.setP {p:Pr} (h:p.Ow) {k:Int} {d:Bs} (hk:0≤k∧k≤255) (hd:d.length=64):(p.setP k d).2.Ow:=by
  unfold Pr.setP
  split
  · rename_i hc
    have hl:=ash p.dirty k d
    have hf:p.su.fits (putPg p.dirty k d).length=true:=by
      rw [hl]
      split
      · exact h.ft
      · rename_i h0
        have:=hc.resolve_left h0
        rw [Int.natCast_add];exact this
    have h60:=Su.fits_le hf
    exact ⟨⟨h.ok.nb,h.ok.np,h.ok.bl,h.ok.pd,h.ok.su,h.ok.sb,h.ok.lg,⟨by show (putPg p.dirty k d).length≤256;omega,ank h.ok.dt.2.1 k d,fun x hx=>by
      rcases asi hx with rfl | hx
      · exact ⟨hk,hd⟩
      · exact h.ok.dt.2.2 x hx⟩,⟨h.ok.sm.sb,h.ok.sm.sp,h.ok.sm.sl,by show (putPg p.dirty k d).length≤lim;unfold lim;omega⟩⟩,hf⟩
  · exact h
@[simp] theorem Pr.setP_su {p:Pr} {k:Int} {d:Bs}:(p.setP k d).2.su=p.su:=by unfold Pr.setP;split <;> rfl
@[simp] theorem Pr.setP_disk {p:Pr} {k:Int} {d:Bs}:(p.setP k d).2.disk=p.disk:=by unfold Pr.setP;split <;> rfl
def mg:List Pg→List Pg→List Pg
  | [],bs=>bs
  | a :: as,[]=>a :: as
  | a :: as,b :: bs=>if a.block<b.block then a :: mg as (b :: bs) else b :: mg (if a.block=b.block then as else a :: as) bs
termination_by a b=>a.length+b.length
decreasing_by
  · simp
  · split <;> simp <;> omega
end Go.VS
end
section
namespace Go.VS
set_option maxRecDepth 8000
structure MgI (a b:List Pg) (x:Nat × Nat × List Pg):Prop where
  e:mg a b=x.2.2++mg (a.drop x.1) (b.drop x.2.1)
  i:x.1≤a.length
  j:x.2.1≤b.length
  o:x.2.2.length≤x.1+x.2.1
end Go.VS
end
section
namespace Go.VS
theorem auk (n:Int):0≤IntKind.u8.wrap n∧IntKind.u8.wrap n≤255:=by
  simp only [IntKind.wrap,IntKind.bits,IntKind.signed]
  simp
  omega
def bitS (x:UInt8) (j:Int) (b:Bool):UInt8:=UInt8.ofNat (if b=true then borI .u8 (x.toNat:Int) (shlI .u8 1 j) else bandnI .u8 (x.toNat:Int) (shlI .u8 1 j)).toNat
theorem av9 {n:Int} (h:0≤n∧n≤255):((UInt8.ofNat n.toNat).toNat:Int)=n:=by
  have:(UInt8.ofNat n.toNat).toNat=n.toNat % 256:=UInt8.toNat_ofNat'
  rw [this];omega
def markB:Nat→Bs→Int→Bool→Bs
  | 0,a,_,_=>a
  | n+1,a,k,b=>markB n (a.set (4+k / 8).toNat (bitS (a.getD (4+k / 8).toNat 0) (k % 8) b)) (k+1) b
theorem anb (b:Bool):∀ (n:Nat) (a:Bs) (k:Int),(markB n a k b).length=a.length
  | 0,_,_=>rfl
  | n+1,a,k=>by rw [markB,anb b n,List.length_set]
def bump (l:List (Int × Int)):List (Int × Int):=l.set (l.length - 1) ((l.getD (l.length - 1) default).1,(l.getD (l.length - 1) default).2+1)
def runsF (p:Pr):Nat→Int→Bool→List (Int × Int)→List (Int × Int)
  | 0,_,_,l=>l
  | n+1,k,op,l=>if p.alloc k=true then runsF p n (k+1) false l else if op=true then runsF p n (k+1) true (bump l) else runsF p n (k+1) true (l++[(k,1)])
def Pr.runs (p:Pr):List (Int × Int):=runsF p (p.su.blocks - (3+p.su.log)).toNat (3+p.su.log) false []
structure RunsI (p:Pr) (k:Int) (op:Bool) (l:List (Int × Int)):Prop where
  b:∀ x,x ∈ l→3+p.su.log≤x.1∧1≤x.2∧x.1+x.2≤k
  o:op=true→l≠[]
  n:(l.length:Int)≤k - (3+p.su.log)
  e:op=true→∀ x,l.getLast?=some x→x.1+x.2=k
theorem auu {l:List (Int × Int)} {x:Int × Int}:bump (l++[x])=l++[(x.1,x.2+1)]:=by
  unfold bump
  have h1:(l++[x]).length - 1=l.length:=by simp
  have h2:(l++[x]).getD l.length default=x:=by rw [List.getD_eq_getElem?_getD,List.getElem?_append_right (Nat.le_refl _)];simp
  rw [h1,h2,List.set_append_right _ _ (Nat.le_refl _)]
  simp
theorem avz {α:Type} {l:List α} (h:l≠[]):∃ a x,l=a++[x]:=by
  rcases List.eq_nil_or_concat l with rfl | ⟨a,x,rfl⟩
  · exact absurd rfl h
  · exact ⟨a,x,by simp⟩
theorem RunsI.stop {p:Pr} {k:Int} {op:Bool} {l:List (Int × Int)} (h:RunsI p k op l):RunsI p (k+1) false l:=
  ⟨fun x hx=>by have:=h.b x hx;omega,(fun e=>by cases e),by have:=h.n;omega,(fun e=>by cases e)⟩
theorem RunsI.more {p:Pr} {k:Int} {l:List (Int × Int)} (h:RunsI p k true l):RunsI p (k+1) true (bump l):=by
  obtain ⟨a,x,rfl⟩:=avz (h.o rfl)
  rw [auu]
  have hx:=h.b x (by simp)
  have he:=h.e rfl x (by simp)
  refine ⟨fun y hy=>?_,fun _=>by simp,by have:=h.n;simp at this ⊢;omega,fun _ y hy=>?_⟩
  · rcases List.mem_append.1 hy with hy | hy
    · have:=h.b y (by simp [hy]);omega
    · simp at hy;subst hy;simp only;omega
  · simp at hy;subst hy;simp only;omega
theorem RunsI.new {p:Pr} {k:Int} {op:Bool} {l:List (Int × Int)} (h:RunsI p k op l) (hk:3+p.su.log≤k):RunsI p (k+1) true (l++[(k,1)]):=by
  refine ⟨fun y hy=>?_,fun _=>by simp,by have:=h.n;simp;omega,fun _ y hy=>?_⟩
  · rcases List.mem_append.1 hy with hy | hy
    · have:=h.b y hy;omega
    · simp at hy;subst hy;simp only;omega
  · simp at hy;subst hy;simp only
theorem aip (p:Pr):∀ (n:Nat) (k:Int) (op:Bool) (l:List (Int × Int)),3+p.su.log≤k→RunsI p k op l→∃ op',RunsI p (k+n) op' (runsF p n k op l)
  | 0,k,op,l,_,h=>⟨op,by simpa [runsF] using h⟩
  | n+1,k,op,l,hk,h=>by
    have e:k+((n+1:Nat):Int)=k+1+n:=by omega
    rw [runsF,e]
    split
    · exact aip p n (k+1) _ _ (by omega) h.stop
    · split
      · rename_i h1;subst h1;exact aip p n (k+1) _ _ (by omega) h.more
      · exact aip p n (k+1) _ _ (by omega) (h.new hk)
theorem Pr.runs_ok {p:Pr} (h:p.Ok):p.runs.length≤256∧∀ x,x ∈ p.runs→3+p.su.log≤x.1∧1≤x.2∧x.1+x.2≤p.su.blocks:=by
  have b:=h.sub
  obtain ⟨op,h1⟩:=aip p (p.su.blocks - (3+p.su.log)).toNat (3+p.su.log) false [] (Int.le_refl _) ⟨(fun x hx=>by cases hx),(fun e=>by cases e),by simp,(fun e=>by cases e)⟩
  have e:3+p.su.log+((p.su.blocks - (3+p.su.log)).toNat:Int)=p.su.blocks:=by omega
  rw [e] at h1
  exact ⟨by have:=h1.n;unfold Pr.runs;omega,h1.b⟩
def bestF (n:Int):List (Int × Int)→Int × Int→Int × Int
  | [],b=>b
  | r :: l,b=>bestF n l (if n≤r.2∧(b.2=0∨r.2<b.2) then r else b)
theorem ami (n:Int):∀ (l:List (Int × Int)) (b:Int × Int),bestF n l b=b∨bestF n l b ∈ l∧n≤(bestF n l b).2
  | [],b=>.inl rfl
  | r :: l,b=>by
    rw [bestF]
    rcases ami n l (if n≤r.2∧(b.2=0∨r.2<b.2) then r else b) with h | ⟨h,h2⟩
    · rw [h]
      split
      · rename_i hc;exact .inr ⟨by simp,hc.1⟩
      · exact .inl rfl
    · exact .inr ⟨by simp [h],h2⟩
def Pr.best (p:Pr) (n:Int):Int × Int:=bestF n p.runs (0,0)
theorem Pr.best_ok {p:Pr} (h:p.Ok) (n:Int):(p.best n=(0,0))∨(n≤(p.best n).2∧3+p.su.log≤(p.best n).1∧1≤(p.best n).2∧(p.best n).1+(p.best n).2≤p.su.blocks):=by
  unfold Pr.best
  rcases ami n p.runs (0,0) with e | ⟨e,e2⟩
  · exact .inl e
  · exact .inr ⟨e2,(p.runs_ok h).2 _ e⟩
def Pr.markP (p:Pr) (k:Int) (n:Nat) (b:Bool):Int × Pr:=p.setP (2+p.su.log) (markB n p.area k b)
theorem Pr.Ow.area {p:Pr} (h:p.Ow):0≤2+p.su.log∧2+p.su.log≤255:=by
  have:=h.ok.sub;omega
theorem Pr.Ow.markP {p:Pr} (h:p.Ow) (k:Int) (n:Nat) (b:Bool):(p.markP k n b).2.Ow:=h.setP h.area (by rw [anb,p.area_len h.ok])
def Pr.allocP (p:Pr) (n:Nat):Int × Int × Pr:=if (p.best n).2=0 then (0,5,p) else ((p.best n).1,(p.markP (p.best n).1 n true).1,(p.markP (p.best n).1 n true).2)
theorem Pr.Ow.allocP {p:Pr} (h:p.Ow) (n:Nat):(p.allocP n).2.2.Ow:=by
  unfold Pr.allocP
  split
  · exact h
  · exact h.markP _ _ _
@[simp] theorem Pr.markP_su {p:Pr} {k:Int} {n:Nat} {b:Bool}:(p.markP k n b).2.su=p.su:=Pr.setP_su
@[simp] theorem Pr.markP_disk {p:Pr} {k:Int} {n:Nat} {b:Bool}:(p.markP k n b).2.disk=p.disk:=Pr.setP_disk
@[simp] theorem Pr.allocP_su {p:Pr} {n:Nat}:(p.allocP n).2.2.su=p.su:=by unfold Pr.allocP;split <;> simp
@[simp] theorem Pr.allocP_disk {p:Pr} {n:Nat}:(p.allocP n).2.2.disk=p.disk:=by unfold Pr.allocP;split <;> simp
theorem Pr.setP_code {p:Pr} {k:Int} {d:Bs}:(p.setP k d).1=0∨(p.setP k d).1=5:=by unfold Pr.setP;split <;> simp
theorem Pr.allocP_code {p:Pr} {n:Nat}:(p.allocP n).2.1=0∨(p.allocP n).2.1=5:=by
  unfold Pr.allocP;split
  · exact .inr rfl
  · exact Pr.setP_code
theorem Pr.allocP_at {p:Pr} (h:p.Ok) {n:Nat} (h1:1≤n) (hc:(p.allocP n).2.1=0):3+p.su.log≤(p.allocP n).1∧(p.allocP n).1+n≤p.su.blocks:=by
  unfold Pr.allocP at hc ⊢
  split at hc
  · cases hc
  · rename_i h0
    rw [if_neg h0]
    rcases p.best_ok h n with e | e
    · rw [e] at h0;exact absurd rfl h0
    · simp only;omega
def Pr.relP (p:Pr) (k:Int):Int × Pr:=if p.data k=false then (2,p) else if bitE p.area k=false then (6,p) else p.markP k 1 false
theorem Pr.Ow.relP {p:Pr} (h:p.Ow) (k:Int):(p.relP k).2.Ow:=by
  unfold Pr.relP
  split
  · exact h
  · split
    · exact h
    · exact h.markP _ _ _
@[simp] theorem Pr.relP_su {p:Pr} {k:Int}:(p.relP k).2.su=p.su:=by unfold Pr.relP;split;rfl;split;rfl;simp
@[simp] theorem Pr.relP_disk {p:Pr} {k:Int}:(p.relP k).2.disk=p.disk:=by unfold Pr.relP;split;rfl;split;rfl;simp
def Pr.relsP (p:Pr):List Int→Int × Pr
  | []=>(0,p)
  | k :: l=>if (p.relP k).1=0 then (p.relP k).2.relsP l else p.relP k
theorem Pr.Ow.relsP:∀ (l:List Int) {p:Pr},p.Ow→(p.relsP l).2.Ow
  | [],_,h=>h
  | k :: l,p,h=>by
    rw [Pr.relsP];split
    · exact Pr.Ow.relsP l (h.relP k)
    · exact h.relP k
end Go.VS
end
section
namespace Go.VS
set_option maxRecDepth 8000
theorem agk {x:Bs} {i:Nat} (h:i<x.length):(bytesV x)[i]?.getD .no=.i .u8 ((x[i]?.getD 0).toNat:Int):=by
  unfold bytesV
  rw [List.getElem?_map,List.getElem?_eq_getElem h];rfl
theorem ahz (x:Bs) (i:Nat) (c:UInt8):(bytesV x).set i (.i .u8 (c.toNat:Int))=bytesV (x.set i c):=by
  unfold bytesV;rw [List.map_set]
theorem ahx (x:Bs) {n:Nat} (h:x.length=n):(bytesV x).take n=bytesV x:=List.take_of_length_le (by simp [h])
structure MkI (n:Nat) (a:Bs) (k:Int) (b:Bool) (x:Nat × Int × Bs):Prop where
  e:markB n a k b=markB x.1 x.2.2 x.2.1 b
  s:x.2.1+x.1=k+n
  l:k≤x.2.1
  z:x.2.2.length=64
structure FrI (p:Pr) (x:Nat × Int × Bool × List (Int × Int)):Prop where
  e:p.runs=runsF p x.1 x.2.1 x.2.2.1 x.2.2.2
  k:x.2.1+x.1=p.su.blocks
  l:3+p.su.log≤x.2.1
  i:RunsI p x.2.1 x.2.2.1 x.2.2.2
theorem FrI.bd {p:Pr} (h:p.Ok) {x:Nat × Int × Bool × List (Int × Int)} (hx:FrI p x):x.2.2.2.length≤256∧∀ r,r ∈ x.2.2.2→0≤r.1∧r.1≤256∧1≤r.2∧r.2≤256:=by
  have b:=h.sub
  have h1:=hx.k
  have h2:=hx.i.n
  refine ⟨by omega,fun r hr=>?_⟩
  have:=hx.i.b r hr
  omega
end Go.VS
end
section
namespace Go.VS
set_option maxRecDepth 8000
structure BsI (n:Int) (rs:List (Int × Int)) (b:Int × Int) (i:Nat) (x:Int × Int):Prop where
  e:bestF n rs b=bestF n (rs.drop i) x
  z:x.1=0 ↔ x.2=0
end Go.VS
end
section
namespace Go.VS
def byteB (n:Int):UInt8:=UInt8.ofNat (IntKind.u8.wrap n).toNat
theorem ai0 (n:Int):((byteB n).toNat:Int)=IntKind.u8.wrap n:=av9 (auk n)
def leB (n:Int) (k:Nat):Bs:=(List.range k).map fun i:Nat=>byteB (shrI .i64 n (8*(i:Int)))
@[simp] theorem leB_len (n:Int) (k:Nat):(leB n k).length=k:=by simp [leB]
theorem shr0 (n:Int):shrI .i64 n 0=n:=by simp [shrI]
theorem aln (n:Int):leB n 1=[byteB n]:=by simp [leB,shr0]
theorem ahi (n:Int) (k:Nat):leB n (k+1)=leB n k++[byteB (shrI .i64 n (8*(k:Int)))]:=by
  unfold leB;rw [List.range_succ,List.map_append];rfl
theorem ahv (n:Int):IntKind.u8.wrap n=n % 256:=by
  simp only [IntKind.wrap,IntKind.bits,IntKind.signed];simp
theorem amk (n:Int):byteB (bandI .i64 n 255)=byteB n:=by
  have h:IntKind.u8.wrap (bandI .i64 n 255)=IntKind.u8.wrap n:=by
    have e:(BitVec.ofInt IntKind.i64.bits n &&& BitVec.ofInt IntKind.i64.bits 255).toNat=(n % 256).toNat:=by
      rw [BitVec.toNat_and,show (BitVec.ofInt IntKind.i64.bits 255).toNat=2 ^ 8 - 1 from rfl,Nat.and_two_pow_sub_one_eq_mod,show IntKind.i64.bits=64 from rfl,BitVec.toNat_ofInt]
      omega
    unfold bandI
    rw [e,wrap_i64 (by omega) (by omega),ahv,ahv]
    omega
  unfold byteB
  rw [h]
def encM (m:Ms):Bs:=leB m.kind 1++leB m.flags 1++leB m.data.length 1++m.data
def encHd (h:Hd):Bs:=leB h.kind 1++leB h.refs 2++leB h.msgs.length 1
def encH (h:Hd):Bs:=encHd h++h.msgs.flatMap encM
@[simp] theorem encHd_len (h:Hd):(encHd h).length=4:=by simp [encHd]
structure Hd.Sm (h:Hd):Prop where
  n:h.msgs.length≤24
  d:∀ m,m ∈ h.msgs→m.data.length≤200
def chLen (n:Nat):Nat:=(n+59) / 60
def chPg (next:Int) (form:Bs):Bs:=
  leB next 2++leB (min 60 form.length:Nat) 2++form.take (min 60 form.length)++List.replicate (60 - min 60 form.length) 0
theorem atf (next:Int) (form:Bs):(chPg next form).length=64:=by
  simp [chPg];omega
def Pr.storeP (p:Pr):List Int→Bs→Int × Pr
  | [],_=>(0,p)
  | k :: l,form=>if (p.setP k (chPg (l.head?.getD 0) form)).1=0 then (p.setP k (chPg (l.head?.getD 0) form)).2.storeP l (form.drop (min 60 form.length)) else p.setP k (chPg (l.head?.getD 0) form)
def Pr.growP (p:Pr):Nat→List Int→Int × List Int × Pr
  | 0,l=>(0,l,p)
  | n+1,l=>if (p.allocP 1).2.1=0 then (p.allocP 1).2.2.growP n (l++[(p.allocP 1).1]) else ((p.allocP 1).2.1,[],(p.allocP 1).2.2)
def DataL (p:Pr) (l:List Int):Prop:=∀ k,k ∈ l→3+p.su.log≤k∧k+1≤p.su.blocks
theorem DataL.bd {p:Pr} (h:p.Ok) {l:List Int} (hl:DataL p l) {k:Int} (hk:k ∈ l):0≤k∧k≤255:=by
  have:=hl k hk
  have:=h.sub
  omega
theorem Pr.Ow.storeP:∀ (l:List Int) (form:Bs) {p:Pr},p.Ow→DataL p l→(p.storeP l form).2.Ow
  | [],_,_,h,_=>h
  | k :: l,form,p,h,hl=>by
    have hk:=hl.bd h.ok (List.mem_cons_self ..)
    have h1:=h.setP (k:=k) (d:=chPg (l.head?.getD 0) form) hk (atf _ _)
    rw [Pr.storeP];split
    · exact Pr.Ow.storeP l _ h1 fun x hx=>by rw [Pr.setP_su];exact hl x (by simp [hx])
    · exact h1
theorem Pr.storeP_su:∀ (l:List Int) (form:Bs) {p:Pr},(p.storeP l form).2.su=p.su∧(p.storeP l form).2.disk=p.disk
  | [],_,_=>⟨rfl,rfl⟩
  | k :: l,form,p=>by
    rw [Pr.storeP];split
    · have:=Pr.storeP_su l (form.drop (min 60 form.length)) (p:=(p.setP k (chPg (l.head?.getD 0) form)).2)
      simpa using this
    · simp
theorem Pr.growP_ok:∀ (n:Nat) (l:List Int) {p:Pr},p.Ow→DataL p l→(p.growP n l).2.2.Ow∧(p.growP n l).2.2.su=p.su∧(p.growP n l).2.2.disk=p.disk ∧
    (((p.growP n l).1=0∧DataL p (p.growP n l).2.1∧(p.growP n l).2.1.length=l.length+n)∨(p.growP n l).1=5∧(p.growP n l).2.1=[])
  | 0,l,p,h,hl=>⟨h,rfl,rfl,.inl ⟨rfl,hl,rfl⟩⟩
  | n+1,l,p,h,hl=>by
    have h1:=h.allocP 1
    rw [Pr.growP];split
    · rename_i hc
      have ha:=Pr.allocP_at h.ok (n:=1) (by omega) hc
      obtain ⟨i1,i2,i3,i4⟩:=Pr.growP_ok n (l++[(p.allocP 1).1]) h1 (by
        intro k hk
        rw [Pr.allocP_su]
        rcases List.mem_append.1 hk with hk | hk
        · exact hl k hk
        · simp only [List.mem_singleton,Tag_eq] at hk;subst hk;omega)
      rw [Pr.allocP_su] at i2
      rw [Pr.allocP_disk] at i3
      refine ⟨i1,i2,i3,?_⟩
      rcases i4 with ⟨j1,j2,j3⟩ | j
      · exact .inl ⟨j1,fun k hk=>by have:=j2 k hk;rw [Pr.allocP_su] at this;exact this,by rw [j3];simp;omega⟩
      · exact .inr j
    · rename_i hc
      exact ⟨h1,Pr.allocP_su,Pr.allocP_disk,.inr ⟨(Pr.allocP_code (p:=p) (n:=1)).resolve_left hc,rfl⟩⟩
theorem Pr.relsP_su:∀ (l:List Int) {p:Pr},(p.relsP l).2.su=p.su∧(p.relsP l).2.disk=p.disk
  | [],_=>⟨rfl,rfl⟩
  | k :: l,p=>by
    rw [Pr.relsP];split
    · have:=Pr.relsP_su l (p:=(p.relP k).2);simpa using this
    · simp
def Pr.wrH (p:Pr) (k:Int) (h:Hd):Int × Pr:=
  match chainF p 257 k [] [] with
  | none=>(10,p)
  | some x=>if (decHdr x.2).isNone=true then (10,p) else
    if (p.relsP (x.1.drop (chLen (encH h).length))).1=0 then
      if ((p.relsP (x.1.drop (chLen (encH h).length))).2.growP (chLen (encH h).length - x.1.length) (x.1.take (chLen (encH h).length))).1=0 then
        ((p.relsP (x.1.drop (chLen (encH h).length))).2.growP (chLen (encH h).length - x.1.length) (x.1.take (chLen (encH h).length))).2.2.storeP
          ((p.relsP (x.1.drop (chLen (encH h).length))).2.growP (chLen (encH h).length - x.1.length) (x.1.take (chLen (encH h).length))).2.1 (encH h)
      else (((p.relsP (x.1.drop (chLen (encH h).length))).2.growP (chLen (encH h).length - x.1.length) (x.1.take (chLen (encH h).length))).1,
        ((p.relsP (x.1.drop (chLen (encH h).length))).2.growP (chLen (encH h).length - x.1.length) (x.1.take (chLen (encH h).length))).2.2)
    else p.relsP (x.1.drop (chLen (encH h).length))
def Pr.mkH (p:Pr) (h:Hd):Int × Int × Pr:=
  if (p.growP (chLen (encH h).length) []).1=0 then
    ((p.growP (chLen (encH h).length) []).2.1.head?.getD 0,((p.growP (chLen (encH h).length) []).2.2.storeP (p.growP (chLen (encH h).length) []).2.1 (encH h)).1,((p.growP (chLen (encH h).length) []).2.2.storeP (p.growP (chLen (encH h).length) []).2.1 (encH h)).2)
  else (0,(p.growP (chLen (encH h).length) []).1,(p.growP (chLen (encH h).length) []).2.2)
theorem ai1 {p:Pr}:∀ (f:Nat) (k:Int) (bl:List Int) (fm:Bs) (x:List Int × Bs),DataL p bl→chainF p f k bl fm=some x→DataL p x.1∧x.1≠[]
  | 0,_,_,_,_,_,h=>by cases h
  | f+1,k,bl,fm,x,hb,h=>by
    have hun:chainF p (f+1) k bl fm=(if p.alloc k=true∧¬k ∈ bl then
        match chainB (p.get k) with
        | none=>none
        | some x=>if x.1=0 then some (bl++[k],fm++x.2) else chainF p f x.1 (bl++[k]) (fm++x.2)
      else none):=rfl
    rw [hun] at h
    split at h
    · rename_i hc
      have hd:DataL p (bl++[k]):=by
        intro y hy
        rcases List.mem_append.1 hy with hy | hy
        · exact hb y hy
        · simp only [List.mem_singleton,Tag_eq] at hy;subst hy
          have:=hc.1
          simp only [Pr.alloc,Pr.data,Bool.and_eq_true,decide_eq_true_eq] at this
          omega
      split at h
      · cases h
      · split at h
        · cases h;exact ⟨hd,by simp⟩
        · exact ai1 f _ _ _ x hd h
    · cases h
theorem Pr.Ow.wrH {p:Pr} (h:p.Ow) (k:Int) (hd:Hd):(p.wrH k hd).2.Ow∧(p.wrH k hd).2.su=p.su∧(p.wrH k hd).2.disk=p.disk:=by
  unfold Pr.wrH
  split
  · exact ⟨h,rfl,rfl⟩
  · rename_i x hx
    have hdt:=(ai1 257 k [] [] x (fun y hy=>by cases hy) hx).1
    split
    · exact ⟨h,rfl,rfl⟩
    · have r1:=Pr.Ow.relsP (x.1.drop (chLen (encH hd).length)) h
      have r2:=Pr.relsP_su (x.1.drop (chLen (encH hd).length)) (p:=p)
      have hdt2:DataL (p.relsP (x.1.drop (chLen (encH hd).length))).2 (x.1.take (chLen (encH hd).length)):=fun y hy=>by rw [r2.1];exact hdt y (List.mem_of_mem_take hy)
      have g:=Pr.growP_ok (chLen (encH hd).length - x.1.length) _ r1 hdt2
      split
      · split
        · rename_i hg
          rcases g.2.2.2 with g4 | g4
          · refine ⟨Pr.Ow.storeP _ _ g.1 (fun y hy=>by rw [g.2.1];exact g4.2.1 y hy),?_,?_⟩
            · rw [(Pr.storeP_su _ _).1,g.2.1,r2.1]
            · rw [(Pr.storeP_su _ _).2,g.2.2.1,r2.2]
          · rw [g4.1] at hg;cases hg
        · exact ⟨g.1,by rw [g.2.1,r2.1],by rw [g.2.2.1,r2.2]⟩
      · exact ⟨r1,r2⟩
theorem Pr.Ow.mkH {p:Pr} (h:p.Ow) (hd:Hd):(p.mkH hd).2.2.Ow∧(p.mkH hd).2.2.su=p.su∧(p.mkH hd).2.2.disk=p.disk:=by
  unfold Pr.mkH
  have g:=Pr.growP_ok (chLen (encH hd).length) [] h (fun y hy=>by cases hy)
  split
  · rename_i hg
    rcases g.2.2.2 with g4 | g4
    · refine ⟨Pr.Ow.storeP _ _ g.1 (fun y hy=>by rw [g.2.1];exact g4.2.1 y hy),?_,?_⟩
      · rw [(Pr.storeP_su _ _).1,g.2.1]
      · rw [(Pr.storeP_su _ _).2,g.2.2.1]
    · rw [g4.1] at hg;cases hg
  · exact ⟨g.1,g.2.1,g.2.2.1⟩
end Go.VS
end
section
namespace Go.VS
set_option maxRecDepth 8000
def leA (n:Int) (k i:Nat):Bs:=leB n i++List.replicate (k - i) 0
theorem atz (n:Int) (k:Nat):bytesV (leA n k 0)=List.replicate k (.i .u8 0):=by
  unfold leA bytesV leB
  simp
theorem avc (n:Int) (k:Nat):leA n k k=leB n k:=by unfold leA;simp
theorem avd {n:Int} {k i:Nat} (h:i≤k):(leA n k i).length=k:=by unfold leA;simp;omega
theorem aty {n:Int} {k i:Nat} (h:i<k):(leA n k i).set i (byteB (shrI .i64 n (8*(i:Int))))=leA n k (i+1):=by
  unfold leA
  obtain ⟨m,hm⟩:∃ m,k - i=m+1:=⟨k - i - 1,by omega⟩
  rw [hm,show k - (i+1)=m by omega,ahi,List.replicate_succ,List.set_append_right _ _ (by simp),leB_len,Nat.sub_self]
  simp
theorem alv (n:Int) (k:Nat) (hk:k≤8) (K:Out→Prop):Call prog 255 ⟨[.i .i64 n,.i .i64 k],[],[]⟩ K=K (.s (leB n k),[],[]):=by
  refine Zc (f:=255) rfl rfl (by decide) ?_
  have hl:k≤lim:=by unfold lim;omega
  simp -implicitDefEqProofs [hl]
  refine WL_for (fun i=>⟨sp 25 [(0,.i .i64 n),(5,.sl 0 0 k false),(10,.i .i64 k),(11,.i .i64 i)],[],[.row 1 false (bytesV (leA n k i))]⟩) k (fun _=>True) _ (by simp -implicitDefEqProofs [atz]) trivial ?_
  intro i hi _
  by_cases hlt:i<k
  · have hw:=wrap_i64 (n:=(i:Int)+1) (by omega) (by omega)
    have hw8:=wrap_i64 (n:=8*(i:Int)) (by omega) (by omega)
    have h8:¬ 8*(i:Int)<0:=by omega
    have hg:=agk (x:=leA n k i) (i:=i) (by rw [avd hi];exact hlt)
    have hs:=ahz (leA n k i) i (byteB (shrI .i64 n (8*(i:Int))))
    rw [ai0,aty hlt] at hs
    simp -implicitDefEqProofs [hlt,hw,hw8,h8,hg,hs,Next]
  · obtain rfl:i=k:=by omega
    rw [avc]
    have ht:=ahx (leB n i) (leB_len n i)
    simp -implicitDefEqProofs [cvsV,ht]
theorem afe (n:Int) (K:Out→Prop):Call prog 268 ⟨[.i .i64 n],[],[]⟩ K=K (.s (leB n 1),[],[]):=by
  refine Zc (f:=268) rfl rfl (by decide) ?_
  rw [aln]
  simp -implicitDefEqProofs [cvsV,vbytes,byteB]
theorem aoo (n:Int) (k:Nat) (hk:k≤8) (K:Out→Prop):Call prog 250 ⟨[.i .i64 n,.i .i64 k,.b false],[],[]⟩ K=K (.s (leB n k),[],[]):=by
  refine Zc (f:=250) rfl rfl (by decide) ?_
  simp -implicitDefEqProofs
  refine WL_for (fun i=>⟨sp 30 [(0,.i .i64 n),(1,.i .i64 k),(2,.b false),(7,.s (leB n i)),(8,.i .i64 i)],[],[]⟩) k (fun _=>True) _ (by simp -implicitDefEqProofs [leB]) trivial ?_
  intro i hi _
  by_cases hlt:i<k
  · have hw:=wrap_i64 (n:=(i:Int)+1) (by omega) (by omega)
    have hw8:=wrap_i64 (n:=8*(i:Int)) (by omega) (by omega)
    have hw9:=wrap_u64 (n:=8*(i:Int)) (by omega) (by omega)
    have h8:¬ 8*(i:Int)<0:=by omega
    have e:=fun K=>afe (bandI .i64 (shrI .i64 n (8*(i:Int))) 255) K
    rw [aln,amk] at e
    have h9:i+1≤lim:=by unfold lim;omega
    simp -implicitDefEqProofs [hlt,hw,hw8,hw9,h8,h9,e,ahi,Next]
  · obtain rfl:i=k:=by omega
    simp -implicitDefEqProofs
theorem an2 (c:UInt8) (n:Nat) (h:n≤lim) (K:Out→Prop):Call prog 286 ⟨[.s [c],.i .i64 n],[],[]⟩ K=K (.s (List.replicate n c),[],[]):=by
  rw [abw (p:=prog) (f:=286) rfl]
  have:nRepeat ⟨[.s [c],.i .i64 n],[],[]⟩=some (.s (List.replicate n c),[],[]):=by
    simp only [nRepeat]
    rw [if_pos ⟨by omega,by omega,by simpa using h⟩]
    have:(List.replicate (n:Int).toNat [c]).flatten=List.replicate n c:=by
      rw [Int.toNat_natCast]
      clear h
      induction n with
      | zero=>rfl
      | succ n ih=>rw [List.replicate_succ,List.flatten_cons,ih];rfl
    rw [this]
  rw [this,ac3]
theorem akr (n:Nat) (h:n≤lim) (K:Out→Prop):Call prog 277 ⟨[.i .i64 n],[],[]⟩ K=K (.s (List.replicate n 0),[],[]):=by
  refine Zc (f:=277) rfl rfl (by decide) ?_
  have e:=fun K=>an2 0 n h K
  unfold lim at h
  have w:=wrap_i64 (n:=(n:Int)) (by omega) (by omega)
  simp -implicitDefEqProofs [e,w]
theorem ace (a b:Int) (K:Out→Prop):Call prog 249 ⟨[.i .i64 a,.i .i64 b],[],[]⟩ K=K (.i .i64 (min a b),[],[]):=by
  refine Zc (f:=249) rfl rfl (by decide) ?_
  by_cases h:a<b
  · have:min a b=a:=by omega
    simp -implicitDefEqProofs [h,this]
  · have:min a b=b:=by omega
    simp -implicitDefEqProofs [h,this]
theorem ak6 (a:V) (ha:isSelf a=true) (K:Out→Prop):Call prog 178 ⟨[.ptr 0 0],[[a,.nil]],[]⟩ K=K (.tup [],[[.ptr 0 0,.nil]],[]):=by
  rw [abw (p:=prog) (f:=178) rfl]
  have:nCopyCheck ⟨[.ptr 0 0],[[a,.nil]],[]⟩=some (.tup [],[[.ptr 0 0,.nil]],[]):=by
    simp only [nCopyCheck,ha,if_true]
  rw [this,ac3]
end Go.VS
end
section
namespace Go.VS
set_option maxRecDepth 8000
structure GwI (p0:Pr) (N:Nat) (l0:List Int) (many:Nat) (x:Nat × List Int × Pr):Prop where
  e:p0.growP N l0=x.2.2.growP x.1 x.2.1
  o:x.2.2.Ow
  l:x.2.1.length+x.1≤1000
  n:x.1=many - x.2.1.length
structure StI (p0:Pr) (l:List Int) (form0:Bs) (x:Nat × Bs × Pr):Prop where
  e:p0.storeP l form0=x.2.2.storeP (l.drop x.1) x.2.1
  o:x.2.2.Ow
  i:x.1≤l.length
  f:x.2.1.length≤5000
  s:x.2.2.su=p0.su
end Go.VS
end
section
namespace Go.VS
set_option maxRecDepth 8000
section
variable {p p':Pr} {k:Int} {hh h0:Hd} {bl:List Int} {fm:Bs} {n:Nat}
end
end Go.VS
end
section
namespace Go.VS
set_option maxRecDepth 8000
section
variable (q:Bool) (l:List Pg) (s:List Bs) (K:Out→Prop)
end
theorem Pr.Ow.of {p:Pr} (h:p.ok=true):p.Ow:=by
  refine ⟨Pr.ok_facts h,?_⟩
  simp only [Pr.ok,Bool.and_eq_true,Tag_eq] at h
  exact h.2
end Go.VS
end
