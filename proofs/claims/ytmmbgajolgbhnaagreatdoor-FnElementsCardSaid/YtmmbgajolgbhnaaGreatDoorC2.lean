/-
  Library functions: what the machine does.
-/
import Derived.Shelf.Strings.Builder1
import Derived.Test.YtmmbgajolgbhnaaGreatDoorProg
import Derived.Test.YtmmbgajolgbhnaaGreatDoorVxM
import Derived.Test.YtmmbgajolgbhnaaGreatDoorVxSh
import Derived.Test.YtmmbgajolgbhnaaGreatDoorA4
import Derived.Test.YtmmbgajolgbhnaaGreatDoorB1
set_option linter.all false
section
namespace Go.Proofs
open Go.Shelf Go.RowKit
theorem Tryz.sizeB:∃ j,Tryz.prog.info? 86=some j:=by
  have h:(Tryz.prog.info? 86).isSome=true:=by kernel_rfl
  exact Option.isSome_iff_exists.1 h
set_option maxHeartbeats 1000000 in
set_option maxRecDepth 100000 in
theorem Tryz.copyCheck_used (b o:Nat) (w:World) (h0:w.cell? ⟨b,o,none⟩=some (.pointer (some ⟨b,o,none⟩))):
    Calls Tryz.prog 118 #[.pointer (some ⟨b,o,none⟩)] w fun e w'=>e=.returned (.tuple #[])∧w'=w:=by
  obtain ⟨j,hj⟩:=Tryz.sizeB
  go_enter Tryz.func118,Tryz.ntmps118
  go_wp2
  rw [Lib.run_neq_ptr_same w _ Tryz.underlying84 hj]
  go_wp2
  go_end0
  exact ⟨rfl,rfl⟩
set_option maxHeartbeats 1000000 in
set_option maxRecDepth 100000 in
theorem Tryz.copyCheck_fresh (b:Nat) (w:World) (h0:w.cell? ⟨b,0,none⟩=some (.pointer none)) (hsh:w.shape? b=some (86,2)) (hfz:w.frozen? ⟨b,0,none⟩=false):
    Calls Tryz.prog 118 #[.pointer (some ⟨b,0,none⟩)] w fun e w'=>e=.returned (.tuple #[])∧w'=w.setCell ⟨b,0,none⟩ (.pointer (some ⟨b,0,none⟩)):=by
  have hsz:(Tryz.prog.info? 86).map (·.size)=some 2:=by kernel_rfl
  obtain ⟨j,hj,hjs⟩:=Option.map_eq_some_iff.1 hsz
  go_enter Tryz.func118,Tryz.ntmps118
  go_wp2
  rw [Lib.run_to_unsafe w ⟨b,0,none⟩ Tryz.underlying84 Tryz.underlying167 hj (by rw [hjs];decide) hsh (Nat.zero_lt_succ 1)]
  simp only [Result.andThen]
  rw [Oper.upon_value]
  go_wp2
  rw [run_callFunc_extern Tryz.func168 (by kernel_rfl) (by kernel_rfl) (by kernel_rfl) (e:=Extern.AbiNoEscape.same) (by kernel_rfl)]
  rw [Lib.run_noEscape]
  simp only [Result.andThen]
  rw [Oper.upon_value]
  go_wp2
  rw [Lib.run_from_unsafe w ⟨b,0,none⟩ Tryz.underlying167 Tryz.underlying84 hj hsh (by kernel_rfl)]
  simp only [Result.andThen]
  rw [Oper.upon_value]
  go_wp2
  go_end0
  exact ⟨rfl,rfl⟩
set_option maxHeartbeats 1000000 in
set_option maxRecDepth 100000 in
theorem Tryz.String_some (b o g cap size:Nat) (l:List UInt8) (w:World) (hc:w.cell? ⟨b,o+1,none⟩=some (.slice (some ⟨g,0,none⟩) l.length cap)) (h0:l≠[]) (hcap:l.length≤cap) (hsz:l.length≤size) (h63:size≤maxLen) (hsh:w.shape? g=some (5,size))
    (hcell:∀ j x,l[j]?=some x→w.cell? ⟨g,j,none⟩=some (.int .u8 x.toNat)):
    Calls Tryz.prog 65 #[.pointer (some ⟨b,o,none⟩)] w fun e w'=>e=.returned (.string ⟨l.toArray⟩)∧w'=w.drew.freeze ⟨g,0,none⟩ l.length:=by
  have hl0:l.length≠0:=by simpa using h0
  have c1:w.drew.cell? ⟨b,o+1,none⟩=some (.slice (some ⟨g,0,none⟩) l.length cap):=hc
  have hSD:(Builtin.unsafeSliceData_ #[38] 145 #[.slice (some ⟨g,0,none⟩) l.length cap]).run Tryz.prog w.drew=.ok (.pointer (some ⟨g,0,none⟩)) w.drew:=
    Lib.run_unsafeSliceData_row _ _ _ _ _ _ (by omega)
  have hUS:(Builtin.unsafeString_ #[145,3] 9 #[.pointer (some ⟨g,0,none⟩),.int .i64 l.length]).run Tryz.prog w.drew=.ok (.string ⟨l.toArray⟩) (w.drew.freeze ⟨g,0,none⟩ l.length):=by
    refine Lib.run_unsafeString_row w.drew 145 3 9 5 Tryz.underlying145 (by kernel_rfl) g size hsh l h0 hsz (by unfold maxLen at h63;omega) ?_
    intro j x hx
    have:=hcell j x hx
    unfold Addr.add
    by_cases hj:j=0
    · subst hj;simpa using this
    · simpa [hj] using this
  go_enter Tryz.func65,Tryz.ntmps65
  go_wp2
  go_region
  all_goals (go_wp2;go_ret;exact ⟨rfl,rfl⟩)
theorem al6 (W:World) (A:Option Addr) (cap:Nat) (ts:Array TypeId) (hA:∀ a,A=some a→∃ sh,W.shape? a.block=some sh) (hty:Tryz.prog.underlying 145=some (.pointer 5)):∃ p W',(Builtin.unsafeSliceData_ ts 145 #[.slice A 0 cap]).run Tryz.prog W=.ok (.pointer p) W'∧(W'=W∨∃ o,W'=W.alloc o):=by
  cases A with
  | none=>exact ⟨none,W,rfl,.inl rfl⟩
  | some a=>
    by_cases hc:cap=0
    · subst hc
      obtain ⟨sh,hsh⟩:=hA a rfl
      exact ⟨_,_,Lib.run_unsafeSliceData_zero W ts 145 5 hty a 0 sh hsh,.inr ⟨_,rfl⟩⟩
    · exact ⟨some a,W,Lib.run_unsafeSliceData_row _ _ _ _ _ _ hc,.inl rfl⟩
set_option maxHeartbeats 1000000 in
set_option maxRecDepth 100000 in
theorem Tryz.String_none (b o cap:Nat) (A:Option Addr) (w:World) (hA:∀ a,A=some a→∃ sh,w.shape? a.block=some sh) (hb:b<w.heap.size) (hc:w.cell? ⟨b,o+1,none⟩=some (.slice A 0 cap)):
    Calls Tryz.prog 65 #[.pointer (some ⟨b,o,none⟩)] w fun e w'=>e=.returned (.string ⟨#[]⟩)∧Below w.heap.size w w':=by
  have c1:w.drew.cell? ⟨b,o+1,none⟩=some (.slice A 0 cap):=hc
  obtain ⟨p,W',hSD,hW⟩:=al6 w.drew A cap #[38] hA Tryz.underlying145
  have hB:Below w.heap.size w W':=by
    rcases hW with rfl | ⟨ob,rfl⟩
    · exact Below.drew (Below.refl _ w)
    · exact (Below.drew (Below.refl _ w)).alloc (Nat.le_refl _) _
  have c2:W'.cell? ⟨b,o+1,none⟩=some (.slice A 0 cap):=(hB.cell (p:=⟨b,o+1,none⟩) hb).trans hc
  have hUS:(Builtin.unsafeString_ #[145,3] 9 #[.pointer p,.int .i64 0]).run Tryz.prog W'=.ok (.string .empty) W':=Lib.run_unsafeString_none W' _ _ _ p
  go_enter Tryz.func65,Tryz.ntmps65
  go_wp2
  go_region
  all_goals (go_wp2;go_ret;exact ⟨rfl,hB⟩)
end Go.Proofs
end
section
namespace Go.VS
open Go Go.Proofs Go.RowKit
section
variable {φ:Nat→FuncId} {N:Env} {c:Cx} {a a':Act} {w:World} {h:Gh} {t t':List V} {m:List (List V)} {r:List Rw}
theorem Sim.slots (S:Sim φ N c ⟨t,m,r⟩ a w h) (h1:a'.tmps.size=t'.length) (h2:a'.defers=[]) (h3:∀ j v,t'[j]?=some v→VOk φ w h v (a'.tmps.getD j undef)):Sim φ N c ⟨t',m,r⟩ a' w h:=
  { S with nt:=h1,df:=h2,t:=h3 }
theorem Sim.slot1 {v:V} {y:Value} (S:Sim φ N c ⟨t,m,r⟩ a w h) (h3:VOk φ w h v y):Sim φ N c ⟨[v],m,r⟩ ⟨#[y],[]⟩ w h:=
  S.slots rfl rfl fun j u hj=>by
    cases j with
    | zero=>cases hj;exact h3
    | succ j=>simp at hj
theorem act1 {x:V} (S:Sim φ N c ⟨[x],m,r⟩ a w h):∃ y,a=⟨#[y],[]⟩∧VOk φ w h x y:=by
  obtain ⟨⟨l⟩,ds⟩:=a
  have hs:l.length=1:=S.nt
  obtain ⟨y,rfl⟩:=List.length_eq_one_iff.1 hs
  have hd:ds=[]:=S.df
  subst hd
  exact ⟨y,rfl,S.t 0 x rfl⟩
theorem act2 {x x2:V} (S:Sim φ N c ⟨[x,x2],m,r⟩ a w h):∃ y y2,a=⟨#[y,y2],[]⟩∧VOk φ w h x y∧VOk φ w h x2 y2:=by
  obtain ⟨⟨l⟩,ds⟩:=a
  have hs:l.length=2:=S.nt
  rcases l with _ | ⟨y,_ | ⟨y2,_ | ⟨_,_⟩⟩⟩ <;> simp at hs
  have hd:ds=[]:=S.df
  subst hd
  exact ⟨y,y2,rfl,S.t 0 x rfl,S.t 1 x2 rfl⟩
end
section
variable {φ:Nat→FuncId} {N:Env} {c:Cx} {s:St} {a:Act} {w w':World} {h:Gh}
theorem Sim.below (S:Sim φ N c s a w h) (B:Below w.heap.size w w'):Sim φ N c s a w' h:=by
  have F:Fr (fun _ _=>False) w w':=⟨B.os,B.tape,B.output,B.size,fun b hb=>.inl (B.block b hb)⟩
  have hle:h.Le h w w':=.fr F S.pl fun b o x=>⟨fun e=>e,S.rb b o x⟩
  refine { S with t:=fun j v hj=>(S.t j v hj).mono hle,m:=?_,r:=?_,fr:=S.fr.trans F (fun _ _ _ e=>e.elim),rb:=fun b o x=>Nat.lt_of_lt_of_le (S.rb b o x) B.size }
  · intro id cs hc
    obtain ⟨b,base,hb,hk⟩:=S.m id cs hc
    exact ⟨b,base,hb,abx F hle (fun _ _ _ e=>e) hk⟩
  · intro id z fz xs hx
    obtain ⟨g,hg,hk⟩:=S.r id z fz xs hx
    exact ⟨g,hg,abe F hle (fun _ _ _ _ e=>e) hk⟩
end
end Go.VS
end
section
namespace Go.VS
open Go Go.Proofs Go.RowKit
theorem av7 {P:Program} {ts:Array TypeInfo} (h:P.types=ts):TIok P fun t=>ts[t]?:=⟨fun t i e=>by rw [h];exact e⟩
theorem tiok:TIok Tryz.prog tbS:=av7 (by unfold Tryz.prog Tryz.progTables;rfl)
def onlyAt (ts:Array TypeInfo) (f:TypeDesc→Bool) (k:TypeId):Bool:=(List.range ts.size).all fun T=>match ts[T]? with | some i=>!f i.desc || T == k | none=>true
theorem ar8 {ts:Array TypeInfo} {f:TypeDesc→Bool} {k:TypeId} (h:onlyAt ts f k=true) {T:TypeId} {i:TypeInfo} (hi:ts[T]?=some i) (hf:f i.desc=true):T=k:=by
  have:=List.all_eq_true.1 h T (List.mem_range.2 (Array.getElem?_eq_some_iff.1 hi).1)
  rw [hi] at this
  simpa [hf] using this
theorem aqf:Tryz.prog.types=Tryz.types:=by unfold Tryz.prog Tryz.progTables;rfl
theorem ar9 {P:Program} {ts:Array TypeInfo} (e:P.types=ts) {f:TypeDesc→Bool} {k:TypeId} (h:onlyAt ts f k=true) {T:TypeId} {i:TypeInfo} (hi:P.types[T]?=some i) (hf:f i.desc=true):T=k:=by
  subst e;exact ar8 h hi hf
theorem ub_205 {T:TypeId} (h:Ub Tryz.prog T):T=86:=by
  obtain ⟨i,h1,h2⟩:=h
  exact ar9 aqf (f:=isBld) (by decide +kernel) h1 h2
theorem u8_5 {T:TypeId} (h:U8 Tryz.prog T):T=5:=by
  obtain ⟨i,h1,h2⟩:=h
  exact ar9 aqf (f:=isU8) (by decide +kernel) h1 h2
section
variable {φ:Nat→FuncId} {N:Env} {c:Cx} {a:Act} {w w':World} {h:Gh}
theorem Sim.self {x y:V} {r:List Rw} {b:Nat} {T:TypeId} {fr:Nat × Nat} {cc:Array Value} (S:Sim φ N c ⟨[.ptr 0 0],[[x,y]],r⟩ a w h) (hB:h.B 0=some (b,0,2)) (hh:w.heap[b]?=some (.cells cc T fr)) (hs:2≤cc.size):
    Sim φ N c ⟨[.ptr 0 0],[[.ptr 0 0,y]],r⟩ a (w.setCell ⟨b,0,none⟩ (.pointer (some ⟨b,0,none⟩))) h:=by
  obtain ⟨b',base',hB',cc',T',fr',k1,k2,k3,k4,k5⟩:=S.m 0 _ rfl
  rw [hB] at hB'
  have e1:b=b'∧0=base':=by simpa using hB'
  obtain ⟨rfl,rfl⟩:=e1
  rw [hh] at k1;cases k1
  have U:=Upd.setCell (o:=0) hh (.pointer (some ⟨b,0,none⟩))
  refine S.setBlk (id:=0) (cs:=[x,y]) (cs':=[.ptr 0 0,y]) rfl hB rfl U (fun j hj=>?_) fun hle=>?_
  · rw [Array.getElem?_setIfInBounds_ne (by simp at hj;omega)]
  · refine ⟨_,T,fr,U.new,by rw [U.len];simpa using k2,fun j v hj=>?_,k4,fun j hj=>?_⟩
    · cases j with
      | zero=>
        cases hj
        rw [aaa,Array.getElem?_setIfInBounds_self_of_lt (by omega)]
        exact ⟨.ptr 0 0 b 0 2 hB,rfl⟩
      | succ j=>
        have hj':[x,y][j+1]?=some v:=hj
        have:=(k3 (j+1) v hj').mono hle
        rw [aaa,Array.getElem?_setIfInBounds_ne (by omega),← aaa]
        exact this
    · cases j with
      | zero=>cases hj
      | succ j=>
        rw [U.len]
        exact k5 (j+1) hj
end
theorem aj0 {W:World} (s:St) (o:Out) (he:nCopyCheck s=some o):Good Tryz.prog phi ⟨W.heap.size,Tryz.prog⟩ (oldJ W) false 118 s o:=by
  have key:∀ (a y:V) (r:List Rw),isSelf a=true→(y=.nil∨∃ n tg,y=.sl 0 0 n tg)→Good Tryz.prog phi ⟨W.heap.size,Tryz.prog⟩ (oldJ W) false 118 ⟨[.ptr 0 0],[[a,y]],r⟩ (.tup [],[[.ptr 0 0,y]],r):=by
    intro a y r ha hy
    refine ⟨Nat.le_refl _,rfl,?_,fun cx act w h hJ _ S=>?_⟩
    · rcases hy with rfl | ⟨n,tg,rfl⟩ <;> simp [okRet]
    obtain ⟨p,rfl,vp⟩:=act1 S
    obtain ⟨b,base,len,hB,rfl⟩:=vp.ptr_inv
    obtain ⟨b',base',hB',cc,T,fr,k1,k2,k3,k4,k5⟩:=S.m 0 _ rfl
    rw [hB] at hB'
    have e1:b=b'∧base=base'∧len=2:=by simpa using hB'
    obtain ⟨rfl,rfl,rfl⟩:=e1
    have c0:=(k3 0 _ rfl).1
    simp only [Nat.add_zero] at c0 k2 ⊢
    simp only [List.length_cons,List.length_nil] at k2 k4
    have hfr:=k4 (by omega)
    subst hfr
    have hcell:w.cell? ⟨b,base,none⟩=some (cc.getD base undef):=aa7 k1 (by omega)
    have tup:∀ {w' h'},VOk phi w' h' (.tup []) (.tuple #[]):=.tup [] #[] rfl fun j v hj=>by simp at hj
    unfold isSelf at ha
    split at ha
    · 
      obtain ⟨q1,q2,q3⟩:=k5 0 rfl
      have q1:=ub_205 q1
      subst q1
      have hb0:base=0:=by omega
      subst hb0
      have e0:cc.getD 0 undef=.pointer none:=by
        have inv:∀ {q:Value},KOk phi w h .bz q→q=.pointer none:=by
          intro q hk
          cases hk with
          | l hl=>cases hl with | pl hp=>cases hp;rfl
        exact inv c0
      rw [e0] at hcell
      refine .inl ⟨Tryz.call118 _ _,(Tryz.copyCheck_fresh b w hcell (by simp [World.shape?,k1,q2]) (by simp [World.frozen?,k1])).mono ?_⟩
      rintro e w' ⟨rfl,rfl⟩
      exact ⟨_,rfl,h,(S.self hB k1 (by omega)).slot1 tup⟩
    · 
      have e0:cc.getD base undef=.pointer (some ⟨b,base,none⟩):=by
        obtain ⟨b2,base2,len2,hB2,e⟩:=(VOk.k c0).ptr_inv
        rw [hB] at hB2
        have e1:b=b2∧base=base2:=by simp at hB2;exact ⟨hB2.1,hB2.2.1⟩
        obtain ⟨rfl,rfl⟩:=e1
        rw [e];rfl
      rw [e0] at hcell
      refine .inl ⟨Tryz.call118 _ _,(Tryz.copyCheck_used b base w hcell).mono ?_⟩
      rintro e w' ⟨rfl,rfl⟩
      exact ⟨_,rfl,h,S.slot1 tup⟩
    · cases ha
  unfold nCopyCheck at he
  split at he
  · split at he
    · rename_i ha;cases he;exact key _ _ _ ha (.inl rfl)
    · cases he
  · split at he
    · rename_i ha;cases he;exact key _ _ _ ha (.inr ⟨_,_,rfl⟩)
    · cases he
  · cases he
section
variable {φ:Nat→FuncId} {N:Env} {c:Cx} {s:St} {a:Act} {w w':World} {h:Gh}
theorem aoc (w:World) (b n:Nat) (k:Nat):(w.freeze ⟨b,0,none⟩ n).heap[k]?=w.heap[k]?∨(k=b∧∃ cc T fr fr',w.heap[k]?=some (.cells cc T fr)∧(w.freeze ⟨b,0,none⟩ n).heap[k]?=some (.cells cc T fr')):=by
  unfold World.freeze
  split
  · exact .inl rfl
  · simp only [Array.getElem?_modify]
    by_cases hk:b=k
    · subst hk
      rw [if_pos rfl]
      cases hh:w.heap[b]? with
      | none=>exact .inl rfl
      | some o=>
        cases o with
        | cells cc T fr=>exact .inr ⟨rfl,cc,T,fr,_,rfl,rfl⟩
        | _=>exact .inl rfl
    · rw [if_neg hk];exact .inl rfl
theorem aod (w:World) (b n:Nat):(w.freeze ⟨b,0,none⟩ n).os=w.os∧(w.freeze ⟨b,0,none⟩ n).tape=w.tape∧(w.freeze ⟨b,0,none⟩ n).output=w.output∧(w.freeze ⟨b,0,none⟩ n).heap.size=w.heap.size:=by
  unfold World.freeze
  split <;> simp
theorem Sim.shut (S:Sim φ N c s a w h) {b n:Nat} (hR:∀ o,h.Rl b o) (hO:(∀ o,c.O b o)∨c.w0.heap.size≤b):Sim φ N c s a (w.freeze ⟨b,0,none⟩ n) h:=by
  obtain ⟨f1,f2,f3,f4⟩:=aod w b n
  have hh:=aoc w b n
  have F:Fr (fun k _=>k=b) w (w.freeze ⟨b,0,none⟩ n):=⟨f1,f2,f3,by rw [f4];exact Nat.le_refl _,fun k hk=>by
    rcases hh k with e | ⟨rfl,cc,T,fr,fr',e1,e2⟩
    · exact .inl e
    · exact .inr (.inl ⟨cc,T,fr,cc,fr',e1,e2,rfl,fun _ _=>rfl,.inr fun _=>rfl⟩)⟩
  have hc:∀ k o,(w.freeze ⟨b,0,none⟩ n).cell? ⟨k,o,none⟩=w.cell? ⟨k,o,none⟩:=fun k o=>by
    rcases hh k with e | ⟨rfl,cc,T,fr,fr',e1,e2⟩
    · simp only [World.cell?,e]
    · simp only [World.cell?,e1,e2]
  have hle:h.Le h w (w.freeze ⟨b,0,none⟩ n):=⟨fun _ _ x=>x,fun _ _ x=>x,fun b o _=>hc b o,fun b o _=>hc b o,fun _ _ x=>x,fun _ _ x=>x⟩
  refine { S with t:=fun j v hj=>(S.t j v hj).mono hle,m:=?_,r:=?_,fr:=S.fr.trans F (fun x o hx e=>?_),rb:=fun b o x=>by rw [f4];exact S.rb b o x }
  · intro id cs hcs
    obtain ⟨b1,base,hb,cc,T,fr,k1,k2,k3,k4,k5⟩:=S.m id cs hcs
    refine ⟨b1,base,hb,cc,T,?_⟩
    rcases hh b1 with e | ⟨rfl,cc',T',fr0,fr',e1,e2⟩
    · exact ⟨fr,by rw [e];exact k1,k2,fun j v hj=>(k3 j v hj).mono hle,k4,k5⟩
    · rw [k1] at e1;cases e1
      refine ⟨fr',e2,k2,fun j v hj=>(k3 j v hj).mono hle,fun h0=>?_,k5⟩
      exact absurd (.inl ⟨id,base,base+cs.length,⟨cs,hcs,hb,rfl⟩,Nat.le_refl _,by omega⟩) (S.sR b1 base (hR base))
  · intro id z fz xs hx
    obtain ⟨g,hg,hrw⟩:=S.r id z fz xs hx
    rcases hrw with ⟨h0,h1,h2,h3,h4⟩ | ⟨h0,h1,b1,cap,es,clock,hl,e1,e2,e3⟩
    rotate_left
    · refine ⟨g,hg,.inr ⟨h0,h1,b1,cap,es,clock,hl,?_,e2,fun j x hj=>?_⟩⟩
      · rcases hh b1 with e | ⟨rfl,cc',T',fr0,fr',q1,q2⟩
        · rw [e];exact e1
        · rw [e1] at q1;cases q1
      · obtain ⟨e,kv,vv,f1,f2,f3,f4,f5⟩:=e3 j x hj
        exact ⟨e,kv,vv,f1,f2,f3.mono hle.kp hle.p,f4.mono hle.kp hle.p,f5⟩
    refine ⟨g,hg,.inl ⟨h0,h1,h2,h3,?_⟩⟩
    cases hl:g.loc with
    | none=>rw [hl] at h4;exact h4
    | some bc=>
      obtain ⟨b1,cap⟩:=bc
      rw [hl] at h4
      obtain ⟨cc,T,fr,e1,e2,e3,e4,e5,e6,e7⟩:=h4
      have e7':∀ j v,(flat xs)[j]?=some v→POk (w.freeze ⟨b,0,none⟩ n) h.Rp v (cc.getD j undef)∧(cc.getD j undef).oneCell'=true:=fun j v hv=>⟨(e7 j v hv).1.mono hle.kp hle.p,(e7 j v hv).2⟩
      rcases hh b1 with e | ⟨rfl,cc',T',fr0,fr',q1,q2⟩
      · exact ⟨cc,T,fr,by rw [e];exact e1,e2,e3,e4,e5,e6,e7'⟩
      · rw [e1] at q1;cases q1
        refine ⟨cc,T,fr',q2,e2,e3,⟨e4.1,e4.2.1,fun _ hf=>?_⟩,fun hf=>?_,e6,e7'⟩
        · subst hf
          exact absurd (.inr ⟨id,z,xs,g,cap,hx,hg,hl⟩) (S.sR b1 0 (hR 0))
        · subst hf
          exact absurd (.inr ⟨id,z,xs,g,cap,hx,hg,hl⟩) (S.sR b1 0 (hR 0))
  · subst e
    rcases hO with h1 | h1
    · exact h1 o
    · omega
end
theorem akm:∀ {xs:List V} {l:List UInt8},tbytes xs=some l→xs=bytesT l
  | [],l,e=>by cases e;rfl
  | v :: xs,l,e=>by
    cases v <;> simp only [tbytes] at e <;> (try (cases e;done))
    split at e
    · rename_i hn
      obtain ⟨l',h1,rfl⟩:=Option.map_eq_some_iff.1 e
      rw [akm h1]
      show _=V.bt _ :: bytesT l'
      rw [← hn]
    · cases e
theorem ai8:∀ l:List UInt8,flat (bytesT l)=bytesT l
  | []=>rfl
  | x :: l=>by rw [bytesT,List.map_cons,aa3,← bytesT,ai8 l];rfl
theorem am3 {a:V} (h:isSelf a=true):okRet 1 a=true:=by
  unfold isSelf at h
  split at h <;> first | rfl | cases h
theorem aoi {W:World} (s:St) (o:Out) (he:nBuilderString s=some o):Good Tryz.prog phi ⟨W.heap.size,Tryz.prog⟩ (oldJ W) false 65 s o:=by
  unfold nBuilderString at he
  split at he
  · rename_i a
    split at he
    · rename_i ha
      cases he
      refine ⟨Nat.le_refl _,rfl,?_,fun cx act w h hJ _ S=>?_⟩
      · show (([a,_]:List V).all (okRet 1) && true)=true
        simp only [List.all_cons,am3 ha,Bool.true_and,List.all_nil,Bool.and_true]
        rfl
      obtain ⟨p,rfl,vp⟩:=act1 S
      obtain ⟨b,base,len,hB,rfl⟩:=vp.ptr_inv
      obtain ⟨b',base',hB',cc,T,fr,k1,k2,k3,k4,k5⟩:=S.m 0 _ rfl
      rw [hB] at hB'
      have e1:b=b'∧base=base'∧len=2:=by simpa using hB'
      obtain ⟨rfl,rfl,rfl⟩:=e1
      have c1:=(VOk.k (k3 1 _ rfl).1).nil_inv
      have hcell:w.cell? ⟨b,base+1,none⟩=some (.slice none 0 0):=by rw [← c1];exact aa7 k1 (by simp at k2;omega)
      refine .inl ⟨Tryz.call65 _ _,(Tryz.String_none b base 0 none w (fun a e=>by cases e) (ad0 k1) hcell).mono ?_⟩
      rintro e w' ⟨rfl,B⟩
      exact ⟨_,rfl,h,(S.below B).slot1 (.k (.l (.pl (.s ⟨#[]⟩))))⟩
    · cases he
  · rename_i a n tg xs
    split at he
    · rename_i hc
      obtain ⟨ha,rfl⟩:=hc
      obtain ⟨l,hl,he⟩:=Option.map_eq_some_iff.1 he
      cases he
      have hx:=akm hl
      subst hx
      refine ⟨Nat.le_refl _,rfl,?_,fun cx act w h hJ _ S=>?_⟩
      · show (([a,_]:List V).all (okRet 1) && true)=true
        simp only [List.all_cons,am3 ha,Bool.true_and,List.all_nil,Bool.and_true]
        rfl
      obtain ⟨p,rfl,vp⟩:=act1 S
      obtain ⟨b,base,len,hB,rfl⟩:=vp.ptr_inv
      obtain ⟨b',base',hB',cc,T,fr,k1,k2,k3,k4,k5⟩:=S.m 0 _ rfl
      rw [hB] at hB'
      have e1:b=b'∧base=base'∧len=2:=by simpa using hB'
      obtain ⟨rfl,rfl,rfl⟩:=e1
      obtain ⟨A,cap,g,c1,hG,c2,c3,c4,c5,c6⟩:=(VOk.k (k3 1 _ rfl).1).sl_inv2
      have hcell:w.cell? ⟨b,base+1,none⟩=some (.slice A (bytesT l).length cap):=by rw [← c1];exact aa7 k1 (by simp at k2;omega)
      obtain ⟨g',hG',hrw⟩:=S.r 0 1 false _ rfl
      rw [hG] at hG';cases hG'
      have hmp:=(VOk.k (k3 1 _ rfl).1).sl_mp hG
      obtain ⟨r1,r2,r3,r4⟩:=hrw.cells hmp
      obtain ⟨h1,S1,hle,hB1,hG1⟩:=S.freeze (id:=0) (z:=1) (fz:=false) (xs:=bytesT l) rfl (fun g' e=>by rw [hG] at e;cases e;exact hmp)
      have S1':Sim phi ⟨W.heap.size,Tryz.prog⟩ cx ⟨[.ptr 0 0],[[a,.sl 0 0 (bytesT l).length tg]],[.row 1 true (bytesT l)]⟩ ⟨#[.pointer (some ⟨b,base+0,none⟩)],[]⟩ w h1:=S1
      by_cases h0:l=[]
      · subst h0
        refine .inl ⟨Tryz.call65 _ _,(Tryz.String_none b base cap A w (fun a e=>?_) (ad0 k1) hcell).mono ?_⟩
        · cases hloc:g.loc with
          | none=>rw [hloc] at c6;rw [show A=none from c6] at e;cases e
          | some bc=>
            obtain ⟨b1,room⟩:=bc
            rw [hloc] at c6 r4
            obtain ⟨off,rfl⟩:=c6
            obtain ⟨cc',T',fr',q1,_⟩:=r4
            cases e
            exact ⟨(T',cc'.size),by simp only [World.shape?,q1]⟩
        · rintro e w' ⟨rfl,B⟩
          exact ⟨_,rfl,h1,(S1'.below B).slot1 (.k (.l (.pl (.s ⟨#[]⟩))))⟩
      · have hpos:0<l.length:=Nat.pos_of_ne_zero fun e=>h0 (List.eq_nil_of_length_eq_zero e)
        have hbl:(bytesT l).length=l.length:=by simp [bytesT]
        cases hloc:g.loc with
        | none=>rw [hloc] at r4;rw [show bytesT l=[] from r4] at hbl;simp at hbl;omega
        | some bc=>
          obtain ⟨b1,room⟩:=bc
          rw [hloc] at c5 r4
          obtain ⟨cc',T',fr',q1,q2,q3,q4,q5,q6,q7⟩:=r4
          have hA:=c5.2 (by omega)
          rw [Nat.zero_mul] at hA
          subst hA
          have hT:T'=5:=by
            refine u8_5 (q4.2.1 (l[0].toNat) ?_)
            rw [bytesT,List.mem_map]
            exact ⟨l[0],List.getElem_mem _,rfl⟩
          subst hT
          rw [hbl] at hcell q3 c3
          have hcell2:∀ j x,l[j]?=some x→w.cell? ⟨b1,j,none⟩=some (.int .u8 x.toNat):=by
            intro j x hj
            have hjl:=(List.getElem?_eq_some_iff.1 hj).1
            have hf:(flat (bytesT l))[j]?=some (.bt x.toNat):=by rw [ai8,bytesT,List.getElem?_map,hj];rfl
            have inv:∀ {R:Nat→Nat→Prop} {n:Int} {q:Value},POk w R (.bt n) q→q=.int .u8 n:=by
              intro R n q hp;cases hp;rfl
            rw [← inv (q7 j _ hf).1]
            exact aa7 q1 (by rw [q2];omega)
          refine .inl ⟨Tryz.call65 _ _,(Tryz.String_some b base b1 cap cc'.size l w hcell h0 c3 (by rw [q2];omega) (by rw [q2,Nat.mul_one];exact q4.1) (by simp only [World.shape?,q1]) hcell2).mono ?_⟩
          rintro e w' ⟨rfl,rfl⟩
          have hR:∀ o,h1.Rl b1 o:=by
            obtain ⟨g2,hg2,r4'⟩:=S1'.r 0 1 true _ rfl
            rw [hG1,hG] at hg2;cases hg2
            exact fun o=>S1'.pl _ _ (r4'.rp hloc o)
          have hO:(∀ o,cx.O b1 o)∨cx.w0.heap.size≤b1:=by
            by_cases hlt:cx.w0.heap.size≤b1
            · exact .inr hlt
            · exact .inl fun o=>(S.ow b1 o (.inr ⟨0,1,_,g,room,rfl,hG,hloc⟩)).resolve_right hlt
          have S2:=(S1'.heap (w':=w.drew) rfl rfl rfl rfl).shut (n:=l.length) hR hO
          refine ⟨_,rfl,h1,S2.slot1 ?_⟩
          exact .k (.l (.pl (.s ⟨l.toArray⟩)))
    · cases he
  · cases he
end Go.VS
end
section
namespace Go.VS
open Go Go.Proofs Go.RowKit
set_option maxRecDepth 100000
theorem afj (l:List UInt8):∀ c,Lib.repeatL l c=(List.replicate c l).flatten
  | 0=>rfl
  | c+1=>by rw [Lib.repeatL,List.replicate_succ,List.flatten_cons,afj l c]
theorem aoh {W:World} (s:St) (o:Out) (he:nRepeat s=some o):Good Tryz.prog phi ⟨W.heap.size,Tryz.prog⟩ (oldJ W) false 203 s o:=by
  unfold nRepeat at he
  split at he
  · rename_i l n
    split at he
    · rename_i hc
      cases he
      refine ⟨Nat.le_refl _,rfl,rfl,fun cx a w h hJ _ S=>?_⟩
      obtain ⟨y,y2,rfl,v1,v2⟩:=act2 S
      obtain ⟨A,rfl,hA⟩:=v1.s_inv
      have v2:=v2.i_inv;subst v2
      obtain ⟨c,rfl⟩:∃ c:Nat,n=c:=⟨n.toNat,by omega⟩
      have hs:A.size=l.length:=by rw [← hA];rfl
      obtain ⟨h0,h1,h2⟩:=hc
      rw [Int.toNat_natCast] at h2
      refine .inl ⟨Tryz.call203 _ _,(Tryz.strings_Repeat A c w (by unfold lim at h1;omega) (by rw [hs];unfold lim at h2;omega)).mono ?_⟩
      rintro e w' ⟨rfl,B⟩
      refine ⟨_,rfl,h,(S.below B).slot1 ?_⟩
      rw [Int.toNat_natCast,afj,hA]
      exact .k (.l (.pl (.s ⟨_⟩)))
    · cases he
  · cases he
theorem ahf (c:UInt8):∀ l:List UInt8,decide (0≤Lib.indexByte l c)=decide (c ∈ l)
  | []=>rfl
  | x :: l=>by
    have ih:=ahf c l
    have hg:=Lib.indexByte_ge l c
    rw [decide_eq_decide] at ih ⊢
    rw [Lib.indexByte,List.mem_cons]
    by_cases h:x=c
    · subst h;simp
    · have h1:(x == c)=false:=by simpa using h
      rw [h1,if_neg (by simp)]
      by_cases h2:Lib.indexByte l c=-1
      · rw [h2] at ih
        rw [if_pos (by simp [h2])]
        constructor
        · intro q;omega
        · intro q
          rcases q with q | q
          · exact absurd q.symm h
          · have:=ih.mpr q;omega
      · rw [if_neg (by simpa using h2)]
        constructor
        · intro q;exact .inr (ih.mp (by omega))
        · intro _;omega
theorem alf {W:World} (s:St) (o:Out) (he:nContainsB s=some o):Good Tryz.prog phi ⟨W.heap.size,Tryz.prog⟩ (oldJ W) false 151 s o:=by
  unfold nContainsB at he
  split at he
  · rename_i l c
    split at he
    · rename_i hl
      cases he
      refine ⟨Nat.le_refl _,rfl,rfl,fun cx a w h hJ _ S=>?_⟩
      obtain ⟨y,y2,rfl,v1,v2⟩:=act2 S
      obtain ⟨A,rfl,hA⟩:=v1.s_inv
      obtain ⟨C,rfl,hC⟩:=v2.s_inv
      have hC2:C=⟨#[c]⟩:=by
        obtain ⟨⟨cl⟩⟩:=C
        congr 2
      subst hC2
      refine .inl ⟨Tryz.call151 _ _,(Tryz.strings_Contains_one A c w).mono ?_⟩
      rintro e w' ⟨rfl,rfl⟩
      refine ⟨_,rfl,h,S.slot1 ?_⟩
      rw [ahf,hA]
      exact .k (.l (.pl (.b _)))
    · cases he
  · cases he
end Go.VS
end
