/-
  Library functions that the evaluator does not run: as it tells them.
-/
import Derived.Test.YtdnblconoegeaaaGreatDoorVxM
import Derived.Test.YtdnblconoegeaaaGreatDoorVxSh
import Derived.Test.YtdnblconoegeaaaGreatDoorA4
import Derived.Test.YtdnblconoegeaaaGreatDoorB1
import Derived.Test.YtdnblconoegeaaaGreatDoorC2
import Derived.Test.YtdnblconoegeaaaGreatDoorA3
import Derived.Test.YtdnblconoegeaaaGreatDoorB3
import Derived.Test.YtdnblconoegeaaaGreatDoorC1
import Derived.Lib.OwnBridge
import Derived.Test.YtdnblconoegeaaaGreatDoorProg
set_option linter.all false
section
namespace Go.VS
open Go Go.Proofs
section
variable {φ:Nat→FuncId} {N:Env} {c:Cx} {a a':Act} {w:World} {h:Gh} {t t':List V} {m:List (List V)} {r:List Rw}
theorem Sim.slots (S:Sim φ N c ⟨t,m,r⟩ a w h) (h1:a'.tmps.size=t'.length) (h2:a'.defers=[]) (h3:∀ j v,t'[j]?=some v→VOk φ w h v (a'.tmps.getD j undef)):Sim φ N c ⟨t',m,r⟩ a' w h:=
  { S with nt:=h1,df:=h2,t:=h3 }
theorem Sim.slot1 {v:V} {y:Value} (S:Sim φ N c ⟨t,m,r⟩ a w h) (h3:VOk φ w h v y):Sim φ N c ⟨[v],m,r⟩ ⟨#[y],[]⟩ w h:=
  S.slots rfl rfl fun j u hj=>by
    cases j with
    | zero=>cases hj;exact h3
    | succ j=>simp at hj
theorem act1 {x:V} (S:Sim φ N c ⟨[x],m,r⟩ a w h):∃ y,a=⟨#[y],[]⟩∧VOk φ w h x y:=by
  obtain ⟨⟨l⟩,ds⟩:=a
  have hs:l.length=1:=S.nt
  obtain ⟨y,rfl⟩:=List.length_eq_one_iff.1 hs
  have hd:ds=[]:=S.df
  subst hd
  exact ⟨y,rfl,S.t 0 x rfl⟩
theorem act2 {x x2:V} (S:Sim φ N c ⟨[x,x2],m,r⟩ a w h):∃ y y2,a=⟨#[y,y2],[]⟩∧VOk φ w h x y∧VOk φ w h x2 y2:=by
  obtain ⟨⟨l⟩,ds⟩:=a
  have hs:l.length=2:=S.nt
  rcases l with _ | ⟨y,_ | ⟨y2,_ | ⟨_,_⟩⟩⟩ <;> simp at hs
  have hd:ds=[]:=S.df
  subst hd
  exact ⟨y,y2,rfl,S.t 0 x rfl,S.t 1 x2 rfl⟩
end
section
open Go.Lib
theorem am9 (c:UInt8):∀ s:List UInt8,(index s [c]=-1∧splitB c s=[s])∨∃ i:Nat,index s [c]=i∧i<s.length∧splitB c s=s.take i :: splitB c (s.drop (i+1))
  | []=>.inl ⟨rfl,rfl⟩
  | x :: s=>by
    by_cases hx:x=c
    · subst hx
      refine .inr ⟨0,?_,by simp,?_⟩
      · unfold index;simp
      · rw [splitB,if_pos rfl];rfl
    · have hp:([c].isPrefixOf (x :: s))=false:=by
        show (c == x && List.isPrefixOf [] s)=false
        rw [beq_eq_false_iff_ne.2 (Ne.symm hx)];rfl
      rcases am9 c s with ⟨h1,h2⟩ | ⟨i,h1,h2,h3⟩
      · refine .inl ⟨?_,?_⟩
        · unfold index;rw [hp,h1];rfl
        · rw [splitB,if_neg hx,h2]
      · refine .inr ⟨i+1,?_,by simp;omega,?_⟩
        · unfold index
          rw [hp,h1,if_neg (by simp),if_neg (by simp)];rfl
        · rw [splitB,if_neg hx,h3];simp
theorem ars (c:UInt8) (n:Nat):∀ s:List UInt8,s.length≤n→splitK [c] 0 (count s [c]) s=splitB c s∧(splitB c s).length=count s [c]+1:=by
  induction n with
  | zero=>
    intro s hs
    have:s=[]:=List.eq_nil_of_length_eq_zero (by omega)
    subst this
    exact ⟨rfl,rfl⟩
  | succ n ih=>
    intro s hs
    rcases am9 c s with ⟨h1,h2⟩ | ⟨i,h1,h2,h3⟩
    · rw [count_miss h1,h2];exact ⟨rfl,rfl⟩
    · rw [count_hit (by simp) h1,h3]
      obtain ⟨k1,k2⟩:=ih (s.drop (i+1)) (by simp;omega)
      have e:([c]:List UInt8).length=1:=rfl
      rw [e,Nat.add_comm 1,List.length_cons,k2]
      refine ⟨?_,rfl⟩
      rw [splitK,h1,if_neg (by simp),Nat.add_zero]
      simp only [Int.toNat_natCast]
      rw [e,k1]
end
theorem aq6 {W:World} {mm:Int} (hm:W.cell? ⟨0,0,none⟩=some (.int .i64 mm)) (s:St) (o:Out) (he:nSplit s=some o):Good Tryz.prog phi ⟨W.heap.size,Tryz.prog⟩ (oldJ W) false 218 s o:=by
  unfold nSplit at he
  split at he
  · rename_i l c
    split at he
    · rename_i hl
      cases he
      refine ⟨Nat.le_refl _,rfl,rfl,fun cx a w h hJ _ S=>?_⟩
      obtain ⟨y,y2,rfl,v1,v2⟩:=act2 S
      obtain ⟨A,rfl,hA⟩:=v1.s_inv
      obtain ⟨C,rfl,hC⟩:=v2.s_inv
      have hw:w.cell? ⟨0,0,none⟩=some (.int .i64 mm):=by
        have:=(S.kept (anm Tryz.prog W) hJ).2.2.1 0 (World.block_lt_of_cell? W _ hm)
        unfold World.cell? at hm ⊢
        rw [show w.heap[(⟨0,0,none⟩:Addr).block]?=W.heap[(⟨0,0,none⟩:Addr).block]? from this]
        exact hm
      have hs:A.size=l.length:=by rw [← hA];rfl
      have hC1:C.size=1:=by
        have:C.data.toList.length=1:=by rw [hC];rfl
        exact this
      refine .inl ⟨Tryz.call218 _ _,(Tryz.strings_Split A C mm w (by rw [hs];have:=hl.2;unfold lim at this;omega) hw (by omega)).mono ?_⟩
      rintro e w' ⟨rfl,rfl⟩
      refine ⟨_,rfl,?_⟩
      obtain ⟨k1,k2⟩:=ars c _ l (Nat.le_refl _)
      have hcount:Lib.countB A C=Lib.count l [c]:=by unfold Lib.countB;rw [hA,hC]
      have hdata:=Lib.splitB_data C 0 (Lib.countB A C) A
      rw [hcount,hA,hC,k1] at hdata
      have hlen:(Lib.splitB C 0 (Lib.countB A C) A).length=(splitB c l).length:=by rw [← hdata,List.length_map,hcount]
      obtain ⟨h',S'⟩:=S.newRow (d:=0) (z:=1) (cap:=Lib.countB A C+1) (es:=(splitB c l).map V.s) (cc:=((Lib.splitB C 0 (Lib.countB A C) A).map Value.string).toArray) 9 (0,0)
        (fun x hx=>by obtain ⟨u,_,rfl⟩:=List.mem_map.1 hx;rfl) (by rw [List.size_toArray,List.length_map,hlen,k2,hcount,Nat.mul_one]) (by rw [List.length_map,k2,hcount];exact Nat.le_refl _) (by rw [hcount,← k2];have:=hl.1;unfold lim at this;unfold maxLen;omega) (fun n hn=>by obtain ⟨u,_,e⟩:=List.mem_map.1 hn;cases e) (fun o _=>by omega) (fun j v hj=>by
          have hf:flat ((splitB c l).map V.s)=(splitB c l).map V.s:=by
            unfold flat
            induction (splitB c l) with
            | nil=>rfl
            | cons x xs ih=>simp only [List.map_cons,List.flatMap_cons,V.cells,ih,List.singleton_append]
          rw [hf,List.getElem?_map,Option.map_eq_some_iff] at hj
          obtain ⟨u,hu,rfl⟩:=hj
          rw [← hdata,List.getElem?_map,Option.map_eq_some_iff,← hcount] at hu
          obtain ⟨B,hB,rfl⟩:=hu
          have e:(((Lib.splitB C 0 (Lib.countB A C) A).map Value.string).toArray).getD j undef=.string B:=by
            rw [aac,List.getElem?_toArray,List.getElem?_map,hB];rfl
          rw [e]
          exact ⟨.s B,rfl⟩)
      refine ⟨h',S'.slot1 ?_⟩
      have:=S'.t 0 _ rfl
      simp only [List.length_map] at this ⊢
      rw [k2,← hcount] at this ⊢
      simpa [Act.put] using this
    · cases he
  · cases he
end Go.VS
end
section
namespace Go.VS
open Go Go.Proofs Go.RowKit
section
variable {φ:Nat→FuncId} {N:Env} {c:Cx} {s:St} {a:Act} {w w':World} {h:Gh}
theorem Sim.below (S:Sim φ N c s a w h) (B:Below w.heap.size w w'):Sim φ N c s a w' h:=by
  have F:Fr (fun _ _=>False) w w':=⟨B.os,B.tape,B.output,B.size,fun b hb=>.inl (B.block b hb)⟩
  have hle:h.Le h w w':=.fr F S.pl fun b o x=>⟨fun e=>e,S.rb b o x⟩
  refine { S with t:=fun j v hj=>(S.t j v hj).mono hle,m:=?_,r:=?_,fr:=S.fr.trans F (fun _ _ _ e=>e.elim),rb:=fun b o x=>Nat.lt_of_lt_of_le (S.rb b o x) B.size }
  · intro id cs hc
    obtain ⟨b,base,hb,hk⟩:=S.m id cs hc
    exact ⟨b,base,hb,abx F hle (fun _ _ _ e=>e) hk⟩
  · intro id z fz xs hx
    obtain ⟨g,hg,hk⟩:=S.r id z fz xs hx
    exact ⟨g,hg,abe F hle (fun _ _ _ _ e=>e) hk⟩
end
theorem amf:∀ {vs:List V} {l:List Bs},strs vs=some l→vs=l.map V.s
  | [],l,e=>by cases e;rfl
  | .s x :: vs,l,e=>by
    simp only [strs] at e
    obtain ⟨l',h1,rfl⟩:=Option.map_eq_some_iff.1 e
    rw [amf h1];rfl
theorem as2:∀ {vs:List V} {l:List Pg},pgs vs=some l→vs=l.map pgV
  | [],l,e=>by cases e;rfl
  | v :: vs,l,e=>by
    unfold pgs at e
    split at e
    · rename_i h;cases h
    · rename_i h
      cases h
      obtain ⟨l',h1,rfl⟩:=Option.map_eq_some_iff.1 e
      rw [as2 h1];rfl
    · cases e
theorem aex:∀ l:List Bs,flat (l.map V.s)=l.map V.s
  | []=>rfl
  | x :: l=>by rw [List.map_cons,aa8,aex l];rfl
theorem aoz {k:Int} {l:List Pg} {d:Bs} (h:lastOf k l=some d):∃ (j:Nat) (p:Pg),l[j]?=some p∧p.block=k∧p.data=d∧∀ j' p',j<j'→l[j']?=some p'→p'.block≠k:=by
  unfold lastOf at h
  obtain ⟨p,hp,rfl⟩:=Option.map_eq_some_iff.1 h
  rw [List.find?_eq_some_iff_append] at hp
  obtain ⟨hk,l1,l2,e,hn⟩:=hp
  have e2:l=l2.reverse++p :: l1.reverse:=by rw [← List.reverse_reverse l,e];simp
  refine ⟨l2.length,p,by rw [e2,List.getElem?_append_right (by simp)];simp,by simpa using hk,rfl,fun j' p' hlt hj'=>?_⟩
  rw [e2,List.getElem?_append_right (by simp;omega)] at hj'
  simp only [List.length_reverse] at hj'
  obtain ⟨t,ht⟩:∃ t,j' - l2.length=t+1:=⟨j' - l2.length - 1,by omega⟩
  rw [ht,List.getElem?_cons_succ] at hj'
  have:=hn p' (by simpa using List.mem_of_getElem? hj')
  simpa using this
theorem aoy {k:Int} {l:List Pg} (h:lastOf k l=none):∀ (j:Nat) p,l[j]?=some p→p.block≠k:=by
  unfold lastOf at h
  rw [Option.map_eq_none_iff,List.find?_eq_none] at h
  intro j p hj
  have:=h p (by simpa using List.mem_of_getElem? hj)
  simpa using this
theorem ar5 {W:World} (s:St) (o:Out) (he:nDiskRead s=some o):Good Tryz.prog phi ⟨W.heap.size,Tryz.prog⟩ (oldJ W) false 315 s o:=by
  unfold nDiskRead at he
  split at he
  · rename_i q1 bsV q2 psV x3 x4 k
    split at he
    · rename_i bs ps hb hp
      split at he
      · rename_i hcond
        cases he
        have hb:=amf hb;subst hb
        have hp:=as2 hp;subst hp
        refine ⟨Nat.le_refl _,rfl,rfl,fun cx a w h hJ _ S=>?_⟩
        obtain ⟨y,y2,rfl,v1,v2⟩:=act2 S
        have v2:=v2.i_inv;subst v2
        obtain ⟨⟨cc⟩,rfl,hsz,hcc⟩:=v1.agg_inv
        rcases cc with _ | ⟨c0,_ | ⟨c1,_ | ⟨c2,_ | ⟨c3,_ | ⟨_,_⟩⟩⟩⟩⟩ <;> simp at hsz
        have k0:=(hcc 0 _ rfl).1
        have k1:=(hcc 1 _ rfl).1
        obtain ⟨Ab,capb,fb,e0,hcapb,hzb,hab,hvb⟩:=(VOk.k k0).view_inv
        obtain ⟨A,cap,f,e1,hcap,hz,ha,hv⟩:=(VOk.k k1).view_inv
        simp [Array.getD] at e0 e1
        subst e0;subst e1
        have hps:∀ x,x ∈ ps.map pgV→x.cells.length=2:=fun x hx=>by obtain ⟨p,_,rfl⟩:=List.mem_map.1 hx;rfl
        have hfl:(flat (ps.map pgV)).length=ps.length*2:=by rw [aae hps,List.length_map]
        have elem:∀ (j:Nat) (p:Pg),ps[j]?=some p→f (j*2)=.int .i64 p.block∧∃ D:ByteArray,f (j*2+1)=.string D∧D.data.toList=p.data:=by
          intro j p hj
          have h1:=aby (xs:=ps.map pgV) (i:=j) (j:=0) (e:=pgV p) hps (by rw [List.getElem?_map,hj];rfl) (by decide)
          have h2:=aby (xs:=ps.map pgV) (i:=j) (j:=1) (e:=pgV p) hps (by rw [List.getElem?_map,hj];rfl) (by decide)
          have p1:=hv _ _ h1
          have p2:=hv _ _ h2
          refine ⟨?_,?_⟩
          · exact (VOk.k (φ:=phi) (h:=h) (.l (.pl p1))).i_inv
          · exact (VOk.k (φ:=phi) (h:=h) (.l (.pl p2))).s_inv
        let zs:List (Int × ByteArray):=(List.range ps.length).map fun j=>((ps.getD j default).block,match f (j*2+1) with | .string D=>D | _=>.empty)
        have hzl:zs.length=ps.length:=by simp [zs]
        have hzat:∀ (j:Nat) (p:Pg),ps[j]?=some p→(putAt zs j).1=p.block∧f (j*2+1)=.string (putAt zs j).2∧(putAt zs j).2.data.toList=p.data:=by
          intro j p hj
          have hlt:=(List.getElem?_eq_some_iff.1 hj).1
          obtain ⟨_,D,hD,hDd⟩:=elem j p hj
          have e:putAt zs j=(p.block,D):=by
            simp only [putAt,zs,List.getElem?_map,List.getElem?_range hlt,Option.map_some,Option.getD_some,hD,List.getD_eq_getElem?_getD,hj]
          rw [e]
          exact ⟨rfl,hD,hDd⟩
        have hRl:∀ {q:Bool} {b o:Nat},(if q=true then h.Rp else h.Rl) b o→h.Rl b o:=by
          intro q b o hh
          cases q with
          | true=>exact S.pl _ _ hh
          | false=>exact hh
        have hI:Puts w.heap.size w A zs:=by
          intro h0
          obtain ⟨b,off,rfl,hc⟩:=ha (by rw [hfl];omega)
          refine ⟨b,off,rfl,S.rb b (off+0) (hRl (hc 0 (by rw [hfl];omega)).1),fun j hj=>?_⟩
          have hj':j<ps.length:=by omega
          obtain ⟨z1,z2,z3⟩:=hzat j ps[j] (List.getElem?_eq_getElem hj')
          have g1:=(hc (j*2) (by rw [hfl];omega)).2.1
          have g2:=(hc (j*2+1) (by rw [hfl];omega)).2.1
          rw [(elem j ps[j] (List.getElem?_eq_getElem hj')).1,← z1] at g1
          rw [z2] at g2
          exact ⟨g1,by rw [Nat.add_assoc];exact g2⟩
        have hreach:zs.length≤9223372036854775807:=by
          have:=hcond.2
          unfold lim at this;omega
        obtain ⟨R,hRd,hR,hN⟩:∃ R:ByteArray,R.data.toList=diskRead bs ps k∧(∀ k',k'<zs.length→(∀ j,k'<j→j<zs.length→(putAt zs j).1≠k)→(putAt zs k').1=k→R=(putAt zs k').2) ∧
            ((∀ j,j<zs.length→(putAt zs j).1≠k)→∃ m:Nat,k=m∧m<(bs.map V.s).length∧∃ b off,Ab=some ⟨b,off,none⟩∧w.cell? ⟨b,off+m,none⟩=some (.string R)∧b<w.heap.size):=by
          cases hl:lastOf k ps with
          | some d=>
            obtain ⟨j,p,hj,hk,hd,hlast⟩:=aoz hl
            have hjlt:=(List.getElem?_eq_some_iff.1 hj).1
            obtain ⟨z1,z2,z3⟩:=hzat j p hj
            refine ⟨(putAt zs j).2,?_,?_,?_⟩
            · rw [z3,hd];unfold diskRead;rw [hl];rfl
            · intro k' hk' hn hkk
              have hne:∀ i,i≠j→i<zs.length→j<i→(putAt zs i).1≠k:=fun i _ hi hji=>by
                rw [(hzat i ps[i] (List.getElem?_eq_getElem (by omega))).1]
                exact hlast i _ hji (List.getElem?_eq_getElem (by omega))
              rcases Nat.lt_trichotomy k' j with h1 | h1 | h1
              · exact absurd (z1.trans hk) (hn j h1 (by omega))
              · rw [h1]
              · exact absurd hkk (hne k' (by omega) hk' h1)
            · intro hn
              exact absurd (z1.trans hk) (hn j (by omega))
          | none=>
            rw [hl] at hcond
            have hc2:0≤k∧k<bs.length:=by simpa using hcond.1
            obtain ⟨m,rfl⟩:∃ m:Nat,k=m:=⟨k.toNat,by omega⟩
            have hm:m<bs.length:=by omega
            have hflb:(flat (bs.map V.s)).length=bs.length:=by rw [aex,List.length_map]
            obtain ⟨b,off,rfl,hc⟩:=hab (by rw [hflb];omega)
            have hcm:=hc m (by rw [hflb];omega)
            have pm:=hvb m (.s bs[m]) (by rw [aex,List.getElem?_map,List.getElem?_eq_getElem hm];rfl)
            obtain ⟨R,hR1,hR2⟩:=(VOk.k (φ:=phi) (h:=h) (.l (.pl pm))).s_inv
            refine ⟨R,?_,?_,fun _=>⟨m,rfl,by simpa using hm,b,off,rfl,by rw [← hR1];exact hcm.2.1,S.rb b _ (hRl hcm.1)⟩⟩
            · rw [hR2];unfold diskRead;rw [hl];simp [List.getD_eq_getElem?_getD,hm]
            · intro k' hk' _ hkk
              have:=aoy hl k' ps[k'] (List.getElem?_eq_getElem (by omega))
              exact absurd (by rw [← (hzat k' ps[k'] (List.getElem?_eq_getElem (by omega))).1];exact hkk) this
        have hc:=callsIn_wide.1 (Tryz.read_in Fence.wide 3 trivial trivial trivial rfl (Nat.le_refl _) k A Ab cap capb (bs.map V.s).length c2 c3 zs hreach w hI R hR hN)
        refine .inl ⟨Tryz.call315 _ _,?_⟩
        rw [hzl,List.length_map] at hc
        refine hc.mono ?_
        rintro e w' ⟨rfl,B⟩
        refine ⟨_,rfl,h,(S.below B).slot1 ?_⟩
        show VOk phi w' h (.s (diskRead bs ps k)) _
        rw [← hRd]
        exact .k (.l (.pl (.s R)))
      · cases he
    · cases he
  · cases he
end Go.VS
end
section
namespace Go.VS
open Go Go.Proofs Go.RowKit
theorem avj {P:Program} {ts:Array TypeInfo} (h:P.types=ts):TIok P fun t=>ts[t]?:=⟨fun t i e=>by rw [h];exact e⟩
theorem tiok:TIok Tryz.prog tbS:=avj (by unfold Tryz.prog Tryz.progTables;rfl)
def onlyAt (ts:Array TypeInfo) (f:TypeDesc→Bool) (k:TypeId):Bool:=(List.range ts.size).all fun T=>match ts[T]? with | some i=>!f i.desc || T == k | none=>true
theorem asw {ts:Array TypeInfo} {f:TypeDesc→Bool} {k:TypeId} (h:onlyAt ts f k=true) {T:TypeId} {i:TypeInfo} (hi:ts[T]?=some i) (hf:f i.desc=true):T=k:=by
  have:=List.all_eq_true.1 h T (List.mem_range.2 (Array.getElem?_eq_some_iff.1 hi).1)
  rw [hi] at this
  simpa [hf] using this
theorem aqw:Tryz.prog.types=Tryz.types:=by unfold Tryz.prog Tryz.progTables;rfl
theorem asx {P:Program} {ts:Array TypeInfo} (e:P.types=ts) {f:TypeDesc→Bool} {k:TypeId} (h:onlyAt ts f k=true) {T:TypeId} {i:TypeInfo} (hi:P.types[T]?=some i) (hf:f i.desc=true):T=k:=by
  subst e;exact asw h hi hf
theorem ub_205 {T:TypeId} (h:Ub Tryz.prog T):T=254:=by
  obtain ⟨i,h1,h2⟩:=h
  exact asx aqw (f:=isBld) (by decide +kernel) h1 h2
theorem u8_5 {T:TypeId} (h:U8 Tryz.prog T):T=5:=by
  obtain ⟨i,h1,h2⟩:=h
  exact asx aqw (f:=isU8) (by decide +kernel) h1 h2
section
variable {φ:Nat→FuncId} {N:Env} {c:Cx} {a:Act} {w w':World} {h:Gh}
theorem Sim.self {x y:V} {r:List Rw} {b:Nat} {T:TypeId} {fr:Nat × Nat} {cc:Array Value} (S:Sim φ N c ⟨[.ptr 0 0],[[x,y]],r⟩ a w h) (hB:h.B 0=some (b,0,2)) (hh:w.heap[b]?=some (.cells cc T fr)) (hs:2≤cc.size):
    Sim φ N c ⟨[.ptr 0 0],[[.ptr 0 0,y]],r⟩ a (w.setCell ⟨b,0,none⟩ (.pointer (some ⟨b,0,none⟩))) h:=by
  obtain ⟨b',base',hB',cc',T',fr',k1,k2,k3,k4,k5⟩:=S.m 0 _ rfl
  rw [hB] at hB'
  have e1:b=b'∧0=base':=by simpa using hB'
  obtain ⟨rfl,rfl⟩:=e1
  rw [hh] at k1;cases k1
  have U:=Upd.setCell (o:=0) hh (.pointer (some ⟨b,0,none⟩))
  refine S.setBlk (id:=0) (cs:=[x,y]) (cs':=[.ptr 0 0,y]) rfl hB rfl U (fun j hj=>?_) fun hle=>?_
  · rw [Array.getElem?_setIfInBounds_ne (by simp at hj;omega)]
  · refine ⟨_,T,fr,U.new,by rw [U.len];simpa using k2,fun j v hj=>?_,k4,fun j hj=>?_⟩
    · cases j with
      | zero=>
        cases hj
        rw [aac,Array.getElem?_setIfInBounds_self_of_lt (by omega)]
        exact ⟨.ptr 0 0 b 0 2 hB,rfl⟩
      | succ j=>
        have hj':[x,y][j+1]?=some v:=hj
        have:=(k3 (j+1) v hj').mono hle
        rw [aac,Array.getElem?_setIfInBounds_ne (by omega),← aac]
        exact this
    · cases j with
      | zero=>cases hj
      | succ j=>
        rw [U.len]
        exact k5 (j+1) hj
end
theorem akl {W:World} (s:St) (o:Out) (he:nCopyCheck s=some o):Good Tryz.prog phi ⟨W.heap.size,Tryz.prog⟩ (oldJ W) false 271 s o:=by
  have key:∀ (a y:V) (r:List Rw),isSelf a=true→(y=.nil∨∃ n tg,y=.sl 0 0 n tg)→Good Tryz.prog phi ⟨W.heap.size,Tryz.prog⟩ (oldJ W) false 271 ⟨[.ptr 0 0],[[a,y]],r⟩ (.tup [],[[.ptr 0 0,y]],r):=by
    intro a y r ha hy
    refine ⟨Nat.le_refl _,rfl,?_,fun cx act w h hJ _ S=>?_⟩
    · rcases hy with rfl | ⟨n,tg,rfl⟩ <;> simp [okRet]
    obtain ⟨p,rfl,vp⟩:=act1 S
    obtain ⟨b,base,len,hB,rfl⟩:=vp.ptr_inv
    obtain ⟨b',base',hB',cc,T,fr,k1,k2,k3,k4,k5⟩:=S.m 0 _ rfl
    rw [hB] at hB'
    have e1:b=b'∧base=base'∧len=2:=by simpa using hB'
    obtain ⟨rfl,rfl,rfl⟩:=e1
    have c0:=(k3 0 _ rfl).1
    simp only [Nat.add_zero] at c0 k2 ⊢
    simp only [List.length_cons,List.length_nil] at k2 k4
    have hfr:=k4 (by omega)
    subst hfr
    have hcell:w.cell? ⟨b,base,none⟩=some (cc.getD base undef):=abd k1 (by omega)
    have tup:∀ {w' h'},VOk phi w' h' (.tup []) (.tuple #[]):=.tup [] #[] rfl fun j v hj=>by simp at hj
    unfold isSelf at ha
    split at ha
    · 
      obtain ⟨q1,q2,q3⟩:=k5 0 rfl
      have q1:=ub_205 q1
      subst q1
      have hb0:base=0:=by omega
      subst hb0
      have e0:cc.getD 0 undef=.pointer none:=by
        have inv:∀ {q:Value},KOk phi w h .bz q→q=.pointer none:=by
          intro q hk
          cases hk with
          | l hl=>cases hl with | pl hp=>cases hp;rfl
        exact inv c0
      rw [e0] at hcell
      refine .inl ⟨Tryz.call271 _ _,(Tryz.copyCheck_fresh b w hcell (by simp [World.shape?,k1,q2]) (by simp [World.frozen?,k1])).mono ?_⟩
      rintro e w' ⟨rfl,rfl⟩
      exact ⟨_,rfl,h,(S.self hB k1 (by omega)).slot1 tup⟩
    · 
      have e0:cc.getD base undef=.pointer (some ⟨b,base,none⟩):=by
        obtain ⟨b2,base2,len2,hB2,e⟩:=(VOk.k c0).ptr_inv
        rw [hB] at hB2
        have e1:b=b2∧base=base2:=by simp at hB2;exact ⟨hB2.1,hB2.2.1⟩
        obtain ⟨rfl,rfl⟩:=e1
        rw [e];rfl
      rw [e0] at hcell
      refine .inl ⟨Tryz.call271 _ _,(Tryz.copyCheck_used b base w hcell).mono ?_⟩
      rintro e w' ⟨rfl,rfl⟩
      exact ⟨_,rfl,h,S.slot1 tup⟩
    · cases ha
  unfold nCopyCheck at he
  split at he
  · split at he
    · rename_i ha;cases he;exact key _ _ _ ha (.inl rfl)
    · cases he
  · split at he
    · rename_i ha;cases he;exact key _ _ _ ha (.inr ⟨_,_,rfl⟩)
    · cases he
  · cases he
section
variable {φ:Nat→FuncId} {N:Env} {c:Cx} {s:St} {a:Act} {w w':World} {h:Gh}
theorem aoo (w:World) (b n:Nat) (k:Nat):(w.freeze ⟨b,0,none⟩ n).heap[k]?=w.heap[k]?∨(k=b∧∃ cc T fr fr',w.heap[k]?=some (.cells cc T fr)∧(w.freeze ⟨b,0,none⟩ n).heap[k]?=some (.cells cc T fr')):=by
  unfold World.freeze
  split
  · exact .inl rfl
  · simp only [Array.getElem?_modify]
    by_cases hk:b=k
    · subst hk
      rw [if_pos rfl]
      cases hh:w.heap[b]? with
      | none=>exact .inl rfl
      | some o=>
        cases o with
        | cells cc T fr=>exact .inr ⟨rfl,cc,T,fr,_,rfl,rfl⟩
        | _=>exact .inl rfl
    · rw [if_neg hk];exact .inl rfl
theorem aop (w:World) (b n:Nat):(w.freeze ⟨b,0,none⟩ n).os=w.os∧(w.freeze ⟨b,0,none⟩ n).tape=w.tape∧(w.freeze ⟨b,0,none⟩ n).output=w.output∧(w.freeze ⟨b,0,none⟩ n).heap.size=w.heap.size:=by
  unfold World.freeze
  split <;> simp
theorem Sim.shut (S:Sim φ N c s a w h) {b n:Nat} (hR:∀ o,h.Rl b o) (hO:(∀ o,c.O b o)∨c.w0.heap.size≤b):Sim φ N c s a (w.freeze ⟨b,0,none⟩ n) h:=by
  obtain ⟨f1,f2,f3,f4⟩:=aop w b n
  have hh:=aoo w b n
  have F:Fr (fun k _=>k=b) w (w.freeze ⟨b,0,none⟩ n):=⟨f1,f2,f3,by rw [f4];exact Nat.le_refl _,fun k hk=>by
    rcases hh k with e | ⟨rfl,cc,T,fr,fr',e1,e2⟩
    · exact .inl e
    · exact .inr (.inl ⟨cc,T,fr,cc,fr',e1,e2,rfl,fun _ _=>rfl,.inr fun _=>rfl⟩)⟩
  have hc:∀ k o,(w.freeze ⟨b,0,none⟩ n).cell? ⟨k,o,none⟩=w.cell? ⟨k,o,none⟩:=fun k o=>by
    rcases hh k with e | ⟨rfl,cc,T,fr,fr',e1,e2⟩
    · simp only [World.cell?,e]
    · simp only [World.cell?,e1,e2]
  have hle:h.Le h w (w.freeze ⟨b,0,none⟩ n):=⟨fun _ _ x=>x,fun _ _ x=>x,fun b o _=>hc b o,fun b o _=>hc b o,fun _ _ x=>x,fun _ _ x=>x⟩
  refine { S with t:=fun j v hj=>(S.t j v hj).mono hle,m:=?_,r:=?_,fr:=S.fr.trans F (fun x o hx e=>?_),rb:=fun b o x=>by rw [f4];exact S.rb b o x }
  · intro id cs hcs
    obtain ⟨b1,base,hb,cc,T,fr,k1,k2,k3,k4,k5⟩:=S.m id cs hcs
    refine ⟨b1,base,hb,cc,T,?_⟩
    rcases hh b1 with e | ⟨rfl,cc',T',fr0,fr',e1,e2⟩
    · exact ⟨fr,by rw [e];exact k1,k2,fun j v hj=>(k3 j v hj).mono hle,k4,k5⟩
    · rw [k1] at e1;cases e1
      refine ⟨fr',e2,k2,fun j v hj=>(k3 j v hj).mono hle,fun h0=>?_,k5⟩
      exact absurd (.inl ⟨id,base,base+cs.length,⟨cs,hcs,hb,rfl⟩,Nat.le_refl _,by omega⟩) (S.sR b1 base (hR base))
  · intro id z fz xs hx
    obtain ⟨g,hg,hrw⟩:=S.r id z fz xs hx
    rcases hrw with ⟨h0,h1,h2,h3,h4⟩ | ⟨h0,h1,b1,cap,es,clock,hl,e1,e2,e3⟩
    rotate_left
    · refine ⟨g,hg,.inr ⟨h0,h1,b1,cap,es,clock,hl,?_,e2,fun j x hj=>?_⟩⟩
      · rcases hh b1 with e | ⟨rfl,cc',T',fr0,fr',q1,q2⟩
        · rw [e];exact e1
        · rw [e1] at q1;cases q1
      · obtain ⟨e,kv,vv,f1,f2,f3,f4,f5⟩:=e3 j x hj
        exact ⟨e,kv,vv,f1,f2,f3.mono hle.kp hle.p,f4.mono hle.kp hle.p,f5⟩
    refine ⟨g,hg,.inl ⟨h0,h1,h2,h3,?_⟩⟩
    cases hl:g.loc with
    | none=>rw [hl] at h4;exact h4
    | some bc=>
      obtain ⟨b1,cap⟩:=bc
      rw [hl] at h4
      obtain ⟨cc,T,fr,e1,e2,e3,e4,e5,e6,e7⟩:=h4
      have e7':∀ j v,(flat xs)[j]?=some v→POk (w.freeze ⟨b,0,none⟩ n) h.Rp v (cc.getD j undef)∧(cc.getD j undef).oneCell'=true:=fun j v hv=>⟨(e7 j v hv).1.mono hle.kp hle.p,(e7 j v hv).2⟩
      rcases hh b1 with e | ⟨rfl,cc',T',fr0,fr',q1,q2⟩
      · exact ⟨cc,T,fr,by rw [e];exact e1,e2,e3,e4,e5,e6,e7'⟩
      · rw [e1] at q1;cases q1
        refine ⟨cc,T,fr',q2,e2,e3,⟨e4.1,e4.2.1,fun _ hf=>?_⟩,fun hf=>?_,e6,e7'⟩
        · subst hf
          exact absurd (.inr ⟨id,z,xs,g,cap,hx,hg,hl⟩) (S.sR b1 0 (hR 0))
        · subst hf
          exact absurd (.inr ⟨id,z,xs,g,cap,hx,hg,hl⟩) (S.sR b1 0 (hR 0))
  · subst e
    rcases hO with h1 | h1
    · exact h1 o
    · omega
end
theorem ak8:∀ {xs:List V} {l:List UInt8},tbytes xs=some l→xs=bytesT l
  | [],l,e=>by cases e;rfl
  | v :: xs,l,e=>by
    cases v <;> simp only [tbytes] at e <;> (try (cases e;done))
    split at e
    · rename_i hn
      obtain ⟨l',h1,rfl⟩:=Option.map_eq_some_iff.1 e
      rw [ak8 h1]
      show _=V.bt _ :: bytesT l'
      rw [← hn]
    · cases e
theorem ajn:∀ l:List UInt8,flat (bytesT l)=bytesT l
  | []=>rfl
  | x :: l=>by rw [bytesT,List.map_cons,aa8,← bytesT,ajn l];rfl
theorem ana {a:V} (h:isSelf a=true):okRet 1 a=true:=by
  unfold isSelf at h
  split at h <;> first | rfl | cases h
theorem aos {W:World} (s:St) (o:Out) (he:nBuilderString s=some o):Good Tryz.prog phi ⟨W.heap.size,Tryz.prog⟩ (oldJ W) false 206 s o:=by
  unfold nBuilderString at he
  split at he
  · rename_i a
    split at he
    · rename_i ha
      cases he
      refine ⟨Nat.le_refl _,rfl,?_,fun cx act w h hJ _ S=>?_⟩
      · show (([a,_]:List V).all (okRet 1) && true)=true
        simp only [List.all_cons,ana ha,Bool.true_and,List.all_nil,Bool.and_true]
        rfl
      obtain ⟨p,rfl,vp⟩:=act1 S
      obtain ⟨b,base,len,hB,rfl⟩:=vp.ptr_inv
      obtain ⟨b',base',hB',cc,T,fr,k1,k2,k3,k4,k5⟩:=S.m 0 _ rfl
      rw [hB] at hB'
      have e1:b=b'∧base=base'∧len=2:=by simpa using hB'
      obtain ⟨rfl,rfl,rfl⟩:=e1
      have c1:=(VOk.k (k3 1 _ rfl).1).nil_inv
      have hcell:w.cell? ⟨b,base+1,none⟩=some (.slice none 0 0):=by rw [← c1];exact abd k1 (by simp at k2;omega)
      refine .inl ⟨Tryz.call206 _ _,(Tryz.String_none b base 0 none w (fun a e=>by cases e) (ady k1) hcell).mono ?_⟩
      rintro e w' ⟨rfl,B⟩
      exact ⟨_,rfl,h,(S.below B).slot1 (.k (.l (.pl (.s ⟨#[]⟩))))⟩
    · cases he
  · rename_i a n tg xs
    split at he
    · rename_i hc
      obtain ⟨ha,rfl⟩:=hc
      obtain ⟨l,hl,he⟩:=Option.map_eq_some_iff.1 he
      cases he
      have hx:=ak8 hl
      subst hx
      refine ⟨Nat.le_refl _,rfl,?_,fun cx act w h hJ _ S=>?_⟩
      · show (([a,_]:List V).all (okRet 1) && true)=true
        simp only [List.all_cons,ana ha,Bool.true_and,List.all_nil,Bool.and_true]
        rfl
      obtain ⟨p,rfl,vp⟩:=act1 S
      obtain ⟨b,base,len,hB,rfl⟩:=vp.ptr_inv
      obtain ⟨b',base',hB',cc,T,fr,k1,k2,k3,k4,k5⟩:=S.m 0 _ rfl
      rw [hB] at hB'
      have e1:b=b'∧base=base'∧len=2:=by simpa using hB'
      obtain ⟨rfl,rfl,rfl⟩:=e1
      obtain ⟨A,cap,g,c1,hG,c2,c3,c4,c5,c6⟩:=(VOk.k (k3 1 _ rfl).1).sl_inv2
      have hcell:w.cell? ⟨b,base+1,none⟩=some (.slice A (bytesT l).length cap):=by rw [← c1];exact abd k1 (by simp at k2;omega)
      obtain ⟨g',hG',hrw⟩:=S.r 0 1 false _ rfl
      rw [hG] at hG';cases hG'
      have hmp:=(VOk.k (k3 1 _ rfl).1).sl_mp hG
      obtain ⟨r1,r2,r3,r4⟩:=hrw.cells hmp
      obtain ⟨h1,S1,hle,hB1,hG1⟩:=S.freeze (id:=0) (z:=1) (fz:=false) (xs:=bytesT l) rfl (fun g' e=>by rw [hG] at e;cases e;exact hmp)
      have S1':Sim phi ⟨W.heap.size,Tryz.prog⟩ cx ⟨[.ptr 0 0],[[a,.sl 0 0 (bytesT l).length tg]],[.row 1 true (bytesT l)]⟩ ⟨#[.pointer (some ⟨b,base+0,none⟩)],[]⟩ w h1:=S1
      by_cases h0:l=[]
      · subst h0
        refine .inl ⟨Tryz.call206 _ _,(Tryz.String_none b base cap A w (fun a e=>?_) (ady k1) hcell).mono ?_⟩
        · cases hloc:g.loc with
          | none=>rw [hloc] at c6;rw [show A=none from c6] at e;cases e
          | some bc=>
            obtain ⟨b1,room⟩:=bc
            rw [hloc] at c6 r4
            obtain ⟨off,rfl⟩:=c6
            obtain ⟨cc',T',fr',q1,_⟩:=r4
            cases e
            exact ⟨(T',cc'.size),by simp only [World.shape?,q1]⟩
        · rintro e w' ⟨rfl,B⟩
          exact ⟨_,rfl,h1,(S1'.below B).slot1 (.k (.l (.pl (.s ⟨#[]⟩))))⟩
      · have hpos:0<l.length:=Nat.pos_of_ne_zero fun e=>h0 (List.eq_nil_of_length_eq_zero e)
        have hbl:(bytesT l).length=l.length:=by simp [bytesT]
        cases hloc:g.loc with
        | none=>rw [hloc] at r4;rw [show bytesT l=[] from r4] at hbl;simp at hbl;omega
        | some bc=>
          obtain ⟨b1,room⟩:=bc
          rw [hloc] at c5 r4
          obtain ⟨cc',T',fr',q1,q2,q3,q4,q5,q6,q7⟩:=r4
          have hA:=c5.2 (by omega)
          rw [Nat.zero_mul] at hA
          subst hA
          have hT:T'=5:=by
            refine u8_5 (q4.2.1 (l[0].toNat) ?_)
            rw [bytesT,List.mem_map]
            exact ⟨l[0],List.getElem_mem _,rfl⟩
          subst hT
          rw [hbl] at hcell q3 c3
          have hcell2:∀ j x,l[j]?=some x→w.cell? ⟨b1,j,none⟩=some (.int .u8 x.toNat):=by
            intro j x hj
            have hjl:=(List.getElem?_eq_some_iff.1 hj).1
            have hf:(flat (bytesT l))[j]?=some (.bt x.toNat):=by rw [ajn,bytesT,List.getElem?_map,hj];rfl
            have inv:∀ {R:Nat→Nat→Prop} {n:Int} {q:Value},POk w R (.bt n) q→q=.int .u8 n:=by
              intro R n q hp;cases hp;rfl
            rw [← inv (q7 j _ hf).1]
            exact abd q1 (by rw [q2];omega)
          refine .inl ⟨Tryz.call206 _ _,(Tryz.String_some b base b1 cap cc'.size l w hcell h0 c3 (by rw [q2];omega) (by rw [q2,Nat.mul_one];exact q4.1) (by simp only [World.shape?,q1]) hcell2).mono ?_⟩
          rintro e w' ⟨rfl,rfl⟩
          have hR:∀ o,h1.Rl b1 o:=by
            obtain ⟨g2,hg2,r4'⟩:=S1'.r 0 1 true _ rfl
            rw [hG1,hG] at hg2;cases hg2
            exact fun o=>S1'.pl _ _ (r4'.rp hloc o)
          have hO:(∀ o,cx.O b1 o)∨cx.w0.heap.size≤b1:=by
            by_cases hlt:cx.w0.heap.size≤b1
            · exact .inr hlt
            · exact .inl fun o=>(S.ow b1 o (.inr ⟨0,1,_,g,room,rfl,hG,hloc⟩)).resolve_right hlt
          have S2:=(S1'.heap (w':=w.drew) rfl rfl rfl rfl).shut (n:=l.length) hR hO
          refine ⟨_,rfl,h1,S2.slot1 ?_⟩
          exact .k (.l (.pl (.s ⟨l.toArray⟩)))
    · cases he
  · cases he
end Go.VS
end
section
namespace Go.VS
open Go Go.Proofs Go.RowKit
section
variable {φ:Nat→FuncId} {N:Env} {c:Cx} {s:St} {a:Act} {w w':World} {h:Gh}
theorem Sim.only {r:List Rw} {z n:Nat} {es:List V} {y:Value} (S:Sim φ N c ⟨[.sl r.length 0 n false],[],r++[.row z false es]⟩ ⟨#[y],[]⟩ w h) (hr:r=[]∨r=[.gone]) (hG:∀ id x,c.G0 id=some x→False):∃ h',Sim φ N c ⟨[.sl 0 0 n false],[],[.row z false es]⟩ ⟨#[y],[]⟩ w h':=by
  have e:St.outP 0 ⟨[.sl r.length 0 n false],[],r++[.row z false es]⟩ [.t 0] 0=some (.sl 0 0 n false,[],[.row z false es]):=by
    rcases hr with rfl | rfl <;> rfl
  exact asy (y:=y) S e S.b0len (fun id x hx=>(hG id x hx).elim) fun v hv=>by
    have:v=.sl r.length 0 n false:=by
      rcases hr with rfl | rfl <;> cases hv <;> rfl
    rw [this]
    exact S.t 0 _ rfl
end
end Go.VS
end
section
namespace Go.VS
open Go Go.Proofs Go.RowKit
end Go.VS
end
section
namespace Go.VS
set_option maxRecDepth 8000
section
variable (q1 q2:Bool) (bs ps:List V) (n:Int) (b:Bool) (h1:bs.length≤lim) (h2:ps.length≤lim) (hb:noBt bs=true)
include h1 h2 hb
end
end Go.VS
end
section
namespace Go.VS
open Go Go.Proofs Go.RowKit
set_option maxRecDepth 100000
end Go.VS
end
section
namespace Go.VS
open Go Go.Proofs Go.RowKit
def insTail (cur:Array Value) (i z n:Nat):List Value:=(cur.toList.drop (i*z)).take ((n - i)*z)
section
variable {cur:Array Value} {vs:List Value} {i z n:Nat}
end
end Go.VS
end
section
namespace Go.VS
open Go Go.Proofs Go.RowKit
section
variable {φ:Nat→FuncId} {N:Env} {c:Cx} {w w':World} {h:Gh}
end
end Go.VS
end
section
namespace Go.VS
open Go Go.Proofs Go.RowKit
structure InsM (f:FuncId) (te:TypeId) (z:Nat) (zv:Value):Prop where
  shift:∀ (b n c i vb vc:Nat) (cur vcur:Array Value) (T TV:TypeId) (vs:List Value) (w:World),i<n→n+1≤c→c≤9223372036854775807→vb≠b→w.heap[b]?=some (.cells cur T (0,0))→w.heap[vb]?=some (.cells vcur TV (0,0))→c*z≤cur.size→vs.length=z→(∀ (j:Nat) (v:Value),vs[j]?=some v→vcur[j]?=some v)→(∀ j,j<n*z→(cur.getD j undef).oneCell'=true)→(∀ v ∈ vs,v.oneCell'=true) →
    Calls Tryz.prog f #[.slice (some ⟨b,0,none⟩) n c,.int .i64 i,.slice (some ⟨vb,0,none⟩) 1 vc] w fun e w'=>e=.returned (.slice (some ⟨b,0,none⟩) (n+1) c)∧Upd w w' b cur (arrSet (arrSet cur ((i+1)*z) (insTail cur i z n)) (i*z) vs) T (0,0)
  room:∀ (b n c vb vc:Nat) (cur vcur:Array Value) (T TV:TypeId) (vs:List Value) (w:World),n+1≤c→c≤9223372036854775807→w.heap[b]?=some (.cells cur T (0,0))→w.heap[vb]?=some (.cells vcur TV (0,0))→c*z≤cur.size→vs.length=z→(∀ (j:Nat) (v:Value),vs[j]?=some v→vcur[j]?=some v)→(∀ v ∈ vs,v.oneCell'=true) →
    Calls Tryz.prog f #[.slice (some ⟨b,0,none⟩) n c,.int .i64 n,.slice (some ⟨vb,0,none⟩) 1 vc] w fun e w'=>e=.returned (.slice (some ⟨b,0,none⟩) (n+1) c)∧Upd w w' b cur (arrSet cur (n*z) vs) T (0,0)
  end_:∀ (base:Option Addr) (n c vb vc:Nat) (vcur:Array Value) (TV:TypeId) (olds vs:List Value) (w:World),n≤c→c<n+1→n+1≤lim→olds.length=n*z→(base=none→n=0)→(∀ a,base=some a→∀ (j:Nat) (v:Value),olds[j]?=some v→w.cell? (a.add j)=some v)→w.heap[vb]?=some (.cells vcur TV (0,0))→vs.length=z→(∀ (j:Nat) (v:Value),vs[j]?=some v→vcur[j]?=some v)→(∀ v ∈ vs,v.oneCell'=true) →
    Calls Tryz.prog f #[.slice base n c,.int .i64 n,.slice (some ⟨vb,0,none⟩) 1 vc] w fun e w'=>e=.returned (.slice (some ⟨w.heap.size,0,none⟩) (n+1) (grownCap w (n+1) c te)) ∧
      w'=w.drew.alloc (.cells (olds.toArray++vs.toArray++Builtin.zeroCells zv.cells (grownCap w (n+1) c te - (n+1))) te)
  grow:∀ (b n c i vb vc:Nat) (cur vcur:Array Value) (T TV:TypeId) (fr:Nat × Nat) (vs:List Value) (w:World),i<n→n≤c→c<n+1→n+1≤lim→w.heap[b]?=some (.cells cur T fr)→w.heap[vb]?=some (.cells vcur TV (0,0))→c*z≤cur.size→vs.length=z→(∀ (j:Nat) (v:Value),vs[j]?=some v→vcur[j]?=some v)→(∀ j,j<n*z→(cur.getD j undef).oneCell'=true)→(∀ v ∈ vs,v.oneCell'=true) →
    Calls Tryz.prog f #[.slice (some ⟨b,0,none⟩) n c,.int .i64 i,.slice (some ⟨vb,0,none⟩) 1 vc] w fun e w'=>e=.returned (.slice (some ⟨w.heap.size,0,none⟩) (n+1) (grownCap w (n+1) c te)) ∧
      ∃ ROW:Array Value,ROW=(cur.toList.take (i*z)).toArray++Builtin.zeroCells zv.cells (n+1 - i)++Builtin.zeroCells zv.cells (grownCap w (n+1) c te - (n+1)) ∧
        Upd (w.alloc (.cells ROW te)) w' w.heap.size ROW (arrSet (arrSet ROW (i*z) vs) ((i+1)*z) (insTail cur i z n)) te (0,0)
end Go.VS
end
section
namespace Go.Proofs
open Go.Shelf Go.RowKit Go.Lib Go.Sort
theorem Tryz.clone181 (A:Option Addr) (n cap:Nat) (zs:List ByteArray) (w:World) (hn:n=zs.length) (hbig:n*16≤140737488355328)
    (hc:0<n→∃ b off,A=some ⟨b,off,none⟩∧∀ j,j<n→w.cell? ⟨b,off+j,none⟩=some (.string (zs.getD j ByteArray.empty))):
    Calls Tryz.prog 262 #[.slice A n cap] w fun e w'=>∃ v',e=.returned v'∧w'.ownsRow w.heap.size 9 1 v' n (zs.map Value.string)∧Below w.heap.size w w':=by
  by_cases h0:0<n
  · obtain ⟨b,off,rfl,hc2⟩:=hc h0
    refine (Any.slices_Clone_string Tryz.laysNm216 b off n cap zs w (by omega) hbig fun j hj=>hc2 j (by omega)).mono ?_
    rintro e w' ⟨v',rfl,ho,_,hb⟩
    rw [List.take_of_length_le (by omega)] at ho
    exact ⟨v',rfl,ho,hb⟩
  · obtain rfl:n=0:=by omega
    obtain rfl:zs=[]:=List.length_eq_zero_iff.1 hn.symm
    cases A with
    | none=>
      refine (Any.slices_Clone_string_nil Tryz.laysNm216 0 cap w).mono ?_
      rintro e w' ⟨rfl,rfl⟩
      exact ⟨_,rfl,⟨rfl,.inl ⟨rfl,rfl⟩⟩,Below.refl _ _⟩
    | some a=>
      refine (Any.slices_Clone_string_zero Tryz.laysNm216 a cap w).mono ?_
      rintro e w' ⟨v',rfl,ho,_,hb⟩
      exact ⟨v',rfl,ho,hb⟩
theorem Tryz.gives182 (x:ByteArray) (W:World):FnGives Tryz.prog 355 #[] #[.string x] (.bool (x.toList == [])) W:=by
  show Calls Tryz.prog 355 #[.string x] W _
  go_enter Tryz.func355,Tryz.ntmps355
  go_wp2
  all_goals (go_ret;exact ⟨by simp_all,0,rfl⟩)
theorem Tryz.del180_nil (w:World):Calls Tryz.prog 354 #[.slice none 0 0,.func (.func 355) #[] #[]] w fun e w'=>e=.returned (.slice none 0 0)∧w'=w:=by
  have h:=AnyE.slices_IndexFunc_empty (P:=Tryz.prog) (ρ:=Tryz.laysSlH10_f354_ren) { Tryz.laysSlH10_f354 with } none 0 (.func (.func 355) #[] #[]) w
  change Calls Tryz.prog 288 _ _ _ at h
  go_enter Tryz.func354,Tryz.ntmps354
  go_wp2_with (go_at_call 288;refine h.mono ?_;rintro e w' ⟨rfl,rfl⟩)
  go_ret
  exact ⟨rfl,rfl⟩
theorem Tryz.del180 (B:Nat) (v:Value) (n:Nat) (zs:List ByteArray) (w:World) (hn:n≤9223372036854775807) (ho:w.ownsRow B 9 1 v n (zs.map Value.string)):
    Calls Tryz.prog 354 #[v,.func (.func 355) #[] #[]] w fun e w'=>(∃ A c,e=.returned (.slice A (zs.filter fun x=>!(x.toList == [])).length c))∧Below B w w':=by
  obtain ⟨hl,⟨rfl,rfl⟩ | ⟨g,cap,cur,rfl,hb,hg,hcap,hmax,hsz,htk⟩⟩:=ho
  · obtain rfl:zs=[]:=by simpa using hl
    refine (Tryz.del180_nil w).mono ?_
    rintro e w' ⟨rfl,rfl⟩
    exact ⟨⟨_,_,rfl⟩,Below.refl _ _⟩
  · have hl:zs.length=n:=by simpa using hl
    have hH:Holds Value.string w g 0 zs.toArray:=by
      intro j hj
      have hj:j<zs.length:=by simpa using hj
      have e1:cur[j]?=some (.string zs[j]):=by
        have:=congrArg (fun l=>l[j]?) htk
        simpa [List.getElem?_take,show j<n by omega,hj] using this
      refine ⟨?_,?_⟩
      · rw [getElem!_pos zs.toArray j (by simpa using hj)]
        simp [World.cell?,hg,e1]
      · simp [World.frozen?,hg]
    have eg:∀ args w,(callFunc 355 args).run Tryz.prog w=.ok (.enter 355 args) w:=enters_of Tryz.func355 (by kernel_rfl) rfl
    have hcon:=AnyE.slices_DeleteFunc Tryz.laysSlH10_f354 Value.string (fun _=>rfl) (fun x=>x.toList == []) 355 #[] eg ByteArray.empty Tryz.zeroValue9 g 0 cap zs.toArray w
      (fun W x _=>Tryz.gives182 x W) (fun m os dk x _=>Tryz.gives182 x _) hH (by simpa using by omega) (by simpa using by omega)
    change Calls Tryz.prog 354 _ _ _ at hcon
    rw [show zs.toArray.size=n by simpa using hl] at hcon
    refine hcon.mono ?_
    rintro e w' ⟨rfl,q,rfl⟩
    exact ⟨⟨_,_,rfl⟩,Lib.below_putRow (Below.refl _ _) hb⟩
set_option maxHeartbeats 1000000 in
set_option maxRecDepth 100000 in
theorem Tryz.slots155 (A:Option Addr) (n cap:Nat) (zs:List ByteArray) (w:World) (hn:n=zs.length) (hbig:n*16≤140737488355328)
    (hc:0<n→∃ b off,A=some ⟨b,off,none⟩∧∀ j,j<n→w.cell? ⟨b,off+j,none⟩=some (.string (zs.getD j ByteArray.empty))):
    Calls Tryz.prog 332 #[.agg #[.slice A n cap]] w fun e w'=>e=.returned (.int .i64 (zs.filter fun x=>!(x.toList == [])).length)∧Below w.heap.size w w':=by
  have h1:=Tryz.clone181 A n cap zs (w.alloc (.cells #[.slice A n cap] 266)) hn hbig fun h0=>by
    obtain ⟨b,off,rfl,h⟩:=hc h0
    exact ⟨b,off,rfl,fun j hj=>Lib.cell?_alloc_some _ (h j hj)⟩
  have hs:(w.alloc (.cells #[.slice A n cap] 266)).heap.size=w.heap.size+1:=by simp
  rw [hs] at h1
  have h63:n≤9223372036854775807:=by omega
  have h2:=fun v w' ho=>Tryz.del180 (w.heap.size+1) v n zs w' h63 ho
  clear hc hn
  generalize (zs.filter fun x=>!(x.toList == [])).length=r at h2 ⊢
  go_enter Tryz.func332,Tryz.ntmps332
  go_wp2_with (first | (go_at_call 262;refine h1.mono ?_;rintro e w1 ⟨v',rfl,ho,hb1⟩) | (go_at_call 354;refine (h2 _ _ ho).mono ?_;rintro e w2 ⟨⟨A2,c2,rfl⟩,hb2⟩))
  go_ret
  refine ⟨rfl,?_⟩
  have e0:Below w.heap.size w (w.alloc (.cells #[.slice A n cap] 266)):=(Below.refl _ w).alloc (Nat.le_refl _) _
  exact e0.trans ((hb1.mono (Nat.le_succ _)).trans (hb2.mono (Nat.le_succ _)))
end Go.Proofs
end
section
namespace Go.VS
open Go Go.Proofs Go.RowKit
theorem aka:∀ (l:List Bs) (zs:List ByteArray),zs.map (fun z=>z.data.toList)=l→((zs.filter fun x=>!(x.toList == [])).length:Int)=usedSlots l:=by
  intro l zs h
  subst h
  unfold usedSlots
  rw [List.filter_map,List.length_map]
  congr 2
  refine List.filter_congr fun x _=>?_
  rw [Lib.toList_data]
  show (!(x.data.toList == []))=!(x.data.toList.isEmpty)
  cases x.data.toList <;> rfl
theorem akk {W:World} (s:St) (o:Out) (he:nUsedSlots s=some o):Good Tryz.prog phi ⟨W.heap.size,Tryz.prog⟩ (oldJ W) false 332 s o:=by
  unfold nUsedSlots at he
  split at he
  · cases he
    refine ⟨Nat.le_refl _,rfl,rfl,fun cx a w h hJ _ S=>?_⟩
    obtain ⟨y,rfl,v1⟩:=act1 S
    obtain ⟨⟨cc⟩,rfl,hsz,hcc⟩:=v1.agg_inv
    rcases cc with _ | ⟨c0,_ | ⟨_,_⟩⟩ <;> simp at hsz
    have k0:=(hcc 0 _ rfl).1
    have k0:=(VOk.k k0).nil_inv
    simp [Array.getD] at k0
    subst k0
    refine .inl ⟨Tryz.call332 _ _,(Tryz.slots155 none 0 0 [] w rfl (by omega) fun e=>absurd e (by omega)).mono ?_⟩
    rintro e w' ⟨rfl,B⟩
    exact ⟨_,rfl,h,(S.below B).slot1 (.k (.l (.pl (.i _ _))))⟩
  · rename_i q xs
    split at he
    · rename_i hl
      obtain ⟨l,hb,rfl⟩:=Option.map_eq_some_iff.1 he
      have hb:=amf hb;subst hb
      refine ⟨Nat.le_refl _,rfl,rfl,fun cx a w h hJ _ S=>?_⟩
      obtain ⟨y,rfl,v1⟩:=act1 S
      obtain ⟨⟨cc⟩,rfl,hsz,hcc⟩:=v1.agg_inv
      rcases cc with _ | ⟨c0,_ | ⟨_,_⟩⟩ <;> simp at hsz
      have k0:=(hcc 0 _ rfl).1
      obtain ⟨A,cap,f,e0,hcap,hz,ha,hv⟩:=(VOk.k k0).view_inv
      simp [Array.getD] at e0
      subst e0
      rw [List.length_map] at hl
      have hfl:(flat (l.map V.s)).length=l.length:=by rw [aex,List.length_map]
      let zs:List ByteArray:=(List.range l.length).map fun j=>match f j with | .string D=>D | _=>.empty
      have hzl:zs.length=l.length:=by simp [zs]
      have hzat:∀ j (hj:j<l.length),∃ D:ByteArray,f j=.string D∧D.data.toList=l[j]∧zs[j]?=some D:=by
        intro j hj
        have p:=hv j (.s l[j]) (by rw [aex,List.getElem?_map,List.getElem?_eq_getElem hj];rfl)
        obtain ⟨D,h1,h2⟩:=(VOk.k (φ:=phi) (h:=h) (.l (.pl p))).s_inv
        refine ⟨D,h1,h2,?_⟩
        simp only [zs,List.getElem?_map,List.getElem?_range hj,Option.map_some,h1]
      have hzl2:zs.map (fun z=>z.data.toList)=l:=by
        refine List.ext_getElem? fun j=>?_
        by_cases hj:j<l.length
        · obtain ⟨D,_,h2,h3⟩:=hzat j hj
          rw [List.getElem?_map,h3,List.getElem?_eq_getElem hj,Option.map_some,h2]
        · rw [List.getElem?_eq_none (by simp [hzl];omega),List.getElem?_eq_none (by omega)]
      have hc:=Tryz.slots155 A l.length cap zs w hzl.symm (by unfold lim at hl;omega) fun h0=>by
        obtain ⟨b,off,rfl,hc⟩:=ha (by rw [hfl];omega)
        refine ⟨b,off,rfl,fun j hj=>?_⟩
        obtain ⟨D,h1,h2,h3⟩:=hzat j hj
        rw [(hc j (by rw [hfl];omega)).2.1,h1,List.getD_eq_getElem?_getD,h3];rfl
      refine .inl ⟨Tryz.call332 _ _,hc.mono ?_⟩
      rintro e w' ⟨rfl,B⟩
      rw [aka l zs hzl2]
      exact ⟨_,rfl,h,(S.below B).slot1 (.k (.l (.pl (.i _ _))))⟩
    · cases he
  · cases he
end Go.VS
end
