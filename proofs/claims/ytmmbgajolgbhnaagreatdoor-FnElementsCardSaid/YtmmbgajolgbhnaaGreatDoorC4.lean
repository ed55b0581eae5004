/-
  Numbers in decimal, joined texts, places of letters: what the machine does.
-/
import Derived.Test.YtmmbgajolgbhnaaGreatDoorVxSh
import Derived.WalkKit
import Derived.Lib.Walk
import Derived.LaidLaws
import Derived.Lib.SmallJoins
import Derived.Lib.AppendIntMem
import Derived.Test.YtmmbgajolgbhnaaGreatDoorC2
import Derived.Lib.ParseIntBTie
set_option linter.all false
section
namespace Go.Proofs
open Go.Shelf Go.RowKit Go.Lib
theorem Tryz.below_gd (w:World) (k:Nat) (os:Array Obj):Below w.heap.size w (Sort.grow (w.drewN k) os):=by
  refine ⟨rfl,rfl,rfl,?_,fun i hi=>?_⟩
  · simp [Sort.grow]
  · have h1:(Sort.grow (w.drewN k) os).heap=w.heap++os:=rfl
    rw [h1,Array.getElem?_append_left hi]
set_option maxRecDepth 100000 in
theorem Tryz.dec139 (n:Int) (h0:-9223372036854775808≤n) (h1:n≤9223372036854775807) (w:World) (htab:Lib.TabIs Tryz.prog w "internal/strconv.uint64pow10" .u64 Lib.pow10Tab):
    Calls Tryz.prog 139 #[.int .i64 n] w fun e w'=>e=.returned (.string ⟨(Lib.itoa n).toArray⟩)∧Below w.heap.size w w':=by
  go_enter Tryz.func139,Tryz.ntmps139
  go_wp2_with (go_at_call 187;refine (Tryz.strconv_FormatInt_10 n h0 h1 _ htab).mono ?_;rintro e w' ⟨rfl,k,os,rfl⟩)
  go_ret
  exact ⟨rfl,Tryz.below_gd w k os⟩
theorem Tryz.tab_below {w w':World} (h:Lib.TabIs Tryz.prog w "internal/strconv.uint64pow10" .u64 Lib.pow10Tab) (b:Below w.heap.size w w'):Lib.TabIs Tryz.prog w' "internal/strconv.uint64pow10" .u64 Lib.pow10Tab:=
  (Lib.tabBelow_of_tabIs h) w' b
def sameB (v:Int) (s:ByteArray):Bool:=decide (Lib.itoa v=s.data.toList)
set_option maxRecDepth 100000 in
theorem Tryz.rd207 (s:ByteArray) (hl:s.size≤1073741824) (v:Int) (h:Lib.parseIntB 64 s.data.toList=.ok v) (h0:-9223372036854775808≤v) (h1:v≤9223372036854775807) (w:World) (htab:Lib.TabIs Tryz.prog w "internal/strconv.uint64pow10" .u64 Lib.pow10Tab):
    Calls Tryz.prog 207 #[.string s] w fun e w'=>e=.returned (.tuple #[.int .i64 v,.bool (sameB v s)])∧Below w.heap.size w w':=by
  have P1:=Tryz.strconv_ParseInt_10_at64_ok s (by omega) v h w
  have P2:Calls Tryz.prog 228 #[.string s,.int .i64 10,.int .i64 64] w fun e w'=>e=.returned (.tuple #[.int .i64 v,.nilIface])∧Hid (Below w.heap.size w w'):=P1.mono fun e w' ⟨e1,e2⟩=>⟨e1,by
    rcases e2 with rfl | ⟨t,rfl⟩
    · exact Below.refl _ _
    · exact Joins.below_bytesWorld _ w 5 t (Nat.le_refl _)⟩
  clear P1
  go_enter Tryz.func207,Tryz.ntmps207
  go_wp2_with (go_at_call 228;refine P2.mono ?_;rintro e w1 ⟨rfl,b1⟩)
  go_wp2_with (go_at_call 139;refine (Tryz.dec139 v h0 h1 w1 (Tryz.tab_below htab b1)).mono ?_;rintro e w2 ⟨rfl,b2⟩)
  have e:(itoa v == s.toList)=sameB v s:=by
    unfold sameB
    rw [Lib.toList_data,Bool.eq_iff_iff];simp
  rw [e]
  go_ret2
  exact ⟨rfl,Below.trans b1 (b2.mono b1.size)⟩
theorem Tryz.rd207_syn (s:ByteArray) (hl:s.size≤1073741824) (h:Lib.parseIntB 64 s.data.toList=Lib.parseIntB 64 []) (tp:TypeId) (p:Value) (w:World) (hvar:w.var? Tryz.prog "strconv.ErrSyntax" = some #[.iface tp p]):
    Calls Tryz.prog 207 #[.string s] w fun e w'=>e=.returned (.tuple #[.int .i64 0,.bool false])∧Below w.heap.size w w':=by
  have P1:=Tryz.strconv_ParseInt_10_at64_syntax_var s (by omega) h tp p w hvar
  have P2:Calls Tryz.prog 228 #[.string s,.int .i64 10,.int .i64 64] w fun e w'=>∃ N,e=.returned (.tuple #[.int .i64 0,.iface 236 (.pointer (some ⟨N,0,none⟩))])∧Hid (Below w.heap.size w w'):=P1.mono fun e w' ⟨N,e1,_,_,e2⟩=>⟨N,e1,e2⟩
  clear P1
  go_enter Tryz.func207,Tryz.ntmps207
  go_wp2_with (go_at_call 228;refine P2.mono ?_;rintro e w1 ⟨N,rfl,b1⟩)
  go_ret2
  exact ⟨rfl,b1⟩
theorem Tryz.rd207_rng (s:ByteArray) (hl:s.size≤1073741824) (h:Lib.parseIntB 64 s.data.toList=.range) (tp:TypeId) (p:Value) (w:World) (hvar:w.var? Tryz.prog "strconv.ErrRange" = some #[.iface tp p]):
    Calls Tryz.prog 207 #[.string s] w fun e w'=>e=.returned (.tuple #[.int .i64 (Lib.intSat 64 s.data.toList),.bool false])∧Below w.heap.size w w':=by
  have P1:=Tryz.strconv_ParseInt_10_at64_range_var s (by omega) h tp p w hvar
  generalize Lib.intSat 64 s.data.toList=k at P1 ⊢
  have P2:Calls Tryz.prog 228 #[.string s,.int .i64 10,.int .i64 64] w fun e w'=>∃ N,e=.returned (.tuple #[.int .i64 k,.iface 236 (.pointer (some ⟨N,0,none⟩))])∧Hid (Below w.heap.size w w'):=P1.mono fun e w' ⟨N,e1,_,_,e2⟩=>⟨N,e1,e2⟩
  clear P1
  go_enter Tryz.func207,Tryz.ntmps207
  go_wp2_with (go_at_call 228;refine P2.mono ?_;rintro e w1 ⟨N,rfl,b1⟩)
  go_ret2
  exact ⟨rfl,b1⟩
end Go.Proofs
end
section
namespace Go.VS
open Go Go.Proofs Go.RowKit
set_option maxRecDepth 100000
structure LaidAll (W:World):Prop where
  tab:Lib.TabIs Tryz.prog W "internal/strconv.uint64pow10" .u64 Lib.pow10Tab
  syn:∃ tp p,W.var? Tryz.prog "strconv.ErrSyntax" = some #[.iface tp p]
  rng:∃ tp p,W.var? Tryz.prog "strconv.ErrRange" = some #[.iface tp p]
theorem al8 {W w:World} {n:String} {cs:Array Value} (hk:∀ b:Nat,b<W.heap.size→w.heap[b]?=W.heap[b]?) (h:W.var? Tryz.prog n=some cs):w.var? Tryz.prog n=some cs:=by
  unfold World.var? at *
  cases hg:Tryz.prog.globalNamed n with
  | none=>rw [hg] at h;cases h
  | some g=>
    rw [hg] at h
    simp only [Option.bind_some] at h ⊢
    have hlt:g<W.heap.size:=Nat.lt_of_not_le fun hge=>by
      rw [Array.getElem?_eq_none hge] at h;cases h
    rw [hk g hlt];exact h
theorem LaidAll.keep {W w:World} (L:LaidAll W) (hk:∀ b:Nat,b<W.heap.size→w.heap[b]?=W.heap[b]?):LaidAll w:=
  ⟨al8 hk L.tab,let ⟨tp,p,h⟩:=L.syn;⟨tp,p,al8 hk h⟩,let ⟨tp,p,h⟩:=L.rng;⟨tp,p,al8 hk h⟩⟩
theorem amz {W:World} (L:LaidAll W) (s:St) (o:Out) (he:nDecimal s=some o):Good Tryz.prog phi ⟨W.heap.size,Tryz.prog⟩ (oldJ W) false 139 s o:=by
  unfold nDecimal at he
  split at he
  · rename_i n
    split at he
    · rename_i hc
      cases he
      refine ⟨Nat.le_refl _,rfl,rfl,fun cx a w h hJ _ S=>?_⟩
      obtain ⟨y,rfl,v1⟩:=act1 S
      have v1:=v1.i_inv;subst v1
      have hk:=(S.kept (ajm Tryz.prog W) hJ).2.2.1
      refine .inl ⟨Tryz.call139 _ _,(Tryz.dec139 n hc.1 hc.2 w (L.keep hk).tab).mono ?_⟩
      rintro e w' ⟨rfl,B⟩
      exact ⟨_,rfl,h,(S.below B).slot1 (.k (.l (.pl (.s ⟨_⟩))))⟩
    · cases he
  · cases he
theorem am0 {W:World} (L:LaidAll W) (s:St) (o:Out) (he:nReadDec s=some o):Good Tryz.prog phi ⟨W.heap.size,Tryz.prog⟩ (oldJ W) false 207 s o:=by
  unfold nReadDec at he
  split at he
  · rename_i l
    split at he
    · rename_i hc
      cases he
      refine ⟨Nat.le_refl _,rfl,rfl,fun cx a w h hJ _ S=>?_⟩
      obtain ⟨y,rfl,v1⟩:=act1 S
      obtain ⟨A,rfl,hA⟩:=v1.s_inv
      have hk:=(S.kept (ajm Tryz.prog W) hJ).2.2.1
      have hs:A.size≤1073741824:=by
        have:A.size=l.length:=by rw [← hA];rfl
        unfold lim at hc;omega
      have fin:∀ (v:Int) (b:Bool) (w':World),Below w.heap.size w w'→∃ h',Sim phi ⟨W.heap.size,Tryz.prog⟩ cx ⟨[.tup [.i .i64 v,.b b]],[],[]⟩ ⟨#[.tuple #[.int .i64 v,.bool b]],[]⟩ w' h':=fun v b w' B=>
        ⟨h,(S.below B).slot1 (.tup _ _ rfl fun j u hj=>by
          match j,hj with
          | 0,hj=>cases hj;exact .mki _ _
          | 1,hj=>cases hj;exact .mkb _
          | j+2,hj=>simp at hj)⟩
      unfold rdDec
      rw [← hA]
      cases hp:Lib.parseIntB 64 A.data.toList
      · rename_i v
        obtain ⟨b1,b2⟩:=Lib.parseIntB_bounds hp
        refine .inl ⟨Tryz.call207 _ _,(Tryz.rd207 A hs v hp (by simpa using b1) (by simp at b2;omega) w (L.keep hk).tab).mono ?_⟩
        rintro e w' ⟨rfl,B⟩
        exact ⟨_,rfl,fin _ _ w' B⟩
      · obtain ⟨tp,p,hv⟩:=(L.keep hk).syn
        refine .inl ⟨Tryz.call207 _ _,(Tryz.rd207_syn A hs hp tp p w hv).mono ?_⟩
        rintro e w' ⟨rfl,B⟩
        exact ⟨_,rfl,fin _ _ w' B⟩
      · obtain ⟨tp,p,hv⟩:=(L.keep hk).rng
        refine .inl ⟨Tryz.call207 _ _,(Tryz.rd207_rng A hs hp tp p w hv).mono ?_⟩
        rintro e w' ⟨rfl,B⟩
        exact ⟨_,rfl,fin _ _ w' B⟩
    · cases he
  · cases he
theorem ark (c:UInt8):∀ l:Bs,idxB c l=Lib.indexByte l c
  | []=>rfl
  | x :: l=>by
    rw [idxB,Lib.indexByte,ark c l]
    simp
theorem ajz {W:World} (s:St) (o:Out) (he:nIndexByte s=some o):Good Tryz.prog phi ⟨W.heap.size,Tryz.prog⟩ (oldJ W) false 231 s o:=by
  unfold nIndexByte at he
  split at he
  · rename_i l c
    split at he
    · rename_i hc
      cases he
      refine ⟨Nat.le_refl _,rfl,rfl,fun cx a w h hJ _ S=>?_⟩
      obtain ⟨y,y2,rfl,v1,v2⟩:=act2 S
      obtain ⟨A,rfl,hA⟩:=v1.s_inv
      have v2:=v2.i_inv;subst v2
      refine .inl ⟨Tryz.call231 _ _,(Tryz.strings_IndexByte A c w).mono ?_⟩
      rintro e w' ⟨rfl,rfl⟩
      refine ⟨_,rfl,h,S.slot1 ?_⟩
      rw [ark,hA]
      exact .mki _ _
    · cases he
  · cases he
theorem aqb:∀ {xs:List V} {l:List Bs},strs xs=some l→xs=l.map V.s
  | [],l,h=>by cases h;rfl
  | v :: xs,l,h=>by
    cases v <;> simp only [strs] at h <;> (try (cases h;done))
    obtain ⟨l',h1,rfl⟩:=Option.map_eq_some_iff.1 h
    rw [aqb h1];rfl
theorem flat_s:∀ l:List Bs,flat (l.map V.s)=l.map V.s
  | []=>rfl
  | a :: l=>by rw [List.map_cons,aa3,flat_s l];rfl
theorem ari {W:World} (s:St) (o:Out) (he:nJoin s=some o):Good Tryz.prog phi ⟨W.heap.size,Tryz.prog⟩ (oldJ W) false 138 s o:=by
  unfold nJoin at he
  split at he
  · rename_i p
    cases he
    refine ⟨Nat.le_refl _,rfl,rfl,fun cx a w h hJ _ S=>?_⟩
    obtain ⟨y,y2,rfl,v1,v2⟩:=act2 S
    have v1:=v1.nil_inv;subst v1
    obtain ⟨P,rfl,hP⟩:=v2.s_inv
    refine .inl ⟨Tryz.call138 _ _,(Tryz.strings_Join_none none 0 P w).mono ?_⟩
    rintro e w' ⟨rfl,rfl⟩
    exact ⟨_,rfl,h,S.slot1 (.k (.l (.pl (.s ⟨_⟩))))⟩
  · rename_i q xs p
    split at he
    · rename_i hl
      split at he
      · rename_i l hs
        split at he
        · rename_i hj
          cases he
          obtain rfl:=aqb hs
          refine ⟨Nat.le_refl _,rfl,rfl,fun cx a w h hJ _ S=>?_⟩
          obtain ⟨y,y2,rfl,v1,v2⟩:=act2 S
          obtain ⟨A,cap,f,rfl,g1,_,g2,g3⟩:=v1.view_inv
          obtain ⟨P,rfl,hP⟩:=v2.s_inv
          have hfl:=flat_s l
          rw [hfl] at g2 g3
          have hlen:(l.map V.s).length=l.length:=List.length_map _
          by_cases h0:l=[]
          · subst h0
            refine .inl ⟨Tryz.call138 _ _,(Tryz.strings_Join_none A cap P w).mono ?_⟩
            rintro e w' ⟨rfl,rfl⟩
            exact ⟨_,rfl,h,S.slot1 (.k (.l (.pl (.s ⟨_⟩))))⟩
          · have hp0:0<l.length:=List.length_pos_iff.2 h0
            obtain ⟨b,o,rfl,hc⟩:=g2 (by rw [hlen];exact hp0)
            have hcell:∀ (j:Nat) x,(l.map fun b:Bs=>(⟨⟨b⟩⟩:ByteArray))[j]?=some x→w.cell? ⟨b,o+j,none⟩=some (.string x):=fun j x hx=>by
              rw [List.getElem?_map] at hx
              obtain ⟨u,hu,rfl⟩:=Option.map_eq_some_iff.1 hx
              have hlt:=(List.getElem?_eq_some_iff.1 hu).1
              obtain ⟨_,c2,_⟩:=hc j (by rw [hlen];exact hlt)
              have hk:=g3 j (.s u) (by rw [List.getElem?_map,hu];rfl)
              obtain ⟨x,e1,e2⟩:=(VOk.mkp (φ:=phi) (h:=h) hk).s_inv
              rw [c2,e1]
              congr 2
              obtain ⟨⟨xl⟩⟩:=x
              simp only at e2
              rw [← e2]
            have hb:b<w.heap.size:=World.block_lt_of_cell? w _ (hc 0 (by rw [hlen];exact hp0)).2.1
            have hm:(l.map fun b:Bs=>(⟨⟨b⟩⟩:ByteArray)).map (·.data.toList)=l:=by
              rw [List.map_map];exact List.map_id' l
            have key:=Tryz.strings_Join b o cap (l.map fun b:Bs=>(⟨⟨b⟩⟩:ByteArray)) P w hcell hb (by rw [List.length_map];rw [hlen] at hl;unfold lim at hl;omega) (by rw [List.length_map];rw [hlen] at g1;exact g1) (by rw [hm,hP];unfold lim at hj;omega)
            rw [List.length_map,hm,hP] at key
            rw [hlen]
            refine .inl ⟨Tryz.call138 _ _,key.mono ?_⟩
            rintro e w' ⟨rfl,B⟩
            exact ⟨_,rfl,h,(S.below B).slot1 (.k (.l (.pl (.s ⟨_⟩))))⟩
        · cases he
      · cases he
    · cases he
  · cases he
end Go.VS
end
