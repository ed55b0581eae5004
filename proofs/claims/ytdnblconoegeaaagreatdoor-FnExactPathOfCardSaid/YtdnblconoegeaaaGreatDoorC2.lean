/-
  Library functions: what the machine does.
-/
import Derived.Shelf.Strings.Builder1
import Derived.Test.YtdnblconoegeaaaGreatDoorProg
import Derived.Test.YtdnblconoegeaaaGreatDoorVxSh
import Derived.Shelf.RegionOpenPlain
import Derived.WalkKit
import Derived.Deep.LoopGhost
import Derived.Lib.Walk
import Derived.Lib.SliceRun
import Derived.RangeFuncNested
import Derived.RangeFuncBound
import Derived.RangeFuncCalls
import Derived.RangeFuncLeaves
import Derived.Shelf.Abstract
import Derived.Shelf.RegionOpen
import Derived.OwnWalkIn
import Derived.TacticsInMore
import Derived.LoopNIn
import Derived.LoopIn
set_option linter.all false
section
namespace Go.Proofs
open Go.Shelf Go.RowKit
theorem Tryz.sizeB:∃ j,Tryz.prog.info? 254=some j:=by
  have h:(Tryz.prog.info? 254).isSome=true:=by kernel_rfl
  exact Option.isSome_iff_exists.1 h
set_option maxHeartbeats 1000000 in
set_option maxRecDepth 100000 in
theorem Tryz.copyCheck_used (b o:Nat) (w:World) (h0:w.cell? ⟨b,o,none⟩=some (.pointer (some ⟨b,o,none⟩))):
    Calls Tryz.prog 271 #[.pointer (some ⟨b,o,none⟩)] w fun e w'=>e=.returned (.tuple #[])∧w'=w:=by
  obtain ⟨j,hj⟩:=Tryz.sizeB
  go_enter Tryz.func271,Tryz.ntmps271
  go_wp2
  rw [Lib.run_neq_ptr_same w _ Tryz.underlying251 hj]
  go_wp2
  go_end0
  exact ⟨rfl,rfl⟩
set_option maxHeartbeats 1000000 in
set_option maxRecDepth 100000 in
theorem Tryz.copyCheck_fresh (b:Nat) (w:World) (h0:w.cell? ⟨b,0,none⟩=some (.pointer none)) (hsh:w.shape? b=some (254,2)) (hfz:w.frozen? ⟨b,0,none⟩=false):
    Calls Tryz.prog 271 #[.pointer (some ⟨b,0,none⟩)] w fun e w'=>e=.returned (.tuple #[])∧w'=w.setCell ⟨b,0,none⟩ (.pointer (some ⟨b,0,none⟩)):=by
  have hsz:(Tryz.prog.info? 254).map (·.size)=some 2:=by kernel_rfl
  obtain ⟨j,hj,hjs⟩:=Option.map_eq_some_iff.1 hsz
  go_enter Tryz.func271,Tryz.ntmps271
  go_wp2
  rw [Lib.run_to_unsafe w ⟨b,0,none⟩ Tryz.underlying251 Tryz.underlying361 hj (by rw [hjs];decide) hsh (Nat.zero_lt_succ 1)]
  simp only [Result.andThen]
  rw [Oper.upon_value]
  go_wp2
  rw [run_callFunc_extern Tryz.func316 (by kernel_rfl) (by kernel_rfl) (by kernel_rfl) (e:=Extern.AbiNoEscape.same) (by kernel_rfl)]
  rw [Lib.run_noEscape]
  simp only [Result.andThen]
  rw [Oper.upon_value]
  go_wp2
  rw [Lib.run_from_unsafe w ⟨b,0,none⟩ Tryz.underlying361 Tryz.underlying251 hj hsh (by kernel_rfl)]
  simp only [Result.andThen]
  rw [Oper.upon_value]
  go_wp2
  go_end0
  exact ⟨rfl,rfl⟩
set_option maxHeartbeats 1000000 in
set_option maxRecDepth 100000 in
theorem Tryz.String_some (b o g cap size:Nat) (l:List UInt8) (w:World) (hc:w.cell? ⟨b,o+1,none⟩=some (.slice (some ⟨g,0,none⟩) l.length cap)) (h0:l≠[]) (hcap:l.length≤cap) (hsz:l.length≤size) (h63:size≤maxLen) (hsh:w.shape? g=some (5,size))
    (hcell:∀ j x,l[j]?=some x→w.cell? ⟨g,j,none⟩=some (.int .u8 x.toNat)):
    Calls Tryz.prog 206 #[.pointer (some ⟨b,o,none⟩)] w fun e w'=>e=.returned (.string ⟨l.toArray⟩)∧w'=w.drew.freeze ⟨g,0,none⟩ l.length:=by
  have hl0:l.length≠0:=by simpa using h0
  have c1:w.drew.cell? ⟨b,o+1,none⟩=some (.slice (some ⟨g,0,none⟩) l.length cap):=hc
  have hSD:(Builtin.unsafeSliceData_ #[252] 325 #[.slice (some ⟨g,0,none⟩) l.length cap]).run Tryz.prog w.drew=.ok (.pointer (some ⟨g,0,none⟩)) w.drew:=
    Lib.run_unsafeSliceData_row _ _ _ _ _ _ (by omega)
  have hUS:(Builtin.unsafeString_ #[325,3] 9 #[.pointer (some ⟨g,0,none⟩),.int .i64 l.length]).run Tryz.prog w.drew=.ok (.string ⟨l.toArray⟩) (w.drew.freeze ⟨g,0,none⟩ l.length):=by
    refine Lib.run_unsafeString_row w.drew 325 3 9 5 Tryz.underlying325 (by kernel_rfl) g size hsh l h0 hsz (by unfold maxLen at h63;omega) ?_
    intro j x hx
    have:=hcell j x hx
    unfold Addr.add
    by_cases hj:j=0
    · subst hj;simpa using this
    · simpa [hj] using this
  go_enter Tryz.func206,Tryz.ntmps206
  go_wp2
  go_region
  all_goals (go_wp2;go_ret;exact ⟨rfl,rfl⟩)
theorem ame (W:World) (A:Option Addr) (cap:Nat) (ts:Array TypeId) (hA:∀ a,A=some a→∃ sh,W.shape? a.block=some sh) (hty:Tryz.prog.underlying 325=some (.pointer 5)):∃ p W',(Builtin.unsafeSliceData_ ts 325 #[.slice A 0 cap]).run Tryz.prog W=.ok (.pointer p) W'∧(W'=W∨∃ o,W'=W.alloc o):=by
  cases A with
  | none=>exact ⟨none,W,rfl,.inl rfl⟩
  | some a=>
    by_cases hc:cap=0
    · subst hc
      obtain ⟨sh,hsh⟩:=hA a rfl
      exact ⟨_,_,Lib.run_unsafeSliceData_zero W ts 325 5 hty a 0 sh hsh,.inr ⟨_,rfl⟩⟩
    · exact ⟨some a,W,Lib.run_unsafeSliceData_row _ _ _ _ _ _ hc,.inl rfl⟩
set_option maxHeartbeats 1000000 in
set_option maxRecDepth 100000 in
theorem Tryz.String_none (b o cap:Nat) (A:Option Addr) (w:World) (hA:∀ a,A=some a→∃ sh,w.shape? a.block=some sh) (hb:b<w.heap.size) (hc:w.cell? ⟨b,o+1,none⟩=some (.slice A 0 cap)):
    Calls Tryz.prog 206 #[.pointer (some ⟨b,o,none⟩)] w fun e w'=>e=.returned (.string ⟨#[]⟩)∧Below w.heap.size w w':=by
  have c1:w.drew.cell? ⟨b,o+1,none⟩=some (.slice A 0 cap):=hc
  obtain ⟨p,W',hSD,hW⟩:=ame w.drew A cap #[252] hA Tryz.underlying325
  have hB:Below w.heap.size w W':=by
    rcases hW with rfl | ⟨ob,rfl⟩
    · exact Below.drew (Below.refl _ w)
    · exact (Below.drew (Below.refl _ w)).alloc (Nat.le_refl _) _
  have c2:W'.cell? ⟨b,o+1,none⟩=some (.slice A 0 cap):=(hB.cell (p:=⟨b,o+1,none⟩) hb).trans hc
  have hUS:(Builtin.unsafeString_ #[325,3] 9 #[.pointer p,.int .i64 0]).run Tryz.prog W'=.ok (.string .empty) W':=Lib.run_unsafeString_none W' _ _ _ p
  go_enter Tryz.func206,Tryz.ntmps206
  go_wp2
  go_region
  all_goals (go_wp2;go_ret;exact ⟨rfl,hB⟩)
end Go.Proofs
end
section
namespace Go.Proofs
open Go.Shelf Go.RowKit Go.Lib
end Go.Proofs
end
section
namespace Go.Proofs
open Go.RowKit Go.Shelf
attribute [local go_sem] Oper.semAt_some
theorem amp {W:World} {a:Addr} {v:Value} (o:Obj) (h:W.cell? a=some v):(W.alloc o).cell? a=some v:=cell_kept h (World.grownBy_alloc W o none) (fun r e=>by cases e)
def bkUpto {α:Type} (f:Nat→α) (k:Nat):List α:=(List.range k).map f
theorem agh {α:Type} (f:Nat→α) (k:Nat):bkUpto f (k+1)=bkUpto f k++[f k]:=by simp [bkUpto,List.range_succ]
theorem ali {α:Type} (f:Nat→α) (k:Nat):(bkUpto f k).length=k:=by simp [bkUpto]
abbrev PutE:=Nat × Int × ByteArray
def putAt (zs:List (Int × ByteArray)) (j:Nat):Int × ByteArray:=zs[j]?.getD (0,ByteArray.empty)
def bkF (zs:List (Int × ByteArray)) (k:Nat):PutE:=(zs.length - 1 - k,putAt zs (zs.length - 1 - k))
def encP (x:PutE):Array Value:=#[.int .i64 (x.1:Int),.agg #[.int .i64 x.2.1,.string x.2.2]]
def Puts (n₀:Nat) (W:World) (A:Option Addr) (zs:List (Int × ByteArray)):Prop:=
  0<zs.length→∃ b off,A=some ⟨b,off,none⟩∧b<n₀∧∀ j,j<zs.length→W.cell? ⟨b,off+j*2,none⟩=some (.int .i64 (putAt zs j).1)∧W.cell? ⟨b,off+j*2+1,none⟩=some (.string (putAt zs j).2)
theorem Puts.below {n₀:Nat} {X Y:World} (h:Below n₀ X Y) {A:Option Addr} {zs:List (Int × ByteArray)} (hp:Puts n₀ X A zs):Puts n₀ Y A zs:=fun h0=>by
  obtain ⟨b,off,e,hb,hc⟩:=hp h0
  exact ⟨b,off,e,hb,fun j hj=>⟨(h.cell (p:=⟨b,off+j*2,none⟩) hb).trans (hc j hj).1,(h.cell (p:=⟨b,off+j*2+1,none⟩) hb).trans (hc j hj).2⟩⟩
set_option maxRecDepth 100000 in
set_option maxHeartbeats 4000000 in
theorem Tryz.back1_in (F:Fence) (n:Nat) (h196:F.fn 360) (hro:F.round=none) (hn:1≤n) (l Bs n₀ cap:Nat) (A:Option Addr) (zs:List (Int × ByteArray)) (hreach:zs.length≤9223372036854775807) (J Jx:List PutE→World→Prop)
    (hY:∀ pre x W,J pre W→pre.length<zs.length→YieldAt F (n - 1) Tryz.prog l (encP x) W fun e W'=>
      (e=.returned (.bool true)∧J (pre++[x]) W'∧Below n₀ W W')∨(e=.returned (.bool false)∧Jx (pre++[x]) W'))
    (W:World) (hBs:W.cell? ⟨Bs,0,none⟩=some (.slice A zs.length cap)) (hBn:Bs<n₀) (hI:Puts n₀ W A zs) (h0:J [] W):
    CallsIn F n Tryz.prog 360 #[.func (.yield l) #[] #[],.pointer (some ⟨Bs,0,none⟩)] W fun e W'=>(∃ v,e=.returned v) ∧
      ((∃ ys,ys=bkUpto (bkF zs) zs.length∧J ys W')∨(∃ pre,(∃ k,k≤zs.length∧pre=bkUpto (bkF zs) k)∧Jx pre W')):=by
  refine callsIn_of_wp Tryz.func360 rfl h196 ?_ hro
  simp only [Tryz.ntmps360,List.size_toArray,List.length_cons,List.length_nil,Nat.reduceAdd,Nat.reduceSub,Array.replicate_succ,Array.replicate_zero,List.push_toArray,List.append_toArray,List.nil_append,List.cons_append]
  gi_wp2
  gi_loopw [3] (fun i wr=>∃ (k:Nat) (q:Int),k≤zs.length∧q=(zs.length:Int) - 1 - k∧i=.int .i64 q∧J (bkUpto (bkF zs) k) wr∧Below n₀ W wr)
    (fun i _=>(intOf i+1).toNat)
  case atStart=>exact ⟨0,_,Nat.zero_le _,by simp,rfl,h0,Below.refl _ _⟩
  case round=>
    obtain ⟨k,q,hk,hq,rfl,hJs,hnx⟩:=hrel
    have hBs':wr.cell? ⟨Bs,0,none⟩=some (.slice A zs.length cap):=(hnx.cell (p:=⟨Bs,0,none⟩) hBn).trans hBs
    by_cases hlt:k<zs.length
    · obtain ⟨m,hm⟩:∃ m:Nat,m=zs.length - 1 - k:=⟨_,rfl⟩
      obtain rfl:q=(m:Int):=by omega
      clear hq
      obtain ⟨b,off,rfl,hb,hc⟩:=(hI.below hnx) (by omega)
      obtain ⟨hc1,hc2⟩:=hc m (by omega)
      obtain ⟨fn,tmps,assign,body,hy,hR⟩:=hY _ (bkF zs k) wr hJs (by rw [ali];exact hlt)
      rw [show bkF zs k=(m,putAt zs m) by rw [hm];rfl] at hy hR
      dsimp only [encP] at hy
      have hlt':m<zs.length:=by omega
      have HM:Hid (m=zs.length - 1 - k):=hm
      clear hm
      gi_wp2
      refine hR.mono ?_
      rintro e W3 (⟨rfl,hJ3,hk3⟩ | ⟨rfl,hJx3⟩)
      · gi_wp2
        go_roundw
        case rel=>exact ⟨k+1,_,by omega,by have:=HM.out;omega,rfl,by rw [agh,show bkF zs k=(m,putAt zs m) by rw [HM.out];rfl];exact hJ3,hnx.trans hk3⟩
        case measure=>simp [intOf]
      · gi_wp2
        refine bodyPost_ret (results_none rfl _ _ _) rfl ?_
        exact ⟨⟨_,rfl⟩,.inr ⟨_,⟨k+1,by omega,by rw [agh,show bkF zs k=(m,putAt zs m) by rw [HM.out];rfl]⟩,hJx3⟩⟩
    · obtain rfl:k=zs.length:=by omega
      obtain rfl:q=-1:=by omega
      gi_wp2
      go_end0
      exact ⟨⟨_,rfl⟩,.inl ⟨_,rfl,hJs⟩⟩
set_option maxHeartbeats 1000000 in
theorem Tryz.back_in (F:Fence) (n:Nat) (h184:F.fn 341) (hro:F.round=none) (a:Option Addr) (len cap:Nat) (w:World):
    CallsIn F n Tryz.prog 341 #[.slice a len cap] w fun e w'=>e=.returned (.func (.func 360) #[] #[.pointer (some ⟨w.heap.size,0,none⟩)])∧w'=w.alloc (.cells #[.slice a len cap] 36):=by
  refine callsIn_of_wp Tryz.func341 rfl h184 ?_ hro
  simp only [Tryz.ntmps341,List.size_toArray,List.length_cons,List.length_nil,Nat.reduceAdd,Nat.reduceSub,Array.replicate_succ,Array.replicate_zero,List.push_toArray,List.append_toArray,List.nil_append,List.cons_append]
  gi_wp2
  go_ret
  exact ⟨rfl,rfl⟩
theorem Tryz.back_stops (F:Fence) (n:Nat) (h196:F.fn 360) (hro:F.round=none) (hn:1≤n) (Bs n₀ cap:Nat) (A:Option Addr) (zs:List (Int × ByteArray)) (hreach:zs.length≤9223372036854775807) (w:World) (hBs:Bs<w.heap.size) (hBn:Bs<n₀) (hn₀:n₀≤w.heap.size)
    (hc:w.cell? ⟨Bs,0,none⟩=some (.slice A zs.length cap)) (hI:Puts n₀ w A zs):
    SeqStopsK F n Tryz.prog 360 #[.pointer (some ⟨Bs,0,none⟩)] encP (Below n₀) (fun ys=>ys=bkUpto (bkF zs) zs.length) (fun pre=>∃ k,k≤zs.length∧pre=bkUpto (bkF zs) k) zs.length w:=fun l J Jx W hW _ _ hY h0=>
  Tryz.back1_in F n h196 hro hn l Bs n₀ cap A zs hreach J Jx hY W ((hW.cell (p:=⟨Bs,0,none⟩) hBs).trans hc) hBn (hI.below (hW.mono hn₀)) h0
set_option maxRecDepth 100000 in
set_option maxHeartbeats 4000000 in
theorem Tryz.read_in (F:Fence) (n:Nat) (h159:F.fn 315) (h184:F.fn 341) (h196:F.fn 360) (hro:F.round=none) (hn:3≤n) (k:Int) (A Ab:Option Addr) (cap capb nb:Nat) (v2 v3:Value) (zs:List (Int × ByteArray)) (hreach:zs.length≤9223372036854775807) (w:World)
    (hI:Puts w.heap.size w A zs) (R:ByteArray) (hR:(∀ k',k'<zs.length→(∀ j,k'<j→j<zs.length→(putAt zs j).1≠k)→(putAt zs k').1=k→R=(putAt zs k').2))
    (hN:(∀ j,j<zs.length→(putAt zs j).1≠k)→∃ m:Nat,k=m∧m<nb∧∃ b off,Ab=some ⟨b,off,none⟩∧w.cell? ⟨b,off+m,none⟩=some (.string R)∧b<w.heap.size):
    CallsIn F n Tryz.prog 315 #[.agg #[.slice Ab nb capb,.slice A zs.length cap,v2,v3],.int .i64 k] w fun e W'=>e=.returned (.string R)∧Below w.heap.size w W':=by
  have h1:1≤n:=by omega
  refine callsIn_of_wp_marks Tryz.func315 rfl h159 ?_ hro
  simp only [Tryz.ntmps315,List.size_toArray,List.length_cons,List.length_nil,Nat.reduceAdd,Nat.reduceSub,Array.replicate_succ,Array.replicate_zero,List.push_toArray,List.append_toArray,List.nil_append,List.cons_append]
  gi_wp2_with (gi_at_call 341;refine (Tryz.back_in F (n - 1) h184 hro _ _ _ _).mono ?_;rintro e w' ⟨rfl,rfl⟩)
  obtain ⟨w1,hw1⟩:∃ w1,w.alloc (.cells #[.slice Ab nb capb,.slice A zs.length cap,v2,v3] 38)=w1:=⟨_,rfl⟩
  have cD:w1.cell? ⟨w.heap.size,0,none⟩=some (.slice Ab nb capb):=by rw [← hw1];unfold World.cell?;rw [World.alloc_heap_new];rfl
  have z1:w1.heap.size=w.heap.size+1:=by rw [← hw1];simp
  have hB1:Below w.heap.size w w1:=by rw [← hw1];exact (Below.refl _ w).alloc (Nat.le_refl _) _
  obtain ⟨W0,hW0⟩:∃ W0,((w1.alloc (.cells #[.int .i64 k] 2)).alloc (.cells #[.string { data:=#[] }] 9)).alloc (.cells #[.slice A zs.length cap] 36)=W0:=⟨_,rfl⟩
  have bK:=((Boxed.new w1 2 (.int .i64 k)).alloc (.cells #[.string { data:=#[] }] 9)).alloc (.cells #[.slice A zs.length cap] 36)
  have bR:=(Boxed.new (w1.alloc (.cells #[.int .i64 k] 2)) 9 (.string { data:=#[] })).alloc (.cells #[.slice A zs.length cap] 36)
  have bS:=Boxed.new ((w1.alloc (.cells #[.int .i64 k] 2)).alloc (.cells #[.string { data:=#[] }] 9)) 36 (.slice A zs.length cap)
  simp only [World.size_alloc,z1] at bK bR bS
  have hsz:W0.heap.size=w.heap.size+4:=by rw [← hW0];simp [z1]
  have hB0:Below (w.heap.size+1) w1 W0:=by rw [← hW0];exact (((Below.refl _ w1).alloc (by omega) _).alloc (by simp;omega) _).alloc (by simp;omega) _
  have cD0:W0.cell? ⟨w.heap.size,0,none⟩=some (.slice Ab nb capb):=(hB0.cell (p:=⟨w.heap.size,0,none⟩) (by simp)).trans cD
  have hBw:Below w.heap.size w W0:=hB1.trans (hB0.mono (by omega))
  rw [hw1,hW0]
  rw [hW0] at bK bR bS
  clear hW0 hw1 hB0 cD
  refine wpIn_rangeFunc_ownH hro h1 (gf:=360) (lb:=#[.pointer (some ⟨w.heap.size+1+1+1,0,none⟩)]) rfl h196 (enters_of Tryz.func360 (by kernel_rfl) rfl)
    (Tryz.back_stops F (n - 1) h196 hro (by omega) (w.heap.size+1+1+1) (w.heap.size+4) cap A zs hreach W0 (by omega) (by omega) (by omega) bS.cell (by
      intro h0
      obtain ⟨b,off,e,hb,hc⟩:=(hI.below hBw) h0
      exact ⟨b,off,e,by omega,hc⟩)) belowK_t (belowK_b (by omega)) (Below.refl _ _) (fun _=>rfl)
    (fun pre W=>(((∀ y ∈ pre,y.2.1≠k)∧W.cell? ⟨w.heap.size,0,none⟩=some (.slice Ab nb capb))∧(Boxed W (w.heap.size+1) 2 (.int .i64 k)∧Boxed W (w.heap.size+1+1) 9 (.string { data:=#[] })))∧Below w.heap.size W0 W)
    (fun c pre W=>((c=.ret∧∃ pre' x,pre=pre'++[x]∧(∀ y ∈ pre',y.2.1≠k)∧x.2.1=k∧W.cell? ⟨w.heap.size+1+1,0,none⟩=some (.string x.2.2))∧Below w.heap.size W0 W))
    (OwnFrom.and (OwnFrom.and (Own.from (fun s A B row hs hg hr=>⟨hs.1,cell_kept hs.2 hg hr⟩) _) (OwnFrom.and (Own.from (boxed_own _ _ _) _) (Own.from (boxed_own _ _ _) _))) (ownFrom_below (by omega) (by omega)))
    (fun c=>OwnFrom.and (Own.from (fun s A B row hs hg hr=>by obtain ⟨h1,pre',x,h2,h3,h4,h5⟩:=hs;exact ⟨h1,pre',x,h2,h3,h4,cell_kept h5 hg hr⟩) _) (ownFrom_below (by omega) (by omega)))
    ⟨⟨⟨by simp,cD0⟩,bK,bR⟩,Below.refl _ _⟩
    (fun x a' W=>∃ Bx,w.heap.size+3<Bx∧(W.cell? ⟨Bx,0,none⟩=some (.int .i64 x.2.1)∧W.cell? ⟨Bx,1,none⟩=some (.string x.2.2))∧a'={ tmps:=#[.agg #[.slice Ab nb capb,.slice A zs.length cap,v2,v3],.int .i64 k,.pointer (some ⟨w.heap.size,0,none⟩),.pointer (some ⟨w.heap.size+1,0,none⟩),.pointer (some ⟨w.heap.size+1+1,0,none⟩),undef,.pointer (some ⟨Bx,0,none⟩),.pointer (some ⟨w.heap.size,1,none⟩),.slice A zs.length cap,.func (.func 360) #[] #[.pointer (some ⟨w.heap.size+1+1+1,0,none⟩)],.int .i64 (x.1:Int),.agg #[.int .i64 x.2.1,.string x.2.2],undef,undef,undef,undef,undef,undef,undef,undef,undef,undef,undef],defers:=[] })
    (fun x a' _ X Y row hs hg hr=>by obtain ⟨Bx,h1,⟨h2,h3⟩,h4⟩:=hs;exact ⟨Bx,h1,⟨cell_kept h2 hg (fun r e=>(hr r e).2),cell_kept h3 hg (fun r e=>(hr r e).2)⟩,h4⟩)
    ?assign ?body ?done ?stop
  case assign=>
    rintro l pre x W K ⟨⟨⟨hp,hc⟩,bK1,bR1⟩,hB⟩ hK
    simp only [encP]
    gi_wp2
    have hsW:=hB.size
    have e1:(W.alloc (.cells #[.int .i64 x.2.1,.string x.2.2] 227)).cell? ⟨W.heap.size,0,none⟩=some (.int .i64 x.2.1):=by unfold World.cell?;rw [World.alloc_heap_new];rfl
    have e2:(W.alloc (.cells #[.int .i64 x.2.1,.string x.2.2] 227)).cell? ⟨W.heap.size,1,none⟩=some (.string x.2.2):=by unfold World.cell?;rw [World.alloc_heap_new];rfl
    exact hK _ _ ((KeepsOthers.alloc _ _).from _) ((Below.refl _ W).alloc (by omega) _) ⟨⟨⟨hp,amp _ hc⟩,bK1.alloc _,bR1.alloc _⟩,hB.alloc (by omega) _⟩ ⟨W.heap.size,by omega,⟨e1,e2⟩,rfl⟩
  case body=>
    rintro l pre x a' W hl _ ⟨⟨⟨hp,hc⟩,bK1,bR1⟩,hB⟩ ⟨Bx,hBx,⟨e1,e2⟩,rfl⟩ _
    have cK:=bK1.cell
    have cR:=bR1.cell
    have fR:=bR1.frozen
    gi_wp2
    · rename_i hx
      have hx:x.2.1=k:=by simpa using hx
      exact ⟨(KeepsOthers.setCell _ _ _).from _,⟨rfl,pre,x,rfl,hp,hx,World.cell?_setCell_same' _ _ _ (by rw [cR];rfl)⟩,hB.setCell (p:=⟨w.heap.size+1+1,0,none⟩) (by show w.heap.size≤w.heap.size+1+1;omega) _⟩
    · rename_i hx
      have hx:x.2.1≠k:=by simpa using hx
      exact ⟨KeepsFrom.refl _ _,Below.refl _ _,⟨⟨fun y hy=>(List.mem_append.1 hy).elim (hp y) (fun e=>by simp at e;subst e;exact hx),hc⟩,bK1,bR1⟩,hB⟩
  case done=>
    rintro D ys W hD rfl ⟨⟨⟨hp,hc⟩,bK1,bR1⟩,hB⟩ hK
    have cK:=bK1.cell
    have cR:=bR1.cell
    have fR:=bR1.frozen
    have hno:∀ j,j<zs.length→(putAt zs j).1≠k:=fun j hj=>hp (bkF zs (zs.length - 1 - j)) (List.mem_map.2 ⟨zs.length - 1 - j,List.mem_range.2 (by omega),rfl⟩) |> fun h=>by
      have e:zs.length - 1 - (zs.length - 1 - j)=j:=by omega
      simp only [bkF,e] at h;exact h
    obtain ⟨m,rfl,hm,b,off,rfl,hcell,hb⟩:=hN hno
    have hcW:W.cell? ⟨b,off+m,none⟩=some (.string R):=((hBw.trans hB).cell (p:=⟨b,off+m,none⟩) hb).trans hcell
    gi_wp2
    have hK':=(KeepsOthers.setCell W ⟨w.heap.size+1+1,0,none⟩ (.string R)).same D _ hK rfl
    refine ⟨by simp,.inl ⟨_,_,rfl,run_takeDeferred hK',?_⟩⟩
    have hc5:=cell_kept (World.cell?_setCell_same' W ⟨w.heap.size+1+1,0,none⟩ (.string R) (by rw [cR];rfl)) (grownBy_putObj' _ D (.deferred none)) (fun r e=>by cases e;exact ⟨_,hK',rfl⟩)
    refine ⟨.string R,?_,rfl,(hBw.trans (hB.setCell (p:=⟨w.heap.size+1+1,0,none⟩) (by show w.heap.size≤w.heap.size+1+1;omega) _)).trans (belowK_b (w:=w) (Nat.le_refl _) _ D _ _ (by omega) hK' rfl rfl)⟩
    simp [results,Tryz.f315,go_sem,hc5]
  case stop=>
    rintro D c pre W hD hpre ⟨⟨rfl,pre',x,rfl,hp,hx,hcr⟩,hB⟩ hK
    obtain ⟨kk,hkk,he⟩:=hpre
    obtain ⟨k0,rfl⟩:∃ k0,kk=k0+1:=by
      cases kk with
      | zero=>simp [bkUpto] at he
      | succ k0=>exact ⟨k0,rfl⟩
    rw [agh] at he
    obtain ⟨rfl,he2⟩:=List.append_inj' he rfl
    obtain rfl:x=bkF zs k0:=by simpa using he2
    have hRx:R=(bkF zs k0).2.2:=by
      refine hR (zs.length - 1 - k0) (by omega) (fun j hj1 hj2=>?_) hx
      have:=hp (bkF zs (zs.length - 1 - j)) (List.mem_map.2 ⟨zs.length - 1 - j,List.mem_range.2 (by omega),rfl⟩)
      have e:zs.length - 1 - (zs.length - 1 - j)=j:=by omega
      simp only [bkF,e] at this;exact this
    gi_wp2
    refine ⟨by simp,.inl ⟨_,_,rfl,run_takeDeferred hK,?_⟩⟩
    have hc5:=cell_kept hcr (grownBy_putObj' _ D (.deferred none)) (fun r e=>by cases e;exact ⟨_,hK,rfl⟩)
    subst hRx
    refine ⟨.string (bkF zs k0).2.2,?_,rfl,(hBw.trans hB).trans (belowK_b (w:=w) (Nat.le_refl _) W D _ _ (by omega) hK rfl rfl)⟩
    simp [results,Tryz.f315,go_sem,hc5]
end Go.Proofs
end
