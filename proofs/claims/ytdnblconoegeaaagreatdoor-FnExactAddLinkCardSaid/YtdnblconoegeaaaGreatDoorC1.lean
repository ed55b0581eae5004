/-
  slices.Insert of one element: what the machine does.
-/
import Derived.Shelf.Spec.SlicesInsertGrow
import Derived.Test.YtdnblconoegeaaaGreatDoorA2
import Derived.Test.YtdnblconoegeaaaGreatDoorVxSh
set_option linter.all false
section
namespace Go.Proofs
open Go Go.Shelf Go.RowKit Go.Lib Go.VS
theorem adc {P:Program} {w w':World} {dT sT ty elem:TypeId} {i:TypeInfo} {z:Nat} (hu:P.underlying dT=some (.slice elem)) (hi:P.info? elem=some i) (hz:i.size=z) (g o dLen dCap:Nat) (a:Addr) (sLen sCap m:Nat) (cs:List Value) (hm:m=Nat.min sLen dLen) (hl:cs.length=m*z)
    (hsrc:∀ j v,cs[j]?=some v→w.cell? (a.add j)=some v) (hst:(storeCells ⟨g,o,none⟩ cs).run P w=.ok () w'):
    (Builtin.copy_ #[dT,sT] ty #[.slice (some ⟨g,o,none⟩) dLen dCap,.slice (some a) sLen sCap]).run P w=.ok (goInt m) w':=by
  have hf:(loadCells a (m*z)).run P w=.ok cs.toArray w:=by rw [← hl];exact run_loadCells_list w a cs hsrc
  simp [Builtin.copy_,run_underlying hu,Builtin.lenOf,Builtin.firstCells,sizeOf,typeInfo,hi,hz,← hm,hf,hst]
theorem abk {w:World} {b o:Nat} {cc:Array Value} {T:TypeId} {fr:Nat × Nat} {v:Value} (h:w.heap[b]?=some (.cells cc T fr)) (hv:cc[o]?=some v):w.cell? ⟨b,o,none⟩=some v:=by
  simp [World.cell?,h,hv]
end Go.Proofs
end
section
namespace Go.Proofs
open Go Go.Shelf Go.RowKit Go.Lib Go.VS
theorem Tryz.infoI160:(Tryz.prog.info? 160).map (fun i=>(i.zero,i.size,i.bytes))=some (some (Value.agg #[Value.int IntKind.i64 0,Value.string { data:=#[] }]),2,24):=by kernel_rfl
set_option maxHeartbeats 4000000 in
set_option maxRecDepth 100000 in
theorem Tryz.insShift275 (b n c i vb vc:Nat) (cur vcur:Array Value) (T TV:TypeId) (vs:List Value) (w:World) (hi:i<n) (hroom:n+1≤c) (hc63:c≤9223372036854775807) (hvb:vb≠b) (hb:w.heap[b]?=some (.cells cur T (0,0))) (hv:w.heap[vb]?=some (.cells vcur TV (0,0)))
    (hcs:c*2≤cur.size) (hvl:vs.length=2) (hvs:∀ (j:Nat) (v:Value),vs[j]?=some v→vcur[j]?=some v) (h1c:∀ j,j<n*2→(cur.getD j undef).oneCell'=true) (h1v:∀ v ∈ vs,v.oneCell'=true):
    Calls Tryz.prog 275 #[.slice (some ⟨b,0,none⟩) n c,.int .i64 i,.slice (some ⟨vb,0,none⟩) 1 vc] w fun e w'=>
      e=.returned (.slice (some ⟨b,0,none⟩) (n+1) c)∧Upd w w' b cur (arrSet (arrSet cur ((i+1)*2) ((cur.toList.drop (i*2)).take ((n - i)*2))) (i*2) vs) T (0,0):=by
  obtain ⟨i0,hi0,hz0,hzs,hzb⟩:=info_parts Tryz.infoI160
  have u0:∀ w,Sem.run Tryz.prog (underlying 40) w=.ok (TypeDesc.slice 160) w:=run_underlying Tryz.underlying40
  have hz2:¬ ((i:Int)=(n:Int)):=by omega
  have hov:∀ la ca lb cb,(callFunc 317 #[.slice (some ⟨vb,0,none⟩) la ca,.slice (some ⟨b,(i+1)*2,none⟩) lb cb]).run Tryz.prog w=.ok (.value (.bool false)) w:=fun la ca lb cb=>by
    have hkB:cur.size≠0:=by omega
    rw [run_callFunc_extern Tryz.func317 (by kernel_rfl) (by kernel_rfl) (by kernel_rfl) (e:=Extern.SlicesOverlaps.overlaps #[40,40] #[4]) (by kernel_rfl),
      Lib.run_overlaps_apart w 40 4 160 Tryz.underlying40 2 Tryz.sizeOf160 ⟨vb,0,none⟩ ⟨b,(i+1)*2,none⟩ la ca lb cb hvb TV T vcur.size cur.size (by simp [World.shape?,hv]) (by simp [World.shape?,hb]) hkB (by simp [World.frozen?,hv]) (by simp [World.frozen?,hv])]
    rfl
  obtain ⟨tail,htail⟩:∃ tail,tail=(cur.toList.drop (i*2)).take ((n - i)*2):=⟨_,rfl⟩
  have htl:tail.length=(n - i)*2:=by rw [htail,List.length_take,List.length_drop,Array.length_toList];omega
  have htg:∀ (j:Nat) (v:Value),tail[j]?=some v→cur[i*2+j]?=some v:=fun j v hj=>by
    have hjl:=(List.getElem?_eq_some_iff.1 hj).1
    rw [htail,List.getElem?_take_of_lt (by omega),List.getElem?_drop,Array.getElem?_toList] at hj
    exact hj
  have ht1:∀ v ∈ tail,v.oneCell'=true:=fun v hv=>by
    obtain ⟨j,hj,e⟩:=List.getElem_of_mem hv
    have h2:=htg j v (by rw [List.getElem?_eq_getElem hj,e])
    have:=h1c (i*2+j) (by omega)
    rw [aaa,h2] at this
    exact this
  rw [← htail]
  have hbd:w.drew.heap[b]?=some (.cells cur T (0,0)):=hb
  obtain ⟨W1,hst1,U1⟩:=aau Tryz.prog b ((i+1)*2) tail 0 cur w.drew hbd (by rw [htl];omega) (fun j _ _ h=>by omega) ht1
  rw [Nat.add_zero] at U1
  obtain ⟨W2,hst2,U2⟩:=aau Tryz.prog b (i*2) vs 0 _ W1 U1.new (by rw [hvl,U1.len];omega) (fun j _ _ h=>by omega) h1v
  rw [Nat.add_zero] at U2
  have hv1:W1.heap[vb]?=some (.cells vcur TV (0,0)):=(U1.other vb hvb).trans hv
  have hcp1:∀ ty dc sc,(Builtin.copy_ #[40,40] ty #[.slice (some ⟨b,(i+1)*2,none⟩) (n - i) dc,.slice (some ⟨b,i*2,none⟩) (n+1 - i) sc]).run Tryz.prog w.drew=.ok (goInt ((n - i:Nat):Int)) W1:=fun ty dc sc=>
    adc Tryz.underlying40 hi0 hzs b ((i+1)*2) _ dc ⟨b,i*2,none⟩ _ sc (n - i) tail (by simp only [Nat.min_def];split <;> omega) htl (fun j v hj=>by rw [Addr.add_lit];exact abk hbd (htg j v hj)) hst1
  have hcp2:∀ ty dc,(Builtin.copy_ #[40,40] ty #[.slice (some ⟨b,i*2,none⟩) (n+1 - i) dc,.slice (some ⟨vb,0,none⟩) 1 vc]).run Tryz.prog W1=.ok (goInt 1) W2:=fun ty dc=>
    adc Tryz.underlying40 hi0 hzs b (i*2) _ dc ⟨vb,0,none⟩ _ vc 1 vs (by simp only [Nat.min_def];split <;> omega) (by omega) (fun j v hj=>by rw [Addr.add_lit,Nat.zero_add];exact abk hv1 (hvs j v hj)) hst2
  have mixed:Tryz.prog.follows .mixedOrders=true:=by kernel_rfl
  have hw1:IntKind.i64.wrap ((i:Int)+1)=(i:Int)+1:=by rw [IntKind.wrap_i64];omega
  have hw2:IntKind.i64.wrap ((n:Int)+1)=(n:Int)+1:=by rw [IntKind.wrap_i64];omega
  have hb1:(0:Int)≤(i:Int)+1:=by omega
  have hin:i≤n:=by omega
  have htn:((i:Int)+1).toNat=i+1:=by omega
  have hb2:¬ (c=i+1):=by omega
  have hb3:(i:Int)≤(n:Int)+1:=by omega
  have hb4:¬ (c=i):=by omega
  have UU:Upd w W2 b cur (arrSet (arrSet cur ((i+1)*2) tail) (i*2) vs) T (0,0):=by
    have U3:=U1.trans U2
    exact ⟨U3.os,U3.tape,U3.output,U3.size,U3.other,hb,U3.new,U3.len⟩
  clear U1 U2 hst1 hst2 ht1 htg htl htail
  go_enter Tryz.func275,Tryz.ntmps275
  go_wp2_with (simp only [hov])
  go_region_law_o (refine step_copy_runI rfl _ _ 40 40 rfl _ _ (by simp [Act.eval,Act.put]) (by simp [Act.eval,Act.put]) (hcp1 _ _ _) ?_)
  go_wp2_with (at_builtin;refine wpList_copy_runI _ rfl _ _ 40 40 rfl _ _ rfl rfl (hcp2 _ _) ?_)
  go_ret
  exact ⟨rfl,UU⟩
theorem Tryz.infoI186:(Tryz.prog.info? 186).map (fun i=>(i.zero,i.size,i.bytes))=some (some (Value.agg #[Value.string { data:=#[] },Value.int IntKind.i64 0,Value.string { data:=#[] }]),3,40):=by kernel_rfl
set_option maxHeartbeats 4000000 in
set_option maxRecDepth 100000 in
theorem Tryz.insShift224 (b n c i vb vc:Nat) (cur vcur:Array Value) (T TV:TypeId) (vs:List Value) (w:World) (hi:i<n) (hroom:n+1≤c) (hc63:c≤9223372036854775807) (hvb:vb≠b) (hb:w.heap[b]?=some (.cells cur T (0,0))) (hv:w.heap[vb]?=some (.cells vcur TV (0,0)))
    (hcs:c*3≤cur.size) (hvl:vs.length=3) (hvs:∀ (j:Nat) (v:Value),vs[j]?=some v→vcur[j]?=some v) (h1c:∀ j,j<n*3→(cur.getD j undef).oneCell'=true) (h1v:∀ v ∈ vs,v.oneCell'=true):
    Calls Tryz.prog 224 #[.slice (some ⟨b,0,none⟩) n c,.int .i64 i,.slice (some ⟨vb,0,none⟩) 1 vc] w fun e w'=>
      e=.returned (.slice (some ⟨b,0,none⟩) (n+1) c)∧Upd w w' b cur (arrSet (arrSet cur ((i+1)*3) ((cur.toList.drop (i*3)).take ((n - i)*3))) (i*3) vs) T (0,0):=by
  obtain ⟨i0,hi0,hz0,hzs,hzb⟩:=info_parts Tryz.infoI186
  have u0:∀ w,Sem.run Tryz.prog (underlying 202) w=.ok (TypeDesc.slice 186) w:=run_underlying Tryz.underlying202
  have hz2:¬ ((i:Int)=(n:Int)):=by omega
  have hov:∀ la ca lb cb,(callFunc 295 #[.slice (some ⟨vb,0,none⟩) la ca,.slice (some ⟨b,(i+1)*3,none⟩) lb cb]).run Tryz.prog w=.ok (.value (.bool false)) w:=fun la ca lb cb=>by
    have hkB:cur.size≠0:=by omega
    rw [run_callFunc_extern Tryz.func295 (by kernel_rfl) (by kernel_rfl) (by kernel_rfl) (e:=Extern.SlicesOverlaps.overlaps #[202,202] #[4]) (by kernel_rfl),
      Lib.run_overlaps_apart w 202 4 186 Tryz.underlying202 3 Tryz.sizeOf186 ⟨vb,0,none⟩ ⟨b,(i+1)*3,none⟩ la ca lb cb hvb TV T vcur.size cur.size (by simp [World.shape?,hv]) (by simp [World.shape?,hb]) hkB (by simp [World.frozen?,hv]) (by simp [World.frozen?,hv])]
    rfl
  obtain ⟨tail,htail⟩:∃ tail,tail=(cur.toList.drop (i*3)).take ((n - i)*3):=⟨_,rfl⟩
  have htl:tail.length=(n - i)*3:=by rw [htail,List.length_take,List.length_drop,Array.length_toList];omega
  have htg:∀ (j:Nat) (v:Value),tail[j]?=some v→cur[i*3+j]?=some v:=fun j v hj=>by
    have hjl:=(List.getElem?_eq_some_iff.1 hj).1
    rw [htail,List.getElem?_take_of_lt (by omega),List.getElem?_drop,Array.getElem?_toList] at hj
    exact hj
  have ht1:∀ v ∈ tail,v.oneCell'=true:=fun v hv=>by
    obtain ⟨j,hj,e⟩:=List.getElem_of_mem hv
    have h2:=htg j v (by rw [List.getElem?_eq_getElem hj,e])
    have:=h1c (i*3+j) (by omega)
    rw [aaa,h2] at this
    exact this
  rw [← htail]
  have hbd:w.drew.heap[b]?=some (.cells cur T (0,0)):=hb
  obtain ⟨W1,hst1,U1⟩:=aau Tryz.prog b ((i+1)*3) tail 0 cur w.drew hbd (by rw [htl];omega) (fun j _ _ h=>by omega) ht1
  rw [Nat.add_zero] at U1
  obtain ⟨W2,hst2,U2⟩:=aau Tryz.prog b (i*3) vs 0 _ W1 U1.new (by rw [hvl,U1.len];omega) (fun j _ _ h=>by omega) h1v
  rw [Nat.add_zero] at U2
  have hv1:W1.heap[vb]?=some (.cells vcur TV (0,0)):=(U1.other vb hvb).trans hv
  have hcp1:∀ ty dc sc,(Builtin.copy_ #[202,202] ty #[.slice (some ⟨b,(i+1)*3,none⟩) (n - i) dc,.slice (some ⟨b,i*3,none⟩) (n+1 - i) sc]).run Tryz.prog w.drew=.ok (goInt ((n - i:Nat):Int)) W1:=fun ty dc sc=>
    adc Tryz.underlying202 hi0 hzs b ((i+1)*3) _ dc ⟨b,i*3,none⟩ _ sc (n - i) tail (by simp only [Nat.min_def];split <;> omega) htl (fun j v hj=>by rw [Addr.add_lit];exact abk hbd (htg j v hj)) hst1
  have hcp2:∀ ty dc,(Builtin.copy_ #[202,202] ty #[.slice (some ⟨b,i*3,none⟩) (n+1 - i) dc,.slice (some ⟨vb,0,none⟩) 1 vc]).run Tryz.prog W1=.ok (goInt 1) W2:=fun ty dc=>
    adc Tryz.underlying202 hi0 hzs b (i*3) _ dc ⟨vb,0,none⟩ _ vc 1 vs (by simp only [Nat.min_def];split <;> omega) (by omega) (fun j v hj=>by rw [Addr.add_lit,Nat.zero_add];exact abk hv1 (hvs j v hj)) hst2
  have mixed:Tryz.prog.follows .mixedOrders=true:=by kernel_rfl
  have hw1:IntKind.i64.wrap ((i:Int)+1)=(i:Int)+1:=by rw [IntKind.wrap_i64];omega
  have hw2:IntKind.i64.wrap ((n:Int)+1)=(n:Int)+1:=by rw [IntKind.wrap_i64];omega
  have hb1:(0:Int)≤(i:Int)+1:=by omega
  have hin:i≤n:=by omega
  have htn:((i:Int)+1).toNat=i+1:=by omega
  have hb2:¬ (c=i+1):=by omega
  have hb3:(i:Int)≤(n:Int)+1:=by omega
  have hb4:¬ (c=i):=by omega
  have UU:Upd w W2 b cur (arrSet (arrSet cur ((i+1)*3) tail) (i*3) vs) T (0,0):=by
    have U3:=U1.trans U2
    exact ⟨U3.os,U3.tape,U3.output,U3.size,U3.other,hb,U3.new,U3.len⟩
  clear U1 U2 hst1 hst2 ht1 htg htl htail
  go_enter Tryz.func224,Tryz.ntmps224
  go_wp2_with (simp only [hov])
  go_region_law_o (refine step_copy_runI rfl _ _ 202 202 rfl _ _ (by simp [Act.eval,Act.put]) (by simp [Act.eval,Act.put]) (hcp1 _ _ _) ?_)
  go_wp2_with (at_builtin;refine wpList_copy_runI _ rfl _ _ 202 202 rfl _ _ rfl rfl (hcp2 _ _) ?_)
  go_ret
  exact ⟨rfl,UU⟩
end Go.Proofs
end
section
namespace Go.Proofs
open Go Go.Shelf Go.RowKit Go.Lib Go.VS
set_option maxHeartbeats 4000000 in
set_option maxRecDepth 100000 in
theorem Tryz.insRoom275 (b n c vb vc:Nat) (cur vcur:Array Value) (T TV:TypeId) (vs:List Value) (w:World) (hroom:n+1≤c) (hc63:c≤9223372036854775807) (hb:w.heap[b]?=some (.cells cur T (0,0))) (hv:w.heap[vb]?=some (.cells vcur TV (0,0)))
    (hcs:c*2≤cur.size) (hvl:vs.length=2) (hvs:∀ (j:Nat) (v:Value),vs[j]?=some v→vcur[j]?=some v) (h1v:∀ v ∈ vs,v.oneCell'=true):
    Calls Tryz.prog 275 #[.slice (some ⟨b,0,none⟩) n c,.int .i64 n,.slice (some ⟨vb,0,none⟩) 1 vc] w fun e w'=>
      e=.returned (.slice (some ⟨b,0,none⟩) (n+1) c)∧Upd w w' b cur (arrSet cur (n*2) vs) T (0,0):=by
  obtain ⟨i0,hi0,hz0,hzs,hzb⟩:=info_parts Tryz.infoI160
  have u0:∀ w,Sem.run Tryz.prog (underlying 40) w=.ok (TypeDesc.slice 160) w:=run_underlying Tryz.underlying40
  have mixed:Tryz.prog.follows .mixedOrders=true:=by kernel_rfl
  obtain ⟨W1,hst1,U1⟩:=aau Tryz.prog b (n*2) vs 0 cur w hb (by omega) (fun j _ _ h=>by omega) h1v
  rw [Nat.add_zero] at U1
  have hrun:∀ ty,(Builtin.append_ #[40,40] ty #[.slice (some ⟨b,0,none⟩) n c,.slice (some ⟨vb,0,none⟩) 1 vc]).run Tryz.prog w=.ok (.slice (some ⟨b,0,none⟩) (n+1) c) W1:=fun ty=>
    acu (m:=1) Tryz.underlying40 hi0 hzs (by unfold appT;rw [Tryz.underlying40]) (fun w'=>by simp [Builtin.lenOf]) (run_firstCells_some w 2 1 ⟨vb,0,none⟩ 1 vc vs (by omega) (fun j v hj=>by rw [Addr.add_lit,Nat.zero_add];exact abk hv (hvs j v hj))) hroom (by rw [Addr.add_lit,Nat.zero_add];exact hst1)
  clear hst1
  go_enter Tryz.func275,Tryz.ntmps275
  go_wp2_with (at_builtin;refine Lib.wpList_append_run _ rfl _ _ _ _ rfl _ _ rfl rfl _ _ (hrun _) ?_)
  go_ret
  exact ⟨rfl,U1⟩
set_option maxHeartbeats 4000000 in
set_option maxRecDepth 100000 in
theorem Tryz.insEnd275 (base:Option Addr) (n c vb vc:Nat) (vcur:Array Value) (TV:TypeId) (olds vs:List Value) (w:World) (hnc:n≤c) (hroom:c<n+1) (hbig:(n+1)*24≤140737488355328) (hol:olds.length=n*2) (hnil:base=none→n=0)
    (hcs:∀ a,base=some a→∀ (j:Nat) (v:Value),olds[j]?=some v→w.cell? (a.add j)=some v) (hv:w.heap[vb]?=some (.cells vcur TV (0,0))) (hvl:vs.length=2) (hvs:∀ (j:Nat) (v:Value),vs[j]?=some v→vcur[j]?=some v) (h1v:∀ v ∈ vs,v.oneCell'=true):
    Calls Tryz.prog 275 #[.slice base n c,.int .i64 n,.slice (some ⟨vb,0,none⟩) 1 vc] w fun e w'=>
      e=.returned (.slice (some ⟨w.heap.size,0,none⟩) (n+1) (grownCap w (n+1) c 160)) ∧
      w'=w.drew.alloc (.cells (olds.toArray++vs.toArray++Builtin.zeroCells (Value.agg #[Value.int IntKind.i64 0,Value.string { data:=#[] }]).cells (grownCap w (n+1) c 160 - (n+1))) 160):=by
  obtain ⟨i0,hi0,hz0,hzs,hzb⟩:=info_parts Tryz.infoI160
  have u0:∀ w,Sem.run Tryz.prog (underlying 40) w=.ok (TypeDesc.slice 160) w:=run_underlying Tryz.underlying40
  have mixed:Tryz.prog.follows .mixedOrders=true:=by kernel_rfl
  have hold:(Builtin.firstCells 2 n (.slice base n c)).run Tryz.prog w.drew=.ok olds.toArray w.drew:=by
    cases base with
    | none=>
      have h0:=hnil rfl
      subst h0
      have ho:olds=[]:=List.length_eq_zero_iff.1 (by simpa using hol)
      rw [ho]
      exact run_firstCells_none w.drew 2 0 0 c
    | some a=>exact run_firstCells_some w.drew 2 n a n c olds hol (fun j v hj=>hcs a rfl j v hj)
  have hrun:∀ ty,(Builtin.append_ #[40,40] ty #[.slice base n c,.slice (some ⟨vb,0,none⟩) 1 vc]).run Tryz.prog w=_:=fun ty=>
    ah1 (m:=1) Tryz.underlying40 hi0 hz0 hzs (by unfold appT;rw [Tryz.underlying40]) (fun w'=>by simp [Builtin.lenOf]) (run_firstCells_some w.drew 2 1 ⟨vb,0,none⟩ 1 vc vs (by omega) (fun j v hj=>by rw [Addr.add_lit,Nat.zero_add];exact abk (w:=w.drew) hv (hvs j v hj))) hold hroom (by omega) (by rw [hzb];exact growslice_fits hroom hbig)
  go_enter Tryz.func275,Tryz.ntmps275
  cases base with
  | none=>
    have h0:=hnil rfl
    subst h0
    go_wp2_with (at_builtin;refine Lib.wpList_append_run _ rfl _ _ _ _ rfl _ _ rfl rfl _ _ (hrun _) ?_)
    go_ret
    exact ⟨rfl,rfl⟩
  | some a=>
    obtain ⟨ab,ao,asp⟩:=a
    go_wp2_with (at_builtin;refine Lib.wpList_append_run _ rfl _ _ _ _ rfl _ _ rfl rfl _ _ (hrun _) ?_)
    all_goals (go_ret;exact ⟨rfl,rfl⟩)
set_option maxHeartbeats 4000000 in
set_option maxRecDepth 100000 in
theorem Tryz.insRoom224 (b n c vb vc:Nat) (cur vcur:Array Value) (T TV:TypeId) (vs:List Value) (w:World) (hroom:n+1≤c) (hc63:c≤9223372036854775807) (hb:w.heap[b]?=some (.cells cur T (0,0))) (hv:w.heap[vb]?=some (.cells vcur TV (0,0)))
    (hcs:c*3≤cur.size) (hvl:vs.length=3) (hvs:∀ (j:Nat) (v:Value),vs[j]?=some v→vcur[j]?=some v) (h1v:∀ v ∈ vs,v.oneCell'=true):
    Calls Tryz.prog 224 #[.slice (some ⟨b,0,none⟩) n c,.int .i64 n,.slice (some ⟨vb,0,none⟩) 1 vc] w fun e w'=>
      e=.returned (.slice (some ⟨b,0,none⟩) (n+1) c)∧Upd w w' b cur (arrSet cur (n*3) vs) T (0,0):=by
  obtain ⟨i0,hi0,hz0,hzs,hzb⟩:=info_parts Tryz.infoI186
  have u0:∀ w,Sem.run Tryz.prog (underlying 202) w=.ok (TypeDesc.slice 186) w:=run_underlying Tryz.underlying202
  have mixed:Tryz.prog.follows .mixedOrders=true:=by kernel_rfl
  obtain ⟨W1,hst1,U1⟩:=aau Tryz.prog b (n*3) vs 0 cur w hb (by omega) (fun j _ _ h=>by omega) h1v
  rw [Nat.add_zero] at U1
  have hrun:∀ ty,(Builtin.append_ #[202,202] ty #[.slice (some ⟨b,0,none⟩) n c,.slice (some ⟨vb,0,none⟩) 1 vc]).run Tryz.prog w=.ok (.slice (some ⟨b,0,none⟩) (n+1) c) W1:=fun ty=>
    acu (m:=1) Tryz.underlying202 hi0 hzs (by unfold appT;rw [Tryz.underlying202]) (fun w'=>by simp [Builtin.lenOf]) (run_firstCells_some w 3 1 ⟨vb,0,none⟩ 1 vc vs (by omega) (fun j v hj=>by rw [Addr.add_lit,Nat.zero_add];exact abk hv (hvs j v hj))) hroom (by rw [Addr.add_lit,Nat.zero_add];exact hst1)
  clear hst1
  go_enter Tryz.func224,Tryz.ntmps224
  go_wp2_with (at_builtin;refine Lib.wpList_append_run _ rfl _ _ _ _ rfl _ _ rfl rfl _ _ (hrun _) ?_)
  go_ret
  exact ⟨rfl,U1⟩
set_option maxHeartbeats 4000000 in
set_option maxRecDepth 100000 in
theorem Tryz.insEnd224 (base:Option Addr) (n c vb vc:Nat) (vcur:Array Value) (TV:TypeId) (olds vs:List Value) (w:World) (hnc:n≤c) (hroom:c<n+1) (hbig:(n+1)*40≤140737488355328) (hol:olds.length=n*3) (hnil:base=none→n=0)
    (hcs:∀ a,base=some a→∀ (j:Nat) (v:Value),olds[j]?=some v→w.cell? (a.add j)=some v) (hv:w.heap[vb]?=some (.cells vcur TV (0,0))) (hvl:vs.length=3) (hvs:∀ (j:Nat) (v:Value),vs[j]?=some v→vcur[j]?=some v) (h1v:∀ v ∈ vs,v.oneCell'=true):
    Calls Tryz.prog 224 #[.slice base n c,.int .i64 n,.slice (some ⟨vb,0,none⟩) 1 vc] w fun e w'=>
      e=.returned (.slice (some ⟨w.heap.size,0,none⟩) (n+1) (grownCap w (n+1) c 186)) ∧
      w'=w.drew.alloc (.cells (olds.toArray++vs.toArray++Builtin.zeroCells (Value.agg #[Value.string { data:=#[] },Value.int IntKind.i64 0,Value.string { data:=#[] }]).cells (grownCap w (n+1) c 186 - (n+1))) 186):=by
  obtain ⟨i0,hi0,hz0,hzs,hzb⟩:=info_parts Tryz.infoI186
  have u0:∀ w,Sem.run Tryz.prog (underlying 202) w=.ok (TypeDesc.slice 186) w:=run_underlying Tryz.underlying202
  have mixed:Tryz.prog.follows .mixedOrders=true:=by kernel_rfl
  have hold:(Builtin.firstCells 3 n (.slice base n c)).run Tryz.prog w.drew=.ok olds.toArray w.drew:=by
    cases base with
    | none=>
      have h0:=hnil rfl
      subst h0
      have ho:olds=[]:=List.length_eq_zero_iff.1 (by simpa using hol)
      rw [ho]
      exact run_firstCells_none w.drew 3 0 0 c
    | some a=>exact run_firstCells_some w.drew 3 n a n c olds hol (fun j v hj=>hcs a rfl j v hj)
  have hrun:∀ ty,(Builtin.append_ #[202,202] ty #[.slice base n c,.slice (some ⟨vb,0,none⟩) 1 vc]).run Tryz.prog w=_:=fun ty=>
    ah1 (m:=1) Tryz.underlying202 hi0 hz0 hzs (by unfold appT;rw [Tryz.underlying202]) (fun w'=>by simp [Builtin.lenOf]) (run_firstCells_some w.drew 3 1 ⟨vb,0,none⟩ 1 vc vs (by omega) (fun j v hj=>by rw [Addr.add_lit,Nat.zero_add];exact abk (w:=w.drew) hv (hvs j v hj))) hold hroom (by omega) (by rw [hzb];exact growslice_fits hroom hbig)
  go_enter Tryz.func224,Tryz.ntmps224
  cases base with
  | none=>
    have h0:=hnil rfl
    subst h0
    go_wp2_with (at_builtin;refine Lib.wpList_append_run _ rfl _ _ _ _ rfl _ _ rfl rfl _ _ (hrun _) ?_)
    go_ret
    exact ⟨rfl,rfl⟩
  | some a=>
    obtain ⟨ab,ao,asp⟩:=a
    go_wp2_with (at_builtin;refine Lib.wpList_append_run _ rfl _ _ _ _ rfl _ _ rfl rfl _ _ (hrun _) ?_)
    all_goals (go_ret;exact ⟨rfl,rfl⟩)
end Go.Proofs
end
section
namespace Go.Proofs
open Go Go.Shelf Go.RowKit Go.Lib Go.VS
set_option maxHeartbeats 4000000 in
set_option maxRecDepth 100000 in
theorem Tryz.insGrow275 (b n c i vb vc:Nat) (cur vcur:Array Value) (T TV:TypeId) (fr:Nat × Nat) (vs:List Value) (w:World) (hi:i<n) (hnc:n≤c) (hroom:c<n+1) (hbig:(n+1)*24≤140737488355328) (hb:w.heap[b]?=some (.cells cur T fr)) (hv:w.heap[vb]?=some (.cells vcur TV (0,0)))
    (hcs:c*2≤cur.size) (hvl:vs.length=2) (hvs:∀ (j:Nat) (v:Value),vs[j]?=some v→vcur[j]?=some v) (h1c:∀ j,j<n*2→(cur.getD j undef).oneCell'=true) (h1v:∀ v ∈ vs,v.oneCell'=true):
    Calls Tryz.prog 275 #[.slice (some ⟨b,0,none⟩) n c,.int .i64 i,.slice (some ⟨vb,0,none⟩) 1 vc] w fun e w'=>
      e=.returned (.slice (some ⟨w.heap.size,0,none⟩) (n+1) (grownCap w (n+1) c 160)) ∧
      ∃ ROW:Array Value,ROW=(cur.toList.take (i*2)).toArray++Builtin.zeroCells (Value.agg #[Value.int IntKind.i64 0,Value.string { data:=#[] }]).cells (n+1 - i)++Builtin.zeroCells (Value.agg #[Value.int IntKind.i64 0,Value.string { data:=#[] }]).cells (grownCap w (n+1) c 160 - (n+1)) ∧
        Upd (w.alloc (.cells ROW 160)) w' w.heap.size ROW (arrSet (arrSet ROW (i*2) vs) ((i+1)*2) ((cur.toList.drop (i*2)).take ((n - i)*2))) 160 (0,0):=by
  obtain ⟨i0,hi0,hz0,hzs,hzb⟩:=info_parts Tryz.infoI160
  have u0:∀ w,Sem.run Tryz.prog (underlying 40) w=.ok (TypeDesc.slice 160) w:=run_underlying Tryz.underlying40
  have mixed:Tryz.prog.follows .mixedOrders=true:=by kernel_rfl
  have hz2:¬ ((i:Int)=(n:Int)):=by omega
  have hz3:(c:Int)<(n:Int)+1:=by omega
  have hkk:(n:Int)+1 - (i:Int)=((n+1 - i:Nat):Int):=by omega
  have hik:i+(n+1 - i)=n+1:=by omega
  obtain ⟨olds,holds⟩:∃ olds,olds=cur.toList.take (i*2):=⟨_,rfl⟩
  have hol:olds.length=i*2:=by rw [holds,List.length_take,Array.length_toList];omega
  have hbd:w.drew.heap[b]?=some (.cells cur T fr):=hb
  have hog:∀ (j:Nat) (v:Value),olds[j]?=some v→cur[j]?=some v:=fun j v hj=>by
    have hjl:=(List.getElem?_eq_some_iff.1 hj).1
    rw [holds,List.getElem?_take_of_lt (by omega),Array.getElem?_toList] at hj
    exact hj
  have hold:(Builtin.firstCells i0.size i (.slice (some ⟨b,0,none⟩) i c)).run Tryz.prog w.drew=.ok olds.toArray w.drew:=by
    rw [hzs]
    exact run_firstCells_some w.drew 2 i ⟨b,0,none⟩ i c olds hol (fun j v hj=>by rw [Addr.add_lit,Nat.zero_add];exact abk hbd (hog j v hj))
  obtain ⟨G,hG⟩:∃ G,G=grownCap w (n+1) c 160:=⟨_,rfl⟩
  have hrz:∀ ty,(Builtin.append_ #[40,3] ty #[.slice (some ⟨b,0,none⟩) i c,.int .i64 ((n:Int)+1 - (i:Int))]).run Tryz.prog w=
      .ok (.slice (some ⟨w.heap.size,0,none⟩) (n+1) G) (w.drew.alloc (.cells (olds.toArray++Builtin.zeroCells (Value.agg #[Value.int IntKind.i64 0,Value.string { data:=#[] }]).cells (n+1 - i)++Builtin.zeroCells (Value.agg #[Value.int IntKind.i64 0,Value.string { data:=#[] }]).cells (G - (n+1))) 160)):=fun ty=>by
    have h:=Lib.run_append_grow_zeros w 40 3 ty 160 i0 _ .i64 .i64 Tryz.underlying40 Tryz.underlying3 hi0 hz0 (some ⟨b,0,none⟩) i c olds hold (n+1 - i) (by omega) (by omega) (by omega) (by omega) (by rw [hzb];omega) (by rw [hzb,hik];exact growslice_fits hroom hbig)
    rw [hik] at h
    rw [hkk,hG]
    exact h
  have hGn:n+1≤G:=by rw [hG];exact grownCap_ge w _ _ _
  have hG63:G≤9223372036854775807:=by
    have:=grownCap_le_maxLen w (n+1) c 160 (by unfold maxLen;omega)
    rw [← hG] at this
    unfold maxLen at this
    omega
  rw [← holds,← hG]
  obtain ⟨ROW,hROW⟩:∃ ROW:Array Value,ROW=olds.toArray++Builtin.zeroCells (Value.agg #[Value.int IntKind.i64 0,Value.string { data:=#[] }]).cells (n+1 - i)++Builtin.zeroCells (Value.agg #[Value.int IntKind.i64 0,Value.string { data:=#[] }]).cells (G - (n+1)):=⟨_,rfl⟩
  rw [← hROW] at hrz ⊢
  have hRl:ROW.size=G*2:=by
    rw [hROW,Array.size_append,Array.size_append,size_zeroCells,size_zeroCells,List.size_toArray,hol]
    simp only [Value.cells,List.size_toArray,List.length_cons,List.length_nil]
    omega
  obtain ⟨tail,htail⟩:∃ tail,tail=(cur.toList.drop (i*2)).take ((n - i)*2):=⟨_,rfl⟩
  have htl:tail.length=(n - i)*2:=by rw [htail,List.length_take,List.length_drop,Array.length_toList];omega
  have htg:∀ (j:Nat) (v:Value),tail[j]?=some v→cur[i*2+j]?=some v:=fun j v hj=>by
    have hjl:=(List.getElem?_eq_some_iff.1 hj).1
    rw [htail,List.getElem?_take_of_lt (by omega),List.getElem?_drop,Array.getElem?_toList] at hj
    exact hj
  have ht1:∀ v ∈ tail,v.oneCell'=true:=fun v hv=>by
    obtain ⟨j,hj,e⟩:=List.getElem_of_mem hv
    have h2:=htg j v (by rw [List.getElem?_eq_getElem hj,e])
    have:=h1c (i*2+j) (by omega)
    rw [aaa,h2] at this
    exact this
  rw [← htail]
  have hbw:b<w.heap.size:=aa0 hb
  have hvw:vb<w.heap.size:=aa0 hv
  have hNew:(w.drew.alloc (.cells ROW 160)).heap[w.heap.size]?=some (.cells ROW 160 (0,0)):=heap_alloc_new w.drew _
  obtain ⟨W1,hst1,U1⟩:=aau Tryz.prog w.heap.size (i*2) vs 0 ROW _ hNew (by omega) (fun j _ _ h=>by omega) h1v
  rw [Nat.add_zero] at U1
  have U1d:W1.drew.heap[w.heap.size]?=some (.cells (arrSet ROW (i*2) vs) 160 (0,0)):=U1.new
  obtain ⟨W2,hst2,U2⟩:=aau Tryz.prog w.heap.size ((i+1)*2) tail 0 _ W1.drew U1d (by rw [htl,U1.len];omega) (fun j _ _ h=>by omega) ht1
  rw [Nat.add_zero] at U2
  have hvA:(w.drew.alloc (.cells ROW 160)).heap[vb]?=some (.cells vcur TV (0,0)):=(heap_alloc_old w.drew _ hvw).trans hv
  have hbB:W1.drew.heap[b]?=some (.cells cur T fr):=(U1.other b (by omega)).trans ((heap_alloc_old w.drew _ hbw).trans hb)
  have hcpA:∀ ty dc,(Builtin.copy_ #[40,40] ty #[.slice (some ⟨w.heap.size,i*2,none⟩) (n+1 - i) dc,.slice (some ⟨vb,0,none⟩) 1 vc]).run Tryz.prog (w.alloc (.cells ROW 160)).drew=.ok (goInt 1) W1:=fun ty dc=>
    adc (w:=w.drew.alloc (.cells ROW 160)) Tryz.underlying40 hi0 hzs w.heap.size (i*2) _ dc ⟨vb,0,none⟩ _ vc 1 vs (by simp only [Nat.min_def];split <;> omega) (by omega) (fun j v hj=>by rw [Addr.add_lit,Nat.zero_add];exact abk hvA (hvs j v hj)) hst1
  have hcpB:∀ ty dc sc,(Builtin.copy_ #[40,40] ty #[.slice (some ⟨w.heap.size,(i+1)*2,none⟩) (n - i) dc,.slice (some ⟨b,i*2,none⟩) (n - i) sc]).run Tryz.prog W1.drew=.ok (goInt ((n - i:Nat):Int)) W2:=fun ty dc sc=>
    adc Tryz.underlying40 hi0 hzs w.heap.size ((i+1)*2) _ dc ⟨b,i*2,none⟩ _ sc (n - i) tail (by simp only [Nat.min_def];split <;> omega) htl (fun j v hj=>by rw [Addr.add_lit];exact abk hbB (htg j v hj)) hst2
  have UU:Upd (w.alloc (.cells ROW 160)) W2 w.heap.size ROW (arrSet (arrSet ROW (i*2) vs) ((i+1)*2) tail) 160 (0,0):=
    ⟨U2.os.trans U1.os,U2.tape.trans U1.tape,U2.output.trans U1.output,U2.size.trans U1.size,fun k hk=>(U2.other k hk).trans (U1.other k hk),U1.old,U2.new,U2.len.trans U1.len⟩
  have hw1:IntKind.i64.wrap ((i:Int)+1)=(i:Int)+1:=by rw [IntKind.wrap_i64];omega
  have hw2:IntKind.i64.wrap ((n:Int)+1)=(n:Int)+1:=by rw [IntKind.wrap_i64];omega
  have hb1:(0:Int)≤(i:Int)+1:=by omega
  have hin:i≤n:=by omega
  have htn:((i:Int)+1).toNat=i+1:=by omega
  have hb3:(i:Int)≤(n:Int):=by omega
  have hGi:¬ (G=i):=by omega
  have hGim:¬ (G=i+1):=by omega
  have hci:¬ (c=i):=by omega
  clear hkk hik hold hG hROW U1 U2 hst1 hst2 ht1 htg htl htail hRl hNew U1d hvA hbB hog hol holds hbd
  go_enter Tryz.func275,Tryz.ntmps275
  go_wp2_with (first
    | (at_builtin;refine Lib.wpList_append_run _ rfl _ _ _ _ rfl _ _ rfl rfl _ _ (hrz _) ?_)
    | (at_builtin;refine wpList_copy_runI _ rfl _ _ 40 40 rfl _ _ rfl rfl (hcpA _ _) ?_))
  go_region_law_o (refine step_copy_runI rfl _ _ 40 40 rfl _ _ (by simp [Act.eval,Act.put]) (by simp [Act.eval,Act.put]) (hcpB _ _ _) ?_)
  go_wp2
  go_ret
  exact ⟨rfl,ROW,rfl,UU⟩
set_option maxHeartbeats 4000000 in
set_option maxRecDepth 100000 in
theorem Tryz.insGrow224 (b n c i vb vc:Nat) (cur vcur:Array Value) (T TV:TypeId) (fr:Nat × Nat) (vs:List Value) (w:World) (hi:i<n) (hnc:n≤c) (hroom:c<n+1) (hbig:(n+1)*40≤140737488355328) (hb:w.heap[b]?=some (.cells cur T fr)) (hv:w.heap[vb]?=some (.cells vcur TV (0,0)))
    (hcs:c*3≤cur.size) (hvl:vs.length=3) (hvs:∀ (j:Nat) (v:Value),vs[j]?=some v→vcur[j]?=some v) (h1c:∀ j,j<n*3→(cur.getD j undef).oneCell'=true) (h1v:∀ v ∈ vs,v.oneCell'=true):
    Calls Tryz.prog 224 #[.slice (some ⟨b,0,none⟩) n c,.int .i64 i,.slice (some ⟨vb,0,none⟩) 1 vc] w fun e w'=>
      e=.returned (.slice (some ⟨w.heap.size,0,none⟩) (n+1) (grownCap w (n+1) c 186)) ∧
      ∃ ROW:Array Value,ROW=(cur.toList.take (i*3)).toArray++Builtin.zeroCells (Value.agg #[Value.string { data:=#[] },Value.int IntKind.i64 0,Value.string { data:=#[] }]).cells (n+1 - i)++Builtin.zeroCells (Value.agg #[Value.string { data:=#[] },Value.int IntKind.i64 0,Value.string { data:=#[] }]).cells (grownCap w (n+1) c 186 - (n+1)) ∧
        Upd (w.alloc (.cells ROW 186)) w' w.heap.size ROW (arrSet (arrSet ROW (i*3) vs) ((i+1)*3) ((cur.toList.drop (i*3)).take ((n - i)*3))) 186 (0,0):=by
  obtain ⟨i0,hi0,hz0,hzs,hzb⟩:=info_parts Tryz.infoI186
  have u0:∀ w,Sem.run Tryz.prog (underlying 202) w=.ok (TypeDesc.slice 186) w:=run_underlying Tryz.underlying202
  have mixed:Tryz.prog.follows .mixedOrders=true:=by kernel_rfl
  have hz2:¬ ((i:Int)=(n:Int)):=by omega
  have hz3:(c:Int)<(n:Int)+1:=by omega
  have hkk:(n:Int)+1 - (i:Int)=((n+1 - i:Nat):Int):=by omega
  have hik:i+(n+1 - i)=n+1:=by omega
  obtain ⟨olds,holds⟩:∃ olds,olds=cur.toList.take (i*3):=⟨_,rfl⟩
  have hol:olds.length=i*3:=by rw [holds,List.length_take,Array.length_toList];omega
  have hbd:w.drew.heap[b]?=some (.cells cur T fr):=hb
  have hog:∀ (j:Nat) (v:Value),olds[j]?=some v→cur[j]?=some v:=fun j v hj=>by
    have hjl:=(List.getElem?_eq_some_iff.1 hj).1
    rw [holds,List.getElem?_take_of_lt (by omega),Array.getElem?_toList] at hj
    exact hj
  have hold:(Builtin.firstCells i0.size i (.slice (some ⟨b,0,none⟩) i c)).run Tryz.prog w.drew=.ok olds.toArray w.drew:=by
    rw [hzs]
    exact run_firstCells_some w.drew 3 i ⟨b,0,none⟩ i c olds hol (fun j v hj=>by rw [Addr.add_lit,Nat.zero_add];exact abk hbd (hog j v hj))
  obtain ⟨G,hG⟩:∃ G,G=grownCap w (n+1) c 186:=⟨_,rfl⟩
  have hrz:∀ ty,(Builtin.append_ #[202,3] ty #[.slice (some ⟨b,0,none⟩) i c,.int .i64 ((n:Int)+1 - (i:Int))]).run Tryz.prog w=
      .ok (.slice (some ⟨w.heap.size,0,none⟩) (n+1) G) (w.drew.alloc (.cells (olds.toArray++Builtin.zeroCells (Value.agg #[Value.string { data:=#[] },Value.int IntKind.i64 0,Value.string { data:=#[] }]).cells (n+1 - i)++Builtin.zeroCells (Value.agg #[Value.string { data:=#[] },Value.int IntKind.i64 0,Value.string { data:=#[] }]).cells (G - (n+1))) 186)):=fun ty=>by
    have h:=Lib.run_append_grow_zeros w 202 3 ty 186 i0 _ .i64 .i64 Tryz.underlying202 Tryz.underlying3 hi0 hz0 (some ⟨b,0,none⟩) i c olds hold (n+1 - i) (by omega) (by omega) (by omega) (by omega) (by rw [hzb];omega) (by rw [hzb,hik];exact growslice_fits hroom hbig)
    rw [hik] at h
    rw [hkk,hG]
    exact h
  have hGn:n+1≤G:=by rw [hG];exact grownCap_ge w _ _ _
  have hG63:G≤9223372036854775807:=by
    have:=grownCap_le_maxLen w (n+1) c 186 (by unfold maxLen;omega)
    rw [← hG] at this
    unfold maxLen at this
    omega
  rw [← holds,← hG]
  obtain ⟨ROW,hROW⟩:∃ ROW:Array Value,ROW=olds.toArray++Builtin.zeroCells (Value.agg #[Value.string { data:=#[] },Value.int IntKind.i64 0,Value.string { data:=#[] }]).cells (n+1 - i)++Builtin.zeroCells (Value.agg #[Value.string { data:=#[] },Value.int IntKind.i64 0,Value.string { data:=#[] }]).cells (G - (n+1)):=⟨_,rfl⟩
  rw [← hROW] at hrz ⊢
  have hRl:ROW.size=G*3:=by
    rw [hROW,Array.size_append,Array.size_append,size_zeroCells,size_zeroCells,List.size_toArray,hol]
    simp only [Value.cells,List.size_toArray,List.length_cons,List.length_nil]
    omega
  obtain ⟨tail,htail⟩:∃ tail,tail=(cur.toList.drop (i*3)).take ((n - i)*3):=⟨_,rfl⟩
  have htl:tail.length=(n - i)*3:=by rw [htail,List.length_take,List.length_drop,Array.length_toList];omega
  have htg:∀ (j:Nat) (v:Value),tail[j]?=some v→cur[i*3+j]?=some v:=fun j v hj=>by
    have hjl:=(List.getElem?_eq_some_iff.1 hj).1
    rw [htail,List.getElem?_take_of_lt (by omega),List.getElem?_drop,Array.getElem?_toList] at hj
    exact hj
  have ht1:∀ v ∈ tail,v.oneCell'=true:=fun v hv=>by
    obtain ⟨j,hj,e⟩:=List.getElem_of_mem hv
    have h2:=htg j v (by rw [List.getElem?_eq_getElem hj,e])
    have:=h1c (i*3+j) (by omega)
    rw [aaa,h2] at this
    exact this
  rw [← htail]
  have hbw:b<w.heap.size:=aa0 hb
  have hvw:vb<w.heap.size:=aa0 hv
  have hNew:(w.drew.alloc (.cells ROW 186)).heap[w.heap.size]?=some (.cells ROW 186 (0,0)):=heap_alloc_new w.drew _
  obtain ⟨W1,hst1,U1⟩:=aau Tryz.prog w.heap.size (i*3) vs 0 ROW _ hNew (by omega) (fun j _ _ h=>by omega) h1v
  rw [Nat.add_zero] at U1
  have U1d:W1.drew.heap[w.heap.size]?=some (.cells (arrSet ROW (i*3) vs) 186 (0,0)):=U1.new
  obtain ⟨W2,hst2,U2⟩:=aau Tryz.prog w.heap.size ((i+1)*3) tail 0 _ W1.drew U1d (by rw [htl,U1.len];omega) (fun j _ _ h=>by omega) ht1
  rw [Nat.add_zero] at U2
  have hvA:(w.drew.alloc (.cells ROW 186)).heap[vb]?=some (.cells vcur TV (0,0)):=(heap_alloc_old w.drew _ hvw).trans hv
  have hbB:W1.drew.heap[b]?=some (.cells cur T fr):=(U1.other b (by omega)).trans ((heap_alloc_old w.drew _ hbw).trans hb)
  have hcpA:∀ ty dc,(Builtin.copy_ #[202,202] ty #[.slice (some ⟨w.heap.size,i*3,none⟩) (n+1 - i) dc,.slice (some ⟨vb,0,none⟩) 1 vc]).run Tryz.prog (w.alloc (.cells ROW 186)).drew=.ok (goInt 1) W1:=fun ty dc=>
    adc (w:=w.drew.alloc (.cells ROW 186)) Tryz.underlying202 hi0 hzs w.heap.size (i*3) _ dc ⟨vb,0,none⟩ _ vc 1 vs (by simp only [Nat.min_def];split <;> omega) (by omega) (fun j v hj=>by rw [Addr.add_lit,Nat.zero_add];exact abk hvA (hvs j v hj)) hst1
  have hcpB:∀ ty dc sc,(Builtin.copy_ #[202,202] ty #[.slice (some ⟨w.heap.size,(i+1)*3,none⟩) (n - i) dc,.slice (some ⟨b,i*3,none⟩) (n - i) sc]).run Tryz.prog W1.drew=.ok (goInt ((n - i:Nat):Int)) W2:=fun ty dc sc=>
    adc Tryz.underlying202 hi0 hzs w.heap.size ((i+1)*3) _ dc ⟨b,i*3,none⟩ _ sc (n - i) tail (by simp only [Nat.min_def];split <;> omega) htl (fun j v hj=>by rw [Addr.add_lit];exact abk hbB (htg j v hj)) hst2
  have UU:Upd (w.alloc (.cells ROW 186)) W2 w.heap.size ROW (arrSet (arrSet ROW (i*3) vs) ((i+1)*3) tail) 186 (0,0):=
    ⟨U2.os.trans U1.os,U2.tape.trans U1.tape,U2.output.trans U1.output,U2.size.trans U1.size,fun k hk=>(U2.other k hk).trans (U1.other k hk),U1.old,U2.new,U2.len.trans U1.len⟩
  have hw1:IntKind.i64.wrap ((i:Int)+1)=(i:Int)+1:=by rw [IntKind.wrap_i64];omega
  have hw2:IntKind.i64.wrap ((n:Int)+1)=(n:Int)+1:=by rw [IntKind.wrap_i64];omega
  have hb1:(0:Int)≤(i:Int)+1:=by omega
  have hin:i≤n:=by omega
  have htn:((i:Int)+1).toNat=i+1:=by omega
  have hb3:(i:Int)≤(n:Int):=by omega
  have hGi:¬ (G=i):=by omega
  have hGim:¬ (G=i+1):=by omega
  have hci:¬ (c=i):=by omega
  clear hkk hik hold hG hROW U1 U2 hst1 hst2 ht1 htg htl htail hRl hNew U1d hvA hbB hog hol holds hbd
  go_enter Tryz.func224,Tryz.ntmps224
  go_wp2_with (first
    | (at_builtin;refine Lib.wpList_append_run _ rfl _ _ _ _ rfl _ _ rfl rfl _ _ (hrz _) ?_)
    | (at_builtin;refine wpList_copy_runI _ rfl _ _ 202 202 rfl _ _ rfl rfl (hcpA _ _) ?_))
  go_region_law_o (refine step_copy_runI rfl _ _ 202 202 rfl _ _ (by simp [Act.eval,Act.put]) (by simp [Act.eval,Act.put]) (hcpB _ _ _) ?_)
  go_wp2
  go_ret
  exact ⟨rfl,ROW,rfl,UU⟩
end Go.Proofs
end
