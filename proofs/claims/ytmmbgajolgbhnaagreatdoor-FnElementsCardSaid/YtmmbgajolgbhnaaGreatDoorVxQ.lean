import Derived.Test.YtmmbgajolgbhnaaGreatDoorVxP
import Derived.Test.YtmmbgajolgbhnaaGreatDoorCards
import Derived.Test.YtmmbgajolgbhnaaGreatDoorTie
import Derived.WalkKit
import Derived.ProofKit
import Derived.OpenShut
import Derived.Deep.DeepHandedRow
import Derived.Lib.LaidTab
import Derived.Shelf.Vars
import Derived.Deep.DeepLaidRun
set_option linter.all false
namespace Go.VS
open Go Go.Proofs Go.Proofs.YtmmbgajolgbhnaaGreatDoor Go.ChangeShapes Go.WideShapes Go.ChangeAt Go.RowKit
set_option maxRecDepth 100000
theorem mixed:Tryz.prog.follows .mixedOrders=true:=by kernel_rfl
theorem laidOut:laidOutB Tryz.prog=true:=by kernel_rfl
theorem maxLenCell {W:World} (h:W.ShapedOpen Tryz.prog):∃ mm,W.cell? ⟨0,0,none⟩=some (.int .i64 mm):=
  cell_of_shapedOpen_int h (g:=0) (t:=3) (zero:=#[.int .i64 0]) (of_decide_eq_true (by kernel_rfl)) (by kernel_rfl) rfl (by kernel_rfl) (by kernel_rfl) Tryz.underlying3
theorem aqe {H:Type} {enc:TypeId × Value→H} {P:Program} {w:World} {sp:Nat→Bool} {hd:Bool}:∀ {ts:List TypeId} {vs:List Value} {ds:List (DataW H)} {ps:List MemPlace},DataW.TrodAll enc P w 0 sp hd ts vs ds ps→ds.length=ts.length
  | [],[],[],_,_=>rfl
  | [],[],_ :: _,_,h=>h.elim
  | [],_ :: _,[],_,h=>h.elim
  | [],_ :: _,_ :: _,_,h=>h.elim
  | _ :: _,[],[],_,h=>h.elim
  | _ :: _,[],_ :: _,_,h=>h.elim
  | _ :: _,_ :: _,[],_,h=>h.elim
  | _ :: ts,_ :: vs,_ :: ds,_,h=>by
    obtain ⟨_,_,_,h2,_⟩:=h
    simp [aqe h2]
theorem as7 {H:Type} {enc:TypeId × Value→H} {k m:Nat} {F:Func} {s:ChangeSpec} {ts:List TypeId} {r:List (Bool × Sr)} (hsh:srAs Tryz.prog tyT 8 ts=some r) (hk:phi k=m) (hcall:∀ args w,(callFunc m args).run Tryz.prog w=.ok (.enter m args) w) (hF:F.params=ts.toArray) (hR:F.resultTypes=#[4])
    (hsv:s.vars=[]) (hsf:∀ ds:List (DataW H),ds.length=ts.length→s.fn H ds={ results:=[.lit (.bool true)],args:=ds }) (hrd:∀ t,t ∈ ts→Tryz.prog.readableRec t=true∧t<Tryz.prog.types.size)
    {W:World} (hM:Matched Tryz.prog phi tbS ⟨W.heap.size,Tryz.prog⟩ (oldJ W) prog) (law:∀ us,HasAR tyE r us→∀ K:Out→Prop,Call prog k ⟨us,[],[]⟩ K=K (.b true,[],[]))
    {args:Array Value} {ds gs:List (DataW H)} {before:List MemPlace} {base:Nat} {fresh handsOn again:Bool}
    (hval:∀ (j:Nat) t v,F.params[j]?=some t→args[j]?=some v→Value.okWide Tryz.prog W .any base t v)
    (hW:DataW.Whole enc Tryz.prog F.params.toList s.vars false W args.toList ds gs before) (hS:W.ShapedOpen Tryz.prog) (h5:k<5000:=by decide):
    Calls Tryz.prog m args W fun e W'=>∃ v,e=.returned v∧s.post enc Tryz.prog F false fresh handsOn again W args v W':=by
  have hW':=hW
  obtain ⟨p,q,hA,hV,rfl,hfz,hnd⟩:=hW
  rw [hsv] at hV
  obtain ⟨rfl,rfl⟩:=trodVars_none hV
  rw [hF] at hA
  obtain ⟨us,h1,h2,h3⟩:=ao3 tyOk (φ:=phi) hsh (fun j t v hj hv=>hval j t v (by rw [hF];simpa using hj) (by simpa using hv)) hA
  have hl:=aqe hA
  refine (aru (k:=k) hk h5 tiok mixed hM (us:=us) (by simpa using h2.symm) (fun j u hj=>by
    have:=h3 j u hj
    rw [List.getD_eq_getElem?_getD] at this
    rw [Array.getD_eq_getD_getElem?,← Array.getElem?_toList]
    exact this) ?_ hcall).mono ?_
  · have:=law us h1 fun o=>o.1=.b true
    exact this.mpr rfl
  · rintro e W' ⟨rfl,hfr⟩
    exact ⟨_,rfl,atx hW' hsv (by rw [List.append_nil];exact hsf ds hl) hR Tryz.underlying4 laidOut (by rw [hF];exact hrd) hfr⟩
theorem own:ownKnob Tryz.prog.godebug=none:=by kernel_rfl
mutual
def cellsD:DataW Unit→List Value
  | .lit (.int k n)=>[.int k n]
  | .agg ps=>cellsDs ps
  | _=>[]
def cellsDs:List (DataW Unit)→List Value
  | []=>[]
  | d :: ds=>cellsD d++cellsDs ds
end
def fillO (cs:List Value):Obj→Obj
  | .cells _ t fz=>.cells cs.toArray t fz
  | o=>o
end Go.VS
