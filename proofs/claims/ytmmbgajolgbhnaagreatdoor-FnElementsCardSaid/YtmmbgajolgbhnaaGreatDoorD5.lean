/-
  Elements converted; the laws of ConvertElement and ConvertBytes.
-/
import Derived.Test.YtmmbgajolgbhnaaGreatDoorD4
set_option linter.all false
section
namespace Go.VS
set_option maxRecDepth 4000
attribute [-simp] isLeaf okRet ridL V.leaves
noncomputable def cv:Nat→Ty→Ty→Bs→Bs × Bool
  | 0,_,_,_=>([],false)
  | d+1,f,t,b=>if f.nmr=true then cvN f t (f.it.num b)
    else if f.kind=2 then cvT t b
    else if f.kind=6 then (b,true)
    else if f.kind=5 then (((f.parts b).map fun x=>(cv d x.1 (t.base.headD Ty.zero) x.2).1).flatten,(f.parts b).all fun x=>(cv d x.1 (t.base.headD Ty.zero) x.2).2)
    else (lay t.size.toNat 0 (itm (fun m=>(match f.mem m.name with
        | none=>(Zr d m.ty,true)
        | some y=>cv d y.ty m.ty (sl b y.off (y.off+y.ty.sz))).1) t.ms),t.ms.all fun m=>(match f.mem m.name with
        | none=>(Zr d m.ty,true)
        | some y=>cv d y.ty m.ty (sl b y.off (y.off+y.ty.sz))).2)
theorem Can.kinds {d:Nat} {f t:Ty} (h:Can (d+1) f t=true):(f.nmr=true∧t.nmr=true)∨(f.nmr=false∧t.nmr=false∧f.kind=t.kind):=by
  rw [Can] at h
  by_cases c:f.nmr=true∨t.nmr=true
  · rw [if_pos c] at h
    left;simpa using h
  · rw [if_neg c] at h
    right
    refine ⟨by cases q:f.nmr;rfl;exact absurd (.inl q) c,by cases q:t.nmr;rfl;exact absurd (.inr q) c,?_⟩
    by_cases k:f.kind=t.kind
    · exact k
    · rw [if_pos k] at h;cases h
theorem Can.arr {d:Nat} {f t:Ty} (h:Can (d+1) f t=true) (k:f.kind=5):f.count=t.count∧Can d (f.base.headD Ty.zero) (t.base.headD Ty.zero)=true:=by
  have hn:¬ f.nmr=true:=by unfold Ty.nmr;simp;omega
  rcases (Can.kinds h) with q | ⟨q1,q2,q3⟩
  · exact absurd q.1 hn
  rw [Can,if_neg (by rw [q1,q2];simp),if_neg (fun h=>h q3),if_pos k] at h
  simpa using h
theorem Can.comp {d:Nat} {f t:Ty} (h:Can (d+1) f t=true) (k:f.kind=4):∀ m,m ∈ t.ms→∀ y,f.mem m.name=some y→Can d y.ty m.ty=true:=by
  have hn:¬ f.nmr=true:=by unfold Ty.nmr;simp;omega
  rcases (Can.kinds h) with q | ⟨q1,q2,q3⟩
  · exact absurd q.1 hn
  rw [Can,if_neg (by rw [q1,q2];simp),if_neg (fun h=>h q3),if_neg (by omega),Can_ms,List.all_eq_true] at h
  intro m hm y hy
  have:=h m hm
  unfold CanM at this
  rwa [hy] at this
theorem Ok.mb {d:Nat} {t:Ty} {b:Bs} (h:Ok (d+1) t b) (k:t.kind=4):∀ m,m ∈ t.ms→Ok d m.ty (sl b m.off (m.off+m.ty.sz)):=by
  intro m hm
  obtain ⟨i,hi,rfl⟩:=List.getElem_of_mem hm
  exact (h.2.2.2.1 k i (Nat.le_of_lt hi)).2 hi
end Go.VS
end
section
namespace Go.VS
set_option maxRecDepth 4000
attribute [-simp] isLeaf okRet ridL V.leaves
end Go.VS
end
section
namespace Go.VS
set_option maxRecDepth 4000
attribute [-simp] isLeaf okRet ridL V.leaves
end Go.VS
end
section
namespace Go.VS
set_option maxRecDepth 4000
attribute [-simp] isLeaf okRet ridL V.leaves
end Go.VS
end
section
namespace Go.VS
set_option maxRecDepth 4000
attribute [-simp] isLeaf okRet ridL V.leaves
def ckB (z:Nat) (b:Bs) (k:Nat):Bs:=(b.drop (k*z)).take z
def cks (z:Nat) (b:Bs) (n:Nat):List Bs:=(List.range n).map (ckB z b)
structure Dt (f:Ty) (b:Bs):Prop where
  m:b.length % f.sz.toNat=0
  e:∀ k,k<b.length / f.sz.toNat→Ok 3 f (ckB f.sz.toNat b k)
@[simp] theorem cks_len (z:Nat) (b:Bs) (n:Nat):(cks z b n).length=n:=by simp [cks]
end Go.VS
end
section
namespace Go.VS
set_option maxRecDepth 4000
attribute [-simp] isLeaf okRet ridL V.leaves
theorem Dt.ok {f:Ty} {b:Bs} (h:Dt f b):∀ e,e ∈ cks f.sz.toNat b (b.length / f.sz.toNat)→Ok 3 f e:=fun e hm=>by
  obtain ⟨k,hk,rfl⟩:=List.mem_map.mp hm
  exact h.e k (List.mem_range.mp hk)
end Go.VS
end
section
namespace Go.VS
set_option maxRecDepth 4000
attribute [-simp] isLeaf okRet ridL V.leaves
end Go.VS
end
