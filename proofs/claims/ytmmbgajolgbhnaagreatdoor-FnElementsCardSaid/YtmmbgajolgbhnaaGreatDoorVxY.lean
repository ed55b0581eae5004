import Derived.Test.YtmmbgajolgbhnaaGreatDoorVxP
set_option linter.all false
namespace Go.VS
open Go Go.Proofs
theorem hasBytes {E:Nat→Sr} {n:Nat} {cs:List V} (h:HasW (HasN E n) (.sl false (.nu .u8)) cs):∃ m l,mkE false cs=slv m true 1 (bytesV l):=by
  rcases h with e | ⟨xs,e,_,hx⟩
  · exact ⟨true,[],by rw [e];rfl⟩
  · refine ⟨false,xs.map fun v=>match v with | .i _ k=>UInt8.ofNat k.toNat | _=>0,?_⟩
    rw [e,slv_f]
    show V.view true 1 xs=_
    congr 1
    unfold bytesV
    rw [List.map_map]
    conv=>lhs;rw [← List.map_id xs]
    refine List.map_congr_left fun v hv=>?_
    obtain ⟨cs,⟨k,e1,k1,k2⟩,e2⟩:=hx v hv
    have e3:v=.i .u8 k:=by rw [e2,e1];rfl
    have k1:0≤k:=k1
    have k2:k≤255:=k2
    rw [e3]
    show V.i .u8 k=.i .u8 ((UInt8.ofNat k.toNat).toNat:Int)
    congr 1
    rw [UInt8.toNat_ofNat']
    omega
end Go.VS
