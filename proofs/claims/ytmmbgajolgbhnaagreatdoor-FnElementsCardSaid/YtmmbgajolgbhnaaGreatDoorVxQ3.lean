import Derived.Test.YtmmbgajolgbhnaaGreatDoorVxQ2
import Derived.Test.YtmmbgajolgbhnaaGreatDoorC4
import Derived.LaidSub
import Derived.Stop.LaidErr
set_option linter.all false
namespace Go.VS
open Go Go.Proofs Go.Proofs.YtmmbgajolgbhnaaGreatDoor Go.ChangeShapes Go.WideShapes Go.ChangeAt Go.RowKit
set_option maxRecDepth 100000
theorem star : "*" ++ "errors.errorString" = "*errors.errorString" := by decide
theorem row251 (u:TypeId) (h:Tryz.prog.typeName? 3 u=some "*errors.errorString"):u=251:=
  typeName_ptr_named (nm := "errors.errorString") (by rw [star];kernel_rfl) (by kernel_rfl) (by decide) u (by rw [star];exact h)
theorem alm {W:World} {l:List (String × DataW Unit)} {n:String} {d:DataW Unit} (hf:l.filter (fun x=>x.1 == n)=[(n,d)]) (hn:d.handleName?=none) (h:laidMetH Tryz.prog l W):laidMet Tryz.prog [(n,d)] W:=by
  have h1:=laidMetH.filter (fun x=>x.1 == n) h
  rw [hf] at h1
  obtain ⟨h2,_⟩:=laidMetH_iff.1 h1
  simpa [hn] using h2
theorem laidTab {W:World} {l:List (String × DataW Unit)} (hf:l.filter (fun x=>x.1 == "internal/strconv.uint64pow10")=[("internal/strconv.uint64pow10",Rows.laid_internal_strconv_uint64pow10)]) (h:laidMetH Tryz.prog l W):
    Lib.TabIs Tryz.prog W "internal/strconv.uint64pow10" .u64 Lib.pow10Tab:=
  Lib.tabIs_of_head (g:=1) (t:=227) (e:=132) (n:=20) (rest:=[]) (by kernel_rfl) (by kernel_rfl) Tryz.underlying227 Tryz.underlying132 (by kernel_rfl) (by kernel_rfl) (alm hf rfl h)
theorem aqo {W:World} {l:List (String × DataW Unit)} (h1:l.filter (fun x=>x.1 == "internal/strconv.uint64pow10")=[("internal/strconv.uint64pow10",Rows.laid_internal_strconv_uint64pow10)])
    (h2:l.filter (fun x=>x.1 == "strconv.ErrSyntax")=[("strconv.ErrSyntax",Rows.laid_strconv_ErrSyntax)]) (h3:l.filter (fun x=>x.1 == "strconv.ErrRange")=[("strconv.ErrRange",Rows.laid_strconv_ErrRange)]) (h:laidMetH Tryz.prog l W):LaidAll W:=by
  refine ⟨laidTab h1 h,?_,?_⟩
  · obtain ⟨a,t,hv,_⟩:=laid_sentinel (g:=2) (alm h2 (by kernel_rfl) h) (by kernel_rfl) (by kernel_rfl) Tryz.underlying88 row251 Tryz.underlying251 Tryz.underlying253 rfl rfl Tryz.underlying9 (by kernel_rfl) (by kernel_rfl)
    exact ⟨_,_,hv⟩
  · obtain ⟨a,t,hv,_⟩:=laid_sentinel (g:=3) (alm h3 (by kernel_rfl) h) (by kernel_rfl) (by kernel_rfl) Tryz.underlying88 row251 Tryz.underlying251 Tryz.underlying253 rfl rfl Tryz.underlying9 (by kernel_rfl) (by kernel_rfl)
    exact ⟨_,_,hv⟩
def bsA (l:List Nat):ByteArray:=⟨(l.map UInt8.ofNat).toArray⟩
noncomputable def low7:Nat:=(World.holding Tryz.prog default ⟨#[],#[],[]⟩).heap.size
noncomputable def laidWorld7 (os:Os):World:=
  let w0:=World.holding Tryz.prog os ⟨#[.cells #[.string (bsA [105,110,118,97,108,105,100,32,115,121,110,116,97,120])] 253 (0,0),.cells #[.string (bsA [118,97,108,117,101,32,111,117,116,32,111,102,32,114,97,110,103,101])] 253 (0,0)],#[],[]⟩
  { w0 with heap:=(((((((w0.heap.modify 6 (fillO (cellsD Rows.laid_unicode_utf8_first))).modify 7 (fillO (cellsD Rows.laid_unicode_utf8_acceptRanges))).modify 1 (fillO (cellsD Rows.laid_internal_strconv_uint64pow10))).modify 4 (fillO (cellsD Rows.laid_math_bits_deBruijn32tab))).modify 5 (fillO (cellsD Rows.laid_math_bits_deBruijn64tab))).modify 2 (fillO [.iface 251 (.pointer (some ⟨low7,0,none⟩))])).modify 3 (fillO [.iface 251 (.pointer (some ⟨low7+1,0,none⟩))])) }
def laidL7:List (String × DataW Unit):=[("math/bits.deBruijn32tab",Rows.laid_math_bits_deBruijn32tab),("math/bits.deBruijn64tab",Rows.laid_math_bits_deBruijn64tab),("internal/strconv.uint64pow10",Rows.laid_internal_strconv_uint64pow10),("unicode/utf8.acceptRanges",Rows.laid_unicode_utf8_acceptRanges),("strconv.ErrRange",Rows.laid_strconv_ErrRange),("strconv.ErrSyntax",Rows.laid_strconv_ErrSyntax),("unicode/utf8.first",Rows.laid_unicode_utf8_first)]
theorem atw {W:World} (h:laidMetH Tryz.prog laidL7 W):LaidAll W:=aqo (by kernel_rfl) (by kernel_rfl) (by kernel_rfl) h
end Go.VS
