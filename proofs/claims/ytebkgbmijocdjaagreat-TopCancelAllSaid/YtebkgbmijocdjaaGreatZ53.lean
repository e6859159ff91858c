/- A part of the proof for the ledger. No condition beyond those that each theorem states. -/
import Derived.Test.YtebkgbmijocdjaaGreatZ50
import Derived.Test.YtebkgbmijocdjaaGreatZ52
set_option maxHeartbeats 32000000
set_option maxRecDepth 100000
set_option linter.unusedVariables false
set_option linter.unusedSimpArgs false
namespace Go.Proofs.YtebkgbmijocdjaaGreat.Tp
open Go Go.RowKit Go.ChangeShapes Go.WideShapes Go.Deep
section
variable {H:Type} {enc:TypeId × Value→H} {w:World} {base:Nat} {spare:Nat→Bool} {held:Bool}
theorem Xtg {fuel:Nat}{cs:List Value}{x:DataW H × List MemPlace}(h:DataW.trod enc Tryz.prog w base spare held fuel 5 cs=some x):∃a,cs=u8E.f a:=by
 obtain ⟨n,e,_,hw⟩:=DataW.trod_int Tryz.underlying5 h;have h2:0≤n∧n<256:=by
  simp only[Lit.wf,Bool.and_eq_true,decide_eq_true_eq] at hw;have h3:IntKind.u8.min=0:=by decide
  have h4:IntKind.u8.max=255:=by decide
  omega
 refine ⟨UInt8.ofNat n.toNat,?_⟩;rw[e];have h3:(UInt8.ofNat n.toNat).toNat=n.toNat:=by
  rw[UInt8.toNat_ofNat'];exact Nat.mod_eq_of_lt (by omega)
 show _ = [Value.int .u8 ((UInt8.ofNat n.toNat).toNat:Int)];rw[h3,Int.toNat_of_nonneg h2.1]
theorem Xrl {fuel:Nat}{cs:List Value}{x:DataW H × List MemPlace}(h:DataW.trod enc Tryz.prog w base spare held fuel 68 cs=some x):∃(A:Option Addr)(l:List UInt8)(c:Nat),cs = [.slice A l.length c] ∧ l.length≤maxLen∧SlAt u8E w A l∧l.length≤c :=
 Xd3 u8E 0 Tryz.underlying68 (by kernel_rfl) (by decide) Xtg h
end
end Go.Proofs.YtebkgbmijocdjaaGreat.Tp
