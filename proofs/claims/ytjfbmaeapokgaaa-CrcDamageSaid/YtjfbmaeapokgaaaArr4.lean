/- An array of four bytes as an argument: taken apart and put together. No condition. -/
import Derived.Test.YtjfbmaeapokgaaaBase
import Derived.Test.YtjfbmaeapokgaaaRows
import Derived.ProofKit
import Derived.OpenShut
import Derived.Laws.IdiomArrays
namespace Go.Proofs.Ytjfbmaeapokgaaa
open Go Go.RowKit Go.ChangeShapes Go.WideShapes Go.ChangeAt

theorem cellsArr4 : Try.prog.cellsOf 27 = 4 := by kernel_rfl
theorem cellsByte : Try.prog.cellsOf 5 = 1 := by kernel_rfl
theorem list4 {α : Type} (l : List α) (h : (⟨l⟩ : Array α).size = 4) : ∃ a b c d, l = [a, b, c, d] := by
  match l, h with
  | [a, b, c, d], _ => exact ⟨a, b, c, d, rfl⟩
theorem u8_of {x : Int} (h : (Lit.int .u8 x).wf = true) : ∃ b : UInt8, x = (b.toNat : Int) := by
  have hb := bounds_u8 h
  refine ⟨UInt8.ofNat x.toNat, ?_⟩
  rw [UInt8.toNat_ofNat']
  omega
theorem wf_u8 (b : UInt8) : (Lit.int .u8 (b.toNat : Int)).wf = true := by
  have := UInt8.toNat_lt b
  simp [Lit.wf, IntKind.min, IntKind.max, IntKind.signed, IntKind.bits]
  omega
theorem open_arr4 {H : Type} {enc : TypeId × Value → H} {w : World} {base : Nat} {spare : Nat → Bool} {held : Bool} {r : Reach} {b0 : Nat} {v : Value} {d : DataW H} {ps : List MemPlace} (hval : Value.okWide Try.prog w r b0 27 v) (hd : DataW.Trod enc Try.prog w base spare held 27 v d ps) :
    ∃ x0 x1 x2 x3 : UInt8, v = .agg #[.int .u8 (x0.toNat : Int), .int .u8 (x1.toNat : Int), .int .u8 (x2.toNat : Int), .int .u8 (x3.toNat : Int)] ∧ d = .agg [.lit (.int .u8 (x0.toNat : Int)), .lit (.int .u8 (x1.toNat : Int)), .lit (.int .u8 (x2.toNat : Int)), .lit (.int .u8 (x3.toNat : Int))] ∧ ps = [] := by
  obtain ⟨cs, rfl, hsz, _⟩ : ∃ cs, v = .agg cs ∧ cs.size = Try.prog.cellsOf 27 ∧ Row.okWide Try.prog w r b0 27 cs := by
    simpa [Value.okWide, Try.underlying27] using hval
  rw [cellsArr4] at hsz
  obtain ⟨l⟩ := cs
  obtain ⟨c0, c1, c2, c3, rfl⟩ := list4 l hsz
  obtain ⟨fuel, hf⟩ := hd
  obtain ⟨y0, y1, y2, y3, m, hx, hy0, hy1, hy2, hy3⟩ := trod_array4 Try.underlying27 cellsByte hf
  obtain ⟨x0, e0, rfl, w0⟩ := DataW.trod_int Try.underlying5 hy0
  obtain ⟨x1, e1, rfl, w1⟩ := DataW.trod_int Try.underlying5 hy1
  obtain ⟨x2, e2, rfl, w2⟩ := DataW.trod_int Try.underlying5 hy2
  obtain ⟨x3, e3, rfl, w3⟩ := DataW.trod_int Try.underlying5 hy3
  simp at e0 e1 e2 e3
  subst e0 e1 e2 e3
  simp only [Prod.mk.injEq] at hx
  obtain ⟨rfl, rfl⟩ := hx
  obtain ⟨z0, rfl⟩ := u8_of w0
  obtain ⟨z1, rfl⟩ := u8_of w1
  obtain ⟨z2, rfl⟩ := u8_of w2
  obtain ⟨z3, rfl⟩ := u8_of w3
  exact ⟨z0, z1, z2, z3, rfl, rfl, rfl⟩
theorem shut_arr4 {H : Type} {enc : TypeId × Value → H} {w : World} {base : Nat} {spare : Nat → Bool} {held : Bool} (x0 x1 x2 x3 : UInt8) :
    DataW.Trod enc Try.prog w base spare held 27 (.agg #[.int .u8 (x0.toNat : Int), .int .u8 (x1.toNat : Int), .int .u8 (x2.toNat : Int), .int .u8 (x3.toNat : Int)]) (.agg [.lit (.int .u8 (x0.toNat : Int)), .lit (.int .u8 (x1.toNat : Int)), .lit (.int .u8 (x2.toNat : Int)), .lit (.int .u8 (x3.toNat : Int))]) [] :=
  ⟨2, by simp [DataW.trod, Value.cells, Try.underlying27, Try.underlying5, cellsArr4, cellsByte, wf_u8 x0, wf_u8 x1, wf_u8 x2, wf_u8 x3, show List.range 4 = [0, 1, 2, 3] from rfl]⟩
end Go.Proofs.Ytjfbmaeapokgaaa
