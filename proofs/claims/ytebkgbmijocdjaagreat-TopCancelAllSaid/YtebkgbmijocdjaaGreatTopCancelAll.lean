/- 'TopCancelAll' returns true for every input, and leaves its arguments as they were. No condition. The frame follows the kit's proof-skeleton. -/
import Derived.Test.YtebkgbmijocdjaaGreatRows
import Derived.Test.YtebkgbmijocdjaaGreatZ52
import Derived.Test.YtebkgbmijocdjaaGreatZ53
import Derived.WalkKit
import Derived.ProofKit
import Derived.OpenShut
import Derived.ShutString
namespace Go.Proofs.YtebkgbmijocdjaaGreat.topCancelAll
open Go.ChangeShapes Go.WideShapes Go.ChangeAt Go.RowKit
open Go.ChangeMaps (open_string shut_string)
set_option linter.unusedVariables false

theorem own : ownKnob Tryz.prog.godebug = none := by kernel_rfl

theorem laidOut : laidOutB Tryz.prog = true := by kernel_rfl
theorem walk (Aq0 : Option Addr) (cq0 : Nat) (Ac0 : Option Addr) (cc0 : Nat) (pp0 : Tp.Pln) (A1 : Option Addr) (c1 : Nat) (l1 : List Tp.Rq) (A2 : Option Addr) (c2 : Nat) (l2 : List UInt8) (w : World) (T0 : Tp.Xas w Aq0 cq0 Ac0 cc0 pp0) (R1 : SlAt Tp.rqE w A1 l1) (w1 : l1.length ≤ maxLen) (R2 : SlAt Tp.u8E w A2 l2) (w2 : l2.length ≤ maxLen) :
    Calls Tryz.prog 6 #[.agg #[.slice Aq0 pp0.q.length cq0, .slice Ac0 pp0.c.length cc0], .slice A1 l1.length c1, .slice A2 l2.length c2] w fun e w' => e = .returned (.bool true) ∧ Below w.heap.size w w' :=
  (fun Aq cq Ac cc p A c l O cO os w T R _ RO wO => Tp.Xov Aq cq Ac cc p A c l O cO os w T R RO wO) Aq0 cq0 Ac0 cc0 pp0 A1 c1 l1 A2 c2 l2 w T0 R1 w1 R2 w2

set_option maxHeartbeats 2000000 in
set_option maxRecDepth 100000 in
theorem lifted (os : Os) (started : os.Started) (H : Type) (enc : TypeId × Value → H) :
    ReturnsInHanded {} Tryz.checked os 6 .any (Rows.topCancelAllSpec.pre6 enc Tryz.prog Tryz.f6 Rows.topCancelAllRow.domain false) (Rows.topCancelAllSpec.post enc Tryz.prog Tryz.f6 false true false false) := by
  refine returnsInHanded_of_change (C := Tryz.checked) own started (by kernel_rfl) Tryz.func6
    (ChangeSpec.witness6 (enc := enc) (C := Tryz.checked) false ⟨#[], #[.agg #[.slice none 0 0, .slice none 0 0], .slice none 0 0, .slice none 0 0], []⟩ 8 (by kernel_rfl) (by kernel_rfl) (by kernel_rfl) (by kernel_rfl)) ?_
  intro W base args ds gs before hval0 hW hcnd _
  have hval : ∀ (j : Nat) t v, Tryz.f6.params[j]? = some t → args[j]? = some v → Value.okWide Tryz.prog W .any base t v := hval0
  have hW' := hW
  obtain ⟨p, q, hA0, hV, rfl, hfz, hnd⟩ := hW
  have hA : DataW.TrodAll enc Tryz.prog W 0 (fun _ => true) true Tryz.f6.params.toList args.toList ds p := hA0
  rw [Tryz.params6] at hA hval
  obtain ⟨v0, vs0, d0, ds0, p0, q0, hargs, rfl, rfl, h0, r0⟩ := trodAll_cons hA
  obtain ⟨v1, vs1, d1, ds1, p1, q1, rfl, rfl, rfl, h1, r1⟩ := trodAll_cons r0
  obtain ⟨v2, vs2, d2, ds2, p2, q2, rfl, rfl, rfl, h2, r2⟩ := trodAll_cons r1
  obtain ⟨rfl, rfl, rfl⟩ := trodAll_nil r2
  obtain rfl : args = #[v0, v1, v2] := by cases args; simp_all
  obtain ⟨rfl, rfl⟩ := trodVars_none hV
  have k0 := h0
  obtain ⟨⟨cs0⟩, rfl, _⟩ := okWide_struct Tryz.underlying25 (hval 0 25 v0 rfl rfl)
  obtain ⟨fuel0, hf0⟩ := h0
  obtain ⟨Aq0, cq0, Ac0, cc0, pp0, hs0, T0⟩ := Tp.Xh5 hf0
  have hu0 : cs0 = _ := hs0
  subst hu0
  have hlt0 : ∀ x ∈ p0, x.block < W.heap.size := fun x hx => hW'.lt x (by simp [hx])
  have k1 := h1
  obtain ⟨B1, n1, c1, rfl⟩ := okWide_slice Tryz.underlying45 (hval 1 45 v1 rfl rfl)
  obtain ⟨fuel1, hf1⟩ := h1
  obtain ⟨A1, l1, cc1, hs1, w1, R1, g1⟩ := Tp.Xjf hf1
  simp only [Value.cells, List.cons.injEq, Value.slice.injEq, and_true] at hs1
  obtain ⟨rfl, rfl, rfl⟩ := hs1
  have hlt1 : ∀ x ∈ p1, x.block < W.heap.size := fun x hx => hW'.lt x (by simp [hx])
  have k2 := h2
  obtain ⟨B2, n2, c2, rfl⟩ := okWide_slice Tryz.underlying68 (hval 2 68 v2 rfl rfl)
  obtain ⟨fuel2, hf2⟩ := h2
  obtain ⟨A2, l2, cc2, hs2, w2, R2, g2⟩ := Tp.Xrl hf2
  simp only [Value.cells, List.cons.injEq, Value.slice.injEq, and_true] at hs2
  obtain ⟨rfl, rfl, rfl⟩ := hs2
  have hlt2 : ∀ x ∈ p2, x.block < W.heap.size := fun x hx => hW'.lt x (by simp [hx])
  clear hA0 hval0
  simp only [List.append_nil] at hW'
  refine (walk Aq0 cq0 Ac0 cc0 pp0 B1 c1 l1 B2 c2 l2 W T0 R1 w1 R2 w2).mono fun e W' ⟨he, hg⟩ => ?_
  subst he
  exact ⟨_, rfl, Tp.Xct (pv := []) hW' (fun _ _ _ => (trodAll_cons_mk (shut_bool Tryz.underlying4 _) trodAll_mk0)) (fun sp hsp => (trodAll_cons_mk (WideElems.Trod_stays laidOut (by kernel_rfl) (of_decide_eq_true (by kernel_rfl)) k0 (fun x hx => hg.same (hlt0 x hx)) (fun x hx => hsp x (by simp [hx]))) (trodAll_cons_mk (WideElems.Trod_stays laidOut (by kernel_rfl) (of_decide_eq_true (by kernel_rfl)) k1 (fun x hx => hg.same (hlt1 x hx)) (fun x hx => hsp x (by simp [hx]))) (trodAll_cons_mk (WideElems.Trod_stays laidOut (by kernel_rfl) (of_decide_eq_true (by kernel_rfl)) k2 (fun x hx => hg.same (hlt2 x hx)) (fun x hx => hsp x (by simp [hx]))) trodAll_mk0)))) (fun _ _ => rfl) (by simp)
    hg (ok_one (by kernel_rfl) rfl (okWide_bool_mk Tryz.underlying4 _))⟩

theorem over : Rows.topCancelAllRow.holds Tryz.pinned (OpenSpec.ofChange Rows.topCancelAllSpec) :=
  OpenClaim.holds_of_wide 6 Tryz.f6 rfl rfl rfl rfl rfl rfl rfl ⟨rfl, rfl, rfl, rfl, rfl⟩ rfl rfl rfl rfl rfl (by kernel_rfl) Tryz.func6 (by kernel_rfl)
    (of_decide_eq_true (by kernel_rfl)) (by unfold Func.isWrapper; first | (rw [if_pos (by decide +kernel)]; kernel_rfl) | (rw [if_neg (by decide +kernel)]; exact ⟨rfl, rfl⟩))
    (fun os started H enc _ => lifted os started H enc)

/-- the statement -/
theorem proved : Rows.TopCancelAllSaid :=
  over
#print axioms proved
end Go.Proofs.YtebkgbmijocdjaaGreat.topCancelAll
