/- 'TopLeastRoute' returns true for every input, and leaves its arguments as they were. No condition. The frame follows the kit's proof-skeleton. -/
import Derived.Test.YtebkgbmijocdjaaGreatRows
import Derived.Test.YtebkgbmijocdjaaGreatTpTop
import Derived.Test.YtebkgbmijocdjaaGreatTpArg
import Derived.WalkKit
import Derived.ProofKit
import Derived.OpenShut
import Derived.ShutString
namespace Go.Proofs.YtebkgbmijocdjaaGreat.topLeastRoute
open Go.ChangeShapes Go.WideShapes Go.ChangeAt Go.RowKit
open Go.ChangeMaps (open_string shut_string)
set_option linter.unusedVariables false

theorem own : ownKnob Tryz.prog.godebug = none := by kernel_rfl

theorem laidOut : laidOutB Tryz.prog = true := by kernel_rfl
theorem walk (Aq0 : Option Addr) (cq0 : Nat) (Ac0 : Option Addr) (cc0 : Nat) (Bb0 : Option Addr) (cb0 : Nat) (Hh0 : Option Addr) (ch0 : Nat) (tt0 : Tp.Tbl) (rr1 : Tp.Rq) (w : World) (T0 : Tp.TblAt w Aq0 cq0 Ac0 cc0 Bb0 cb0 Hh0 ch0 tt0) :
    Calls Tryz.prog 3 #[.agg #[.slice Aq0 tt0.p.q.length cq0, .slice Ac0 tt0.p.c.length cc0, .slice Bb0 tt0.b.length cb0, .slice Hh0 tt0.h.length ch0], .agg (Tp.rqL rr1).toArray] w fun e w' => e = .returned (.bool true) ∧ Below w.heap.size w w' :=
  (fun Aq cq Ac cc B cb H ch t q w ht => Tp.top_any Aq cq Ac cc B cb H ch t q w ht) Aq0 cq0 Ac0 cc0 Bb0 cb0 Hh0 ch0 tt0 rr1 w T0

set_option maxHeartbeats 2000000 in
set_option maxRecDepth 100000 in
theorem lifted (os : Os) (started : os.Started) (H : Type) (enc : TypeId × Value → H) :
    ReturnsInHanded {} Tryz.checked os 3 .any (Rows.topLeastRouteSpec.pre6 enc Tryz.prog Tryz.f3 Rows.topLeastRouteRow.domain false) (Rows.topLeastRouteSpec.post enc Tryz.prog Tryz.f3 false true false false) := by
  refine returnsInHanded_of_change (C := Tryz.checked) own started (by kernel_rfl) Tryz.func3
    (ChangeSpec.witness6 (enc := enc) (C := Tryz.checked) false ⟨#[], #[.agg #[.slice none 0 0, .slice none 0 0, .slice none 0 0, .slice none 0 0], .agg #[.int .i64 0, .int .i64 0, .int .i64 0, .int .i64 0, .int .i64 0, .int .i64 0, .bool false]], []⟩ 8 (by kernel_rfl) (by kernel_rfl) (by kernel_rfl) (by kernel_rfl)) ?_
  intro W base args ds gs before hval0 hW hcnd _
  have hval : ∀ (j : Nat) t v, Tryz.f3.params[j]? = some t → args[j]? = some v → Value.okWide Tryz.prog W .any base t v := hval0
  have hW' := hW
  obtain ⟨p, q, hA0, hV, rfl, hfz, hnd⟩ := hW
  have hA : DataW.TrodAll enc Tryz.prog W 0 (fun _ => true) true Tryz.f3.params.toList args.toList ds p := hA0
  rw [Tryz.params3] at hA hval
  obtain ⟨v0, vs0, d0, ds0, p0, q0, hargs, rfl, rfl, h0, r0⟩ := trodAll_cons hA
  obtain ⟨v1, vs1, d1, ds1, p1, q1, rfl, rfl, rfl, h1, r1⟩ := trodAll_cons r0
  obtain ⟨rfl, rfl, rfl⟩ := trodAll_nil r1
  obtain rfl : args = #[v0, v1] := by cases args; simp_all
  obtain ⟨rfl, rfl⟩ := trodVars_none hV
  have k0 := h0
  obtain ⟨⟨cs0⟩, rfl, _⟩ := okWide_struct Tryz.underlying29 (hval 0 29 v0 rfl rfl)
  obtain ⟨fuel0, hf0⟩ := h0
  obtain ⟨Aq0, cq0, Ac0, cc0, Bb0, cb0, Hh0, ch0, tt0, hs0, T0⟩ := Tp.open_tables hf0
  have hu0 : cs0 = _ := hs0
  subst hu0
  have hlt0 : ∀ x ∈ p0, x.block < W.heap.size := fun x hx => hW'.lt x (by simp [hx])
  have k1 := h1
  obtain ⟨⟨cs1⟩, rfl, _⟩ := okWide_struct Tryz.underlying31 (hval 1 31 v1 rfl rfl)
  obtain ⟨fuel1, hf1⟩ := h1
  obtain ⟨rr1, hs1⟩ := Tp.open_request hf1
  have hu1 : cs1 = _ := hs1
  subst hu1
  have hlt1 : ∀ x ∈ p1, x.block < W.heap.size := fun x hx => hW'.lt x (by simp [hx])
  clear hA0 hval0
  simp only [List.append_nil] at hW'
  refine (walk Aq0 cq0 Ac0 cc0 Bb0 cb0 Hh0 ch0 tt0 rr1 W T0).mono fun e W' ⟨he, hg⟩ => ?_
  subst he
  exact ⟨_, rfl, Tp.post_from_below (pv := []) hW' (fun _ _ _ => (trodAll_cons_mk (shut_bool Tryz.underlying4 _) trodAll_mk0)) (fun sp hsp => (trodAll_cons_mk (WideElems.Trod_stays laidOut (by kernel_rfl) (of_decide_eq_true (by kernel_rfl)) k0 (fun x hx => hg.same (hlt0 x hx)) (fun x hx => hsp x (by simp [hx]))) (trodAll_cons_mk (WideElems.Trod_stays laidOut (by kernel_rfl) (of_decide_eq_true (by kernel_rfl)) k1 (fun x hx => hg.same (hlt1 x hx)) (fun x hx => hsp x (by simp [hx]))) trodAll_mk0))) (fun _ _ => rfl) (by simp)
    hg (ok_one (by kernel_rfl) rfl (okWide_bool_mk Tryz.underlying4 _))⟩

theorem over : Rows.topLeastRouteRow.holds Tryz.pinned (OpenSpec.ofChange Rows.topLeastRouteSpec) :=
  OpenClaim.holds_of_wide 3 Tryz.f3 rfl rfl rfl rfl rfl rfl rfl ⟨rfl, rfl, rfl, rfl, rfl⟩ rfl rfl rfl rfl rfl (by kernel_rfl) Tryz.func3 (by kernel_rfl)
    (of_decide_eq_true (by kernel_rfl)) (by unfold Func.isWrapper; first | (rw [if_pos (by decide +kernel)]; kernel_rfl) | (rw [if_neg (by decide +kernel)]; exact ⟨rfl, rfl⟩))
    (fun os started H enc _ => lifted os started H enc)

/-- the statement -/
theorem proved : Rows.TopLeastRouteSaid :=
  over
#print axioms proved
end Go.Proofs.YtebkgbmijocdjaaGreat.topLeastRoute
