/- Frames of rows: the last step where the arguments are read once behind the call; a slice of strings that came in; what the bound of an Upto statement gives. No condition. -/
import Derived.Test.YtdjpidniakedpaaRows
import Derived.Test.YtdjpidniakedpaaBase
import Derived.OpenShut
import Derived.ShutString
import Derived.SliceStrings
import Derived.JoinedCond
import Derived.Carry
namespace Go.Proofs.Ytdjpidniakedpaa
open Go Go.RowKit Go.ChangeShapes Go.WideShapes Go.ChangeAt

theorem post_below_once {H : Type} {enc : TypeId × Value → H} {P : Program} {f : Func} {s : ChangeSpec} {apart fresh handsOn : Bool} {W W' : World} {args : Array Value} {v : Value} {ds gs : List (DataW H)} {before pa pv : List MemPlace}
    (hW : DataW.Whole enc P f.params.toList s.vars apart W args.toList ds gs before)
    (hres : ∀ (b : Nat) (sp : Nat → Bool) (hd : Bool), DataW.TrodAll enc P W' b sp hd f.resultTypes.toList (v.resultList f.resultTypes.size) (s.fn H (ds ++ gs)).results [])
    (hargs : DataW.TrodAll enc P W' 0 (fun b => decide (b < W.heap.size)) true f.params.toList args.toList (s.fn H (ds ++ gs)).args pa)
    (hvars : DataW.TrodVars enc P W' (fun b => decide (b < W.heap.size)) s.vars (s.fn H (ds ++ gs)).vars pv)
    (hps : before = pa ++ pv) (hb : Below W.heap.size W W') :
    s.post enc P f apart fresh handsOn false W args v W' := by
  refine ⟨ds, gs, before, [], pa, pv, hW, hres _ _ _, hargs, hvars, World.keptBut_mono (fun p hp => ⟨hp, ?_⟩) (hb.frame (· ∈ before)), fun h => by cases h⟩
  rw [hps, List.mem_append] at hp
  exact Or.inr hp

/-- the strings of a []string that came in, nil or not -/
def StrsIn (w : World) (A : Option Addr) (ss : List ByteArray) : Prop := ∀ (k : Nat) (s : ByteArray), ss[k]? = some s → ∃ b off, A = some ⟨b, off, none⟩ ∧ w.cell? ⟨b, off + k, none⟩ = some (.string s)

theorem bulk_strs {H : Type} : ∀ ss : List ByteArray, Rows.uptoBulkAll (H := H) (strs ss) = ((ss.map fun s => s.data.toList).flatten).length + ss.length
  | [] => rfl
  | s :: r => by
    have h := bulk_strs (H := H) r
    simp only [strs, List.map_cons, Rows.uptoBulkAll, Rows.uptoBulk, List.flatten_cons, List.length_append, List.length_cons] at h ⊢
    rw [h]; omega

theorem open_strs {H : Type} {enc : TypeId × Value → H} {W : World} {A : Option Addr} {len cap fuel : Nat} {x : DataW H × List MemPlace}
    (hf : DataW.trod enc Try.prog W 0 (fun _ => true) true fuel 31 [.slice A len cap] = some x) :
    ∃ ss : List ByteArray, ss.length = len ∧ len ≤ cap ∧ StrsIn W A ss ∧ ((ss.map fun s => s.data.toList).flatten).length + ss.length ≤ Rows.uptoBulk x.1 := by
  rcases open_strings Try.underlying31 Try.underlying9 (by kernel_rfl) hf with ⟨hcs, hx⟩ | ⟨a, len', cap', ss, hcs, _, hl, hm, hz, hx, hcell, _⟩
  · simp at hcs
    obtain ⟨rfl, rfl, rfl⟩ := hcs
    exact ⟨[], rfl, Nat.le_refl _, fun k s h => by simp at h, by simp⟩
  · simp at hcs
    obtain ⟨rfl, rfl, rfl⟩ := hcs
    subst hx
    simp only [if_true] at hz
    refine ⟨ss.take len, by simp; omega, hl, fun k s hk => ?_, ?_⟩
    · have hkl : k < len := by
        have := (List.getElem?_eq_some_iff.1 hk).1
        simp at this
        omega
      obtain ⟨b, off, spot⟩ := a
      have hspot : spot = none := by simpa [Addr.add] using World.cell?_spot (hcell 0 (by omega))
      subst hspot
      have hc := hcell k (by omega)
      have hs : ss.getD k ByteArray.empty = s := by
        rw [List.getElem?_take_of_lt hkl] at hk
        simp [List.getD, hk]
      rw [hs] at hc
      refine ⟨b, off, rfl, ?_⟩
      unfold Addr.add at hc
      split at hc
      · rename_i h0; subst h0; exact hc
      · exact hc
    · show _ ≤ Rows.uptoBulkAll _ + Rows.uptoBulkAll _ + 1
      rw [bulk_strs]; omega

end Go.Proofs.Ytdjpidniakedpaa
