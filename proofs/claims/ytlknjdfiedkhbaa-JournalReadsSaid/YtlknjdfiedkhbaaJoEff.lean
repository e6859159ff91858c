/- The reference's step and Effect, walked. Conditions: at most 16 valid records that lie in memory; lengths below the model's greatest. -/
import Derived.Test.YtlknjdfiedkhbaaJoStepA
import Derived.Test.YtlknjdfiedkhbaaJoStepB
import Derived.Test.YtlknjdfiedkhbaaJoStepC
import Derived.Test.YtlknjdfiedkhbaaJoStepD
namespace Go.Proofs.Ytlknjdfiedkhbaa
open Go Go.RowKit
open Jo (RId Itm Rec rcA rcL itA itL idA idL ck)
attribute [-simp] Try.isAgg34 Try.sizeOf34 Try.typeInfo34

theorem stepJ_any (a b : Addr) (cA cB : Nat) (L M : List Itm) (r : Rec) (w : World) (hA : ItmsAt w (some a) L) (hB : ItmsAt w (some b) M) (hl : L.length ≤ 16) (hm : M.length ≤ 16) (hca : L.length ≤ cA) (hcb : M.length ≤ cB) (hk : r.kind = 1 ∨ r.kind = 2 ∨ r.kind = 3 ∨ r.kind = 4) :
    Calls Try.prog 33 #[.slice (some a) L.length cA, .slice (some b) M.length cB, .agg (rcA r)] w (StepPost w (stE r L M)) := by
  rcases hk with h | h | h | h
  · exact step1_any a b cA cB L M r w hA hB hl hm hca hcb h
  · exact step2_any a b cA cB L M r w hA hB hl hm hca hcb h
  · exact step3_any a b cA cB L M r w hA hB hl hm hca hcb h
  · exact step4_any a b cA cB L M r w hA hB hl hm hca hcb h
theorem stE_len (r : Rec) (L M : List Itm) : (stE r L M).1.length ≤ L.length + 1 ∧ (stE r L M).2.length ≤ M.length + 1 := by
  unfold stE
  split
  · simp
  · split
    · simp
    · split
      · split
        · simp only [List.length_append, List.length_take, List.length_drop]; omega
        · split
          · simp
          · simp
      · simp
theorem effL_len (l : List Rec) : ∀ k, (effL l k).1.length ≤ k ∧ (effL l k).2.length ≤ k
  | 0 => by simp [effL]
  | k + 1 => by
    have := effL_len l k
    simp only [effL]
    split
    · rename_i r _
      have := stE_len r (effL l k).1 (effL l k).2
      omega
    · omega
/-- what the loop keeps -/
def EffInv (l : List Rec) (w wr : World) (v u : Value) (k : Nat) : Prop :=
  ∃ a b c d, v = .slice (some a) (effL l k).1.length c ∧ u = .slice (some b) (effL l k).2.length d ∧ ItmsAt wr (some a) (effL l k).1 ∧ ItmsAt wr (some b) (effL l k).2 ∧ (effL l k).1.length ≤ c ∧ (effL l k).2.length ≤ d ∧ Below w.heap.size w wr

set_option maxHeartbeats 4000000 in
set_option maxRecDepth 100000 in
theorem effect_any (A : Option Addr) (cA : Nat) (l : List Rec) (w : World) (hl : l.length ≤ 16) (hA : RecsAt w A l) (hk : ∀ r ∈ l, r.kind = 1 ∨ r.kind = 2 ∨ r.kind = 3 ∨ r.kind = 4) :
    Calls Try.prog 15 #[.slice A l.length cA] w (StepPost w (effL l l.length)) := by
  have HA := Lib.hid hA
  have HK := Lib.hid hk
  clear hA hk
  have HI0 : Hid (EffInv l w ((w.alloc (.cells #[] 32)).alloc (.cells #[] 32)) (.slice (some ⟨w.heap.size, 0, none⟩) 0 0) (.slice (some ⟨w.heap.size + 1, 0, none⟩) 0 0) 0) :=
    ⟨_, _, 0, 0, rfl, rfl, ItmsAt.nil _ _, ItmsAt.nil _ _, Nat.le_refl _, Nat.le_refl _, ((Below.refl _ _).alloc (Nat.le_refl _) _).alloc (by simp) _⟩
  go_enter Try.func15, Try.ntmps15
  go_wp2
  go_loopw [4, 5, 6] (fun v u i wr => ∃ k : Nat, k ≤ l.length ∧ i = .int .i64 k ∧ EffInv l w wr v u k) (fun _ _ i _ => l.length - (intOf i).toNat)
  case atStart => exact ⟨0, Nat.zero_le _, rfl, HI0.out⟩
  case round =>
    clear HI0
    obtain ⟨k, hk, rfl, a, b, c, d, rfl, rfl, h1, h2, h3, h4, h5⟩ := hrel
    have H1 := Lib.hid h1
    have H2 := Lib.hid h2
    have HB := Lib.hid h5
    have HE := Lib.hid (effL_len l k)
    clear h1 h2 h5
    by_cases hlt : k < l.length
    · obtain ⟨b9, off, rfl, hr⟩ := HA.out.one (by omega)
      obtain ⟨r, hrk⟩ : ∃ r, l[k]? = some r := ⟨_, List.getElem?_eq_getElem hlt⟩
      have HRK := Lib.hid hrk
      have hlc := loadCells_range (P := Try.prog) (range_below (hr k r hrk) HB.out) (n := 19) rfl
      have HST := Lib.hid (effL_step l k r hrk)
      clear hr hrk
      generalize hL : (effL l k).1 = L at H1 h3 HE HST ⊢
      generalize hM : (effL l k).2 = M at H2 h4 HE HST ⊢
      have HLL : Hid (L.length ≤ 16 ∧ M.length ≤ 16) := by have := HE.out; exact ⟨by omega, by omega⟩
      clear hL hM HE
      go_wp2_with fail
      simp only [Try.sizeOf34, Result.andThen]
      rw [Oper.upon_value]
      go_wp2_with fail
      simp only [Try.isAgg34, Try.sizeOf34, Result.andThen, ↓reduceIte, hlc]
      rw [Oper.upon_value]
      clear hlc
      go_wp2_with fail
      refine (stepJ_any a b c d L M r wr H1.out H2.out HLL.out.1 HLL.out.2 h3 h4 (HK.out r (List.mem_of_getElem? HRK.out))).mono ?_
      rintro e w2 ⟨a2, b2, c2, d2, rfl, g1, g2, g3, g4, g5⟩
      have HN : Hid (EffInv l w w2 (.slice (some a2) (stE r L M).1.length c2) (.slice (some b2) (stE r L M).2.length d2) (k + 1)) := by
        refine ⟨a2, b2, c2, d2, ?_, ?_, ?_, ?_, ?_, ?_, HB.out.trans (g5.mono HB.out.size)⟩ <;> rw [HST.out] <;> assumption
      clear g1 g2 g3 g4 g5
      go_wp2
      go_roundw
      case rel => exact ⟨k + 1, by omega, by go_num, HN.out⟩
      case measure => simp [intOf]; omega
    · have HK : Hid (k = l.length) := by show k = l.length; omega
      have HF : Hid (effL l l.length = ((effL l k).1, (effL l k).2)) := by show _ = _; rw [HK.out]
      go_wp2
      go_ret2
      exact stepPost_of HF.out rfl rfl H1.out H2.out h3 h4 HB.out
end Go.Proofs.Ytlknjdfiedkhbaa
