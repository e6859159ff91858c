/- Parts of a slice of records; what is known of records that can be encoded. No condition. -/
import Derived.Test.YtlknjdfiedkhbaaJoRead
import Derived.Test.YtlknjdfiedkhbaaJoRecs2
import Derived.Test.YtlknjdfiedkhbaaJoAwake
namespace Go.Proofs.Ytlknjdfiedkhbaa
open Go Go.RowKit
open Jo (RId Itm Rec wi zId zIt rcA rcL ck)

theorem RecsAt.tail {w : World} {b off : Nat} {l : List Rec} (h : RecsAt w (some ⟨b, off, none⟩) l) (k : Nat) : RecsAt w (some ⟨b, off + k * 19, none⟩) (l.drop k) := fun j r hj => by
  rw [List.getElem?_drop] at hj
  obtain ⟨b', off', hA, hr⟩ := h (k + j) r hj
  cases hA
  refine ⟨b, off + k * 19, rfl, ?_⟩
  rw [show off + k * 19 + j * 19 = off + (k + j) * 19 by omega]
  exact hr
theorem elem_recs : Try.prog.elem 22 = 34 := by kernel_rfl
theorem slice_recs : Try.prog.underlying 22 = some (.slice (Try.prog.elem 22)) := by kernel_rfl
/-- 'l[:k]' -/
theorem recs_head (A : Option Addr) (c : Nat) (l : List Rec) (k : Nat) (hk : k ≤ l.length) (hc : l.length ≤ c) :
    ∃ A1, (∀ w, (Instr.slice 22 (.slice A l.length c) none (some (.int .i64 (k : Int))) none).run Try.prog w = .ok (.slice A1 (l.take k).length c) w) ∧ ∀ w, RecsAt w A l → RecsAt w A1 (l.take k) := by
  have e : ∀ w, (Instr.slice 22 (.slice A l.length c) none (some (.int .i64 (k : Int))) none).run Try.prog w = .ok (sliced A 0 k c 19) w := fun w => by
    rw [run_slice_h w _ _ _ _ slice_recs .i64 (k : Int) (by omega) (by omega), elem_recs, Try.sizeOf34]
    rfl
  have hl : (l.take k).length = k := by rw [List.length_take]; omega
  refine ⟨if c = 0 then A else A.map (·.add (0 * 19)), fun w => by rw [e, hl]; rfl, fun w h => ?_⟩
  split
  · exact h.take k
  · have : A.map (fun a => a.add (0 * 19)) = A := by
      cases A with
      | none => rfl
      | some a => simp [Addr.add]
    rw [this]
    exact h.take k
/-- 'l[k:]' -/
theorem recs_tail (A : Option Addr) (c : Nat) (l : List Rec) (k : Nat) (hk : k ≤ l.length) (hc : l.length ≤ c) :
    ∃ A1 c1, (∀ w, (Instr.slice 22 (.slice A l.length c) (some (.int .i64 (k : Int))) none none).run Try.prog w = .ok (.slice A1 (l.drop k).length c1) w) ∧ ∀ w, RecsAt w A l → RecsAt w A1 (l.drop k) := by
  have e : ∀ w, (Instr.slice 22 (.slice A l.length c) (some (.int .i64 (k : Int))) none none).run Try.prog w = .ok (sliced A k l.length c 19) w := fun w => by
    rw [run_slice_l w _ _ _ _ slice_recs .i64 (k : Int) (by omega) (by omega), elem_recs, Try.sizeOf34]
    rfl
  refine ⟨if c = k then A else A.map (·.add (k * 19)), c - k, fun w => by rw [e, List.length_drop]; rfl, fun w h => ?_⟩
  by_cases hlk : k < l.length
  · obtain ⟨b, off, rfl, _⟩ := h.one (by omega)
    rw [if_neg (by omega)]
    have : (some ({ block := b, off := off, spot := none } : Addr)).map (fun a => a.add (k * 19)) = some ⟨b, off + k * 19, none⟩ := by
      simp only [Option.map_some, Option.some.injEq]
      unfold Addr.add
      split
      · rename_i hz; rw [hz]; rfl
      · rfl
    rw [this]
    exact h.tail k
  · rw [List.drop_eq_nil_of_le (by omega)]
    exact RecsAt.nil _ _

theorem errL_rec : ∀ {l : List Rec}, errL l = 0 → ∀ r ∈ l, recE r = 0
  | [], _, r, h => by simp at h
  | x :: l, h, r, hr => by
    obtain ⟨h1, h2⟩ := errL_cons h
    rcases List.mem_cons.1 hr with rfl | hr
    · exact h1
    · exact errL_rec h2 r hr
theorem ck_data {r : Rec} (h : ck r = 0) : r.item.data.size ≤ 65536 := by
  obtain ⟨_, _, ⟨hk, _⟩ | ⟨_, _, _, hi, _⟩⟩ := ck_ok h
  · exact ck_size h hk
  · rw [hi]; exact Nat.zero_le _
theorem errL_data {l : List Rec} (h : errL l = 0) : ∀ r ∈ l, r.item.data.size ≤ maxLen := fun r hr =>
  Nat.le_trans (ck_data (rec_ok (errL_rec h r hr)).1) (by decide)
theorem errL_take {l : List Rec} (h : errL l = 0) (k : Nat) : errL (l.take k) = 0 ∧ errL (l.drop k) = 0 := by
  have h1 : ∀ {a b : List Rec}, errL (a ++ b) = 0 → errL a = 0 := fun {a} => by
    induction a with
    | nil => intro b _; rfl
    | cons x a ih =>
      intro b hb
      obtain ⟨e1, e2⟩ := errL_cons (by simpa using hb)
      simp only [errL, e1, if_true]
      exact ih e2
  have hs : errL (l.take k ++ l.drop k) = 0 := by rw [List.take_append_drop]; exact h
  have a1 := h1 hs
  exact ⟨a1, by rw [err_append _ _ a1] at hs; exact hs⟩
theorem app_ok {s : List UInt8} {l : List Rec} (h : appE s l = 0) : errL l = 0 ∧ (s ++ catL l).length ≤ 65536 ∧ appL s l = s ++ catL l := by
  unfold appE at h
  split at h
  · rename_i h1
    split at h
    · rename_i h2; exact ⟨h1, h2, by unfold appL; rw [if_pos ⟨h1, h2⟩]⟩
    · exact absurd h (by decide)
  · rename_i h1; exact absurd h h1
theorem app_yes {s : List UInt8} {l : List Rec} (h1 : errL l = 0) (h2 : (s ++ catL l).length ≤ 65536) : appE s l = 0 ∧ appL s l = s ++ catL l := by
  unfold appE appL
  rw [if_pos h1, if_pos h2, if_pos ⟨h1, h2⟩]
  exact ⟨rfl, rfl⟩
theorem catL_split (l : List Rec) (k : Nat) : catL (l.take k) ++ catL (l.drop k) = catL l := by rw [← catL_append, List.take_append_drop]
theorem catL_take_le (l : List Rec) (k : Nat) : (catL (l.take k)).length ≤ (catL l).length := by
  rw [← catL_split l k, List.length_append]; omega
theorem rdJ_cat {l : List Rec} (h : errL l = 0) (hn : (catL l).length ≤ 65536) : rdJ (catL l) = (l, (catL l).length, 0) := by
  unfold rdJ
  rw [if_pos hn, read_all l h]
theorem rdJ_small {s : List UInt8} (hn : s.length ≤ 65536) : rdJ s = ((readL s).1, (readL s).2, 0) := by
  unfold rdJ
  rw [if_pos hn]
theorem sameRec_same (A B : Option Addr) (cA cB : Nat) (l : List Rec) (w : World) (hA : RecsAt w A l) (hB : RecsAt w B l) (hl : l.length ≤ maxLen) :
    Calls Try.prog 17 #[.slice A l.length cA, .slice B l.length cB] w fun e w' => e = .returned (.bool true) ∧ Below w.heap.size w w' := by
  have h := sameRec_any A B cA cB l l w hA hB hl hl
  rwa [decide_eq_true rfl] at h
end Go.Proofs.Ytlknjdfiedkhbaa
