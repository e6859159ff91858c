/- The iterator over the bytes of a string: its contract for every loop body that keeps the string's box. Condition: a length below the model's greatest. -/
import Derived.Test.YtlknjdfiedkhbaaViInt
import Derived.Test.YtlknjdfiedkhbaaCrcTable
namespace Go.Proofs.Ytlknjdfiedkhbaa
open Go Go.RowKit Go.Shelf
attribute [local go_sem] Oper.semAt_some

theorem bytes_in (n : Nat) (s : ByteArray) (w : World) :
    CallsIn Fence.wide n Try.prog 83 #[.string s] w fun e w' => e = .returned (.func (.func 85) #[] #[.pointer (some ⟨w.heap.size, 0, none⟩)]) ∧ w' = w.alloc (.cells #[.string s] 9) := by
  refine callsIn_of_wp Try.func83 rfl trivial ?_ rfl
  simp only [Try.ntmps83, List.size_toArray, List.length_cons, List.length_nil, Nat.reduceAdd, Nat.reduceSub, Array.replicate_succ, Array.replicate_zero, List.push_toArray, List.append_toArray, List.nil_append, List.cons_append]
  gi_wp2
  go_ret
  exact ⟨rfl, rfl⟩

theorem take_at (s : ByteArray) (k : Nat) (hk : k < s.size) : s.data.toList.take (k + 1) = s.data.toList.take k ++ [s[k]] := by
  rw [List.take_succ_eq_append_getElem (by simpa using hk)]; rfl

set_option maxRecDepth 100000 in
set_option maxHeartbeats 2000000 in
theorem bytes1_in (n : Nat) (hn : 1 ≤ n) (l Bn : Nat) (s : ByteArray) (hs : s.size ≤ maxLen) (J Jx : List UInt8 → World → Prop)
    (hY : ∀ (pre : List UInt8) (x : UInt8) (W : World), J pre W → pre.length < s.size → YieldAt Fence.wide (n - 1) Try.prog l #[.int .u8 (x.toNat : Int)] W fun e W' =>
      (e = .returned (.bool true) ∧ J (pre ++ [x]) W' ∧ BoxKept Bn W W') ∨ (e = .returned (.bool false) ∧ Jx (pre ++ [x]) W'))
    (W : World) (hW : W.heap[Bn]? = some (.cells #[.string s] 9 (0, 0))) (h0 : J [] W) :
    CallsIn Fence.wide n Try.prog 85 #[.func (.yield l) #[] #[], .pointer (some ⟨Bn, 0, none⟩)] W fun e W' => (∃ v, e = .returned v) ∧
      ((∃ xs, xs = s.data.toList ∧ J xs W') ∨ (∃ pre, True ∧ Jx pre W')) := by
  unfold maxLen at hs
  have hc0 : W.cell? ⟨Bn, 0, none⟩ = some (.string s) := cell_of_one hW
  have HJ0 := Lib.hid h0
  have HW := Lib.hid hW
  clear h0 hW
  refine callsIn_of_wp Try.func85 rfl trivial ?_ rfl
  simp only [Try.ntmps85, List.size_toArray, List.length_cons, List.length_nil, Nat.reduceAdd, Nat.reduceSub, Array.replicate_succ, Array.replicate_zero, List.push_toArray, List.append_toArray, List.nil_append, List.cons_append]
  gi_wp2
  gi_loopw [3, 6] (fun _ i wr => ∃ k : Nat, k ≤ s.size ∧ i = .int .i64 k ∧ J (s.data.toList.take k) wr ∧ wr.heap[Bn]? = some (.cells #[.string s] 9 (0, 0))) (fun _ i _ => (s.size - (intOf i).toNat))
  case atStart => exact ⟨0, by omega, rfl, HJ0.out, HW.out⟩
  case round =>
    clear hc0
    obtain ⟨k, hk, rfl, hJ, hb⟩ := hrel
    have hc1 : wr.cell? ⟨Bn, 0, none⟩ = some (.string s) := cell_of_one hb
    have HBn := Lib.hid hb
    clear hb
    by_cases hlt : k < s.size
    · have hpl : (s.data.toList.take k).length < s.size := by rw [List.length_take]; omega
      obtain ⟨fn, tmps, assign, body, hy, hR⟩ := hY (s.data.toList.take k) s[k] wr hJ hpl
      have HT := Lib.hid (take_at s k hlt)
      clear hpl hJ
      gi_wp2_with fail
      refine hR.mono ?_
      rintro e W3 (⟨rfl, hJ3, hk3⟩ | ⟨rfl, hJx3⟩)
      · have b1 := hk3 _ HBn.out rfl
        have HB1 := Lib.hid b1
        have HJ3 : Hid (J (s.data.toList.take (k + 1)) W3) := by have e := HT.out; show J (s.data.toList.take (k + 1)) W3; rw [e]; exact hJ3
        clear b1 hJ3 hk3 hy hR
        gi_wp2
        go_roundw
        case rel => exact ⟨k + 1, by omega, by go_num, HJ3.out, HB1.out⟩
        case measure => simp [intOf]; omega
      · gi_wp2
        refine bodyPost_ret (results_none rfl _ _ _) rfl ?_
        exact ⟨⟨_, rfl⟩, .inr ⟨_, trivial, hJx3⟩⟩
    · have HJ : Hid (J s.data.toList wr) := by
        have e : s.data.toList.take k = s.data.toList := List.take_of_length_le (by simp; omega)
        show J s.data.toList wr
        rw [← e]; exact hJ
      clear hJ
      gi_wp2
      go_end0
      exact ⟨⟨_, rfl⟩, .inl ⟨_, rfl, HJ.out⟩⟩

/-- The iterator's contract, as the law for the caller wants it. -/
theorem bytes_stops (n : Nat) (hn : 1 ≤ n) (Bn : Nat) (s : ByteArray) (hs : s.size ≤ maxLen) (w0 : World) (hw : w0.heap[Bn]? = some (.cells #[.string s] 9 (0, 0))) :
    SeqStopsK Fence.wide n Try.prog 85 #[.pointer (some ⟨Bn, 0, none⟩)] (fun x : UInt8 => #[Value.int .u8 (x.toNat : Int)]) (BoxKept Bn) (fun xs => xs = s.data.toList) (fun _ => True) s.size w0 := by
  intro l J Jx W hW _ _ hY h0
  exact bytes1_in n hn l Bn s hs J Jx hY W ((hW.block Bn (Array.getElem?_eq_some_iff.1 hw).1).trans hw) h0
end Go.Proofs.Ytlknjdfiedkhbaa
