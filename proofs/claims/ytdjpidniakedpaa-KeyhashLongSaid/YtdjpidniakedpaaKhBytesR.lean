/- The 8 bytes of a word, as the reference writes them. -/
import Derived.Test.YtdjpidniakedpaaKhAppend
import Derived.Laws.BytesArg
namespace Go.Proofs.Ytdjpidniakedpaa
open Go Go.RowKit

/-- the string of a list of bytes -/
def str (l : List UInt8) : ByteArray := ⟨l.toArray⟩
theorem str_list (l : List UInt8) : (str l).data.toList = l := rfl
theorem str_size (l : List UInt8) : (str l).size = l.length := by simp [str, ByteArray.size]

theorem strOf_bytes (l : List UInt8) : strOfNums (l.map fun b => (b.toNat : Int)) = str l := by
  unfold strOfNums str
  rw [List.map_map]
  congr 2
  conv => rhs; rw [← List.map_id l]
  apply List.map_congr_left
  intro b _
  simp

/-- What a row of bytes holds, converted to a string. -/
theorem conv_bytes {w : World} {g off n cap : Nat} {l : List UInt8} (hl : l.length = n) (hc : ∀ j, j < n → w.cell? ⟨g, off + j, none⟩ = some (byteV (l[j]?.getD 0))) :
    (convert 28 9 (.slice (some ⟨g, off, none⟩) n cap)).run Try.prog w = .ok (.string (str l)) w := by
  have h := run_convert_bytes_arg (P := Try.prog) w 28 5 Try.underlying28 Try.underlying5 g off n cap (l.map fun b => (b.toNat : Int)) (by simpa using hl)
    (fun i hi => by
      rw [hc i hi, List.getD_eq_getElem?_getD, List.getElem?_map, List.getElem?_eq_getElem (by omega)]; rfl) 9 Try.underlying9
  rw [h, strOf_bytes]

theorem row_set (m k : Nat) (hk : k < 8) (z : List Value) (hz : z.length = 8) : (((Kh.bytes8 m).take k).map byteV ++ z.drop k).set k (byteV (UInt8.ofNat (m / 256 ^ k))) = ((Kh.bytes8 m).take (k + 1)).map byteV ++ z.drop (k + 1) := by
  have h8 : (Kh.bytes8 m).length = 8 := by simp [Kh.bytes8]
  have hl : (((Kh.bytes8 m).take k).map byteV).length = k := by simp [h8]; omega
  rw [List.set_append_right _ _ (by omega), hl, Nat.sub_self, List.drop_eq_getElem_cons (by omega), List.set_cons_zero, bytes8_snoc m k hk]
  simp

/-- after k rounds -/
def rowK (m k : Nat) : List Value := ((Kh.bytes8 m).take k).map byteV ++ (List.replicate 8 (Value.int .u8 0)).drop k
theorem rowK_len (m k : Nat) (hk : k ≤ 8) : (rowK m k).length = 8 := by simp [rowK, Kh.bytes8]; omega
theorem rowK_zero (m : Nat) : (rowK m 0).toArray = #[.int .u8 0, .int .u8 0, .int .u8 0, .int .u8 0, .int .u8 0, .int .u8 0, .int .u8 0, .int .u8 0] := rfl
theorem rowK_set (m k : Nat) (hk : k < 8) : (rowK m k).toArray.setIfInBounds k (byteV (UInt8.ofNat (m / 256 ^ k))) = (rowK m (k + 1)).toArray := by
  rw [List.setIfInBounds_toArray, rowK, row_set m k hk _ (by simp)]; rfl
theorem rowK_eight (m j : Nat) (hj : j < 8) : (rowK m 8).toArray[j]? = some (byteV ((Kh.bytes8 m)[j]?.getD 0)) := by
  have h8 : (Kh.bytes8 m).length = 8 := by simp [Kh.bytes8]
  rw [List.getElem?_toArray, rowK, List.take_of_length_le (by omega), List.drop_of_length_le (by simp), List.append_nil, List.getElem?_map, List.getElem?_eq_getElem (by omega)]; rfl
theorem byte_put (m k : Nat) : Value.int .u8 ((m : Int) / 2 ^ (8 * k) % 256) = byteV (UInt8.ofNat (m / 256 ^ k)) := by
  rw [byteV, ← byte_spell]; simp [IntKind.wrap, IntKind.bits, IntKind.signed]

set_option maxHeartbeats 1000000 in
theorem bytesR_any (m : Nat) (w : World) :
    Calls Try.prog 31 #[.int .u64 (m : Int)] w fun e w' => e = .returned (.string (str (Kh.bytes8 m))) ∧ Below w.heap.size w w' := by
  have hmk : ∀ w, (Instr.makeSlice 28 (.int .i64 8) (.int .i64 8)).run Try.prog w = .ok (.slice (some ⟨w.heap.size, 0, none⟩) 8 8) (w.alloc (.cells #[.int .u8 0, .int .u8 0, .int .u8 0, .int .u8 0, .int .u8 0, .int .u8 0, .int .u8 0, .int .u8 0] 5)) := fun _ => by kernel_rfl
  have hn := Bk.new w 5 (rowK m 0).toArray
  rw [rowK_zero] at hn
  have Hn := Lib.hid hn
  clear hn
  go_enter Try.func31, Try.ntmps31
  go_wp2
  go_loopw [4] (fun i wr => ∃ k : Nat, k ≤ 8 ∧ i = .int .i64 k ∧ Bk wr w.heap.size 5 (rowK m k).toArray ∧ Below w.heap.size w wr) (fun i _ => 8 - (intOf i).toNat)
  case atStart => exact ⟨0, by omega, rfl, Hn.out, (Below.refl _ _).alloc (Nat.le_refl _) _⟩
  case round =>
    obtain ⟨k, hk, rfl, hB, hb⟩ := hrel
    by_cases hlt : k < 8
    · obtain ⟨u, hu⟩ : ∃ u, wr.cell? ⟨w.heap.size, k, none⟩ = some u := by
        rw [hB.cell, List.getElem?_toArray, List.getElem?_eq_getElem (by rw [rowK_len m k hk]; exact hlt)]; exact ⟨_, rfl⟩
      have hf := hB.free k
      go_wp2
      go_roundw
      case rel =>
        refine ⟨k + 1, by omega, by go_num, ?_, hb.setCell (Nat.le_refl _) _⟩
        rw [byte_put, ← rowK_set m k hlt]
        exact hB.put k _
      case measure => simp [intOf]; omega
    · obtain rfl : k = 8 := by omega
      have hcv := conv_bytes (w := wr) (g := w.heap.size) (off := 0) (n := 8) (cap := 8) (l := Kh.bytes8 m) (by simp [Kh.bytes8]) (fun j hj => by rw [Nat.zero_add, hB.cell, rowK_eight m j hj])
      go_wp2
      go_ret
      exact ⟨rfl, hb⟩
end Go.Proofs.Ytdjpidniakedpaa
