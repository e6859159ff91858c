/- Rows of bytes and strings: small lemmas that all proofs of this seat share. No condition. -/
import Derived.Test.YtlknjdfiedkhbaaBase
import Derived.Maps.AppendAt
import Derived.Laws.BytesArg
import Derived.RangeFuncBox
import Derived.Laws.BitsAllLaws
import Derived.IntWalk
import Derived.Test.YtlknjdfiedkhbaaRows
namespace Go.Proofs.Ytlknjdfiedkhbaa
open Go Go.RowKit

def byteV (b : UInt8) : Value := .int .u8 (b.toNat : Int)
theorem infoByte : (Try.prog.info? 5).map (fun i => (i.zero, i.size, i.bytes)) = some (some (.int .u8 0), 1, 1) := by kernel_rfl
/-- the string of a list of bytes -/
def str (l : List UInt8) : ByteArray := ⟨l.toArray⟩
theorem str_list (l : List UInt8) : (str l).data.toList = l := rfl
theorem str_size (l : List UInt8) : (str l).size = l.length := by simp [str, ByteArray.size]
theorem str_self (s : ByteArray) : str s.data.toList = s := rfl
theorem str_inj {l m : List UInt8} (h : str l = str m) : l = m := by have := congrArg (fun s : ByteArray => s.data.toList) h; exact this

theorem strOf_bytes (l : List UInt8) : strOfNums (l.map fun b => (b.toNat : Int)) = str l := by
  unfold strOfNums str
  rw [List.map_map]
  congr 2
  conv => rhs; rw [← List.map_id l]
  apply List.map_congr_left
  intro b _
  simp

/-- What a row of bytes holds, converted to a string. -/
theorem conv_bytes {w : World} {g off n cap : Nat} {l : List UInt8} (hl : l.length = n) (hc : ∀ j, j < n → w.cell? ⟨g, off + j, none⟩ = some (byteV (l[j]?.getD 0))) :
    (convert 54 9 (.slice (some ⟨g, off, none⟩) n cap)).run Try.prog w = .ok (.string (str l)) w := by
  have h := run_convert_bytes_arg (P := Try.prog) w 54 5 Try.underlying54 Try.underlying5 g off n cap (l.map fun b => (b.toNat : Int)) (by simpa using hl)
    (fun i hi => by
      rw [hc i hi, List.getD_eq_getElem?_getD, List.getElem?_map, List.getElem?_eq_getElem (by omega)]; rfl) 9 Try.underlying9
  rw [h, strOf_bytes]
/-- What the call's own row of bytes holds, converted to a string. -/
theorem conv_own {w : World} {base g n cap : Nat} {l : List UInt8} (hl : l.length = n) (h : w.ownsRow base 5 1 (.slice (some ⟨g, 0, none⟩) n cap) n (l.map byteV)) :
    (convert 54 9 (.slice (some ⟨g, 0, none⟩) n cap)).run Try.prog w = .ok (.string (str l)) w :=
  conv_bytes hl (fun j hj => by
    rw [Nat.zero_add, h.cellAt j (by omega), List.getElem?_map, List.getElem?_eq_getElem (by omega)]; rfl)
theorem own_form {w : World} {base : Nat} {e : TypeId} {v : Value} {n : Nat} {xs : List Value} (h : w.ownsRow base e 1 v n xs) : ∃ A c, v = .slice A n c := by
  rcases h.2 with ⟨rfl, rfl⟩ | ⟨g, cap, _, rfl, _⟩
  · exact ⟨_, _, rfl⟩
  · exact ⟨_, _, rfl⟩
/-- The same, nil or not. -/
theorem conv_any {w : World} {base n : Nat} {v : Value} {l : List UInt8} (hl : l.length = n) (h : w.ownsRow base 5 1 v n (l.map byteV)) :
    (convert 54 9 v).run Try.prog w = .ok (.string (str l)) w := by
  cases n with
  | succ n =>
    obtain ⟨g, cap, rfl⟩ := ownsRow_succ h
    exact conv_own hl h
  | zero =>
    obtain rfl : l = [] := List.eq_nil_of_length_eq_zero hl
    rcases h.2 with ⟨rfl, _⟩ | ⟨g, cap, _, rfl, _⟩
    · exact run_convert_bytes_nil w 54 5 Try.underlying54 Try.underlying5 0 0 9 Try.underlying9
    · exact conv_bytes (l := []) rfl (fun j hj => absurd hj (by omega))
theorem shr_spell (x n : Nat) : (x : Int) / 2 ^ n = ((x / 2 ^ n : Nat) : Int) := by
  rw [Int.natCast_ediv, Int.natCast_pow]; rfl
theorem str_append (a b : List UInt8) : str a ++ str b = str (a ++ b) := by
  apply ByteArray.ext
  simp [str]
theorem two_e {a a' : ByteArray} {b b' : Int} (h : a = a') (h' : b = b') : Ending.returned (.tuple #[.string a, .int .i64 b]) = .returned (.tuple #[.string a', .int .i64 b']) := by rw [h, h']
end Go.Proofs.Ytlknjdfiedkhbaa
