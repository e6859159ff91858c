/- Sum, tail, Seal and the examples of the chapter, walked. Condition: lengths below the model's greatest. -/
import Derived.Test.YtlknjdfiedkhbaaCrcUpd
import Derived.Test.YtlknjdfiedkhbaaViTextP
namespace Go.Proofs.Ytlknjdfiedkhbaa
open Go Go.RowKit
open Crc (upd sum)

theorem sum_any (s : ByteArray) (hs : s.size ≤ maxLen) (w : World) :
    Calls Try.prog 68 #[.string s] w fun e w' => e = .returned (.int .i64 ((sum s.data.toList : Nat) : Int)) ∧ Below w.heap.size w w' := by
  have hu := Crc.upd_lt s.data.toList Crc.most (by decide)
  have hx : bits .xor .u32 ((upd Crc.most s.data.toList : Nat) : Int) 4294967295 = ((sum s.data.toList : Nat) : Int) := xor32 _ 4294967295 hu (by decide)
  have hl := Crc.sum_lt s.data.toList
  have HU := Lib.hid (update_any 4294967295 (by decide) s hs)
  rw [show (4294967295 : Nat) = Crc.most from rfl] at HU
  generalize upd Crc.most s.data.toList = u at hx hu HU
  generalize sum s.data.toList = v at hx hl ⊢
  go_enter Try.func68, Try.ntmps68
  go_wp2_with fail
  refine (HU.out _).mono ?_
  rintro e w1 ⟨rfl, hb1⟩
  go_wp2
  go_ret
  exact ⟨rfl, hb1⟩

theorem conv_row (w : World) (l : List UInt8) (n : Nat) (hl : l.length = n) : (convert 54 9 (.slice (some ⟨w.heap.size, 0, none⟩) n n)).run Try.prog (w.alloc (.cells (l.map byteV).toArray 5)) = .ok (.string (str l)) (w.alloc (.cells (l.map byteV).toArray 5)) :=
  conv_bytes hl (fun j hj => by
    rw [Nat.zero_add, (Bk.new w 5 _).cell j, List.getElem?_toArray, List.getElem?_map, List.getElem?_eq_getElem (by omega)]; rfl)
theorem byteV_of (n : Nat) : byteV (UInt8.ofNat n) = .int .u8 ((n : Int) % 256) := by
  unfold byteV
  rw [UInt8.toNat_ofNat']
  congr 1
theorem four_bytes (v : Nat) (hv : v < 4294967296) : ((Crc.bytes4 v).map byteV).toArray = #[.int .u8 ((v : Int) % 256), .int .u8 ((v : Int) / 256 % 256), .int .u8 ((v : Int) / 65536 % 256), .int .u8 ((v : Int) / 16777216)] := by
  unfold Crc.bytes4
  simp only [List.map_cons, List.map_nil, byteV_of]
  have h : ((v / 16777216 : Nat) : Int) % 256 = (v : Int) / 16777216 := by omega
  rw [h]
  rfl

set_option maxHeartbeats 1000000 in
theorem tail_any (s : ByteArray) (hs : s.size ≤ maxLen) (w : World) :
    Calls Try.prog 54 #[.string s] w fun e w' => e = .returned (.string (str (Crc.bytes4 (sum s.data.toList)))) ∧ Below w.heap.size w w' := by
  have hl := Crc.sum_lt s.data.toList
  have HU := Lib.hid (sum_any s hs)
  generalize sum s.data.toList = v at hl HU ⊢
  go_enter Try.func54, Try.ntmps54
  go_wp2_with fail
  refine (HU.out _).mono ?_
  rintro e w1 ⟨rfl, hb1⟩
  have HB := Lib.hid hb1
  clear hb1
  have hcv := conv_row w1 (Crc.bytes4 v) 4 rfl
  have hb2 : Below w.heap.size w (w1.alloc (.cells ((Crc.bytes4 v).map byteV).toArray 5)) := HB.out.alloc HB.out.size _
  rw [four_bytes v hl] at hcv hb2
  have HB2 := Lib.hid hb2
  clear hb2
  go_wp2
  go_ret
  exact ⟨rfl, HB2.out⟩

/-- a string's frame -/
def sealL (l : List UInt8) : List UInt8 := if l.length ≤ 65536 then Vi.textL l ++ Crc.bytes4 (sum (Vi.textL l)) else []
def sealE (l : List UInt8) : Int := if l.length ≤ 65536 then 0 else 4
set_option maxHeartbeats 1000000 in
theorem seal_any (s : ByteArray) (hs : s.size ≤ maxLen) (w : World) :
    Calls Try.prog 36 #[.string s] w fun e w' => e = .returned (.tuple #[.string (str (sealL s.data.toList)), .int .i64 (sealE s.data.toList)]) ∧ Below w.heap.size w w' := by
  have hl : s.data.toList.length = s.size := by simp
  by_cases h : s.size ≤ 65536
  · have HL : Hid (sealL s.data.toList = Vi.textL s.data.toList ++ Crc.bytes4 (sum (Vi.textL s.data.toList))) := by show _ = _; unfold sealL; rw [hl, if_pos h]
    have HE : Hid (sealE s.data.toList = 0) := by show _ = _; unfold sealE; rw [hl, if_pos h]
    have HT : Hid (Vi.textE s.data.toList = 0) := by show _ = _; unfold Vi.textE; rw [hl, if_pos h]
    have hz : (str (Vi.textL s.data.toList)).size ≤ 65545 := by
      rw [str_size]
      unfold Vi.textL
      rw [hl, if_pos h, List.length_append, hl]
      have := Vi.intL_len9 s.size
      omega
    have hz4 : (str (Crc.bytes4 (sum (Vi.textL s.data.toList)))).size ≤ 4 := by rw [str_size]; simp [Crc.bytes4]
    have HX := Lib.hid (tail_any (str (Vi.textL s.data.toList)) (by unfold maxLen; omega))
    rw [str_list] at HX
    clear hl
    go_enter Try.func36, Try.ntmps36
    go_wp2_with fail
    refine (text_any s hs _).mono ?_
    rintro e w1 ⟨rfl, hb1⟩
    rw [HT.out]
    generalize Vi.textL s.data.toList = t at HX HL hz hz4 ⊢
    generalize Crc.bytes4 (sum t) = u at HX HL hz4
    have HB := Lib.hid hb1
    clear hb1
    go_wp2_with fail
    refine (HX.out _).mono ?_
    rintro e w2 ⟨rfl, hb2⟩
    have HB2 := Lib.hid (HB.out.trans (hb2.mono HB.out.size))
    clear hb2
    go_wp2
    go_ret2
    exact ⟨two_e (by rw [HL.out, str_append]) HE.out.symm, HB2.out⟩
  · have HL : Hid (sealL s.data.toList = []) := by show _ = _; unfold sealL; rw [hl, if_neg h]
    have HE : Hid (sealE s.data.toList = 4) := by show _ = _; unfold sealE; rw [hl, if_neg h]
    have HT : Hid (Vi.textE s.data.toList = 4) := by show _ = _; unfold Vi.textE; rw [hl, if_neg h]
    clear hl
    go_enter Try.func36, Try.ntmps36
    go_wp2_with fail
    refine (text_any s hs _).mono ?_
    rintro e w1 ⟨rfl, hb1⟩
    rw [HT.out]
    have HB := Lib.hid hb1
    clear hb1
    go_wp2
    go_ret2
    exact ⟨two_e (by rw [HL.out]; rfl) HE.out.symm, HB.out⟩
end Go.Proofs.Ytlknjdfiedkhbaa
