/- Sum, tail, Seal and the examples of the chapter, walked. Condition: lengths below the model's greatest.
The examples of the chapter, walked: the call answers true. No condition.
The reference's step, Update, Sum and bytes, walked. Conditions: numbers of 32 bits; a length below the model's greatest.
Open, walked. Condition: a length below the model's greatest.
The law CrcOpens, walked. Condition: lengths below the model's greatest.
The reference's Seal and Open, and the law CrcFrames, walked. Condition: lengths below the model's greatest.
The law CrcDetects, walked. Conditions: a length below the model's greatest; numbers that fit their kinds.
A damaged frame cannot be opened, a beginning of one is too short: plain lists, and the calls. -/
import Derived.Test.YtlknjdfiedkhbaaCrcUpd
import Derived.Test.YtlknjdfiedkhbaaViW
import Derived.Test.YtlknjdfiedkhbaaViRd
import Derived.Test.YtlknjdfiedkhbaaSpec
import Derived.StillTailTactics
import Derived.BigQuiet
import Derived.OpenShut
import Derived.Deep.CutRange
namespace Go.Proofs.Ytlknjdfiedkhbaa
open Go Go.RowKit
open Crc (upd sum)

theorem sum_any (s : ByteArray) (hs : s.size ≤ maxLen) (w : World) :
    Calls Try.prog 68 #[.string s] w fun e w' => e = .returned (.int .i64 ((sum s.data.toList : Nat) : Int)) ∧ Below w.heap.size w w' := by
  have hu := Crc.upd_lt s.data.toList Crc.most (by decide)
  have hx : bits .xor .u32 ((upd Crc.most s.data.toList : Nat) : Int) 4294967295 = ((sum s.data.toList : Nat) : Int) := xor32 _ 4294967295 hu (by decide)
  have hl := Crc.sum_lt s.data.toList
  have HU := Lib.hid (update_any 4294967295 (by decide) s hs)
  rw [show (4294967295 : Nat) = Crc.most from rfl] at HU
  generalize upd Crc.most s.data.toList = u at hx hu HU
  generalize sum s.data.toList = v at hx hl ⊢
  go_enter Try.func68, Try.ntmps68
  go_wp2_with fail
  refine (HU.out _).mono ?_
  rintro e w1 ⟨rfl, hb1⟩
  go_wp2
  go_ret
  exact ⟨rfl, hb1⟩

theorem conv_row (w : World) (l : List UInt8) (n : Nat) (hl : l.length = n) : (convert 54 9 (.slice (some ⟨w.heap.size, 0, none⟩) n n)).run Try.prog (w.alloc (.cells (l.map byteV).toArray 5)) = .ok (.string (str l)) (w.alloc (.cells (l.map byteV).toArray 5)) :=
  conv_bytes hl (fun j hj => by
    rw [Nat.zero_add, (Bk.new w 5 _).cell j, List.getElem?_toArray, List.getElem?_map, List.getElem?_eq_getElem (by omega)]; rfl)
theorem byteV_of (n : Nat) : byteV (UInt8.ofNat n) = .int .u8 ((n : Int) % 256) := by
  unfold byteV
  rw [UInt8.toNat_ofNat']
  congr 1
theorem four_bytes (v : Nat) (hv : v < 4294967296) : ((Crc.bytes4 v).map byteV).toArray = #[.int .u8 ((v : Int) % 256), .int .u8 ((v : Int) / 256 % 256), .int .u8 ((v : Int) / 65536 % 256), .int .u8 ((v : Int) / 16777216)] := by
  unfold Crc.bytes4
  simp only [List.map_cons, List.map_nil, byteV_of]
  have h : ((v / 16777216 : Nat) : Int) % 256 = (v : Int) / 16777216 := by omega
  rw [h]
  rfl

set_option maxHeartbeats 1000000 in
theorem tail_any (s : ByteArray) (hs : s.size ≤ maxLen) (w : World) :
    Calls Try.prog 54 #[.string s] w fun e w' => e = .returned (.string (str (Crc.bytes4 (sum s.data.toList)))) ∧ Below w.heap.size w w' := by
  have hl := Crc.sum_lt s.data.toList
  have HU := Lib.hid (sum_any s hs)
  generalize sum s.data.toList = v at hl HU ⊢
  go_enter Try.func54, Try.ntmps54
  go_wp2_with fail
  refine (HU.out _).mono ?_
  rintro e w1 ⟨rfl, hb1⟩
  have HB := Lib.hid hb1
  clear hb1
  have hcv := conv_row w1 (Crc.bytes4 v) 4 rfl
  have hb2 : Below w.heap.size w (w1.alloc (.cells ((Crc.bytes4 v).map byteV).toArray 5)) := HB.out.alloc HB.out.size _
  rw [four_bytes v hl] at hcv hb2
  have HB2 := Lib.hid hb2
  clear hb2
  go_wp2
  go_ret
  exact ⟨rfl, HB2.out⟩

/-- a string's frame -/
def sealL (l : List UInt8) : List UInt8 := if l.length ≤ 65536 then Vi.textL l ++ Crc.bytes4 (sum (Vi.textL l)) else []
def sealE (l : List UInt8) : Int := if l.length ≤ 65536 then 0 else 4
set_option maxHeartbeats 1000000 in
theorem seal_any (s : ByteArray) (hs : s.size ≤ maxLen) (w : World) :
    Calls Try.prog 36 #[.string s] w fun e w' => e = .returned (.tuple #[.string (str (sealL s.data.toList)), .int .i64 (sealE s.data.toList)]) ∧ Below w.heap.size w w' := by
  have hl : s.data.toList.length = s.size := by simp
  by_cases h : s.size ≤ 65536
  · have HL : Hid (sealL s.data.toList = Vi.textL s.data.toList ++ Crc.bytes4 (sum (Vi.textL s.data.toList))) := by show _ = _; unfold sealL; rw [hl, if_pos h]
    have HE : Hid (sealE s.data.toList = 0) := by show _ = _; unfold sealE; rw [hl, if_pos h]
    have HT : Hid (Vi.textE s.data.toList = 0) := by show _ = _; unfold Vi.textE; rw [hl, if_pos h]
    have hz : (str (Vi.textL s.data.toList)).size ≤ 65545 := by
      rw [str_size]
      unfold Vi.textL
      rw [hl, if_pos h, List.length_append, hl]
      have := Vi.intL_len9 s.size
      omega
    have hz4 : (str (Crc.bytes4 (sum (Vi.textL s.data.toList)))).size ≤ 4 := by rw [str_size]; simp [Crc.bytes4]
    have HX := Lib.hid (tail_any (str (Vi.textL s.data.toList)) (by unfold maxLen; omega))
    rw [str_list] at HX
    clear hl
    go_enter Try.func36, Try.ntmps36
    go_wp2_with fail
    refine (text_any s hs _).mono ?_
    rintro e w1 ⟨rfl, hb1⟩
    rw [HT.out]
    generalize Vi.textL s.data.toList = t at HX HL hz hz4 ⊢
    generalize Crc.bytes4 (sum t) = u at HX HL hz4
    have HB := Lib.hid hb1
    clear hb1
    go_wp2_with fail
    refine (HX.out _).mono ?_
    rintro e w2 ⟨rfl, hb2⟩
    have HB2 := Lib.hid (HB.out.trans (hb2.mono HB.out.size))
    clear hb2
    go_wp2
    go_ret2
    exact ⟨two_e (by rw [HL.out, str_append]) HE.out.symm, HB2.out⟩
  · have HL : Hid (sealL s.data.toList = []) := by show _ = _; unfold sealL; rw [hl, if_neg h]
    have HE : Hid (sealE s.data.toList = 4) := by show _ = _; unfold sealE; rw [hl, if_neg h]
    have HT : Hid (Vi.textE s.data.toList = 4) := by show _ = _; unfold Vi.textE; rw [hl, if_neg h]
    clear hl
    go_enter Try.func36, Try.ntmps36
    go_wp2_with fail
    refine (text_any s hs _).mono ?_
    rintro e w1 ⟨rfl, hb1⟩
    rw [HT.out]
    have HB := Lib.hid hb1
    clear hb1
    go_wp2
    go_ret2
    exact ⟨two_e (by rw [HL.out]; rfl) HE.out.symm, HB.out⟩
end Go.Proofs.Ytlknjdfiedkhbaa
namespace Go.Proofs.Ytlknjdfiedkhbaa
open Go Go.RowKit
open Crc (upd sum)

theorem aw_e : sum [] = 0 := by decide
theorem aw_abc : sum [97, 98, 99] = 910901175 := by decide +kernel
theorem aw_9 : sum [49, 50, 51, 52, 53, 54, 55, 56, 57] = 3808858755 := by decide +kernel
theorem aw_seal : sealE [97, 98, 99] = 0 := by decide
theorem aw_len : (str (sealL [97, 98, 99])).size = 8 := by
  rw [str_size]
  decide +kernel

end Go.Proofs.Ytlknjdfiedkhbaa
namespace Go.Proofs.Ytlknjdfiedkhbaa
open Go Go.RowKit
open Crc (upd sum stepN step1 update most)

set_option maxRecDepth 100000 in
theorem stepR_any (c : Nat) (hc : c < 4294967296) (w : World) :
    Calls Try.prog 77 #[.int .i64 (c : Int)] w fun e w' => e = .returned (.int .i64 ((step1 c : Nat) : Int)) ∧ w = w' := by
  have hs1 := Crc.step1_lt c hc
  by_cases ho : c % 2 = 1
  · have he : step1 c = c / 2 ^^^ Crc.poly := by unfold Crc.step1; rw [if_pos ho]
    have hxp : bits .xor .i64 ((c : Int) / 2) 2197175160 = ((step1 c : Nat) : Int) := by
      rw [he, show (c : Int) / 2 = ((c / 2 : Nat) : Int) by omega]; exact xor64 (c / 2) 2197175160 (by omega) (by decide)
    clear he
    generalize step1 c = d at hs1 hxp ⊢
    go_enter Try.func77, Try.ntmps77
    go_wp2
    go_ret
    exact ⟨rfl, rfl⟩
  · have he : step1 c = c / 2 := by unfold Crc.step1; rw [if_neg ho]
    have hev : (step1 c : Int) = (c : Int) / 2 := by rw [he]; omega
    have HE := Lib.hid hev
    clear he hev
    go_enter Try.func77, Try.ntmps77
    go_wp2
    go_ret
    exact ⟨ret_i (by rw [HE.out]), rfl⟩

theorem upd_take (r : Nat) (s : ByteArray) (k : Nat) (hk : k < s.size) : upd r (s.data.toList.take (k + 1)) = stepN 8 (upd r (s.data.toList.take k) ^^^ s[k].toNat) := by
  rw [take_at s k hk, upd_snoc]

set_option maxHeartbeats 4000000 in
set_option maxRecDepth 100000 in
theorem updateR_any (c : Nat) (hc : c < 4294967296) (s : ByteArray) (hs : s.size ≤ maxLen) (w : World) :
    Calls Try.prog 69 #[.int .i64 (c : Int), .string s] w fun e w' => e = .returned (.tuple #[.int .i64 ((update c s.data.toList : Nat) : Int), .int .i64 0]) ∧ w = w' := by
  unfold maxLen at hs
  have hx0 : bits .xor .i64 (c : Int) 4294967295 = ((c ^^^ most : Nat) : Int) := xor64 c 4294967295 hc (by decide)
  have hr0 := Crc.xor_lt c most hc (by decide)
  have HU : Hid (update c s.data.toList = upd (c ^^^ most) s.data.toList ^^^ most) := rfl
  generalize c ^^^ most = r0 at hx0 hr0 HU
  go_enter Try.func69, Try.ntmps69
  go_wp2
  go_loop [6, 7, 8] (fun x i _ => ∃ k : Nat, k ≤ s.size ∧ i = .int .i64 k ∧ x = .int .i64 ((upd r0 (s.data.toList.take k) : Nat) : Int)) (fun _ i _ => s.size - (intOf i).toNat)
  case atStart => exact ⟨0, by omega, rfl, rfl⟩
  case round =>
    obtain ⟨k, hk, rfl, rfl⟩ := hrel
    by_cases hlt : k < s.size
    · have HN := Lib.hid (upd_take r0 s k hlt)
      have hl := Crc.upd_lt (s.data.toList.take k) r0 hr0
      obtain ⟨b, hb⟩ : ∃ b, s[k] = b := ⟨_, rfl⟩
      rw [hb] at HN
      have hb8 := UInt8.toNat_lt b
      generalize upd r0 (s.data.toList.take k) = r at HN hl
      have hx1 : bits .xor .i64 (r : Int) (b.toNat : Int) = ((r ^^^ b.toNat : Nat) : Int) := xor64 r b.toNat hl (by omega)
      have hl2 := Crc.xor_lt r b.toNat hl (by omega)
      generalize r ^^^ b.toNat = q at hx1 hl2 HN
      go_wp2
      go_loop [6, 8] (fun x i => ∃ j y : Nat, j ≤ 8 ∧ i = .int .i64 j ∧ x = .int .i64 (y : Int) ∧ y < 4294967296 ∧ stepN (8 - j) y = stepN 8 q) (fun _ i => 8 - (intOf i).toNat)
      case atStart => exact ⟨0, q, by omega, rfl, rfl, hl2, rfl⟩
      case round =>
        obtain ⟨j, y, hj, rfl, rfl, hy, hst⟩ := hrel
        have HS := Lib.hid hst
        clear hst
        by_cases hj8 : j < 8
        · have HS2 : Hid (stepN (8 - (j + 1)) (step1 y) = stepN 8 q) := by
            have h := HS.out
            rw [show 8 - j = 8 - (j + 1) + 1 by omega] at h
            exact h
          have hs1 := Crc.step1_lt y hy
          go_wp2_with fail
          refine (stepR_any y hy _).mono ?_
          rintro e w2 ⟨rfl, rfl⟩
          go_wp2
          go_round
          case rel => exact ⟨j + 1, step1 y, by omega, by go_num, rfl, hs1, HS2.out⟩
          case measure => simp [intOf]; omega
        · have HE : Hid (y = upd r0 (s.data.toList.take (k + 1))) := by
            have h := HS.out
            rw [show 8 - j = 0 by omega] at h
            show y = _
            rw [HN.out, ← h]; rfl
          go_wp2
          go_round
          case rel => exact ⟨k + 1, by omega, by go_num, by rw [← HE.out]⟩
          case measure => simp [intOf]; omega
    · have e : s.data.toList.take k = s.data.toList := List.take_of_length_le (by simp; omega)
      rw [e]
      have hl := Crc.upd_lt s.data.toList r0 hr0
      have hx2 : bits .xor .i64 ((upd r0 s.data.toList : Nat) : Int) 4294967295 = ((update c s.data.toList : Nat) : Int) := by rw [HU.out]; exact xor64 _ 4294967295 hl (by decide)
      generalize upd r0 s.data.toList = r at hl hx2
      clear e HU
      generalize hv : update c s.data.toList = v at hx2
      have HV := Lib.hid hv
      clear hv
      go_wp2
      go_ret2
      rw [HV.out]
      exact ⟨rfl, rfl⟩
theorem sumR_any (s : ByteArray) (hs : s.size ≤ maxLen) (w : World) :
    Calls Try.prog 57 #[.string s] w fun e w' => e = .returned (.int .i64 ((sum s.data.toList : Nat) : Int)) ∧ w = w' := by
  have HU := Lib.hid (updateR_any 0 (by decide) s hs)
  rw [← Crc.sum_update] at HU
  generalize sum s.data.toList = v at HU ⊢
  go_enter Try.func57, Try.ntmps57
  go_wp2_with fail
  refine (HU.out _).mono ?_
  rintro e w2 ⟨rfl, rfl⟩
  go_wp2
  go_ret
  exact ⟨rfl, rfl⟩

set_option maxHeartbeats 1000000 in
theorem bytesR_any (v : Nat) (hl : v < 4294967296) (w : World) :
    Calls Try.prog 56 #[.int .i64 (v : Int)] w fun e w' => e = .returned (.string (str (Crc.bytes4 v))) ∧ Below w.heap.size w w' := by
  have hcv := conv_row w (Crc.bytes4 v) 4 rfl
  have hb2 : Below w.heap.size w (w.alloc (.cells ((Crc.bytes4 v).map byteV).toArray 5)) := (Below.refl _ _).alloc (Nat.le_refl _) _
  rw [four_bytes v hl] at hcv hb2
  have HB2 := Lib.hid hb2
  clear hb2
  go_enter Try.func56, Try.ntmps56
  go_wp2
  go_ret
  exact ⟨rfl, HB2.out⟩
end Go.Proofs.Ytlknjdfiedkhbaa
namespace Go.Proofs.Ytlknjdfiedkhbaa
open Go Go.RowKit
open Crc (upd sum bytes4)

theorem ex_list (s : ByteArray) (a b : Nat) : (s.extract a b).data.toList = (s.data.toList.drop a).take (b - a) := by
  simp [Array.toList_extract]
theorem ex_str (s : ByteArray) (a b : Nat) : s.extract a b = str ((s.data.toList.drop a).take (b - a)) := by
  rw [← ex_list, str_self]
/-- what Open hands back -/
def openR (l : List UInt8) : List UInt8 × Nat × Int :=
  if (Vi.rd l).2.2 = 0 then
    (if 0 ≤ (Vi.rd l).1 ∧ (Vi.rd l).1 ≤ 65536 then
      (if l.length < (Vi.rd l).2.1 + (Vi.rd l).1.toNat + 4 then ([], 0, 12)
       else if bytes4 (sum (l.take ((Vi.rd l).2.1 + (Vi.rd l).1.toNat))) = (l.drop ((Vi.rd l).2.1 + (Vi.rd l).1.toNat)).take 4 then ((l.drop (Vi.rd l).2.1).take (Vi.rd l).1.toNat, (Vi.rd l).2.1 + (Vi.rd l).1.toNat + 4, 0)
       else ([], 0, 13))
     else ([], 0, 2))
  else ([], 0, (Vi.rd l).2.2)
theorem open_a {l : List UInt8} {n : Int} {k : Nat} {e : Int} (h : Vi.rd l = (n, k, e)) (he : e ≠ 0) : openR l = ([], 0, e) := by unfold openR; rw [h]; simp [he]
theorem open_b {l : List UInt8} {n : Int} {k : Nat} (h : Vi.rd l = (n, k, 0)) (hn : ¬ (0 ≤ n ∧ n ≤ 65536)) : openR l = ([], 0, 2) := by unfold openR; rw [h]; simp only [if_true]; rw [if_neg hn]
theorem open_c {l : List UInt8} {m k : Nat} (h : Vi.rd l = ((m : Int), k, 0)) (hm : m ≤ 65536) (hl : l.length < k + m + 4) : openR l = ([], 0, 12) := by
  unfold openR; rw [h]; simp only [if_true, Int.toNat_natCast]; rw [if_pos ⟨by omega, by omega⟩, if_pos hl]
theorem open_d {l : List UInt8} {m k : Nat} (h : Vi.rd l = ((m : Int), k, 0)) (hm : m ≤ 65536) (hl : ¬ l.length < k + m + 4) (hb : ¬ bytes4 (sum (l.take (k + m))) = (l.drop (k + m)).take 4) : openR l = ([], 0, 13) := by
  unfold openR; rw [h]; simp only [if_true, Int.toNat_natCast]; rw [if_pos ⟨by omega, by omega⟩, if_neg hl, if_neg hb]
theorem open_e {l : List UInt8} {m k : Nat} (h : Vi.rd l = ((m : Int), k, 0)) (hm : m ≤ 65536) (hl : ¬ l.length < k + m + 4) (hb : bytes4 (sum (l.take (k + m))) = (l.drop (k + m)).take 4) : openR l = ((l.drop k).take m, k + m + 4, 0) := by
  unfold openR; rw [h]; simp only [if_true, Int.toNat_natCast]; rw [if_pos ⟨by omega, by omega⟩, if_neg hl, if_pos hb]
def RetOpen (w : World) (l : List UInt8) (e : Ending) (w' : World) : Prop := e = .returned (.tuple #[.string (str (openR l).1), .int .i64 ((openR l).2.1 : Int), .int .i64 (openR l).2.2]) ∧ Below w.heap.size w w'
theorem retOpen_of {w w' : World} {l x : List UInt8} {k : Nat} {er : Int} (h : openR l = (x, k, er)) {a : ByteArray} {b c : Int} (ha : a = str x) (hb : b = (k : Int)) (hc : c = er) (hB : Below w.heap.size w w') :
    RetOpen w l (.returned (.tuple #[.string a, .int .i64 b, .int .i64 c])) w' := by
  unfold RetOpen
  rw [h, ha, hb, hc]
  exact ⟨rfl, hB⟩

set_option maxHeartbeats 4000000 in
set_option maxRecDepth 100000 in
theorem open_any (s : ByteArray) (hs : s.size ≤ maxLen) (w : World) :
    Calls Try.prog 59 #[.string s] w (RetOpen w s.data.toList) := by
  have hsm := hs
  unfold maxLen at hs
  have hsl : s.data.toList.length = s.size := by simp
  have r1 := fun w => readInt_any s hsm w
  unfold rd3 at r1
  obtain ⟨n, k, er, h1⟩ : ∃ n k e, Vi.rd s.data.toList = (n, k, e) := ⟨_, _, _, rfl⟩
  simp only [h1] at r1
  have R1 := Lib.hid r1
  have H1 := Lib.hid h1
  clear r1 h1
  have HB : Hid (Below w.heap.size w w) := Below.refl _ _
  go_enter Try.func59, Try.ntmps59
  go_wp2_with fail
  refine (R1.out _).mono ?_
  rintro e w1 ⟨rfl, hb1⟩
  replace HB := Lib.hid (HB.out.trans (hb1.mono HB.out.size))
  clear hb1
  by_cases z : er = 0
  · subst z
    by_cases g1 : n < 0
    · have HO := Lib.hid (open_b H1.out (by omega))
      go_wp2
      go_ret3
      exact retOpen_of HO.out rfl rfl rfl HB.out
    · by_cases g2 : 65536 < n
      · have HO := Lib.hid (open_b H1.out (by omega))
        go_wp2
        go_ret3
        exact retOpen_of HO.out rfl rfl rfl HB.out
      · obtain ⟨m, rfl⟩ := Int.eq_ofNat_of_zero_le (by omega : 0 ≤ n)
        have hc := Vi.rd_canon H1.out
        have hk := hc.2.2.1
        have hk9 := hc.2.2.2.2
        rw [hsl] at hk
        clear hc
        by_cases g3 : s.size < k + m + 4
        · have HO := Lib.hid (open_c H1.out (by omega) (by rw [hsl]; exact g3))
          have g4 : (s.size : Int) < k + m + 4 := by omega
          go_wp2
          go_ret3
          exact retOpen_of HO.out rfl rfl rfl HB.out
        · have g4 : ¬ (s.size : Int) < k + m + 4 := by omega
          have hT := fun w => tail_any (s.extract 0 (k + m)) (by simp [ByteArray.size_extract]; unfold maxLen; omega) w
          have hxl : (s.extract 0 (k + m)).data.toList = s.data.toList.take (k + m) := by rw [ex_list, List.drop_zero, Nat.sub_zero]
          rw [hxl] at hT
          have hx2 : s.extract (k + m) (k + m + 4) = str ((s.data.toList.drop (k + m)).take 4) := by rw [ex_str, show k + m + 4 - (k + m) = 4 by omega]
          have hv1 : IntKind.i64.wrap ((k : Int) + (m : Int)) = (k : Int) + (m : Int) := by rw [IntKind.wrap_i64]; omega
          have hv2 : IntKind.i64.wrap ((k : Int) + (m : Int) + 4) = (k : Int) + (m : Int) + 4 := by rw [IntKind.wrap_i64]; omega
          have hq1 : (0 : Int) ≤ (k : Int) + (m : Int) := by omega
          have hq2 : (k : Int) + (m : Int) ≤ (s.size : Int) := by omega
          have hq3 : (k : Int) + (m : Int) + 4 ≤ (s.size : Int) := by omega
          have hq4 : (0 : Int) ≤ (k : Int) + (m : Int) + 4 := by omega
          have hq5 : (k : Int) + (m : Int) ≤ (k : Int) + (m : Int) + 4 := by omega
          have hw1 : ((k : Int) + (m : Int)).toNat = k + m := by omega
          have hw2 : ((k : Int) + (m : Int) + 4).toNat = k + m + 4 := by omega
          have HT := Lib.hid hT
          have HX2 := Lib.hid hx2
          clear hT hxl hx2
          by_cases g5 : bytes4 (sum (s.data.toList.take (k + m))) = (s.data.toList.drop (k + m)).take 4
          · have HO := Lib.hid (open_e H1.out (by omega) (by rw [hsl]; omega) g5)
            rw [g5, ← HX2.out] at HT
            clear g5
            go_wp2
            go_region_with (go_at_call 54; refine (HT.out _).mono ?_; rintro e w2 ⟨rfl, hbt⟩)
            all_goals
              have HB2 := Lib.hid (HB.out.drew.trans (hbt.mono HB.out.size))
              clear hbt
              go_wp2
              go_ret3
              exact retOpen_of HO.out (by rw [ex_str, Nat.add_sub_cancel_left]) (by simp) rfl HB2.out
          · have HO := Lib.hid (open_d H1.out (by omega) (by rw [hsl]; omega) g5)
            have hbs : ((str (bytes4 (sum (s.data.toList.take (k + m))))).toList == (s.extract (k + m) (k + m + 4)).toList) = false := by
              rw [HX2.out, Lib.toList_data, Lib.toList_data, str_list, str_list, beq_eq_false_iff_ne]; exact g5
            clear g5
            go_wp2
            go_region_with (go_at_call 54; refine (HT.out _).mono ?_; rintro e w2 ⟨rfl, hbt⟩)
            all_goals
              have HB2 := Lib.hid (HB.out.drew.trans (hbt.mono HB.out.size))
              clear hbt
              go_wp2
              go_ret3
              exact retOpen_of HO.out rfl rfl rfl HB2.out
  · have HO := Lib.hid (open_a H1.out z)
    have zb : (er != 0) = true := by rw [bne_iff_ne]; exact z
    clear z
    go_wp2
    go_ret3
    exact retOpen_of HO.out rfl rfl rfl HB.out
end Go.Proofs.Ytlknjdfiedkhbaa
namespace Go.Proofs.Ytlknjdfiedkhbaa
open Go Go.RowKit
open Crc (upd sum bytes4)

theorem seal_parts {S : List UInt8} (h : S.length ≤ 65536) : sealL S = Vi.intL S.length ++ S ++ bytes4 (sum (Vi.intL S.length ++ S)) ∧ sealE S = 0 := by
  unfold sealL sealE Vi.textL
  simp only [if_pos h]
  exact ⟨trivial, trivial⟩
theorem open_seal (S R : List UInt8) (h : S.length ≤ 65536) : openR (sealL S ++ R) = (S, (sealL S).length, 0) := by
  rw [(seal_parts h).1]
  have hr := Vi.rd_enc (S.length : Int) (S ++ bytes4 (sum (Vi.intL S.length ++ S)) ++ R) (Vi.small_inR _ h)
  generalize hI : Vi.intL (S.length : Int) = I at hr ⊢
  have hB : (bytes4 (sum (I ++ S))).length = 4 := rfl
  generalize hBB : bytes4 (sum (I ++ S)) = B at hr hB ⊢
  have e : I ++ S ++ B ++ R = I ++ (S ++ B ++ R) := by simp
  rw [e]
  have t1 : (I ++ (S ++ B ++ R)).take (I.length + S.length) = I ++ S := by
    rw [← e, List.append_assoc (I ++ S), ← List.length_append, List.take_left]
  have t2 : ((I ++ (S ++ B ++ R)).drop (I.length + S.length)).take 4 = B := by
    rw [← e, List.append_assoc (I ++ S), ← List.length_append, List.drop_left, ← hB, List.take_left]
  have t3 : ((I ++ (S ++ B ++ R)).drop I.length).take S.length = S := by
    rw [List.drop_left, List.append_assoc, List.take_left]
  rw [open_e hr h (by simp; omega) (by rw [t1, t2, hBB]), t3]
  simp [hB]
  omega
theorem open_canon {l x : List UInt8} {k : Nat} (h : openR l = (x, k, 0)) : x.length ≤ 65536 ∧ k ≤ l.length ∧ sealL x = l.take k := by
  unfold openR at h
  split at h
  · rename_i h0
    split at h
    · rename_i hn
      obtain ⟨_, _, r3, r4, _⟩ := Vi.rd_range l h0
      obtain ⟨m, hm⟩ := Int.eq_ofNat_of_zero_le hn.1
      rw [hm] at h r4 hn
      generalize (Vi.rd l).2.1 = q at h r3 r4
      rw [Int.toNat_natCast] at h
      split at h
      · simp only [Prod.mk.injEq] at h; exact absurd h.2.2 (by decide)
      · rename_i hl
        split at h
        · rename_i hb
          simp only [Prod.mk.injEq] at h
          obtain ⟨rfl, rfl, _⟩ := h
          have hx : ((l.drop q).take m).length = m := by rw [List.length_take, List.length_drop]; omega
          refine ⟨by omega, by omega, ?_⟩
          have e : Vi.intL (m : Int) ++ (l.drop q).take m = l.take (q + m) := by rw [r4, List.take_add]
          rw [(seal_parts (by omega)).1, hx, e, hb, ← List.take_add]
        · simp only [Prod.mk.injEq] at h; exact absurd h.2.2 (by decide)
    · simp only [Prod.mk.injEq] at h; exact absurd h.2.2 (by decide)
  · rename_i h0
    simp only [Prod.mk.injEq] at h; exact absurd h.2.2 h0
theorem open_no {l x : List UInt8} {k : Nat} {e : Int} (h : openR l = (x, k, e)) (he : e ≠ 0) : x = [] ∧ k = 0 := by
  unfold openR at h
  split at h
  · split at h
    · split at h
      · simp only [Prod.mk.injEq] at h; exact ⟨h.1.symm, h.2.1.symm⟩
      · split at h
        · simp only [Prod.mk.injEq] at h; exact absurd h.2.2.symm he
        · simp only [Prod.mk.injEq] at h; exact ⟨h.1.symm, h.2.1.symm⟩
    · simp only [Prod.mk.injEq] at h; exact ⟨h.1.symm, h.2.1.symm⟩
  · simp only [Prod.mk.injEq] at h; exact ⟨h.1.symm, h.2.1.symm⟩
theorem seal_len {S : List UInt8} (h : S.length ≤ 65536) : (sealL S).length ≤ S.length + 13 := by
  rw [(seal_parts h).1]
  have := Vi.intL_len9 S.length
  simp [bytes4]
  omega
theorem cat_list (l : List UInt8) (r : ByteArray) : (str l ++ r).data.toList = l ++ r.data.toList := by rw [str_app, str_list]
theorem cat_size (l : List UInt8) (r : ByteArray) : (str l ++ r).size = l.length + r.size := by rw [str_app, str_size, List.length_append]; simp
theorem seal_ok (s : ByteArray) (hs : s.size ≤ 65536) (w : World) :
    Calls Try.prog 36 #[.string s] w fun e w' => e = .returned (.tuple #[.string (str (sealL s.data.toList)), .int .i64 0]) ∧ Below w.heap.size w w' := by
  have := seal_any s (by unfold maxLen; omega) w
  rwa [(seal_parts (S := s.data.toList) (by simp; omega)).2] at this
theorem back_open (s r : ByteArray) (hs : s.size ≤ 300) (hr : r.size ≤ 300) (w : World) :
    Calls Try.prog 59 #[.string (str (sealL s.data.toList) ++ r)] w fun e w' => e = .returned (.tuple #[.string s, .int .i64 ((sealL s.data.toList).length : Int), .int .i64 0]) ∧ Below w.heap.size w w' := by
  have hl : s.data.toList.length = s.size := by simp
  have h1 := seal_len (S := s.data.toList) (by omega)
  refine (open_any (str (sealL s.data.toList) ++ r) (by rw [cat_size]; unfold maxLen; omega) w).mono ?_
  rintro e w' ⟨he, hb⟩
  rw [cat_list, open_seal _ _ (by omega)] at he
  exact ⟨he, hb⟩
theorem again_any {s : ByteArray} {x : List UInt8} {k : Nat} (h : openR s.data.toList = (x, k, 0)) (w : World) :
    Calls Try.prog 36 #[.string (str x)] w fun e w' => e = .returned (.tuple #[.string (s.extract 0 k), .int .i64 0]) ∧ Below w.heap.size w w' := by
  obtain ⟨h1, _, h3⟩ := open_canon h
  have := seal_ok (str x) (by rw [str_size]; exact h1) w
  rw [str_list, h3] at this
  rwa [show str (s.data.toList.take k) = s.extract 0 k by rw [ex_str, List.drop_zero, Nat.sub_zero]] at this

end Go.Proofs.Ytlknjdfiedkhbaa
namespace Go.Proofs.Ytlknjdfiedkhbaa
open Go Go.RowKit
open Crc (upd sum bytes4)

set_option maxHeartbeats 1000000 in
theorem sealR_any (s : ByteArray) (hs : s.size ≤ maxLen) (w : World) :
    Calls Try.prog 41 #[.string s] w fun e w' => e = .returned (.tuple #[.string (str (sealL s.data.toList)), .int .i64 (sealE s.data.toList)]) ∧ Below w.heap.size w w' := by
  unfold maxLen at hs
  have hl : s.data.toList.length = s.size := by simp
  by_cases h : s.size ≤ 65536
  · have hp := seal_parts (S := s.data.toList) (by omega)
    rw [hl] at hp
    have HL := Lib.hid hp.1
    have HE := Lib.hid hp.2
    have hI := int_size (s.size : Int)
    have hM := sumR_any (str (Vi.intL (s.size : Int)) ++ s) (by rw [cat_size]; have := Vi.intL_len9 (s.size : Int); unfold maxLen; omega)
    rw [cat_list] at hM
    have HM := Lib.hid hM
    have HT := Lib.hid (bytesR_any (sum (Vi.intL (s.size : Int) ++ s.data.toList)) (Crc.sum_lt _))
    have HN := Lib.hid (intR_any (s.size : Int))
    have hz4 : (str (bytes4 (sum (Vi.intL (s.size : Int) ++ s.data.toList)))).size ≤ 4 := by rw [str_size]; simp [Crc.bytes4]
    have HF : Hid (str (Vi.intL (s.size : Int)) ++ s ++ str (bytes4 (sum (Vi.intL (s.size : Int) ++ s.data.toList))) = str (sealL s.data.toList)) := by
      show _ = _
      rw [HL.out, str_app, str_append]
    generalize sum (Vi.intL (s.size : Int) ++ s.data.toList) = v at HM HT hz4 HF
    generalize str (bytes4 v) = B at HT hz4 HF
    generalize str (Vi.intL (s.size : Int)) = I at hI HM HN HF
    generalize str (sealL s.data.toList) = R at HF ⊢
    generalize sealE s.data.toList = E at HE ⊢
    clear hp hM hl
    go_enter Try.func41, Try.ntmps41
    go_wp2_with fail
    refine (HN.out _).mono ?_
    rintro e w1 ⟨rfl, hb1⟩
    have HB := Lib.hid hb1
    clear hb1
    go_wp2_with fail
    refine (HM.out _).mono ?_
    rintro e w2 ⟨rfl, rfl⟩
    go_wp2_with fail
    refine (HT.out _).mono ?_
    rintro e w3 ⟨rfl, hb3⟩
    have HB3 := Lib.hid (HB.out.trans (hb3.mono HB.out.size))
    clear hb3
    go_wp2
    go_ret2
    exact ⟨two_e HF.out HE.out.symm, HB3.out⟩
  · have HL : Hid (sealL s.data.toList = []) := by show _ = _; unfold sealL; rw [hl, if_neg h]
    have HE : Hid (sealE s.data.toList = 4) := by show _ = _; unfold sealE; rw [hl, if_neg h]
    clear hl
    go_enter Try.func41, Try.ntmps41
    go_wp2
    go_ret2
    exact ⟨two_e (by rw [HL.out]; rfl) HE.out.symm, Below.refl _ _⟩

set_option maxHeartbeats 4000000 in
set_option maxRecDepth 100000 in
theorem openR_any (s : ByteArray) (hs : s.size ≤ maxLen) (w : World) :
    Calls Try.prog 49 #[.string s] w (RetOpen w s.data.toList) := by
  have hsm := hs
  unfold maxLen at hs
  have hsl : s.data.toList.length = s.size := by simp
  have r1 := fun w => readIntR_any s hsm w
  unfold rd3 at r1
  obtain ⟨n, k, er, h1⟩ : ∃ n k e, Vi.rd s.data.toList = (n, k, e) := ⟨_, _, _, rfl⟩
  simp only [h1] at r1
  have R1 := Lib.hid r1
  have H1 := Lib.hid h1
  clear r1 h1
  have HB : Hid (Below w.heap.size w w) := Below.refl _ _
  go_enter Try.func49, Try.ntmps49
  go_wp2_with fail
  refine (R1.out _).mono ?_
  rintro e w1 ⟨rfl, rfl⟩
  by_cases z : er = 0
  · subst z
    by_cases g1 : n < 0
    · have HO := Lib.hid (open_b H1.out (by omega))
      go_wp2
      go_ret3
      exact retOpen_of HO.out rfl rfl rfl HB.out
    · by_cases g2 : 65536 < n
      · have HO := Lib.hid (open_b H1.out (by omega))
        go_wp2
        go_ret3
        exact retOpen_of HO.out rfl rfl rfl HB.out
      · obtain ⟨m, rfl⟩ := Int.eq_ofNat_of_zero_le (by omega : 0 ≤ n)
        have hc := Vi.rd_canon H1.out
        have hk := hc.2.2.1
        have hk9 := hc.2.2.2.2
        rw [hsl] at hk
        clear hc
        by_cases g3 : s.size < k + m + 4
        · have HO := Lib.hid (open_c H1.out (by omega) (by rw [hsl]; exact g3))
          have g4 : (s.size : Int) < k + m + 4 := by omega
          go_wp2
          go_ret3
          exact retOpen_of HO.out rfl rfl rfl HB.out
        · have g4 : ¬ (s.size : Int) < k + m + 4 := by omega
          have hT := fun w => bytesR_any (sum (s.data.toList.take (k + m))) (Crc.sum_lt _) w
          have hM := fun w => sumR_any (s.extract 0 (k + m)) (by simp [ByteArray.size_extract]; unfold maxLen; omega) w
          have hxl : (s.extract 0 (k + m)).data.toList = s.data.toList.take (k + m) := by rw [ex_list, List.drop_zero, Nat.sub_zero]
          rw [hxl] at hM
          have HM := Lib.hid hM
          clear hM
          have hx2 : s.extract (k + m) (k + m + 4) = str ((s.data.toList.drop (k + m)).take 4) := by rw [ex_str, show k + m + 4 - (k + m) = 4 by omega]
          have hv1 : IntKind.i64.wrap ((k : Int) + (m : Int)) = (k : Int) + (m : Int) := by rw [IntKind.wrap_i64]; omega
          have hv2 : IntKind.i64.wrap ((k : Int) + (m : Int) + 4) = (k : Int) + (m : Int) + 4 := by rw [IntKind.wrap_i64]; omega
          have hq1 : (0 : Int) ≤ (k : Int) + (m : Int) := by omega
          have hq2 : (k : Int) + (m : Int) ≤ (s.size : Int) := by omega
          have hq3 : (k : Int) + (m : Int) + 4 ≤ (s.size : Int) := by omega
          have hq4 : (0 : Int) ≤ (k : Int) + (m : Int) + 4 := by omega
          have hq5 : (k : Int) + (m : Int) ≤ (k : Int) + (m : Int) + 4 := by omega
          have hw1 : ((k : Int) + (m : Int)).toNat = k + m := by omega
          have hw2 : ((k : Int) + (m : Int) + 4).toNat = k + m + 4 := by omega
          have HT := Lib.hid hT
          have HX2 := Lib.hid hx2
          clear hT hxl hx2
          by_cases g5 : bytes4 (sum (s.data.toList.take (k + m))) = (s.data.toList.drop (k + m)).take 4
          · have HO := Lib.hid (open_e H1.out (by omega) (by rw [hsl]; omega) g5)
            rw [g5, ← HX2.out] at HT
            clear g5
            go_wp2
            go_region_with (first | (go_at_call 57; refine (HM.out _).mono ?_; rintro e w2 ⟨rfl, rfl⟩) | (go_at_call 56; refine (HT.out _).mono ?_; rintro e w3 ⟨rfl, hbt⟩))
            all_goals
              have HB2 := Lib.hid (HB.out.drew.trans (hbt.mono HB.out.size))
              clear hbt
              go_wp2
              go_ret3
              exact retOpen_of HO.out (by rw [ex_str, Nat.add_sub_cancel_left]) (by simp) rfl HB2.out
          · have HO := Lib.hid (open_d H1.out (by omega) (by rw [hsl]; omega) g5)
            have hbs : ((s.extract (k + m) (k + m + 4)).toList == (str (bytes4 (sum (s.data.toList.take (k + m))))).toList) = false := by
              rw [HX2.out, Lib.toList_data, Lib.toList_data, str_list, str_list, beq_eq_false_iff_ne]; exact fun h => g5 h.symm
            clear g5
            go_wp2
            go_region_with (first | (go_at_call 57; refine (HM.out _).mono ?_; rintro e w2 ⟨rfl, rfl⟩) | (go_at_call 56; refine (HT.out _).mono ?_; rintro e w3 ⟨rfl, hbt⟩))
            all_goals
              have HB2 := Lib.hid (HB.out.drew.trans (hbt.mono HB.out.size))
              clear hbt
              go_wp2
              go_ret3
              exact retOpen_of HO.out rfl rfl rfl HB2.out
  · have HO := Lib.hid (open_a H1.out z)
    have zb : (er != 0) = true := by rw [bne_iff_ne]; exact z
    clear z
    go_wp2
    go_ret3
    exact retOpen_of HO.out rfl rfl rfl HB.out

end Go.Proofs.Ytlknjdfiedkhbaa
namespace Go.Proofs.Ytlknjdfiedkhbaa
open Go Go.RowKit
open Crc (upd sum chg)

theorem BRow.put {w : World} {base g n cap : Nat} {xs : List Value} (h : BRow w base (.slice (some ⟨g, 0, none⟩) n cap) n xs) (k : Nat) (hk : k < n) (v : Value) : BRow (w.setCell ⟨g, k, none⟩ v) base (.slice (some ⟨g, 0, none⟩) n cap) n (xs.set k v) := by
  obtain ⟨g', cap', h1, h2, h3, h4, h5, h6, h7, h8⟩ := h
  cases h1
  have hs := (h8 k (by omega)).1
  have hc : ∀ j, (w.setCell ⟨g, k, none⟩ v).cell? ⟨g, j, none⟩ = if k = j then some v else w.cell? ⟨g, j, none⟩ := by
    intro j
    by_cases e : k = j
    · subst e; rw [if_pos rfl]; exact World.cell?_setCell_same' _ _ _ hs
    · rw [if_neg e]; exact World.cell?_setCell_other _ _ _ _ (by simp)
  refine ⟨g, cap, rfl, h2, by simpa [World.setCell] using h3, h4, h5, by simpa using h6, fun j hj => ?_, fun j hj => ⟨?_, ?_⟩⟩
  · rw [hc j]
    by_cases e : k = j
    · subst e; rw [if_pos rfl, List.getElem?_set_self (by omega)]
    · rw [if_neg e, List.getElem?_set_ne e]; exact h7 j hj
  · rw [hc j]
    by_cases e : k = j
    · rw [if_pos e]; rfl
    · rw [if_neg e]; exact (h8 j hj).1
  · rw [World.frozen?_setCell]; exact (h8 j hj).2
theorem BRow.str {w : World} {base n : Nat} {v : Value} {l : List UInt8} (hl : l.length = n) (h : BRow w base v n (l.map byteV)) :
    (convert 54 9 v).run Try.prog w = .ok (.string (str l)) w := by
  obtain ⟨g, cap, rfl⟩ := h.form
  refine conv_bytes hl (fun j hj => ?_)
  rw [Nat.zero_add, h.cells j hj, List.getElem?_map, List.getElem?_eq_getElem (by omega)]; rfl
theorem xor_byte2 (x y : UInt8) : bits .xor .u8 (x.toNat : Int) (y.toNat : Int) = ((x ^^^ y).toNat : Int) := by
  rw [UInt8.toNat_xor]; exact xor8 _ _ (UInt8.toNat_lt x) (UInt8.toNat_lt y)
theorem chg_yes {l : List UInt8} {a k : Nat} {bs : List UInt8} {b : UInt8} (h : a + k < l.length) (hb : bs[k]? = some b) : chg l a bs (k + 1) = (chg l a bs k).set (a + k) ((chg l a bs k)[a + k]?.getD 0 ^^^ b) := by
  rw [chg, if_pos h, hb]; rfl
theorem chg_no {l : List UInt8} {a k : Nat} {bs : List UInt8} (h : ¬ a + k < l.length) : chg l a bs (k + 1) = chg l a bs k := by rw [chg, if_neg h]

end Go.Proofs.Ytlknjdfiedkhbaa
namespace Go.Proofs.Ytlknjdfiedkhbaa
open Go Go.RowKit
open Crc (upd sum bytes4 chg stepN)

theorem seal_size {S : List UInt8} (h : S.length ≤ 65536) : (sealL S).length = (Vi.intL S.length).length + S.length + 4 := by
  rw [(seal_parts h).1]; simp [bytes4]; omega
theorem damage {S : List UInt8} (h : S.length ≤ 65536) (p : Nat) (bs : List UInt8) (h1 : (Vi.intL S.length).length ≤ p) (h2 : p ≤ (sealL S).length) :
    sealL S = chg (sealL S) p bs 4 ∨ openR (chg (sealL S) p bs 4) = ([], 0, 13) := by
  have hsz := seal_size h
  have hlen := Crc.chg_len (sealL S) p bs 4
  have hat := Crc.chg_at (sealL S) p bs 4
  have hfit : upd Crc.most (sealL S) = stepN 32 Crc.most := by
    rw [(seal_parts h).1]
    exact (Crc.frame_fits (Vi.intL S.length ++ S) (bytes4 (sum (Vi.intL S.length ++ S))) rfl).1 rfl
  have hpre : (sealL S).take (Vi.intL S.length).length = Vi.intL S.length := by
    rw [(seal_parts h).1, List.append_assoc, List.take_left]
  have hdet := fun hs => Crc.detects (l := sealL S) (t := chg (sealL S) p bs 4) (a := p) Crc.most hlen.symm h2 (fun j hj => hat j hj) hs
  generalize chg (sealL S) p bs 4 = t at hlen hat hdet ⊢
  generalize hI : Vi.intL (S.length : Int) = I at *
  have hp2 : t.take I.length = I := by
    refine Eq.trans ?_ hpre
    refine List.ext_getElem? (fun j => ?_)
    by_cases hj : j < I.length
    · rw [List.getElem?_take_of_lt hj, List.getElem?_take_of_lt hj]
      exact hat j (.inl (by omega))
    · rw [List.getElem?_eq_none (by rw [List.length_take]; omega), List.getElem?_eq_none (by rw [List.length_take]; omega)]
  have hrd : Vi.rd t = ((S.length : Int), I.length, 0) := by
    have e : t = I ++ t.drop I.length := by conv => lhs; rw [← List.take_append_drop I.length t, hp2]
    have := Vi.rd_enc (S.length : Int) (t.drop I.length) (Vi.small_inR _ h)
    rw [hI] at this
    rw [e]
    exact this
  by_cases hb : bytes4 (sum (t.take (I.length + S.length))) = (t.drop (I.length + S.length)).take 4
  · left
    have h4 : ((t.drop (I.length + S.length)).take 4).length = 4 := by rw [List.length_take, List.length_drop]; omega
    have h5 := (Crc.frame_fits _ _ h4).1 hb
    rw [← List.take_add, List.take_of_length_le (by omega)] at h5
    exact hdet (hfit.trans h5.symm)
  · right
    exact open_d hrd h (by omega) hb
theorem cut_short {S : List UInt8} (h : S.length ≤ 65536) (q : Nat) (hq : q < (sealL S).length) : openR ((sealL S).take q) = ([], 0, 12) := by
  have hsz := seal_size h
  have hpre : (sealL S).take (Vi.intL S.length).length = Vi.intL S.length := by
    rw [(seal_parts h).1, List.append_assoc, List.take_left]
  by_cases hk : q < (Vi.intL S.length).length
  · have e : (sealL S).take q = (Vi.intL S.length).take q := by
      rw [← hpre, List.take_take, Nat.min_eq_left (by omega)]
    rw [e]
    exact open_a (Vi.rd_short _ (Vi.small_inR _ h) q hk) (by decide)
  · have e : (sealL S).take q = Vi.intL S.length ++ ((sealL S).take q).drop (Vi.intL S.length).length := by
      conv => lhs; rw [← List.take_append_drop (Vi.intL S.length).length ((sealL S).take q), List.take_take, Nat.min_eq_left (by omega), hpre]
    have hrd := Vi.rd_enc (S.length : Int) (((sealL S).take q).drop (Vi.intL S.length).length) (Vi.small_inR _ h)
    rw [← e] at hrd
    exact open_c hrd h (by rw [List.length_take]; omega)

theorem cut_any (l : List UInt8) (hl : l.length ≤ 1000) (q : Nat) (h : openR (l.take q) = ([], 0, 12)) (w : World) :
    Calls Try.prog 59 #[.string ((str l).extract 0 q)] w fun e w' => e = .returned (.tuple #[.string ⟨#[]⟩, .int .i64 0, .int .i64 12]) ∧ Below w.heap.size w w' := by
  have e : ((str l).extract 0 q).data.toList = l.take q := by rw [ex_list, List.drop_zero, Nat.sub_zero, str_list]
  have hs : ((str l).extract 0 q).size ≤ 1000 := by
    have h2 : ((str l).extract 0 q).data.toList.length = ((str l).extract 0 q).size := by simp
    rw [← h2, e, List.length_take]
    omega
  refine (open_any ((str l).extract 0 q) (by unfold maxLen; omega) w).mono ?_
  rintro e' w' ⟨he, hb⟩
  rw [e, h] at he
  exact ⟨he, hb⟩
theorem open_str (l : List UInt8) (hl : l.length ≤ 1000) (w : World) : Calls Try.prog 59 #[.string (str l)] w (RetOpen w l) :=
  open_any (str l) (by rw [str_size]; unfold maxLen; omega) w

end Go.Proofs.Ytlknjdfiedkhbaa
