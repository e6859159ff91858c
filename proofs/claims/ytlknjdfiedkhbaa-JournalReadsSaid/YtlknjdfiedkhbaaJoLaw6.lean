/- JournalReads, walked: the call answers true. Conditions: the records lie in memory; lengths below the model's greatest. -/
import Derived.Test.YtlknjdfiedkhbaaJoReadR
import Derived.Test.YtlknjdfiedkhbaaJoCmpF
namespace Go.Proofs.Ytlknjdfiedkhbaa
open Go Go.RowKit
open Jo (RId Itm Rec rcA rcL ck)
attribute [-simp] Try.isAgg34 Try.sizeOf34 Try.typeInfo34

theorem readF_len : ∀ (f : Nat) (l : List UInt8), (readF f l).1.length ≤ f
  | 0, _ => Nat.le_refl _
  | f + 1, l => by
    unfold readF
    split
    · rename_i r k _
      have := readF_len f (l.drop k)
      simp only [List.length_cons]
      omega
    · exact Nat.zero_le _
theorem rdJ_len (l : List UInt8) : (rdJ l).1.length ≤ 65536 := by
  unfold rdJ
  split
  · rename_i h
    have := readF_len l.length l
    unfold readL
    simp only
    omega
  · exact Nat.zero_le _
theorem cmpL_16 {l : List Rec} (h : l.length ≤ 16) : (cmpL l).length ≤ 16 := by
  unfold cmpL
  split
  · exact Nat.le_trans (outC_len l _ _) h
  · exact Nat.zero_le _

set_option maxHeartbeats 4000000 in
set_option maxRecDepth 100000 in
theorem lawReads (s : ByteArray) (hs : s.size ≤ maxLen) (A : Option Addr) (cA : Nat) (l : List Rec) (w : World) (hl : l.length ≤ maxLen) (hca : l.length ≤ cA) (hd : ∀ r ∈ l, r.item.data.size ≤ maxLen) (hA : RecsAt w A l) :
    Calls Try.prog 5 #[.string s, .slice A l.length cA] w fun e w' => e = .returned (.bool true) ∧ Below w.heap.size w w' := by
  have HG := Lib.hid (great_any A cA l w hA hl hd)
  have HA := Lib.hid hA
  have HD := Lib.hid hd
  have HS := Lib.hid hs
  have HCA := Lib.hid hca
  clear hA hd hl hs hca
  have HGN := Lib.hid (@great_no l)
  generalize greatB l = g at HG HGN
  have hsz : (2000 < s.size ∧ s.size ≤ 65536) ∨ s.size ≤ 2000 ∨ 65536 < s.size := by omega
  rcases hsz with ⟨h1, h2⟩ | hBC
  · have h3 : (2000 : Int) < (s.size : Int) := by omega
    have h4 : (s.size : Int) ≤ 65536 := by omega
    clear HG HGN
    go_enter Try.func5, Try.ntmps5
    go_wp2_with fail
    refine (jawake_any _).mono ?_
    rintro e w4 ⟨rfl, hb4⟩
    have HB4 := Lib.hid hb4
    clear hb4
    go_wp2
    go_ret
    exact ⟨rfl, HB4.out⟩
  · rcases hBC with hB | hC
    · have h3 : ¬ (2000 : Int) < (s.size : Int) := by omega
      clear hB
      cases g with
      | true =>
        clear HGN
        go_enter Try.func5, Try.ntmps5
        go_wp2_with fail
        refine HG.out.mono ?_
        rintro e w1 ⟨rfl, rfl⟩
        go_wp2_with fail
        refine (jawake_any _).mono ?_
        rintro e w4 ⟨rfl, hb4⟩
        have HB4 := Lib.hid hb4
        clear hb4
        go_wp2
        go_ret
        exact ⟨rfl, HB4.out⟩
      | false =>
        have HL16 := Lib.hid (HGN.out rfl).1
        clear HGN
        have HR1 := Lib.hid (fun w => read_any s HS.out w)
        have HR2 := Lib.hid (fun w => readR_any s HS.out w)
        have HLN := Lib.hid (rdJ_len s.data.toList)
        have HC1 := Lib.hid (fun w h => compact_any A cA l w HL16.out HD.out h)
        have HC2 := Lib.hid (fun w h => compactR_any A cA l w HL16.out HCA.out HD.out h)
        have HCN := Lib.hid (cmpL_16 HL16.out)
        unfold RetRd at HR1 HR2
        unfold CmpPost at HC2
        generalize (rdJ s.data.toList).1 = R at HR1 HR2 HLN
        generalize (rdJ s.data.toList).2.1 = rn at HR1 HR2
        generalize (rdJ s.data.toList).2.2 = re at HR1 HR2
        generalize cmpL l = M at HC1 HC2 HCN
        generalize errK l = me at HC1 HC2
        go_enter Try.func5, Try.ntmps5
        go_wp2_with fail
        refine HG.out.mono ?_
        rintro e w1 ⟨rfl, rfl⟩
        go_wp2_with fail
        refine (HR1.out _).mono ?_
        rintro e w2 ⟨A2, c2, rfl, hr2, hb2⟩
        have HB2 := Lib.hid hb2
        have HX2 := Lib.hid hr2
        clear hb2 hr2
        go_wp2_with fail
        refine (HR2.out _).mono ?_
        rintro e w3 ⟨A3, c3, rfl, hr3, hb3⟩
        have HB3 := Lib.hid (HB2.out.trans (hb3.mono HB2.out.size))
        have HX3 := Lib.hid (HX2.out.below hb3)
        have HY3 := Lib.hid hr3
        clear hb3 hr3 HX2 HB2
        go_wp2_with fail
        refine (HC1.out _ (HA.out.below HB3.out)).mono ?_
        rintro e w4 ⟨A4, c4, rfl, hr4, hb4⟩
        have HB4 := Lib.hid (HB3.out.trans (hb4.mono HB3.out.size))
        have HX4 := Lib.hid (HX3.out.below hb4)
        have HY4 := Lib.hid (HY3.out.below hb4)
        have HZ4 := Lib.hid hr4
        clear hb4 hr4 HX3 HY3 HB3
        go_wp2_with fail
        refine (HC2.out _ (HA.out.below HB4.out)).mono ?_
        rintro e w5 ⟨A5, c5, rfl, hr5, hb5⟩
        have HB5 := Lib.hid (HB4.out.trans (hb5.mono HB4.out.size))
        have HX5 := Lib.hid (HX4.out.below hb5)
        have HY5 := Lib.hid (HY4.out.below hb5)
        have HZ5 := Lib.hid (HZ4.out.below hb5)
        have HU5 := Lib.hid hr5
        clear hb5 hr5 HX4 HY4 HZ4 HB4
        go_wp2_with fail
        refine (sameRec_same A2 A3 c2 c3 R w5 HX5.out HY5.out (by have := HLN.out; unfold maxLen; omega)).mono ?_
        rintro e w6 ⟨rfl, hb6⟩
        have HB6 := Lib.hid (HB5.out.trans (hb6.mono HB5.out.size))
        have HZ6 := Lib.hid (HZ5.out.below hb6)
        have HU6 := Lib.hid (HU5.out.below hb6)
        clear hb6 HX5 HY5 HZ5 HU5 HB5
        go_wp2_with fail
        refine (sameRec_same A4 A5 c4 c5 M w6 HZ6.out HU6.out (by have := HCN.out; unfold maxLen; omega)).mono ?_
        rintro e w7 ⟨rfl, hb7⟩
        have HB7 := Lib.hid (HB6.out.trans (hb7.mono HB6.out.size))
        clear hb7 HZ6 HU6 HB6
        go_wp2_with fail
        refine (jawake_any _).mono ?_
        rintro e w8 ⟨rfl, hb8⟩
        have HB8 := Lib.hid (HB7.out.trans (hb8.mono HB7.out.size))
        clear hb8 HB7
        go_wp2
        go_ret
        exact ⟨rfl, HB8.out⟩
    · have h3 : (2000 : Int) < (s.size : Int) := by omega
      have h4 : ¬ (s.size : Int) ≤ 65536 := by omega
      clear hC
      cases g with
      | true =>
        clear HGN
        go_enter Try.func5, Try.ntmps5
        go_wp2_with fail
        refine HG.out.mono ?_
        rintro e w1 ⟨rfl, rfl⟩
        go_wp2_with fail
        refine (jawake_any _).mono ?_
        rintro e w4 ⟨rfl, hb4⟩
        have HB4 := Lib.hid hb4
        clear hb4
        go_wp2
        go_ret
        exact ⟨rfl, HB4.out⟩
      | false =>
        have HL16 := Lib.hid (HGN.out rfl).1
        clear HGN
        have HR1 := Lib.hid (fun w => read_any s HS.out w)
        have HR2 := Lib.hid (fun w => readR_any s HS.out w)
        have HLN := Lib.hid (rdJ_len s.data.toList)
        have HC1 := Lib.hid (fun w h => compact_any A cA l w HL16.out HD.out h)
        have HC2 := Lib.hid (fun w h => compactR_any A cA l w HL16.out HCA.out HD.out h)
        have HCN := Lib.hid (cmpL_16 HL16.out)
        unfold RetRd at HR1 HR2
        unfold CmpPost at HC2
        generalize (rdJ s.data.toList).1 = R at HR1 HR2 HLN
        generalize (rdJ s.data.toList).2.1 = rn at HR1 HR2
        generalize (rdJ s.data.toList).2.2 = re at HR1 HR2
        generalize cmpL l = M at HC1 HC2 HCN
        generalize errK l = me at HC1 HC2
        go_enter Try.func5, Try.ntmps5
        go_wp2_with fail
        refine HG.out.mono ?_
        rintro e w1 ⟨rfl, rfl⟩
        go_wp2_with fail
        refine (HR1.out _).mono ?_
        rintro e w2 ⟨A2, c2, rfl, hr2, hb2⟩
        have HB2 := Lib.hid hb2
        have HX2 := Lib.hid hr2
        clear hb2 hr2
        go_wp2_with fail
        refine (HR2.out _).mono ?_
        rintro e w3 ⟨A3, c3, rfl, hr3, hb3⟩
        have HB3 := Lib.hid (HB2.out.trans (hb3.mono HB2.out.size))
        have HX3 := Lib.hid (HX2.out.below hb3)
        have HY3 := Lib.hid hr3
        clear hb3 hr3 HX2 HB2
        go_wp2_with fail
        refine (HC1.out _ (HA.out.below HB3.out)).mono ?_
        rintro e w4 ⟨A4, c4, rfl, hr4, hb4⟩
        have HB4 := Lib.hid (HB3.out.trans (hb4.mono HB3.out.size))
        have HX4 := Lib.hid (HX3.out.below hb4)
        have HY4 := Lib.hid (HY3.out.below hb4)
        have HZ4 := Lib.hid hr4
        clear hb4 hr4 HX3 HY3 HB3
        go_wp2_with fail
        refine (HC2.out _ (HA.out.below HB4.out)).mono ?_
        rintro e w5 ⟨A5, c5, rfl, hr5, hb5⟩
        have HB5 := Lib.hid (HB4.out.trans (hb5.mono HB4.out.size))
        have HX5 := Lib.hid (HX4.out.below hb5)
        have HY5 := Lib.hid (HY4.out.below hb5)
        have HZ5 := Lib.hid (HZ4.out.below hb5)
        have HU5 := Lib.hid hr5
        clear hb5 hr5 HX4 HY4 HZ4 HB4
        go_wp2_with fail
        refine (sameRec_same A2 A3 c2 c3 R w5 HX5.out HY5.out (by have := HLN.out; unfold maxLen; omega)).mono ?_
        rintro e w6 ⟨rfl, hb6⟩
        have HB6 := Lib.hid (HB5.out.trans (hb6.mono HB5.out.size))
        have HZ6 := Lib.hid (HZ5.out.below hb6)
        have HU6 := Lib.hid (HU5.out.below hb6)
        clear hb6 HX5 HY5 HZ5 HU5 HB5
        go_wp2_with fail
        refine (sameRec_same A4 A5 c4 c5 M w6 HZ6.out HU6.out (by have := HCN.out; unfold maxLen; omega)).mono ?_
        rintro e w7 ⟨rfl, hb7⟩
        have HB7 := Lib.hid (HB6.out.trans (hb7.mono HB6.out.size))
        clear hb7 HZ6 HU6 HB6
        go_wp2_with fail
        refine (jawake_any _).mono ?_
        rintro e w8 ⟨rfl, hb8⟩
        have HB8 := Lib.hid (HB7.out.trans (hb8.mono HB7.out.size))
        clear hb8 HB7
        go_wp2
        go_ret
        exact ⟨rfl, HB8.out⟩
end Go.Proofs.Ytlknjdfiedkhbaa
