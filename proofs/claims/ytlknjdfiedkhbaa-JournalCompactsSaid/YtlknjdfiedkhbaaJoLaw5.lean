/- JournalCompacts, walked: the call answers true. Conditions: the records lie in memory; lengths below the model's greatest. -/
import Derived.Test.YtlknjdfiedkhbaaJoFuncs
namespace Go.Proofs.Ytlknjdfiedkhbaa
open Go Go.RowKit
open Jo (RId Itm Rec rcA rcL ck)
attribute [-simp] Try.isAgg34 Try.sizeOf34 Try.typeInfo34

theorem errK_any {l : List Rec} (h : errK l ≠ 0) : l.any (errIs (errK l)) = true := by
  induction l with
  | nil => exact absurd rfl h
  | cons r l ih =>
    unfold errK at h ⊢
    by_cases c : ck r = 0
    · rw [if_pos c] at h ⊢
      rw [List.any_cons, ih h, Bool.or_true]
    · rw [if_neg c] at h ⊢
      rw [List.any_cons]
      have : errIs (ck r) r = true := by unfold errIs; rw [beq_iff_eq]
      rw [this, Bool.true_or]
theorem cmpL_bad {l : List Rec} (h : errK l ≠ 0) : cmpL l = [] := by unfold cmpL; rw [if_neg h]
theorem kinds_ok {l : List Rec} (h : errK l = 0) : ∀ r ∈ l, r.kind = 1 ∨ r.kind = 2 ∨ r.kind = 3 ∨ r.kind = 4 := fun r hr => ck_ranges (errK_all.1 h r hr)
theorem kindNo_no {m : List Rec} (h : ∀ r ∈ m, r.kind = 1 ∨ r.kind = 3) : m.any kindNo = false := by
  rw [List.any_eq_false]
  intro r hr
  unfold kindNo
  rcases h r hr with c | c <;> rw [c] <;> decide

theorem sameItm_same (A B : Option Addr) (cA cB : Nat) (l : List Itm) (w : World) (hA : ItmsAt w A l) (hB : ItmsAt w B l) (hl : l.length ≤ maxLen) :
    Calls Try.prog 18 #[.slice A l.length cA, .slice B l.length cB] w fun e w' => e = .returned (.bool true) ∧ Below w.heap.size w w' := by
  have h := sameItm_any A B cA cB l l w hA hB hl hl
  rwa [decide_eq_true rfl] at h

set_option maxHeartbeats 4000000 in
set_option maxRecDepth 100000 in
theorem lawCompacts (A : Option Addr) (cA : Nat) (l : List Rec) (w : World) (hl : l.length ≤ maxLen) (hd : ∀ r ∈ l, r.item.data.size ≤ maxLen) (hA : RecsAt w A l) :
    Calls Try.prog 3 #[.slice A l.length cA] w fun e w' => e = .returned (.bool true) ∧ Below w.heap.size w w' := by
  have HG := Lib.hid (great_any A cA l w hA hl hd)
  have HA := Lib.hid hA
  have HD := Lib.hid hd
  clear hA hd hl
  have HGN := Lib.hid (@great_no l)
  generalize greatB l = g at HG HGN
  cases g with
  | true =>
    clear HGN
    go_enter Try.func3, Try.ntmps3
    go_wp2_with fail
    refine HG.out.mono ?_
    rintro e w1 ⟨rfl, rfl⟩
    go_wp2_with fail
    refine (jawake_any _).mono ?_
    rintro e w4 ⟨rfl, hb4⟩
    have HB4 := Lib.hid hb4
    clear hb4
    go_wp2
    go_ret
    exact ⟨rfl, HB4.out⟩
  | false =>
    obtain ⟨hl16, _⟩ := HGN.out rfl
    clear HGN
    have HC := Lib.hid (compact_any A cA l w hl16 HD.out HA.out)
    have hmf := fun (fn : Fn) (first cap : Array Value) (w : World) => (rfl : (Instr.makeFunc fn first cap).run Try.prog w = .ok (.func fn first cap) w)
    by_cases hq : errK l = 0
    · obtain ⟨k1, k2, k3, k4, k5, k6, k7⟩ := compacts hq
      have HKL := Lib.hid (kinds_ok hq)
      have hKM := kinds_ok k1
      have hno := kindNo_no k6
      rw [hq] at HC
      have HLE := Lib.hid (effL_len l l.length)
      generalize hE1 : effL l l.length = E at k3 k4 HLE
      have HEF1 := Lib.hid hE1
      clear hE1 hq
      generalize cmpL l = m at HC k1 k2 k3 k4 k5 k6 k7 hKM hno
      have HM2 : Hid (cmpL m = m) := k2
      have HMK : Hid (errK m = 0) := k1
      have HEF2 : Hid (effL m m.length = E) := k3
      have HLEN : Hid (m.length = E.1.length + E.2.length) := k4
      have HMD : Hid (∀ r ∈ m, r.item.data.size ≤ maxLen) := fun r hr => Nat.le_trans (ck_data (k7 r hr)) (by decide)
      have HKM := Lib.hid hKM
      have HNO := Lib.hid hno
      have hlen1 : ((E.1.length : Int) + (E.2.length : Int)) = (m.length : Int) := by omega
      have hml : m.length ≤ 16 := by omega
      clear k1 k2 k3 k4 k6 k7 hKM hno
      obtain ⟨E1, E2⟩ := E
      simp only at hlen1 HLE HLEN
      have HE16 : Hid (E1.length ≤ maxLen ∧ E2.length ≤ maxLen) := by have := HLE.out; unfold maxLen; exact ⟨by omega, by omega⟩
      go_enter Try.func3, Try.ntmps3
      go_wp2_with fail
      refine HG.out.mono ?_
      rintro e w1 ⟨rfl, rfl⟩
      go_wp2_with fail
      refine HC.out.mono ?_
      rintro e w2 ⟨A2, c2, rfl, hr2, hb2⟩
      have HR2 := Lib.hid hr2
      have HB2 := Lib.hid hb2
      clear hr2 hb2 HC HG
      have HB3 : Hid (Below w.heap.size w (w2.alloc (.cells #[.int .i64 0] 25))) := HB2.out.alloc HB2.out.size _
      have HR3 : Hid (RecsAt (w2.alloc (.cells #[.int .i64 0] 25)) A2 m) := HR2.out.below ((Below.refl _ _).alloc (Nat.le_refl _) _)
      clear HB2 HR2
      go_wp2_with fail
      generalize w2.alloc (.cells #[.int .i64 0] 25) = w3 at HB3 HR3 ⊢
      refine (compact_any A2 c2 m w3 hml HMD.out HR3.out).mono ?_
      rintro e w4 ⟨A4, c4, rfl, hr4, hb4⟩
      rw [HM2.out] at hr4 ⊢
      rw [HMK.out]
      have HB4 := Lib.hid (HB3.out.trans (hb4.mono HB3.out.size))
      have HM4 := Lib.hid (HR3.out.below hb4)
      have HR4 := Lib.hid hr4
      clear hr4 hb4 HR3 HB3
      go_wp2_with fail
      refine (effect_any A cA l w4 hl16 (HA.out.below HB4.out) HKL.out).mono ?_
      rw [HEF1.out]
      rintro e w5 ⟨a5, b5, c5, d5, rfl, f1, f2, f3, f4, hb5⟩
      have HB5 := Lib.hid (HB4.out.trans (hb5.mono HB4.out.size))
      have HM5 := Lib.hid (HM4.out.below hb5)
      have HR5 := Lib.hid (HR4.out.below hb5)
      have HP5 := Lib.hid f1
      have HQ5 := Lib.hid f2
      clear f1 f2 f3 f4 hb5 HB4 HM4 HR4
      go_wp2_with fail
      refine (effect_any A2 c2 m w5 hml HM5.out HKM.out).mono ?_
      rw [HEF2.out]
      rintro e w6 ⟨a6, b6, c6, d6, rfl, f1, f2, f3, f4, hb6⟩
      have HB6 := Lib.hid (HB5.out.trans (hb6.mono HB5.out.size))
      have HM6 := Lib.hid (HM5.out.below hb6)
      have HR6 := Lib.hid (HR5.out.below hb6)
      have HP6 := Lib.hid (HP5.out.below hb6)
      have HQ6 := Lib.hid (HQ5.out.below hb6)
      have HU6 := Lib.hid f1
      have HV6 := Lib.hid f2
      clear f1 f2 f3 f4 hb6 HB5 HM5 HR5 HP5 HQ5
      go_wp2_with fail
      refine (contains2_any A2 c2 m w6 HM6.out (by unfold maxLen; omega) HMD.out).mono ?_
      rw [HNO.out]
      rintro e w7 ⟨rfl, hb7⟩
      have HB7 := Lib.hid (HB6.out.trans (hb7.mono HB6.out.size))
      have HM7 := Lib.hid (HM6.out.below hb7)
      have HR7 := Lib.hid (HR6.out.below hb7)
      have HP7 := Lib.hid (HP6.out.below hb7)
      have HQ7 := Lib.hid (HQ6.out.below hb7)
      have HU7 := Lib.hid (HU6.out.below hb7)
      have HV7 := Lib.hid (HV6.out.below hb7)
      clear hb7 HB6 HM6 HR6 HP6 HQ6 HU6 HV6
      go_wp2_with fail
      refine (sameRec_same A4 A2 c4 c2 m w7 HR7.out HM7.out (by unfold maxLen; omega)).mono ?_
      rintro e w8 ⟨rfl, hb8⟩
      have HB8 := Lib.hid (HB7.out.trans (hb8.mono HB7.out.size))
      have HP8 := Lib.hid (HP7.out.below hb8)
      have HQ8 := Lib.hid (HQ7.out.below hb8)
      have HU8 := Lib.hid (HU7.out.below hb8)
      have HV8 := Lib.hid (HV7.out.below hb8)
      clear hb8 HB7 HM7 HR7 HP7 HQ7 HU7 HV7
      go_wp2_with fail
      refine (sameItm_same _ _ c5 c6 E1 w8 HP8.out HU8.out HE16.out.1).mono ?_
      rintro e w9 ⟨rfl, hb9⟩
      have HB9 := Lib.hid (HB8.out.trans (hb9.mono HB8.out.size))
      have HQ9 := Lib.hid (HQ8.out.below hb9)
      have HV9 := Lib.hid (HV8.out.below hb9)
      clear hb9 HB8 HP8 HQ8 HU8 HV8
      go_wp2_with fail
      refine (sameItm_same _ _ d5 d6 E2 w9 HQ9.out HV9.out HE16.out.2).mono ?_
      rintro e wa ⟨rfl, hba⟩
      have HBa := Lib.hid (HB9.out.trans (hba.mono HB9.out.size))
      clear hba HB9 HQ9 HV9
      go_wp2_with fail
      refine (jawake_any _).mono ?_
      rintro e wb ⟨rfl, hbb⟩
      have HBb := Lib.hid (HBa.out.trans (hbb.mono HBa.out.size))
      clear hbb
      go_wp2
      go_ret
      exact ⟨rfl, HBb.out⟩
    · have hqb : (errK l != 0) = true := by rw [bne_iff_ne]; exact hq
      have HCM := Lib.hid (cmpL_bad hq)
      rw [HCM.out] at HC
      have HANY := Lib.hid (errK_any hq)
      clear hq
      generalize errK l = q at HC hqb HANY
      go_enter Try.func3, Try.ntmps3
      go_wp2_with fail
      refine HG.out.mono ?_
      rintro e w1 ⟨rfl, rfl⟩
      go_wp2_with fail
      refine HC.out.mono ?_
      rintro e w2 ⟨A2, c2, rfl, hr2, hb2⟩
      have HB3 : Hid (Below w.heap.size w (w2.alloc (.cells #[.int .i64 q] 25))) := hb2.alloc hb2.size _
      have hce : (w2.alloc (.cells #[.int .i64 q] 25)).cell? ⟨w2.heap.size, 0, none⟩ = some (.int .i64 q) := (Bk.new w2 _ _).cell 0
      have HCE := Lib.hid hce
      clear hr2 hb2 HC HG
      go_wp2_with fail
      refine (contains1_any A cA l w2.heap.size q _ (HA.out.below HB3.out) (by unfold maxLen; omega) HD.out HCE.out).mono ?_
      rw [HANY.out]
      rintro e w7 ⟨rfl, hb7⟩
      have HB7 := Lib.hid (HB3.out.trans (hb7.mono HB3.out.size))
      clear hb7
      go_wp2_with fail
      refine (jawake_any _).mono ?_
      rintro e wb ⟨rfl, hbb⟩
      have HBb := Lib.hid (HB7.out.trans (hbb.mono HB7.out.size))
      clear hbb
      go_wp2
      go_ret
      exact ⟨rfl, HBb.out⟩
end Go.Proofs.Ytlknjdfiedkhbaa
