/- JournalBack, walked: the call answers true. Conditions: the records lie in memory; lengths below the model's greatest. -/
import Derived.Test.YtlknjdfiedkhbaaJoSlice
namespace Go.Proofs.Ytlknjdfiedkhbaa
open Go Go.RowKit
open Jo (RId Itm Rec wi zId zIt rcA rcL ck)
attribute [-simp] Try.isAgg34 Try.sizeOf34 Try.typeInfo34

theorem back_yes {l : List Rec} (h : appE [] l = 0) (k : Nat) : errL l = 0 ∧ appL [] l = catL l ∧ (catL l).length ≤ 65536 ∧ rdJ (catL l) = (l, (catL l).length, 0) ∧ appE [] (l.take k) = 0 ∧ appL [] (l.take k) = catL (l.take k) ∧
    appE (catL (l.take k)) (l.drop k) = 0 ∧ appL (catL (l.take k)) (l.drop k) = catL l ∧ (catL (l.take k)).length ≤ 65536 := by
  obtain ⟨h1, h2, h3⟩ := app_ok h
  rw [List.nil_append] at h2 h3
  obtain ⟨t1, t2⟩ := errL_take h1 k
  have hle := catL_take_le l k
  have a := app_yes (s := []) t1 (by rw [List.nil_append]; omega)
  have b := app_yes (s := catL (l.take k)) t2 (by rw [catL_split]; exact h2)
  rw [List.nil_append] at a
  rw [catL_split] at b
  exact ⟨h1, h3, h2, rdJ_cat h1 h2, a.1, a.2, b.1, b.2, by omega⟩
theorem back_any (s : List UInt8) (h : s.length ≤ 2000) : ∃ m n, rdJ s = (m, n, 0) ∧ n ≤ s.length ∧ appE [] m = 0 ∧ appL [] m = s.take n ∧ m.length ≤ 2000 ∧ ∀ r ∈ m, r.item.data.size ≤ maxLen := by
  obtain ⟨c1, c2, c3, c4⟩ := read_canon s
  refine ⟨_, _, rdJ_small (by omega), c3, ?_⟩
  have a := app_yes (s := []) c1 (by rw [List.nil_append, c2, List.length_take]; omega)
  rw [List.nil_append] at a
  exact ⟨a.1, by rw [a.2, c2], by omega, errL_data c1⟩
theorem emp_list : (⟨#[]⟩ : ByteArray).data.toList = [] := rfl
theorem mod_nat (a : Int) (n : Nat) (_h : 0 ≤ a) : ∃ k : Nat, a % ((n : Int) + 1) = (k : Int) ∧ k ≤ n := by
  have h1 := Int.emod_nonneg a (b := (n : Int) + 1) (by omega)
  have h2 := Int.emod_lt_of_pos a (b := (n : Int) + 1) (by omega)
  exact ⟨(a % ((n : Int) + 1)).toNat, by omega, by omega⟩

set_option maxHeartbeats 4000000 in
set_option maxRecDepth 100000 in
theorem lawBack (A : Option Addr) (cA : Nat) (l : List Rec) (a : Int) (s : ByteArray) (w : World) (hl : l.length ≤ maxLen) (hd : ∀ r ∈ l, r.item.data.size ≤ maxLen) (hA : RecsAt w A l) (hc : l.length ≤ cA) (ha : 0 ≤ a ∧ a ≤ 255) :
    Calls Try.prog 6 #[.slice A l.length cA, .int .u8 a, .string s] w fun e w' => e = .returned (.bool true) ∧ Below w.heap.size w w' := by
  have HG := Lib.hid (great_any A cA l w hA hl hd)
  have HA := Lib.hid hA
  have HD := Lib.hid hd
  clear hA hd hl
  have HGN := Lib.hid (@great_no l)
  generalize greatB l = g at HG HGN
  by_cases hg : g = true ∨ 2000 < s.size
  · clear HGN
    have hgt : g = true ∨ (g = false ∧ (2000 : Int) < (s.size : Int)) := by
      cases g
      · right
        refine ⟨rfl, ?_⟩
        rcases hg with h | h
        · cases h
        · omega
      · left; rfl
    clear hg
    rcases hgt with rfl | ⟨rfl, h300⟩
    all_goals
      go_enter Try.func6, Try.ntmps6
      go_wp2_with fail
      refine HG.out.mono ?_
      rintro e w1 ⟨rfl, rfl⟩
      go_wp2_with fail
      refine (jawake_any _).mono ?_
      rintro e w4 ⟨rfl, hb4⟩
      have HB4 := Lib.hid hb4
      clear hb4
      go_wp2
      go_ret
      exact ⟨rfl, HB4.out⟩
  · have h1 : g = false := by cases g; rfl; exact absurd (Or.inl rfl) hg
    have h2 : s.size ≤ 2000 := by omega
    subst h1
    have h2' : ¬ (2000 : Int) < (s.size : Int) := by omega
    obtain ⟨hl16, _⟩ := HGN.out rfl
    clear hg HGN
    have HSL : Hid (s.data.toList.length ≤ 2000) := by show _ ≤ 2000; simpa using h2
    obtain ⟨ha0, ha1⟩ := ha
    go_enter Try.func6, Try.ntmps6
    go_wp2_with fail
    refine HG.out.mono ?_
    rintro e w1 ⟨rfl, rfl⟩
    go_wp2_with fail
    have HN0 := Lib.hid (fun w h => append_any ⟨#[]⟩ A cA l w (by decide) (Nat.le_trans hl16 (by decide)) HD.out h)
    rw [emp_list] at HN0
    refine (HN0.out _ HA.out).mono ?_
    rintro e w2 ⟨rfl, hb2⟩
    have HB2 := Lib.hid hb2
    clear hb2 HN0 HG
    by_cases hq : appE [] l = 0
    · obtain ⟨k, hk1, hk2⟩ := mod_nat a l.length ha0
      obtain ⟨y1, y2, y3, y4, y5, y6, y7, y8, y9⟩ := back_yes hq k
      obtain ⟨A1, hr1, ha1'⟩ := recs_head A cA l k hk2 hc
      obtain ⟨A2, c2, hr2, ha2'⟩ := recs_tail A cA l k hk2 hc
      have HA1 := Lib.hid ha1'
      have HA2 := Lib.hid ha2'
      have hR := fun w => read_any (str (catL l)) (by rw [str_size]; unfold maxLen; omega) w
      unfold RetRd at hR
      rw [str_list, y4] at hR
      have HR := Lib.hid hR
      have HN1 := Lib.hid (fun w h => append_any ⟨#[]⟩ A1 cA (l.take k) w (by decide) (by rw [List.length_take]; omega) (fun r hr => HD.out r (List.mem_of_mem_take hr)) h)
      rw [emp_list, y5, y6] at HN1
      have HN2 := Lib.hid (fun w h => append_any (str (catL (l.take k))) A2 c2 (l.drop k) w (by rw [str_size]; omega) (by rw [List.length_drop]; omega) (fun r hr => HD.out r (List.mem_of_mem_drop hr)) h)
      rw [str_list, y7, y8] at HN2
      have HZ : Hid (((str (catL l)).size : Int) = ((catL l).length : Int)) := by show _ = _; rw [str_size]
      have HSM := Lib.hid (fun w A3 c3 h1 h2 => sameRec_same A A3 cA c3 l w h1 h2 (by unfold maxLen; omega))
      rw [y2, hq]
      clear y1 y2 y3 y4 y5 y6 y7 y8 y9 hR ha1' ha2' hq
      generalize str (catL (l.take k)) = S1 at HN1 HN2
      generalize l.take k = l1 at HA1 HN1 hr1
      generalize l.drop k = l2 at HA2 HN2 hr2
      generalize str (catL l) = S at HR HN2 HZ ⊢
      generalize (catL l).length = cn at HR HZ
      have hZ := HZ.out
      go_wp2_with fail
      refine (HR.out _).mono ?_
      rintro e w3 ⟨A3, c3, rfl, hr3, hb3⟩
      have HB3 := Lib.hid (HB2.out.trans (hb3.mono HB2.out.size))
      have HR3 := Lib.hid hr3
      clear hb3 hr3 HR
      go_wp2_with fail
      refine (HN1.out _ (HA1.out _ (HA.out.below HB3.out))).mono ?_
      rintro e w4 ⟨rfl, hb4⟩
      have HB4 := Lib.hid (HB3.out.trans (hb4.mono HB3.out.size))
      have HR4 := Lib.hid (HR3.out.below hb4)
      clear hb4 HN1 HR3
      go_wp2_with fail
      refine (HN2.out _ (HA2.out _ (HA.out.below HB4.out))).mono ?_
      rintro e w8 ⟨rfl, hb8⟩
      have HB8 := Lib.hid (HB4.out.trans (hb8.mono HB4.out.size))
      have HR8 := Lib.hid (HR4.out.below hb8)
      clear hb8 HN2 HR4
      go_wp2_with fail
      refine (HSM.out _ _ _ (HA.out.below HB8.out) HR8.out).mono ?_
      rintro e w9 ⟨rfl, hb9⟩
      have HBX := Lib.hid (HB8.out.trans (hb9.mono HB8.out.size))
      clear hb9 HSM hZ hr1 hr2 hk1
      obtain ⟨m, n, hm1, hm2, hm3, hm4, hm5, hm6⟩ := back_any s.data.toList HSL.out
      have hns : n ≤ s.size := by simpa using hm2
      have hss : s.size ≤ maxLen := by unfold maxLen; omega
      have hR := fun w => read_any s hss w
      unfold RetRd at hR
      rw [hm1] at hR
      have HR := Lib.hid hR
      have HN5 := Lib.hid (fun A c w h => append_any ⟨#[]⟩ A c m w (by decide) (by omega) hm6 h)
      rw [emp_list, hm3, hm4, show str (s.data.toList.take n) = s.extract 0 n by rw [ex_str, List.drop_zero, Nat.sub_zero]] at HN5
      clear hm1 hm2 hm3 hm4 hm5 hm6 hss hR
      go_wp2_with fail
      refine (HR.out _).mono ?_
      rintro e w5 ⟨A5, c5, rfl, hr5, hb5⟩
      have HB5 := Lib.hid (HBX.out.trans (hb5.mono HBX.out.size))
      have HR5 := Lib.hid hr5
      clear hr5 hb5 HBX HR
      go_wp2_with fail
      refine (HN5.out _ _ _ HR5.out).mono ?_
      rintro e w6 ⟨rfl, hb6⟩
      have HB6 := Lib.hid (HB5.out.trans (hb6.mono HB5.out.size))
      clear hb6 HN5
      go_wp2_with fail
      refine (jawake_any _).mono ?_
      rintro e w7 ⟨rfl, hb7⟩
      have HB7 := Lib.hid (HB6.out.trans (hb7.mono HB6.out.size))
      clear hb7
      go_wp2
      go_ret
      exact ⟨rfl, HB7.out⟩
    · have hqb : (appE [] l == 0) = false := by rw [beq_eq_false_iff_ne]; exact hq
      have HBX := HB2
      generalize appE [] l = q at hqb hq ⊢
      clear hq
      obtain ⟨m, n, hm1, hm2, hm3, hm4, hm5, hm6⟩ := back_any s.data.toList HSL.out
      have hns : n ≤ s.size := by simpa using hm2
      have hss : s.size ≤ maxLen := by unfold maxLen; omega
      have hR := fun w => read_any s hss w
      unfold RetRd at hR
      rw [hm1] at hR
      have HR := Lib.hid hR
      have HN5 := Lib.hid (fun A c w h => append_any ⟨#[]⟩ A c m w (by decide) (by omega) hm6 h)
      rw [emp_list, hm3, hm4, show str (s.data.toList.take n) = s.extract 0 n by rw [ex_str, List.drop_zero, Nat.sub_zero]] at HN5
      clear hm1 hm2 hm3 hm4 hm5 hm6 hss hR
      go_wp2_with fail
      refine (HR.out _).mono ?_
      rintro e w5 ⟨A5, c5, rfl, hr5, hb5⟩
      have HB5 := Lib.hid (HBX.out.trans (hb5.mono HBX.out.size))
      have HR5 := Lib.hid hr5
      clear hr5 hb5 HBX HR
      go_wp2_with fail
      refine (HN5.out _ _ _ HR5.out).mono ?_
      rintro e w6 ⟨rfl, hb6⟩
      have HB6 := Lib.hid (HB5.out.trans (hb6.mono HB5.out.size))
      clear hb6 HN5
      go_wp2_with fail
      refine (jawake_any _).mono ?_
      rintro e w7 ⟨rfl, hb7⟩
      have HB7 := Lib.hid (HB6.out.trans (hb7.mono HB6.out.size))
      clear hb7
      go_wp2
      go_ret
      exact ⟨rfl, HB7.out⟩
end Go.Proofs.Ytlknjdfiedkhbaa
