/- The law VarintRoundTrip, walked. Conditions: the list lies in memory; lengths below the model's greatest. -/
import Derived.Test.YtmpcjhfhhphioaaViLaw3
import Derived.Test.YtmpcjhfhhphioaaRowArg
namespace Go.Proofs.Ytmpcjhfhhphioaa
open Go Go.RowKit

theorem app_list (l : List UInt8) (r : ByteArray) : (str l ++ r).data.toList = l ++ r.data.toList := by rw [str_app, str_list]
theorem app_size (l : List UInt8) (r : ByteArray) : (str l ++ r).size = l.length + r.size := by rw [str_app, str_size, List.length_append]; simp
theorem textL_len {s : ByteArray} (h : s.size ≤ 300) : (Vi.textL s.data.toList).length ≤ 309 := by
  have hl : s.data.toList.length = s.size := by simp
  unfold Vi.textL
  rw [hl, if_pos (by omega), List.length_append, hl]
  have := Vi.intL_len9 s.size
  omega
theorem listL_len {l : List Int} (h : l.length ≤ 300) : (Vi.listL l).length ≤ 2709 := by
  by_cases h2 : l.all Vi.inR = true
  · rw [(list_all (by omega) h2).1]
    have := part_len l l.length
    omega
  · rw [(list_not (by omega) (by simpa using h2)).1]
    simp
theorem back_int (n : Int) (r : ByteArray) (hr : r.size ≤ 300) (h : Vi.inR n = true) (w : World) :
    Calls Try.prog 19 #[.string (str (Vi.intL n) ++ r)] w fun e w' => e = .returned (.tuple #[.int .i64 n, .int .i64 ((Vi.intL n).length : Int), .int .i64 0]) ∧ Below w.heap.size w w' := by
  have h9 := Vi.intL_len9 n
  have := readInt_any (str (Vi.intL n) ++ r) (by rw [app_size]; unfold maxLen; omega) w
  rwa [app_list, rd3_of (Vi.rd_enc n _ h)] at this
theorem back_text (s r : ByteArray) (hs : s.size ≤ 300) (hr : r.size ≤ 300) (w : World) :
    Calls Try.prog 21 #[.string (str (Vi.textL s.data.toList) ++ r)] w fun e w' => e = .returned (.tuple #[.string s, .int .i64 ((Vi.textL s.data.toList).length : Int), .int .i64 0]) ∧ Below w.heap.size w w' := by
  have h9 := textL_len hs
  have hl : s.data.toList.length = s.size := by simp
  refine (readText_any (str (Vi.textL s.data.toList) ++ r) (by rw [app_size]; unfold maxLen; omega) w).mono ?_
  rintro e w' ⟨he, hb⟩
  rw [app_list, Vi.rtext_enc _ _ (by omega)] at he
  exact ⟨he, hb⟩
theorem back_list (l : List Int) (r : ByteArray) (hl : l.length ≤ 300) (hr : r.size ≤ 300) (h : Vi.listE l = 0) (w : World) :
    Calls Try.prog 23 #[.string (str (Vi.listL l) ++ r)] w fun e w' => ∃ A c, e = .returned (.tuple #[.slice A l.length c, .int .i64 ((Vi.listL l).length : Int), .int .i64 0]) ∧ IntsAt w' A l ∧ Below w.heap.size w w' := by
  have h9 := listL_len hl
  refine (readList_any (str (Vi.listL l) ++ r) (by rw [app_size]; unfold maxLen; omega) w).mono ?_
  rintro e w' ⟨A, c, he, hi, hb⟩
  rw [app_list, Vi.rlist_enc _ _ h] at he hi
  exact ⟨A, c, he, hi, hb⟩

set_option maxHeartbeats 8000000 in
set_option maxRecDepth 100000 in
theorem lawRound (n : Int) (s : ByteArray) (A : Option Addr) (c : Nat) (l : List Int) (r : ByteArray) (w : World) (hs : s.size ≤ maxLen) (hA : IntsAt w A l) (hl : l.length ≤ maxLen) (hr : r.size ≤ maxLen) :
    Calls Try.prog 6 #[.int .i64 n, .string s, .slice A l.length c, .string r] w fun e w' => e = .returned (.bool true) ∧ Below w.heap.size w w' := by
  have HI := Lib.hid hA
  clear hA
  have hsm := hs
  have hlm := hl
  unfold maxLen at hs hl hr
  have HB : Hid (Below w.heap.size w w) := Below.refl _ _
  go_enter Try.func6, Try.ntmps6
  by_cases g1 : 300 < s.size
  ·
    go_wp2_with fail
    refine (awake_any _).mono ?_
    rintro e w2 ⟨rfl, hb2⟩
    replace HI := Lib.hid (HI.out.below hb2)
    replace HB := Lib.hid (HB.out.trans (hb2.mono HB.out.size))
    clear hb2
    go_wp2
    go_ret
    exact ⟨rfl, HB.out⟩
  by_cases g2 : 300 < l.length
  ·
    go_wp2_with fail
    refine (awake_any _).mono ?_
    rintro e w3 ⟨rfl, hb3⟩
    replace HI := Lib.hid (HI.out.below hb3)
    replace HB := Lib.hid (HB.out.trans (hb3.mono HB.out.size))
    clear hb3
    go_wp2
    go_ret
    exact ⟨rfl, HB.out⟩
  by_cases g3 : 300 < r.size
  ·
    go_wp2_with fail
    refine (awake_any _).mono ?_
    rintro e w4 ⟨rfl, hb4⟩
    replace HI := Lib.hid (HI.out.below hb4)
    replace HB := Lib.hid (HB.out.trans (hb4.mono HB.out.size))
    clear hb4
    go_wp2
    go_ret
    exact ⟨rfl, HB.out⟩
  have hS := str_size (Vi.intL n)
  have hT := str_size (Vi.textL s.data.toList)
  have hX := str_size (Vi.listL l)
  have k1 := Vi.intL_len9 n
  have k2 := textL_len (s := s) (by omega)
  have k3 := listL_len (l := l) (by omega)
  have HT := Lib.hid (text_any s hsm)
  have HTE : Hid (Vi.textE s.data.toList = 0) := by show _ = _; unfold Vi.textE; rw [if_pos (by simp; omega)]
  rw [HTE.out] at HT
  have HRT := Lib.hid (back_text s r (by omega) (by omega))
  have HN := Lib.hid (int_any n)
  have HRN := Lib.hid (back_int n r (by omega))
  have HL := Lib.hid (fun w (h : IntsAt w A l) => list_any A c l w h hlm)
  have HRL := Lib.hid (back_list l r (by omega) (by omega))
  have hlist : Vi.listE l = 0 ∨ (Vi.listE l = 2 ∧ str (Vi.listL l) = ⟨#[]⟩) := by
    by_cases h2 : l.all Vi.inR = true
    · exact .inl (list_all (by omega) h2).2
    · have := list_not (l := l) (by omega) (by simpa using h2)
      exact .inr ⟨this.2, by rw [this.1]; rfl⟩
  have hint : (Vi.inR n = true ∧ Vi.intE n = 0) ∨ (Vi.intE n = 2 ∧ (n < -1152921504606846976 ∨ 1152921504606846976 < n)) := by
    cases h : Vi.inR n
    · right
      refine ⟨by unfold Vi.intE; rw [h]; rfl, ?_⟩
      have h2 : ¬ Vi.inR n = true := by rw [h]; simp
      rw [Vi.inR_iff] at h2
      unfold Vi.big at h2
      omega
    · exact .inl ⟨rfl, by unfold Vi.intE; rw [h]; rfl⟩
  generalize (Vi.intL n).length = i at hS k1 HRN
  generalize str (Vi.intL n) = S at hS HN HRN
  generalize (Vi.textL s.data.toList).length = t at hT k2 HRT
  generalize str (Vi.textL s.data.toList) = T at hT HT HRT
  generalize (Vi.listL l).length = x at hX k3 HRL
  generalize str (Vi.listL l) = X at hX HL HRL hlist
  generalize Vi.listE l = el at HL HRL hlist
  generalize Vi.intE n = en at HN hint
  generalize Vi.inR n = rn at HRN hint
  clear HTE
  have HLI := Lib.hid hlist
  have HIN := Lib.hid hint
  clear hlist hint
  rcases HIN.out with ⟨hr1, hen⟩ | ⟨hen, hout⟩
  ·
    subst hen
    subst hr1
    go_wp2_with fail
    refine (HN.out _).mono ?_
    rintro e w4 ⟨rfl, hb4⟩
    replace HI := Lib.hid (HI.out.below hb4)
    replace HB := Lib.hid (HB.out.trans (hb4.mono HB.out.size))
    clear hb4
    go_wp2_with fail
    refine (HRN.out (by trivial) _).mono ?_
    rintro e w5 ⟨rfl, hb5⟩
    replace HI := Lib.hid (HI.out.below hb5)
    replace HB := Lib.hid (HB.out.trans (hb5.mono HB.out.size))
    clear hb5
    go_wp2_with fail
    refine (HT.out _).mono ?_
    rintro e w6 ⟨rfl, hb6⟩
    replace HI := Lib.hid (HI.out.below hb6)
    replace HB := Lib.hid (HB.out.trans (hb6.mono HB.out.size))
    clear hb6
    go_wp2_with fail
    refine (HRT.out _).mono ?_
    rintro e w7 ⟨rfl, hb7⟩
    replace HI := Lib.hid (HI.out.below hb7)
    replace HB := Lib.hid (HB.out.trans (hb7.mono HB.out.size))
    clear hb7
    rcases HLI.out with hle | ⟨hle, hxe⟩
    ·
      subst hle
      go_wp2_with fail
      refine (HL.out _ HI.out).mono ?_
      rintro e w8 ⟨rfl, hb8⟩
      replace HI := Lib.hid (HI.out.below hb8)
      replace HB := Lib.hid (HB.out.trans (hb8.mono HB.out.size))
      clear hb8
      go_wp2_with fail
      refine (HRL.out (by trivial) _).mono ?_
      rintro e w9 ⟨A9, c9, rfl, hi9, hb9⟩
      have I9 := Lib.hid hi9
      clear hi9
      replace HI := Lib.hid (HI.out.below hb9)
      replace HB := Lib.hid (HB.out.trans (hb9.mono HB.out.size))
      clear hb9
      go_wp2_with fail
      refine (same_any A9 A c9 c l l _ I9.out HI.out hlm hlm).mono ?_
      rintro e w10 ⟨rfl, hb10⟩
      rw [decide_selfL]
      replace HI := Lib.hid (HI.out.below hb10)
      replace I9 := Lib.hid (I9.out.below hb10)
      replace HB := Lib.hid (HB.out.trans (hb10.mono HB.out.size))
      clear hb10
      go_wp2_with fail
      refine (awake_any _).mono ?_
      rintro e w11 ⟨rfl, hb11⟩
      replace HI := Lib.hid (HI.out.below hb11)
      replace I9 := Lib.hid (I9.out.below hb11)
      replace HB := Lib.hid (HB.out.trans (hb11.mono HB.out.size))
      clear hb11
      go_wp2
      go_ret
      exact ⟨rfl, HB.out⟩
    ·
      subst hle
      subst hxe
      go_wp2_with fail
      refine (HL.out _ HI.out).mono ?_
      rintro e w8 ⟨rfl, hb8⟩
      replace HI := Lib.hid (HI.out.below hb8)
      replace HB := Lib.hid (HB.out.trans (hb8.mono HB.out.size))
      clear hb8
      go_wp2_with fail
      refine (awake_any _).mono ?_
      rintro e w9 ⟨rfl, hb9⟩
      replace HI := Lib.hid (HI.out.below hb9)
      replace HB := Lib.hid (HB.out.trans (hb9.mono HB.out.size))
      clear hb9
      go_wp2
      go_ret
      exact ⟨rfl, HB.out⟩
  ·
    subst hen
    rcases hout with ho | ho
    ·
      go_wp2_with fail
      refine (HN.out _).mono ?_
      rintro e w4 ⟨rfl, hb4⟩
      replace HI := Lib.hid (HI.out.below hb4)
      replace HB := Lib.hid (HB.out.trans (hb4.mono HB.out.size))
      clear hb4
      go_wp2_with fail
      refine (HT.out _).mono ?_
      rintro e w5 ⟨rfl, hb5⟩
      replace HI := Lib.hid (HI.out.below hb5)
      replace HB := Lib.hid (HB.out.trans (hb5.mono HB.out.size))
      clear hb5
      go_wp2_with fail
      refine (HRT.out _).mono ?_
      rintro e w6 ⟨rfl, hb6⟩
      replace HI := Lib.hid (HI.out.below hb6)
      replace HB := Lib.hid (HB.out.trans (hb6.mono HB.out.size))
      clear hb6
      rcases HLI.out with hle | ⟨hle, hxe⟩
      ·
        subst hle
        go_wp2_with fail
        refine (HL.out _ HI.out).mono ?_
        rintro e w7 ⟨rfl, hb7⟩
        replace HI := Lib.hid (HI.out.below hb7)
        replace HB := Lib.hid (HB.out.trans (hb7.mono HB.out.size))
        clear hb7
        go_wp2_with fail
        refine (HRL.out (by trivial) _).mono ?_
        rintro e w8 ⟨A8, c8, rfl, hi8, hb8⟩
        have I8 := Lib.hid hi8
        clear hi8
        replace HI := Lib.hid (HI.out.below hb8)
        replace HB := Lib.hid (HB.out.trans (hb8.mono HB.out.size))
        clear hb8
        go_wp2_with fail
        refine (same_any A8 A c8 c l l _ I8.out HI.out hlm hlm).mono ?_
        rintro e w9 ⟨rfl, hb9⟩
        rw [decide_selfL]
        replace HI := Lib.hid (HI.out.below hb9)
        replace I8 := Lib.hid (I8.out.below hb9)
        replace HB := Lib.hid (HB.out.trans (hb9.mono HB.out.size))
        clear hb9
        go_wp2_with fail
        refine (awake_any _).mono ?_
        rintro e w10 ⟨rfl, hb10⟩
        replace HI := Lib.hid (HI.out.below hb10)
        replace I8 := Lib.hid (I8.out.below hb10)
        replace HB := Lib.hid (HB.out.trans (hb10.mono HB.out.size))
        clear hb10
        go_wp2
        go_ret
        exact ⟨rfl, HB.out⟩
      ·
        subst hle
        subst hxe
        go_wp2_with fail
        refine (HL.out _ HI.out).mono ?_
        rintro e w7 ⟨rfl, hb7⟩
        replace HI := Lib.hid (HI.out.below hb7)
        replace HB := Lib.hid (HB.out.trans (hb7.mono HB.out.size))
        clear hb7
        go_wp2_with fail
        refine (awake_any _).mono ?_
        rintro e w8 ⟨rfl, hb8⟩
        replace HI := Lib.hid (HI.out.below hb8)
        replace HB := Lib.hid (HB.out.trans (hb8.mono HB.out.size))
        clear hb8
        go_wp2
        go_ret
        exact ⟨rfl, HB.out⟩
    ·
      go_wp2_with fail
      refine (HN.out _).mono ?_
      rintro e w4 ⟨rfl, hb4⟩
      replace HI := Lib.hid (HI.out.below hb4)
      replace HB := Lib.hid (HB.out.trans (hb4.mono HB.out.size))
      clear hb4
      go_wp2_with fail
      refine (HT.out _).mono ?_
      rintro e w5 ⟨rfl, hb5⟩
      replace HI := Lib.hid (HI.out.below hb5)
      replace HB := Lib.hid (HB.out.trans (hb5.mono HB.out.size))
      clear hb5
      go_wp2_with fail
      refine (HRT.out _).mono ?_
      rintro e w6 ⟨rfl, hb6⟩
      replace HI := Lib.hid (HI.out.below hb6)
      replace HB := Lib.hid (HB.out.trans (hb6.mono HB.out.size))
      clear hb6
      rcases HLI.out with hle | ⟨hle, hxe⟩
      ·
        subst hle
        go_wp2_with fail
        refine (HL.out _ HI.out).mono ?_
        rintro e w7 ⟨rfl, hb7⟩
        replace HI := Lib.hid (HI.out.below hb7)
        replace HB := Lib.hid (HB.out.trans (hb7.mono HB.out.size))
        clear hb7
        go_wp2_with fail
        refine (HRL.out (by trivial) _).mono ?_
        rintro e w8 ⟨A8, c8, rfl, hi8, hb8⟩
        have I8 := Lib.hid hi8
        clear hi8
        replace HI := Lib.hid (HI.out.below hb8)
        replace HB := Lib.hid (HB.out.trans (hb8.mono HB.out.size))
        clear hb8
        go_wp2_with fail
        refine (same_any A8 A c8 c l l _ I8.out HI.out hlm hlm).mono ?_
        rintro e w9 ⟨rfl, hb9⟩
        rw [decide_selfL]
        replace HI := Lib.hid (HI.out.below hb9)
        replace I8 := Lib.hid (I8.out.below hb9)
        replace HB := Lib.hid (HB.out.trans (hb9.mono HB.out.size))
        clear hb9
        go_wp2_with fail
        refine (awake_any _).mono ?_
        rintro e w10 ⟨rfl, hb10⟩
        replace HI := Lib.hid (HI.out.below hb10)
        replace I8 := Lib.hid (I8.out.below hb10)
        replace HB := Lib.hid (HB.out.trans (hb10.mono HB.out.size))
        clear hb10
        go_wp2
        go_ret
        exact ⟨rfl, HB.out⟩
      ·
        subst hle
        subst hxe
        go_wp2_with fail
        refine (HL.out _ HI.out).mono ?_
        rintro e w7 ⟨rfl, hb7⟩
        replace HI := Lib.hid (HI.out.below hb7)
        replace HB := Lib.hid (HB.out.trans (hb7.mono HB.out.size))
        clear hb7
        go_wp2_with fail
        refine (awake_any _).mono ?_
        rintro e w8 ⟨rfl, hb8⟩
        replace HI := Lib.hid (HI.out.below hb8)
        replace HB := Lib.hid (HB.out.trans (hb8.mono HB.out.size))
        clear hb8
        go_wp2
        go_ret
        exact ⟨rfl, HB.out⟩

/-- The same at the row's own slice. -/
theorem lawRoundW (n : Int) (s : ByteArray) (A : Option Addr) (len cap : Nat) (zs : List Int) (r : ByteArray) (w : World) (_ : (Lit.int .i64 n).wf = true) (hs : s.size ≤ maxLen)
    (h : (A = none ∧ len = 0 ∧ cap = 0 ∧ zs = []) ∨ ∃ x, A = some x ∧ len ≤ cap ∧ cap ≤ maxLen ∧ zs.length = cap ∧ (∀ i, i < zs.length → w.cell? (x.add i) = some (.int .i64 (zs.getD i 0))) ∧ ∀ n ∈ zs, (Lit.int .i64 n).wf = true) (hr : r.size ≤ maxLen) :
    Calls Try.prog 6 #[.int .i64 n, .string s, .slice A len cap, .string r] w fun e w' => e = .returned (.bool true) ∧ Below w.heap.size w w' := by
  obtain ⟨l, rfl, hl, hA, _⟩ := ints_of_row h
  exact lawRound n s A cap l r w hs hA hl hr
end Go.Proofs.Ytmpcjhfhhphioaa
