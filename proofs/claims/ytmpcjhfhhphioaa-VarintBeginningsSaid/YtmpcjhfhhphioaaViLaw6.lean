/- The law VarintBeginnings, walked. Conditions: the list lies in memory; lengths below the model's greatest; a number that fits its kind. -/
import Derived.Test.YtmpcjhfhhphioaaViLaw4
namespace Go.Proofs.Ytmpcjhfhhphioaa
open Go Go.RowKit

theorem cut_list (l : List UInt8) (p : Nat) : ((str l).extract 0 p).data.toList = l.take p := by rw [extract_list, List.drop_zero, Nat.sub_zero, str_list]
theorem cut_size (l : List UInt8) (p : Nat) : ((str l).extract 0 p).size ≤ l.length := by
  have h : ((str l).extract 0 p).data.toList.length = ((str l).extract 0 p).size := by simp
  rw [← h, cut_list, List.length_take]
  omega
theorem beg_int (n : Int) (h : Vi.inR n = true) (p : Nat) (hp : p < (Vi.intL n).length) (w : World) :
    Calls Try.prog 19 #[.string ((str (Vi.intL n)).extract 0 p)] w fun e w' => e = .returned (.tuple #[.int .i64 0, .int .i64 0, .int .i64 12]) ∧ Below w.heap.size w w' := by
  have h9 := Vi.intL_len9 n
  have := readInt_any ((str (Vi.intL n)).extract 0 p) (by have := cut_size (Vi.intL n) p; unfold maxLen; omega) w
  rwa [cut_list, rd3_of (Vi.rd_short n h p hp)] at this
theorem beg_text (s : ByteArray) (hs : s.size ≤ 300) (p : Nat) (hp : p < (Vi.textL s.data.toList).length) (w : World) :
    Calls Try.prog 21 #[.string ((str (Vi.textL s.data.toList)).extract 0 p)] w fun e w' => e = .returned (.tuple #[.string ⟨#[]⟩, .int .i64 0, .int .i64 12]) ∧ Below w.heap.size w w' := by
  have h9 := textL_len hs
  have hl : s.data.toList.length = s.size := by simp
  refine (readText_any ((str (Vi.textL s.data.toList)).extract 0 p) (by have := cut_size (Vi.textL s.data.toList) p; unfold maxLen; omega) w).mono ?_
  rintro e w' ⟨he, hb⟩
  rw [cut_list, Vi.rtext_short _ (by omega) p hp] at he
  exact ⟨he, hb⟩
theorem beg_list (l : List Int) (hl : l.length ≤ 300) (h : Vi.listE l = 0) (p : Nat) (hp : p < (Vi.listL l).length) (w : World) :
    Calls Try.prog 23 #[.string ((str (Vi.listL l)).extract 0 p)] w fun e w' => ∃ A c, e = .returned (.tuple #[.slice A 0 c, .int .i64 0, .int .i64 12]) ∧ Below w.heap.size w w' := by
  have h9 := listL_len hl
  refine (readList_any ((str (Vi.listL l)).extract 0 p) (by have := cut_size (Vi.listL l) p; unfold maxLen; omega) w).mono ?_
  rintro e w' ⟨A, c, he, _, hb⟩
  rw [cut_list, Vi.rlist_short l h p hp] at he
  exact ⟨A, c, he, hb⟩
theorem intL_pos (n : Int) (h : Vi.inR n = true) : 1 ≤ (Vi.intL n).length := (Vi.rd_canon (Vi.rd_enc n [] h)).2.1
theorem textL_pos {s : ByteArray} (h : s.size ≤ 300) : 1 ≤ (Vi.textL s.data.toList).length := (Vi.rtext_canon (Vi.rtext_enc s.data.toList [] (by simp; omega))).2.1
theorem listL_pos (l : List Int) (h : Vi.listE l = 0) : 1 ≤ (Vi.listL l).length := (Vi.rlist_canon (Vi.rlist_enc l [] h)).2.1

set_option maxHeartbeats 8000000 in
set_option maxRecDepth 100000 in
theorem lawBegin (n : Int) (s : ByteArray) (A : Option Addr) (c : Nat) (l : List Int) (a : Nat) (ha : a < 65536) (w : World) (hs : s.size ≤ maxLen) (hA : IntsAt w A l) (hl : l.length ≤ maxLen) :
    Calls Try.prog 8 #[.int .i64 n, .string s, .slice A l.length c, .int .u16 (a : Int)] w fun e w' => e = .returned (.bool true) ∧ Below w.heap.size w w' := by
  have HI := Lib.hid hA
  clear hA
  have hsm := hs
  have hlm := hl
  unfold maxLen at hs hl
  have HB : Hid (Below w.heap.size w w) := Below.refl _ _
  go_enter Try.func8, Try.ntmps8
  by_cases g1 : 300 < s.size
  ·
    go_wp2_with fail
    refine (awake_any _).mono ?_
    rintro e w2 ⟨rfl, hb2⟩
    replace HI := Lib.hid (HI.out.below hb2)
    replace HB := Lib.hid (HB.out.trans (hb2.mono HB.out.size))
    clear hb2
    go_wp2
    go_ret
    exact ⟨rfl, HB.out⟩
  by_cases g2 : 300 < l.length
  ·
    go_wp2_with fail
    refine (awake_any _).mono ?_
    rintro e w3 ⟨rfl, hb3⟩
    replace HI := Lib.hid (HI.out.below hb3)
    replace HB := Lib.hid (HB.out.trans (hb3.mono HB.out.size))
    clear hb3
    go_wp2
    go_ret
    exact ⟨rfl, HB.out⟩
  have hS := str_size (Vi.intL n)
  have hT := str_size (Vi.textL s.data.toList)
  have hX := str_size (Vi.listL l)
  have k1 := Vi.intL_len9 n
  have k2 := textL_len (s := s) (by omega)
  have k3 := listL_len (l := l) (by omega)
  have t1 := textL_pos (s := s) (by omega)
  have HT := Lib.hid (text_any s hsm)
  have HTE : Hid (Vi.textE s.data.toList = 0) := by show _ = _; unfold Vi.textE; rw [if_pos (by simp; omega)]
  rw [HTE.out] at HT
  have HN := Lib.hid (int_any n)
  have HL := Lib.hid (fun w (h : IntsAt w A l) => list_any A c l w h hlm)
  have hbt := beg_text s (by omega)
  have hbn := beg_int n
  have hbl := beg_list l (by omega)
  have hip := intL_pos n
  have hlp := listL_pos l
  have hlist : Vi.listE l = 0 ∨ Vi.listE l = 2 := by
    by_cases h2 : l.all Vi.inR = true
    · exact .inl (list_all (by omega) h2).2
    · exact .inr (list_not (l := l) (by omega) (by simpa using h2)).2
  have hint : (Vi.inR n = true ∧ Vi.intE n = 0) ∨ Vi.intE n = 2 := by
    cases h : Vi.inR n
    · exact .inr (by unfold Vi.intE; rw [h]; rfl)
    · exact .inl ⟨rfl, by unfold Vi.intE; rw [h]; rfl⟩
  generalize (Vi.intL n).length = i at hS k1 hbn hip
  generalize str (Vi.intL n) = S at hS HN hbn
  generalize (Vi.textL s.data.toList).length = t at hT k2 hbt t1
  generalize str (Vi.textL s.data.toList) = T at hT HT hbt
  generalize (Vi.listL l).length = x at hX k3 hbl hlp
  generalize str (Vi.listL l) = X at hX HL hbl
  generalize Vi.listE l = el at HL hbl hlist hlp
  generalize Vi.intE n = en at HN hint
  generalize Vi.inR n = rn at hbn hip hint
  clear HTE
  have HBT := Lib.hid hbt
  have HBN := Lib.hid hbn
  have HBL := Lib.hid hbl
  have HIP := Lib.hid hip
  have HLP := Lib.hid hlp
  have HLI := Lib.hid hlist
  have HIN := Lib.hid hint
  clear hlist hint hbt hbn hbl hip hlp
  have tb : ((t : Int) == 0) = false := by rw [beq_eq_false_iff_ne]; omega
  have tm : (a : Int) % (t : Int) = ((a % t : Nat) : Int) := by rw [Int.natCast_emod]
  have tm2 : (a : Int).tmod (t : Int) = ((a % t : Nat) : Int) := rfl
  have tl : a % t < t := Nat.mod_lt _ (by omega)
  generalize a % t = pt at tm tm2 tl
  go_wp2_with fail
  refine (HN.out _).mono ?_
  rintro e w3 ⟨rfl, hb3⟩
  replace HI := Lib.hid (HI.out.below hb3)
  replace HB := Lib.hid (HB.out.trans (hb3.mono HB.out.size))
  clear hb3
  go_wp2_with fail
  refine (HT.out _).mono ?_
  rintro e w4 ⟨rfl, hb4⟩
  replace HI := Lib.hid (HI.out.below hb4)
  replace HB := Lib.hid (HB.out.trans (hb4.mono HB.out.size))
  clear hb4
  go_wp2_with fail
  refine (HL.out _ HI.out).mono ?_
  rintro e w5 ⟨rfl, hb5⟩
  replace HI := Lib.hid (HI.out.below hb5)
  replace HB := Lib.hid (HB.out.trans (hb5.mono HB.out.size))
  clear hb5
  go_wp2_with fail
  refine (HBT.out pt tl _).mono ?_
  rintro e w6 ⟨rfl, hb6⟩
  replace HI := Lib.hid (HI.out.below hb6)
  replace HB := Lib.hid (HB.out.trans (hb6.mono HB.out.size))
  clear hb6
  rcases HIN.out with ⟨hr1, hen⟩ | hen
  ·
    subst hen
    subst hr1
    have ip := HIP.out (by trivial)
    have tbi : ((i : Int) == 0) = false := by rw [beq_eq_false_iff_ne]; omega
    have tmi : (a : Int) % (i : Int) = ((a % i : Nat) : Int) := by rw [Int.natCast_emod]
    have tni : (a : Int).tmod (i : Int) = ((a % i : Nat) : Int) := rfl
    have tli : a % i < i := Nat.mod_lt _ (by omega)
    generalize a % i = pi at tmi tni tli
    go_wp2_with fail
    refine (HBN.out (by trivial) pi tli _).mono ?_
    rintro e w7 ⟨rfl, hb7⟩
    replace HI := Lib.hid (HI.out.below hb7)
    replace HB := Lib.hid (HB.out.trans (hb7.mono HB.out.size))
    clear hb7
    rcases HLI.out with hle | hle
    ·
      subst hle
      have lp := HLP.out (by trivial)
      have tbx : ((x : Int) == 0) = false := by rw [beq_eq_false_iff_ne]; omega
      have tmx : (a : Int) % (x : Int) = ((a % x : Nat) : Int) := by rw [Int.natCast_emod]
      have tnx : (a : Int).tmod (x : Int) = ((a % x : Nat) : Int) := rfl
      have tlx : a % x < x := Nat.mod_lt _ (by omega)
      generalize a % x = px at tmx tnx tlx
      go_wp2_with fail
      refine (HBL.out (by trivial) px tlx _).mono ?_
      rintro e w8 ⟨A8, c8, rfl, hb8⟩
      replace HB := Lib.hid (HB.out.trans (hb8.mono HB.out.size))
      clear hb8
      go_wp2_with fail
      refine (awake_any _).mono ?_
      rintro e w9 ⟨rfl, hb9⟩
      replace HB := Lib.hid (HB.out.trans (hb9.mono HB.out.size))
      clear hb9
      go_wp2
      go_ret
      exact ⟨rfl, HB.out⟩
    ·
      subst hle
      go_wp2_with fail
      refine (awake_any _).mono ?_
      rintro e w8 ⟨rfl, hb8⟩
      replace HI := Lib.hid (HI.out.below hb8)
      replace HB := Lib.hid (HB.out.trans (hb8.mono HB.out.size))
      clear hb8
      go_wp2
      go_ret
      exact ⟨rfl, HB.out⟩
  ·
    subst hen
    rcases HLI.out with hle | hle
    ·
      subst hle
      have lp := HLP.out (by trivial)
      have tbx : ((x : Int) == 0) = false := by rw [beq_eq_false_iff_ne]; omega
      have tmx : (a : Int) % (x : Int) = ((a % x : Nat) : Int) := by rw [Int.natCast_emod]
      have tnx : (a : Int).tmod (x : Int) = ((a % x : Nat) : Int) := rfl
      have tlx : a % x < x := Nat.mod_lt _ (by omega)
      generalize a % x = px at tmx tnx tlx
      go_wp2_with fail
      refine (HBL.out (by trivial) px tlx _).mono ?_
      rintro e w7 ⟨A7, c7, rfl, hb7⟩
      replace HB := Lib.hid (HB.out.trans (hb7.mono HB.out.size))
      clear hb7
      go_wp2_with fail
      refine (awake_any _).mono ?_
      rintro e w8 ⟨rfl, hb8⟩
      replace HB := Lib.hid (HB.out.trans (hb8.mono HB.out.size))
      clear hb8
      go_wp2
      go_ret
      exact ⟨rfl, HB.out⟩
    ·
      subst hle
      go_wp2_with fail
      refine (awake_any _).mono ?_
      rintro e w7 ⟨rfl, hb7⟩
      replace HI := Lib.hid (HI.out.below hb7)
      replace HB := Lib.hid (HB.out.trans (hb7.mono HB.out.size))
      clear hb7
      go_wp2
      go_ret
      exact ⟨rfl, HB.out⟩

/-- The same at the row's own slice and number. -/
theorem lawBeginW (n : Int) (s : ByteArray) (A : Option Addr) (len cap : Nat) (zs : List Int) (a : Int) (w : World) (_ : (Lit.int .i64 n).wf = true) (hs : s.size ≤ maxLen)
    (h : (A = none ∧ len = 0 ∧ cap = 0 ∧ zs = []) ∨ ∃ x, A = some x ∧ len ≤ cap ∧ cap ≤ maxLen ∧ zs.length = cap ∧ (∀ i, i < zs.length → w.cell? (x.add i) = some (.int .i64 (zs.getD i 0))) ∧ ∀ n ∈ zs, (Lit.int .i64 n).wf = true) (ha : (Lit.int .u16 a).wf = true) :
    Calls Try.prog 8 #[.int .i64 n, .string s, .slice A len cap, .int .u16 a] w fun e w' => e = .returned (.bool true) ∧ Below w.heap.size w w' := by
  obtain ⟨l, rfl, hl, hA, _⟩ := ints_of_row h
  have hb := bounds_u16 ha
  obtain ⟨a, rfl⟩ := Int.eq_ofNat_of_zero_le hb.1
  exact lawBegin n s A cap l a (by omega) w hs hA hl
end Go.Proofs.Ytmpcjhfhhphioaa
