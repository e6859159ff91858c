/- The law VarintLong, walked. No condition. -/
import Derived.Test.YtmpcjhfhhphioaaViAwake
import Derived.Test.YtmpcjhfhhphioaaViText
import Derived.Test.YtmpcjhfhhphioaaIntRow
import Derived.Test.YtmpcjhfhhphioaaShelf
namespace Go.Proofs.Ytmpcjhfhhphioaa
open Go Go.RowKit

theorem repeat_one (x : UInt8) : ∀ n, Lib.repeatL [x] n = List.replicate n x
  | 0 => rfl
  | n + 1 => by rw [Lib.repeatL, repeat_one x n]; rfl
theorem rep_any (x : UInt8) (n : Nat) (hn : n ≤ 70000) (w : World) :
    Calls Try.prog 26 #[.string (str [x]), .int .i64 n] w fun e w' => e = .returned (.string (str (List.replicate n x))) ∧ Below w.heap.size w w' := by
  refine (Try.strings_Repeat (str [x]) n w (by omega) (by rw [str_size]; simp; omega)).mono fun e w' ⟨h1, h2⟩ => ⟨?_, h2⟩
  rw [h1, str_list, repeat_one]; rfl

/-- what a list's encoding hands back, for the rows of zeros -/
def ListOf (n : Nat) (B : ByteArray) (eB : Int) : Prop := ∀ (A : Option Addr) (c : Nat) (w : World), IntsAt w A (List.replicate n 0) →
  Calls Try.prog 15 #[.slice A n c] w fun e w' => e = .returned (.tuple #[.string B, .int .i64 eB]) ∧ Below w.heap.size w w'

set_option maxHeartbeats 1000000 in
set_option maxRecDepth 100000 in
theorem long_core (m : Nat) (hm : m < 256) (n : Nat) (hn : (65536 : Int) + (m : Int) = (n : Int)) (S Y T A B : ByteArray) (eA eB : Int) (HS : Hid (S.size = 65536)) (HY : Hid (Y.size = m)) (HT : Hid (S ++ Y = T))
    (h0 : Hid (∀ w, Calls Try.prog 26 #[.string ⟨#[120]⟩, .int .i64 65536] w fun e w' => e = .returned (.string S) ∧ Below w.heap.size w w'))
    (h1 : Hid (∀ w, Calls Try.prog 26 #[.string ⟨#[121]⟩, .int .i64 m] w fun e w' => e = .returned (.string Y) ∧ Below w.heap.size w w'))
    (h2 : Hid (∀ w, Calls Try.prog 13 #[.string T] w fun e w' => e = .returned (.tuple #[.string A, .int .i64 eA]) ∧ Below w.heap.size w w'))
    (h3 : Hid (ListOf n B eB))
    (hres : Hid ((0 < m ∧ A = ⟨#[]⟩ ∧ B = ⟨#[]⟩ ∧ eA = 4 ∧ eB = 4) ∨ (m = 0 ∧ eA = 0 ∧ eB = 0 ∧ ⟨#[136, 128, 0]⟩ ++ S = A ∧ B.size = 65539)))
    (w : World) : Calls Try.prog 9 #[.int .u8 (m : Int)] w fun e w' => e = .returned (.bool true) ∧ Below w.heap.size w w' := by
  obtain ⟨i0, hi, hz0, hz1, hz2⟩ := info_parts infoI
  have HN := Lib.hid hn
  clear hn
  have HB : Hid (Below w.heap.size w w) := Below.refl _ _
  go_enter Try.func9, Try.ntmps9
  go_wp2_with fail
  refine (h0.out _).mono ?_
  rintro e w1 ⟨rfl, hb1⟩
  replace HB := Lib.hid (HB.out.trans (hb1.mono HB.out.size))
  clear hb1
  go_wp2_with fail
  refine (h1.out _).mono ?_
  rintro e w2 ⟨rfl, hb1⟩
  replace HB := Lib.hid (HB.out.trans (hb1.mono HB.out.size))
  clear hb1
  have hsz : S.size + Y.size ≤ 70000 := by have := HS.out; have := HY.out; omega
  have hT := HT.out
  go_wp2_with fail
  refine (h2.out _).mono ?_
  rintro e w3 ⟨rfl, hb1⟩
  replace HB := Lib.hid (HB.out.trans (hb1.mono HB.out.size))
  clear hb1 hT hsz
  go_wp2_with (at_make; refine wpList_make_full _ rfl _ _ 22 rfl w.heap.size 3 i0 (.int .i64 0) 1 Try.underlying22 hi hz0 hz1 .i64 .i64 _ _ n rfl rfl ?c1 ?c2 ?c3 ?c4 ?c5 ?_)
  case c1 => exact HN.out
  case c2 => exact HN.out
  case c3 => rw [hz2]; have := HN.out; omega
  case c4 => have := HN.out; unfold maxLen; omega
  case c5 => exact HB.out.size
  intro w4 hown hg1
  have HI : Hid (IntsAt w4 (some ⟨w3.heap.size, 0, none⟩) (List.replicate n 0)) := by
    have e : intV (List.replicate n 0) = (madeCells #[.int .i64 0] n).toList := by rw [toList_madeCells_one, intV, List.map_replicate]
    rw [← e] at hown
    obtain ⟨A, c, h1, h2⟩ := own_list hown (by simp)
    rw [List.length_replicate] at h1
    cases h1
    exact h2
  replace HB := Lib.hid (HB.out.grown hg1 HB.out.size (fun g e => by cases e))
  clear hown hg1
  go_wp2_with fail
  refine (h3.out _ _ _ HI.out).mono ?_
  rintro e w5 ⟨rfl, hb1⟩
  replace HB := Lib.hid (HB.out.trans (hb1.mono HB.out.size))
  clear hb1 HI
  rcases hres.out with ⟨hm0, rfl, rfl, rfl, rfl⟩ | ⟨rfl, rfl, rfl, hcat, hbs⟩
  · go_wp2_with fail
    refine (awake_any _).mono ?_
    rintro e w6 ⟨rfl, hb1⟩
    replace HB := Lib.hid (HB.out.trans (hb1.mono HB.out.size))
    clear hb1
    go_wp2
    go_ret
    exact ⟨rfl, HB.out⟩
  · have hs3 : (⟨#[136, 128, 0]⟩ : ByteArray).size + S.size ≤ 70000 := by have := HS.out; have : (⟨#[136, 128, 0]⟩ : ByteArray).size = 3 := rfl; omega
    have hbz : (B.size : Int) = 65539 := by omega
    clear hbs
    go_wp2_with fail
    refine (awake_any _).mono ?_
    rintro e w6 ⟨rfl, hb1⟩
    replace HB := Lib.hid (HB.out.trans (hb1.mono HB.out.size))
    clear hb1
    go_wp2
    go_ret
    exact ⟨rfl, HB.out⟩

theorem flat_zeros : ∀ n, ((List.replicate n (0 : Int)).map Vi.intL).flatten.length = n
  | 0 => rfl
  | n + 1 => by
    rw [List.replicate_succ, List.map_cons, List.flatten_cons, List.length_append, flat_zeros n]
    have : (Vi.intL 0).length = 1 := by decide +kernel
    omega
theorem int65536 : Vi.intL 65536 = [136, 128, 0] := by decide +kernel
theorem lawLong (n : Int) (hn : (Lit.int .u8 n).wf = true) (w : World) :
    Calls Try.prog 9 #[.int .u8 n] w fun e w' => e = .returned (.bool true) ∧ Below w.heap.size w w' := by
  have bn := bounds_u8 hn
  obtain ⟨m, rfl⟩ := Int.eq_ofNat_of_zero_le bn.1
  have hm : m < 256 := by omega
  have hS := fun w => rep_any 120 65536 (by omega) w
  have hY := fun w => rep_any 121 m (by omega) w
  have lS : (List.replicate 65536 (120 : UInt8)).length = 65536 := List.length_replicate
  have lY : (List.replicate m (121 : UInt8)).length = m := List.length_replicate
  generalize List.replicate 65536 (120 : UInt8) = s at hS lS
  generalize List.replicate m (121 : UInt8) = y at hY lY
  have hT := fun w => text_any (str (s ++ y)) (by rw [str_size, List.length_append]; unfold maxLen; omega) w
  rw [str_list] at hT
  have hL : ListOf (65536 + m) (str (Vi.listL (List.replicate (65536 + m) 0))) (Vi.listE (List.replicate (65536 + m) 0)) := by
    intro A c w hA
    have := list_any A c (List.replicate (65536 + m) 0) w hA (by rw [List.length_replicate]; unfold maxLen; omega)
    rwa [List.length_replicate] at this
  refine long_core m hm (65536 + m) (by omega) (str s) (str y) (str (s ++ y)) _ _ _ _ (Lib.hid (by rw [str_size, lS])) (Lib.hid (by rw [str_size, lY])) (Lib.hid (str_append s y)) (Lib.hid hS) (Lib.hid hY) (Lib.hid hT) (Lib.hid hL) (Lib.hid ?_) w
  by_cases h0 : m = 0
  · right
    subst h0
    obtain rfl : y = [] := List.eq_nil_of_length_eq_zero lY
    have ha : (List.replicate (65536 + 0) (0 : Int)).all Vi.inR = true := by rw [List.all_eq_true]; intro x hx; rw [List.eq_of_mem_replicate hx]; decide
    have hE : Vi.listE (List.replicate (65536 + 0) 0) = 0 := by unfold Vi.listE; rw [List.length_replicate, if_pos (by omega), if_pos ha]
    refine ⟨rfl, ?_, hE, ?_, ?_⟩
    · unfold Vi.textE; rw [List.append_nil, lS]; rfl
    · unfold Vi.textL
      rw [List.append_nil, lS, if_pos (by omega), ← str_append, show ((65536 : Nat) : Int) = 65536 from rfl, int65536]
      rfl
    · unfold Vi.listL
      rw [hE, if_pos rfl, str_size, List.length_append, flat_zeros, List.length_replicate, show ((65536 + 0 : Nat) : Int) = 65536 from rfl, int65536]
      rfl
  · left
    have hE : Vi.listE (List.replicate (65536 + m) 0) = 4 := by unfold Vi.listE; rw [List.length_replicate, if_neg (by omega)]
    refine ⟨by omega, ?_, ?_, ?_, hE⟩
    · unfold Vi.textL; rw [List.length_append, if_neg (by omega)]; rfl
    · unfold Vi.listL; rw [hE]; rfl
    · unfold Vi.textE; rw [List.length_append, if_neg (by omega)]
end Go.Proofs.Ytmpcjhfhhphioaa
