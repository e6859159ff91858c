/- The sizes of the journals of the beginnings of a list of records, walked. Conditions: at most 16 records that lie in memory; lengths below the model's greatest. -/
import Derived.Test.YtlknjdfiedkhbaaJoCutP
namespace Go.Proofs.Ytlknjdfiedkhbaa
open Go Go.RowKit
open Jo (RId Itm Rec rcA rcL)
attribute [-simp] Try.isAgg34 Try.sizeOf34 Try.typeInfo34

theorem emp_list : (⟨#[]⟩ : ByteArray).data.toList = [] := rfl
/-- what 'sizes' answers -/
def SizesPost (w : World) (l : List Rec) (e : Ending) (w' : World) : Prop :=
  Below w.heap.size w w' ∧ ((appE [] l = 0 ∧ ∃ A c, e = .returned (.tuple #[.slice A (szL l (l.length + 1)).length c, .bool true]) ∧ IntsAt w' A (szL l (l.length + 1))) ∨ (appE [] l ≠ 0 ∧ e = .returned (.tuple #[.slice none 0 0, .bool false])))
theorem app_part {l : List Rec} {k : Nat} (h : appE [] (l.take k) ≠ 0) : appE [] l ≠ 0 := fun h0 => by
  obtain ⟨h1, h2, _⟩ := app_ok h0
  rw [List.nil_append] at h2
  exact h (app_yes (s := []) (errL_take h1 k).1 (by rw [List.nil_append]; have := catL_take_le l k; omega)).1
/-- what the loop keeps -/
def SzInv (l : List Rec) (w wr : World) (v : Value) (k : Nat) : Prop :=
  Below w.heap.size w wr ∧ wr.ownsRow w.heap.size 3 1 v k (intV (szL l k)) ∧ (∀ j, j < k → appE [] (l.take j) = 0)

set_option maxHeartbeats 4000000 in
set_option maxRecDepth 100000 in
theorem sizes_any (A : Option Addr) (cA : Nat) (l : List Rec) (w : World) (hl : l.length ≤ 16) (hd : ∀ r ∈ l, r.item.data.size ≤ maxLen) (hA : RecsAt w A l) (hc : l.length ≤ cA) :
    Calls Try.prog 27 #[.slice A l.length cA] w (SizesPost w l) := by
  have HA := Lib.hid hA
  have HD := Lib.hid hd
  clear hA hd
  obtain ⟨i0, hi0, hz0, hz1, hz2⟩ := info_parts infoI
  have HI := Lib.hid (And.intro hi0 (And.intro hz0 (And.intro hz1 hz2)))
  clear hi0 hz0 hz1 hz2
  have HI0 : Hid (SzInv l w w (.slice none 0 0) 0) := ⟨Below.refl _ _, ⟨rfl, .inl ⟨rfl, rfl⟩⟩, fun j hj => absurd hj (Nat.not_lt_zero j)⟩
  go_enter Try.func27, Try.ntmps27
  go_wp2
  go_loopw [4, 5, 6, 7, 11] (fun v _ _ _ i wr => ∃ k : Nat, k ≤ l.length + 1 ∧ i = .int .i64 k ∧ SzInv l w wr v k) (fun _ _ _ _ i _ => l.length + 1 - (intOf i).toNat)
  case atStart => exact ⟨0, Nat.zero_le _, rfl, HI0.out⟩
  case round =>
    clear HI0
    obtain ⟨k, hk, rfl, hinv⟩ := hrel
    have HX := Lib.hid hinv
    clear hinv
    by_cases hlt : k < l.length + 1
    · obtain ⟨A1, hr1, ha1⟩ := recs_head A cA l k (by omega) hc
      have HA1 := Lib.hid ha1
      have HN1 := Lib.hid (fun w h => append_any ⟨#[]⟩ A1 cA (l.take k) w (by decide) (by rw [List.length_take]; omega) (fun r hr => HD.out r (List.mem_of_mem_take hr)) h)
      rw [emp_list] at HN1
      have HQ : Hid (appE [] (l.take k) = 0 → appL [] (l.take k) = catL (l.take k)) := fun h => by have := (app_ok h).2.2; simpa using this
      have HQ2 : Hid (appE [] (l.take k) ≠ 0 → appE [] l ≠ 0) := app_part
      have HSZ : Hid (sz l k = (catL (l.take k)).length) := rfl
      have HT : Hid (∀ q, appE [] (l.take k) = q → q = 0 → ∀ j, j < k + 1 → appE [] (l.take j) = 0) := fun q h1 h2 j hj => by
        by_cases c : j < k
        · exact HX.out.2.2 j c
        · obtain rfl : j = k := by omega
          rw [h1, h2]
      generalize hq : appE [] (l.take k) = q at HN1 HQ HQ2 HT
      have HTT := Lib.hid (HT.out q rfl)
      clear hq HT ha1
      generalize appL [] (l.take k) = y at HN1 HQ
      generalize l.take k = l1 at HN1 HQ HA1 hr1 HSZ
      generalize catL l1 = cl at HQ HSZ
      go_wp2_with fail
      refine (HN1.out _ (HA1.out _ (HA.out.below HX.out.1))).mono ?_
      rintro e w1 ⟨rfl, hb1⟩
      have HX1 : Hid (SzInv l w w1 u4 k) := ⟨HX.out.1.trans (hb1.mono HX.out.1.size), HX.out.2.1.kept (grown_below hb1 none) (by
        cases hv : u4.ownBlock with
        | none => exact Or.inl rfl
        | some g => exact Or.inr (by simp)), HX.out.2.2⟩
      clear hb1 HX HN1 HA1
      by_cases hq : q = 0
      · subst hq
        have HY := Lib.hid (HQ.out rfl)
        have HTZ := Lib.hid (HTT.out rfl)
        clear HQ HQ2 HTT
        have hys : ((str y).size : Int) = (sz l k : Int) := by rw [str_size, HY.out, HSZ.out]
        obtain ⟨hi0, hz0, hz1, hz2⟩ := HI.out
        go_wp2_with (at_builtin; refine wpList_append_own _ rfl _ _ 50 rfl w.heap.size 3 i0 (.int .i64 0) 1 8 Try.underlying50 hi0 hz0 hz1 hz2 rfl (by decide) _ k (intV (szL l k)) rfl (HX1.out.2.1.alloc _) ⟨w1.heap.size, 0, none⟩ 1 1 [.int .i64 (sz l k : Int)] rfl rfl ?c1 ?c2 ?c3 ?c4 ?c5 ?_)
        case c1 => exact cell_one_new _ _ _
        case c2 => simp [Value.oneCell']
        case c3 => unfold maxLen; omega
        case c4 => omega
        case c5 => have := HX1.out.1.size; simp; omega
        intro v' w3 hown' hg3 _
        rw [← intV_snoc, ← szL_succ] at hown'
        have HX3 : Hid (SzInv l w w3 v' (k + 1)) := ⟨(HX1.out.1.alloc HX1.out.1.size _).grown hg3 (by have := HX1.out.1.size; simp; omega) (fun j hj => (HX1.out.2.1.lt j hj).1), hown', HTZ.out⟩
        clear hown' hg3 HX1
        go_wp2
        go_roundw
        case rel => exact ⟨k + 1, by omega, by go_num, HX3.out⟩
        case measure => simp [intOf]; omega
      · have hqb : (q != 0) = true := by rw [bne_iff_ne]; exact hq
        have HE := Lib.hid (HQ2.out hq)
        clear hq HQ HQ2 HTT
        go_wp2
        go_ret2
        exact ⟨HX1.out.1, .inr ⟨HE.out, rfl⟩⟩
    · have HK : Hid (k = l.length + 1) := by show _ = _; omega
      have HR : Hid (∃ A c, u4 = .slice A (szL l (l.length + 1)).length c ∧ IntsAt wr A (szL l (l.length + 1))) := by
        have h := HX.out.2.1
        rw [HK.out] at h
        exact own_list h (szL_len l _)
      have HE : Hid (appE [] l = 0) := by
        have h := HX.out.2.2 l.length (by rw [HK.out]; omega)
        rwa [List.take_length] at h
      obtain ⟨A9, c9, rfl, h9⟩ := HR.out
      have H9 := Lib.hid h9
      clear h9
      go_wp2
      go_ret2
      exact ⟨HX.out.1, .inl ⟨HE.out, _, _, rfl, H9.out⟩⟩
end Go.Proofs.Ytlknjdfiedkhbaa
