/- The reference's ints and idOf, walked. Conditions: at most 100 numbers; a length below the model's greatest. -/
import Derived.Test.YtlknjdfiedkhbaaJoRead
import Derived.Deep.RegionHeld3
namespace Go.Proofs.Ytlknjdfiedkhbaa
open Go Go.RowKit
open Jo (RId Itm Rec idA idL)

/-- what ints answers -/
def IntsPost (w : World) (n : Nat) (l : List UInt8) (e : Ending) (w' : World) : Prop :=
  ∃ A c, e = .returned (.tuple #[.slice A (rdN n l).1.length c, .string (str (if (rdN n l).2.2 then [] else (rdN n l).2.1)), .bool (!(rdN n l).2.2)]) ∧ IntsAt w' A (rdN n l).1 ∧ ((rdN n l).1.length ≤ c ∧ ∀ a, A = some a → w.heap.size ≤ a.block) ∧ Below w.heap.size w w'
theorem intsPost_of {w w' : World} {n : Nat} {l r : List UInt8} {ns : List Int} {b : Bool} (h : rdN n l = (ns, r, b)) {A : Option Addr} {c m : Nat} {s : ByteArray} {ok : Bool} (hm : m = ns.length) (hs : s = str (if b then [] else r)) (ho : ok = !b) (hA : IntsAt w' A ns) (hc : ns.length ≤ c ∧ ∀ a, A = some a → w.heap.size ≤ a.block) (hb : Below w.heap.size w w') :
    IntsPost w n l (.returned (.tuple #[.slice A m c, .string s, .bool ok])) w' := by
  unfold IntsPost
  rw [h, hm, hs, ho]
  exact ⟨A, c, rfl, hA, hc, hb⟩
theorem own_form2 {w : World} {base n : Nat} {v : Value} {l : List Int} (h : w.ownsRow base 3 1 v n (intV l)) (hl : l.length = n) : ∃ A c, v = .slice A l.length c ∧ IntsAt w A l ∧ (l.length ≤ c ∧ ∀ a, A = some a → base ≤ a.block) := by
  obtain ⟨A, c, h1, h2⟩ := own_list h hl
  refine ⟨A, c, h1, h2, ?_⟩
  rcases h.2 with ⟨e, h0⟩ | ⟨g, cap, cur, e, hb, _, hn, _⟩
  · rw [h1] at e
    simp only [Value.slice.injEq] at e
    exact ⟨by omega, fun a ha => by rw [e.1] at ha; exact absurd ha (by simp)⟩
  · rw [h1] at e
    simp only [Value.slice.injEq] at e
    exact ⟨by omega, fun a ha => by rw [e.1] at ha; cases ha; exact hb⟩
theorem ints0 (w : World) : (w.alloc (.cells #[] 3)).ownsRow w.heap.size 3 1 (.slice (some ⟨w.heap.size, 0, none⟩) 0 0) 0 (intV []) :=
  ⟨rfl, .inr ⟨w.heap.size, 0, #[], rfl, Nat.le_refl _, heap_alloc_new w _, Nat.le_refl _, by unfold maxLen; omega, rfl, rfl⟩⟩

set_option maxHeartbeats 4000000 in
set_option maxRecDepth 100000 in
theorem ints_any (s : ByteArray) (n : Nat) (hn : n ≤ 100) (hs : s.size ≤ maxLen) (w : World) :
    Calls Try.prog 62 #[.string s, .int .i64 (n : Int)] w (IntsPost w n s.data.toList) := by
  obtain ⟨i0, hi0, hz0, hz1, hz2⟩ := info_parts infoI
  have HI := Lib.hid (And.intro hi0 (And.intro hz0 (And.intro hz1 hz2)))
  have HS := Lib.hid hs
  clear hi0 hz0 hz1 hz2 hs
  have HO0 : Hid ((w.alloc (.cells #[] 3)).ownsRow w.heap.size 3 1 (.slice (some ⟨w.heap.size, 0, none⟩) 0 0) 0 (intV [])) := ints0 w
  have HB0 : Hid (Below w.heap.size w (w.alloc (.cells #[] 3))) := (Below.refl _ _).alloc (Nat.le_refl _) _
  go_enter Try.func62, Try.ntmps62
  go_wp2
  go_loopw [0, 7, 8, 9, 10, 11] (fun o v i _ _ _ wr => ∃ (k : Nat) (ns : List Int) (r : List UInt8), k ≤ n ∧ i = .int .i64 k ∧ o = .string (str r) ∧ ns.length = k ∧ r.length ≤ s.data.toList.length ∧ rdN k s.data.toList = (ns, r, false) ∧ wr.ownsRow w.heap.size 3 1 v k (intV ns) ∧ Below w.heap.size w wr) (fun _ _ i _ _ _ _ => n - (intOf i).toNat)
  case atStart => exact ⟨0, [], s.data.toList, Nat.zero_le _, rfl, rfl, rfl, Nat.le_refl _, rfl, HO0.out, HB0.out⟩
  case round =>
    clear HO0 HB0
    obtain ⟨k, ns, r, hk, rfl, rfl, hns, hrl, hrd, hown, hbw⟩ := hrel
    have HNS := Lib.hid hns
    have HRL := Lib.hid hrl
    have HRD := Lib.hid hrd
    have HO := Lib.hid hown
    have HB := Lib.hid hbw
    clear hns hrl hrd hown hbw
    by_cases hlt : k < n
    · have hsz : (str r).size ≤ maxLen := by rw [str_size]; have h1 := HRL.out; have h2 := HS.out; simp at h1; omega
      obtain ⟨x, j, er, hrr⟩ : ∃ n j e, Vi.rd r = (n, j, e) := ⟨_, _, _, rfl⟩
      have HC := Lib.hid (fun w => readIntR_any (str r) hsz w)
      have h3 := rd3_of (l := (str r).data.toList) hrr
      rw [h3] at HC
      have HRR := Lib.hid hrr
      have hjle : er = 0 → j ≤ (str r).size := fun e => by subst e; have := (Vi.rd_canon HRR.out).2.2.1; rw [str_size]; exact this
      have HJL := Lib.hid hjle
      have HSZ := Lib.hid hsz
      clear hrr h3 hjle hsz
      go_wp2_with fail
      refine (HC.out _).mono ?_
      rintro e w1 ⟨rfl, rfl⟩
      clear HC
      by_cases he : er = 0
      · subst he
        have hj := HJL.out rfl
        have HS2 : Hid (rdN (k + 1) s.data.toList = (ns ++ [x], r.drop j, false)) := rdN_next HRD.out HRR.out
        have hsl : (str r).extract j (str r).size = str (r.drop j) := by
          have := ex_str (str r) j (str r).size
          rw [this, str_list, List.take_of_length_le (by rw [List.length_drop, str_size]; exact Nat.le_refl _)]
        have HSL := Lib.hid hsl
        have hsz2 : (str r).size ≤ 9223372036854775807 := by have := HSZ.out; unfold maxLen at this; exact this
        obtain ⟨hi0, hz0, hz1, hz2⟩ := HI.out
        clear hsl
        go_wp2_with (at_builtin; refine wpList_append_own _ rfl _ _ 50 rfl w.heap.size 3 i0 (.int .i64 0) 1 8 Try.underlying50 hi0 hz0 hz1 hz2 rfl (by decide) _ k (intV ns) rfl (HO.out.alloc _) ⟨wr.heap.size, 0, none⟩ 1 1 [.int .i64 x] rfl rfl ?c1 ?c2 ?c3 ?c4 ?c5 ?_)
        case c1 => exact cell_one_new _ _ _
        case c2 => simp [Value.oneCell']
        case c3 => unfold maxLen; omega
        case c4 => omega
        case c5 => have := HB.out.size; simp; omega
        intro v' w3 hown' hg3 _
        rw [← intV_snoc] at hown'
        have HO3 := Lib.hid hown'
        have HB3 : Hid (Below w.heap.size w w3) := (HB.out.alloc HB.out.size _).grown hg3 (by have := HB.out.size; simp; omega) (fun j hj => (HO.out.lt j hj).1)
        clear hown' hg3
        go_wp2
        rw [HSL.out]
        go_roundw
        case rel => exact ⟨k + 1, ns ++ [x], r.drop j, by omega, by go_num, rfl, by simp [HNS.out], by rw [List.length_drop]; have := HRL.out; omega, HS2.out, HO3.out, HB3.out⟩
        case measure => simp [intOf]; omega
      · have HE := Lib.hid (rdN_stop HRD.out HRR.out he hlt)
        have heb : (er != 0) = true := by rw [bne_iff_ne]; exact he
        obtain ⟨A9, c9, rfl, h9, hc9⟩ := own_form2 HO.out HNS.out
        have H9 := Lib.hid h9
        clear he h9
        go_wp2
        go_ret3
        exact intsPost_of HE.out rfl rfl rfl H9.out hc9 HB.out
    · have HK : Hid (k = n) := by show _ = _; omega
      obtain ⟨A9, c9, rfl, h9, hc9⟩ := own_form2 HO.out HNS.out
      have H9 := Lib.hid h9
      clear h9
      go_wp2
      go_ret3
      exact intsPost_of (by rw [← HK.out]; exact HRD.out) rfl rfl rfl H9.out hc9 HB.out
set_option maxHeartbeats 4000000 in
set_option maxRecDepth 100000 in
theorem idOf_any (A : Option Addr) (c : Nat) (l : List Int) (w : World) (hA : IntsAt w A l) (h5 : 5 ≤ l.length) :
    Calls Try.prog 63 #[.slice A l.length c] w fun e w' => e = .returned (.agg (idA (idOf l 0))) ∧ Below w.heap.size w w' := by
  obtain ⟨b, off, rfl, hb, hc⟩ := hA.opened (by omega)
  have c0 := hc 0 (by omega)
  have c1 := hc 1 (by omega)
  have c2 := hc 2 (by omega)
  have c3 := hc 3 (by omega)
  have c4 := hc 4 (by omega)
  have HID : Hid (idA (idOf l 0) = #[.int .i64 (elt l 0), .int .i64 (elt l 1), .int .i64 (elt l 2), .int .i64 (elt l 3), .int .i64 (elt l 4)]) := rfl
  generalize idA (idOf l 0) = R at HID ⊢
  generalize elt l 0 = x0 at c0 HID
  generalize elt l 1 = x1 at c1 HID
  generalize elt l 2 = x2 at c2 HID
  generalize elt l 3 = x3 at c3 HID
  generalize elt l 4 = x4 at c4 HID
  have hl0 : 0 < l.length := by omega
  have hl1 : (1 : Int) < (l.length : Int) := by omega
  have hl2 : (2 : Int) < (l.length : Int) := by omega
  have hl3 : (3 : Int) < (l.length : Int) := by omega
  have hl4 : (4 : Int) < (l.length : Int) := by omega
  clear hc hA
  have hne : b ≠ w.heap.size := by omega
  have n0 := World.new_ne w _ c0
  have n1 := World.new_ne w _ c1
  have n2 := World.new_ne w _ c2
  have n3 := World.new_ne w _ c3
  have n4 := World.new_ne w _ c4
  go_enter Try.func63, Try.ntmps63
  go_wp2_with fail
  have HD : Hid (∀ o, (w.alloc o).drew.cell? ⟨b, off, none⟩ = some (.int .i64 x0) ∧ (w.alloc o).drew.cell? ⟨b, off + 1, none⟩ = some (.int .i64 x1) ∧ (w.alloc o).drew.cell? ⟨b, off + 2, none⟩ = some (.int .i64 x2) ∧ (w.alloc o).drew.cell? ⟨b, off + 3, none⟩ = some (.int .i64 x3) ∧ (w.alloc o).drew.cell? ⟨b, off + 4, none⟩ = some (.int .i64 x4)) := fun o => by
    have HW : ∀ k v, w.cell? ⟨b, k, none⟩ = some v → (w.alloc o).drew.cell? ⟨b, k, none⟩ = some v := fun k v h => (((Below.refl w.heap.size w).alloc (Nat.le_refl _) o).drew.cell (p := ⟨b, k, none⟩) hb).trans h
    exact ⟨HW _ _ c0, HW _ _ c1, HW _ _ c2, HW _ _ c3, HW _ _ c4⟩
  clear c0 c1 c2 c3 c4
  go_region_held3 (fun w' => w'.cell? ⟨b, off, none⟩ = some (.int .i64 x0) ∧ w'.cell? ⟨b, off + 1, none⟩ = some (.int .i64 x1) ∧ w'.cell? ⟨b, off + 2, none⟩ = some (.int .i64 x2) ∧ w'.cell? ⟨b, off + 3, none⟩ = some (.int .i64 x3) ∧ w'.cell? ⟨b, off + 4, none⟩ = some (.int .i64 x4)) (exact HD.out _) (fail)
  go_wp2
  refine bodyPost_ret (v := .agg #[.int .i64 x0, .int .i64 x1, .int .i64 x2, .int .i64 x3, .int .i64 x4]) (by simp [results, Try.results63, go_sem]) rfl ⟨by rw [HID.out], ((Below.refl _ _).alloc (Nat.le_refl _) _).drew⟩
end Go.Proofs.Ytlknjdfiedkhbaa
