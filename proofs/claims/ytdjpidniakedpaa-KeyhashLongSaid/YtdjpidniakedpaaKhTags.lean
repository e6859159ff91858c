/- The law KeyhashTags, walked. Conditions: lengths below the greatest of the model, bytes in their range. -/
import Derived.Test.YtdjpidniakedpaaKhLaws2
namespace Go.Proofs.Ytdjpidniakedpaa
open Go Go.RowKit

theorem holdsStr_size (s : ByteArray) (cap : Nat) : s.size ≤ (bytesRow s cap).size := by
  unfold bytesRow
  rw [Array.size_append, Array.size_map]
  exact Nat.le_add_right _ _
/-- '[]byte(s)', the new world by what it holds -/
theorem bytes_made (s : ByteArray) (w : World) : ∃ (w3 : World) (cap : Nat),
    (convert 9 28 (.string s)).run Try.prog w = .ok (.slice (some ⟨w.heap.size, 0, none⟩) s.size cap) w3 ∧ s.size ≤ cap ∧
    (∀ j, j < s.size → w3.cell? ⟨w.heap.size, j, none⟩ = some (byteV (s.data.toList[j]?.getD 0))) ∧ (∀ j, j < s.size → w3.frozen? ⟨w.heap.size, j, none⟩ = false) ∧ Below w.heap.size w w3 := by
  refine ⟨_, _, run_bytes_of_string w 9 28 5 s Try.underlying9 Try.underlying28 Try.underlying5, grownCap_ge _ _ _ _, fun j hj => ?_, fun j hj => ?_, ((Below.refl _ _).drew).alloc (by simp) _⟩
  · have h := row_cells (heap_alloc_new w.drew (.cells (bytesRow s (grownCap w s.size 0 5)) 5 ((bytesRow s (grownCap w s.size 0 5)).size, (bytesRow s (grownCap w s.size 0 5)).size + 1))) j
    refine h.trans ?_
    exact holdsStr_row s _ j (by simpa using hj)
  · have h : (w.drew.alloc (.cells (bytesRow s (grownCap w s.size 0 5)) 5 ((bytesRow s (grownCap w s.size 0 5)).size, (bytesRow s (grownCap w s.size 0 5)).size + 1))).heap[w.heap.size]? = _ := heap_alloc_new w.drew _
    unfold World.frozen?
    rw [h]
    have e := holdsStr_size s (grownCap w s.size 0 5)
    rw [Bool.and_eq_false_iff]
    left
    simp; omega

theorem list_toList (s : ByteArray) : s.toList = s.data.toList := by
  have h := ByteArray.toList_eq s
  simpa using h

theorem verB_is (key s t : ByteArray) (T : List UInt8) (h1 : sumE key s = 0) (h2 : sumS key s = str T) : verB key s t = decide (t.data.toList = T) := by
  unfold verB
  rw [h1, h2, list_toList, list_toList, str_list]
  rw [show (((0 : Int) == 0) = true) from rfl, Bool.true_and, Bool.eq_iff_iff, beq_iff_eq, decide_eq_true_iff]
  exact eq_comm

/-- a changed byte -/
theorem add_ne (x d : Nat) (h1 : 1 ≤ d) (h2 : d ≤ 255) (_hx : x < 256) : (x + d) % 256 ≠ x := by omega
def bump (T : List UInt8) (j d : Nat) : List UInt8 := T.set j (UInt8.ofNat ((T[j]?.getD 0).toNat + d))
theorem bump_ne (T : List UInt8) (j d : Nat) (hj : j < T.length) (h1 : 1 ≤ d) (h2 : d ≤ 255) : bump T j d ≠ T := by
  intro h
  have h' := congrArg (fun l => (l[j]?.getD 0).toNat) h
  simp only [bump, List.getElem?_set_self hj, List.getElem?_eq_getElem hj, Option.getD_some, UInt8.toNat_ofNat'] at h'
  exact add_ne _ d h1 h2 (T[j]).toNat_lt h'
theorem conv_bump {w3 : World} {g cap : Nat} (T : List UInt8) (j d : Nat) (v : Value) (h8 : T.length = 8) (hj : j < 8) (hc : ∀ i, i < 8 → w3.cell? ⟨g, i, none⟩ = some (byteV (T[i]?.getD 0)))
    (hv : v = .int .u8 ((((T[j]?.getD 0).toNat : Int) + (d : Int)) % 256)) :
    (convert 28 9 (.slice (some ⟨g, 0, none⟩) 8 cap)).run Try.prog (w3.setCell ⟨g, j, none⟩ v) = .ok (.string (str (bump T j d))) (w3.setCell ⟨g, j, none⟩ v) :=
  conv_bytes (by simp [bump, h8]) (fun i hi => by
    rw [Nat.zero_add]
    by_cases e : i = j
    · subst e
      rw [World.cell?_setCell_same' _ _ _ (by rw [hc i hi]; rfl), bump, List.getElem?_set_self (by omega), hv]
      simp only [Option.getD_some, byteV, UInt8.toNat_ofNat']
      congr 2
    · rw [World.cell?_setCell_other _ _ _ _ (fun h => e (by injection h with _ h; exact h.symm)), hc i hi, bump, List.getElem?_set_ne (fun h => e h.symm)])

theorem verB_ne (key s t : ByteArray) (T : List UInt8) (h1 : sumE key s = 0) (h2 : sumS key s = str T) (h : t.data.toList ≠ T) : verB key s t = false := by
  rw [verB_is key s t T h1 h2, decide_eq_false h]

theorem verB_len (key s t : ByteArray) (T : List UInt8) (h1 : sumE key s = 0) (h2 : sumS key s = str T) (h : t.size ≠ T.length) : verB key s t = false :=
  verB_ne key s t T h1 h2 (fun e => h (by rw [← e]; simp))

set_option maxHeartbeats 2000000 in
theorem lawTags (key s : ByteArray) (n m : Nat) (h1 : key.size ≤ maxLen) (h2 : s.size ≤ maxLen) (hn : n ≤ 255) (hm : m ≤ 255) (w : World) :
    Calls Try.prog 4 #[.string key, .string s, .int .u8 (n : Int), .int .u8 (m : Int)] w fun e w' => e = .returned (.bool true) ∧ Below w.heap.size w w' := by
  have H1 := Lib.hid h1
  have H2 := Lib.hid h2
  by_cases hk : key.size = 16
  · have HK := Lib.hid hk
    have hkb : ((key.size : Int) != 16) = false := by rw [hk]; rfl
    clear hk
    by_cases hg : (decide (24 < key.size) || decide (600 < s.size)) = true
    · go_enter Try.func4, Try.ntmps4
      go_wp2_with fail
      refine (great_any key s h1 h2 _).mono ?_
      rintro e w1 ⟨rfl, rfl⟩
      rw [hg]
      go_wp2_with fail
      refine (awake_any _).mono ?_
      rintro e w1 ⟨rfl, hb⟩
      go_wp2
      go_ret
      exact ⟨rfl, hb⟩
    · have hg' : (decide (24 < key.size) || decide (600 < s.size)) = false := by simpa using hg
      have hs : s.size ≤ 600 := by simp at hg'; omega
      have HS := Lib.hid hs
      have a1 := sumS_is key s _ HK.out (by omega) rfl
      have a2 := sumE_is key s HK.out (by omega)
      have v1 := verB_is key s (str (Kh.tag key.data.toList s.data.toList)) _ a2 a1
      rw [str_list, decide_eq_true rfl] at v1
      have hz := tag_size key.data.toList s.data.toList
      have A1 := Lib.hid a1
      have A2 := Lib.hid a2
      have V1 := Lib.hid v1
      generalize hT : Kh.tag key.data.toList s.data.toList = T at *
      have HT := Lib.hid hT
      have hzb : (((str T).size : Int) != 8) = false := by rw [hz]; rfl
      have HZ := Lib.hid hz
      clear a1 a2 v1 hT hz hg
      go_enter Try.func4, Try.ntmps4
      go_wp2_with fail
      refine (great_any key s h1 h2 _).mono ?_
      rintro e w1 ⟨rfl, rfl⟩
      rw [hg']
      clear hg'
      go_wp2_with fail
      refine (sum_any key s H1.out H2.out _).mono ?_
      rintro e w1 ⟨rfl, hb1⟩
      rw [A1.out, A2.out]
      go_wp2_with fail
      refine (verify_any key s (str T) H1.out H2.out _).mono ?_
      rintro e w2 ⟨rfl, hb2⟩
      rw [V1.out]
      have hb := hb1.trans (hb2.mono hb1.size)
      clear hb1 hb2
      obtain ⟨w3, cap, hrun, hcap, hcell, hfree, hb3⟩ := bytes_made (str T) w2
      rw [HZ.out] at hrun hcell hfree hcap
      have hj : n % 8 < 8 := Nat.mod_lt _ (by omega)
      have hc1 := hcell (n % 8) hj
      have hf1 := hfree (n % 8) hj
      have HC := Lib.hid hcell
      have hb4 := hb.trans (hb3.mono hb.size)
      have HB4 := Lib.hid hb4
      have HB2 := Lib.hid hb.size
      clear hcell hfree hb hb3 hb4
      rw [str_list] at hc1
      unfold byteV at hc1
      have hT8 : T.length = 8 := by have h := HZ.out; rwa [str_size] at h
      have hcl : ∀ i, i < 8 → w3.cell? ⟨w2.heap.size, i, none⟩ = some (byteV (T[i]?.getD 0)) := HC.out
      by_cases hm1 : m < 1
      · have hcv := conv_bump T (n % 8) 1 (.int .u8 ((((T[n % 8]?.getD 0).toNat : Int) + 1) % 256)) (cap := cap) hT8 hj hcl rfl
        have hvn := Lib.hid (verB_ne key s (str (bump T (n % 8) 1)) T A2.out A1.out (bump_ne T (n % 8) 1 (by rw [hT8]; exact hj) (by omega) (by omega)))
        have HB5 := Lib.hid (HB4.out.setCell (p := ⟨w2.heap.size, n % 8, none⟩) HB2.out (.int .u8 ((((T[n % 8]?.getD 0).toNat : Int) + (1 : Int)) % 256)))
        have hx1 : verB key s ((str T).extract 0 (n % 8)) = false := verB_len key s _ T A2.out A1.out (by rw [hT8, ByteArray.size_extract, HZ.out]; omega)
        have hx2 : verB key s (str T ++ ⟨#[0]⟩) = false := verB_len key s _ T A2.out A1.out (by rw [hT8, ByteArray.size_append, HZ.out]; decide)
        have HX1 := Lib.hid hx1
        have HX2 := Lib.hid hx2
        have hle : n % 8 ≤ (str T).size := by rw [HZ.out]; omega
        have hl8 : (str T).size ≤ 8 := Nat.le_of_eq HZ.out
        have HT8 := Lib.hid hT8
        clear hcl hT8 hx1 hx2
        go_wp2_with fail
        clear hcv hrun hc1 hf1
        generalize (w3.setCell ⟨w2.heap.size, n % 8, none⟩ (.int .u8 ((((T[n % 8]?.getD 0).toNat : Int) + 1) % 256))) = w4 at HB5 ⊢
        refine (verify_any key s _ H1.out H2.out _).mono ?_
        rintro e w5 ⟨rfl, hb5⟩
        rw [hvn.out]
        have hB5 := Lib.hid (HB5.out.trans (hb5.mono HB5.out.size))
        clear HB5 hb5
        go_wp2_with fail
        refine (verify_any key s _ H1.out H2.out _).mono ?_
        rintro e w6 ⟨rfl, hb6⟩
        rw [HX1.out]
        have hB6 := Lib.hid (hB5.out.trans (hb6.mono hB5.out.size))
        clear hB5 hb6
        go_wp2_with fail
        refine (verify_any key s _ H1.out H2.out _).mono ?_
        rintro e w7 ⟨rfl, hb7⟩
        rw [HX2.out]
        have hB7 := Lib.hid (hB6.out.trans (hb7.mono hB6.out.size))
        clear hB6 hb7
        go_wp2_with fail
        refine (awake_any _).mono ?_
        rintro e w8 ⟨rfl, hb8⟩
        go_wp2
        go_ret
        exact ⟨rfl, hB7.out.trans (hb8.mono hB7.out.size)⟩
      · have hcv := conv_bump T (n % 8) m (.int .u8 ((((T[n % 8]?.getD 0).toNat : Int) + (m : Int)) % 256)) (cap := cap) hT8 hj hcl rfl
        have hvn := Lib.hid (verB_ne key s (str (bump T (n % 8) m)) T A2.out A1.out (bump_ne T (n % 8) m (by rw [hT8]; exact hj) (by omega) (by omega)))
        have HB5 := Lib.hid (HB4.out.setCell (p := ⟨w2.heap.size, n % 8, none⟩) HB2.out (.int .u8 ((((T[n % 8]?.getD 0).toNat : Int) + (m : Int)) % 256)))
        have hx1 : verB key s ((str T).extract 0 (n % 8)) = false := verB_len key s _ T A2.out A1.out (by rw [hT8, ByteArray.size_extract, HZ.out]; omega)
        have hx2 : verB key s (str T ++ ⟨#[0]⟩) = false := verB_len key s _ T A2.out A1.out (by rw [hT8, ByteArray.size_append, HZ.out]; decide)
        have HX1 := Lib.hid hx1
        have HX2 := Lib.hid hx2
        have hle : n % 8 ≤ (str T).size := by rw [HZ.out]; omega
        have hl8 : (str T).size ≤ 8 := Nat.le_of_eq HZ.out
        have HT8 := Lib.hid hT8
        clear hcl hT8 hx1 hx2
        go_wp2_with fail
        clear hcv hrun hc1 hf1
        generalize (w3.setCell ⟨w2.heap.size, n % 8, none⟩ (.int .u8 ((((T[n % 8]?.getD 0).toNat : Int) + (m : Int)) % 256))) = w4 at HB5 ⊢
        refine (verify_any key s _ H1.out H2.out _).mono ?_
        rintro e w5 ⟨rfl, hb5⟩
        rw [hvn.out]
        have hB5 := Lib.hid (HB5.out.trans (hb5.mono HB5.out.size))
        clear HB5 hb5
        go_wp2_with fail
        refine (verify_any key s _ H1.out H2.out _).mono ?_
        rintro e w6 ⟨rfl, hb6⟩
        rw [HX1.out]
        have hB6 := Lib.hid (hB5.out.trans (hb6.mono hB5.out.size))
        clear hB5 hb6
        go_wp2_with fail
        refine (verify_any key s _ H1.out H2.out _).mono ?_
        rintro e w7 ⟨rfl, hb7⟩
        rw [HX2.out]
        have hB7 := Lib.hid (hB6.out.trans (hb7.mono hB6.out.size))
        clear hB6 hb7
        go_wp2_with fail
        refine (awake_any _).mono ?_
        rintro e w8 ⟨rfl, hb8⟩
        go_wp2
        go_ret
        exact ⟨rfl, hB7.out.trans (hb8.mono hB7.out.size)⟩
  · have hkb : ((key.size : Int) != 16) = true := by rw [bne_iff_ne]; omega
    go_enter Try.func4, Try.ntmps4
    go_wp2_with fail
    refine (awake_any _).mono ?_
    rintro e w1 ⟨rfl, hb⟩
    go_wp2
    go_ret
    exact ⟨rfl, hb⟩

/-- The same at the row's own integers. -/
theorem lawTagsI (key s : ByteArray) (n m : Int) (h1 : key.size ≤ maxLen) (h2 : s.size ≤ maxLen) (hn : (Lit.int .u8 n).wf = true) (hm : (Lit.int .u8 m).wf = true) (w : World) :
    Calls Try.prog 4 #[.string key, .string s, .int .u8 n, .int .u8 m] w fun e w' => e = .returned (.bool true) ∧ Below w.heap.size w w' := by
  have bn := bounds_u8 hn
  have bm := bounds_u8 hm
  obtain ⟨n, rfl⟩ := Int.eq_ofNat_of_zero_le bn.1
  obtain ⟨m, rfl⟩ := Int.eq_ofNat_of_zero_le bm.1
  exact lawTags key s n m h1 h2 (by omega) (by omega) w
end Go.Proofs.Ytdjpidniakedpaa
