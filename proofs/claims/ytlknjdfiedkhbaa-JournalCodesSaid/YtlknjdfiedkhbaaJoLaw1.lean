/- JournalCodes, walked: the call answers true. Conditions: the records lie in memory; lengths below the model's greatest. -/
import Derived.Test.YtlknjdfiedkhbaaJoAwake
import Derived.Test.YtlknjdfiedkhbaaJoGreat
import Derived.Test.YtlknjdfiedkhbaaJoChkR
namespace Go.Proofs.Ytlknjdfiedkhbaa
open Go Go.RowKit
open Jo (RId Itm Rec wi vId ckI ck zId zIt idA itA rcA rcL idL)
attribute [-simp] Try.isAgg34 Try.sizeOf34 Try.typeInfo34

theorem keepL1 {N p : Nat} {r : Rec} {w' : World} (hN : Hid (N = 19)) (h : Hid (w'.rangeAt p 0 (rcL r))) : Sem.run Try.prog (loadCellsFrom ⟨p, 0, none⟩ 0 N #[]) w' = .ok (rcL r).toArray w' := by
  rw [hN.out]; exact loadCells_range h.out rfl
theorem keepL2 {N p : Nat} {r : Rec} {w' : World} (hN : Hid (N = 19)) (h : Hid (w'.rangeAt p 0 (rcL r))) : Sem.run Try.prog (loadCellsFrom ⟨p, 0, none⟩ 0 N #[]) w'.drew = .ok (rcL r).toArray w'.drew := by
  rw [hN.out]; exact loadCells_range (show w'.drew.rangeAt p 0 (rcL r) from h.out) rfl
theorem keepR3 {p : Nat} {r : Rec} {w' w4 : World} (h : Hid (w'.rangeAt p 0 (rcL r))) (hb : Below w'.heap.size w' w4) : Hid (w4.rangeAt p 0 (rcL r)) := range_below h.out hb
theorem keepL3 {N p : Nat} {r : Rec} {w' w4 : World} (hN : Hid (N = 19)) (h : Hid (w'.rangeAt p 0 (rcL r))) (hb : Below w'.heap.size w' w4) : Sem.run Try.prog (loadCellsFrom ⟨p, 0, none⟩ 0 N #[]) w4 = .ok (rcL r).toArray w4 := keepL1 hN (keepR3 h hb)
theorem keepM2 {w w' : World} (h : Hid (Below w.heap.size w w')) : Hid (Below w.heap.size w w'.drew) := h.out.drew
theorem keepM3 {w w' w4 : World} (h : Hid (Below w.heap.size w w')) (hb : Below w'.heap.size w' w4) : Hid (Below w.heap.size w w4) := h.out.trans (hb.mono h.out.size)

set_option maxHeartbeats 4000000 in
set_option maxRecDepth 100000 in
theorem lawCodes (s : ByteArray) (A : Option Addr) (cA : Nat) (l : List Rec) (w : World) (hl : l.length ≤ maxLen) (hd : ∀ r ∈ l, r.item.data.size ≤ maxLen) (hA : RecsAt w A l) :
    Calls Try.prog 4 #[.string s, .slice A l.length cA] w fun e w' => e = .returned (.bool true) ∧ Below w.heap.size w w' := by
  have HG := Lib.hid (great_any A cA l w hA hl hd)
  have HA := Lib.hid hA
  have HD := Lib.hid hd
  have HL := Lib.hid hl
  have hz := (zero_of_info infoRec).1
  have HZ := Lib.hid hz
  clear hA hd hl hz
  have HGN := Lib.hid (@great_no l)
  generalize greatB l = g at HG HGN
  by_cases hg : g = true ∨ 300 < s.size
  · clear HGN
    have hgt : g = true ∨ (g = false ∧ (300 : Int) < (s.size : Int)) := by
      cases g
      · right
        refine ⟨rfl, ?_⟩
        rcases hg with h | h
        · cases h
        · omega
      · left; rfl
    clear hg
    rcases hgt with rfl | ⟨rfl, h300⟩
    · go_enter Try.func4, Try.ntmps4
      go_wp2_with fail
      refine HG.out.mono ?_
      rintro e w1 ⟨rfl, rfl⟩
      go_wp2_with fail
      refine (jawake_any _).mono ?_
      rintro e w4 ⟨rfl, hb4⟩
      have HB4 := Lib.hid hb4
      clear hb4
      go_wp2
      go_ret
      exact ⟨rfl, HB4.out⟩
    · go_enter Try.func4, Try.ntmps4
      go_wp2_with fail
      refine HG.out.mono ?_
      rintro e w1 ⟨rfl, rfl⟩
      go_wp2_with fail
      refine (jawake_any _).mono ?_
      rintro e w4 ⟨rfl, hb4⟩
      have HB4 := Lib.hid hb4
      clear hb4
      go_wp2
      go_ret
      exact ⟨rfl, HB4.out⟩
  · have h1 : g = false := by cases g; rfl; exact absurd (Or.inl rfl) hg
    have h2 : s.size ≤ 300 := by omega
    subst h1
    have h2' : ¬ (300 : Int) < (s.size : Int) := by omega
    obtain ⟨hl16, hdd⟩ := HGN.out rfl
    clear hg HGN
    have HS := Lib.hid h2
    have HDD := Lib.hid hdd
    clear h2 hdd
    have hl63 : l.length < 9223372036854775807 := by omega
    go_enter Try.func4, Try.ntmps4
    go_wp2_with fail
    refine HG.out.mono ?_
    rintro e w1 ⟨rfl, rfl⟩
    go_wp2
    go_loopw [6, 7, 8, 9, 10, 25] (fun _ _ _ _ _ i wr => ∃ k : Nat, k ≤ l.length ∧ i = .int .i64 k ∧ Below w.heap.size w wr) (fun _ _ _ _ _ i _ => l.length - (intOf i).toNat)
    case atStart => exact ⟨0, Nat.zero_le _, rfl, Below.refl _ _⟩
    case round =>
      obtain ⟨k, hk, rfl, hbw⟩ := hrel
      have HB := Lib.hid hbw
      clear hbw
      by_cases hlt : k < l.length
      · obtain ⟨b, off, rfl, hr⟩ := HA.out.one (by omega)
        obtain ⟨r, hrk⟩ : ∃ r, l[k]? = some r := ⟨_, List.getElem?_eq_getElem hlt⟩
        have HRK := Lib.hid hrk
        have hrg := range_below (hr k r hrk) HB.out
        have hlc := loadCells_range (P := Try.prog) hrg (n := 19) rfl
        clear hr hrk hrg
        have hsc : Sem.run Try.prog (storeCells ⟨wr.heap.size, 0, none⟩ (rcL r)) (wr.alloc (.cells (rcA zRec) 34)) = .ok () (wr.alloc (.cells (rcA r) 34)) := run_storeCells_new (P := Try.prog) wr 34 (rcA zRec) (rcA r) sizeRec rfl (Jo.rcA_one r)
        have hlc2 := loadCells_bk (P := Try.prog) (Bk.new wr 34 (rcA r)) (Jo.rcA_size r)
        have hz := HZ.out
        have hlen : (rcL r).length = 19 := rfl
        have HDr := Lib.hid (HD.out r (List.mem_of_getElem? HRK.out))
        have HE1 := Lib.hid (fun w => encode_any r HDr.out w)
        have HE2 := Lib.hid (fun w => encodeR_any r HDr.out w)
        have HC1 := Lib.hid (fun w => check_any r HDr.out w)
        have HC2 := Lib.hid (fun w => checkR_any r HDr.out w)
        generalize str (recL r) = RL at HE1 HE2
        generalize recE r = q at HE1 HE2
        generalize ck r = c at HC1 HC2
        go_wp2_with fail
        simp only [Try.sizeOf34, Result.andThen]
        rw [Oper.upon_value]
        go_wp2_with fail
        simp only [Try.isAgg34, Try.sizeOf34, Result.andThen, ↓reduceIte, hlc]
        rw [Oper.upon_value]
        clear hlc
        go_wp2_with fail
        simp only [Try.sizeOf34, Result.andThen, ↓reduceIte, hsc]
        rw [Oper.upon_skip]
        clear hsc hz hlen
        go_wp2_with fail
        simp only [Try.isAgg34, Try.sizeOf34, Result.andThen, ↓reduceIte, hlc2]
        rw [Oper.upon_value]
        clear hlc2
        have HBK : Hid ((wr.alloc (.cells (rcA r) 34)).rangeAt wr.heap.size 0 (rcL r)) := fun j v hv => by
          rw [Nat.zero_add, World.cell?_alloc_new]
          simpa [rcA] using hv
        have HB1 : Hid (Below w.heap.size w (wr.alloc (.cells (rcA r) 34))) := HB.out.alloc HB.out.size _
        go_wp2_with fail
        refine (HE1.out _).mono ?_
        rintro e w2 ⟨rfl, hb2⟩
        have HBK2 := Lib.hid (range_below HBK.out hb2)
        have HB2 := Lib.hid (HB1.out.trans (hb2.mono HB1.out.size))
        clear hb2 HBK HB1
        have hlc := loadCells_range (P := Try.prog) HBK2.out (n := 19) rfl
        go_wp2_with fail
        simp only [Try.isAgg34, Try.sizeOf34, Result.andThen, ↓reduceIte, hlc]
        rw [Oper.upon_value]
        clear hlc
        go_wp2_with fail
        refine (HE2.out _).mono ?_
        rintro e w3 ⟨rfl, hb3⟩
        have HBK3 := Lib.hid (range_below HBK2.out hb3)
        have HB3 := Lib.hid (HB2.out.trans (hb3.mono HB2.out.size))
        clear hb3 HBK2 HB2
        generalize wr.heap.size = p at HBK3 ⊢
        go_wp2_with fail
        obtain ⟨N, hN⟩ : ∃ N : Nat, N = 19 := ⟨19, rfl⟩
        have HN19 := Lib.hid hN
        clear hN
        have hag : ∀ w, Sem.run Try.prog (isAgg 34) w = .ok true w := fun w => Try.isAgg34 w
        have hso : ∀ w, Sem.run Try.prog (sizeOf 34) w = .ok N w := fun w => by rw [HN19.out]; exact Try.sizeOf34 w
        go_region_held3 (fun w' => Sem.run Try.prog (loadCellsFrom ⟨p, 0, none⟩ 0 N #[]) w' = .ok (rcL r).toArray w' ∧ Hid (Below w.heap.size w w') ∧ Hid (w'.rangeAt p 0 (rcL r))) (((try go_split_ands); refine ⟨?_, ?_, ?_⟩ <;> (first | assumption | (exact keepM2 (by assumption)) | (exact keepL1 HN19 (by assumption)) | (exact keepL2 HN19 (by assumption)) | (exact keepL3 HN19 (by assumption) hbq) | (exact keepM3 (by assumption) hbq) | (exact keepR3 (by assumption) hbq))))
          (first | (go_at_call 14; refine (HC1.out _).mono ?_; rintro e w4 ⟨rfl, hbq⟩) | (go_at_call 21; refine (HC2.out _).mono ?_; rintro e w4 ⟨rfl, hbq⟩))
        all_goals
          rename_i hHeld
          have HBX := hHeld.2.1
          clear hHeld hag hso
          go_wp2
          go_roundw
          case rel => exact ⟨k + 1, by omega, by go_num, HBX.out⟩
          case measure => simp [intOf]; omega
      · go_wp2_with fail
        refine (append_any s A cA l wr (by have := HS.out; omega) hl16 HD.out (HA.out.below HB.out)).mono ?_
        rintro e w2 ⟨rfl, hb2⟩
        have HB2 := Lib.hid (HB.out.trans (hb2.mono HB.out.size))
        clear hb2
        go_wp2_with fail
        refine (appendR_any s A cA l w2 (by have := HS.out; omega) hl16 HD.out (HA.out.below HB2.out)).mono ?_
        rintro e w3 ⟨rfl, hb3⟩
        have HB3 := Lib.hid (HB2.out.trans (hb3.mono HB2.out.size))
        clear hb3
        generalize str (appL s.data.toList l) = R
        generalize appE s.data.toList l = q
        go_wp2_with fail
        refine (jawake_any _).mono ?_
        rintro e w4 ⟨rfl, hb4⟩
        have HB4 := Lib.hid (HB3.out.trans (hb4.mono HB3.out.size))
        clear hb4
        go_wp2
        go_ret
        exact ⟨rfl, HB4.out⟩
end Go.Proofs.Ytlknjdfiedkhbaa
