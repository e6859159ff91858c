/- Great of the reference, walked. Conditions: the records lie in memory; a length below the model's greatest. -/
import Derived.Test.YtlknjdfiedkhbaaJoRecs
namespace Go.Proofs.Ytlknjdfiedkhbaa
open Go Go.RowKit
open Jo (RId Itm Rec rcA rcL)
attribute [-simp] Try.isAgg34 Try.sizeOf34 Try.typeInfo34

def bigRec (r : Rec) : Bool := (decide (300 < r.item.data.size) && decide (r.item.data.size < 65000)) || decide (66000 < r.item.data.size)
/-- what Great answers -/
def greatB (l : List Rec) : Bool := decide (16 < l.length) || l.any bigRec
theorem great_no {l : List Rec} (h : greatB l = false) : l.length ≤ 16 ∧ ∀ r ∈ l, r.item.data.size ≤ 66000 := by
  unfold greatB at h
  rw [Bool.or_eq_false_iff] at h
  refine ⟨by simpa using h.1, fun r hr => ?_⟩
  have h2 := (List.any_eq_false.1 h.2) r hr
  simp [bigRec] at h2
  omega
theorem any_snoc (l : List Rec) (k : Nat) (r : Rec) (h : l[k]? = some r) (h0 : (l.take k).any bigRec = false) : (bigRec r = false → (l.take (k + 1)).any bigRec = false) ∧ (bigRec r = true → l.any bigRec = true) := by
  have hk : k < l.length := (List.getElem?_eq_some_iff.1 h).1
  have e : l[k] = r := (List.getElem?_eq_some_iff.1 h).2
  constructor
  · intro c
    rw [List.take_succ_eq_append_getElem hk, e]
    simp [h0, c]
  · intro c
    rw [List.any_eq_true]
    exact ⟨r, List.mem_of_getElem? h, c⟩

set_option maxHeartbeats 2000000 in
set_option maxRecDepth 100000 in
theorem great_any (A : Option Addr) (cA : Nat) (l : List Rec) (w : World) (hA : RecsAt w A l) (hl : l.length ≤ maxLen) (hd : ∀ r ∈ l, r.item.data.size ≤ maxLen) :
    Calls Try.prog 9 #[.slice A l.length cA] w fun e w' => e = .returned (.bool (greatB l)) ∧ w = w' := by
  unfold maxLen at hl
  have HA := Lib.hid hA
  have HD := Lib.hid hd
  clear hA hd
  by_cases h16 : 16 < l.length
  · have HG : Hid (greatB l = true) := by show greatB l = true; simp [greatB, h16]
    go_enter Try.func9, Try.ntmps9
    go_wp2
    go_ret
    exact ⟨ret_b HG.out.symm, rfl⟩
  · go_enter Try.func9, Try.ntmps9
    go_wp2
    go_loop [3, 4] (fun i _ => ∃ k : Nat, k ≤ l.length ∧ i = .int .i64 k ∧ (l.take k).any bigRec = false) (fun i _ => l.length - (intOf i).toNat)
    case atStart => exact ⟨0, Nat.zero_le _, rfl, rfl⟩
    case round =>
      obtain ⟨k, hk, rfl, hno⟩ := hrel
      have HNO := Lib.hid hno
      clear hno
      by_cases hlt : k < l.length
      · obtain ⟨b, off, rfl, hr⟩ := HA.out.one (by omega)
        obtain ⟨r, hrk⟩ : ∃ r, l[k]? = some r := ⟨_, List.getElem?_eq_getElem hlt⟩
        have HRK := Lib.hid hrk
        have hc : w.cell? ⟨b, off + k * 19 + 11, none⟩ = some (.string r.item.data) := hr k r hrk 11 _ rfl
        have hm := HD.out r (List.mem_of_getElem? hrk)
        unfold maxLen at hm
        have HS := Lib.hid (any_snoc l k r hrk HNO.out)
        clear hr hrk
        generalize hsz : r.item.data.size = sz at hm
        have hb : bigRec r = ((decide (300 < sz) && decide (sz < 65000)) || decide (66000 < sz)) := by unfold bigRec; rw [hsz]
        have HSZ := Lib.hid hsz
        clear hsz
        generalize bigRec r = q at HS hb
        by_cases s1 : 300 < sz
        · by_cases s2 : sz < 65000
          · have HQ : Hid (q = true) := by show q = true; rw [hb]; simp [s1, s2]
            have HG := Lib.hid (HS.out.2 HQ.out)
            clear hb HQ HS
            have s1' : (300 : Int) < (r.item.data.size : Int) := by have := HSZ.out; omega
            have s2' : (r.item.data.size : Int) < 65000 := by have := HSZ.out; omega
            clear s1 s2 hm
            go_wp2_with fail
            simp only [Try.sizeOf34, Result.andThen]
            rw [Oper.upon_value]
            go_wp2
            go_ret
            exact ⟨ret_b (by unfold greatB; rw [HG.out, Bool.or_true]), rfl⟩
          · by_cases s3 : 66000 < sz
            · have HQ : Hid (q = true) := by show q = true; rw [hb]; simp [s3]
              have HG := Lib.hid (HS.out.2 HQ.out)
              clear hb HQ HS
              have s1' : (300 : Int) < (r.item.data.size : Int) := by have := HSZ.out; omega
              have s2' : ¬ (r.item.data.size : Int) < 65000 := by have := HSZ.out; omega
              have s3' : (66000 : Int) < (r.item.data.size : Int) := by have := HSZ.out; omega
              clear s1 s2 s3 hm
              go_wp2_with fail
              simp only [Try.sizeOf34, Result.andThen]
              rw [Oper.upon_value]
              go_wp2
              go_ret
              exact ⟨ret_b (by unfold greatB; rw [HG.out, Bool.or_true]), rfl⟩
            · have HQ : Hid (q = false) := by show q = false; rw [hb]; simp [s2, s3]
              have HG := Lib.hid (HS.out.1 HQ.out)
              clear hb HQ HS
              have s1' : (300 : Int) < (r.item.data.size : Int) := by have := HSZ.out; omega
              have s2' : ¬ (r.item.data.size : Int) < 65000 := by have := HSZ.out; omega
              have s3' : ¬ (66000 : Int) < (r.item.data.size : Int) := by have := HSZ.out; omega
              clear s1 s2 s3 hm
              go_wp2_with fail
              simp only [Try.sizeOf34, Result.andThen]
              rw [Oper.upon_value]
              go_wp2
              go_round
              case rel => exact ⟨k + 1, by omega, by go_num, HG.out⟩
              case measure => simp [intOf]; omega
        · have s3 : ¬ 66000 < sz := by omega
          have HQ : Hid (q = false) := by show q = false; rw [hb]; simp [s1, s3]
          have HG := Lib.hid (HS.out.1 HQ.out)
          clear hb HQ HS
          have s1' : ¬ (300 : Int) < (r.item.data.size : Int) := by have := HSZ.out; omega
          have s3' : ¬ (66000 : Int) < (r.item.data.size : Int) := by have := HSZ.out; omega
          clear s1 s3 hm
          go_wp2_with fail
          simp only [Try.sizeOf34, Result.andThen]
          rw [Oper.upon_value]
          go_wp2
          go_round
          case rel => exact ⟨k + 1, by omega, by go_num, HG.out⟩
          case measure => simp [intOf]; omega
      · have hkl : k = l.length := by omega
        have HG : Hid (greatB l = false) := by
          show greatB l = false
          unfold greatB
          have := HNO.out
          rw [hkl, List.take_length] at this
          rw [this]
          simp [h16]
        go_wp2
        go_ret
        exact ⟨ret_b HG.out.symm, rfl⟩
end Go.Proofs.Ytlknjdfiedkhbaa
