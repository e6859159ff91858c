/- Read of the program, walked. Condition: a length below the model's greatest. -/
import Derived.Test.YtlknjdfiedkhbaaJoFirst
import Derived.Test.YtlknjdfiedkhbaaJoCompact
namespace Go.Proofs.Ytlknjdfiedkhbaa
open Go Go.RowKit
open Jo (RId Itm Rec wi zId zIt rcA rcL ck)
attribute [-simp] Try.isAgg34 Try.sizeOf34 Try.typeInfo34

/-- what Read answers -/
def rdJ (l : List UInt8) : List Rec × Nat × Int := if l.length ≤ 65536 then ((readL l).1, (readL l).2, 0) else ([], 0, 4)
def RetRd (w : World) (l : List UInt8) (e : Ending) (w' : World) : Prop :=
  ∃ A c, e = .returned (.tuple #[.slice A (rdJ l).1.length c, .int .i64 ((rdJ l).2.1 : Int), .int .i64 (rdJ l).2.2]) ∧ RecsAt w' A (rdJ l).1 ∧ Below w.heap.size w w'
theorem retRd_of {w w' : World} {l : List UInt8} {A : Option Addr} {c : Nat} {L : List Rec} {n : Nat} {er : Int} (h : rdJ l = (L, n, er)) (hR : RecsAt w' A L) (hb : Below w.heap.size w w') :
    RetRd w l (.returned (.tuple #[.slice A L.length c, .int .i64 (n : Int), .int .i64 er])) w' := by
  unfold RetRd
  rw [h]
  exact ⟨A, c, rfl, hR, hb⟩
/-- what the loop keeps -/
def RInv (l : List UInt8) (w wr : World) (v : Value) (L : List Rec) (p : Nat) : Prop :=
  Below w.heap.size w wr ∧ wr.ownsRow w.heap.size 34 19 v L.length (L.flatMap rcL) ∧ readL l = (L ++ (readL (l.drop p)).1, p + (readL (l.drop p)).2) ∧ L.length ≤ p ∧ p ≤ l.length
theorem RInv.next {l : List UInt8} {w W W' : World} {v : Value} {L : List Rec} {p : Nat} (h : RInv l w W v L p) (hb : Below W.heap.size W W') : RInv l w W' v L p :=
  ⟨h.1.trans (hb.mono h.1.size), h.2.1.kept (grown_below hb none) (by
    cases hv : v.ownBlock with
    | none => exact Or.inl rfl
    | some g => exact Or.inr (by simp)), h.2.2⟩
theorem RInv.end {l : List UInt8} {w wr : World} {v : Value} {L : List Rec} {p : Nat} (h : RInv l w wr v L p) (hf : firstL (l.drop p) = none) : readL l = (L, p) := by
  rw [h.2.2.1, read_none hf]; simp
theorem RInv.push {l : List UInt8} {w wr w4 : World} {v v' : Value} {L : List Rec} {p k : Nat} {x : Rec} (h : RInv l w wr v L p) (hf : firstL (l.drop p) = some (x, k)) (hb : Below w.heap.size w w4) (hown : w4.ownsRow w.heap.size 34 19 v' (L.length + 1) (L.flatMap rcL ++ rcL x)) :
    RInv l w w4 v' (L ++ [x]) (p + k) ∧ p + k ≤ l.length ∧ 1 ≤ k := by
  obtain ⟨_, _, h3, h4⟩ := first_canon hf
  rw [List.length_drop] at h4
  have hp := h.2.2.2.2
  refine ⟨⟨hb, by simpa using hown, ?_, by have := h.2.2.2.1; simp; omega, by omega⟩, by omega, h3⟩
  rw [h.2.2.1, read_some hf, List.drop_drop]
  simp [Nat.add_assoc]

set_option maxHeartbeats 4000000 in
set_option maxRecDepth 100000 in
theorem read_any (s : ByteArray) (hs : s.size ≤ maxLen) (w : World) :
    Calls Try.prog 24 #[.string s] w (RetRd w s.data.toList) := by
  have hsl : s.data.toList.length = s.size := by simp
  have HSL := Lib.hid hsl
  have HS := Lib.hid hs
  clear hsl hs
  have hz := (zero_of_info infoRec).1
  have HZ := Lib.hid hz
  clear hz
  obtain ⟨i0, hi0, hz0, hz1, hz2⟩ := info_parts infoRecB
  have HI := Lib.hid (And.intro hi0 (And.intro hz0 (And.intro hz1 hz2)))
  clear hi0 hz0 hz1 hz2
  by_cases hbig : 65536 < s.size
  · have hbi : (65536 : Int) < (s.size : Int) := by omega
    have HR : Hid (rdJ s.data.toList = ([], 0, 4)) := by show _ = _; unfold rdJ; rw [if_neg (by rw [HSL.out]; omega)]
    clear hbig
    go_enter Try.func24, Try.ntmps24
    go_wp2
    go_ret3
    exact retRd_of HR.out (RecsAt.nil _ _) (Below.refl _ _)
  · have hbi : ¬ (65536 : Int) < (s.size : Int) := by omega
    have hsz : s.size ≤ 65536 := by omega
    have HRD : Hid (rdJ s.data.toList = ((readL s.data.toList).1, (readL s.data.toList).2, 0)) := by show _ = _; unfold rdJ; rw [if_pos (by rw [HSL.out]; omega)]
    have HI0 : Hid (RInv s.data.toList w w (.slice none 0 0) [] 0) := ⟨Below.refl _ _, ⟨rfl, .inl ⟨rfl, rfl⟩⟩, by simp, Nat.le_refl _, Nat.zero_le _⟩
    clear hbig
    go_enter Try.func24, Try.ntmps24
    go_wp2
    go_loopw [5, 6, 7, 8, 9] (fun v i _ _ _ wr => ∃ (L : List Rec) (p : Nat), i = .int .i64 p ∧ RInv s.data.toList w wr v L p) (fun _ i _ _ _ _ => s.size - (intOf i).toNat)
    case atStart => exact ⟨[], 0, rfl, HI0.out⟩
    case round =>
      clear HI0
      obtain ⟨L, p, rfl, hinv⟩ := hrel
      have hp : p ≤ s.size := by have := hinv.2.2.2.2; rw [HSL.out] at this; exact this
      have HX := Lib.hid hinv
      clear hinv
      have HXD : Hid ((s.extract p s.size).data.toList = s.data.toList.drop p) := by
        show _ = _
        rw [ex_list, List.take_of_length_le (by rw [List.length_drop, HSL.out]; exact Nat.le_refl _)]
      have hc := fun w => first_any (s.extract p s.size) (by rw [ByteArray.size_extract]; unfold maxLen; omega) w
      rw [HXD.out] at hc
      have HC := Lib.hid hc
      clear hc HXD
      go_wp2_with fail
      refine (HC.out _).mono ?_
      rintro e w1 ⟨x, k, ok, rfl, hb1, hd, hf⟩
      have HX1 : Hid (RInv s.data.toList w w1 u5 L p) := HX.out.next hb1
      have HF := Lib.hid hf
      clear hb1 hd hf HC HX
      have hsc : Sem.run Try.prog (storeCells ⟨w1.heap.size, 0, none⟩ (rcA x).toList) (w1.alloc (.cells (rcA zRec) 34)) = .ok () (w1.alloc (.cells (rcA x) 34)) := run_storeCells_new (P := Try.prog) w1 34 (rcA zRec) (rcA x) sizeRec rfl (Jo.rcA_one x)
      have hz := HZ.out
      have hlen : (rcL x).length = 19 := rfl
      have HX2 : Hid (RInv s.data.toList w (w1.alloc (.cells (rcA x) 34)) u5 L p) := HX1.out.next ((Below.refl _ _).alloc (Nat.le_refl _) _)
      have HBK : Hid (Bk (w1.alloc (.cells (rcA x) 34)) w1.heap.size 34 (rcA x)) := Bk.new w1 _ _
      go_wp2_with fail
      simp only [Try.sizeOf34, Result.andThen, ↓reduceIte, hsc, Jo.rcA_size]
      rw [Oper.upon_skip]
      clear hsc hz hlen HX1
      generalize w1.alloc (.cells (rcA x) 34) = w2 at HX2 HBK ⊢
      generalize w1.heap.size = b7 at HBK ⊢
      cases ok with
      | false =>
        have HE : Hid (rdJ s.data.toList = (L, p, 0)) := by
          show _ = _
          have h := HF.out
          rw [if_neg (by simp)] at h
          rw [HRD.out, HX2.out.end h]
        obtain ⟨A, c, rfl, hR⟩ := recs_of_row HX2.out.2.1
        have HRA := Lib.hid hR
        have HB := Lib.hid HX2.out.1
        clear hR
        go_wp2
        go_ret3
        exact retRd_of HE.out HRA.out HB.out
      | true =>
        have hlc := loadCells_bk (P := Try.prog) HBK.out (Jo.rcA_size x)
        have hlen : (rcL x).length = 19 := rfl
        go_wp2_with fail
        simp only [Try.isAgg34, Try.sizeOf34, Result.andThen, ↓reduceIte, hlc]
        rw [Oper.upon_value]
        clear hlc
        go_wp2_with fail
        refine upon_as (Result.ok (.value (.slice (some ⟨w2.heap.size, 0, none⟩) 1 1)) (w2.alloc (.cells (rcA x) 34))) (by kernel_rfl) ?_
        rw [Oper.upon_value]
        obtain ⟨hi0, hz0, hz1, hz2⟩ := HI.out
        have HFF : Hid (firstL (s.data.toList.drop p) = some (x, k)) := by show firstL _ = _; have h := HF.out; simpa using h
        have hpk : p + k ≤ s.size := by have := (first_canon HFF.out).2.2.2; rw [List.length_drop, HSL.out] at this; omega
        have hLp : L.length ≤ p := HX2.out.2.2.2.1
        go_wp2_with (at_builtin; refine wpList_append_own_at _ rfl _ _ 22 rfl w.heap.size 34 i0 (.agg (rcA zRec)) 19 160 Try.underlying22 hi0 hz0 hz1 hz2 rfl (by decide) _ _ _ rfl (HX2.out.2.1.alloc _) ⟨w2.heap.size, 0, none⟩ 1 1 (rcL x) rfl rfl ?c1 ?c2 ?c3 ?c4 ?c5 ?_)
        case c1 => exact fun j u hu => by rw [Addr.add_mid, Nat.zero_add, World.cell?_alloc_new]; simpa [rcA] using hu
        case c2 => exact fun u hu => List.all_eq_true.1 (by simpa [rcA] using Jo.rcA_one x) u hu
        case c3 => unfold maxLen; omega
        case c4 => omega
        case c5 => have := HX2.out.1.size; simp; omega
        intro v' w4 hown' hg' _ _
        have HB4 : Hid (Below w.heap.size w w4) := (HX2.out.1.alloc HX2.out.1.size _).grown hg' (by have := HX2.out.1.size; simp; omega) (fun j hj => (HX2.out.2.1.lt j hj).1)
        have HN := Lib.hid (HX2.out.push HFF.out HB4.out hown')
        have hk1 : 1 ≤ k := HN.out.2.2
        clear hown' hg' hi0 hz0 hz1 hz2
        go_wp2
        go_roundw
        case rel => exact ⟨L ++ [x], p + k, by go_num, HN.out.1⟩
        case measure => simp [intOf]; omega
end Go.Proofs.Ytlknjdfiedkhbaa
