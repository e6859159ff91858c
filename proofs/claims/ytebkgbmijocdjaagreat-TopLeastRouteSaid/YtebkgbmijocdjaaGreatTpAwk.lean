/- mailboattop.top30Plan and top30Awake, walked: the example's earliest route arrives at 64. No condition. -/
import Derived.BigQuiet
import Derived.Test.YtebkgbmijocdjaaGreatTpArv
namespace Go.Proofs.YtebkgbmijocdjaaGreat.Tp
open Go Go.RowKit

def c25a : Ct := ⟨0, 1, 10, 60, 4, 5, 0⟩
def c25b : Ct := ⟨1, 2, 50, 100, 4, 5, 0⟩
def t25 : Tbl := ⟨⟨[100, 100, 100], [c25a, c25b]⟩, [], []⟩
def q25 : Rq := ⟨0, 2, 20, 0, 90, 0, false⟩
theorem ok25 : TblOK t25 := by
  refine ⟨⟨⟨by decide, by decide, by decide⟩, by decide, ?_, ?_⟩, ⟨by decide, (fun b hb => by cases hb), List.Pairwise.nil⟩, ⟨by decide, (fun h hh => by cases hh), List.Pairwise.nil, ?_⟩⟩
  · intro c hc
    simp only [t25, List.mem_cons, List.not_mem_nil, or_false] at hc
    rcases hc with rfl | rfl
    · unfold CtOK c25a t25; simp
    · unfold CtOK c25b t25; simp
  · unfold t25 Ovl c25a c25b
    simp
  · intro n q hq tm
    have h0 : used t25.h n tm = 0 := by unfold t25 used; simp
    rw [h0]
    have : q ∈ t25.p.q := List.mem_of_getElem? hq
    simp [t25] at this
    omega
theorem rq25 : RqOK t25.p q25 := by
  refine ⟨ok25.1, ?_⟩
  unfold q25 t25
  simp
theorem levels_nil (n : Int) : levelsL [] n = [] := by
  unfold levelsL evL timesL
  simp [lvGo]
def g25 : Grf := ⟨[c25a, c25b], [[⟨10, 60⟩], [⟨50, 100⟩]], [[⟨0, 1099511627776⟩], [⟨0, 1099511627776⟩], [⟨0, 1099511627776⟩]], [dur c25a 20, dur c25b 20], 0, 2, 0, 90, false⟩
theorem grf25 : grf t25 q25 = g25 := by
  unfold grf g25 roomsOfT gapsOf t25 q25
  simp only [List.zipIdx, List.map_cons, List.map_nil, levels_nil]
  rfl
theorem best25 : bestF t25 q25 = some 64 := by
  unfold bestF
  rw [grf25]
  decide
theorem slAt_of_bk {α : Type} {E : Enc α} {w : World} {g : Nat} {t : TypeId} {L : List α} (h : Bk w g t (L.flatMap E.f).toArray) : SlAt E w (some ⟨g, 0, none⟩) L := fun k r hk => ⟨g, 0, rfl, fun j v hj => by
  have h1 := flat_get (E := E) L k r hk j v hj
  rw [Nat.zero_add, h.cell]
  simpa using h1⟩
set_option maxHeartbeats 4000000 in
set_option maxRecDepth 100000 in
theorem plan25_any (w : World) : Calls Tryz.prog 25 #[] w fun e w' => ∃ g1 g2, e = .returned (.agg #[.slice (some ⟨g1, 0, none⟩) 3 3, .slice (some ⟨g2, 0, none⟩) 2 2]) ∧ PlnAt w' (some ⟨g1, 0, none⟩) 3 (some ⟨g2, 0, none⟩) 2 t25.p ∧ Below w.heap.size w w' := by
  have h0 : Bk (((w.alloc (.cells #[.slice (some ⟨w.heap.size + 1, 0, none⟩) 3 3, .slice (some ⟨w.heap.size + 1 + 1, 0, none⟩) 2 2] 25)).alloc (.cells #[.int .i64 100, .int .i64 100, .int .i64 100] 3)).alloc (.cells #[.int .i64 0, .int .i64 1, .int .i64 10, .int .i64 60, .int .i64 4, .int .i64 5, .int .i64 0, .int .i64 1, .int .i64 2, .int .i64 50, .int .i64 100, .int .i64 4, .int .i64 5, .int .i64 0] 104)) w.heap.size 25 #[.slice (some ⟨w.heap.size + 1, 0, none⟩) 3 3, .slice (some ⟨w.heap.size + 1 + 1, 0, none⟩) 2 2] := ((Bk.new _ _ _).alloc _).alloc _
  have h1 : Bk (((w.alloc (.cells #[.slice (some ⟨w.heap.size + 1, 0, none⟩) 3 3, .slice (some ⟨w.heap.size + 1 + 1, 0, none⟩) 2 2] 25)).alloc (.cells #[.int .i64 100, .int .i64 100, .int .i64 100] 3)).alloc (.cells #[.int .i64 0, .int .i64 1, .int .i64 10, .int .i64 60, .int .i64 4, .int .i64 5, .int .i64 0, .int .i64 1, .int .i64 2, .int .i64 50, .int .i64 100, .int .i64 4, .int .i64 5, .int .i64 0] 104)) (w.heap.size + 1) 3 #[.int .i64 100, .int .i64 100, .int .i64 100] := by
    have h := Bk.new (w.alloc (.cells #[.slice (some ⟨w.heap.size + 1, 0, none⟩) 3 3, .slice (some ⟨w.heap.size + 1 + 1, 0, none⟩) 2 2] 25)) 3 #[.int .i64 100, .int .i64 100, .int .i64 100]
    rw [World.size_alloc] at h
    exact h.alloc _
  have h2 : Bk (((w.alloc (.cells #[.slice (some ⟨w.heap.size + 1, 0, none⟩) 3 3, .slice (some ⟨w.heap.size + 1 + 1, 0, none⟩) 2 2] 25)).alloc (.cells #[.int .i64 100, .int .i64 100, .int .i64 100] 3)).alloc (.cells #[.int .i64 0, .int .i64 1, .int .i64 10, .int .i64 60, .int .i64 4, .int .i64 5, .int .i64 0, .int .i64 1, .int .i64 2, .int .i64 50, .int .i64 100, .int .i64 4, .int .i64 5, .int .i64 0] 104)) (w.heap.size + 1 + 1) 104 #[.int .i64 0, .int .i64 1, .int .i64 10, .int .i64 60, .int .i64 4, .int .i64 5, .int .i64 0, .int .i64 1, .int .i64 2, .int .i64 50, .int .i64 100, .int .i64 4, .int .i64 5, .int .i64 0] := by
    have h := Bk.new ((w.alloc (.cells #[.slice (some ⟨w.heap.size + 1, 0, none⟩) 3 3, .slice (some ⟨w.heap.size + 1 + 1, 0, none⟩) 2 2] 25)).alloc (.cells #[.int .i64 100, .int .i64 100, .int .i64 100] 3)) 104 #[.int .i64 0, .int .i64 1, .int .i64 10, .int .i64 60, .int .i64 4, .int .i64 5, .int .i64 0, .int .i64 1, .int .i64 2, .int .i64 50, .int .i64 100, .int .i64 4, .int .i64 5, .int .i64 0]
    rwa [World.size_alloc, World.size_alloc] at h
  have HB : Hid (Below w.heap.size w (((w.alloc (.cells #[.slice (some ⟨w.heap.size + 1, 0, none⟩) 3 3, .slice (some ⟨w.heap.size + 1 + 1, 0, none⟩) 2 2] 25)).alloc (.cells #[.int .i64 100, .int .i64 100, .int .i64 100] 3)).alloc (.cells #[.int .i64 0, .int .i64 1, .int .i64 10, .int .i64 60, .int .i64 4, .int .i64 5, .int .i64 0, .int .i64 1, .int .i64 2, .int .i64 50, .int .i64 100, .int .i64 4, .int .i64 5, .int .i64 0] 104))) := (((Below.refl _ _).alloc (Nat.le_refl _) _).alloc (by simp) _).alloc (by simp; omega) _
  have HP : Hid (PlnAt (((w.alloc (.cells #[.slice (some ⟨w.heap.size + 1, 0, none⟩) 3 3, .slice (some ⟨w.heap.size + 1 + 1, 0, none⟩) 2 2] 25)).alloc (.cells #[.int .i64 100, .int .i64 100, .int .i64 100] 3)).alloc (.cells #[.int .i64 0, .int .i64 1, .int .i64 10, .int .i64 60, .int .i64 4, .int .i64 5, .int .i64 0, .int .i64 1, .int .i64 2, .int .i64 50, .int .i64 100, .int .i64 4, .int .i64 5, .int .i64 0] 104)) (some ⟨w.heap.size + 1, 0, none⟩) 3 (some ⟨w.heap.size + 1 + 1, 0, none⟩) 2 t25.p) := ⟨slAt_of_bk (t := 3) h1, slAt_of_bk (t := 104) h2, by decide, by decide, by unfold maxLen; decide, by unfold maxLen; decide⟩
  have HC := Lib.hid h0
  clear h0 h1 h2
  go_enter Tryz.func25, Tryz.ntmps25
  go_wp2
  generalize (((w.alloc (.cells #[.slice (some ⟨w.heap.size + 1, 0, none⟩) 3 3, .slice (some ⟨w.heap.size + 1 + 1, 0, none⟩) 2 2] 25)).alloc (.cells #[.int .i64 100, .int .i64 100, .int .i64 100] 3)).alloc (.cells #[.int .i64 0, .int .i64 1, .int .i64 10, .int .i64 60, .int .i64 4, .int .i64 5, .int .i64 0, .int .i64 1, .int .i64 2, .int .i64 50, .int .i64 100, .int .i64 4, .int .i64 5, .int .i64 0] 104)) = W at HB HP HC ⊢
  have p0 : W.cell? ⟨w.heap.size, 0, none⟩ = some (.slice (some ⟨w.heap.size + 1, 0, none⟩) 3 3) := HC.out.cell 0
  have p1 : W.cell? ⟨w.heap.size, 1, none⟩ = some (.slice (some ⟨w.heap.size + 1 + 1, 0, none⟩) 2 2) := HC.out.cell 1
  exact bodyPost_ret (v := .agg #[.slice (some ⟨w.heap.size + 1, 0, none⟩) 3 3, .slice (some ⟨w.heap.size + 1 + 1, 0, none⟩) 2 2]) (by simp [results, Tryz.results25, go_sem, p0, p1]) rfl ⟨_, _, rfl, HP.out, HB.out⟩
set_option maxHeartbeats 4000000 in
set_option maxRecDepth 100000 in
theorem awake_any (w : World) : Calls Tryz.prog 8 #[] w fun e w' => e = .returned (.bool true) ∧ Below w.heap.size w w' := by
  go_enter Tryz.func8, Tryz.ntmps8
  go_wp2_with fail
  refine (plan25_any w).mono ?_
  rintro e w1 ⟨g1, g2, rfl, hp, hb⟩
  have HT : Hid (TblAt w1 (some ⟨g1, 0, none⟩) 3 (some ⟨g2, 0, none⟩) 2 none 0 none 0 t25) := ⟨hp, SlAt.nil _ _, SlAt.nil _ _, Nat.le_refl _, Nat.le_refl _, Nat.zero_le _, Nat.zero_le _⟩
  have HB := Lib.hid hb
  have HAR := Lib.hid (arrivalTop_any (some ⟨g1, 0, none⟩) 3 (some ⟨g2, 0, none⟩) 2 none 0 none 0 t25 q25 w1 HT.out ok25 rq25)
  clear hp hb
  rw [best25] at HAR
  go_wp2_with fail
  refine HAR.out.mono ?_
  rintro e w2 ⟨rfl, hb2⟩
  have HB2 : Hid (Below w.heap.size w w2) := below_next HB.out hb2
  clear hb2
  unfold arvV
  dsimp only
  go_wp2
  go_ret
  exact ⟨rfl, HB2.out⟩
end Go.Proofs.YtebkgbmijocdjaaGreat.Tp
