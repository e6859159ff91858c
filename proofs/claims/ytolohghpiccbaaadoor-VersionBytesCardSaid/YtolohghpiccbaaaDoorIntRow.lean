/- A row of integers that a call made itself: its values, and that it reads as a list. No condition. -/
import Derived.Test.YtolohghpiccbaaaDoorIntsAt
import Derived.Test.YtolohghpiccbaaaDoorBytes
import Derived.OwnWalk
namespace Go.Proofs.YtolohghpiccbaaaDoor
open Go Go.RowKit

def intV (l : List Int) : List Value := l.map (Value.int .i64)
theorem intV_snoc (l : List Int) (x : Int) : intV (l ++ [x]) = intV l ++ [.int .i64 x] := by simp [intV]
theorem own_list {w : World} {base n : Nat} {v : Value} {l : List Int} (h : w.ownsRow base 3 1 v n (intV l)) (hl : l.length = n) : ∃ A c, v = .slice A l.length c ∧ IntsAt w A l := by
  cases n with
  | zero =>
    obtain rfl : l = [] := List.eq_nil_of_length_eq_zero hl
    rcases h.2 with ⟨rfl, _⟩ | ⟨g, cap, _, rfl, _⟩
    · exact ⟨_, _, rfl, IntsAt.nil _ _⟩
    · exact ⟨_, _, rfl, IntsAt.nil _ _⟩
  | succ n =>
    obtain ⟨g, cap, rfl⟩ := ownsRow_succ h
    refine ⟨_, _, by rw [hl], IntsAt.mk (fun k hk => ?_)⟩
    rw [Nat.zero_add, h.cellAt k (by omega), intV, List.getElem?_map, elt, List.getElem?_eq_getElem hk]; rfl
theorem infoI : (Tryd.prog.info? 3).map (fun i => (i.zero, i.size, i.bytes)) = some (some (.int .i64 0), 1, 8) := by kernel_rfl
end Go.Proofs.YtolohghpiccbaaaDoor
