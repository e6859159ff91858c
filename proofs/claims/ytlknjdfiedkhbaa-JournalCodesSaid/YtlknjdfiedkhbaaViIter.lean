/- The iterator over the groups of a number: its contract for every loop body that keeps the number's box. Condition: a number below 2^63. -/
import Derived.RangeFuncNested
import Derived.RangeFuncBound
import Derived.RangeFuncCalls
import Derived.RangeFuncLeaves
import Derived.Shelf.Abstract
import Derived.Shelf.RegionOpen
import Derived.OwnWalkIn
import Derived.TacticsInMore
import Derived.LoopNIn
import Derived.LoopIn
import Derived.Laws.IdiomStrings
import Derived.Test.YtlknjdfiedkhbaaBytes
import Derived.Test.YtlknjdfiedkhbaaViSpec
namespace Go.Proofs.Ytlknjdfiedkhbaa
open Go Go.RowKit Go.Shelf
attribute [local go_sem] Oper.semAt_some

/-- What a round of the loop keeps: block B, whatever cells it holds. -/
def BoxKept (B : Nat) (W W' : World) : Prop := ∀ o, W.heap[B]? = some o → o.isCells = true → W'.heap[B]? = some o
theorem BoxKept.trans {B : Nat} {X Y Z : World} (h : BoxKept B X Y) (h' : BoxKept B Y Z) : BoxKept B X Z := fun o ho hc => h' o (h o ho hc) hc
theorem boxKept_turn {B : Nat} {w : World} (W : World) (l : Nat) (o o' : Obj) (_ : w.heap.size ≤ l) (h : W.heap[l]? = some o) (hc : o.isCells = false) (_ : o.isWalk = false) : BoxKept B W (W.putObj l o') := by
  intro x hx hxc
  by_cases e : B = l
  · subst e; rw [h] at hx; cases hx; rw [hc] at hxc; cases hxc
  · exact (World.putObj_heap_other e).trans hx

/-- the groups from the k-th down, and whether one is the last -/
def gdown (m : Nat) : Nat → List (UInt8 × Bool)
  | 0 => [(UInt8.ofNat (m % 128), true)]
  | k + 1 => (UInt8.ofNat (m / 128 ^ (k + 1) % 128), false) :: gdown m k
/-- the number of groups above the last one -/
def gtop (m : Nat) : Nat := if m < 128 then 0 else gtop (m / 128) + 1
termination_by m
decreasing_by omega
def gs (m : Nat) : List (UInt8 × Bool) := gdown m (gtop m)
theorem gtop_lo (m : Nat) : gtop m = 0 ∨ 128 ^ gtop m ≤ m := by
  induction m using Nat.strongRecOn with
  | ind m ih =>
    rw [gtop]
    by_cases h : m < 128
    · rw [if_pos h]; exact .inl rfl
    · rw [if_neg h]
      right
      rcases ih (m / 128) (by omega) with h1 | h1
      · rw [h1]; omega
      · rw [Nat.pow_succ]; omega
theorem gtop_hi (m : Nat) : m < 128 ^ (gtop m + 1) := by
  induction m using Nat.strongRecOn with
  | ind m ih =>
    rw [gtop]
    by_cases h : m < 128
    · rw [if_pos h]; omega
    · rw [if_neg h]
      have h1 := ih (m / 128) (by omega)
      rw [Nat.pow_succ]; omega
theorem gtop_le (m : Nat) (h : m < 9223372036854775808) : gtop m ≤ 8 := by
  rcases gtop_lo m with h1 | h1
  · omega
  · by_cases h9 : gtop m ≤ 8
    · exact h9
    · have : 128 ^ 9 ≤ 128 ^ gtop m := Nat.pow_le_pow_right (by decide) (by omega)
      have e : (128 : Nat) ^ 9 = 9223372036854775808 := by decide
      omega
theorem gdown_len (m : Nat) : ∀ k, (gdown m k).length = k + 1
  | 0 => rfl
  | k + 1 => by rw [gdown, List.length_cons, gdown_len m k]
theorem gs_len (m : Nat) : (gs m).length = gtop m + 1 := gdown_len m _
/-- a group's byte in the encoding -/
def gbyte (x : UInt8 × Bool) : UInt8 := if x.2 then x.1 else 128 + x.1
theorem gdown_bytes (m : Nat) : ∀ k, (gdown m k).map gbyte = Vi.down m k
  | 0 => rfl
  | k + 1 => by rw [gdown, Vi.down, List.map_cons, gdown_bytes m k]; simp [gbyte]
theorem gs_bytes (m : Nat) : (gs m).map gbyte = Vi.enc m := by
  unfold gs
  rw [gdown_bytes, Vi.enc_down (gtop m) m (gtop_lo m) (gtop_hi m)]
theorem gshift (m j : Nat) (h : 128 ≤ m / 128 ^ j) : j < gtop m := by
  have h1 := gtop_hi m
  by_cases hj : j < gtop m
  · exact hj
  · have h2 : m / 128 ^ j < 128 := by
      rw [Nat.div_lt_iff_lt_mul (Nat.pow_pos (by decide)), ← Nat.pow_succ']
      exact Nat.lt_of_lt_of_le h1 (Nat.pow_le_pow_right (by decide) (by omega))
    omega
theorem gshift_not (m j : Nat) (hj : j ≤ gtop m) (h : ¬ 128 ≤ m / 128 ^ j) : j = gtop m := by
  rcases gtop_lo m with h1 | h1
  · omega
  · by_cases e : j = gtop m
    · exact e
    · exfalso
      apply h
      rw [Nat.le_div_iff_mul_le (Nat.pow_pos (by decide)), ← Nat.pow_succ']
      exact Nat.le_trans (Nat.pow_le_pow_right (by decide) (by omega)) h1
theorem pow7 (j : Nat) : (2 : Nat) ^ (7 * j) = 128 ^ j := by rw [show (128 : Nat) = 2 ^ 7 from rfl, ← Nat.pow_mul]
theorem group_spell (m j : Nat) : bits .and .u8 (IntKind.u8.wrap ((m : Int) / 2 ^ (7 * j))) 127 = ((m / 128 ^ j % 128 : Nat) : Int) := by
  rw [shr_spell, pow7]
  generalize m / 128 ^ j = q
  have e : IntKind.u8.wrap (q : Int) = ((q % 256 : Nat) : Int) := by simp [IntKind.wrap, IntKind.bits, IntKind.signed]
  rw [e, show (127 : Int) = ((127 : Nat) : Int) from rfl]
  show IntKind.u8.wrap ((BitVec.ofInt 8 ((q % 256 : Nat) : Int) &&& BitVec.ofInt 8 ((127 : Nat) : Int)).toNat : Int) = _
  rw [BitVec.toNat_and, BitVec.ofInt_natCast, BitVec.ofInt_natCast, BitVec.toNat_ofNat, BitVec.toNat_ofNat]
  have e2 : (q % 256 % 2 ^ 8 &&& 127 % 2 ^ 8) = q % 128 := by
    rw [show 127 % 2 ^ 8 = 2 ^ 7 - 1 from rfl, Nat.and_two_pow_sub_one_eq_mod]
    omega
  rw [e2]
  simp [IntKind.wrap, IntKind.bits, IntKind.signed]
  omega

theorem and_spell (q : Nat) : bits .and .u8 ((q : Int) % 256) 127 = ((UInt8.ofNat (q % 128)).toNat : Int) := by
  have h := group_spell q 0
  rw [UInt8.toNat_ofNat', show q % 128 % 2 ^ 8 = q % 128 by omega]
  simpa [IntKind.wrap, IntKind.bits, IntKind.signed] using h
theorem and_spell7 (m j : Nat) : bits .and .u8 ((m : Int) / 2 ^ (7 * j) % 256) 127 = ((UInt8.ofNat (m / 128 ^ j % 128)).toNat : Int) := by
  rw [shr_spell, pow7]; exact and_spell _
theorem gs_pre {m i : Nat} {pre : List (UInt8 × Bool)} (h : pre ++ gdown m i = gs m) : pre.length < gtop m + 1 := by
  have := congrArg List.length h
  rw [List.length_append, gdown_len, gs_len] at this
  omega

theorem groups_in (n : Nat) (m : Int) (w : World) :
    CallsIn Fence.wide n Try.prog 66 #[.int .i64 m] w fun e w' => e = .returned (.func (.func 75) #[] #[.pointer (some ⟨w.heap.size, 0, none⟩)]) ∧ w' = w.alloc (.cells #[.int .i64 m] 3) := by
  refine callsIn_of_wp Try.func66 rfl trivial ?_ rfl
  simp only [Try.ntmps66, List.size_toArray, List.length_cons, List.length_nil, Nat.reduceAdd, Nat.reduceSub, Array.replicate_succ, Array.replicate_zero, List.push_toArray, List.append_toArray, List.nil_append, List.cons_append]
  gi_wp2
  go_ret
  exact ⟨rfl, rfl⟩

set_option maxRecDepth 100000 in
set_option maxHeartbeats 2000000 in
theorem groups1_in (n : Nat) (hn : 1 ≤ n) (l Bn : Nat) (m : Nat) (hm : m < 9223372036854775808) (J Jx : List (UInt8 × Bool) → World → Prop)
    (hY : ∀ (pre : List (UInt8 × Bool)) (x : UInt8 × Bool) (W : World), J pre W → pre.length < gtop m + 1 → YieldAt Fence.wide (n - 1) Try.prog l #[.int .u8 (x.1.toNat : Int), .bool x.2] W fun e W' =>
      (e = .returned (.bool true) ∧ J (pre ++ [x]) W' ∧ BoxKept Bn W W') ∨ (e = .returned (.bool false) ∧ Jx (pre ++ [x]) W'))
    (W : World) (hW : W.heap[Bn]? = some (.cells #[.int .i64 (m : Int)] 3 (0, 0))) (h0 : J [] W) :
    CallsIn Fence.wide n Try.prog 75 #[.func (.yield l) #[] #[], .pointer (some ⟨Bn, 0, none⟩)] W fun e W' => (∃ v, e = .returned v) ∧
      ((∃ xs, xs = gs m ∧ J xs W') ∨ (∃ pre, True ∧ Jx pre W')) := by
  have hc0 : W.cell? ⟨Bn, 0, none⟩ = some (.int .i64 (m : Int)) := cell_of_one hW
  have HJ0 := Lib.hid h0
  have HW := Lib.hid hW
  have ht8 := gtop_le m hm
  clear h0 hW
  refine callsIn_of_wp Try.func75 rfl trivial ?_ rfl
  simp only [Try.ntmps75, List.size_toArray, List.length_cons, List.length_nil, Nat.reduceAdd, Nat.reduceSub, Array.replicate_succ, Array.replicate_zero, List.push_toArray, List.append_toArray, List.nil_append, List.cons_append]
  gi_wp2
  gi_loopw [3] (fun s wr => ∃ j : Nat, j ≤ gtop m ∧ s = .int .i64 ((7 * j : Nat) : Int) ∧ wr = W) (fun s _ => (70 - intOf s).toNat)
  case atStart => exact ⟨0, Nat.zero_le _, rfl, rfl⟩
  case round =>
    obtain ⟨j, hj, rfl, rfl⟩ := hrel
    have hsh : ((m : Int) / 2 ^ (7 * j)) = ((m / 128 ^ j : Nat) : Int) := by rw [shr_spell, pow7]
    by_cases hge : 128 ≤ m / 128 ^ j
    · have hlt := gshift m j hge
      have hgi : 128 ≤ (m : Int) / 2 ^ (7 * j) := by rw [hsh]; omega
      clear hsh
      gi_wp2
      go_roundw
      case rel => exact ⟨j + 1, by omega, by go_num, trivial⟩
      case measure => simp [intOf]; omega
    · have hjt := gshift_not m j hj hge
      have hgi : (m : Int) / 2 ^ (7 * j) < 128 := by rw [hsh]; omega
      clear hge hj hsh
      subst hjt
      gi_wp2
      gi_loopw [3] (fun s wr => ((∃ i : Nat, i ≤ gtop m ∧ s = .int .i64 ((7 * i : Nat) : Int) ∧ ∃ pre, pre ++ gdown m i = gs m ∧ J pre wr) ∨ (s = .int .i64 (-7) ∧ J (gs m) wr)) ∧ wr.heap[Bn]? = some (.cells #[.int .i64 (m : Int)] 3 (0, 0))) (fun s _ => (intOf s + 7).toNat)
      case atStart => exact ⟨.inl ⟨gtop m, Nat.le_refl _, rfl, [], rfl, HJ0.out⟩, HW.out⟩
      case round =>
        obtain ⟨hor, hb⟩ := hrel
        have hc1 : wr.cell? ⟨Bn, 0, none⟩ = some (.int .i64 (m : Int)) := cell_of_one hb
        have HBn := Lib.hid hb
        clear hb hc0
        rcases hor with ⟨i, hi, rfl, pre, hpre, hJ⟩ | ⟨rfl, hJ⟩
        · obtain ⟨fn, tmps, assign, body, hy, hR⟩ := hY pre (gdown m i)[0]! wr hJ (gs_pre hpre)
          have HP := Lib.hid hpre
          clear hpre
          cases i with
          | zero =>
            have hy' : (Instr.yield l #[.int .u8 (bits .and .u8 ((m : Int) % 256) 127), .bool true]).run Try.prog wr = .ok (.round l fn tmps assign body) wr := by rw [and_spell]; exact hy
            clear hy
            gi_wp2_with fail
            refine hR.mono ?_
            rintro e W3 (⟨rfl, hJ3, hk3⟩ | ⟨rfl, hJx3⟩)
            · have b1 := hk3 _ HBn.out rfl
              have HB1 := Lib.hid b1
              have HJ3 : Hid (J (gs m) W3) := by have e := HP.out; show J (gs m) W3; rw [← e]; exact hJ3
              clear b1 hJ3 hk3 hy' hR
              gi_wp2
              go_roundw
              case rel => (repeat apply Exists.intro); exact ⟨⟨.inr ⟨by go_num, HJ3.out⟩, HB1.out⟩, rfl⟩
              case measure => simp [intOf]
            · gi_wp2
              refine bodyPost_ret (results_none rfl _ _ _) rfl ?_
              exact ⟨⟨_, rfl⟩, .inr ⟨_, trivial, hJx3⟩⟩
          | succ i =>
            have h0b : (7 * ((i : Int) + 1) == 0) = false := by rw [beq_eq_false_iff_ne]; omega
            have hy' : (Instr.yield l #[.int .u8 (bits .and .u8 ((m : Int) / 2 ^ (7 * (i + 1)) % 256) 127), .bool false]).run Try.prog wr = .ok (.round l fn tmps assign body) wr := by rw [and_spell7]; exact hy
            clear hy
            gi_wp2_with fail
            refine hR.mono ?_
            rintro e W3 (⟨rfl, hJ3, hk3⟩ | ⟨rfl, hJx3⟩)
            · have b1 := hk3 _ HBn.out rfl
              have HB1 := Lib.hid b1
              have HJ3 := Lib.hid hJ3
              clear b1 hJ3 hk3 hy' hR
              gi_wp2
              go_roundw
              case rel => (repeat apply Exists.intro); exact ⟨⟨.inl ⟨i, by omega, by go_num, _, by have e := HP.out; rw [← e, gdown]; simp, HJ3.out⟩, HB1.out⟩, rfl⟩
              case measure => simp [intOf]; omega
            · gi_wp2
              refine bodyPost_ret (results_none rfl _ _ _) rfl ?_
              exact ⟨⟨_, rfl⟩, .inr ⟨_, trivial, hJx3⟩⟩
        · have HJ := Lib.hid hJ
          clear hJ
          gi_wp2
          go_end0
          exact ⟨⟨_, rfl⟩, .inl ⟨_, rfl, HJ.out⟩⟩

/-- The iterator's contract, as the law for the caller wants it. -/
theorem groups_stops (n : Nat) (hn : 1 ≤ n) (Bn : Nat) (m : Nat) (hm : m < 9223372036854775808) (w0 : World) (hw : w0.heap[Bn]? = some (.cells #[.int .i64 (m : Int)] 3 (0, 0))) :
    SeqStopsK Fence.wide n Try.prog 75 #[.pointer (some ⟨Bn, 0, none⟩)] (fun x : UInt8 × Bool => #[Value.int .u8 (x.1.toNat : Int), .bool x.2]) (BoxKept Bn) (fun xs => xs = gs m) (fun _ => True) (gtop m + 1) w0 := by
  intro l J Jx W hW _ _ hY h0
  exact groups1_in n hn l Bn m hm J Jx hY W ((hW.block Bn (Array.getElem?_eq_some_iff.1 hw).1).trans hw) h0
end Go.Proofs.Ytlknjdfiedkhbaa
