/- The iterator over the groups of a number: its contract for every loop body that keeps the number's box. Condition: a number below 2^63.
The encoding of an integer, and its size, walked: the program's. No condition but the integer's range.
The encodings of strings and of lists, walked: the program's. Conditions: lengths below the model's greatest; the list lies in memory.
The encoding of an integer, as the reference writes it; Size of the reference. Walked. No condition but the integer's range.
The encodings of strings and of lists, walked: the program's and the reference's. Conditions: lengths below the model's greatest; the list lies in memory. -/
import Derived.RangeFuncNested
import Derived.RangeFuncBound
import Derived.RangeFuncCalls
import Derived.RangeFuncLeaves
import Derived.Shelf.Abstract
import Derived.Shelf.RegionOpen
import Derived.OwnWalkIn
import Derived.TacticsInMore
import Derived.LoopNIn
import Derived.LoopIn
import Derived.Laws.IdiomStrings
import Derived.Test.YtlknjdfiedkhbaaMem
import Derived.Test.YtlknjdfiedkhbaaSpec
import Derived.Sort.CutIn
namespace Go.Proofs.Ytlknjdfiedkhbaa
open Go Go.RowKit Go.Shelf
attribute [local go_sem] Oper.semAt_some

/-- What a round of the loop keeps: block B, whatever cells it holds. -/
def BoxKept (B : Nat) (W W' : World) : Prop := ∀ o, W.heap[B]? = some o → o.isCells = true → W'.heap[B]? = some o
theorem BoxKept.trans {B : Nat} {X Y Z : World} (h : BoxKept B X Y) (h' : BoxKept B Y Z) : BoxKept B X Z := fun o ho hc => h' o (h o ho hc) hc
theorem boxKept_turn {B : Nat} {w : World} (W : World) (l : Nat) (o o' : Obj) (_ : w.heap.size ≤ l) (h : W.heap[l]? = some o) (hc : o.isCells = false) (_ : o.isWalk = false) : BoxKept B W (W.putObj l o') := by
  intro x hx hxc
  by_cases e : B = l
  · subst e; rw [h] at hx; cases hx; rw [hc] at hxc; cases hxc
  · exact (World.putObj_heap_other e).trans hx

/-- the groups from the k-th down, and whether one is the last -/
def gdown (m : Nat) : Nat → List (UInt8 × Bool)
  | 0 => [(UInt8.ofNat (m % 128), true)]
  | k + 1 => (UInt8.ofNat (m / 128 ^ (k + 1) % 128), false) :: gdown m k
/-- the number of groups above the last one -/
def gtop (m : Nat) : Nat := if m < 128 then 0 else gtop (m / 128) + 1
termination_by m
decreasing_by omega
def gs (m : Nat) : List (UInt8 × Bool) := gdown m (gtop m)
theorem gtop_lo (m : Nat) : gtop m = 0 ∨ 128 ^ gtop m ≤ m := by
  induction m using Nat.strongRecOn with
  | ind m ih =>
    rw [gtop]
    by_cases h : m < 128
    · rw [if_pos h]; exact .inl rfl
    · rw [if_neg h]
      right
      rcases ih (m / 128) (by omega) with h1 | h1
      · rw [h1]; omega
      · rw [Nat.pow_succ]; omega
theorem gtop_hi (m : Nat) : m < 128 ^ (gtop m + 1) := by
  induction m using Nat.strongRecOn with
  | ind m ih =>
    rw [gtop]
    by_cases h : m < 128
    · rw [if_pos h]; omega
    · rw [if_neg h]
      have h1 := ih (m / 128) (by omega)
      rw [Nat.pow_succ]; omega
theorem gtop_le (m : Nat) (h : m < 9223372036854775808) : gtop m ≤ 8 := by
  rcases gtop_lo m with h1 | h1
  · omega
  · by_cases h9 : gtop m ≤ 8
    · exact h9
    · have : 128 ^ 9 ≤ 128 ^ gtop m := Nat.pow_le_pow_right (by decide) (by omega)
      have e : (128 : Nat) ^ 9 = 9223372036854775808 := by decide
      omega
theorem gdown_len (m : Nat) : ∀ k, (gdown m k).length = k + 1
  | 0 => rfl
  | k + 1 => by rw [gdown, List.length_cons, gdown_len m k]
theorem gs_len (m : Nat) : (gs m).length = gtop m + 1 := gdown_len m _
/-- a group's byte in the encoding -/
def gbyte (x : UInt8 × Bool) : UInt8 := if x.2 then x.1 else 128 + x.1
theorem gdown_bytes (m : Nat) : ∀ k, (gdown m k).map gbyte = Vi.down m k
  | 0 => rfl
  | k + 1 => by rw [gdown, Vi.down, List.map_cons, gdown_bytes m k]; simp [gbyte]
theorem gs_bytes (m : Nat) : (gs m).map gbyte = Vi.enc m := by
  unfold gs
  rw [gdown_bytes, Vi.enc_down (gtop m) m (gtop_lo m) (gtop_hi m)]
theorem gshift (m j : Nat) (h : 128 ≤ m / 128 ^ j) : j < gtop m := by
  have h1 := gtop_hi m
  by_cases hj : j < gtop m
  · exact hj
  · have h2 : m / 128 ^ j < 128 := by
      rw [Nat.div_lt_iff_lt_mul (Nat.pow_pos (by decide)), ← Nat.pow_succ']
      exact Nat.lt_of_lt_of_le h1 (Nat.pow_le_pow_right (by decide) (by omega))
    omega
theorem gshift_not (m j : Nat) (hj : j ≤ gtop m) (h : ¬ 128 ≤ m / 128 ^ j) : j = gtop m := by
  rcases gtop_lo m with h1 | h1
  · omega
  · by_cases e : j = gtop m
    · exact e
    · exfalso
      apply h
      rw [Nat.le_div_iff_mul_le (Nat.pow_pos (by decide)), ← Nat.pow_succ']
      exact Nat.le_trans (Nat.pow_le_pow_right (by decide) (by omega)) h1
theorem pow7 (j : Nat) : (2 : Nat) ^ (7 * j) = 128 ^ j := by rw [show (128 : Nat) = 2 ^ 7 from rfl, ← Nat.pow_mul]
theorem group_spell (m j : Nat) : bits .and .u8 (IntKind.u8.wrap ((m : Int) / 2 ^ (7 * j))) 127 = ((m / 128 ^ j % 128 : Nat) : Int) := by
  rw [shr_spell, pow7]
  generalize m / 128 ^ j = q
  have e : IntKind.u8.wrap (q : Int) = ((q % 256 : Nat) : Int) := by simp [IntKind.wrap, IntKind.bits, IntKind.signed]
  rw [e, show (127 : Int) = ((127 : Nat) : Int) from rfl]
  show IntKind.u8.wrap ((BitVec.ofInt 8 ((q % 256 : Nat) : Int) &&& BitVec.ofInt 8 ((127 : Nat) : Int)).toNat : Int) = _
  rw [BitVec.toNat_and, BitVec.ofInt_natCast, BitVec.ofInt_natCast, BitVec.toNat_ofNat, BitVec.toNat_ofNat]
  have e2 : (q % 256 % 2 ^ 8 &&& 127 % 2 ^ 8) = q % 128 := by
    rw [show 127 % 2 ^ 8 = 2 ^ 7 - 1 from rfl, Nat.and_two_pow_sub_one_eq_mod]
    omega
  rw [e2]
  simp [IntKind.wrap, IntKind.bits, IntKind.signed]
  omega

theorem and_spell (q : Nat) : bits .and .u8 ((q : Int) % 256) 127 = ((UInt8.ofNat (q % 128)).toNat : Int) := by
  have h := group_spell q 0
  rw [UInt8.toNat_ofNat', show q % 128 % 2 ^ 8 = q % 128 by omega]
  simpa [IntKind.wrap, IntKind.bits, IntKind.signed] using h
theorem and_spell7 (m j : Nat) : bits .and .u8 ((m : Int) / 2 ^ (7 * j) % 256) 127 = ((UInt8.ofNat (m / 128 ^ j % 128)).toNat : Int) := by
  rw [shr_spell, pow7]; exact and_spell _
theorem gs_pre {m i : Nat} {pre : List (UInt8 × Bool)} (h : pre ++ gdown m i = gs m) : pre.length < gtop m + 1 := by
  have := congrArg List.length h
  rw [List.length_append, gdown_len, gs_len] at this
  omega

theorem groups_in (n : Nat) (m : Int) (w : World) :
    CallsIn Fence.wide n Try.prog 66 #[.int .i64 m] w fun e w' => e = .returned (.func (.func 75) #[] #[.pointer (some ⟨w.heap.size, 0, none⟩)]) ∧ w' = w.alloc (.cells #[.int .i64 m] 3) := by
  refine callsIn_of_wp Try.func66 rfl trivial ?_ rfl
  simp only [Try.ntmps66, List.size_toArray, List.length_cons, List.length_nil, Nat.reduceAdd, Nat.reduceSub, Array.replicate_succ, Array.replicate_zero, List.push_toArray, List.append_toArray, List.nil_append, List.cons_append]
  gi_wp2
  go_ret
  exact ⟨rfl, rfl⟩

set_option maxRecDepth 100000 in
set_option maxHeartbeats 2000000 in
theorem groups1_in (n : Nat) (hn : 1 ≤ n) (l Bn : Nat) (m : Nat) (hm : m < 9223372036854775808) (J Jx : List (UInt8 × Bool) → World → Prop)
    (hY : ∀ (pre : List (UInt8 × Bool)) (x : UInt8 × Bool) (W : World), J pre W → pre.length < gtop m + 1 → YieldAt Fence.wide (n - 1) Try.prog l #[.int .u8 (x.1.toNat : Int), .bool x.2] W fun e W' =>
      (e = .returned (.bool true) ∧ J (pre ++ [x]) W' ∧ BoxKept Bn W W') ∨ (e = .returned (.bool false) ∧ Jx (pre ++ [x]) W'))
    (W : World) (hW : W.heap[Bn]? = some (.cells #[.int .i64 (m : Int)] 3 (0, 0))) (h0 : J [] W) :
    CallsIn Fence.wide n Try.prog 75 #[.func (.yield l) #[] #[], .pointer (some ⟨Bn, 0, none⟩)] W fun e W' => (∃ v, e = .returned v) ∧
      ((∃ xs, xs = gs m ∧ J xs W') ∨ (∃ pre, True ∧ Jx pre W')) := by
  have hc0 : W.cell? ⟨Bn, 0, none⟩ = some (.int .i64 (m : Int)) := cell_of_one hW
  have HJ0 := Lib.hid h0
  have HW := Lib.hid hW
  have ht8 := gtop_le m hm
  clear h0 hW
  refine callsIn_of_wp Try.func75 rfl trivial ?_ rfl
  simp only [Try.ntmps75, List.size_toArray, List.length_cons, List.length_nil, Nat.reduceAdd, Nat.reduceSub, Array.replicate_succ, Array.replicate_zero, List.push_toArray, List.append_toArray, List.nil_append, List.cons_append]
  gi_wp2
  gi_loopw [3] (fun s wr => ∃ j : Nat, j ≤ gtop m ∧ s = .int .i64 ((7 * j : Nat) : Int) ∧ wr = W) (fun s _ => (70 - intOf s).toNat)
  case atStart => exact ⟨0, Nat.zero_le _, rfl, rfl⟩
  case round =>
    obtain ⟨j, hj, rfl, rfl⟩ := hrel
    have hsh : ((m : Int) / 2 ^ (7 * j)) = ((m / 128 ^ j : Nat) : Int) := by rw [shr_spell, pow7]
    by_cases hge : 128 ≤ m / 128 ^ j
    · have hlt := gshift m j hge
      have hgi : 128 ≤ (m : Int) / 2 ^ (7 * j) := by rw [hsh]; omega
      clear hsh
      gi_wp2
      go_roundw
      case rel => exact ⟨j + 1, by omega, by go_num, trivial⟩
      case measure => simp [intOf]; omega
    · have hjt := gshift_not m j hj hge
      have hgi : (m : Int) / 2 ^ (7 * j) < 128 := by rw [hsh]; omega
      clear hge hj hsh
      subst hjt
      gi_wp2
      gi_loopw [3] (fun s wr => ((∃ i : Nat, i ≤ gtop m ∧ s = .int .i64 ((7 * i : Nat) : Int) ∧ ∃ pre, pre ++ gdown m i = gs m ∧ J pre wr) ∨ (s = .int .i64 (-7) ∧ J (gs m) wr)) ∧ wr.heap[Bn]? = some (.cells #[.int .i64 (m : Int)] 3 (0, 0))) (fun s _ => (intOf s + 7).toNat)
      case atStart => exact ⟨.inl ⟨gtop m, Nat.le_refl _, rfl, [], rfl, HJ0.out⟩, HW.out⟩
      case round =>
        obtain ⟨hor, hb⟩ := hrel
        have hc1 : wr.cell? ⟨Bn, 0, none⟩ = some (.int .i64 (m : Int)) := cell_of_one hb
        have HBn := Lib.hid hb
        clear hb hc0
        rcases hor with ⟨i, hi, rfl, pre, hpre, hJ⟩ | ⟨rfl, hJ⟩
        · obtain ⟨fn, tmps, assign, body, hy, hR⟩ := hY pre (gdown m i)[0]! wr hJ (gs_pre hpre)
          have HP := Lib.hid hpre
          clear hpre
          cases i with
          | zero =>
            have hy' : (Instr.yield l #[.int .u8 (bits .and .u8 ((m : Int) % 256) 127), .bool true]).run Try.prog wr = .ok (.round l fn tmps assign body) wr := by rw [and_spell]; exact hy
            clear hy
            gi_wp2_with fail
            refine hR.mono ?_
            rintro e W3 (⟨rfl, hJ3, hk3⟩ | ⟨rfl, hJx3⟩)
            · have b1 := hk3 _ HBn.out rfl
              have HB1 := Lib.hid b1
              have HJ3 : Hid (J (gs m) W3) := by have e := HP.out; show J (gs m) W3; rw [← e]; exact hJ3
              clear b1 hJ3 hk3 hy' hR
              gi_wp2
              go_roundw
              case rel => (repeat apply Exists.intro); exact ⟨⟨.inr ⟨by go_num, HJ3.out⟩, HB1.out⟩, rfl⟩
              case measure => simp [intOf]
            · gi_wp2
              refine bodyPost_ret (results_none rfl _ _ _) rfl ?_
              exact ⟨⟨_, rfl⟩, .inr ⟨_, trivial, hJx3⟩⟩
          | succ i =>
            have h0b : (7 * ((i : Int) + 1) == 0) = false := by rw [beq_eq_false_iff_ne]; omega
            have hy' : (Instr.yield l #[.int .u8 (bits .and .u8 ((m : Int) / 2 ^ (7 * (i + 1)) % 256) 127), .bool false]).run Try.prog wr = .ok (.round l fn tmps assign body) wr := by rw [and_spell7]; exact hy
            clear hy
            gi_wp2_with fail
            refine hR.mono ?_
            rintro e W3 (⟨rfl, hJ3, hk3⟩ | ⟨rfl, hJx3⟩)
            · have b1 := hk3 _ HBn.out rfl
              have HB1 := Lib.hid b1
              have HJ3 := Lib.hid hJ3
              clear b1 hJ3 hk3 hy' hR
              gi_wp2
              go_roundw
              case rel => (repeat apply Exists.intro); exact ⟨⟨.inl ⟨i, by omega, by go_num, _, by have e := HP.out; rw [← e, gdown]; simp, HJ3.out⟩, HB1.out⟩, rfl⟩
              case measure => simp [intOf]; omega
            · gi_wp2
              refine bodyPost_ret (results_none rfl _ _ _) rfl ?_
              exact ⟨⟨_, rfl⟩, .inr ⟨_, trivial, hJx3⟩⟩
        · have HJ := Lib.hid hJ
          clear hJ
          gi_wp2
          go_end0
          exact ⟨⟨_, rfl⟩, .inl ⟨_, rfl, HJ.out⟩⟩

/-- The iterator's contract, as the law for the caller wants it. -/
theorem groups_stops (n : Nat) (hn : 1 ≤ n) (Bn : Nat) (m : Nat) (hm : m < 9223372036854775808) (w0 : World) (hw : w0.heap[Bn]? = some (.cells #[.int .i64 (m : Int)] 3 (0, 0))) :
    SeqStopsK Fence.wide n Try.prog 75 #[.pointer (some ⟨Bn, 0, none⟩)] (fun x : UInt8 × Bool => #[Value.int .u8 (x.1.toNat : Int), .bool x.2]) (BoxKept Bn) (fun xs => xs = gs m) (fun _ => True) (gtop m + 1) w0 := by
  intro l J Jx W hW _ _ hY h0
  exact groups1_in n hn l Bn m hm J Jx hY W ((hW.block Bn (Array.getElem?_eq_some_iff.1 hw).1).trans hw) h0
end Go.Proofs.Ytlknjdfiedkhbaa
namespace Go.Proofs.Ytlknjdfiedkhbaa
open Go Go.RowKit Go.Shelf
attribute [local go_sem] Oper.semAt_some

theorem inRange_any (n : Int) (w : World) :
    Calls Try.prog 65 #[.int .i64 n] w fun e w' => e = .returned (.bool (Vi.inR n)) ∧ w = w' := by
  by_cases h : -1152921504606846976 ≤ n
  all_goals
    go_enter Try.func65, Try.ntmps65
    go_wp2
    go_ret
    exact ⟨ret_b (by unfold Vi.inR Vi.big; simp; omega), rfl⟩
theorem zigzag_any (n : Int) (h : Vi.inR n = true) (w : World) :
    Calls Try.prog 67 #[.int .i64 n] w fun e w' => e = .returned (.int .i64 (Vi.zig n : Int)) ∧ w = w' := by
  obtain ⟨h1, h2⟩ := (Vi.inR_iff n).1 h
  unfold Vi.big at h1 h2
  clear h
  by_cases hn : n < 0
  · go_enter Try.func67, Try.ntmps67
    go_wp2
    go_ret
    exact ⟨ret_i (by unfold Vi.zig; rw [if_pos hn]; omega), rfl⟩
  · go_enter Try.func67, Try.ntmps67
    go_wp2
    go_ret
    exact ⟨ret_i (by unfold Vi.zig; rw [if_neg (by omega)]; omega), rfl⟩

theorem ownFrom_boxed {β : Type} (B o : Nat) (t : TypeId) (v : Value) : OwnFrom B (fun (_ : β) W => Boxed W o t v) := by
  intro x W W' row h hg hr
  refine h.kept hg (fun e => ?_)
  obtain ⟨_, y, hy, hc⟩ := hr o e.symm
  rw [show W.heap[o]? = some _ from h] at hy
  cases hy; cases hc
/-- the bytes so far, as cells -/
def gbs (pre : List (UInt8 × Bool)) : List Value := (pre.map gbyte).map byteV
theorem gbs_snoc (pre : List (UInt8 × Bool)) (x : UInt8 × Bool) : gbs (pre ++ [x]) = gbs pre ++ [byteV (gbyte x)] := by simp [gbs]
theorem g128 (g : UInt8) : Value.int .u8 (((g.toNat : Int) + 128) % 256) = byteV (gbyte (g, false)) := by
  have e : (128 + g : UInt8).toNat = (128 + g.toNat) % 256 := by simp
  show _ = Value.int .u8 (((128 + g : UInt8).toNat : Nat) : Int)
  rw [e]
  congr 1
  omega
/-- what the loop has written: the variable's box and its row; the number's box; nothing else -/
def OutInv (w : World) (o : Nat) (m : Nat) (pre : List (UInt8 × Bool)) (W : World) : Prop :=
  (∃ v, Boxed W o 54 v ∧ W.ownsRow w.heap.size 5 1 v pre.length (gbs pre) ∧ True) ∧ Boxed W (o + 1) 3 (.int .i64 (m : Int)) ∧ Below w.heap.size w W
theorem ownFrom_out (w : World) (o m B : Nat) (hB : w.heap.size ≤ B) : OwnFrom B (OutInv w o m) :=
  (Own.from (holdsRow_own w.heap.size o 54 5 1 (fun pre : List (UInt8 × Bool) => pre.length) (fun pre => gbs pre) (fun _ _ => True)) B).and ((ownFrom_boxed B (o + 1) 3 (.int .i64 (m : Int))).and (ownFrom_below (Nat.le_refl _) hB))

set_option maxRecDepth 100000 in
set_option maxHeartbeats 1000000 in
theorem int_any (n : Int) (w : World) :
    Calls Try.prog 53 #[.int .i64 n] w fun e w' => e = .returned (.tuple #[.string (str (Vi.intL n)), .int .i64 (Vi.intE n)]) ∧ Below w.heap.size w w' := by
  cases hr : Vi.inR n with
  | false =>
    have HR := Lib.hid hr
    clear hr
    have HL : Hid (Vi.intL n = []) := by have h := HR.out; show _ = _; unfold Vi.intL; rw [h]; rfl
    have HE : Hid (Vi.intE n = 2) := by have h := HR.out; show _ = _; unfold Vi.intE; rw [h]; rfl
    go_enter Try.func53, Try.ntmps53
    go_wp2_with fail
    refine (inRange_any n _).mono ?_
    rintro e w' ⟨rfl, rfl⟩
    rw [HR.out]
    go_wp2
    go_ret2
    exact ⟨two_e (by rw [HL.out]; rfl) HE.out.symm, Below.refl _ _⟩
  | true =>
    have hz := Vi.zig_lt n hr
    have HR := Lib.hid hr
    clear hr
    have HL : Hid (Vi.intL n = Vi.enc (Vi.zig n)) := by have h := HR.out; show _ = _; unfold Vi.intL; rw [h]; rfl
    have HE : Hid (Vi.intE n = 0) := by have h := HR.out; show _ = _; unfold Vi.intE; rw [h]; rfl
    obtain ⟨i0, hi, hz0, hz1, hz2⟩ := info_parts infoByte
    refine (callsIn_wide (n := 6)).1 ?_
    refine callsIn_of_wp_marks Try.func53 rfl trivial ?_ rfl
    simp only [Try.ntmps53, List.size_toArray, List.length_cons, List.length_nil, Nat.reduceAdd, Nat.reduceSub, Array.replicate_succ, Array.replicate_zero, List.push_toArray, List.append_toArray, List.nil_append, List.cons_append]
    gi_wp2_with fail
    refine ⟨trivial, ?_⟩
    refine (callsIn_wide.2 (inRange_any n _)).mono ?_
    rintro e w' ⟨rfl, rfl⟩
    rw [HR.out]
    gi_wp2_with fail
    refine ⟨trivial, ?_⟩
    refine (callsIn_wide.2 (zigzag_any n HR.out _)).mono ?_
    rintro e w' ⟨rfl, rfl⟩
    generalize hm : Vi.zig n = m at *
    have HM := Lib.hid hm
    clear hm
    gi_wp2_with fail
    refine ⟨trivial, ?_⟩
    refine (groups_in _ (m : Int) _).mono ?_
    rintro e w2 ⟨rfl, rfl⟩
    gi_wp2_with fail
    have N1 : ((w.alloc (.cells #[.slice none 0 0] 54)).alloc (.cells #[.int .i64 (m : Int)] 3)).heap[w.heap.size]? = some (.cells #[.slice none 0 0] 54 (0, 0)) := (Bk.new w 54 #[.slice none 0 0]).alloc _
    have N2 : ((w.alloc (.cells #[.slice none 0 0] 54)).alloc (.cells #[.int .i64 (m : Int)] 3)).heap[w.heap.size + 1]? = some (.cells #[.int .i64 (m : Int)] 3 (0, 0)) := by
      have h := Bk.new (w.alloc (.cells #[.slice none 0 0] 54)) 3 #[.int .i64 (m : Int)]
      rwa [World.size_alloc] at h
    have N3 : Below w.heap.size w ((w.alloc (.cells #[.slice none 0 0] 54)).alloc (.cells #[.int .i64 (m : Int)] 3)) := ((Below.refl _ _).alloc (Nat.le_refl _) _).alloc (by simp) _
    have hmm : m < 9223372036854775808 := by omega
    have ht8 := gtop_le m hmm
    refine wpIn_rangeFunc_ownF rfl (by omega) (gf := 75) (lb := #[.pointer (some ⟨w.heap.size + 1, 0, none⟩)]) rfl trivial (enters_of Try.func75 (by kernel_rfl) rfl)
      (groups_stops _ (by omega) (w.heap.size + 1) m hmm _ N2) BoxKept.trans boxKept_turn (Below.refl _ _) (fun _ => rfl)
      (fun pre W => OutInv w w.heap.size m pre W)
      (fun _ _ _ => False)
      (ownFrom_out w _ _ _ (by simp; omega))
      (fun _ _ _ _ _ h _ _ => h) ⟨⟨_, N1, World.ownsRow_nil _ _ _ _, trivial⟩, N2, N3⟩ ?a1 ?assign ?body ?done ?stop
    case assign =>
      intro l x W K hK
      gi_wp2
      exact hK
    case body =>
      rintro l pre ⟨g, last⟩ W ⟨⟨v, h1, h2, _⟩, h3, h4⟩ hpl
      clear N1 N2 N3
      have hcell := h1.cell
      have hbase : w.heap.size ≤ W.heap.size := h4.size
      have fin : ∀ (x : Value) (v' : Value) (w1 : World), w1.ownsRow w.heap.size 5 1 v' (pre.length + 1) (gbs pre ++ [x]) → x = byteV (gbyte (g, last)) → (W.alloc (.cells #[x] 5)).grownBy w1 v.ownBlock →
          w1.cell? ⟨w.heap.size, 0, none⟩ = some v ∧ w1.frozen? ⟨w.heap.size, 0, none⟩ = false ∧ KeepsOthers W (w1.setCell ⟨w.heap.size, 0, none⟩ v') ∧ BoxKept (w.heap.size + 1) W (w1.setCell ⟨w.heap.size, 0, none⟩ v') ∧ OutInv w w.heap.size m (pre ++ [(g, last)]) (w1.setCell ⟨w.heap.size, 0, none⟩ v') := by
        intro x v' w1 ho hx hg
        obtain ⟨q1, q2, q3, q4, q5⟩ := Boxed.appended h1 (by decide) h2 hbase (Nat.le_refl _) ho hg
        have hbx : Boxed (w1.setCell ⟨w.heap.size, 0, none⟩ v') (w.heap.size + 1) 3 (.int .i64 (m : Int)) :=
          ((h3.alloc _).kept hg (h3.not_row (by decide) h2)).kept (grownBy_setCell' _ _ _) (by simp)
        refine ⟨q1.cell, q1.frozen, q4, fun y hy _ => ?_, ⟨v', q2, ?_, trivial⟩, hbx, h4.trans q5⟩
        · rw [show W.heap[w.heap.size + 1]? = some _ from h3] at hy
          cases hy
          exact hbx
        · rw [hx, ← gbs_snoc] at q3
          simpa using q3
      have FIN := Lib.hid fin
      have H2 := Lib.hid h2
      clear fin h1 h2 h3 h4
      cases last with
      | true =>
        gi_wp2_with (gi_at_builtin; refine wpListIn_append_own _ rfl _ _ 54 rfl w.heap.size 5 i0 (.int .u8 0) 1 1 Try.underlying54 hi hz0 hz1 hz2 rfl (by decide) _ _ _ rfl (H2.out.alloc _) ⟨W.heap.size, 0, none⟩ 1 1 [byteV g] rfl rfl ?c1 ?c2 ?c3 ?c4 ?c5 ?_)
        case c1 => exact cell_one_new _ _ _
        case c2 => simp [Value.oneCell', byteV]
        case c3 => unfold maxLen; omega
        case c4 => omega
        case c5 => simp; omega
        intro v' w1 hown' hgrow _
        obtain ⟨f1, f2, f3, f4, f5⟩ := FIN.out _ v' w1 hown' rfl hgrow
        obtain ⟨g', cap', rfl⟩ := ownsRow_succ hown'
        clear hown' hgrow
        gi_wp2
        exact ⟨f3, f4, f5⟩
      | false =>
        gi_wp2_with (gi_at_builtin; refine wpListIn_append_own _ rfl _ _ 54 rfl w.heap.size 5 i0 (.int .u8 0) 1 1 Try.underlying54 hi hz0 hz1 hz2 rfl (by decide) _ _ _ rfl (H2.out.alloc _) ⟨W.heap.size, 0, none⟩ 1 1 [.int .u8 (((g.toNat : Int) + 128) % 256)] rfl rfl ?d1 ?d2 ?d3 ?d4 ?d5 ?_)
        case d1 => exact cell_one_new _ _ _
        case d2 => simp [Value.oneCell']
        case d3 => unfold maxLen; omega
        case d4 => omega
        case d5 => simp; omega
        intro v' w1 hown' hgrow _
        obtain ⟨f1, f2, f3, f4, f5⟩ := FIN.out _ v' w1 hown' (g128 g) hgrow
        obtain ⟨g', cap', rfl⟩ := ownsRow_succ hown'
        clear hown' hgrow
        gi_wp2
        exact ⟨f3, f4, f5⟩
    case done =>
      rintro D xs W hD rfl ⟨⟨v, h1, h2, _⟩, h3, h4⟩ hK
      have hcell := h1.cell
      have hl : ((gs m).map gbyte).length = (gs m).length := by simp
      have hcv := conv_any hl h2
      rw [gs_bytes] at hcv
      obtain ⟨A, c, rfl⟩ := own_form h2
      have HK := Lib.hid hK
      have HD := Lib.hid hD
      have H4 := Lib.hid h4
      clear N1 N2 N3 hK hD h1 h2 h3 h4 hl
      gi_wp2
      refine ⟨by simp, .inl ⟨_, _, rfl, run_takeDeferred HK.out, ?_⟩⟩
      refine ⟨.tuple #[.string (str (Vi.enc m)), .int .i64 0], (by simp [results, Try.results53, go_sem]), two_e (by rw [HL.out]) HE.out.symm, ?_⟩
      exact H4.out.trans (belowK_b (w := w) (Nat.le_refl _) W D _ _ (by have := HD.out; simp at this; omega) HK.out rfl rfl)
    case stop =>
      intro D c pre W _ _ h _
      exact h.elim
end Go.Proofs.Ytlknjdfiedkhbaa
namespace Go.Proofs.Ytlknjdfiedkhbaa
open Go Go.RowKit

theorem str_app (l : List UInt8) (s : ByteArray) : str l ++ s = str (l ++ s.data.toList) := by
  have h := str_append l s.data.toList
  rwa [str_self] at h
theorem int_size (n : Int) : (str (Vi.intL n)).size ≤ 9 := by rw [str_size]; exact Vi.intL_len9 n

set_option maxHeartbeats 1000000 in
theorem text_any (s : ByteArray) (hs : s.size ≤ maxLen) (w : World) :
    Calls Try.prog 35 #[.string s] w fun e w' => e = .returned (.tuple #[.string (str (Vi.textL s.data.toList)), .int .i64 (Vi.textE s.data.toList)]) ∧ Below w.heap.size w w' := by
  unfold maxLen at hs
  have hl : s.data.toList.length = s.size := by simp
  by_cases h : s.size ≤ 65536
  · have HL : Hid (Vi.textL s.data.toList = Vi.intL s.size ++ s.data.toList) := by show _ = _; unfold Vi.textL; rw [hl, if_pos h]
    have HE : Hid (Vi.textE s.data.toList = 0) := by show _ = _; unfold Vi.textE; rw [hl, if_pos h]
    have h9 := int_size s.size
    clear hl
    go_enter Try.func35, Try.ntmps35
    go_wp2_with fail
    refine (int_any _ _).mono ?_
    rintro e w1 ⟨rfl, hb1⟩
    go_wp2
    go_ret2
    exact ⟨two_e (by rw [HL.out, str_app]) HE.out.symm, hb1⟩
  · have HL : Hid (Vi.textL s.data.toList = []) := by show _ = _; unfold Vi.textL; rw [hl, if_neg h]
    have HE : Hid (Vi.textE s.data.toList = 4) := by show _ = _; unfold Vi.textE; rw [hl, if_neg h]
    clear hl
    go_enter Try.func35, Try.ntmps35
    go_wp2
    go_ret2
    exact ⟨two_e (by rw [HL.out]; rfl) HE.out.symm, Below.refl _ _⟩
end Go.Proofs.Ytlknjdfiedkhbaa
namespace Go.Proofs.Ytlknjdfiedkhbaa
open Go Go.RowKit

theorem rem128 (m : Nat) : ((m : Int).tmod 128) = ((m % 128 : Nat) : Int) := rfl
theorem conv_one (w : World) (g : Nat) (b : UInt8) (h : w.cell? ⟨g, 0, none⟩ = some (.int .u8 (b.toNat : Int))) : (convert 54 9 (.slice (some ⟨g, 0, none⟩) 1 1)).run Try.prog w = .ok (.string (str [b])) w := by
  refine conv_bytes (l := [b]) rfl (fun j hj => ?_)
  obtain rfl : j = 0 := by omega
  rw [Nat.zero_add, h]; rfl

theorem conv_lo (w : World) (q : Nat) : (convert 54 9 (.slice (some ⟨w.heap.size, 0, none⟩) 1 1)).run Try.prog (w.alloc (.cells #[.int .u8 ((q : Int) % 128)] 5)) = .ok (.string (str [UInt8.ofNat (q % 128)])) (w.alloc (.cells #[.int .u8 ((q : Int) % 128)] 5)) := by
  refine conv_one _ _ _ ?_
  rw [(Bk.new w 5 #[.int .u8 ((q : Int) % 128)]).cell 0, UInt8.toNat_ofNat', show q % 128 % 2 ^ 8 = q % 128 by omega]; rfl
/-- a byte above the last one -/
def hiB (q : Nat) : List UInt8 := [UInt8.ofNat (128 + q % 128)]
theorem hiB_size (q : Nat) : (str (hiB q)).size ≤ 1 := by rw [str_size]; simp [hiB]
theorem enc_part {m q : Nat} {l : List UInt8} (hm : m ≤ 2305843009213693952) (h : Vi.hi q ++ l = Vi.enc m) : (str l).size ≤ 9 := by
  have h1 := Vi.enc_len_le 8 m (Nat.lt_of_le_of_lt hm (by decide))
  rw [← h, List.length_append] at h1
  rw [str_size]; omega
theorem conv_hi (w : World) (q : Nat) : (convert 54 9 (.slice (some ⟨w.heap.size, 0, none⟩) 1 1)).run Try.prog (w.alloc (.cells #[.int .u8 (128 + (q : Int) % 128)] 5)) = .ok (.string (str (hiB q))) (w.alloc (.cells #[.int .u8 (128 + (q : Int) % 128)] 5)) := by
  refine conv_one _ _ _ ?_
  rw [(Bk.new w 5 #[.int .u8 (128 + (q : Int) % 128)]).cell 0, UInt8.toNat_ofNat', show (128 + q % 128) % 2 ^ 8 = 128 + q % 128 by omega]; rfl

set_option maxHeartbeats 1000000 in
theorem intR_any (n : Int) (w : World) :
    Calls Try.prog 55 #[.int .i64 n] w fun e w' => e = .returned (.tuple #[.string (str (Vi.intL n)), .int .i64 (Vi.intE n)]) ∧ Below w.heap.size w w' := by
  by_cases h1 : n < -1152921504606846976
  · have HL : Hid (Vi.intL n = []) := by show _ = _; unfold Vi.intL Vi.inR Vi.big; rw [if_neg (by simp; omega)]
    have HE : Hid (Vi.intE n = 2) := by show _ = _; unfold Vi.intE Vi.inR Vi.big; rw [if_neg (by simp; omega)]
    go_enter Try.func55, Try.ntmps55
    go_wp2
    go_ret2
    exact ⟨two_e (by rw [HL.out]; rfl) HE.out.symm, Below.refl _ _⟩
  by_cases h2 : 1152921504606846976 < n
  · have HL : Hid (Vi.intL n = []) := by show _ = _; unfold Vi.intL Vi.inR Vi.big; rw [if_neg (by simp; omega)]
    have HE : Hid (Vi.intE n = 2) := by show _ = _; unfold Vi.intE Vi.inR Vi.big; rw [if_neg (by simp; omega)]
    go_enter Try.func55, Try.ntmps55
    go_wp2
    go_ret2
    exact ⟨two_e (by rw [HL.out]; rfl) HE.out.symm, Below.refl _ _⟩
  have hin : Vi.inR n = true := by rw [Vi.inR_iff]; unfold Vi.big; omega
  have HL : Hid (Vi.intL n = Vi.enc (Vi.zig n)) := by show _ = _; unfold Vi.intL; rw [if_pos hin]
  have HE : Hid (Vi.intE n = 0) := by show _ = _; unfold Vi.intE; rw [if_pos hin]
  have hz := Vi.zig_lt n hin
  clear hin
  have hc1 := conv_lo
  have hc2 := conv_hi
  have fin : ∀ (q : Nat) (l : List UInt8), Vi.hi q ++ l = Vi.enc (Vi.zig n) → q = 0 → str l = str (Vi.intL n) := by
    intro q l h hq
    subst hq
    rw [HL.out, ← h, Vi.hi_zero]; rfl
  have FIN := Lib.hid fin
  clear fin
  have start : Vi.hi (Vi.zig n / 128) ++ [UInt8.ofNat (Vi.zig n % 128)] = Vi.enc (Vi.zig n) := rfl
  have ST := Lib.hid start
  clear start
  by_cases hn : n < 0
  · have HZ : Hid (-2 * n - 1 = (Vi.zig n : Int)) := by show _ = _; unfold Vi.zig; rw [if_pos hn]; omega
    generalize Vi.zig n = m at *
    go_enter Try.func55, Try.ntmps55
    go_upto_region 6 with fail
    rw [HZ.out]
    go_wp2
    go_loopw [4, 5] (fun x y wr => ∃ (q : Nat) (l : List UInt8), q ≤ 2305843009213693952 ∧ x = .int .i64 (q : Int) ∧ y = .string (str l) ∧ Vi.hi q ++ l = Vi.enc m ∧ Below w.heap.size w wr) (fun x _ _ => (intOf x).toNat)
    case atStart => exact ⟨m / 128, _, by omega, by go_num, rfl, ST.out, (Below.refl _ _).alloc (Nat.le_refl _) _⟩
    case round =>
      obtain ⟨q, l, hq, rfl, rfl, hl, hb⟩ := hrel
      have HLq := Lib.hid hl
      have HB := Lib.hid hb
      clear hl hb
      have hs1 := enc_part hz HLq.out
      have hs2 := hiB_size q
      by_cases h0 : 0 < q
      · go_wp2
        go_roundw
        case rel =>
          refine ⟨q / 128, hiB q ++ l, by omega, by go_num, by rw [str_append], ?_, HB.out.alloc HB.out.size _⟩
          have e := HLq.out
          rw [Vi.hi_pos q (by omega), List.append_assoc] at e
          exact e
        case measure => simp [intOf]; omega
      · have FE := FIN.out q l HLq.out (by omega)
        have HFE := Lib.hid FE
        clear FE
        go_wp2
        go_ret2
        exact ⟨two_e HFE.out HE.out.symm, HB.out⟩
  · have HZ : Hid (2 * n = (Vi.zig n : Int)) := by show _ = _; unfold Vi.zig; rw [if_neg hn]; omega
    generalize Vi.zig n = m at *
    go_enter Try.func55, Try.ntmps55
    go_upto_region 6 with fail
    rw [HZ.out]
    go_wp2
    go_loopw [4, 5] (fun x y wr => ∃ (q : Nat) (l : List UInt8), q ≤ 2305843009213693952 ∧ x = .int .i64 (q : Int) ∧ y = .string (str l) ∧ Vi.hi q ++ l = Vi.enc m ∧ Below w.heap.size w wr) (fun x _ _ => (intOf x).toNat)
    case atStart => exact ⟨m / 128, _, by omega, by go_num, rfl, ST.out, (Below.refl _ _).alloc (Nat.le_refl _) _⟩
    case round =>
      obtain ⟨q, l, hq, rfl, rfl, hl, hb⟩ := hrel
      have HLq := Lib.hid hl
      have HB := Lib.hid hb
      clear hl hb
      have hs1 := enc_part hz HLq.out
      have hs2 := hiB_size q
      by_cases h0 : 0 < q
      · go_wp2
        go_roundw
        case rel =>
          refine ⟨q / 128, hiB q ++ l, by omega, by go_num, by rw [str_append], ?_, HB.out.alloc HB.out.size _⟩
          have e := HLq.out
          rw [Vi.hi_pos q (by omega), List.append_assoc] at e
          exact e
        case measure => simp [intOf]; omega
      · have FE := FIN.out q l HLq.out (by omega)
        have HFE := Lib.hid FE
        clear FE
        go_wp2
        go_ret2
        exact ⟨two_e HFE.out HE.out.symm, HB.out⟩
end Go.Proofs.Ytlknjdfiedkhbaa
namespace Go.Proofs.Ytlknjdfiedkhbaa
open Go Go.RowKit


set_option maxHeartbeats 1000000 in
theorem textR_any (s : ByteArray) (hs : s.size ≤ maxLen) (w : World) :
    Calls Try.prog 40 #[.string s] w fun e w' => e = .returned (.tuple #[.string (str (Vi.textL s.data.toList)), .int .i64 (Vi.textE s.data.toList)]) ∧ Below w.heap.size w w' := by
  unfold maxLen at hs
  have hl : s.data.toList.length = s.size := by simp
  by_cases h : s.size ≤ 65536
  · have HL : Hid (Vi.textL s.data.toList = Vi.intL s.size ++ s.data.toList) := by show _ = _; unfold Vi.textL; rw [hl, if_pos h]
    have HE : Hid (Vi.textE s.data.toList = 0) := by show _ = _; unfold Vi.textE; rw [hl, if_pos h]
    have h9 := int_size s.size
    clear hl
    go_enter Try.func40, Try.ntmps40
    go_wp2_with fail
    refine (intR_any _ _).mono ?_
    rintro e w1 ⟨rfl, hb1⟩
    go_wp2
    go_ret2
    exact ⟨two_e (by rw [HL.out, str_app]) HE.out.symm, hb1⟩
  · have HL : Hid (Vi.textL s.data.toList = []) := by show _ = _; unfold Vi.textL; rw [hl, if_neg h]
    have HE : Hid (Vi.textE s.data.toList = 4) := by show _ = _; unfold Vi.textE; rw [hl, if_neg h]
    clear hl
    go_enter Try.func40, Try.ntmps40
    go_wp2
    go_ret2
    exact ⟨two_e (by rw [HL.out]; rfl) HE.out.symm, Below.refl _ _⟩

/-- what has been written of a list behind k elements -/
def partL (l : List Int) (k : Nat) : List UInt8 := Vi.intL l.length ++ ((l.take k).map Vi.intL).flatten
theorem part_zero (l : List Int) : partL l 0 = Vi.intL l.length := by simp [partL]
theorem part_snoc (l : List Int) (k : Nat) (h : k < l.length) : partL l (k + 1) = partL l k ++ Vi.intL (elt l k) := by
  unfold partL
  rw [List.take_succ_eq_append_getElem h, List.map_append, List.flatten_append, List.append_assoc, elt, List.getElem?_eq_getElem h]
  simp
theorem part_len (l : List Int) : ∀ k, (partL l k).length ≤ 9 * (k + 1)
  | 0 => by rw [part_zero]; exact Vi.intL_len9 _
  | k + 1 => by
    by_cases h : k < l.length
    · rw [part_snoc l k h, List.length_append]
      have := part_len l k
      have := Vi.intL_len9 (elt l k)
      omega
    · have e : partL l (k + 1) = partL l k := by unfold partL; rw [List.take_of_length_le (by omega), List.take_of_length_le (by omega)]
      rw [e]
      have := part_len l k
      omega
theorem inR_snoc (l : List Int) (k : Nat) (hk : k < l.length) : (l.take (k + 1)).all Vi.inR = ((l.take k).all Vi.inR && Vi.inR (elt l k)) := by
  rw [List.take_succ_eq_append_getElem hk, List.all_append, elt, List.getElem?_eq_getElem hk]
  simp
theorem inR_not (l : List Int) (k : Nat) (hk : k < l.length) (h : Vi.inR (elt l k) = false) : l.all Vi.inR = false := by
  rw [List.all_eq_false]
  refine ⟨l[k], List.getElem_mem hk, ?_⟩
  rw [elt, List.getElem?_eq_getElem hk] at h
  simpa using h
theorem list_all {l : List Int} (h : l.length ≤ 65536) (h2 : l.all Vi.inR = true) : Vi.listL l = partL l l.length ∧ Vi.listE l = 0 := by
  have e : Vi.listE l = 0 := by unfold Vi.listE; rw [if_pos h, if_pos h2]
  refine ⟨?_, e⟩
  unfold Vi.listL partL
  rw [if_pos e, List.take_of_length_le (Nat.le_refl _)]
theorem list_not {l : List Int} (h : l.length ≤ 65536) (h2 : l.all Vi.inR = false) : Vi.listL l = [] ∧ Vi.listE l = 2 := by
  have e : Vi.listE l = 2 := by unfold Vi.listE; rw [if_pos h, if_neg (by rw [h2]; decide)]
  refine ⟨?_, e⟩
  unfold Vi.listL
  rw [if_neg (by rw [e]; decide)]
theorem list_long {l : List Int} (h : ¬ l.length ≤ 65536) : Vi.listL l = [] ∧ Vi.listE l = 4 := by
  have e : Vi.listE l = 4 := by unfold Vi.listE; rw [if_neg h]
  refine ⟨?_, e⟩
  unfold Vi.listL
  rw [if_neg (by rw [e]; decide)]
theorem intE_of {n : Int} {b : Bool} (h : Vi.inR n = b) : Vi.intE n = if b = true then 0 else 2 := by unfold Vi.intE; rw [h]
theorem conv_brow {w : World} {base n : Nat} {v : Value} {l : List UInt8} (hl : l.length = n) (h : BRow w base v n (l.map byteV)) :
    (convert 54 9 v).run Try.prog w = .ok (.string (str l)) w := by
  obtain ⟨g, cap, rfl⟩ := h.form
  exact conv_bytes hl (fun j hj => by rw [Nat.zero_add, h.cells j hj, List.getElem?_map, List.getElem?_eq_getElem (by omega)]; rfl)

end Go.Proofs.Ytlknjdfiedkhbaa
