/- The program's reader: what is left, noting an error, reading an integer. Walked. Conditions: the reader lies in one block; its place is in the string. -/
import Derived.Test.YtlknjdfiedkhbaaViReadIntR
import Derived.Deep.QuietTactic
import Derived.BigQuiet
namespace Go.Proofs.Ytlknjdfiedkhbaa
open Go Go.RowKit

/-- block g is a reader of s at p that has noted er -/
def Rdr (w : World) (g : Nat) (s : ByteArray) (p er : Int) : Prop := Bk w g 119 #[.string s, .int .i64 p, .int .i64 er]
theorem Rdr.c0 {w : World} {g : Nat} {s : ByteArray} {p er : Int} (h : Rdr w g s p er) : w.cell? ⟨g, 0, none⟩ = some (.string s) := Bk.cell h 0
theorem Rdr.c1 {w : World} {g : Nat} {s : ByteArray} {p er : Int} (h : Rdr w g s p er) : w.cell? ⟨g, 1, none⟩ = some (.int .i64 p) := Bk.cell h 1
theorem Rdr.c2 {w : World} {g : Nat} {s : ByteArray} {p er : Int} (h : Rdr w g s p er) : w.cell? ⟨g, 2, none⟩ = some (.int .i64 er) := Bk.cell h 2
theorem Rdr.drewN {w : World} {g : Nat} {s : ByteArray} {p er : Int} (h : Rdr w g s p er) (n : Nat) : Rdr (w.drewN n) g s p er := Bk.drewN h n
theorem Rdr.err {w : World} {g : Nat} {s : ByteArray} {p er : Int} (h : Rdr w g s p er) (x : Int) : Rdr (w.setCell ⟨g, 2, none⟩ (.int .i64 x)) g s p x := Bk.put h 2 _
theorem Rdr.go {w : World} {g : Nat} {s : ByteArray} {p er : Int} (h : Rdr w g s p er) (x : Int) : Rdr (w.setCell ⟨g, 1, none⟩ (.int .i64 x)) g s x er := Bk.put h 1 _
theorem grown_drewN {w0 w : World} {g : Nat} (h : w0.grownBy w (some g)) (n : Nat) : w0.grownBy (w.drewN n) (some g) := ⟨h.os, h.tape, h.output, h.size, h.block⟩

set_option maxHeartbeats 1000000 in
theorem rest_any (g : Nat) (s : ByteArray) (p : Nat) (er : Int) (w : World) (hB : Rdr w g s p er) (hp : p ≤ s.size) (hs : s.size ≤ maxLen) :
    Calls Try.prog 80 #[.pointer (some ⟨g, 0, none⟩)] w fun e w' => e = .returned (.int .i64 ((s.size : Int) - p)) ∧ ∃ n, w' = w.drewN n := by
  unfold maxLen at hs
  have c0 := hB.c0
  have c1 := hB.c1
  clear hB
  go_enter Try.func80, Try.ntmps80
  go_wp2
  go_quiet (fail)
  go_wp2
  go_ret
  exact ⟨rfl, _, rfl⟩
set_option maxHeartbeats 1000000 in
theorem fail_any (g : Nat) (s : ByteArray) (p : Int) (x : Int) (w : World) (hB : Rdr w g s p 0) :
    Calls Try.prog 81 #[.pointer (some ⟨g, 0, none⟩), .int .i64 x] w fun e w' => e = .returned (.tuple #[]) ∧ w' = w.setCell ⟨g, 2, none⟩ (.int .i64 x) := by
  have c2 := hB.c2
  have cf : w.frozen? ⟨g, 2, none⟩ = false := Bk.free hB 2
  clear hB
  go_enter Try.func81, Try.ntmps81
  go_wp2
  go_end0
  exact ⟨rfl, rfl⟩
set_option maxHeartbeats 1000000 in
theorem fail_no (g : Nat) (s : ByteArray) (p er : Int) (x : Int) (w : World) (hB : Rdr w g s p er) (he : er ≠ 0) :
    Calls Try.prog 81 #[.pointer (some ⟨g, 0, none⟩), .int .i64 x] w fun e w' => e = .returned (.tuple #[]) ∧ w = w' := by
  have c2 := hB.c2
  have hb : (er == 0) = false := by rw [beq_eq_false_iff_ne]; exact he
  clear hB he
  go_enter Try.func81, Try.ntmps81
  go_wp2
  go_end0
  exact ⟨rfl, rfl⟩

/-- what reading an integer leaves -/
def RetRead (w : World) (g : Nat) (s : ByteArray) (p : Nat) (e : Ending) (w' : World) : Prop :=
  e = .returned (.int .i64 (Vi.rd (s.data.toList.drop p)).1) ∧ Rdr w' g s ((p + (Vi.rd (s.data.toList.drop p)).2.1 : Nat) : Int) (Vi.rd (s.data.toList.drop p)).2.2 ∧ w.grownBy w' (some g)
theorem retRead_of {w : World} {g : Nat} {s : ByteArray} {p : Nat} {n : Int} {k : Nat} {er : Int} {w' : World} (h : Vi.rd (s.data.toList.drop p) = (n, k, er)) {x : Int} (hx : x = n) (hR : Rdr w' g s ((p + k : Nat) : Int) er) (hg : w.grownBy w' (some g)) : RetRead w g s p (.returned (.int .i64 x)) w' := by
  unfold RetRead
  rw [h, hx]
  exact ⟨rfl, hR, hg⟩
theorem and127 (c : UInt8) : bits .and .u8 (c.toNat : Int) 127 = ((c.toNat % 128 : Nat) : Int) := by
  have h := and_spell c.toNat
  have e : ((c.toNat : Int) % 256) = (c.toNat : Int) := by have := c.toNat_lt; omega
  rw [e, UInt8.toNat_ofNat', show c.toNat % 128 % 2 ^ 8 = c.toNat % 128 by omega] at h
  exact h
theorem or128 (m c : Nat) (hm : m < 72057594037927936) : bits .or .i64 ((m : Int) * 128) ((c % 128 : Nat) : Int) = ((m * 128 + c % 128 : Nat) : Int) := by
  have e1 : (m : Int) * 128 = ((m * 128 : Nat) : Int) := by omega
  rw [e1]
  show IntKind.i64.wrap ((BitVec.ofInt 64 ((m * 128 : Nat) : Int) ||| BitVec.ofInt 64 ((c % 128 : Nat) : Int)).toNat : Int) = _
  rw [BitVec.toNat_or, BitVec.ofInt_natCast, BitVec.ofInt_natCast, BitVec.toNat_ofNat, BitVec.toNat_ofNat, Nat.mod_eq_of_lt (by omega), Nat.mod_eq_of_lt (by omega), show m * 128 = 2 ^ 7 * m by omega, ← Nat.two_pow_add_eq_or_of_lt (by omega)]
  rw [IntKind.wrap_i64]
  omega

theorem and_one (m : Nat) (hm : m < 9223372036854775808) : bits .and .i64 (m : Int) 1 = ((m % 2 : Nat) : Int) := by
  show IntKind.i64.wrap ((BitVec.ofInt 64 (m : Int) &&& BitVec.ofInt 64 ((1 : Nat) : Int)).toNat : Int) = _
  rw [BitVec.toNat_and, BitVec.ofInt_natCast, BitVec.ofInt_natCast, BitVec.toNat_ofNat, BitVec.toNat_ofNat, Nat.mod_eq_of_lt (by omega), show 1 % 2 ^ 64 = 2 ^ 1 - 1 from rfl, Nat.and_two_pow_sub_one_eq_mod]
  rw [IntKind.wrap_i64]
  omega

set_option maxRecDepth 100000 in
set_option maxHeartbeats 4000000 in
theorem integer_any (g : Nat) (s : ByteArray) (p : Nat) (w : World) (hB : Rdr w g s p 0) (hp : p ≤ s.size) (hs : s.size ≤ maxLen) :
    Calls Try.prog 78 #[.pointer (some ⟨g, 0, none⟩)] w (RetRead w g s p) := by
  have hsm := hs
  unfold maxLen at hs
  have c2 := hB.c2
  have HB := Lib.hid hB
  clear hB
  go_enter Try.func78, Try.ntmps78
  go_wp2
  clear c2
  go_loopw [3, 4, 5, 6] (fun x i la _ wr => ∃ (k m : Nat), i = .int .i64 k ∧ x = .int .i64 m ∧ Rdr wr g s p 0 ∧ w.grownBy wr (some g) ∧
    ((la = .bool false ∧ k ≤ 9 ∧ p + k ≤ s.size ∧ m < 128 ^ k ∧ Vi.scan (9 - k) m k (s.data.toList.drop (p + k)) = Vi.scan 9 0 0 (s.data.toList.drop p)) ∨
     (la = .bool true ∧ 1 ≤ k ∧ p + k ≤ s.size ∧ m < 9223372036854775808 ∧ Vi.scan 9 0 0 (s.data.toList.drop p) = (m, k, 0)))) (fun _ i la _ _ => match la with | .bool false => 10 - (intOf i).toNat | _ => 0)
  case atStart => exact ⟨0, 0, rfl, rfl, HB.out, World.grownBy.refl w _, .inl ⟨rfl, by omega, by omega, by decide, rfl⟩⟩
  case round =>
    obtain ⟨k, m, rfl, rfl, hR, hG, hor⟩ := hrel
    have HR := Lib.hid hR
    have HG := Lib.hid hG
    clear hR hG HB
    rcases hor with ⟨rfl, hk9, hpk, hm, hsc⟩ | ⟨rfl, hk1, hpk, hm, hsc⟩
    · have HSC := Lib.hid hsc
      have HM := Lib.hid hm
      clear hsc hm
      by_cases hk : k < 9
      · have h9b : ((k : Int) == 9) = false := by rw [beq_eq_false_iff_ne]; omega
        obtain ⟨f, hf⟩ : ∃ f, 9 - k = f + 1 := ⟨8 - k, by omega⟩
        have HF := Lib.hid hf
        clear hf
        have hm8 : m < 72057594037927936 := Nat.lt_of_lt_of_le HM.out (pow_mono8 (by omega))
        go_wp2_with fail
        refine (rest_any g s p 0 _ HR.out hp hsm).mono ?_
        rintro e w1 ⟨rfl, n1, rfl⟩
        by_cases hlen : s.size = p + k
        · have hlb : ((s.size : Int) - p == k) = true := by rw [beq_iff_eq]; omega
          have HRD : Hid (Vi.rd (s.data.toList.drop p) = (0, 0, 12)) := by
            show _ = _
            have e := HSC.out
            rw [HF.out, List.drop_eq_nil_of_le (by simp; omega), scan_none] at e
            exact rd_err' e.symm (by decide)
          clear hlen
          go_wp2_with fail
          refine (fail_any g s p 12 _ (HR.out.drewN n1)).mono ?_
          rintro e w2 ⟨rfl, rfl⟩
          go_wp2
          go_ret
          exact retRead_of HRD.out rfl ((HR.out.drewN n1).err 12) (grown_join (grown_drewN HG.out n1) (grown_put _ _ _ _))
        · have hlb : ((s.size : Int) - p == k) = false := by rw [beq_eq_false_iff_ne]; omega
          have hlt : p + k < s.size := by omega
          clear hlen
          have c0 := HR.out.c0
          have c1 := HR.out.c1
          have HD : Hid (s.data.toList.drop (p + k) = s[p + k] :: s.data.toList.drop (p + k + 1)) := drop_at s (p + k) hlt
          have ha := and127 s[p + k]
          have ho := or128 m s[p + k].toNat hm8
          have q1 : IntKind.i64.wrap ((p : Int) + (k : Int)) = (p : Int) + (k : Int) := IntWalk.i64_in _ (by omega)
          have q2 : (0 : Int) ≤ (p : Int) + (k : Int) := by omega
          have q3 : ((p : Int) + (k : Int)).toNat = p + k := by omega
          have q4 : (p : Int) + (k : Int) < (s.size : Int) := by omega
          go_wp2_with fail
          go_quiet (fail)
          generalize s[p + k] = c at ha ho HD ⊢
          clear q1 q2 q3 q4
          have hc := c.toNat_lt
          by_cases hge : 128 ≤ c.toNat
          · have HN : Hid (Vi.scan (9 - (k + 1)) (m * 128 + c.toNat % 128) (k + 1) (s.data.toList.drop (p + (k + 1))) = Vi.scan 9 0 0 (s.data.toList.drop p)) := by
              show _ = _
              rw [← HSC.out, HD.out, HF.out, scan_up hge, show 9 - (k + 1) = f by have := HF.out; omega]; rfl
            have HB1 : Hid (m * 128 + c.toNat % 128 < 128 ^ (k + 1)) := by
              show _ < _
              have := HM.out
              rw [Nat.pow_succ]; omega
            have hd : decide ((c.toNat : Int) < 128) = false := by simp; omega
            have HO : Hid (bits .or .i64 ((m : Int) * 128) ((c.toNat : Int) % 128) = ((m * 128 + c.toNat % 128 : Nat) : Int)) := ho
            clear ho
            have HD2 := Lib.hid hd
            clear hd
            go_wp2
            rw [HD2.out, HO.out]
            refine ⟨⟨k + 1, m * 128 + c.toNat % 128, by go_num, rfl, HR.out.drewN _, grown_drewN HG.out _, .inl ⟨rfl, by omega, by omega, HB1.out, HN.out⟩⟩, ?_⟩
            simp [intOf]; omega
          · have HN : Hid (Vi.scan 9 0 0 (s.data.toList.drop p) = (m * 128 + c.toNat % 128, k + 1, 0)) := by
              show _ = _
              rw [← HSC.out, HD.out, HF.out, scan_end hge]
            have hd : decide ((c.toNat : Int) < 128) = true := by simp; omega
            have HO : Hid (bits .or .i64 ((m : Int) * 128) ((c.toNat : Int) % 128) = ((m * 128 + c.toNat % 128 : Nat) : Int)) := ho
            clear ho
            have HD2 := Lib.hid hd
            clear hd
            go_wp2
            rw [HD2.out, HO.out]
            refine ⟨⟨k + 1, m * 128 + c.toNat % 128, by go_num, rfl, HR.out.drewN _, grown_drewN HG.out _, .inr ⟨rfl, by omega, by omega, by omega, HN.out⟩⟩, ?_⟩
            simp [intOf]; omega
      · obtain rfl : k = 9 := by omega
        have HRD : Hid (Vi.rd (s.data.toList.drop p) = (0, 0, 11)) := by
          show _ = _
          exact rd_err' HSC.out.symm (by decide)
        clear hk hk9
        go_wp2_with fail
        refine (fail_any g s p 11 _ HR.out).mono ?_
        rintro e w2 ⟨rfl, rfl⟩
        go_wp2
        go_ret
        exact retRead_of HRD.out rfl (HR.out.err 11) (grown_join HG.out (grown_put _ _ _ _))
    · have HSC := Lib.hid hsc
      have hlt : p < s.size := by omega
      have c0 := HR.out.c0
      have c1 := HR.out.c1
      have HH : Hid (Vi.head (s.data.toList.drop p) = s[p].toNat) := by
        show _ = _
        rw [drop_at s p hlt]; rfl
      clear hsc
      have q2 : (0 : Int) ≤ (p : Int) := by omega
      have q3 : ((p : Int)).toNat = p := by omega
      have q4 : (p : Int) < (s.size : Int) := by omega
      go_wp2_with fail
      go_quiet (fail)
      generalize s[p] = c at HH ⊢
      clear q2 q3 q4
      by_cases hh : c.toNat = 128
      · have HRD : Hid (Vi.rd (s.data.toList.drop p) = (0, 0, 11)) := by
          show _ = _
          exact rd_no HSC.out (.inl (by rw [HH.out]; exact hh))
        have hb0 : ((c.toNat : Int) == 128) = true := by rw [hh]; rfl
        clear hh
        go_wp2_with fail
        refine (fail_any g s p 11 _ (HR.out.drewN nq)).mono ?_
        rintro e w2 ⟨rfl, rfl⟩
        go_wp2
        go_ret
        exact retRead_of HRD.out rfl ((HR.out.drewN nq).err 11) (grown_join (grown_drewN HG.out nq) (grown_put _ _ _ _))
      · have hb0 : ((c.toNat : Int) == 128) = false := by rw [beq_eq_false_iff_ne]; omega
        have HHN : Hid (Vi.head (s.data.toList.drop p) ≠ 128) := by
          show _ ≠ _
          rw [HH.out]; exact hh
        clear hh
        by_cases hodd : m % 2 = 1
        · have hbo : (bits .and .i64 (m : Int) 1 == 1) = true := by rw [and_one m hm, hodd]; rfl
          have HU0 : Vi.unzig m = -((m : Int) / 2) - 1 := by unfold Vi.unzig; rw [if_pos hodd]; omega
          have HU := Lib.hid HU0
          clear HU0
          go_wp2_with fail
          refine (inRange_any _ _).mono ?_
          rintro e w2 ⟨rfl, rfl⟩
          cases hin : Vi.inR (-((m : Int) / 2) - 1) with
          | false =>
            have HRD : Hid (Vi.rd (s.data.toList.drop p) = (0, 0, 11)) := by
              show _ = _
              exact rd_no HSC.out (.inr (by rw [HU.out]; exact hin))
            clear hin
            go_wp2_with fail
            refine (fail_any g s p 11 _ (HR.out.drewN nq)).mono ?_
            rintro e w2 ⟨rfl, rfl⟩
            go_wp2
            go_ret
            exact retRead_of HRD.out rfl ((HR.out.drewN nq).err 11) (grown_join (grown_drewN HG.out nq) (grown_put _ _ _ _))
          | true =>
            have HRD : Hid (Vi.rd (s.data.toList.drop p) = (-((m : Int) / 2) - 1, k, 0)) := by
              show _ = _
              have e := rd_yes HSC.out HHN.out (by rw [HU.out]; exact hin)
              rw [HU.out] at e
              exact e
            have cf : wr.frozen? ⟨g, 1, none⟩ = false := Bk.free HR.out 1
            clear hin
            go_wp2
            go_ret
            exact retRead_of HRD.out rfl (by have h := (HR.out.drewN nq).go ((p : Int) + (k : Int)); rwa [← Int.natCast_add] at h) (grown_join (grown_drewN HG.out nq) (grown_put _ _ _ _))
        · have hbo : (bits .and .i64 (m : Int) 1 == 1) = false := by rw [and_one m hm]; rw [beq_eq_false_iff_ne]; omega
          have HU0 : Vi.unzig m = (m : Int) / 2 := by unfold Vi.unzig; rw [if_neg hodd]
          have HU := Lib.hid HU0
          clear HU0
          go_wp2_with fail
          refine (inRange_any _ _).mono ?_
          rintro e w2 ⟨rfl, rfl⟩
          cases hin : Vi.inR ((m : Int) / 2) with
          | false =>
            have HRD : Hid (Vi.rd (s.data.toList.drop p) = (0, 0, 11)) := by
              show _ = _
              exact rd_no HSC.out (.inr (by rw [HU.out]; exact hin))
            clear hin
            go_wp2_with fail
            refine (fail_any g s p 11 _ (HR.out.drewN nq)).mono ?_
            rintro e w2 ⟨rfl, rfl⟩
            go_wp2
            go_ret
            exact retRead_of HRD.out rfl ((HR.out.drewN nq).err 11) (grown_join (grown_drewN HG.out nq) (grown_put _ _ _ _))
          | true =>
            have HRD : Hid (Vi.rd (s.data.toList.drop p) = ((m : Int) / 2, k, 0)) := by
              show _ = _
              have e := rd_yes HSC.out HHN.out (by rw [HU.out]; exact hin)
              rw [HU.out] at e
              exact e
            have cf : wr.frozen? ⟨g, 1, none⟩ = false := Bk.free HR.out 1
            clear hin
            go_wp2
            go_ret
            exact retRead_of HRD.out rfl (by have h := (HR.out.drewN nq).go ((p : Int) + (k : Int)); rwa [← Int.natCast_add] at h) (grown_join (grown_drewN HG.out nq) (grown_put _ _ _ _))
end Go.Proofs.Ytlknjdfiedkhbaa
