/- Chain of the program, walked. Conditions: the strings lie in memory, each of at most 10^9 bytes. -/
import Derived.Lib.AppendStr
import Derived.Test.YtdjpidniakedpaaKhDerive
namespace Go.Proofs.Ytdjpidniakedpaa
open Go Go.RowKit

/-- the slice's cells are these strings -/
def StrsAt (w : World) (A : Option Addr) (ss : List ByteArray) : Prop := ∀ k s, ss[k]? = some s → ∃ b off, A = some ⟨b, off, none⟩ ∧ w.cell? ⟨b, off + k, none⟩ = some (.string s)
theorem StrsAt.below {w w' : World} {A : Option Addr} {ss : List ByteArray} (h : StrsAt w A ss) (hb : Below w.heap.size w w') : StrsAt w' A ss := by
  intro k s hk
  obtain ⟨b, off, hA, hc⟩ := h k s hk
  exact ⟨b, off, hA, (hb.cell (p := ⟨b, off + k, none⟩) (World.block_lt_of_cell? w _ hc)).trans hc⟩

def chunk (s : ByteArray) : List UInt8 := Kh.bytes8 s.size ++ s.data.toList
def allB (ss : List ByteArray) : List UInt8 := (ss.map chunk).flatten
theorem chunk_len (s : ByteArray) : (chunk s).length = 8 + s.size := by simp [chunk, Kh.bytes8]
theorem allB_snoc (ss : List ByteArray) (k : Nat) (s : ByteArray) (h : ss[k]? = some s) : allB (ss.take (k + 1)) = allB (ss.take k) ++ chunk s := by
  obtain ⟨hk, hs⟩ := List.getElem?_eq_some_iff.1 h
  rw [List.take_succ_eq_append_getElem hk, hs]
  simp [allB]
theorem allB_take_le (ss : List ByteArray) (k : Nat) : (allB (ss.take k)).length ≤ (allB ss).length := by
  have e : allB ss = allB (ss.take k) ++ allB (ss.drop k) := by
    unfold allB
    rw [← List.flatten_append, ← List.map_append, List.take_append_drop]
  rw [e, List.length_append]; omega

/-- what Chain gives -/
def chS (key : ByteArray) (ss : List ByteArray) : ByteArray := if key.size = 16 ∧ (allB ss).length ≤ 65536 then str (Kh.tag key.data.toList (allB ss)) else ⟨#[]⟩
def chE (key : ByteArray) (ss : List ByteArray) : Int := if key.size = 16 then (if (allB ss).length ≤ 65536 then 0 else 4) else 1

theorem own_form {w : World} {base : Nat} {e : TypeId} {v : Value} {n : Nat} {xs : List Value} (h : w.ownsRow base e 1 v n xs) : ∃ A c, v = .slice A n c := by
  rcases h.2 with ⟨rfl, rfl⟩ | ⟨g, cap, _, rfl, _⟩
  · exact ⟨_, _, rfl⟩
  · exact ⟨_, _, rfl⟩

/-- What the call's own row of bytes holds, nil or not, converted to a string. -/
theorem conv_any {w : World} {base n : Nat} {v : Value} {l : List UInt8} (hl : l.length = n) (h : w.ownsRow base 5 1 v n (l.map byteV)) :
    (convert 28 9 v).run Try.prog w = .ok (.string (str l)) w := by
  cases n with
  | succ n =>
    obtain ⟨g, cap, rfl⟩ := ownsRow_succ h
    exact conv_own hl h
  | zero =>
    obtain rfl : l = [] := List.eq_nil_of_length_eq_zero hl
    rcases h.2 with ⟨rfl, _⟩ | ⟨g, cap, _, rfl, _⟩
    · exact run_convert_bytes_nil w 28 5 Try.underlying28 Try.underlying5 0 0 9 Try.underlying9
    · exact conv_bytes (l := []) rfl (fun j hj => absurd hj (by omega))

set_option maxHeartbeats 2000000 in
theorem chain_any (key : ByteArray) (A : Option Addr) (cap : Nat) (ss : List ByteArray) (hz : ∀ (k : Nat) (s : ByteArray), ss[k]? = some s → s.size ≤ 1000000000) (hlen : ss.length ≤ 1000000000) (w : World) (hS : StrsAt w A ss) :
    Calls Try.prog 19 #[.string key, .slice A ss.length cap] w fun e w' => e = .returned (.tuple #[.string (chS key ss), .int .i64 (chE key ss)]) ∧ Below w.heap.size w w' := by
  obtain ⟨i0, hi, hz0, hz1, hz2⟩ := info_parts infoByte
  by_cases hk : key.size = 16
  · have HK := Lib.hid hk
    have hkb : ((key.size : Int) != 16) = false := by rw [hk]; rfl
    have HZ := Lib.hid hz
    have HS := Lib.hid hS
    clear hk hz hS
    go_enter Try.func19, Try.ntmps19
    go_wp2
    go_loopw [6, 14] (fun v i wr => ∃ k : Nat, k ≤ ss.length ∧ i = .int .i64 k ∧ wr.ownsRow w.heap.size 5 1 v (allB (ss.take k)).length ((allB (ss.take k)).map byteV) ∧ Below w.heap.size w wr ∧ (allB (ss.take k)).length ≤ 65536) (fun _ i _ => ss.length - (intOf i).toNat)
    case atStart => exact ⟨0, by omega, rfl, World.ownsRow_nil _ _ _ _, Below.refl _ _, by simp [allB]⟩
    case round =>
      obtain ⟨k, hkn, rfl, ho, hb, hfit⟩ := hrel
      have HO := Lib.hid ho
      have HB := Lib.hid hb
      obtain ⟨A0, c0, hv0⟩ := own_form ho
      subst hv0
      clear ho hb
      by_cases hlt : k < ss.length
      · obtain ⟨s, hs⟩ : ∃ s, ss[k]? = some s := ⟨_, List.getElem?_eq_getElem hlt⟩
        obtain ⟨b, off, rfl, hc⟩ := (HS.out.below HB.out) k s hs
        have hsz := HZ.out k s hs
        have hsn := allB_snoc ss k s hs
        have hln : (allB (ss.take (k + 1))).length = (allB (ss.take k)).length + (8 + s.size) := by rw [hsn, List.length_append, chunk_len]
        have Hs := Lib.hid hs
        have Hsn := Lib.hid hsn
        have Hln := Lib.hid hln
        clear hs hsn hln
        generalize hL : (allB (ss.take k)).length = L at *
        have HL := Lib.hid hL
        clear hL
        by_cases hs1 : s.size ≤ 65536
        · by_cases hs2 : L + 8 + s.size ≤ 65536
          · go_wp2_with fail
            refine (appendWord_any w.heap.size _ L _ s.size _ HO.out (by omega) HB.out.size).mono ?_
            rintro e w1 ⟨v1, rfl, ho1, hb1⟩
            have HB1 := Lib.hid (HB.out.trans hb1)
            clear hb1
            go_wp2_with (at_builtin; refine Lib.wpList_append_own_string _ rfl (.tmp 34) (.tmp 35) 28 9 rfl w.heap.size 5 i0 Try.underlying28 Try.underlying9 hi hz0 hz1 hz2 v1 (L + 8) _ rfl ho1 s rfl ?c1 ?c2 ?c3 ?_)
            case c1 => unfold maxLen; omega
            case c2 => omega
            case c3 => exact HB1.out.size
            intro v2 w2 ho2 hg2 _
            have HB2 := Lib.hid (HB1.out.grown hg2 HB1.out.size (fun g hg => (ho1.lt g hg).1))
            have HO2 : Hid (w2.ownsRow w.heap.size 5 1 v2 (allB (ss.take (k + 1))).length ((allB (ss.take (k + 1))).map byteV)) := by
              have e1 : (allB (ss.take (k + 1))).length = L + 8 + s.size := by rw [Hln.out]; omega
              have e2 : (allB (ss.take (k + 1))).map byteV = (allB (ss.take k)).map byteV ++ ((Kh.bytes8 s.size).map byteV ++ Lib.strCells s) := by
                rw [Hsn.out, List.map_append, chunk, List.map_append]; rfl
              rw [e1, e2]
              exact ho2
            clear ho1 ho2 hg2
            go_wp2
            go_roundw
            case rel => exact ⟨k + 1, by omega, by go_num, HO2.out, HB2.out, by rw [Hln.out]; omega⟩
            case measure => simp [intOf]; omega
          · have hno : ¬ (allB ss).length ≤ 65536 := by
              have h := allB_take_le ss (k + 1)
              have e := Hln.out
              omega
            have HN := Lib.hid hno
            clear hno
            go_wp2
            go_ret2
            exact ⟨ret2 (by unfold chS; rw [if_neg (fun h => HN.out h.2)]) (by unfold chE; rw [if_pos HK.out, if_neg HN.out]), HB.out⟩
        · have hno : ¬ (allB ss).length ≤ 65536 := by
            have h := allB_take_le ss (k + 1)
            have e := Hln.out
            omega
          have HN := Lib.hid hno
          clear hno
          go_wp2
          go_ret2
          exact ⟨ret2 (by unfold chS; rw [if_neg (fun h => HN.out h.2)]) (by unfold chE; rw [if_pos HK.out, if_neg HN.out]), HB.out⟩
      · obtain rfl : k = ss.length := by omega
        simp only [List.take_length] at HO hfit ⊢
        have hcv := conv_any rfl HO.out
        have HF := Lib.hid hfit
        have hsz : (str (allB ss)).size ≤ 100000 := by rw [str_size]; omega
        clear hfit
        generalize hL : (allB ss).length = L at *
        have HL := Lib.hid hL
        clear hL
        have Hsz := Lib.hid hsz
        clear hsz
        go_wp2_with fail
        refine (tag_any key (str (allB ss)) HK.out Hsz.out _).mono ?_
        rintro e w1 ⟨rfl, hb1⟩
        rw [str_list]
        go_wp2
        go_ret2
        have hfin : (allB ss).length ≤ 65536 := by rw [HL.out]; exact HF.out
        exact ⟨ret2 (by unfold chS; rw [if_pos ⟨HK.out, hfin⟩]) (by unfold chE; rw [if_pos HK.out, if_pos hfin]), HB.out.trans (hb1.mono HB.out.size)⟩
  · have hkb : ((key.size : Int) != 16) = true := by rw [bne_iff_ne]; omega
    go_enter Try.func19, Try.ntmps19
    go_wp2
    go_ret2
    exact ⟨ret2 (by unfold chS; rw [if_neg (fun h => hk h.1)]) (by unfold chE; rw [if_neg hk]), Below.refl _ _⟩

end Go.Proofs.Ytdjpidniakedpaa
