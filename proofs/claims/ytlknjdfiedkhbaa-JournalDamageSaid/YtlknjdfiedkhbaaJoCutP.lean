/- A journal that is cut off, and one in which a byte is changed, as plain data. No program is in sight here. -/
import Derived.Test.YtlknjdfiedkhbaaJoSlice
namespace Go.Proofs.Ytlknjdfiedkhbaa
open Go Go.RowKit
open Jo (RId Itm Rec)
open Crc (upd sum bytes4 stepN)

/-- the size of the journal of the first k records -/
def sz (l : List Rec) (k : Nat) : Nat := (catL (l.take k)).length
def szL (l : List Rec) (n : Nat) : List Int := (List.range n).map fun k => (sz l k : Int)
theorem szL_len (l : List Rec) (n : Nat) : (szL l n).length = n := by simp [szL]
theorem szL_at (l : List Rec) (n k : Nat) (h : k < n) : (szL l n)[k]? = some (sz l k : Int) := by simp [szL, h]
theorem szL_succ (l : List Rec) (n : Nat) : szL l (n + 1) = szL l n ++ [(sz l n : Int)] := by simp [szL, List.range_succ]
theorem sz_zero (l : List Rec) : sz l 0 = 0 := by simp [sz, catL]
theorem sz_len (l : List Rec) : sz l l.length = (catL l).length := by rw [sz, List.take_length]
theorem sz_succ {l : List Rec} {k : Nat} {r : Rec} (h : l[k]? = some r) : sz l (k + 1) = sz l k + (recL r).length := by
  unfold sz
  rw [cat_snoc l k r h, List.length_append]
theorem sz_le (l : List Rec) (k : Nat) : sz l k ≤ (catL l).length := catL_take_le l k
theorem cat_at {l : List Rec} {k : Nat} {r : Rec} (h : l[k]? = some r) : catL l = catL (l.take k) ++ (recL r ++ catL (l.drop (k + 1))) := by
  have hk : k < l.length := (List.getElem?_eq_some_iff.1 h).1
  have e : l[k] = r := (List.getElem?_eq_some_iff.1 h).2
  rw [← catL_cons, ← e, List.getElem_cons_drop, catL_split]
/-- what is read is what is complete -/
theorem read_front {l : List Rec} (h : errL l = 0) (k : Nat) {T : List UInt8} (hT : firstL T = none) : readL (catL (l.take k) ++ T) = (l.take k, sz l k) := by
  rw [read_cat _ _ (errL_take h k).1, read_none hT]
  simp [sz]
theorem first_nil : firstL [] = none := by
  cases c : firstL [] with
  | none => rfl
  | some p => have := first_canon (r := p.1) (k := p.2) c; simp at this; omega
theorem cut_read {l : List Rec} (h : errL l = 0) {k cut : Nat} (hk : k ≤ l.length) (h1 : sz l k ≤ cut) (h2 : k < l.length → cut < sz l (k + 1)) (h3 : cut ≤ (catL l).length) : readL ((catL l).take cut) = (l.take k, sz l k) := by
  by_cases hlt : k < l.length
  · obtain ⟨r, hr⟩ : ∃ r, l[k]? = some r := ⟨_, List.getElem?_eq_getElem hlt⟩
    have h4 := h2 hlt
    rw [sz_succ hr] at h4
    have e : (catL l).take cut = catL (l.take k) ++ (recL r).take (cut - sz l k) := by
      have hs : (catL (l.take k)).length = sz l k := rfl
      rw [cat_at hr, List.take_append, List.take_of_length_le (by omega), List.take_append_of_le_length (by omega), hs]
    rw [e]
    exact read_front h k (first_cut (errL_rec h r (List.mem_of_getElem? hr)) _ (by omega))
  · obtain rfl : k = l.length := by omega
    have e : (catL l).take cut = catL (l.take l.length) ++ [] := by
      rw [List.take_length, List.append_nil, List.take_of_length_le]
      rw [sz_len] at h1
      exact h1
    rw [e]
    exact read_front h _ first_nil

/-! A changed byte. -/
theorem seal_head {S : List UInt8} (h : S.length ≤ 65536) : (Vi.intL S.length).length ≤ 3 := by
  unfold Vi.intL
  rw [if_pos (Vi.small_inR _ h)]
  exact Vi.enc_len_le 2 _ (by unfold Vi.zig; split <;> omega)
theorem damage_tail {S : List UInt8} (h : S.length ≤ 65536) (p : Nat) (t R : List UInt8) (hlen : t.length = (sealL S).length) (hat : ∀ j, j < p ∨ p + 4 ≤ j → t[j]? = (sealL S)[j]?) (h1 : (Vi.intL S.length).length ≤ p) (h2 : p ≤ (sealL S).length) :
    sealL S = t ∨ openR (t ++ R) = ([], 0, 13) := by
  have hsz := seal_size h
  have hfit : upd Crc.most (sealL S) = stepN 32 Crc.most := by
    rw [(seal_parts h).1]
    exact (Crc.frame_fits (Vi.intL S.length ++ S) (bytes4 (sum (Vi.intL S.length ++ S))) rfl).1 rfl
  have hpre : (sealL S).take (Vi.intL S.length).length = Vi.intL S.length := by
    rw [(seal_parts h).1, List.append_assoc, List.take_left]
  have hdet := fun hs => Crc.detects (l := sealL S) (t := t) (a := p) Crc.most hlen.symm h2 (fun j hj => hat j hj) hs
  generalize hI : Vi.intL (S.length : Int) = I at *
  have hp2 : t.take I.length = I := by
    refine Eq.trans ?_ hpre
    refine List.ext_getElem? (fun j => ?_)
    by_cases hj : j < I.length
    · rw [List.getElem?_take_of_lt hj, List.getElem?_take_of_lt hj]
      exact hat j (.inl (by omega))
    · rw [List.getElem?_eq_none (by rw [List.length_take]; omega), List.getElem?_eq_none (by rw [List.length_take]; omega)]
  have hrd : Vi.rd (t ++ R) = ((S.length : Int), I.length, 0) := by
    have e : t ++ R = I ++ (t.drop I.length ++ R) := by conv => lhs; rw [← List.take_append_drop I.length t, hp2, List.append_assoc]
    have := Vi.rd_enc (S.length : Int) (t.drop I.length ++ R) (Vi.small_inR _ h)
    rw [hI] at this
    rw [e]
    exact this
  by_cases hb : bytes4 (sum (t.take (I.length + S.length))) = (t.drop (I.length + S.length)).take 4
  · left
    have h4 : ((t.drop (I.length + S.length)).take 4).length = 4 := by rw [List.length_take, List.length_drop]; omega
    have h5 := (Crc.frame_fits _ _ h4).1 hb
    rw [← List.take_add, List.take_of_length_le (by omega)] at h5
    exact hdet (hfit.trans h5.symm)
  · right
    refine open_d hrd h (by rw [List.length_append]; omega) ?_
    rw [List.take_append_of_le_length (by omega), List.drop_append_of_le_length (by omega), List.take_append_of_le_length (by rw [List.length_drop]; omega)]
    exact hb
theorem damage_rec {r : Rec} (h : recE r = 0) {p : Nat} (h3 : 3 ≤ p) (hp : p < (recL r).length) (b : UInt8) (hb : (recL r)[p]? ≠ some b) (R : List UInt8) : firstL ((recL r).set p b ++ R) = none := by
  obtain ⟨_, h2, e⟩ := rec_ok h
  rw [e] at hp hb ⊢
  have hh := seal_head h2
  rcases damage_tail h2 p ((sealL (bodyL r)).set p b) R (List.length_set) (fun j hj => List.getElem?_set_ne (by omega)) (by omega) (by omega) with hd | hd
  · exfalso
    apply hb
    rw [hd, List.getElem?_set_self (by simpa using hp)]
  · exact first_open (by rw [hd]; decide)
theorem damage_read {l : List Rec} (h : errL l = 0) {k i : Nat} (hk : k < l.length) (h1 : sz l k + 3 ≤ i) (h2 : i < sz l (k + 1)) (b : UInt8) (hb : (catL l)[i]? ≠ some b) : readL ((catL l).set i b) = (l.take k, sz l k) := by
  obtain ⟨r, hr⟩ : ∃ r, l[k]? = some r := ⟨_, List.getElem?_eq_getElem hk⟩
  rw [sz_succ hr] at h2
  have hs : (catL (l.take k)).length = sz l k := rfl
  have hbr : (recL r)[i - sz l k]? ≠ some b := by
    rw [cat_at hr, List.getElem?_append_right (by omega), hs, List.getElem?_append_left (by omega)] at hb
    exact hb
  have e : (catL l).set i b = catL (l.take k) ++ ((recL r).set (i - sz l k) b ++ catL (l.drop (k + 1))) := by
    rw [cat_at hr, List.set_append_right _ _ (by omega), hs, List.set_append_left _ _ (by omega)]
  rw [e]
  exact read_front h k (damage_rec (errL_rec h r (List.mem_of_getElem? hr)) (by omega) (by omega) b hbr _)
end Go.Proofs.Ytlknjdfiedkhbaa
