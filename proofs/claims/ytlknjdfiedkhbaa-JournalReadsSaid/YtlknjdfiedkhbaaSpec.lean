/- The encoding of integers, strings and lists as plain functions on lists of bytes, and what the laws say of it. No program is in sight here.
The checksum as plain functions on natural numbers and lists of bytes, and what the laws say of it. No program is in sight here.
Records of a journal as plain data, and what Check says of them. No program is in sight here.
A burst of at most four bytes changes the checksum: plain lists. No program is in sight here. -/
import Derived.WalkKit
namespace Go.Proofs.Ytlknjdfiedkhbaa.Vi

def big : Int := 1152921504606846976
/-- the groups above the last one -/
def hi (m : Nat) : List UInt8 := if m = 0 then [] else hi (m / 128) ++ [UInt8.ofNat (128 + m % 128)]
termination_by m
decreasing_by omega
def enc (m : Nat) : List UInt8 := hi (m / 128) ++ [UInt8.ofNat (m % 128)]
def zig (n : Int) : Nat := if n < 0 then (-2 * n - 1).toNat else (2 * n).toNat
def unzig (m : Nat) : Int := if m % 2 = 1 then -((m : Int) + 1) / 2 else (m : Int) / 2
def inR (n : Int) : Bool := decide (-big ≤ n) && decide (n ≤ big)
def intL (n : Int) : List UInt8 := if inR n = true then enc (zig n) else []
def intE (n : Int) : Int := if inR n = true then 0 else 2

theorem inR_iff (n : Int) : inR n = true ↔ -big ≤ n ∧ n ≤ big := by simp [inR]
theorem zig_unzig (n : Int) : unzig (zig n) = n := by
  unfold unzig zig
  split <;> split <;> omega
theorem unzig_zig (m : Nat) : zig (unzig m) = m := by
  unfold unzig zig
  split <;> split <;> omega
theorem zig_lt (n : Int) (h : inR n = true) : zig n ≤ 2305843009213693952 := by
  obtain ⟨h1, h2⟩ := (inR_iff n).1 h
  unfold big at h1 h2
  unfold zig
  split <;> omega

theorem hi_zero : hi 0 = [] := by rw [hi]; simp
theorem hi_pos (m : Nat) (h : m ≠ 0) : hi m = hi (m / 128) ++ [UInt8.ofNat (128 + m % 128)] := by rw [hi]; simp [h]
theorem enc_ne (m : Nat) : enc m ≠ [] := by unfold enc; simp
theorem enc_len (m : Nat) : (enc m).length = (hi (m / 128)).length + 1 := by unfold enc; simp
theorem hi_len : ∀ (k m : Nat), m < 128 ^ k → (hi m).length ≤ k
  | 0, m, h => by
    obtain rfl : m = 0 := by simpa using h
    simp [hi_zero]
  | k + 1, m, h => by
    by_cases e : m = 0
    · subst e; simp [hi_zero]
    · rw [hi_pos m e, List.length_append]
      have := hi_len k (m / 128) (by rw [Nat.pow_succ] at h; omega)
      simp; omega
theorem enc_len_le (k m : Nat) (h : m < 128 ^ (k + 1)) : (enc m).length ≤ k + 1 := by
  rw [enc_len]
  have := hi_len k (m / 128) (by rw [Nat.pow_succ] at h; omega)
  omega
theorem enc_len9 (n : Int) (h : inR n = true) : (enc (zig n)).length ≤ 9 := by
  have := zig_lt n h
  exact enc_len_le 8 _ (Nat.lt_of_le_of_lt this (by decide))
theorem intL_len9 (n : Int) : (intL n).length ≤ 9 := by
  unfold intL
  split
  · exact enc_len9 n ‹_›
  · simp
theorem hi_mono : ∀ (N a b : Nat), b ≤ N → a ≤ b → (hi a).length ≤ (hi b).length
  | 0, a, b, hN, h => by
    obtain rfl : b = 0 := by omega
    obtain rfl : a = 0 := by omega
    exact Nat.le_refl _
  | N + 1, a, b, hN, h => by
    by_cases ea : a = 0
    · subst ea; simp [hi_zero]
    · rw [hi_pos a ea, hi_pos b (by omega)]
      have := hi_mono N (a / 128) (b / 128) (by omega) (Nat.div_le_div_right h)
      simpa using this
theorem enc_mono {a b : Nat} (h : a ≤ b) : (enc a).length ≤ (enc b).length := by
  rw [enc_len, enc_len]
  have := hi_mono _ _ _ (Nat.le_refl _) (Nat.div_le_div_right (c := 128) h)
  omega
/-- VarintSizes -/
theorem size_mono {a b : Int} (h : 0 ≤ a ∧ a ≤ b ∨ b ≤ a ∧ a < 0) : (enc (zig a)).length ≤ (enc (zig b)).length := by
  apply enc_mono
  unfold zig
  rcases h with h | h
  · rw [if_neg (by omega), if_neg (by omega)]; omega
  · rw [if_pos (by omega), if_pos (by omega)]; omega

/-! ### from the most significant group down -/
def upL (m : Nat) : Nat → List UInt8
  | 0 => [UInt8.ofNat (128 + m % 128)]
  | k + 1 => UInt8.ofNat (128 + m / 128 ^ (k + 1) % 128) :: upL m k
theorem upL_snoc (m : Nat) : ∀ k, upL m (k + 1) = upL (m / 128) k ++ [UInt8.ofNat (128 + m % 128)]
  | 0 => by simp [upL]
  | k + 1 => by
    rw [upL, upL_snoc m k, upL, List.cons_append]
    congr 4
    rw [Nat.div_div_eq_div_mul, ← Nat.pow_succ']
theorem hi_up : ∀ (k m : Nat), 128 ^ k ≤ m → m < 128 ^ (k + 1) → hi m = upL m k
  | 0, m, h1, h2 => by
    rw [hi_pos m (by simp at h1; omega), show m / 128 = 0 by simp at h2; omega, hi_zero]; rfl
  | k + 1, m, h1, h2 => by
    have e : 128 ^ (k + 1) = 128 * 128 ^ k := Nat.pow_succ'
    have e2 : 128 ^ (k + 1 + 1) = 128 * 128 ^ (k + 1) := Nat.pow_succ'
    have hp : 0 < 128 ^ k := Nat.pow_pos (by decide)
    rw [hi_pos m (by omega), hi_up k (m / 128) (by omega) (by omega), upL_snoc]
/-- the groups of a number from the k-th down -/
def down (m : Nat) : Nat → List UInt8
  | 0 => [UInt8.ofNat (m % 128)]
  | k + 1 => UInt8.ofNat (128 + m / 128 ^ (k + 1) % 128) :: down m k
theorem down_up (m : Nat) : ∀ k, down m (k + 1) = upL (m / 128) k ++ [UInt8.ofNat (m % 128)]
  | 0 => by simp [upL, down]
  | k + 1 => by
    rw [down, down_up m k, upL, List.cons_append]
    congr 4
    rw [Nat.div_div_eq_div_mul, ← Nat.pow_succ']
theorem enc_down (k m : Nat) (h1 : k = 0 ∨ 128 ^ k ≤ m) (h2 : m < 128 ^ (k + 1)) : enc m = down m k := by
  cases k with
  | zero =>
    unfold enc
    rw [show m / 128 = 0 by simp at h2; omega, hi_zero]; rfl
  | succ k =>
    have h1' : 128 ^ (k + 1) ≤ m := by rcases h1 with h | h; exact absurd h (by omega); exact h
    have e : 128 ^ (k + 1) = 128 * 128 ^ k := Nat.pow_succ'
    have e2 : 128 ^ (k + 1 + 1) = 128 * 128 ^ (k + 1) := Nat.pow_succ'
    unfold enc
    rw [down_up, hi_up k (m / 128) (by omega) (by omega)]
theorem down_len (m : Nat) : ∀ k, (down m k).length = k + 1
  | 0 => rfl
  | k + 1 => by rw [down, List.length_cons, down_len m k]

/-! ### reading -/
/-- the value, the size and the error number; f: how many bytes may still come, m and k: what has been read -/
def scan : Nat → Nat → Nat → List UInt8 → Nat × Nat × Int
  | 0, _, _, _ => (0, 0, 11)
  | _ + 1, _, _, [] => (0, 0, 12)
  | f + 1, m, k, c :: r => if 128 ≤ c.toNat then scan f (m * 128 + c.toNat % 128) (k + 1) r else (m * 128 + c.toNat, k + 1, 0)
def head (l : List UInt8) : Nat := (l[0]?.getD 0).toNat
/-- what ReadInt gives -/
def rd (l : List UInt8) : Int × Nat × Int :=
  match scan 9 0 0 l with
  | (m, k, e) => if e = 0 then (if head l = 128 ∨ inR (unzig m) = false then (0, 0, 11) else (unzig m, k, 0)) else (0, 0, e)
theorem scan_hi : ∀ (j m f acc k : Nat) (r : List UInt8), (hi m).length = j → j ≤ f → scan f acc k (hi m ++ r) = scan (f - j) (acc * 128 ^ j + m) (k + j) r
  | 0, m, f, acc, k, r, hj, _ => by
    have e : m = 0 := by
      by_cases e : m = 0
      · exact e
      · rw [hi_pos m e] at hj; simp at hj
    subst e; simp [hi_zero]
  | j + 1, m, f, acc, k, r, hj, hf => by
    have e : m ≠ 0 := by rintro rfl; simp [hi_zero] at hj
    have hj' : (hi (m / 128)).length = j := by rw [hi_pos m e] at hj; simpa using hj
    have hc : (UInt8.ofNat (128 + m % 128)).toNat = 128 + m % 128 := by rw [UInt8.toNat_ofNat']; omega
    rw [hi_pos m e, List.append_assoc, scan_hi j (m / 128) f acc k _ hj' (by omega)]
    obtain ⟨g, hg⟩ : ∃ g, f - j = g + 1 := ⟨f - j - 1, by omega⟩
    rw [hg, List.singleton_append, scan, if_pos (by omega), hc, show g = f - (j + 1) by omega]
    congr 1
    rw [Nat.pow_succ, Nat.add_mul, Nat.mul_assoc]
    omega
theorem scan_enc (m : Nat) (r : List UInt8) (h : m < 128 ^ 9) : scan 9 0 0 (enc m ++ r) = (m, (enc m).length, 0) := by
  have hl := hi_len 8 (m / 128) (by omega)
  have hc : (UInt8.ofNat (m % 128)).toNat = m % 128 := by rw [UInt8.toNat_ofNat']; omega
  rw [enc_len]
  unfold enc
  rw [List.append_assoc, scan_hi _ (m / 128) 9 0 0 _ rfl (by omega)]
  obtain ⟨g, hg⟩ : ∃ g, 9 - (hi (m / 128)).length = g + 1 := ⟨9 - (hi (m / 128)).length - 1, by omega⟩
  rw [hg, List.singleton_append, scan, if_neg (by omega), hc]
  simp
  omega
theorem hi_head (m : Nat) : ∀ (r : List UInt8), m ≠ 0 → head (hi m ++ r) ≠ 128 := by
  induction m using Nat.strongRecOn with
  | ind m ih =>
    intro r h
    rw [hi_pos m h]
    by_cases e : m / 128 = 0
    · rw [e, hi_zero]
      simp [head]; omega
    · rw [List.append_assoc]
      exact ih (m / 128) (by omega) _ e
theorem enc_head (m : Nat) (r : List UInt8) : head (enc m ++ r) ≠ 128 := by
  unfold enc
  rw [List.append_assoc]
  by_cases e : m / 128 = 0
  · rw [e, hi_zero]
    have hc : (UInt8.ofNat (m % 128)).toNat = m % 128 := by rw [UInt8.toNat_ofNat']; omega
    simp [head, hc]; omega
  · exact hi_head _ _ e
/-- VarintRoundTrip, for an integer -/
theorem rd_enc (n : Int) (r : List UInt8) (h : inR n = true) : rd (intL n ++ r) = (n, (intL n).length, 0) := by
  have hz := zig_lt n h
  unfold intL
  rw [if_pos h]
  unfold rd
  rw [scan_enc (zig n) r (Nat.lt_of_le_of_lt hz (by decide))]
  simp [enc_head, zig_unzig, h]
/-- VarintCanonical, for an integer -/
theorem scan_canon : ∀ (f acc k : Nat) (l : List UInt8) (m k' : Nat), scan f acc k l = (m, k', 0) → (acc ≠ 0 ∨ head l ≠ 128) → k < k' ∧ k' - k ≤ l.length ∧ enc m = hi acc ++ l.take (k' - k)
  | 0, acc, k, l, m, k', h, _ => by simp [scan] at h
  | f + 1, acc, k, [], m, k', h, _ => by simp [scan] at h
  | f + 1, acc, k, c :: r, m, k', h, hn => by
    have hc := c.toNat_lt
    rw [scan] at h
    split at h
    · rename_i h128
      have hne : acc * 128 + c.toNat % 128 ≠ 0 := by
        rcases hn with hn | hn
        · omega
        · have : c.toNat ≠ 128 := by simpa [head] using hn
          omega
      obtain ⟨h1, h2, h3⟩ := scan_canon f _ (k + 1) r m k' h (.inl hne)
      refine ⟨by omega, by simp; omega, ?_⟩
      rw [h3, hi_pos _ hne, show (acc * 128 + c.toNat % 128) / 128 = acc by omega, show (acc * 128 + c.toNat % 128) % 128 = c.toNat % 128 by omega,
        show UInt8.ofNat (128 + c.toNat % 128) = c from UInt8.toNat_inj.1 (by rw [UInt8.toNat_ofNat']; omega), show k' - k = (k' - (k + 1)) + 1 by omega, List.take_succ_cons, List.append_assoc]; rfl
    · rename_i h128
      simp only [Prod.mk.injEq] at h
      obtain ⟨rfl, rfl, _⟩ := h
      refine ⟨by omega, by simp, ?_⟩
      unfold enc
      rw [show (acc * 128 + c.toNat) / 128 = acc by omega, show (acc * 128 + c.toNat) % 128 = c.toNat by omega, show UInt8.ofNat c.toNat = c from UInt8.toNat_inj.1 (by rw [UInt8.toNat_ofNat']; omega)]
      simp
theorem rd_canon {l : List UInt8} {n : Int} {k : Nat} (h : rd l = (n, k, 0)) : inR n = true ∧ 1 ≤ k ∧ k ≤ l.length ∧ intL n = l.take k ∧ k ≤ 9 := by
  unfold rd at h
  generalize hs : scan 9 0 0 l = q at h
  obtain ⟨m, k', e⟩ := q
  simp only at h
  split at h
  · rename_i he
    split at h
    · simp at h
    · rename_i hn
      simp only [Prod.mk.injEq] at h
      obtain ⟨rfl, rfl, _⟩ := h
      subst he
      have h128 : head l ≠ 128 := fun e => hn (.inl e)
      have hin : inR (unzig m) = true := by
        cases hq : inR (unzig m) with
        | true => rfl
        | false => exact absurd (.inr hq) hn
      obtain ⟨h1, h2, h3⟩ := scan_canon 9 0 0 l m k' hs (.inr h128)
      rw [hi_zero, List.nil_append, Nat.sub_zero] at h3
      have h9 := enc_len9 _ hin
      rw [unzig_zig, h3, List.length_take] at h9
      refine ⟨hin, by omega, by omega, ?_, by omega⟩
      unfold intL
      rw [if_pos hin, unzig_zig, h3]
  · rename_i he
    simp only [Prod.mk.injEq] at h
    exact absurd h.2.2 he
theorem rd_err {l : List UInt8} (h : (rd l).2.2 ≠ 0) : (rd l).1 = 0 ∧ (rd l).2.1 = 0 := by
  unfold rd at h ⊢
  generalize scan 9 0 0 l = q at h ⊢
  obtain ⟨m, k', e⟩ := q
  simp only at h ⊢
  split at h
  · split at h
    · rename_i h1 h2; simp [h1, h2]
    · exact absurd rfl h
  · rename_i h1; simp [h1]
theorem scan_short : ∀ (f acc k : Nat) (l : List UInt8), l.length < f → (∀ c ∈ l, 128 ≤ c.toNat) → scan f acc k l = (0, 0, 12)
  | 0, _, _, _, h, _ => absurd h (by omega)
  | f + 1, acc, k, [], _, _ => rfl
  | f + 1, acc, k, c :: r, h, hc => by
    rw [scan, if_pos (hc c (by simp))]
    exact scan_short f _ _ r (by simpa using h) (fun x hx => hc x (by simp [hx]))
theorem hi_high (m : Nat) : ∀ c ∈ hi m, 128 ≤ c.toNat := by
  induction m using Nat.strongRecOn with
  | ind m ih =>
    intro c hc
    by_cases e : m = 0
    · subst e; simp [hi_zero] at hc
    · rw [hi_pos m e, List.mem_append] at hc
      rcases hc with hc | hc
      · exact ih (m / 128) (by omega) c hc
      · simp at hc
        rw [hc, show (128 + UInt8.ofNat (m % 128)) = UInt8.ofNat (128 + m % 128) by simp, UInt8.toNat_ofNat']; omega
/-- VarintBeginnings, for an integer -/
theorem rd_short (n : Int) (h : inR n = true) (k : Nat) (hk : k < (intL n).length) : rd ((intL n).take k) = (0, 0, 12) := by
  have h9 := enc_len9 n h
  unfold intL at hk ⊢
  rw [if_pos h] at hk ⊢
  have e : (enc (zig n)).take k = (hi (zig n / 128)).take k := by
    unfold enc
    rw [List.take_append_of_le_length]
    rw [enc_len] at hk; omega
  rw [e]
  unfold rd
  rw [scan_short 9 0 0 _ (by rw [enc_len] at hk h9; simp; omega) (fun c hc => hi_high _ c (List.mem_of_mem_take hc))]
  rfl

/-! ### strings and lists -/
def textL (s : List UInt8) : List UInt8 := if s.length ≤ 65536 then intL s.length ++ s else []
def textE (s : List UInt8) : Int := if s.length ≤ 65536 then 0 else 4
def listE (l : List Int) : Int := if l.length ≤ 65536 then (if l.all inR = true then 0 else 2) else 4
def listL (l : List Int) : List UInt8 := if listE l = 0 then intL l.length ++ (l.map intL).flatten else []
/-- a length -/
def rlen (l : List UInt8) : Int × Nat × Int := if (rd l).2.2 = 0 then (if 0 ≤ (rd l).1 ∧ (rd l).1 ≤ 65536 then ((rd l).1, (rd l).2.1, 0) else (0, 0, 11)) else (0, 0, (rd l).2.2)
def rtext (l : List UInt8) : List UInt8 × Nat × Int :=
  if (rlen l).2.2 = 0 then (if (l.length : Int) - (rlen l).2.1 < (rlen l).1 then ([], 0, 12) else ((l.drop (rlen l).2.1).take (rlen l).1.toNat, (rlen l).2.1 + (rlen l).1.toNat, 0)) else ([], 0, (rlen l).2.2)
def rints : Nat → List UInt8 → Nat → List Int → List Int × Nat × Int
  | 0, _, p, acc => (acc, p, 0)
  | c + 1, l, p, acc => if (rd (l.drop p)).2.2 = 0 then rints c l (p + (rd (l.drop p)).2.1) (acc ++ [(rd (l.drop p)).1]) else ([], 0, (rd (l.drop p)).2.2)
def rlist (l : List UInt8) : List Int × Nat × Int := if (rlen l).2.2 = 0 then rints (rlen l).1.toNat l (rlen l).2.1 [] else ([], 0, (rlen l).2.2)

theorem small_inR (n : Nat) (h : n ≤ 65536) : inR (n : Int) = true := by rw [inR_iff]; unfold big; omega
theorem rd_ok {l : List UInt8} (h : (rd l).2.2 = 0) : rd l = ((rd l).1, (rd l).2.1, 0) := by
  rw [← h]
theorem rd_range (l : List UInt8) (h : (rd l).2.2 = 0) : inR (rd l).1 = true ∧ 1 ≤ (rd l).2.1 ∧ (rd l).2.1 ≤ l.length ∧ intL (rd l).1 = l.take (rd l).2.1 ∧ (rd l).2.1 ≤ 9 := rd_canon (rd_ok h)
theorem rlen_of {l : List UInt8} {n : Nat} {k : Nat} (h : rd l = ((n : Int), k, 0)) (hn : n ≤ 65536) : rlen l = ((n : Int), k, 0) := by
  unfold rlen
  rw [h]
  simp
  omega
theorem rlen_short {l : List UInt8} (h : rd l = (0, 0, 12)) : rlen l = (0, 0, 12) := by
  unfold rlen
  rw [h]; simp
theorem rlen_ok {l : List UInt8} (h : (rlen l).2.2 = 0) : (rd l).2.2 = 0 ∧ rlen l = ((rd l).1, (rd l).2.1, 0) ∧ 0 ≤ (rd l).1 ∧ (rd l).1 ≤ 65536 := by
  unfold rlen at h ⊢
  split at h
  · rename_i h1
    split at h
    · rename_i h2
      exact ⟨h1, by rw [if_pos h1, if_pos h2], h2.1, h2.2⟩
    · exact absurd h (by decide)
  · rename_i h1; exact absurd h h1
/-- VarintRoundTrip, for a string -/
theorem rtext_enc (s r : List UInt8) (h : s.length ≤ 65536) : rtext (textL s ++ r) = (s, (textL s).length, 0) := by
  unfold textL
  rw [if_pos h]
  have h1 := rd_enc (s.length : Int) (s ++ r) (small_inR _ h)
  have h2 := rlen_of h1 h
  unfold rtext
  rw [List.append_assoc, h2]
  simp only [if_true, List.length_append, Int.toNat_natCast]
  rw [if_neg (by omega), List.drop_left, List.take_left]
/-- VarintCanonical, for a string -/
theorem rtext_canon {l x : List UInt8} {k : Nat} (h : rtext l = (x, k, 0)) : textE x = 0 ∧ 1 ≤ k ∧ k ≤ l.length ∧ textL x = l.take k := by
  unfold rtext at h
  split at h
  · rename_i h1
    obtain ⟨h2, h3, h4, h5⟩ := rlen_ok h1
    obtain ⟨c1, c2, c3, c4, _⟩ := rd_range l h2
    rw [h3] at h
    simp only at h
    split at h
    · simp at h
    · rename_i h6
      simp only [Prod.mk.injEq, and_true] at h
      obtain ⟨rfl, rfl⟩ := h
      generalize (rd l).1 = n at *
      generalize (rd l).2.1 = j at *
      obtain ⟨n, rfl⟩ := Int.eq_ofNat_of_zero_le h4
      rw [Int.toNat_natCast] at *
      have hl : ((l.drop j).take n).length = n := by simp; omega
      refine ⟨by unfold textE; rw [hl, if_pos (by omega)], by omega, by omega, ?_⟩
      unfold textL
      rw [hl, if_pos (by omega), c4, List.take_add]
  · rename_i h1
    simp only [Prod.mk.injEq] at h
    exact absurd h.2.2 h1
theorem rtext_err {l : List UInt8} (h : (rtext l).2.2 ≠ 0) : (rtext l).1 = [] ∧ (rtext l).2.1 = 0 := by
  unfold rtext at h ⊢
  split at h
  · split at h
    · rename_i h1 h2; rw [if_pos h1, if_pos h2]; exact ⟨rfl, rfl⟩
    · exact absurd rfl h
  · rename_i h1; rw [if_neg h1]; exact ⟨rfl, rfl⟩
/-- a beginning of an encoding of a length, or the whole, with fewer bytes behind it -/
theorem take_split (a b : List UInt8) (k : Nat) : (a ++ b).take k = if k < a.length then a.take k else a ++ b.take (k - a.length) := by
  split
  · rw [List.take_append_of_le_length (by omega)]
  · rename_i h
    rw [List.take_append, List.take_of_length_le (by omega)]
/-- VarintBeginnings, for a string -/
theorem rtext_short (s : List UInt8) (h : s.length ≤ 65536) (k : Nat) (hk : k < (textL s).length) : rtext ((textL s).take k) = ([], 0, 12) := by
  unfold textL at hk ⊢
  rw [if_pos h] at hk ⊢
  rw [take_split]
  split
  · rename_i h1
    have h2 := rlen_short (rd_short (s.length : Int) (small_inR _ h) k h1)
    unfold rtext
    rw [h2]; simp
  · rename_i h1
    rw [List.length_append] at hk
    have h2 := rlen_of (rd_enc (s.length : Int) (s.take (k - (intL s.length).length)) (small_inR _ h)) h
    unfold rtext
    rw [h2]
    simp only [if_true]
    rw [if_pos (by simp; omega)]

theorem rints_enc : ∀ (xs : List Int) (pre r : List UInt8) (acc : List Int), xs.all inR = true → rints xs.length (pre ++ (xs.map intL).flatten ++ r) pre.length acc = (acc ++ xs, (pre ++ (xs.map intL).flatten).length, 0)
  | [], pre, r, acc, _ => by simp [rints]
  | x :: xs, pre, r, acc, h => by
    rw [List.all_cons, Bool.and_eq_true] at h
    have hd : (pre ++ ((x :: xs).map intL).flatten ++ r).drop pre.length = intL x ++ ((xs.map intL).flatten ++ r) := by
      rw [List.append_assoc, List.drop_left, List.map_cons, List.flatten_cons, List.append_assoc]
    rw [List.length_cons, rints, hd, rd_enc x _ h.1]
    simp only [if_true]
    have ih := rints_enc xs (pre ++ intL x) r (acc ++ [x]) h.2
    rw [List.length_append] at ih
    rw [List.map_cons, List.flatten_cons, ← List.append_assoc pre, ih, List.append_assoc acc]; rfl
/-- VarintRoundTrip, for a list -/
theorem rlist_enc (xs : List Int) (r : List UInt8) (h : listE xs = 0) : rlist (listL xs ++ r) = (xs, (listL xs).length, 0) := by
  have h1 : xs.length ≤ 65536 ∧ xs.all inR = true := by
    unfold listE at h
    split at h
    · split at h
      · exact ⟨‹_›, ‹_›⟩
      · exact absurd h (by decide)
    · exact absurd h (by decide)
  unfold listL
  rw [if_pos h]
  have h2 := rlen_of (rd_enc (xs.length : Int) ((xs.map intL).flatten ++ r) (small_inR _ h1.1)) h1.1
  unfold rlist
  rw [List.append_assoc, h2]
  simp only [if_true, Int.toNat_natCast]
  have := rints_enc xs (intL xs.length) r [] h1.2
  rw [List.append_assoc] at this
  rw [this, List.nil_append]
theorem rints_canon : ∀ (c : Nat) (l : List UInt8) (p : Nat) (acc xs : List Int) (k : Nat), rints c l p acc = (xs, k, 0) → p ≤ l.length → ∃ ys, xs = acc ++ ys ∧ ys.length = c ∧ ys.all inR = true ∧ p ≤ k ∧ k ≤ l.length ∧ (ys.map intL).flatten = (l.drop p).take (k - p)
  | 0, l, p, acc, xs, k, h, hp => by
    simp only [rints, Prod.mk.injEq] at h
    obtain ⟨rfl, rfl, _⟩ := h
    exact ⟨[], by simp, rfl, rfl, Nat.le_refl _, hp, by simp⟩
  | c + 1, l, p, acc, xs, k, h, hp => by
    rw [rints] at h
    split at h
    · rename_i h1
      obtain ⟨c1, c2, c3, c4, _⟩ := rd_range _ h1
      rw [List.length_drop] at c3
      obtain ⟨ys, e1, e2, e3, e4, e5, e6⟩ := rints_canon c l _ _ xs k h (by omega)
      refine ⟨(rd (l.drop p)).1 :: ys, by rw [e1, List.append_assoc]; rfl, by simp [e2], by rw [List.all_cons, c1, e3]; rfl, by omega, e5, ?_⟩
      rw [List.map_cons, List.flatten_cons, c4, e6, ← List.drop_drop, ← List.take_add]
      congr 1; omega
    · rename_i h1
      simp only [Prod.mk.injEq] at h
      exact absurd h.2.2 h1
/-- VarintCanonical, for a list -/
theorem rlist_canon {l : List UInt8} {xs : List Int} {k : Nat} (h : rlist l = (xs, k, 0)) : listE xs = 0 ∧ 1 ≤ k ∧ k ≤ l.length ∧ listL xs = l.take k ∧ xs.all inR = true := by
  unfold rlist at h
  split at h
  · rename_i h1
    obtain ⟨h2, h3, h4, h5⟩ := rlen_ok h1
    obtain ⟨c1, c2, c3, c4, _⟩ := rd_range l h2
    rw [h3] at h
    simp only at h
    obtain ⟨ys, e1, e2, e3, e4, e5, e6⟩ := rints_canon _ l _ _ xs k h c3
    rw [List.nil_append] at e1
    subst e1
    have hE : listE xs = 0 := by unfold listE; rw [if_pos (by omega), if_pos e3]
    refine ⟨hE, by omega, e5, ?_, e3⟩
    unfold listL
    rw [if_pos hE, e6, e2, show (((rd l).1.toNat : Nat) : Int) = (rd l).1 by omega, c4, ← List.take_add]
    congr 1; omega
  · rename_i h1
    simp only [Prod.mk.injEq] at h
    exact absurd h.2.2 h1
theorem rints_err : ∀ (c : Nat) (l : List UInt8) (p : Nat) (acc : List Int), (rints c l p acc).2.2 ≠ 0 → (rints c l p acc).1 = [] ∧ (rints c l p acc).2.1 = 0
  | 0, l, p, acc, h => absurd rfl h
  | c + 1, l, p, acc, h => by
    rw [rints] at h ⊢
    split at h
    · rename_i h1; rw [if_pos h1]; exact rints_err c l _ _ h
    · rename_i h1; rw [if_neg h1]; exact ⟨rfl, rfl⟩
theorem rlist_err {l : List UInt8} (h : (rlist l).2.2 ≠ 0) : (rlist l).1 = [] ∧ (rlist l).2.1 = 0 := by
  unfold rlist at h ⊢
  split at h
  · rename_i h1; rw [if_pos h1]; exact rints_err _ _ _ _ h
  · rename_i h1; rw [if_neg h1]; exact ⟨rfl, rfl⟩
theorem rints_short : ∀ (xs : List Int) (pre : List UInt8) (acc : List Int) (k : Nat), xs.all inR = true → k < ((xs.map intL).flatten).length → rints xs.length (pre ++ ((xs.map intL).flatten).take k) pre.length acc = ([], 0, 12)
  | [], pre, acc, k, _, hk => by simp at hk
  | x :: xs, pre, acc, k, h, hk => by
    rw [List.all_cons, Bool.and_eq_true] at h
    rw [List.map_cons, List.flatten_cons] at hk ⊢
    rw [List.length_cons, rints, take_split]
    split
    · rename_i h1
      rw [List.drop_left, rd_short x h.1 k h1]; simp
    · rename_i h1
      rw [List.length_append] at hk
      rw [List.drop_left, rd_enc x _ h.1]
      simp only [if_true]
      have ih := rints_short xs (pre ++ intL x) (acc ++ [x]) (k - (intL x).length) h.2 (by omega)
      rw [List.length_append] at ih
      rw [← List.append_assoc, ih]
/-- VarintBeginnings, for a list -/
theorem rlist_short (xs : List Int) (h : listE xs = 0) (k : Nat) (hk : k < (listL xs).length) : rlist ((listL xs).take k) = ([], 0, 12) := by
  have h1 : xs.length ≤ 65536 ∧ xs.all inR = true := by
    unfold listE at h
    split at h
    · split at h
      · exact ⟨‹_›, ‹_›⟩
      · exact absurd h (by decide)
    · exact absurd h (by decide)
  unfold listL at hk ⊢
  rw [if_pos h] at hk ⊢
  rw [take_split]
  split
  · rename_i h2
    have h3 := rlen_short (rd_short (xs.length : Int) (small_inR _ h1.1) k h2)
    unfold rlist
    rw [h3]; simp
  · rename_i h2
    rw [List.length_append] at hk
    have h3 := rlen_of (rd_enc (xs.length : Int) (((xs.map intL).flatten).take (k - (intL xs.length).length)) (small_inR _ h1.1)) h1.1
    unfold rlist
    rw [h3]
    simp only [if_true, Int.toNat_natCast]
    exact rints_short xs (intL xs.length) [] _ h1.2 (by omega)
end Go.Proofs.Ytlknjdfiedkhbaa.Vi
namespace Go.Proofs.Ytlknjdfiedkhbaa.Crc

def poly : Nat := 2197175160
def most : Nat := 4294967295
def step1 (r : Nat) : Nat := if r % 2 = 1 then r / 2 ^^^ poly else r / 2
def stepN : Nat → Nat → Nat
  | 0, r => r
  | k + 1, r => stepN k (step1 r)
def upd (r : Nat) (l : List UInt8) : Nat := l.foldl (fun r b => stepN 8 (r ^^^ b.toNat)) r
def sum (l : List UInt8) : Nat := upd most l ^^^ most
/-- the checksum of a string behind another one -/
def update (c : Nat) (l : List UInt8) : Nat := upd (c ^^^ most) l ^^^ most
def combine (a b n : Nat) : Nat := stepN (8 * n) a ^^^ b
/-- the number that bytes spell, the least significant one first -/
def le : List UInt8 → Nat
  | [] => 0
  | b :: l => b.toNat + 256 * le l
def bytes4 (n : Nat) : List UInt8 := [UInt8.ofNat n, UInt8.ofNat (n / 256), UInt8.ofNat (n / 65536), UInt8.ofNat (n / 16777216)]

/-! ### the step is linear -/
theorem half_xor (a b : Nat) : (a ^^^ b) / 2 = a / 2 ^^^ b / 2 := by
  have h := Nat.shiftRight_xor_distrib (a := a) (b := b) (i := 1)
  simpa [Nat.shiftRight_eq_div_pow] using h
theorem odd_xor (a b : Nat) : (a ^^^ b) % 2 = (a % 2 ^^^ b % 2) := by
  have h := Nat.xor_mod_two_pow (a := a) (b := b) (n := 1)
  simpa using h
theorem xor_xor_cancel (a b : Nat) : a ^^^ b ^^^ b = a := by rw [Nat.xor_assoc, Nat.xor_self, Nat.xor_zero]
theorem xor_left_comm (a b c : Nat) : a ^^^ (b ^^^ c) = b ^^^ (a ^^^ c) := by rw [← Nat.xor_assoc, Nat.xor_comm a b, Nat.xor_assoc]
theorem step1_xor (a b : Nat) : step1 (a ^^^ b) = step1 a ^^^ step1 b := by
  unfold step1
  rw [odd_xor, half_xor]
  rcases Nat.mod_two_eq_zero_or_one a with ha | ha <;> rcases Nat.mod_two_eq_zero_or_one b with hb | hb <;> rw [ha, hb]
  · simp
  · simp [Nat.xor_assoc]
  · simp only [show (1 ^^^ 0 : Nat) = 1 from rfl, if_true, show ((0 : Nat) = 1) = False by simp, if_false]
    rw [Nat.xor_assoc, Nat.xor_comm (b / 2) poly, ← Nat.xor_assoc]
  · simp only [show (1 ^^^ 1 : Nat) = 0 from rfl, if_true, show ((0 : Nat) = 1) = False by simp, if_false]
    rw [Nat.xor_assoc, xor_left_comm poly, Nat.xor_self, Nat.xor_zero]
theorem stepN_xor : ∀ (k a b : Nat), stepN k (a ^^^ b) = stepN k a ^^^ stepN k b
  | 0, _, _ => rfl
  | k + 1, a, b => by rw [stepN, step1_xor, stepN_xor k, stepN, stepN]
theorem step1_zero : step1 0 = 0 := rfl
theorem stepN_zero : ∀ k, stepN k 0 = 0
  | 0 => rfl
  | k + 1 => by rw [stepN, step1_zero, stepN_zero k]
theorem stepN_add : ∀ (j k r : Nat), stepN (j + k) r = stepN k (stepN j r)
  | 0, k, r => by rw [Nat.zero_add]; rfl
  | j + 1, k, r => by rw [show j + 1 + k = (j + k) + 1 by omega, stepN, stepN_add j k, stepN]
theorem step1_even (y : Nat) : step1 (2 * y) = y := by unfold step1; rw [if_neg (by omega)]; omega
theorem stepN_pow : ∀ (k y : Nat), stepN k (2 ^ k * y) = y
  | 0, y => by simp [stepN]
  | k + 1, y => by rw [stepN, show 2 ^ (k + 1) * y = 2 * (2 ^ k * y) by rw [Nat.pow_succ, Nat.mul_comm (2 ^ k) 2, Nat.mul_assoc], step1_even, stepN_pow k]
theorem stepN8 (y : Nat) : stepN 8 (256 * y) = y := stepN_pow 8 y
theorem xor_lt (a b : Nat) (ha : a < 4294967296) (hb : b < 4294967296) : a ^^^ b < 4294967296 := Nat.xor_lt_two_pow (n := 32) ha hb
theorem step1_lt (r : Nat) (h : r < 4294967296) : step1 r < 4294967296 := by
  unfold step1
  split
  · exact xor_lt _ _ (by omega) (by decide)
  · omega
theorem stepN_lt : ∀ (k r : Nat), r < 4294967296 → stepN k r < 4294967296
  | 0, _, h => h
  | k + 1, r, h => stepN_lt k _ (step1_lt r h)
theorem xor_eq_zero {a b : Nat} (h : a ^^^ b = 0) : a = b := by
  have := congrArg (· ^^^ b) h
  simpa [xor_xor_cancel] using this
theorem step1_inj (r : Nat) (h : r < 4294967296) (e : step1 r = 0) : r = 0 := by
  unfold step1 at e
  split at e
  · have := xor_eq_zero e
    unfold poly at this
    omega
  · omega
theorem stepN_inj : ∀ (k r : Nat), r < 4294967296 → stepN k r = 0 → r = 0
  | 0, _, _, e => e
  | k + 1, r, h, e => step1_inj r h (stepN_inj k _ (step1_lt r h) e)
theorem stepN_eq {k a b : Nat} (ha : a < 4294967296) (hb : b < 4294967296) (h : stepN k a = stepN k b) : a = b := by
  apply xor_eq_zero
  apply stepN_inj k _ (xor_lt _ _ ha hb)
  rw [stepN_xor, h, Nat.xor_self]

/-! ### strings -/
theorem low_xor (b n : Nat) (h : b < 256) : b ^^^ 256 * n = b + 256 * n := by
  have e := Nat.two_pow_add_eq_or_of_lt (i := 8) (b := b) h n
  have e2 : (2 ^ 8 * n) &&& b = 0 := by
    apply Nat.eq_of_testBit_eq
    intro i
    rw [Nat.testBit_and, Nat.zero_testBit]
    by_cases hi : i < 8
    · rw [Nat.testBit_two_pow_mul]; simp; omega
    · rw [Nat.testBit_lt_two_pow (Nat.lt_of_lt_of_le h (show 256 ≤ 2 ^ i from Nat.pow_le_pow_right (n := 2) (by decide) (show 8 ≤ i by omega)))]; simp
  have e3 : b ^^^ 256 * n = 256 * n ||| b := by
    apply Nat.eq_of_testBit_eq
    intro i
    have := congrArg (fun x => x.testBit i) e2
    simp only [Nat.testBit_and, Nat.zero_testBit, show (2 : Nat) ^ 8 = 256 from rfl] at this
    rw [Nat.testBit_xor, Nat.testBit_or]
    cases h1 : b.testBit i <;> cases h2 : (256 * n).testBit i <;> simp_all
  rw [e3, show (256 : Nat) = 2 ^ 8 from rfl, ← e]; omega
theorem le_lt : ∀ l : List UInt8, le l < 256 ^ l.length
  | [] => by simp [le]
  | b :: l => by
    have h := le_lt l
    have hb := b.toNat_lt
    simp only [le, List.length_cons, Nat.pow_succ]
    omega
/-- what the bytes of a string do to a number is what steps do to it and the string's own number -/
theorem upd_eq : ∀ (l : List UInt8) (r : Nat), upd r l = stepN (8 * l.length) (r ^^^ le l)
  | [], r => by simp [upd, le, stepN]
  | b :: l, r => by
    have h : upd r (b :: l) = upd (stepN 8 (r ^^^ b.toNat)) l := rfl
    rw [h, upd_eq l]
    have e : stepN 8 (r ^^^ b.toNat) ^^^ le l = stepN 8 (r ^^^ le (b :: l)) := by
      rw [show le (b :: l) = b.toNat ^^^ 256 * le l by rw [low_xor _ _ b.toNat_lt]; rfl, ← Nat.xor_assoc, stepN_xor 8 _ (256 * le l), stepN8]
    rw [e, ← stepN_add, List.length_cons]
    congr 1; omega
theorem upd_append (r : Nat) (s t : List UInt8) : upd r (s ++ t) = upd (upd r s) t := List.foldl_append
theorem upd_lt : ∀ (l : List UInt8) (r : Nat), r < 4294967296 → upd r l < 4294967296
  | [], _, h => h
  | b :: l, r, h => upd_lt l _ (stepN_lt 8 _ (xor_lt _ _ h (by have := b.toNat_lt; omega)))
theorem sum_lt (l : List UInt8) : sum l < 4294967296 := xor_lt _ _ (upd_lt l _ (by decide)) (by decide)
theorem update_lt (c : Nat) (l : List UInt8) (h : c < 4294967296) : update c l < 4294967296 := xor_lt _ _ (upd_lt l _ (xor_lt _ _ h (by decide))) (by decide)
theorem combine_lt (a b n : Nat) (ha : a < 4294967296) (hb : b < 4294967296) : combine a b n < 4294967296 := xor_lt _ _ (stepN_lt _ _ ha) hb
/-- the sum as an update of nothing -/
theorem sum_update (l : List UInt8) : sum l = update 0 l := by unfold sum update; rw [Nat.zero_xor]

/-- CrcConcatenation -/
theorem sum_append (s t : List UInt8) : update (sum s) t = sum (s ++ t) := by
  unfold update sum
  rw [xor_xor_cancel, upd_append]
theorem combine_append (s t : List UInt8) : combine (sum s) (sum t) t.length = sum (s ++ t) := by
  unfold combine sum
  rw [upd_append, upd_eq t, upd_eq t, ← Nat.xor_assoc, ← stepN_xor]
  congr 2
  rw [Nat.xor_assoc, ← Nat.xor_assoc most most, Nat.xor_self, Nat.zero_xor]

/-- bytewise exclusive or -/
def xorL (a b : List UInt8) : List UInt8 := List.zipWith (· ^^^ ·) a b
theorem le_xor : ∀ (a b : List UInt8), a.length = b.length → le (xorL a b) = le a ^^^ le b
  | [], [], _ => rfl
  | x :: a, y :: b, h => by
    have ih := le_xor a b (by simpa using h)
    show (x ^^^ y).toNat + 256 * le (xorL a b) = (x.toNat + 256 * le a) ^^^ (y.toNat + 256 * le b)
    rw [ih, ← low_xor _ _ x.toNat_lt, ← low_xor _ _ y.toNat_lt, ← low_xor _ _ (x ^^^ y).toNat_lt, UInt8.toNat_xor]
    have e : 256 * (le a ^^^ le b) = 256 * le a ^^^ 256 * le b := by
      rw [show (256 : Nat) = 2 ^ 8 from rfl, Nat.mul_comm, Nat.mul_comm _ (le a), Nat.mul_comm _ (le b), ← Nat.shiftLeft_eq, ← Nat.shiftLeft_eq, ← Nat.shiftLeft_eq, Nat.shiftLeft_xor_distrib]
    rw [e]
    simp only [Nat.xor_assoc, xor_left_comm]
  | [], _ :: _, h => by simp at h
  | _ :: _, [], h => by simp at h
theorem xorL_len (a b : List UInt8) (h : a.length = b.length) : (xorL a b).length = a.length := by simp [xorL, h]
theorem upd_xor (a b : List UInt8) (r q : Nat) (h : a.length = b.length) : upd (r ^^^ q) (xorL a b) = upd r a ^^^ upd q b := by
  rw [upd_eq, upd_eq, upd_eq, le_xor a b h, xorL_len a b h, ← h, ← stepN_xor]
  congr 1
  simp only [Nat.xor_assoc, xor_left_comm]
/-- CrcLinear -/
theorem sum_linear (a b c : List UInt8) (h1 : a.length = b.length) (h2 : b.length = c.length) : sum (xorL (xorL a b) c) = sum a ^^^ sum b ^^^ sum c := by
  have e : upd most (xorL (xorL a b) c) = upd most a ^^^ upd most b ^^^ upd most c := by
    have := upd_xor (xorL a b) c (most ^^^ most) most (by rw [xorL_len a b h1, h1, h2])
    rw [Nat.xor_self, Nat.zero_xor] at this
    rw [this, ← Nat.xor_self most, upd_xor a b most most h1]
  unfold sum
  rw [e]
  generalize upd most a = x; generalize upd most b = y; generalize upd most c = z
  rw [show x ^^^ most ^^^ (y ^^^ most) = x ^^^ y by rw [Nat.xor_assoc, xor_left_comm most, Nat.xor_self, Nat.xor_zero], Nat.xor_assoc]

/-- zeros, then a short string -/
theorem upd_zeros (n r : Nat) : upd r (List.replicate n 0) = stepN (8 * n) r := by
  have e : le (List.replicate n 0) = 0 := by
    induction n with
    | zero => rfl
    | succ n ih => simp [List.replicate_succ, le, ih]
  rw [upd_eq, e, Nat.xor_zero, List.length_replicate]
theorem le_zero : ∀ l : List UInt8, le l = 0 → l = List.replicate l.length 0
  | [], _ => rfl
  | b :: l, h => by
    unfold le at h
    have h1 : b.toNat = 0 := by omega
    have h2 := le_zero l (by omega)
    have h3 : b = 0 := UInt8.toNat_inj.1 (by simpa using h1)
    rw [h3, h2]; simp [List.replicate_succ]
/-- a difference of at most four bytes shows -/
theorem upd_burst (p q : Nat) (d : List UInt8) (hd : d.length ≤ 4) (h : upd 0 (List.replicate p 0 ++ d ++ List.replicate q 0) = 0) : d = List.replicate d.length 0 := by
  rw [upd_append, upd_append, upd_zeros _ 0, stepN_zero, upd_zeros] at h
  have h4 : le d < 4294967296 := Nat.lt_of_lt_of_le (le_lt d) (by rw [show 4294967296 = 256 ^ 4 from rfl]; exact Nat.pow_le_pow_right (by decide) hd)
  have h5 := stepN_inj _ _ (upd_lt d 0 (by decide)) h
  rw [upd_eq, Nat.zero_xor] at h5
  exact le_zero d (stepN_inj _ _ h4 h5)

/-- CrcZeros -/
theorem combine_zeros (a n : Nat) : combine a (sum (List.replicate n 0)) n = update a (List.replicate n 0) := by
  unfold combine sum update
  rw [upd_zeros, upd_zeros, ← Nat.xor_assoc, ← stepN_xor]
theorem combine_assoc (a b c m l : Nat) : combine (combine a b m) c l = combine a (combine b c l) (m + l) := by
  unfold combine
  rw [stepN_xor, Nat.xor_assoc, show 8 * (m + l) = 8 * m + 8 * l by omega, stepN_add]

/-- a checksum's bytes spell it -/
theorem le_bytes4 (n : Nat) (h : n < 4294967296) : le (bytes4 n) = n := by
  simp only [bytes4, le, UInt8.toNat_ofNat']
  omega
theorem bytes4_le : ∀ l : List UInt8, l.length = 4 → bytes4 (le l) = l
  | [a, b, c, d], _ => by
    have ha := a.toNat_lt; have hb := b.toNat_lt; have hc := c.toNat_lt; have hd := d.toNat_lt
    have key : ∀ (x : UInt8) (n : Nat), n % 256 = x.toNat → UInt8.ofNat n = x := fun x n h => UInt8.toNat_inj.1 (by rw [UInt8.toNat_ofNat']; exact h)
    simp only [bytes4, le]
    rw [key a _ (by omega), key b _ (by omega), key c _ (by omega), key d _ (by omega)]
/-- what a frame's body and its checksum come to, taken together -/
theorem frame_fits (body cs : List UInt8) (h4 : cs.length = 4) : bytes4 (sum body) = cs ↔ upd most (body ++ cs) = stepN 32 most := by
  have hcs : le cs < 4294967296 := by have := le_lt cs; rw [h4] at this; exact this
  rw [upd_append, upd_eq cs, h4, show 8 * 4 = 32 from rfl]
  constructor
  · intro h
    rw [← h, le_bytes4 _ (sum_lt body)]
    unfold sum
    rw [← Nat.xor_assoc, Nat.xor_self, Nat.zero_xor]
  · intro h
    have e := stepN_eq (xor_lt _ _ (upd_lt body _ (by decide)) hcs) (by decide) h
    have e2 : sum body = le cs := by
      have h2 : upd most body ^^^ most = upd most body ^^^ (upd most body ^^^ le cs) := by rw [e]
      unfold sum
      rw [h2, ← Nat.xor_assoc, Nat.xor_self, Nat.zero_xor]
    rw [e2, bytes4_le cs h4]
/-- how the program's table spells a byte's step -/
theorem step_table (r b : Nat) : stepN 8 (r ^^^ b) = r / 256 ^^^ stepN 8 ((r % 256) ^^^ b) := by
  have h : (r % 256) ^^^ 256 * (r / 256) = r := by rw [low_xor _ _ (Nat.mod_lt _ (by decide))]; omega
  have e : r ^^^ b = 256 * (r / 256) ^^^ ((r % 256) ^^^ b) := by
    conv => lhs; rw [← h]
    rw [Nat.xor_comm (r % 256), Nat.xor_assoc]
  rw [e, stepN_xor, stepN8]
end Go.Proofs.Ytlknjdfiedkhbaa.Crc
namespace Go.Proofs.Ytlknjdfiedkhbaa.Jo
open Go

structure RId where
  src : Int
  cre : Int
  seq : Int
  off : Int
  tot : Int
  deriving DecidableEq
structure Itm where
  tick : Int
  id : RId
  dest : Int
  exp : Int
  prio : Int
  cust : Bool
  data : ByteArray
  deriving DecidableEq
structure Rec where
  kind : Int
  item : Itm
  id : RId
  tick : Int
  time : Int
  deriving DecidableEq

def wi (n lo hi : Int) : Bool := decide (lo ≤ n) && decide (n ≤ hi)
def vId (x : RId) : Bool :=
  wi x.src 0 15 && wi x.cre 0 1099511627776 && wi x.seq 0 1099511627776 && ((decide (x.off = 0) && decide (x.tot = 0)) || (wi x.tot 1 4096 && wi x.off 0 (x.tot - 1)))
def ckI (x : Itm) : Int :=
  if vId x.id && wi x.tick 0 1152921504606846976 && wi x.dest 0 15 && wi x.exp 1 1099511627776 && wi x.prio 0 2 then (if wi x.data.size 1 65536 then 0 else 4) else 2
def zId : RId := ⟨0, 0, 0, 0, 0⟩
def zIt : Itm := ⟨0, zId, 0, 0, 0, false, ⟨#[]⟩⟩
def ck (r : Rec) : Int :=
  if wi r.kind 1 4 then
    if wi r.time 0 1099511627776 then
      if r.kind = 1 ∨ r.kind = 3 then
        if ckI r.item = 0 then (if r.id = zId ∧ r.tick = 0 then 0 else 1) else ckI r.item
      else if vId r.id && (!decide (r.kind = 4) || wi r.tick 0 1152921504606846976) then
        if r.item = zIt ∧ ¬ (r.kind = 2 ∧ r.tick ≠ 0) then 0 else 1
      else 2
    else 2
  else 8

/-- the cells of an id, an item, a record -/
def idL (x : RId) : List Value := [.int .i64 x.src, .int .i64 x.cre, .int .i64 x.seq, .int .i64 x.off, .int .i64 x.tot]
def itL (x : Itm) : List Value :=
  [.int .i64 x.tick, .int .i64 x.id.src, .int .i64 x.id.cre, .int .i64 x.id.seq, .int .i64 x.id.off, .int .i64 x.id.tot, .int .i64 x.dest, .int .i64 x.exp, .int .i64 x.prio, .bool x.cust, .string x.data]
def rcL (r : Rec) : List Value :=
  [.int .i64 r.kind, .int .i64 r.item.tick, .int .i64 r.item.id.src, .int .i64 r.item.id.cre, .int .i64 r.item.id.seq, .int .i64 r.item.id.off, .int .i64 r.item.id.tot, .int .i64 r.item.dest, .int .i64 r.item.exp, .int .i64 r.item.prio, .bool r.item.cust, .string r.item.data,
   .int .i64 r.id.src, .int .i64 r.id.cre, .int .i64 r.id.seq, .int .i64 r.id.off, .int .i64 r.id.tot, .int .i64 r.tick, .int .i64 r.time]
def idA (x : RId) : Array Value := (idL x).toArray
def itA (x : Itm) : Array Value := (itL x).toArray
def rcA (r : Rec) : Array Value := (rcL r).toArray
theorem idA_size (x : RId) : (idA x).size = 5 := rfl
theorem itA_size (x : Itm) : (itA x).size = 11 := rfl
theorem rcA_size (r : Rec) : (rcA r).size = 19 := rfl
/-- the parts of an item's and a record's cells -/
theorem itA_id (x : Itm) : (itA x).extract 1 6 = idA x.id := by simp [itA, itL, idA, idL]
theorem rcA_id (r : Rec) : (rcA r).extract 12 17 = idA r.id := by simp [rcA, rcL, idA, idL]
theorem rcA_item (r : Rec) : (rcA r).extract 1 12 = itA r.item := by simp [rcA, rcL, itA, itL]
theorem rcA_iid (r : Rec) : (rcA r).extract 2 7 = idA r.item.id := by simp [rcA, rcL, idA, idL]
theorem id_eta (x : RId) : idA x = #[.int .i64 x.src, .int .i64 x.cre, .int .i64 x.seq, .int .i64 x.off, .int .i64 x.tot] := rfl
theorem idA_one (x : RId) : (idA x).all (·.oneCell') = true := by simp [idA, idL, Value.oneCell']
theorem itA_one (x : Itm) : (itA x).all (·.oneCell') = true := by simp [itA, itL, Value.oneCell']
theorem rcA_one (r : Rec) : (rcA r).all (·.oneCell') = true := by simp [rcA, rcL, Value.oneCell']
theorem idA_inj {x y : RId} (h : idA x = idA y) : x = y := by
  cases x; cases y
  simpa [idA, idL] using h
end Go.Proofs.Ytlknjdfiedkhbaa.Jo
namespace Go.Proofs.Ytlknjdfiedkhbaa.Crc

/-- a string with k successive bytes changed, from a on, as far as it goes -/
def chg (l : List UInt8) (a : Nat) (bs : List UInt8) : Nat → List UInt8
  | 0 => l
  | k + 1 => if a + k < l.length then (chg l a bs k).set (a + k) ((chg l a bs k)[a + k]?.getD 0 ^^^ bs[k]?.getD 0) else chg l a bs k
theorem chg_len (l : List UInt8) (a : Nat) (bs : List UInt8) : ∀ k, (chg l a bs k).length = l.length
  | 0 => rfl
  | k + 1 => by unfold chg; split <;> simp [chg_len l a bs k]
theorem chg_at (l : List UInt8) (a : Nat) (bs : List UInt8) : ∀ k j, (j < a ∨ a + k ≤ j) → (chg l a bs k)[j]? = l[j]?
  | 0, j, _ => rfl
  | k + 1, j, h => by
    unfold chg
    split
    · rw [List.getElem?_set_ne (by omega)]; exact chg_at l a bs k j (by omega)
    · exact chg_at l a bs k j (by omega)
theorem win (X : List UInt8) (a : Nat) (ha : a ≤ X.length) (hz : ∀ j, j < X.length → (j < a ∨ a + 4 ≤ j) → X[j]? = some 0) :
    X = List.replicate a 0 ++ (X.drop a).take 4 ++ List.replicate (X.length - a - 4) 0 := by
  have h1 : X.take a = List.replicate a 0 := by
    rw [List.eq_replicate_iff]
    refine ⟨by simp; omega, fun b hb => ?_⟩
    obtain ⟨j, hj, rfl⟩ := List.getElem_of_mem hb
    rw [List.length_take] at hj
    have := hz j (by omega) (.inl (by omega))
    rw [List.getElem?_eq_getElem (by omega)] at this
    rw [List.getElem_take]; exact Option.some.inj this
  have h2 : (X.drop a).drop 4 = List.replicate (X.length - a - 4) 0 := by
    rw [List.eq_replicate_iff]
    refine ⟨by simp; omega, fun b hb => ?_⟩
    obtain ⟨j, hj, rfl⟩ := List.getElem_of_mem hb
    rw [List.length_drop, List.length_drop] at hj
    have := hz (a + (4 + j)) (by omega) (.inr (by omega))
    rw [List.getElem?_eq_getElem (by omega)] at this
    rw [List.getElem_drop, List.getElem_drop]; exact Option.some.inj this
  rw [← h1, ← h2, List.append_assoc, List.take_append_drop, List.take_append_drop]
theorem xorL_at (l t : List UInt8) (j : Nat) : (xorL l t)[j]? = match l[j]?, t[j]? with | some x, some y => some (x ^^^ y) | _, _ => none := by
  unfold xorL
  rw [List.getElem?_zipWith]
  cases l[j]? <;> cases t[j]? <;> rfl
theorem xor_zero_eq {x y : UInt8} (h : x ^^^ y = 0) : x = y := by
  have e := congrArg UInt8.toNat h
  rw [UInt8.toNat_xor] at e
  exact UInt8.toNat_inj.1 (xor_eq_zero e)
theorem xorL_zero {l t : List UInt8} (hlen : l.length = t.length) (h : xorL l t = List.replicate l.length 0) : l = t := by
  refine List.ext_getElem hlen (fun j h1 h2 => ?_)
  have e := xorL_at l t j
  rw [h, List.getElem?_eq_getElem h1, List.getElem?_eq_getElem h2, List.getElem?_replicate, if_pos h1] at e
  exact xor_zero_eq (Option.some.inj e).symm
/-- two strings that differ in four successive bytes at most, and have the same remainder, are the same -/
theorem detects {l t : List UInt8} {a : Nat} (r : Nat) (hlen : l.length = t.length) (ha : a ≤ l.length) (h : ∀ j, (j < a ∨ a + 4 ≤ j) → t[j]? = l[j]?) (hs : upd r l = upd r t) : l = t := by
  have hx : upd 0 (xorL l t) = 0 := by
    have := upd_xor l t r r hlen
    rwa [Nat.xor_self, hs, Nat.xor_self] at this
  have hl := xorL_len l t hlen
  have hw := win (xorL l t) a (by omega) (fun j hj hor => by
    rw [xorL_at, h j hor, List.getElem?_eq_getElem (by omega)]
    show some (l[j] ^^^ l[j]) = some 0
    rw [UInt8.xor_self])
  have hd : (((xorL l t).drop a).take 4).length ≤ 4 := by rw [List.length_take]; omega
  rw [hw] at hx
  have h0 := upd_burst _ _ _ hd hx
  rw [h0, List.replicate_append_replicate, List.replicate_append_replicate] at hw
  refine xorL_zero hlen (hw.trans ?_)
  have := congrArg List.length hw
  rw [List.length_replicate] at this
  rw [← this, hl]
theorem sum_upd {l t : List UInt8} (h : sum l = sum t) : upd most l = upd most t := by
  unfold sum at h
  have := congrArg (· ^^^ most) h
  simpa [xor_xor_cancel] using this
theorem chg_detect (l : List UInt8) (a : Nat) (bs : List UInt8) (ha : a ≤ l.length) : decide (l = chg l a bs 4) = decide (sum l = sum (chg l a bs 4)) := by
  by_cases h : l = chg l a bs 4
  · rw [decide_eq_true h, decide_eq_true (congrArg sum h)]
  · rw [decide_eq_false h, decide_eq_false (fun hs => h (detects most (chg_len l a bs 4).symm ha (fun j hj => chg_at l a bs 4 j hj) (sum_upd hs)))]
end Go.Proofs.Ytlknjdfiedkhbaa.Crc
