/- The encoding of integers, strings and lists as plain functions on lists of bytes, and what the laws say of it. No program is in sight here. -/
import Derived.WalkKit
namespace Go.Proofs.Ytlknjdfiedkhbaa.Vi

def big : Int := 1152921504606846976
/-- the groups above the last one -/
def hi (m : Nat) : List UInt8 := if m = 0 then [] else hi (m / 128) ++ [UInt8.ofNat (128 + m % 128)]
termination_by m
decreasing_by omega
def enc (m : Nat) : List UInt8 := hi (m / 128) ++ [UInt8.ofNat (m % 128)]
def zig (n : Int) : Nat := if n < 0 then (-2 * n - 1).toNat else (2 * n).toNat
def unzig (m : Nat) : Int := if m % 2 = 1 then -((m : Int) + 1) / 2 else (m : Int) / 2
def inR (n : Int) : Bool := decide (-big ≤ n) && decide (n ≤ big)
def intL (n : Int) : List UInt8 := if inR n = true then enc (zig n) else []
def intE (n : Int) : Int := if inR n = true then 0 else 2

theorem inR_iff (n : Int) : inR n = true ↔ -big ≤ n ∧ n ≤ big := by simp [inR]
theorem zig_unzig (n : Int) : unzig (zig n) = n := by
  unfold unzig zig
  split <;> split <;> omega
theorem unzig_zig (m : Nat) : zig (unzig m) = m := by
  unfold unzig zig
  split <;> split <;> omega
theorem zig_lt (n : Int) (h : inR n = true) : zig n ≤ 2305843009213693952 := by
  obtain ⟨h1, h2⟩ := (inR_iff n).1 h
  unfold big at h1 h2
  unfold zig
  split <;> omega

theorem hi_zero : hi 0 = [] := by rw [hi]; simp
theorem hi_pos (m : Nat) (h : m ≠ 0) : hi m = hi (m / 128) ++ [UInt8.ofNat (128 + m % 128)] := by rw [hi]; simp [h]
theorem enc_ne (m : Nat) : enc m ≠ [] := by unfold enc; simp
theorem enc_len (m : Nat) : (enc m).length = (hi (m / 128)).length + 1 := by unfold enc; simp
theorem hi_len : ∀ (k m : Nat), m < 128 ^ k → (hi m).length ≤ k
  | 0, m, h => by
    obtain rfl : m = 0 := by simpa using h
    simp [hi_zero]
  | k + 1, m, h => by
    by_cases e : m = 0
    · subst e; simp [hi_zero]
    · rw [hi_pos m e, List.length_append]
      have := hi_len k (m / 128) (by rw [Nat.pow_succ] at h; omega)
      simp; omega
theorem enc_len_le (k m : Nat) (h : m < 128 ^ (k + 1)) : (enc m).length ≤ k + 1 := by
  rw [enc_len]
  have := hi_len k (m / 128) (by rw [Nat.pow_succ] at h; omega)
  omega
theorem enc_len9 (n : Int) (h : inR n = true) : (enc (zig n)).length ≤ 9 := by
  have := zig_lt n h
  exact enc_len_le 8 _ (Nat.lt_of_le_of_lt this (by decide))
theorem intL_len9 (n : Int) : (intL n).length ≤ 9 := by
  unfold intL
  split
  · exact enc_len9 n ‹_›
  · simp
theorem hi_mono : ∀ (N a b : Nat), b ≤ N → a ≤ b → (hi a).length ≤ (hi b).length
  | 0, a, b, hN, h => by
    obtain rfl : b = 0 := by omega
    obtain rfl : a = 0 := by omega
    exact Nat.le_refl _
  | N + 1, a, b, hN, h => by
    by_cases ea : a = 0
    · subst ea; simp [hi_zero]
    · rw [hi_pos a ea, hi_pos b (by omega)]
      have := hi_mono N (a / 128) (b / 128) (by omega) (Nat.div_le_div_right h)
      simpa using this
theorem enc_mono {a b : Nat} (h : a ≤ b) : (enc a).length ≤ (enc b).length := by
  rw [enc_len, enc_len]
  have := hi_mono _ _ _ (Nat.le_refl _) (Nat.div_le_div_right (c := 128) h)
  omega
/-- VarintSizes -/
theorem size_mono {a b : Int} (h : 0 ≤ a ∧ a ≤ b ∨ b ≤ a ∧ a < 0) : (enc (zig a)).length ≤ (enc (zig b)).length := by
  apply enc_mono
  unfold zig
  rcases h with h | h
  · rw [if_neg (by omega), if_neg (by omega)]; omega
  · rw [if_pos (by omega), if_pos (by omega)]; omega

/-! ### from the most significant group down -/
def upL (m : Nat) : Nat → List UInt8
  | 0 => [UInt8.ofNat (128 + m % 128)]
  | k + 1 => UInt8.ofNat (128 + m / 128 ^ (k + 1) % 128) :: upL m k
theorem upL_snoc (m : Nat) : ∀ k, upL m (k + 1) = upL (m / 128) k ++ [UInt8.ofNat (128 + m % 128)]
  | 0 => by simp [upL]
  | k + 1 => by
    rw [upL, upL_snoc m k, upL, List.cons_append]
    congr 4
    rw [Nat.div_div_eq_div_mul, ← Nat.pow_succ']
theorem hi_up : ∀ (k m : Nat), 128 ^ k ≤ m → m < 128 ^ (k + 1) → hi m = upL m k
  | 0, m, h1, h2 => by
    rw [hi_pos m (by simp at h1; omega), show m / 128 = 0 by simp at h2; omega, hi_zero]; rfl
  | k + 1, m, h1, h2 => by
    have e : 128 ^ (k + 1) = 128 * 128 ^ k := Nat.pow_succ'
    have e2 : 128 ^ (k + 1 + 1) = 128 * 128 ^ (k + 1) := Nat.pow_succ'
    have hp : 0 < 128 ^ k := Nat.pow_pos (by decide)
    rw [hi_pos m (by omega), hi_up k (m / 128) (by omega) (by omega), upL_snoc]
/-- the groups of a number from the k-th down -/
def down (m : Nat) : Nat → List UInt8
  | 0 => [UInt8.ofNat (m % 128)]
  | k + 1 => UInt8.ofNat (128 + m / 128 ^ (k + 1) % 128) :: down m k
theorem down_up (m : Nat) : ∀ k, down m (k + 1) = upL (m / 128) k ++ [UInt8.ofNat (m % 128)]
  | 0 => by simp [upL, down]
  | k + 1 => by
    rw [down, down_up m k, upL, List.cons_append]
    congr 4
    rw [Nat.div_div_eq_div_mul, ← Nat.pow_succ']
theorem enc_down (k m : Nat) (h1 : k = 0 ∨ 128 ^ k ≤ m) (h2 : m < 128 ^ (k + 1)) : enc m = down m k := by
  cases k with
  | zero =>
    unfold enc
    rw [show m / 128 = 0 by simp at h2; omega, hi_zero]; rfl
  | succ k =>
    have h1' : 128 ^ (k + 1) ≤ m := by rcases h1 with h | h; exact absurd h (by omega); exact h
    have e : 128 ^ (k + 1) = 128 * 128 ^ k := Nat.pow_succ'
    have e2 : 128 ^ (k + 1 + 1) = 128 * 128 ^ (k + 1) := Nat.pow_succ'
    unfold enc
    rw [down_up, hi_up k (m / 128) (by omega) (by omega)]
theorem down_len (m : Nat) : ∀ k, (down m k).length = k + 1
  | 0 => rfl
  | k + 1 => by rw [down, List.length_cons, down_len m k]

/-! ### reading -/
/-- the value, the size and the error number; f: how many bytes may still come, m and k: what has been read -/
def scan : Nat → Nat → Nat → List UInt8 → Nat × Nat × Int
  | 0, _, _, _ => (0, 0, 11)
  | _ + 1, _, _, [] => (0, 0, 12)
  | f + 1, m, k, c :: r => if 128 ≤ c.toNat then scan f (m * 128 + c.toNat % 128) (k + 1) r else (m * 128 + c.toNat, k + 1, 0)
def head (l : List UInt8) : Nat := (l[0]?.getD 0).toNat
/-- what ReadInt gives -/
def rd (l : List UInt8) : Int × Nat × Int :=
  match scan 9 0 0 l with
  | (m, k, e) => if e = 0 then (if head l = 128 ∨ inR (unzig m) = false then (0, 0, 11) else (unzig m, k, 0)) else (0, 0, e)
theorem scan_hi : ∀ (j m f acc k : Nat) (r : List UInt8), (hi m).length = j → j ≤ f → scan f acc k (hi m ++ r) = scan (f - j) (acc * 128 ^ j + m) (k + j) r
  | 0, m, f, acc, k, r, hj, _ => by
    have e : m = 0 := by
      by_cases e : m = 0
      · exact e
      · rw [hi_pos m e] at hj; simp at hj
    subst e; simp [hi_zero]
  | j + 1, m, f, acc, k, r, hj, hf => by
    have e : m ≠ 0 := by rintro rfl; simp [hi_zero] at hj
    have hj' : (hi (m / 128)).length = j := by rw [hi_pos m e] at hj; simpa using hj
    have hc : (UInt8.ofNat (128 + m % 128)).toNat = 128 + m % 128 := by rw [UInt8.toNat_ofNat']; omega
    rw [hi_pos m e, List.append_assoc, scan_hi j (m / 128) f acc k _ hj' (by omega)]
    obtain ⟨g, hg⟩ : ∃ g, f - j = g + 1 := ⟨f - j - 1, by omega⟩
    rw [hg, List.singleton_append, scan, if_pos (by omega), hc, show g = f - (j + 1) by omega]
    congr 1
    rw [Nat.pow_succ, Nat.add_mul, Nat.mul_assoc]
    omega
theorem scan_enc (m : Nat) (r : List UInt8) (h : m < 128 ^ 9) : scan 9 0 0 (enc m ++ r) = (m, (enc m).length, 0) := by
  have hl := hi_len 8 (m / 128) (by omega)
  have hc : (UInt8.ofNat (m % 128)).toNat = m % 128 := by rw [UInt8.toNat_ofNat']; omega
  rw [enc_len]
  unfold enc
  rw [List.append_assoc, scan_hi _ (m / 128) 9 0 0 _ rfl (by omega)]
  obtain ⟨g, hg⟩ : ∃ g, 9 - (hi (m / 128)).length = g + 1 := ⟨9 - (hi (m / 128)).length - 1, by omega⟩
  rw [hg, List.singleton_append, scan, if_neg (by omega), hc]
  simp
  omega
theorem hi_head (m : Nat) : ∀ (r : List UInt8), m ≠ 0 → head (hi m ++ r) ≠ 128 := by
  induction m using Nat.strongRecOn with
  | ind m ih =>
    intro r h
    rw [hi_pos m h]
    by_cases e : m / 128 = 0
    · rw [e, hi_zero]
      simp [head]; omega
    · rw [List.append_assoc]
      exact ih (m / 128) (by omega) _ e
theorem enc_head (m : Nat) (r : List UInt8) : head (enc m ++ r) ≠ 128 := by
  unfold enc
  rw [List.append_assoc]
  by_cases e : m / 128 = 0
  · rw [e, hi_zero]
    have hc : (UInt8.ofNat (m % 128)).toNat = m % 128 := by rw [UInt8.toNat_ofNat']; omega
    simp [head, hc]; omega
  · exact hi_head _ _ e
/-- VarintRoundTrip, for an integer -/
theorem rd_enc (n : Int) (r : List UInt8) (h : inR n = true) : rd (intL n ++ r) = (n, (intL n).length, 0) := by
  have hz := zig_lt n h
  unfold intL
  rw [if_pos h]
  unfold rd
  rw [scan_enc (zig n) r (Nat.lt_of_le_of_lt hz (by decide))]
  simp [enc_head, zig_unzig, h]
/-- VarintCanonical, for an integer -/
theorem scan_canon : ∀ (f acc k : Nat) (l : List UInt8) (m k' : Nat), scan f acc k l = (m, k', 0) → (acc ≠ 0 ∨ head l ≠ 128) → k < k' ∧ k' - k ≤ l.length ∧ enc m = hi acc ++ l.take (k' - k)
  | 0, acc, k, l, m, k', h, _ => by simp [scan] at h
  | f + 1, acc, k, [], m, k', h, _ => by simp [scan] at h
  | f + 1, acc, k, c :: r, m, k', h, hn => by
    have hc := c.toNat_lt
    rw [scan] at h
    split at h
    · rename_i h128
      have hne : acc * 128 + c.toNat % 128 ≠ 0 := by
        rcases hn with hn | hn
        · omega
        · have : c.toNat ≠ 128 := by simpa [head] using hn
          omega
      obtain ⟨h1, h2, h3⟩ := scan_canon f _ (k + 1) r m k' h (.inl hne)
      refine ⟨by omega, by simp; omega, ?_⟩
      rw [h3, hi_pos _ hne, show (acc * 128 + c.toNat % 128) / 128 = acc by omega, show (acc * 128 + c.toNat % 128) % 128 = c.toNat % 128 by omega,
        show UInt8.ofNat (128 + c.toNat % 128) = c from UInt8.toNat_inj.1 (by rw [UInt8.toNat_ofNat']; omega), show k' - k = (k' - (k + 1)) + 1 by omega, List.take_succ_cons, List.append_assoc]; rfl
    · rename_i h128
      simp only [Prod.mk.injEq] at h
      obtain ⟨rfl, rfl, _⟩ := h
      refine ⟨by omega, by simp, ?_⟩
      unfold enc
      rw [show (acc * 128 + c.toNat) / 128 = acc by omega, show (acc * 128 + c.toNat) % 128 = c.toNat by omega, show UInt8.ofNat c.toNat = c from UInt8.toNat_inj.1 (by rw [UInt8.toNat_ofNat']; omega)]
      simp
theorem rd_canon {l : List UInt8} {n : Int} {k : Nat} (h : rd l = (n, k, 0)) : inR n = true ∧ 1 ≤ k ∧ k ≤ l.length ∧ intL n = l.take k ∧ k ≤ 9 := by
  unfold rd at h
  generalize hs : scan 9 0 0 l = q at h
  obtain ⟨m, k', e⟩ := q
  simp only at h
  split at h
  · rename_i he
    split at h
    · simp at h
    · rename_i hn
      simp only [Prod.mk.injEq] at h
      obtain ⟨rfl, rfl, _⟩ := h
      subst he
      have h128 : head l ≠ 128 := fun e => hn (.inl e)
      have hin : inR (unzig m) = true := by
        cases hq : inR (unzig m) with
        | true => rfl
        | false => exact absurd (.inr hq) hn
      obtain ⟨h1, h2, h3⟩ := scan_canon 9 0 0 l m k' hs (.inr h128)
      rw [hi_zero, List.nil_append, Nat.sub_zero] at h3
      have h9 := enc_len9 _ hin
      rw [unzig_zig, h3, List.length_take] at h9
      refine ⟨hin, by omega, by omega, ?_, by omega⟩
      unfold intL
      rw [if_pos hin, unzig_zig, h3]
  · rename_i he
    simp only [Prod.mk.injEq] at h
    exact absurd h.2.2 he
theorem rd_err {l : List UInt8} (h : (rd l).2.2 ≠ 0) : (rd l).1 = 0 ∧ (rd l).2.1 = 0 := by
  unfold rd at h ⊢
  generalize scan 9 0 0 l = q at h ⊢
  obtain ⟨m, k', e⟩ := q
  simp only at h ⊢
  split at h
  · split at h
    · rename_i h1 h2; simp [h1, h2]
    · exact absurd rfl h
  · rename_i h1; simp [h1]
theorem scan_short : ∀ (f acc k : Nat) (l : List UInt8), l.length < f → (∀ c ∈ l, 128 ≤ c.toNat) → scan f acc k l = (0, 0, 12)
  | 0, _, _, _, h, _ => absurd h (by omega)
  | f + 1, acc, k, [], _, _ => rfl
  | f + 1, acc, k, c :: r, h, hc => by
    rw [scan, if_pos (hc c (by simp))]
    exact scan_short f _ _ r (by simpa using h) (fun x hx => hc x (by simp [hx]))
theorem hi_high (m : Nat) : ∀ c ∈ hi m, 128 ≤ c.toNat := by
  induction m using Nat.strongRecOn with
  | ind m ih =>
    intro c hc
    by_cases e : m = 0
    · subst e; simp [hi_zero] at hc
    · rw [hi_pos m e, List.mem_append] at hc
      rcases hc with hc | hc
      · exact ih (m / 128) (by omega) c hc
      · simp at hc
        rw [hc, show (128 + UInt8.ofNat (m % 128)) = UInt8.ofNat (128 + m % 128) by simp, UInt8.toNat_ofNat']; omega
/-- VarintBeginnings, for an integer -/
theorem rd_short (n : Int) (h : inR n = true) (k : Nat) (hk : k < (intL n).length) : rd ((intL n).take k) = (0, 0, 12) := by
  have h9 := enc_len9 n h
  unfold intL at hk ⊢
  rw [if_pos h] at hk ⊢
  have e : (enc (zig n)).take k = (hi (zig n / 128)).take k := by
    unfold enc
    rw [List.take_append_of_le_length]
    rw [enc_len] at hk; omega
  rw [e]
  unfold rd
  rw [scan_short 9 0 0 _ (by rw [enc_len] at hk h9; simp; omega) (fun c hc => hi_high _ c (List.mem_of_mem_take hc))]
  rfl

/-! ### strings and lists -/
def textL (s : List UInt8) : List UInt8 := if s.length ≤ 65536 then intL s.length ++ s else []
def textE (s : List UInt8) : Int := if s.length ≤ 65536 then 0 else 4
def listE (l : List Int) : Int := if l.length ≤ 65536 then (if l.all inR = true then 0 else 2) else 4
def listL (l : List Int) : List UInt8 := if listE l = 0 then intL l.length ++ (l.map intL).flatten else []
/-- a length -/
def rlen (l : List UInt8) : Int × Nat × Int := if (rd l).2.2 = 0 then (if 0 ≤ (rd l).1 ∧ (rd l).1 ≤ 65536 then ((rd l).1, (rd l).2.1, 0) else (0, 0, 11)) else (0, 0, (rd l).2.2)
def rtext (l : List UInt8) : List UInt8 × Nat × Int :=
  if (rlen l).2.2 = 0 then (if (l.length : Int) - (rlen l).2.1 < (rlen l).1 then ([], 0, 12) else ((l.drop (rlen l).2.1).take (rlen l).1.toNat, (rlen l).2.1 + (rlen l).1.toNat, 0)) else ([], 0, (rlen l).2.2)
def rints : Nat → List UInt8 → Nat → List Int → List Int × Nat × Int
  | 0, _, p, acc => (acc, p, 0)
  | c + 1, l, p, acc => if (rd (l.drop p)).2.2 = 0 then rints c l (p + (rd (l.drop p)).2.1) (acc ++ [(rd (l.drop p)).1]) else ([], 0, (rd (l.drop p)).2.2)
def rlist (l : List UInt8) : List Int × Nat × Int := if (rlen l).2.2 = 0 then rints (rlen l).1.toNat l (rlen l).2.1 [] else ([], 0, (rlen l).2.2)

theorem small_inR (n : Nat) (h : n ≤ 65536) : inR (n : Int) = true := by rw [inR_iff]; unfold big; omega
theorem rd_ok {l : List UInt8} (h : (rd l).2.2 = 0) : rd l = ((rd l).1, (rd l).2.1, 0) := by
  rw [← h]
theorem rd_range (l : List UInt8) (h : (rd l).2.2 = 0) : inR (rd l).1 = true ∧ 1 ≤ (rd l).2.1 ∧ (rd l).2.1 ≤ l.length ∧ intL (rd l).1 = l.take (rd l).2.1 ∧ (rd l).2.1 ≤ 9 := rd_canon (rd_ok h)
theorem rlen_of {l : List UInt8} {n : Nat} {k : Nat} (h : rd l = ((n : Int), k, 0)) (hn : n ≤ 65536) : rlen l = ((n : Int), k, 0) := by
  unfold rlen
  rw [h]
  simp
  omega
theorem rlen_short {l : List UInt8} (h : rd l = (0, 0, 12)) : rlen l = (0, 0, 12) := by
  unfold rlen
  rw [h]; simp
theorem rlen_ok {l : List UInt8} (h : (rlen l).2.2 = 0) : (rd l).2.2 = 0 ∧ rlen l = ((rd l).1, (rd l).2.1, 0) ∧ 0 ≤ (rd l).1 ∧ (rd l).1 ≤ 65536 := by
  unfold rlen at h ⊢
  split at h
  · rename_i h1
    split at h
    · rename_i h2
      exact ⟨h1, by rw [if_pos h1, if_pos h2], h2.1, h2.2⟩
    · exact absurd h (by decide)
  · rename_i h1; exact absurd h h1
/-- VarintRoundTrip, for a string -/
theorem rtext_enc (s r : List UInt8) (h : s.length ≤ 65536) : rtext (textL s ++ r) = (s, (textL s).length, 0) := by
  unfold textL
  rw [if_pos h]
  have h1 := rd_enc (s.length : Int) (s ++ r) (small_inR _ h)
  have h2 := rlen_of h1 h
  unfold rtext
  rw [List.append_assoc, h2]
  simp only [if_true, List.length_append, Int.toNat_natCast]
  rw [if_neg (by omega), List.drop_left, List.take_left]
/-- VarintCanonical, for a string -/
theorem rtext_canon {l x : List UInt8} {k : Nat} (h : rtext l = (x, k, 0)) : textE x = 0 ∧ 1 ≤ k ∧ k ≤ l.length ∧ textL x = l.take k := by
  unfold rtext at h
  split at h
  · rename_i h1
    obtain ⟨h2, h3, h4, h5⟩ := rlen_ok h1
    obtain ⟨c1, c2, c3, c4, _⟩ := rd_range l h2
    rw [h3] at h
    simp only at h
    split at h
    · simp at h
    · rename_i h6
      simp only [Prod.mk.injEq, and_true] at h
      obtain ⟨rfl, rfl⟩ := h
      generalize (rd l).1 = n at *
      generalize (rd l).2.1 = j at *
      obtain ⟨n, rfl⟩ := Int.eq_ofNat_of_zero_le h4
      rw [Int.toNat_natCast] at *
      have hl : ((l.drop j).take n).length = n := by simp; omega
      refine ⟨by unfold textE; rw [hl, if_pos (by omega)], by omega, by omega, ?_⟩
      unfold textL
      rw [hl, if_pos (by omega), c4, List.take_add]
  · rename_i h1
    simp only [Prod.mk.injEq] at h
    exact absurd h.2.2 h1
theorem rtext_err {l : List UInt8} (h : (rtext l).2.2 ≠ 0) : (rtext l).1 = [] ∧ (rtext l).2.1 = 0 := by
  unfold rtext at h ⊢
  split at h
  · split at h
    · rename_i h1 h2; rw [if_pos h1, if_pos h2]; exact ⟨rfl, rfl⟩
    · exact absurd rfl h
  · rename_i h1; rw [if_neg h1]; exact ⟨rfl, rfl⟩
/-- a beginning of an encoding of a length, or the whole, with fewer bytes behind it -/
theorem take_split (a b : List UInt8) (k : Nat) : (a ++ b).take k = if k < a.length then a.take k else a ++ b.take (k - a.length) := by
  split
  · rw [List.take_append_of_le_length (by omega)]
  · rename_i h
    rw [List.take_append, List.take_of_length_le (by omega)]
/-- VarintBeginnings, for a string -/
theorem rtext_short (s : List UInt8) (h : s.length ≤ 65536) (k : Nat) (hk : k < (textL s).length) : rtext ((textL s).take k) = ([], 0, 12) := by
  unfold textL at hk ⊢
  rw [if_pos h] at hk ⊢
  rw [take_split]
  split
  · rename_i h1
    have h2 := rlen_short (rd_short (s.length : Int) (small_inR _ h) k h1)
    unfold rtext
    rw [h2]; simp
  · rename_i h1
    rw [List.length_append] at hk
    have h2 := rlen_of (rd_enc (s.length : Int) (s.take (k - (intL s.length).length)) (small_inR _ h)) h
    unfold rtext
    rw [h2]
    simp only [if_true]
    rw [if_pos (by simp; omega)]

theorem rints_enc : ∀ (xs : List Int) (pre r : List UInt8) (acc : List Int), xs.all inR = true → rints xs.length (pre ++ (xs.map intL).flatten ++ r) pre.length acc = (acc ++ xs, (pre ++ (xs.map intL).flatten).length, 0)
  | [], pre, r, acc, _ => by simp [rints]
  | x :: xs, pre, r, acc, h => by
    rw [List.all_cons, Bool.and_eq_true] at h
    have hd : (pre ++ ((x :: xs).map intL).flatten ++ r).drop pre.length = intL x ++ ((xs.map intL).flatten ++ r) := by
      rw [List.append_assoc, List.drop_left, List.map_cons, List.flatten_cons, List.append_assoc]
    rw [List.length_cons, rints, hd, rd_enc x _ h.1]
    simp only [if_true]
    have ih := rints_enc xs (pre ++ intL x) r (acc ++ [x]) h.2
    rw [List.length_append] at ih
    rw [List.map_cons, List.flatten_cons, ← List.append_assoc pre, ih, List.append_assoc acc]; rfl
/-- VarintRoundTrip, for a list -/
theorem rlist_enc (xs : List Int) (r : List UInt8) (h : listE xs = 0) : rlist (listL xs ++ r) = (xs, (listL xs).length, 0) := by
  have h1 : xs.length ≤ 65536 ∧ xs.all inR = true := by
    unfold listE at h
    split at h
    · split at h
      · exact ⟨‹_›, ‹_›⟩
      · exact absurd h (by decide)
    · exact absurd h (by decide)
  unfold listL
  rw [if_pos h]
  have h2 := rlen_of (rd_enc (xs.length : Int) ((xs.map intL).flatten ++ r) (small_inR _ h1.1)) h1.1
  unfold rlist
  rw [List.append_assoc, h2]
  simp only [if_true, Int.toNat_natCast]
  have := rints_enc xs (intL xs.length) r [] h1.2
  rw [List.append_assoc] at this
  rw [this, List.nil_append]
theorem rints_canon : ∀ (c : Nat) (l : List UInt8) (p : Nat) (acc xs : List Int) (k : Nat), rints c l p acc = (xs, k, 0) → p ≤ l.length → ∃ ys, xs = acc ++ ys ∧ ys.length = c ∧ ys.all inR = true ∧ p ≤ k ∧ k ≤ l.length ∧ (ys.map intL).flatten = (l.drop p).take (k - p)
  | 0, l, p, acc, xs, k, h, hp => by
    simp only [rints, Prod.mk.injEq] at h
    obtain ⟨rfl, rfl, _⟩ := h
    exact ⟨[], by simp, rfl, rfl, Nat.le_refl _, hp, by simp⟩
  | c + 1, l, p, acc, xs, k, h, hp => by
    rw [rints] at h
    split at h
    · rename_i h1
      obtain ⟨c1, c2, c3, c4, _⟩ := rd_range _ h1
      rw [List.length_drop] at c3
      obtain ⟨ys, e1, e2, e3, e4, e5, e6⟩ := rints_canon c l _ _ xs k h (by omega)
      refine ⟨(rd (l.drop p)).1 :: ys, by rw [e1, List.append_assoc]; rfl, by simp [e2], by rw [List.all_cons, c1, e3]; rfl, by omega, e5, ?_⟩
      rw [List.map_cons, List.flatten_cons, c4, e6, ← List.drop_drop, ← List.take_add]
      congr 1; omega
    · rename_i h1
      simp only [Prod.mk.injEq] at h
      exact absurd h.2.2 h1
/-- VarintCanonical, for a list -/
theorem rlist_canon {l : List UInt8} {xs : List Int} {k : Nat} (h : rlist l = (xs, k, 0)) : listE xs = 0 ∧ 1 ≤ k ∧ k ≤ l.length ∧ listL xs = l.take k ∧ xs.all inR = true := by
  unfold rlist at h
  split at h
  · rename_i h1
    obtain ⟨h2, h3, h4, h5⟩ := rlen_ok h1
    obtain ⟨c1, c2, c3, c4, _⟩ := rd_range l h2
    rw [h3] at h
    simp only at h
    obtain ⟨ys, e1, e2, e3, e4, e5, e6⟩ := rints_canon _ l _ _ xs k h c3
    rw [List.nil_append] at e1
    subst e1
    have hE : listE xs = 0 := by unfold listE; rw [if_pos (by omega), if_pos e3]
    refine ⟨hE, by omega, e5, ?_, e3⟩
    unfold listL
    rw [if_pos hE, e6, e2, show (((rd l).1.toNat : Nat) : Int) = (rd l).1 by omega, c4, ← List.take_add]
    congr 1; omega
  · rename_i h1
    simp only [Prod.mk.injEq] at h
    exact absurd h.2.2 h1
theorem rints_err : ∀ (c : Nat) (l : List UInt8) (p : Nat) (acc : List Int), (rints c l p acc).2.2 ≠ 0 → (rints c l p acc).1 = [] ∧ (rints c l p acc).2.1 = 0
  | 0, l, p, acc, h => absurd rfl h
  | c + 1, l, p, acc, h => by
    rw [rints] at h ⊢
    split at h
    · rename_i h1; rw [if_pos h1]; exact rints_err c l _ _ h
    · rename_i h1; rw [if_neg h1]; exact ⟨rfl, rfl⟩
theorem rlist_err {l : List UInt8} (h : (rlist l).2.2 ≠ 0) : (rlist l).1 = [] ∧ (rlist l).2.1 = 0 := by
  unfold rlist at h ⊢
  split at h
  · rename_i h1; rw [if_pos h1]; exact rints_err _ _ _ _ h
  · rename_i h1; rw [if_neg h1]; exact ⟨rfl, rfl⟩
theorem rints_short : ∀ (xs : List Int) (pre : List UInt8) (acc : List Int) (k : Nat), xs.all inR = true → k < ((xs.map intL).flatten).length → rints xs.length (pre ++ ((xs.map intL).flatten).take k) pre.length acc = ([], 0, 12)
  | [], pre, acc, k, _, hk => by simp at hk
  | x :: xs, pre, acc, k, h, hk => by
    rw [List.all_cons, Bool.and_eq_true] at h
    rw [List.map_cons, List.flatten_cons] at hk ⊢
    rw [List.length_cons, rints, take_split]
    split
    · rename_i h1
      rw [List.drop_left, rd_short x h.1 k h1]; simp
    · rename_i h1
      rw [List.length_append] at hk
      rw [List.drop_left, rd_enc x _ h.1]
      simp only [if_true]
      have ih := rints_short xs (pre ++ intL x) (acc ++ [x]) (k - (intL x).length) h.2 (by omega)
      rw [List.length_append] at ih
      rw [← List.append_assoc, ih]
/-- VarintBeginnings, for a list -/
theorem rlist_short (xs : List Int) (h : listE xs = 0) (k : Nat) (hk : k < (listL xs).length) : rlist ((listL xs).take k) = ([], 0, 12) := by
  have h1 : xs.length ≤ 65536 ∧ xs.all inR = true := by
    unfold listE at h
    split at h
    · split at h
      · exact ⟨‹_›, ‹_›⟩
      · exact absurd h (by decide)
    · exact absurd h (by decide)
  unfold listL at hk ⊢
  rw [if_pos h] at hk ⊢
  rw [take_split]
  split
  · rename_i h2
    have h3 := rlen_short (rd_short (xs.length : Int) (small_inR _ h1.1) k h2)
    unfold rlist
    rw [h3]; simp
  · rename_i h2
    rw [List.length_append] at hk
    have h3 := rlen_of (rd_enc (xs.length : Int) (((xs.map intL).flatten).take (k - (intL xs.length).length)) (small_inR _ h1.1)) h1.1
    unfold rlist
    rw [h3]
    simp only [if_true, Int.toNat_natCast]
    exact rints_short xs (intL xs.length) [] _ h1.2 (by omega)
end Go.Proofs.Ytlknjdfiedkhbaa.Vi
