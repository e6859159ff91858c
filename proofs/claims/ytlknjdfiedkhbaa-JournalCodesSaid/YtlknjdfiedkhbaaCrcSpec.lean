/- The checksum as plain functions on natural numbers and lists of bytes, and what the laws say of it. No program is in sight here. -/
import Derived.WalkKit
namespace Go.Proofs.Ytlknjdfiedkhbaa.Crc

def poly : Nat := 2197175160
def most : Nat := 4294967295
def step1 (r : Nat) : Nat := if r % 2 = 1 then r / 2 ^^^ poly else r / 2
def stepN : Nat → Nat → Nat
  | 0, r => r
  | k + 1, r => stepN k (step1 r)
def upd (r : Nat) (l : List UInt8) : Nat := l.foldl (fun r b => stepN 8 (r ^^^ b.toNat)) r
def sum (l : List UInt8) : Nat := upd most l ^^^ most
/-- the checksum of a string behind another one -/
def update (c : Nat) (l : List UInt8) : Nat := upd (c ^^^ most) l ^^^ most
def combine (a b n : Nat) : Nat := stepN (8 * n) a ^^^ b
/-- the number that bytes spell, the least significant one first -/
def le : List UInt8 → Nat
  | [] => 0
  | b :: l => b.toNat + 256 * le l
def bytes4 (n : Nat) : List UInt8 := [UInt8.ofNat n, UInt8.ofNat (n / 256), UInt8.ofNat (n / 65536), UInt8.ofNat (n / 16777216)]

/-! ### the step is linear -/
theorem half_xor (a b : Nat) : (a ^^^ b) / 2 = a / 2 ^^^ b / 2 := by
  have h := Nat.shiftRight_xor_distrib (a := a) (b := b) (i := 1)
  simpa [Nat.shiftRight_eq_div_pow] using h
theorem odd_xor (a b : Nat) : (a ^^^ b) % 2 = (a % 2 ^^^ b % 2) := by
  have h := Nat.xor_mod_two_pow (a := a) (b := b) (n := 1)
  simpa using h
theorem xor_xor_cancel (a b : Nat) : a ^^^ b ^^^ b = a := by rw [Nat.xor_assoc, Nat.xor_self, Nat.xor_zero]
theorem xor_left_comm (a b c : Nat) : a ^^^ (b ^^^ c) = b ^^^ (a ^^^ c) := by rw [← Nat.xor_assoc, Nat.xor_comm a b, Nat.xor_assoc]
theorem step1_xor (a b : Nat) : step1 (a ^^^ b) = step1 a ^^^ step1 b := by
  unfold step1
  rw [odd_xor, half_xor]
  rcases Nat.mod_two_eq_zero_or_one a with ha | ha <;> rcases Nat.mod_two_eq_zero_or_one b with hb | hb <;> rw [ha, hb]
  · simp
  · simp [Nat.xor_assoc]
  · simp only [show (1 ^^^ 0 : Nat) = 1 from rfl, if_true, show ((0 : Nat) = 1) = False by simp, if_false]
    rw [Nat.xor_assoc, Nat.xor_comm (b / 2) poly, ← Nat.xor_assoc]
  · simp only [show (1 ^^^ 1 : Nat) = 0 from rfl, if_true, show ((0 : Nat) = 1) = False by simp, if_false]
    rw [Nat.xor_assoc, xor_left_comm poly, Nat.xor_self, Nat.xor_zero]
theorem stepN_xor : ∀ (k a b : Nat), stepN k (a ^^^ b) = stepN k a ^^^ stepN k b
  | 0, _, _ => rfl
  | k + 1, a, b => by rw [stepN, step1_xor, stepN_xor k, stepN, stepN]
theorem step1_zero : step1 0 = 0 := rfl
theorem stepN_zero : ∀ k, stepN k 0 = 0
  | 0 => rfl
  | k + 1 => by rw [stepN, step1_zero, stepN_zero k]
theorem stepN_add : ∀ (j k r : Nat), stepN (j + k) r = stepN k (stepN j r)
  | 0, k, r => by rw [Nat.zero_add]; rfl
  | j + 1, k, r => by rw [show j + 1 + k = (j + k) + 1 by omega, stepN, stepN_add j k, stepN]
theorem step1_even (y : Nat) : step1 (2 * y) = y := by unfold step1; rw [if_neg (by omega)]; omega
theorem stepN_pow : ∀ (k y : Nat), stepN k (2 ^ k * y) = y
  | 0, y => by simp [stepN]
  | k + 1, y => by rw [stepN, show 2 ^ (k + 1) * y = 2 * (2 ^ k * y) by rw [Nat.pow_succ, Nat.mul_comm (2 ^ k) 2, Nat.mul_assoc], step1_even, stepN_pow k]
theorem stepN8 (y : Nat) : stepN 8 (256 * y) = y := stepN_pow 8 y
theorem xor_lt (a b : Nat) (ha : a < 4294967296) (hb : b < 4294967296) : a ^^^ b < 4294967296 := Nat.xor_lt_two_pow (n := 32) ha hb
theorem step1_lt (r : Nat) (h : r < 4294967296) : step1 r < 4294967296 := by
  unfold step1
  split
  · exact xor_lt _ _ (by omega) (by decide)
  · omega
theorem stepN_lt : ∀ (k r : Nat), r < 4294967296 → stepN k r < 4294967296
  | 0, _, h => h
  | k + 1, r, h => stepN_lt k _ (step1_lt r h)
theorem xor_eq_zero {a b : Nat} (h : a ^^^ b = 0) : a = b := by
  have := congrArg (· ^^^ b) h
  simpa [xor_xor_cancel] using this
theorem step1_inj (r : Nat) (h : r < 4294967296) (e : step1 r = 0) : r = 0 := by
  unfold step1 at e
  split at e
  · have := xor_eq_zero e
    unfold poly at this
    omega
  · omega
theorem stepN_inj : ∀ (k r : Nat), r < 4294967296 → stepN k r = 0 → r = 0
  | 0, _, _, e => e
  | k + 1, r, h, e => step1_inj r h (stepN_inj k _ (step1_lt r h) e)
theorem stepN_eq {k a b : Nat} (ha : a < 4294967296) (hb : b < 4294967296) (h : stepN k a = stepN k b) : a = b := by
  apply xor_eq_zero
  apply stepN_inj k _ (xor_lt _ _ ha hb)
  rw [stepN_xor, h, Nat.xor_self]

/-! ### strings -/
theorem low_xor (b n : Nat) (h : b < 256) : b ^^^ 256 * n = b + 256 * n := by
  have e := Nat.two_pow_add_eq_or_of_lt (i := 8) (b := b) h n
  have e2 : (2 ^ 8 * n) &&& b = 0 := by
    apply Nat.eq_of_testBit_eq
    intro i
    rw [Nat.testBit_and, Nat.zero_testBit]
    by_cases hi : i < 8
    · rw [Nat.testBit_two_pow_mul]; simp; omega
    · rw [Nat.testBit_lt_two_pow (Nat.lt_of_lt_of_le h (show 256 ≤ 2 ^ i from Nat.pow_le_pow_right (n := 2) (by decide) (show 8 ≤ i by omega)))]; simp
  have e3 : b ^^^ 256 * n = 256 * n ||| b := by
    apply Nat.eq_of_testBit_eq
    intro i
    have := congrArg (fun x => x.testBit i) e2
    simp only [Nat.testBit_and, Nat.zero_testBit, show (2 : Nat) ^ 8 = 256 from rfl] at this
    rw [Nat.testBit_xor, Nat.testBit_or]
    cases h1 : b.testBit i <;> cases h2 : (256 * n).testBit i <;> simp_all
  rw [e3, show (256 : Nat) = 2 ^ 8 from rfl, ← e]; omega
theorem le_lt : ∀ l : List UInt8, le l < 256 ^ l.length
  | [] => by simp [le]
  | b :: l => by
    have h := le_lt l
    have hb := b.toNat_lt
    simp only [le, List.length_cons, Nat.pow_succ]
    omega
/-- what the bytes of a string do to a number is what steps do to it and the string's own number -/
theorem upd_eq : ∀ (l : List UInt8) (r : Nat), upd r l = stepN (8 * l.length) (r ^^^ le l)
  | [], r => by simp [upd, le, stepN]
  | b :: l, r => by
    have h : upd r (b :: l) = upd (stepN 8 (r ^^^ b.toNat)) l := rfl
    rw [h, upd_eq l]
    have e : stepN 8 (r ^^^ b.toNat) ^^^ le l = stepN 8 (r ^^^ le (b :: l)) := by
      rw [show le (b :: l) = b.toNat ^^^ 256 * le l by rw [low_xor _ _ b.toNat_lt]; rfl, ← Nat.xor_assoc, stepN_xor 8 _ (256 * le l), stepN8]
    rw [e, ← stepN_add, List.length_cons]
    congr 1; omega
theorem upd_append (r : Nat) (s t : List UInt8) : upd r (s ++ t) = upd (upd r s) t := List.foldl_append
theorem upd_lt : ∀ (l : List UInt8) (r : Nat), r < 4294967296 → upd r l < 4294967296
  | [], _, h => h
  | b :: l, r, h => upd_lt l _ (stepN_lt 8 _ (xor_lt _ _ h (by have := b.toNat_lt; omega)))
theorem sum_lt (l : List UInt8) : sum l < 4294967296 := xor_lt _ _ (upd_lt l _ (by decide)) (by decide)
theorem update_lt (c : Nat) (l : List UInt8) (h : c < 4294967296) : update c l < 4294967296 := xor_lt _ _ (upd_lt l _ (xor_lt _ _ h (by decide))) (by decide)
theorem combine_lt (a b n : Nat) (ha : a < 4294967296) (hb : b < 4294967296) : combine a b n < 4294967296 := xor_lt _ _ (stepN_lt _ _ ha) hb
/-- the sum as an update of nothing -/
theorem sum_update (l : List UInt8) : sum l = update 0 l := by unfold sum update; rw [Nat.zero_xor]

/-- CrcConcatenation -/
theorem sum_append (s t : List UInt8) : update (sum s) t = sum (s ++ t) := by
  unfold update sum
  rw [xor_xor_cancel, upd_append]
theorem combine_append (s t : List UInt8) : combine (sum s) (sum t) t.length = sum (s ++ t) := by
  unfold combine sum
  rw [upd_append, upd_eq t, upd_eq t, ← Nat.xor_assoc, ← stepN_xor]
  congr 2
  rw [Nat.xor_assoc, ← Nat.xor_assoc most most, Nat.xor_self, Nat.zero_xor]

/-- bytewise exclusive or -/
def xorL (a b : List UInt8) : List UInt8 := List.zipWith (· ^^^ ·) a b
theorem le_xor : ∀ (a b : List UInt8), a.length = b.length → le (xorL a b) = le a ^^^ le b
  | [], [], _ => rfl
  | x :: a, y :: b, h => by
    have ih := le_xor a b (by simpa using h)
    show (x ^^^ y).toNat + 256 * le (xorL a b) = (x.toNat + 256 * le a) ^^^ (y.toNat + 256 * le b)
    rw [ih, ← low_xor _ _ x.toNat_lt, ← low_xor _ _ y.toNat_lt, ← low_xor _ _ (x ^^^ y).toNat_lt, UInt8.toNat_xor]
    have e : 256 * (le a ^^^ le b) = 256 * le a ^^^ 256 * le b := by
      rw [show (256 : Nat) = 2 ^ 8 from rfl, Nat.mul_comm, Nat.mul_comm _ (le a), Nat.mul_comm _ (le b), ← Nat.shiftLeft_eq, ← Nat.shiftLeft_eq, ← Nat.shiftLeft_eq, Nat.shiftLeft_xor_distrib]
    rw [e]
    simp only [Nat.xor_assoc, xor_left_comm]
  | [], _ :: _, h => by simp at h
  | _ :: _, [], h => by simp at h
theorem xorL_len (a b : List UInt8) (h : a.length = b.length) : (xorL a b).length = a.length := by simp [xorL, h]
theorem upd_xor (a b : List UInt8) (r q : Nat) (h : a.length = b.length) : upd (r ^^^ q) (xorL a b) = upd r a ^^^ upd q b := by
  rw [upd_eq, upd_eq, upd_eq, le_xor a b h, xorL_len a b h, ← h, ← stepN_xor]
  congr 1
  simp only [Nat.xor_assoc, xor_left_comm]
/-- CrcLinear -/
theorem sum_linear (a b c : List UInt8) (h1 : a.length = b.length) (h2 : b.length = c.length) : sum (xorL (xorL a b) c) = sum a ^^^ sum b ^^^ sum c := by
  have e : upd most (xorL (xorL a b) c) = upd most a ^^^ upd most b ^^^ upd most c := by
    have := upd_xor (xorL a b) c (most ^^^ most) most (by rw [xorL_len a b h1, h1, h2])
    rw [Nat.xor_self, Nat.zero_xor] at this
    rw [this, ← Nat.xor_self most, upd_xor a b most most h1]
  unfold sum
  rw [e]
  generalize upd most a = x; generalize upd most b = y; generalize upd most c = z
  rw [show x ^^^ most ^^^ (y ^^^ most) = x ^^^ y by rw [Nat.xor_assoc, xor_left_comm most, Nat.xor_self, Nat.xor_zero], Nat.xor_assoc]

/-- zeros, then a short string -/
theorem upd_zeros (n r : Nat) : upd r (List.replicate n 0) = stepN (8 * n) r := by
  have e : le (List.replicate n 0) = 0 := by
    induction n with
    | zero => rfl
    | succ n ih => simp [List.replicate_succ, le, ih]
  rw [upd_eq, e, Nat.xor_zero, List.length_replicate]
theorem le_zero : ∀ l : List UInt8, le l = 0 → l = List.replicate l.length 0
  | [], _ => rfl
  | b :: l, h => by
    unfold le at h
    have h1 : b.toNat = 0 := by omega
    have h2 := le_zero l (by omega)
    have h3 : b = 0 := UInt8.toNat_inj.1 (by simpa using h1)
    rw [h3, h2]; simp [List.replicate_succ]
/-- a difference of at most four bytes shows -/
theorem upd_burst (p q : Nat) (d : List UInt8) (hd : d.length ≤ 4) (h : upd 0 (List.replicate p 0 ++ d ++ List.replicate q 0) = 0) : d = List.replicate d.length 0 := by
  rw [upd_append, upd_append, upd_zeros _ 0, stepN_zero, upd_zeros] at h
  have h4 : le d < 4294967296 := Nat.lt_of_lt_of_le (le_lt d) (by rw [show 4294967296 = 256 ^ 4 from rfl]; exact Nat.pow_le_pow_right (by decide) hd)
  have h5 := stepN_inj _ _ (upd_lt d 0 (by decide)) h
  rw [upd_eq, Nat.zero_xor] at h5
  exact le_zero d (stepN_inj _ _ h4 h5)

/-- CrcZeros -/
theorem combine_zeros (a n : Nat) : combine a (sum (List.replicate n 0)) n = update a (List.replicate n 0) := by
  unfold combine sum update
  rw [upd_zeros, upd_zeros, ← Nat.xor_assoc, ← stepN_xor]
theorem combine_assoc (a b c m l : Nat) : combine (combine a b m) c l = combine a (combine b c l) (m + l) := by
  unfold combine
  rw [stepN_xor, Nat.xor_assoc, show 8 * (m + l) = 8 * m + 8 * l by omega, stepN_add]

/-- a checksum's bytes spell it -/
theorem le_bytes4 (n : Nat) (h : n < 4294967296) : le (bytes4 n) = n := by
  simp only [bytes4, le, UInt8.toNat_ofNat']
  omega
theorem bytes4_le : ∀ l : List UInt8, l.length = 4 → bytes4 (le l) = l
  | [a, b, c, d], _ => by
    have ha := a.toNat_lt; have hb := b.toNat_lt; have hc := c.toNat_lt; have hd := d.toNat_lt
    have key : ∀ (x : UInt8) (n : Nat), n % 256 = x.toNat → UInt8.ofNat n = x := fun x n h => UInt8.toNat_inj.1 (by rw [UInt8.toNat_ofNat']; exact h)
    simp only [bytes4, le]
    rw [key a _ (by omega), key b _ (by omega), key c _ (by omega), key d _ (by omega)]
/-- what a frame's body and its checksum come to, taken together -/
theorem frame_fits (body cs : List UInt8) (h4 : cs.length = 4) : bytes4 (sum body) = cs ↔ upd most (body ++ cs) = stepN 32 most := by
  have hcs : le cs < 4294967296 := by have := le_lt cs; rw [h4] at this; exact this
  rw [upd_append, upd_eq cs, h4, show 8 * 4 = 32 from rfl]
  constructor
  · intro h
    rw [← h, le_bytes4 _ (sum_lt body)]
    unfold sum
    rw [← Nat.xor_assoc, Nat.xor_self, Nat.zero_xor]
  · intro h
    have e := stepN_eq (xor_lt _ _ (upd_lt body _ (by decide)) hcs) (by decide) h
    have e2 : sum body = le cs := by
      have h2 : upd most body ^^^ most = upd most body ^^^ (upd most body ^^^ le cs) := by rw [e]
      unfold sum
      rw [h2, ← Nat.xor_assoc, Nat.xor_self, Nat.zero_xor]
    rw [e2, bytes4_le cs h4]
/-- how the program's table spells a byte's step -/
theorem step_table (r b : Nat) : stepN 8 (r ^^^ b) = r / 256 ^^^ stepN 8 ((r % 256) ^^^ b) := by
  have h : (r % 256) ^^^ 256 * (r / 256) = r := by rw [low_xor _ _ (Nat.mod_lt _ (by decide))]; omega
  have e : r ^^^ b = 256 * (r / 256) ^^^ ((r % 256) ^^^ b) := by
    conv => lhs; rw [← h]
    rw [Nat.xor_comm (r % 256), Nat.xor_assoc]
  rw [e, stepN_xor, stepN8]
end Go.Proofs.Ytlknjdfiedkhbaa.Crc
