/- The keyed hash as plain functions on natural numbers and lists of bytes, and plain lemmas about them. No program is in sight here. -/
import Derived.Laws.BitsAllLaws
import Derived.IntWalk
namespace Go.Proofs.Ytdjpidniakedpaa.Kh
open Go

def M : Nat := 18446744073709551616
def addm (a b : Nat) : Nat := (a + b) % M
def xorm (a b : Nat) : Nat := (a ^^^ b) % M
def orm (a b : Nat) : Nat := (a ||| b) % M
def shlm (x k : Nat) : Nat := x * 2 ^ k % M
def rot (x k : Nat) : Nat := orm (shlm x k) (x / 2 ^ (64 - k))

structure St where
  a : Nat
  b : Nat
  c : Nat
  d : Nat

def rnd (s : St) : St :=
  let a1 := addm s.a s.b
  let b1 := xorm (rot s.b 13) a1
  let a2 := rot a1 32
  let c1 := addm s.c s.d
  let d1 := xorm (rot s.d 16) c1
  let a3 := addm a2 d1
  let d2 := xorm (rot d1 21) a3
  let c2 := addm c1 b1
  let b2 := xorm (rot b1 17) c2
  ⟨a3, b2, rot c2 32, d2⟩

def absorb (s : St) (m : Nat) : St :=
  let t := rnd (rnd ⟨s.a, s.b, s.c, xorm s.d m⟩)
  ⟨xorm t.a m, t.b, t.c, t.d⟩

/-- the number that bytes spell, the least significant one first -/
def le : List UInt8 → Nat
  | [] => 0
  | b :: l => b.toNat + 256 * le l

/-- the word in the 8 bytes from i on; bytes behind the end are 0 -/
def word (l : List UInt8) (i : Nat) : Nat := le ((l.drop i).take 8)

/-- the 8 bytes of a word -/
def bytes8 (x : Nat) : List UInt8 := (List.range 8).map fun i => UInt8.ofNat (x / 256 ^ i)

def start (key : List UInt8) : St :=
  ⟨xorm (word key 0) 8317987319222330741, xorm (word key 8) 7237128888997146477, xorm (word key 0) 7816392313619706465, xorm (word key 8) 8387220255154660723⟩

/-- the whole words of a string -/
def whole (t : List UInt8) : List Nat := (List.range (t.length / 8)).map fun k => word t (8 * k)
/-- the last word: what is left of the string, and its size -/
def last (t : List UInt8) : Nat := word t (8 * (t.length / 8)) + (t.length % 256) * 2 ^ 56
def words (t : List UInt8) : List Nat := whole t ++ [last t]

def finish (s : St) : List UInt8 :=
  let u := rnd (rnd (rnd (rnd ⟨s.a, s.b, xorm s.c 255, s.d⟩)))
  bytes8 (xorm (xorm (xorm u.a u.b) u.c) u.d)

def tag (key t : List UInt8) : List UInt8 := finish ((words t).foldl absorb (start key))

/-! ### how the walk's numbers are these -/

theorem M_pow : M = 2 ^ 64 := rfl

theorem add_spell (a b : Nat) : IntKind.u64.wrap ((a : Int) + (b : Int)) = ((addm a b : Nat) : Int) := by
  rw [IntKind.wrap_u64]; unfold addm M; omega

theorem toNat_mod (a : Nat) : (BitVec.ofInt 64 (a : Int)).toNat = a % M := by
  rw [BitVec.ofInt_natCast, BitVec.toNat_ofNat]; rfl

theorem xor_spell (a b : Nat) : bits .xor .u64 (a : Int) (b : Int) = ((xorm a b : Nat) : Int) := by
  show IntKind.u64.wrap ((BitVec.ofInt 64 (a : Int) ^^^ BitVec.ofInt 64 (b : Int)).toNat : Int) = _
  rw [BitVec.toNat_xor, toNat_mod, toNat_mod, IntKind.wrap_u64]
  unfold xorm
  rw [M_pow, Nat.xor_mod_two_pow]
  have h : (a % 2 ^ 64 ^^^ b % 2 ^ 64) < 2 ^ 64 := Nat.xor_lt_two_pow (Nat.mod_lt _ (by decide)) (Nat.mod_lt _ (by decide))
  omega

theorem or_spell (a b : Nat) : bits .or .u64 (a : Int) (b : Int) = ((orm a b : Nat) : Int) := by
  show IntKind.u64.wrap ((BitVec.ofInt 64 (a : Int) ||| BitVec.ofInt 64 (b : Int)).toNat : Int) = _
  rw [BitVec.toNat_or, toNat_mod, toNat_mod, IntKind.wrap_u64]
  unfold orm
  rw [M_pow, Nat.or_mod_two_pow]
  have h : (a % 2 ^ 64 ||| b % 2 ^ 64) < 2 ^ 64 := Nat.or_lt_two_pow (Nat.mod_lt _ (by decide)) (Nat.mod_lt _ (by decide))
  omega

theorem xorm_lt (a b : Nat) : xorm a b < M := Nat.mod_lt _ (by decide)
theorem orm_lt (a b : Nat) : orm a b < M := Nat.mod_lt _ (by decide)
theorem addm_lt (a b : Nat) : addm a b < M := Nat.mod_lt _ (by decide)

theorem le_lt : ∀ l : List UInt8, le l < 256 ^ l.length
  | [] => by simp [le]
  | b :: l => by
    have h := le_lt l
    have hb := b.toNat_lt
    simp only [le, List.length_cons, Nat.pow_succ]
    omega

theorem le_append : ∀ (l r : List UInt8), le (l ++ r) = le l + 256 ^ l.length * le r
  | [], r => by simp [le]
  | b :: l, r => by
    have h := le_append l r
    simp only [le, List.cons_append, List.length_cons, h, Nat.pow_succ, Nat.mul_add]
    rw [show 256 * (256 ^ l.length * le r) = 256 ^ l.length * 256 * le r by rw [Nat.mul_comm (256 ^ l.length) 256, Nat.mul_assoc]]
    omega

theorem le_zeros (n : Nat) : le (List.replicate n 0) = 0 := by
  induction n with
  | zero => rfl
  | succ n ih => simp [List.replicate_succ, le, ih]

end Go.Proofs.Ytdjpidniakedpaa.Kh
