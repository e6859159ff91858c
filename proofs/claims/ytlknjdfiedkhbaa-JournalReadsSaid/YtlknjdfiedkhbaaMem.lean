/- Small lemmas on memory that all proofs of this seat share: a block of cells that is known whole, and the row's last step where the call leaves 'Below'. No condition.
Rows of bytes and strings: small lemmas that all proofs of this seat share. No condition.
Slices of integers that came in or that a call made: what they hold, read as a list. No condition.
A row of bytes that a conversion of a string has laid, appended to: the law. (Such a row bears a mark, which the kit's word for owned rows shuts out.) No condition.
A row of integers that a call made itself: its values, and that it reads as a list. No condition. -/
import Derived.WalkKit
import Derived.ProofKit
import Derived.Handy
import Derived.Lib.Hide
import Derived.WalkSpells
import Derived.WalkLawsBesides
import Derived.Maps.AppendAt
import Derived.Laws.BytesArg
import Derived.RangeFuncBox
import Derived.Laws.BitsAllLaws
import Derived.IntWalk
import Derived.Test.YtlknjdfiedkhbaaRows
import Derived.Deep.AppendSrc
import Derived.Lib.LazyBuf
import Derived.Deep.Upon
import Derived.Laws.IdiomStrings
import Derived.OwnWalk
namespace Go.Proofs.Ytlknjdfiedkhbaa
open Go Go.RowKit Go.ChangeShapes Go.WideShapes Go.ChangeAt

/-- Block g of the heap is just these cells of type t, none of them frozen. -/
def Bk (w : World) (g : Nat) (t : TypeId) (cs : Array Value) : Prop := w.heap[g]? = some (.cells cs t (0, 0))

theorem Bk.lt {w : World} {g : Nat} {t : TypeId} {cs : Array Value} (h : Bk w g t cs) : g < w.heap.size :=
  (Array.getElem?_eq_some_iff.1 (show w.heap[g]? = some _ from h)).1
theorem Bk.cell {w : World} {g : Nat} {t : TypeId} {cs : Array Value} (h : Bk w g t cs) (i : Nat) : w.cell? ⟨g, i, none⟩ = cs[i]? := by
  unfold Bk at h; simp [World.cell?, h]
theorem Bk.free {w : World} {g : Nat} {t : TypeId} {cs : Array Value} (h : Bk w g t cs) (i : Nat) : w.frozen? ⟨g, i, none⟩ = false := by
  unfold Bk at h; simp [World.frozen?, h]
theorem Bk.new (w : World) (t : TypeId) (cs : Array Value) : Bk (w.alloc (.cells cs t)) w.heap.size t cs := heap_alloc_new w _
theorem Bk.drew {w : World} {g : Nat} {t : TypeId} {cs : Array Value} (h : Bk w g t cs) : Bk w.drew g t cs := h
theorem Bk.drewN {w : World} {g : Nat} {t : TypeId} {cs : Array Value} (h : Bk w g t cs) (n : Nat) : Bk (w.drewN n) g t cs := h
theorem Bk.alloc {w : World} {g : Nat} {t : TypeId} {cs : Array Value} (h : Bk w g t cs) (o : Obj) : Bk (w.alloc o) g t cs := (Below.heap_alloc w o g h.lt).trans h
theorem Bk.put {w : World} {g : Nat} {t : TypeId} {cs : Array Value} (h : Bk w g t cs) (i : Nat) (u : Value) : Bk (w.setCell ⟨g, i, none⟩ u) g t (cs.setIfInBounds i u) := by
  unfold Bk at h ⊢; simp [World.setCell, Array.getElem?_modify, h]
theorem Bk.other {w : World} {g : Nat} {t : TypeId} {cs : Array Value} (h : Bk w g t cs) {p : Addr} (hp : g ≠ p.block) (u : Value) : Bk (w.setCell p u) g t cs := (Below.heap_setCell w p u g hp).trans h
theorem Bk.below {w w' : World} {g B : Nat} {t : TypeId} {cs : Array Value} (h : Bk w g t cs) (hb : Below B w w') (hg : g < B) : Bk w' g t cs := (hb.block g hg).trans h
theorem Bk.grown {w w' : World} {g : Nat} {t : TypeId} {cs : Array Value} {row : Option Nat} (h : Bk w g t cs) (hb : w.grownBy w' row) (hne : some g ≠ row) : Bk w' g t cs := (hb.block g h.lt hne).trans h

/-- What is only written at block g. -/
theorem grown_put (w : World) (g i : Nat) (u : Value) : w.grownBy (w.setCell ⟨g, i, none⟩ u) (some g) :=
  ⟨rfl, rfl, rfl, by simp [World.setCell], fun k _ hne => Below.heap_setCell _ _ _ _ (fun e => hne (by rw [e]))⟩
theorem grown_join {a b c : World} {row : Option Nat} (h : a.grownBy b row) (k : b.grownBy c row) : a.grownBy c row :=
  ⟨k.os.trans h.os, k.tape.trans h.tape, k.output.trans h.output, Nat.le_trans h.size k.size, fun i hi hne => (k.block i (Nat.lt_of_lt_of_le hi h.size) hne).trans (h.block i hi hne)⟩
theorem grown_below {a w : World} (h : Below a.heap.size a w) (row : Option Nat) : a.grownBy w row := ⟨h.os, h.tape, h.output, h.size, fun i hi _ => h.block i hi⟩
theorem below_grown {a w w' : World} {B g : Nat} (h : Below B a w) (k : w.grownBy w' (some g)) (hB : B ≤ g) (hs : B ≤ w.heap.size) : Below B a w' :=
  h.grown k hs (fun _ e => by cases e; exact hB)
theorem below_drawN {B : Nat} {a w : World} (h : Below B a w) (n : Nat) : Below B a (w.drewN n) := ⟨h.os, h.tape, h.output, h.size, h.block⟩

/-- The two rules that carry all elder cells and marks behind a call that leaves 'Below'. -/
theorem old_cells {W w1 : World} (hb : Below W.heap.size W w1) : (∀ b o, b < W.heap.size → w1.cell? ⟨b, o, none⟩ = W.cell? ⟨b, o, none⟩) ∧ (∀ b o, b < W.heap.size → w1.frozen? ⟨b, o, none⟩ = W.frozen? ⟨b, o, none⟩) :=
  ⟨fun b o h => hb.cell (p := ⟨b, o, none⟩) h, fun b o h => hb.frozen (p := ⟨b, o, none⟩) h⟩

theorem ret_i {k : IntKind} {a b : Int} (h : a = b) : Ending.returned (.int k a) = .returned (.int k b) := by rw [h]
theorem ret_b {a b : Bool} (h : a = b) : Ending.returned (.bool a) = .returned (.bool b) := by rw [h]
theorem ret_s {a b : ByteArray} (h : a = b) : Ending.returned (.string a) = .returned (.string b) := by rw [h]

/-- The row's last step: the world behind the call is as it was below the heap's size. -/
theorem post_from_below {H : Type} {enc : TypeId × Value → H} {P : Program} {f : Func} {s : ChangeSpec} {apart fresh handsOn again : Bool} {W W' : World} {args : Array Value} {v : Value} {ds gs : List (DataW H)} {before pa pv : List MemPlace}
    (hW : DataW.Whole enc P f.params.toList s.vars apart W args.toList ds gs before)
    (hres : ∀ (b : Nat) (sp : Nat → Bool) (hd : Bool), DataW.TrodAll enc P W' b sp hd f.resultTypes.toList (v.resultList f.resultTypes.size) (s.fn H (ds ++ gs)).results [])
    (hargs : ∀ sp : Nat → Bool, (∀ p ∈ before, sp p.block = true) → DataW.TrodAll enc P W' 0 sp true f.params.toList args.toList (s.fn H (ds ++ gs)).args pa)
    (hvars : ∀ sp : Nat → Bool, (∀ p ∈ before, sp p.block = true) → DataW.TrodVars enc P W' sp s.vars (s.fn H (ds ++ gs)).vars pv)
    (hps : before = pa ++ pv) (hb : Below W.heap.size W W')
    (hok : ∀ (j : Nat) (t : TypeId) (r : Value), f.resultTypes[j]? = some t → (v.resultList f.resultTypes.size)[j]? = some r → Value.okWide P W' .any 0 t r) :
    s.post enc P f apart fresh handsOn again W args v W' := by
  have hin : ∀ p ∈ before, p.block < W.heap.size := fun p hp => hW.lt p hp
  have hsp : ∀ p ∈ before, (fun b => decide (b < W.heap.size)) p.block = true := fun p hp => by simpa using hin p hp
  refine ⟨ds, gs, before, [], pa, pv, hW, hres _ _ _, hargs _ hsp, hvars _ hsp, World.keptBut_mono (fun p hp => ⟨hp, ?_⟩) (hb.frame (· ∈ before)), fun _ => ?_⟩
  · rw [hps, List.mem_append] at hp
    exact Or.inr hp
  · obtain ⟨_, _, _, _, _, hz, hn⟩ := hW
    refine ⟨hok, _, _, ([] ++ pa) ++ pv, ⟨[] ++ pa, pv, trodAll_append (hargs _ (fun _ _ => rfl)) (hres _ _ _), hvars _ (fun _ _ => rfl), rfl, ?_, ?_⟩, ?_⟩
    · intro b off hp
      have hm : MemPlace.cell b off ∈ before := by rw [hps]; simpa using hp
      rw [hb.frozen (hin _ hm)]
      exact hz b off hm
    · intro ha
      have h := hn ha
      rw [hps] at h
      simpa using h
    · intro p hp _
      rw [hps]
      simpa using hp

end Go.Proofs.Ytlknjdfiedkhbaa
namespace Go.Proofs.Ytlknjdfiedkhbaa
open Go Go.RowKit

def byteV (b : UInt8) : Value := .int .u8 (b.toNat : Int)
theorem infoByte : (Try.prog.info? 5).map (fun i => (i.zero, i.size, i.bytes)) = some (some (.int .u8 0), 1, 1) := by kernel_rfl
/-- the string of a list of bytes -/
def str (l : List UInt8) : ByteArray := ⟨l.toArray⟩
theorem str_list (l : List UInt8) : (str l).data.toList = l := rfl
theorem str_size (l : List UInt8) : (str l).size = l.length := by simp [str, ByteArray.size]
theorem str_self (s : ByteArray) : str s.data.toList = s := rfl
theorem str_inj {l m : List UInt8} (h : str l = str m) : l = m := by have := congrArg (fun s : ByteArray => s.data.toList) h; exact this

theorem strOf_bytes (l : List UInt8) : strOfNums (l.map fun b => (b.toNat : Int)) = str l := by
  unfold strOfNums str
  rw [List.map_map]
  congr 2
  conv => rhs; rw [← List.map_id l]
  apply List.map_congr_left
  intro b _
  simp

/-- What a row of bytes holds, converted to a string. -/
theorem conv_bytes {w : World} {g off n cap : Nat} {l : List UInt8} (hl : l.length = n) (hc : ∀ j, j < n → w.cell? ⟨g, off + j, none⟩ = some (byteV (l[j]?.getD 0))) :
    (convert 54 9 (.slice (some ⟨g, off, none⟩) n cap)).run Try.prog w = .ok (.string (str l)) w := by
  have h := run_convert_bytes_arg (P := Try.prog) w 54 5 Try.underlying54 Try.underlying5 g off n cap (l.map fun b => (b.toNat : Int)) (by simpa using hl)
    (fun i hi => by
      rw [hc i hi, List.getD_eq_getElem?_getD, List.getElem?_map, List.getElem?_eq_getElem (by omega)]; rfl) 9 Try.underlying9
  rw [h, strOf_bytes]
/-- What the call's own row of bytes holds, converted to a string. -/
theorem conv_own {w : World} {base g n cap : Nat} {l : List UInt8} (hl : l.length = n) (h : w.ownsRow base 5 1 (.slice (some ⟨g, 0, none⟩) n cap) n (l.map byteV)) :
    (convert 54 9 (.slice (some ⟨g, 0, none⟩) n cap)).run Try.prog w = .ok (.string (str l)) w :=
  conv_bytes hl (fun j hj => by
    rw [Nat.zero_add, h.cellAt j (by omega), List.getElem?_map, List.getElem?_eq_getElem (by omega)]; rfl)
theorem own_form {w : World} {base : Nat} {e : TypeId} {v : Value} {n : Nat} {xs : List Value} (h : w.ownsRow base e 1 v n xs) : ∃ A c, v = .slice A n c := by
  rcases h.2 with ⟨rfl, rfl⟩ | ⟨g, cap, _, rfl, _⟩
  · exact ⟨_, _, rfl⟩
  · exact ⟨_, _, rfl⟩
/-- The same, nil or not. -/
theorem conv_any {w : World} {base n : Nat} {v : Value} {l : List UInt8} (hl : l.length = n) (h : w.ownsRow base 5 1 v n (l.map byteV)) :
    (convert 54 9 v).run Try.prog w = .ok (.string (str l)) w := by
  cases n with
  | succ n =>
    obtain ⟨g, cap, rfl⟩ := ownsRow_succ h
    exact conv_own hl h
  | zero =>
    obtain rfl : l = [] := List.eq_nil_of_length_eq_zero hl
    rcases h.2 with ⟨rfl, _⟩ | ⟨g, cap, _, rfl, _⟩
    · exact run_convert_bytes_nil w 54 5 Try.underlying54 Try.underlying5 0 0 9 Try.underlying9
    · exact conv_bytes (l := []) rfl (fun j hj => absurd hj (by omega))
theorem shr_spell (x n : Nat) : (x : Int) / 2 ^ n = ((x / 2 ^ n : Nat) : Int) := by
  rw [Int.natCast_ediv, Int.natCast_pow]; rfl
theorem str_append (a b : List UInt8) : str a ++ str b = str (a ++ b) := by
  apply ByteArray.ext
  simp [str]
theorem two_e {a a' : ByteArray} {b b' : Int} (h : a = a') (h' : b = b') : Ending.returned (.tuple #[.string a, .int .i64 b]) = .returned (.tuple #[.string a', .int .i64 b']) := by rw [h, h']
end Go.Proofs.Ytlknjdfiedkhbaa
namespace Go.Proofs.Ytlknjdfiedkhbaa
open Go Go.RowKit

/-- the j-th element -/
def elt (l : List Int) (j : Nat) : Int := l[j]?.getD 0
/-- the slice's cells are these integers -/
def IntsAt (w : World) (A : Option Addr) (l : List Int) : Prop := ∀ k x, l[k]? = some x → ∃ b off, A = some ⟨b, off, none⟩ ∧ w.cell? ⟨b, off + k, none⟩ = some (.int .i64 x)
theorem IntsAt.below {w w' : World} {A : Option Addr} {l : List Int} (h : IntsAt w A l) (hb : Below w.heap.size w w') : IntsAt w' A l := by
  intro k x hk
  obtain ⟨b, off, hA, hc⟩ := h k x hk
  exact ⟨b, off, hA, (hb.cell (p := ⟨b, off + k, none⟩) (World.block_lt_of_cell? w _ hc)).trans hc⟩
theorem IntsAt.drewN {w : World} {A : Option Addr} {l : List Int} (h : IntsAt w A l) (n : Nat) : IntsAt (w.drewN n) A l := h
theorem IntsAt.nil (w : World) (A : Option Addr) : IntsAt w A [] := fun k x h => by simp at h
theorem IntsAt.opened {w : World} {A : Option Addr} {l : List Int} (h : IntsAt w A l) (hl : 0 < l.length) : ∃ b off, A = some ⟨b, off, none⟩ ∧ b < w.heap.size ∧ ∀ k, k < l.length → w.cell? ⟨b, off + k, none⟩ = some (.int .i64 (elt l k)) := by
  obtain ⟨b, off, hA, hc⟩ := h 0 _ (List.getElem?_eq_getElem hl)
  refine ⟨b, off, hA, World.block_lt_of_cell? w _ hc, fun k hk => ?_⟩
  obtain ⟨b', off', hA', hc'⟩ := h k _ (List.getElem?_eq_getElem hk)
  rw [hA] at hA'
  cases hA'
  rw [hc', elt, List.getElem?_eq_getElem hk]; rfl
theorem IntsAt.mk {w : World} {b off : Nat} {l : List Int} (h : ∀ k, k < l.length → w.cell? ⟨b, off + k, none⟩ = some (.int .i64 (elt l k))) : IntsAt w (some ⟨b, off, none⟩) l := by
  intro k x hk
  obtain ⟨hl, hx⟩ := List.getElem?_eq_some_iff.1 hk
  refine ⟨b, off, rfl, ?_⟩
  rw [h k hl, elt, hk]; rfl
end Go.Proofs.Ytlknjdfiedkhbaa
namespace Go.Proofs.Ytlknjdfiedkhbaa
open Go Go.RowKit

/-- a slice of n bytes at the head of a block from base on, which may be written up to its capacity -/
def BRow (w : World) (base : Nat) (v : Value) (n : Nat) (xs : List Value) : Prop :=
  ∃ g cap, v = .slice (some ⟨g, 0, none⟩) n cap ∧ base ≤ g ∧ g < w.heap.size ∧ n ≤ cap ∧ cap ≤ maxLen ∧ xs.length = n ∧ (∀ j, j < n → w.cell? ⟨g, j, none⟩ = xs[j]?) ∧ ∀ j, j < cap → (w.cell? ⟨g, j, none⟩).isSome = true ∧ w.frozen? ⟨g, j, none⟩ = false
theorem BRow.below {w w' : World} {base : Nat} {v : Value} {n : Nat} {xs : List Value} (h : BRow w base v n xs) (hb : Below w.heap.size w w') : BRow w' base v n xs := by
  obtain ⟨g, cap, h1, h2, h3, h4, h5, h6, h7, h8⟩ := h
  exact ⟨g, cap, h1, h2, Nat.lt_of_lt_of_le h3 hb.size, h4, h5, h6, fun j hj => (hb.cell (p := ⟨g, j, none⟩) h3).trans (h7 j hj), fun j hj => ⟨by rw [hb.cell (p := ⟨g, j, none⟩) h3]; exact (h8 j hj).1, (hb.frozen (p := ⟨g, j, none⟩) h3).trans (h8 j hj).2⟩⟩
theorem BRow.form {w : World} {base : Nat} {v : Value} {n : Nat} {xs : List Value} (h : BRow w base v n xs) : ∃ g cap, v = .slice (some ⟨g, 0, none⟩) n cap := by
  obtain ⟨g, cap, h1, _⟩ := h; exact ⟨g, cap, h1⟩
theorem BRow.cells {w : World} {base g n cap : Nat} {xs : List Value} (h : BRow w base (.slice (some ⟨g, 0, none⟩) n cap) n xs) (j : Nat) (hj : j < n) : w.cell? ⟨g, j, none⟩ = xs[j]? := by
  obtain ⟨g', cap', h1, h2, h3, h4, h5, h6, h7, h8⟩ := h
  cases h1
  exact h7 j hj

theorem new_cell (w : World) (cs : Array Value) (t : TypeId) (m : Nat × Nat) (j : Nat) : (w.alloc (.cells cs t m)).cell? ⟨w.heap.size, j, none⟩ = cs[j]? := by
  have hn : (w.alloc (.cells cs t m)).heap[w.heap.size]? = some (.cells cs t m) := heap_alloc_new w _
  simp only [World.cell?, hn]
  rfl
theorem new_frozen (w : World) (cs : Array Value) (t : TypeId) (m : Nat × Nat) (j : Nat) (h : ¬ (m.1 ≤ j ∧ j < m.2)) : (w.alloc (.cells cs t m)).frozen? ⟨w.heap.size, j, none⟩ = false := by
  have hn : (w.alloc (.cells cs t m)).heap[w.heap.size]? = some (.cells cs t m) := heap_alloc_new w _
  obtain ⟨lo, hi⟩ := m
  simp only [World.frozen?, hn]
  simpa using h

theorem run_append_brow {P : Program} (w : World) (t tx ty e : TypeId) (i : TypeInfo) (z : Value) (ht : P.underlying t = some (.slice e)) (hi : P.info? e = some i) (hz : i.zero = some z) (hs1 : i.size = 1) (hb1 : i.bytes = 1) (hz1 : z.cells.size = 1)
    (base : Nat) (v : Value) (n : Nat) (xs : List Value) (h : BRow w base v n xs) (xv : Value) (k : Nat) (news : List Value) (hs : Src P 1 tx xv k news w) (hm : n + k ≤ 140737488355328) (hbase : base ≤ w.heap.size) :
    ∃ v' w', (Builtin.append_ #[t, tx] ty #[v, xv]).run P w = .ok v' w' ∧ BRow w' base v' (n + k) (xs ++ news) ∧ Below base w w' := by
  obtain ⟨g, cap, rfl, h2, h3, h4, h5, h6, h7, h8⟩ := h
  have hnl : news.length = k := by simpa using hs.newsLen
  rw [← hs1] at hs
  by_cases hroom : n + k ≤ cap
  · have hc : ∀ j, j < news.length → (w.cell? ⟨g, 0 + n * i.size + j, none⟩).isSome = true := fun j hj => by rw [hs1, Nat.zero_add, Nat.mul_one]; exact (h8 _ (by omega)).1
    have hf : ∀ j, j < news.length → w.frozen? ⟨g, 0 + n * i.size + j, none⟩ = false := fun j hj => by rw [hs1, Nat.zero_add, Nat.mul_one]; exact (h8 _ (by omega)).2
    have hr := run_append_room_src (P := P) w t tx ty e i ht hi g 0 n cap xv k news hs hroom hc hf
    refine ⟨_, _, hr, ⟨g, cap, rfl, h2, ?_, hroom, h5, by simp [h6, hnl], fun j hj => ?_, fun j hj => ⟨?_, ?_⟩⟩, ?_⟩
    · have := (below_setCells (a := w) (Nat.zero_le g) news (0 + n * i.size) w (Below.refl 0 w)).size
      omega
    · rw [hs1, Nat.zero_add, Nat.mul_one]
      by_cases hjn : j < n
      · rw [World.cell?_setCells_out g news n w ⟨g, j, none⟩ (fun _ _ => .inl hjn), h7 j hjn, List.getElem?_append_left (by omega)]
      · have := World.cell?_setCells_in g news n w (fun q hq => (h8 _ (by omega)).1) (j - n) (by omega)
        rw [show n + (j - n) = j by omega] at this
        rw [this, List.getElem?_append_right (by omega), h6, List.getElem?_eq_getElem (by omega)]
    · rw [hs1, Nat.zero_add, Nat.mul_one]
      by_cases hjn : n ≤ j ∧ j < n + news.length
      · have := World.cell?_setCells_in g news n w (fun q hq => (h8 _ (by omega)).1) (j - n) (by omega)
        rw [show n + (j - n) = j by omega] at this
        rw [this]; rfl
      · rw [World.cell?_setCells_out g news n w ⟨g, j, none⟩ (fun _ _ => by show j < n ∨ n + news.length ≤ j; omega)]
        exact (h8 j hj).1
    · rw [World.frozen?_setCells]
      exact (h8 j hj).2
    · exact below_setCells h2 news _ w (Below.refl _ _)
  · have hold : (Builtin.firstCells i.size n (.slice (some ⟨g, 0, none⟩) n cap)).run P w.drew = .ok xs.toArray w.drew := by
      refine run_firstCells_some w.drew i.size n ⟨g, 0, none⟩ n cap xs (by rw [hs1, h6, Nat.mul_one]) (fun j u hu => ?_)
      have hj : j < n := by rw [← h6]; exact (List.getElem?_eq_some_iff.1 hu).1
      have e1 : (⟨g, 0, none⟩ : Addr).add j = ⟨g, j, none⟩ := by
        unfold Addr.add
        split
        · rename_i h0; subst h0; rfl
        · simp
      rw [e1]
      exact (h7 j hj).trans hu
    have hr := run_append_grow_src (P := P) w t tx ty e i z ht hi hz (some ⟨g, 0, none⟩) n cap xs hold xv k news hs (by omega) (by omega) (growslice_fits (by omega) (by rw [hb1]; omega))
    have hge := grownCap_ge w (n + k) cap e
    have hcm : grownCap w (n + k) cap e ≤ maxLen := grownCap_le_maxLen w (n + k) cap e (by unfold maxLen; omega)
    have hcell := new_cell w.drew ((xs ++ news).toArray ++ Builtin.zeroCells z.cells (grownCap w (n + k) cap e - (n + k))) e (0, 0)
    have hsz : ((xs ++ news).toArray ++ Builtin.zeroCells z.cells (grownCap w (n + k) cap e - (n + k))).size = grownCap w (n + k) cap e := by
      rw [Array.size_append, size_zeroCells, hz1, List.size_toArray, List.length_append, h6, hnl]; omega
    refine ⟨_, _, hr, ⟨w.heap.size, _, rfl, hbase, by simp, hge, hcm, by simp [h6, hnl], fun j hj => ?_, fun j hj => ⟨?_, ?_⟩⟩, ?_⟩
    · exact (hcell j).trans (by rw [Array.getElem?_append_left (by simp; omega), List.getElem?_toArray])
    · have e1 := hcell j
      rw [Array.getElem?_eq_getElem (by rw [hsz]; exact hj)] at e1
      exact (congrArg Option.isSome e1).trans rfl
    · exact new_frozen w.drew _ e (0, 0) j (by simp)
    · exact ((Below.refl base w).drew).alloc hbase _

theorem wpList_append_brow {P : Program} (w : World) {ops : Array Oper} {rest : List Oper} {o : Oper} {a : Act} {Q : Exit → Act → World → Prop} (hgd : o.guard = none) (s x : Operand) (t tx : TypeId)
    (ho : o.op = .call { callee := .builtin .append, args := #[s, x], argTypes := #[t, tx] }) (e : TypeId) (i : TypeInfo) (z : Value) (ht : P.underlying t = some (.slice e)) (hi : P.info? e = some i) (hz : i.zero = some z) (hs1 : i.size = 1) (hb1 : i.bytes = 1) (hz1 : z.cells.size = 1)
    (base : Nat) (v : Value) (n : Nat) (xs : List Value) (hv : a.eval s = v) (h : BRow w base v n xs) (xv : Value) (k : Nat) (news : List Value) (hx : a.eval x = xv) (hs : Src P 1 tx xv k news w) (hm : n + k ≤ 140737488355328) (hbase : base ≤ w.heap.size)
    (hK : ∀ v' w', BRow w' base v' (n + k) (xs ++ news) → Below base w w' → wpList P ops Q rest (a.put o.dst v') w') : wpList P ops Q (o :: rest) a w := by
  refine wpList_plain hgd fun K hK' => ?_
  obtain ⟨v', w', hrun, r1, r2⟩ := run_append_brow (P := P) w t tx o.type e i z ht hi hz hs1 hb1 hz1 base v n xs h xv k news hs hm hbase
  unfold Oper.wp
  simp [execOp, ho, resolve, invoke, builtin, hv, hx, hrun, Result.andThen]
  exact hK' _ _ (hK v' w' r1 r2)

theorem bytesRow_size (s : ByteArray) (w : World) (e : TypeId) : (bytesRow s (grownCap w s.size 0 e)).size = grownCap w s.size 0 e := by
  have := grownCap_ge w s.size 0 e
  unfold bytesRow
  simp
  omega
/-- '[]byte(s)' -/
theorem brow_of_string (s : ByteArray) (w : World) (hs : s.size ≤ 140737488355328) : ∃ v w', (convert 9 54 (.string s)).run Try.prog w = .ok v w' ∧ BRow w' w.heap.size v s.size (s.data.toList.map byteV) ∧ Below w.heap.size w w' := by
  refine ⟨_, _, run_bytes_of_string w 9 54 5 s Try.underlying9 Try.underlying54 Try.underlying5, ⟨w.heap.size, _, rfl, Nat.le_refl _, by simp, grownCap_ge _ _ _ _, grownCap_le_maxLen _ _ _ _ (by unfold maxLen; omega), by simp, fun j hj => ?_, fun j hj => ⟨?_, ?_⟩⟩, ((Below.refl _ _).drew).alloc (Nat.le_refl _) _⟩
  · refine (new_cell w.drew _ _ _ j).trans ?_
    rw [bytesRow_at s _ j hj, List.getElem?_map, List.getElem?_eq_getElem (by simpa using hj)]; rfl
  · have e1 := new_cell w.drew (bytesRow s (grownCap w s.size 0 5)) 5 ((bytesRow s (grownCap w s.size 0 5)).size, (bytesRow s (grownCap w s.size 0 5)).size + 1) j
    rw [Array.getElem?_eq_getElem (by rw [bytesRow_size]; exact hj)] at e1
    exact (congrArg Option.isSome e1).trans rfl
  · refine new_frozen w.drew _ _ _ j ?_
    simp only [bytesRow_size]
    omega
end Go.Proofs.Ytlknjdfiedkhbaa
namespace Go.Proofs.Ytlknjdfiedkhbaa
open Go Go.RowKit

def intV (l : List Int) : List Value := l.map (Value.int .i64)
theorem intV_snoc (l : List Int) (x : Int) : intV (l ++ [x]) = intV l ++ [.int .i64 x] := by simp [intV]
theorem own_list {w : World} {base n : Nat} {v : Value} {l : List Int} (h : w.ownsRow base 3 1 v n (intV l)) (hl : l.length = n) : ∃ A c, v = .slice A l.length c ∧ IntsAt w A l := by
  cases n with
  | zero =>
    obtain rfl : l = [] := List.eq_nil_of_length_eq_zero hl
    rcases h.2 with ⟨rfl, _⟩ | ⟨g, cap, _, rfl, _⟩
    · exact ⟨_, _, rfl, IntsAt.nil _ _⟩
    · exact ⟨_, _, rfl, IntsAt.nil _ _⟩
  | succ n =>
    obtain ⟨g, cap, rfl⟩ := ownsRow_succ h
    refine ⟨_, _, by rw [hl], IntsAt.mk (fun k hk => ?_)⟩
    rw [Nat.zero_add, h.cellAt k (by omega), intV, List.getElem?_map, elt, List.getElem?_eq_getElem hk]; rfl
theorem infoI : (Try.prog.info? 3).map (fun i => (i.zero, i.size, i.bytes)) = some (some (.int .i64 0), 1, 8) := by kernel_rfl
end Go.Proofs.Ytlknjdfiedkhbaa
