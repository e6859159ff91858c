/- The tag of a string, walked: the loop over the iterator. Conditions: a key of 16 bytes, a string of at most 100000. -/
import Derived.Test.YtdjpidniakedpaaKhWords
import Derived.Test.YtdjpidniakedpaaKhRound
import Derived.Test.YtdjpidniakedpaaKhHashR
import Derived.Stop.RegionWithIn
import Derived.Sort.CutIn
namespace Go.Proofs.Ytdjpidniakedpaa
open Go Go.RowKit Go.Shelf
attribute [local go_sem] Oper.semAt_some

/-- Block R holds the bytes of a string. -/
def HoldsStr (W : World) (R : Nat) (l : List UInt8) : Prop := ∃ C m, W.heap[R]? = some (.cells C 5 m) ∧ ∀ j, j < l.length → C[j]? = some (byteV (l[j]?.getD 0))
theorem holdsStr_row (s : ByteArray) (cap j : Nat) (hj : j < s.data.toList.length) : (bytesRow s cap)[j]? = some (byteV (s.data.toList[j]?.getD 0)) := by
  rw [bytesRow_at s _ j (by simpa using hj), List.getElem?_eq_getElem hj]; rfl
theorem holdsStr_new (w : World) (s : ByteArray) (cap : Nat) (m : Nat × Nat) : HoldsStr (w.alloc (.cells (bytesRow s cap) 5 m)) w.heap.size s.data.toList :=
  ⟨_, _, heap_alloc_new _ _, holdsStr_row s cap⟩
theorem holdsStr_second (w : World) (o : Obj) (s : ByteArray) (cap : Nat) (m : Nat × Nat) : HoldsStr ((w.alloc o).alloc (.cells (bytesRow s cap) 5 m)) (w.heap.size + 1) s.data.toList := by
  have h := holdsStr_new (w.alloc o) s cap m
  rwa [World.size_alloc] at h
theorem HoldsStr.alloc {W : World} {R : Nat} {l : List UInt8} (h : HoldsStr W R l) (o : Obj) : HoldsStr (W.alloc o) R l := by
  obtain ⟨C, m, h1, h2⟩ := h
  exact ⟨C, m, (Below.heap_alloc W o R (Array.getElem?_eq_some_iff.1 h1).1).trans h1, h2⟩
theorem HoldsStr.drew {W : World} {R : Nat} {l : List UInt8} (h : HoldsStr W R l) : HoldsStr W.drew R l := h

theorem word_conv (w : World) (l : List UInt8) (n R cap : Nat) (hn : l.length = n) (h8 : 8 ≤ n) (hR : HoldsStr w R l) :
    Calls Try.prog 35 #[.slice (some ⟨R, 0, none⟩) n cap] w fun e w' => e = .returned (.int .u64 ((Kh.word l 0 : Nat) : Int)) ∧ w = w' := by
  obtain ⟨C, m, h1, h2⟩ := hR
  exact word_any R 0 n cap (l.take 8) w (by simp; omega) h8 (fun j hj => by
    rw [Nat.zero_add, row_cells h1, h2 _ (by omega), List.getElem?_take_of_lt hj]; rfl)
theorem word_key (key : ByteArray) (h16 : key.size = 16) (w : World) (R cap : Nat) (hR : HoldsStr w R key.data.toList) :
    Calls Try.prog 35 #[.slice (some ⟨R, 0, none⟩) key.size cap] w fun e w' => e = .returned (.int .u64 ((Kh.word key.data.toList 0 : Nat) : Int)) ∧ w = w' :=
  word_conv w _ _ R cap (by simp) (by omega) hR
theorem word_key8 (key : ByteArray) (h16 : key.size = 16) (w : World) (R cap : Nat) (hR : HoldsStr w R (key.extract 8 key.size).data.toList) :
    Calls Try.prog 35 #[.slice (some ⟨R, 0, none⟩) (key.size - 8) cap] w fun e w' => e = .returned (.int .u64 ((Kh.word key.data.toList 8 : Nat) : Int)) ∧ w = w' := by
  have e : (key.extract 8 key.size).data.toList = key.data.toList.drop 8 := by
    simp [Array.toList_extract]
    exact List.take_of_length_le (by simp)
  rw [e] at hR
  have h := word_conv w (key.data.toList.drop 8) (key.size - 8) R cap (by simp) (by omega) hR
  exact h

theorem word_keyIn (n : Nat) (key : ByteArray) (h16 : key.size = 16) (w : World) (R cap : Nat) (hR : HoldsStr w R key.data.toList) :
    CallsIn Fence.wide n Try.prog 35 #[.slice (some ⟨R, 0, none⟩) key.size cap] w fun e w' => e = .returned (.int .u64 ((Kh.word key.data.toList 0 : Nat) : Int)) ∧ w = w' := callsIn_wide.2 (word_key key h16 w R cap hR)
theorem word_key8In (n : Nat) (key : ByteArray) (h16 : key.size = 16) (w : World) (R cap : Nat) (hR : HoldsStr w R (key.extract 8 key.size).data.toList) :
    CallsIn Fence.wide n Try.prog 35 #[.slice (some ⟨R, 0, none⟩) (key.size - 8) cap] w fun e w' => e = .returned (.int .u64 ((Kh.word key.data.toList 8 : Nat) : Int)) ∧ w = w' := callsIn_wide.2 (word_key8 key h16 w R cap hR)

/-- The iterator's contract, as the law for the caller wants it. -/
theorem words_stops (n : Nat) (hn : 1 ≤ n) (Bn B : Nat) (hB : B ≤ Bn) (s : ByteArray) (hs : s.size ≤ 200000) (w0 : World) (hw : w0.heap[Bn]? = some (.cells #[.string s] 9 (0, 0))) (hBw : B ≤ w0.heap.size) :
    SeqStopsK Fence.wide n Try.prog 46 #[.pointer (some ⟨Bn, 0, none⟩)] (fun x : Nat => #[Value.int .u64 (x : Int)]) (CellsKept B) (fun xs => xs = Kh.words s.data.toList) (fun _ => True) (s.size / 8 + 1) w0 := by
  intro l J Jx W hW hJ _ hY h0
  exact words1_in n hn l Bn B (s.size / 8 + 1) hB s hs (by omega) J Jx hY W ((hW.block Bn (Array.getElem?_eq_some_iff.1 hw).1).trans hw) (Nat.le_trans hBw hW.size) hJ h0

theorem ownFrom_bk {β : Type} {B g : Nat} {t : TypeId} (f : β → Array Value) : OwnFrom B (fun (x : β) W => Bk W g t (f x)) := by
  intro x W W' row h hg hr
  refine h.grown hg (fun e => ?_)
  obtain ⟨_, o, ho, hc⟩ := hr g e.symm
  rw [show W.heap[g]? = some _ from h] at ho
  cases ho
  cases hc

theorem cellsKept_grown {B g : Nat} {W W' : World} (h : W.grownBy W' (some g)) (hg : g < B) : CellsKept B W W' := by
  intro k o hk ho _
  exact (h.block k (Array.getElem?_eq_some_iff.1 ho).1 (fun e => by injection e with e; omega)).trans ho

/-- What the call's own row of bytes holds, converted to a string. -/
theorem conv_own {w : World} {base g n cap : Nat} {l : List UInt8} (hl : l.length = n) (h : w.ownsRow base 5 1 (.slice (some ⟨g, 0, none⟩) n cap) n (l.map byteV)) :
    (convert 28 9 (.slice (some ⟨g, 0, none⟩) n cap)).run Try.prog w = .ok (.string (str l)) w :=
  conv_bytes hl (fun j hj => by
    rw [Nat.zero_add, h.cellAt j (by omega), List.getElem?_map, List.getElem?_eq_getElem (by omega)]; rfl)

/-- k rounds -/
def rndK : Nat → Kh.St → Kh.St
  | 0, s => s
  | k + 1, s => Kh.rnd (rndK k s)

/-- What follows a statement that does not leave the block by another road. -/
theorem wpIn_calm {c : Code} {F : Fence} {n : Nat} {P : Program} {K : Act → World → Prop} {Q : Exit → Act → World → Prop} {a : Act} {w : World} (h : c.wpIn F n P (Exit.then K (fun _ _ _ => False)) a w) : c.wpIn F n P (Exit.then K Q) a w :=
  wpIn_mono h (fun e a w h => by cases e <;> first | exact h | exact h.elim)

set_option maxRecDepth 100000 in
set_option maxHeartbeats 400000 in
theorem tag_any (key s : ByteArray) (hk : key.size = 16) (hs : s.size ≤ 100000) (w : World) :
    Calls Try.prog 25 #[.string key, .string s] w fun e w' => e = .returned (.string (str (Kh.tag key.data.toList s.data.toList))) ∧ Below w.heap.size w w' := by
  have Hk := Lib.hid hk
  have h16 : 8 ≤ key.size := by omega
  clear hk
  refine (callsIn_wide (n := 6)).1 ?_
  refine callsIn_of_wp_marks Try.func25 rfl trivial ?_ rfl
  simp only [Try.ntmps25, List.size_toArray, List.length_cons, List.length_nil, Nat.reduceAdd, Nat.reduceSub, Array.replicate_succ, Array.replicate_zero, List.push_toArray, List.append_toArray, List.nil_append, List.cons_append]
  gi_wp2
  gi_cut [5, 6] from 9 (fun s5 s6 wc => s5 = .int .u64 ((Kh.word key.data.toList 0 : Nat) : Int) ∧ s6 = .int .u64 ((Kh.word key.data.toList 8 : Nat) : Int) ∧ Below w.heap.size w wc)
  case first =>
    have hcv := fun (w : World) (s : ByteArray) => run_bytes_of_string w 9 28 5 s Try.underlying9 Try.underlying28 Try.underlying5
    refine wpIn_calm ?_
    gi_region_with (refine ⟨trivial, ?_⟩; (first | (with_reducible refine (word_keyIn _ key Hk.out _ _ _ ?_).mono ?_) | (with_reducible refine (word_key8In _ key Hk.out _ _ _ ?_).mono ?_)); (first | with_reducible exact HoldsStr.drew (HoldsStr.drew (holdsStr_new _ _ _ _)) | with_reducible exact HoldsStr.drew (HoldsStr.drew (HoldsStr.drew (HoldsStr.alloc (holdsStr_new _ _ _ _) _))) | with_reducible exact HoldsStr.drew (HoldsStr.drew (HoldsStr.drew (holdsStr_second _ _ _ _ _)))); rintro e w1 ⟨rfl, rfl⟩)
    all_goals (gi_wp2_with fail; gi_meet; exact ⟨rfl, rfl, by go_grown⟩)
  case rest =>
    obtain ⟨rfl, rfl, hb0⟩ := hcut
    have l1 : ∀ a : Nat, bits .xor .u64 (a : Int) 8317987319222330741 = ((Kh.xorm a 8317987319222330741 : Nat) : Int) := xor_lit 8317987319222330741
    have l2 : ∀ a : Nat, bits .xor .u64 (a : Int) 7237128888997146477 = ((Kh.xorm a 7237128888997146477 : Nat) : Int) := xor_lit 7237128888997146477
    have l3 : ∀ a : Nat, bits .xor .u64 (a : Int) 7816392313619706465 = ((Kh.xorm a 7816392313619706465 : Nat) : Int) := xor_lit 7816392313619706465
    have l4 : ∀ a : Nat, bits .xor .u64 (a : Int) 8387220255154660723 = ((Kh.xorm a 8387220255154660723 : Nat) : Int) := xor_lit 8387220255154660723
    gi_wp2_with fail
    clear l1 l2 l3 l4
    refine ⟨trivial, ?_⟩
    refine (words_in _ s _).mono ?_
    rintro e w2 ⟨rfl, rfl⟩
    gi_wp2_with fail
    have N1 : Bk ((wc.alloc (.cells (quadv (Kh.start key.data.toList)) 56)).alloc (.cells #[.string s] 9)) wc.heap.size 56 (quadv (Kh.start key.data.toList)) := (Bk.new wc _ _).alloc _
    have N2 : Bk ((wc.alloc (.cells (quadv (Kh.start key.data.toList)) 56)).alloc (.cells #[.string s] 9)) (wc.heap.size + 1) 9 #[.string s] := by
      have h := Bk.new (wc.alloc (.cells (quadv (Kh.start key.data.toList)) 56)) 9 #[.string s]
      rwa [World.size_alloc] at h
    have N3 : Below w.heap.size w ((wc.alloc (.cells (quadv (Kh.start key.data.toList)) 56)).alloc (.cells #[.string s] 9)) := (hb0.alloc hb0.size _).alloc (Nat.le_trans hb0.size (by simp)) _
    refine wpIn_rangeFunc_ownF rfl (by omega) (gf := 46) (lb := #[.pointer (some ⟨wc.heap.size + 1, 0, none⟩)]) rfl trivial (enters_of Try.func46 (by kernel_rfl) rfl)
      (words_stops _ (by omega) (wc.heap.size + 1) (wc.heap.size + 1) (Nat.le_refl _) s (by omega) _ N2 (by simp)) CellsKept.trans cellsKept_turn (Below.refl _ _) (fun _ => rfl)
      (fun pre W => Bk W wc.heap.size 56 (quadv (pre.foldl Kh.absorb (Kh.start key.data.toList))) ∧ Below w.heap.size w W)
      (fun _ _ _ => False)
      (OwnFrom.and (ownFrom_bk _) (ownFrom_below (Nat.le_refl _) (Nat.le_trans hb0.size (by simp; omega))))
      (fun _ _ _ _ _ h _ _ => h) ⟨N1, N3⟩ ?a1 ?assign ?body ?done ?stop
    case assign =>
      intro l x W K hK
      gi_wp2
      exact hK
    case body =>
      rintro l pre x W ⟨hB, hb⟩ _
      generalize hst : pre.foldl Kh.absorb (Kh.start key.data.toList) = st at hB
      have Hst := Lib.hid hst
      have Hb := Lib.hid hb
      have Hsz := Lib.hid hb0.size
      clear hst hb N1 N2 N3 hb0
      obtain ⟨c0, c1, c2, c3⟩ := quad_cells hB
      have hf : ∀ i, W.frozen? ⟨wc.heap.size, i, none⟩ = false := hB.free
      have B1 : Hid (Bk (W.setCell ⟨wc.heap.size, 3, none⟩ (.int .u64 (Kh.xorm st.d x : Nat))) wc.heap.size 56 (quadv ⟨st.a, st.b, st.c, Kh.xorm st.d x⟩)) := hB.put 3 _
      have G1 := Lib.hid (grown_put W wc.heap.size 3 (.int .u64 (Kh.xorm st.d x : Nat)))
      have HB := Lib.hid hB
      clear hB
      have hx := Kh.xor_spell
      gi_wp2_with fail
      clear c0 c1 c2 c3 hf
      generalize (W.setCell ⟨wc.heap.size, 3, none⟩ (.int .u64 (Kh.xorm st.d x : Nat))) = W1 at B1 G1 ⊢
      refine ⟨trivial, ?_⟩
      refine (CallsIn.inRound l (callsIn_wide.2 (round_any _ _ _ _ _ _ _ B1.out))).mono ?_
      rintro e W2 ⟨rfl, B2, G2⟩
      have HB2 := Lib.hid B2
      have HG2 := Lib.hid (grown_join G1.out G2)
      clear B1 G1 B2 G2
      gi_wp2_with fail
      refine ⟨trivial, ?_⟩
      refine (CallsIn.inRound l (callsIn_wide.2 (round_any _ _ _ _ _ _ _ HB2.out))).mono ?_
      rintro e W3 ⟨rfl, B3, G3⟩
      generalize hs3 : Kh.rnd _ = s3 at B3
      have HS3 := Lib.hid hs3
      clear hs3
      have HG3 := Lib.hid (grown_join HG2.out G3)
      clear HB2 HG2 G3
      obtain ⟨c0, c1, c2, c3⟩ := quad_cells B3
      have hf : ∀ i, W3.frozen? ⟨wc.heap.size, i, none⟩ = false := B3.free
      have B4 : Hid (Bk (W3.setCell ⟨wc.heap.size, 0, none⟩ (.int .u64 (Kh.xorm s3.a x : Nat))) wc.heap.size 56 (quadv ⟨Kh.xorm s3.a x, s3.b, s3.c, s3.d⟩)) := B3.put 0 _
      have G4 := Lib.hid (grown_join HG3.out (grown_put W3 wc.heap.size 0 (.int .u64 (Kh.xorm s3.a x : Nat))))
      clear B3 HG3
      gi_wp2
      have hxx : (⟨Kh.xorm s3.a x, s3.b, s3.c, s3.d⟩ : Kh.St) = (pre ++ [x]).foldl Kh.absorb (Kh.start key.data.toList) := by
        rw [List.foldl_append, Hst.out, ← HS3.out]; rfl
      refine ⟨KeepsOthers.of_grownBy G4.out (fun j o e ho => ?_), cellsKept_grown G4.out (by omega), ?_, ?_⟩
      · cases e
        rw [show W.heap[wc.heap.size]? = some _ from HB.out] at ho
        cases ho
        rfl
      · have h := B4.out
        rw [hxx] at h
        exact h
      · exact below_grown Hb.out G4.out Hsz.out Hb.out.size
    case done =>
      rintro D xs W hD rfl ⟨hB, hb⟩ hK
      generalize hst : (Kh.words s.data.toList).foldl Kh.absorb (Kh.start key.data.toList) = st at hB
      have Hst := Lib.hid hst
      have Hb := Lib.hid hb
      have Hsz := Lib.hid hb0.size
      have HK := Lib.hid hK
      have HD := Lib.hid hD
      clear hst hb N1 N2 N3 hb0 hK hD
      obtain ⟨c0, c1, c2, c3⟩ := quad_cells hB
      have hf : ∀ i, W.frozen? ⟨wc.heap.size, i, none⟩ = false := hB.free
      have B1 : Hid (Bk (W.setCell ⟨wc.heap.size, 2, none⟩ (.int .u64 (Kh.xorm st.c 255 : Nat))) wc.heap.size 56 (quadv ⟨st.a, st.b, Kh.xorm st.c 255, st.d⟩)) := hB.put 2 _
      have G1 := Lib.hid (grown_put W wc.heap.size 2 (.int .u64 (Kh.xorm st.c 255 : Nat)))
      have HB := Lib.hid hB
      clear hB
      have l5 : ∀ a : Nat, bits .xor .u64 (a : Int) 255 = ((Kh.xorm a 255 : Nat) : Int) := xor_lit 255
      gi_wp2_with fail
      clear c0 c1 c2 c3 hf l5
      generalize (W.setCell ⟨wc.heap.size, 2, none⟩ (.int .u64 (Kh.xorm st.c 255 : Nat))) = W1 at B1 G1 ⊢
      gi_loopw [44] (fun i wr => ∃ k : Nat, k ≤ 4 ∧ i = .int .i64 k ∧ Bk wr wc.heap.size 56 (quadv (rndK k ⟨st.a, st.b, Kh.xorm st.c 255, st.d⟩)) ∧ W.grownBy wr (some wc.heap.size)) (fun i _ => 4 - (intOf i).toNat)
      case atStart => exact ⟨0, by omega, rfl, B1.out, G1.out⟩
      case round =>
        obtain ⟨k, hk4, rfl, hBk, hGk⟩ := hrel
        have HBk := Lib.hid hBk
        have HGk := Lib.hid hGk
        clear hBk hGk
        by_cases hlt : k < 4
        · gi_wp2_with fail
          refine ⟨trivial, ?_⟩
          refine (callsIn_wide.2 (round_any _ _ _ _ _ _ _ HBk.out)).mono ?_
          rintro e W2 ⟨rfl, B2, G2⟩
          have HB2 := Lib.hid B2
          have HG2 := Lib.hid (grown_join HGk.out G2)
          clear B2 G2
          gi_wp2
          go_roundw
          case rel => exact ⟨k + 1, by omega, by go_num, HB2.out, HG2.out⟩
          case measure => simp [intOf]; omega
        · obtain rfl : k = 4 := by omega
          generalize hr4 : rndK 4 ⟨st.a, st.b, Kh.xorm st.c 255, st.d⟩ = s4 at HBk
          have HR4 := Lib.hid hr4
          clear hr4
          obtain ⟨c0, c1, c2, c3⟩ := quad_cells HBk.out
          have hKr : wr.heap[D]? = some (.deferred (some [])) := by
            refine (HGk.out.block D (Array.getElem?_eq_some_iff.1 HK.out).1 (fun e => ?_)).trans HK.out
            cases e
            have h := HB.out
            rw [show W.heap[wc.heap.size]? = some _ from h] at HK
            cases HK.out
          have HKr := Lib.hid hKr
          clear hKr
          have hx := Kh.xor_spell
          gi_wp2_with fail
          refine ⟨trivial, ?_⟩
          refine (callsIn_wide.2 (appendWord_any wr.heap.size _ 0 [] _ _ (World.ownsRow_nil _ _ _ _) (by omega) (Nat.le_refl _))).mono ?_
          rintro e w3 ⟨v', rfl, hown, hb3⟩
          obtain ⟨g', cap', rfl⟩ := ownsRow_succ hown
          rw [List.nil_append] at hown
          have hcv := conv_own (by simp [Kh.bytes8]) hown
          have hK3 : w3.heap[D]? = some (.deferred (some [])) := (hb3.block D (Array.getElem?_eq_some_iff.1 HKr.out).1).trans HKr.out
          have hbf : Below w.heap.size w w3 := ((below_grown Hb.out HGk.out Hsz.out Hb.out.size)).trans (hb3.mono (Nat.le_trans Hb.out.size HGk.out.size))
          have HK3 := Lib.hid hK3
          have Hbf := Lib.hid hbf
          clear c0 c1 c2 c3 hx hK3 hbf hb3 hown
          gi_wp2
          refine ⟨by simp, .inl ⟨_, _, rfl, run_takeDeferred HK3.out, ?_⟩⟩
          refine ⟨.string (str (Kh.bytes8 (Kh.xorm (Kh.xorm (Kh.xorm s4.a s4.b) s4.c) s4.d))), (by simp [results, Try.results25, go_sem]), ret_s ?_, ?_⟩
          · have e := Hst.out
            unfold Kh.tag
            rw [e]
            unfold Kh.finish
            have e4 : Kh.rnd (Kh.rnd (Kh.rnd (Kh.rnd ⟨st.a, st.b, Kh.xorm st.c 255, st.d⟩))) = s4 := HR4.out
            rw [e4]
          · exact Hbf.out.trans (belowK_b (w := w) (Nat.le_refl _) w3 D _ _ (by have := HD.out; have := Hsz.out; simp at *; omega) HK3.out rfl rfl)
    case stop =>
      intro D c pre W _ _ h _
      exact h.elim
end Go.Proofs.Ytdjpidniakedpaa
