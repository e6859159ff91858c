/- JournalCut, walked: the call answers true. Conditions: the records lie in memory; lengths below the model's greatest. -/
import Derived.Test.YtlknjdfiedkhbaaJoSizes
namespace Go.Proofs.Ytlknjdfiedkhbaa
open Go Go.RowKit
open Jo (RId Itm Rec rcA rcL)
attribute [-simp] Try.isAgg34 Try.sizeOf34 Try.typeInfo34

theorem mod_nat2 (a : Int) (n : Nat) : ∃ k : Nat, a % ((n : Int) + 1) = (k : Int) ∧ k ≤ n := by
  have h1 := Int.emod_nonneg a (b := (n : Int) + 1) (by omega)
  have h2 := Int.emod_lt_of_pos a (b := (n : Int) + 1) (by omega)
  exact ⟨(a % ((n : Int) + 1)).toNat, by omega, by omega⟩
theorem sz_cell {w : World} {A : Option Addr} {l : List Rec} (h : IntsAt w A (szL l (l.length + 1))) : ∃ b off, A = some ⟨b, off, none⟩ ∧ b < w.heap.size ∧ ∀ k, k ≤ l.length → w.cell? ⟨b, off + k, none⟩ = some (.int .i64 (sz l k : Int)) := by
  obtain ⟨b, off, hA, hb, hc⟩ := h.opened (by rw [szL_len]; omega)
  refine ⟨b, off, hA, hb, fun k hk => ?_⟩
  have := hc k (by rw [szL_len]; omega)
  rw [this, elt, szL_at l _ k (by omega)]; rfl

set_option maxHeartbeats 4000000 in
set_option maxRecDepth 100000 in
theorem lawCut (A : Option Addr) (cA : Nat) (l : List Rec) (a : Int) (w : World) (hl : l.length ≤ maxLen) (hd : ∀ r ∈ l, r.item.data.size ≤ maxLen) (hA : RecsAt w A l) (hc : l.length ≤ cA) (ha : 0 ≤ a ∧ a ≤ 4294967295) :
    Calls Try.prog 7 #[.slice A l.length cA, .int .u32 a] w fun e w' => e = .returned (.bool true) ∧ Below w.heap.size w w' := by
  have HG := Lib.hid (great_any A cA l w hA hl hd)
  have HA := Lib.hid hA
  have HD := Lib.hid hd
  clear hA hd hl
  have HGN := Lib.hid (@great_no l)
  generalize greatB l = g at HG HGN
  cases g with
  | true =>
    clear HGN
    go_enter Try.func7, Try.ntmps7
    go_wp2_with fail
    refine HG.out.mono ?_
    rintro e w1 ⟨rfl, rfl⟩
    go_wp2_with fail
    refine (jawake_any _).mono ?_
    rintro e w4 ⟨rfl, hb4⟩
    have HB4 := Lib.hid hb4
    clear hb4
    go_wp2
    go_ret
    exact ⟨rfl, HB4.out⟩
  | false =>
    obtain ⟨hl16, _⟩ := HGN.out rfl
    clear HGN
    obtain ⟨ha0, ha1⟩ := ha
    have HS := Lib.hid (sizes_any A cA l w hl16 HD.out HA.out hc)
    have HN0 := Lib.hid (fun w h => append_any ⟨#[]⟩ A cA l w (by decide) (Nat.le_trans hl16 (by decide)) HD.out h)
    rw [emp_list] at HN0
    go_enter Try.func7, Try.ntmps7
    go_wp2_with fail
    refine HG.out.mono ?_
    rintro e w1 ⟨rfl, rfl⟩
    go_wp2_with fail
    refine HS.out.mono ?_
    rintro e w2 ⟨hb2, ⟨hq, A2, c2, rfl, hi2⟩ | ⟨hq, rfl⟩⟩
    · have HB2 := Lib.hid hb2
      have HI2 := Lib.hid hi2
      obtain ⟨h1, h2, h3⟩ := app_ok hq
      rw [List.nil_append] at h2 h3
      rw [h3, hq] at HN0
      have HE := Lib.hid h1
      have HC := Lib.hid h2
      have hlen : ((szL l (l.length + 1)).length : Int) = (l.length : Int) + 1 := by rw [szL_len]; omega
      clear hb2 hi2 h1 h2 h3 hq HS HG
      generalize hsl : (szL l (l.length + 1)).length = sl at hlen
      clear hsl
      go_wp2_with fail
      refine (HN0.out _ (HA.out.below HB2.out)).mono ?_
      rintro e w3 ⟨rfl, hb3⟩
      have HB3 := Lib.hid (HB2.out.trans (hb3.mono HB2.out.size))
      have HI3 := Lib.hid (HI2.out.below hb3)
      clear hb3 HB2 HI2 HN0
      obtain ⟨cut, hcut, hcut2⟩ := mod_nat2 a (catL l).length
      have hss : ((str (catL l)).size : Int) = ((catL l).length : Int) := by rw [str_size]
      have hsm : (catL l).length ≤ 65536 := HC.out
      generalize hcn : (catL l).length = cn at hcut hcut2 hss hsm
      have HCN := Lib.hid hcn
      clear hcn
      have hz0 : ¬ ((l.length : Int) + 1 == 0) = true := by rw [beq_iff_eq]; omega
      go_wp2_with fail
      obtain ⟨b, off, rfl, hbl, hcell⟩ := sz_cell HI3.out
      have HCELL := Lib.hid hcell
      have H0 : Hid (sz l 0 ≤ cut) := by show sz l 0 ≤ cut; rw [sz_zero]; exact Nat.zero_le _
      clear hcell hbl
      go_loop [10] (fun i => ∃ k : Nat, k ≤ l.length ∧ i = .int .i64 k ∧ sz l k ≤ cut) (fun i => l.length - (intOf i).toNat)
      case atStart => exact ⟨0, Nat.zero_le _, rfl, H0.out⟩
      case round =>
        obtain ⟨k, hk, rfl, hsz⟩ := hrel
        have HSZ := Lib.hid hsz
        clear hsz H0
        by_cases hlt : k < l.length
        · have hcl := HCELL.out (k + 1) (by omega)
          have HXS : Hid (sz l (k + 1) = sz l (k + 1)) := rfl
          generalize hq : sz l (k + 1) = q at hcl
          have HQ := Lib.hid hq
          clear hq HXS
          by_cases hle : q ≤ cut
          · have hle' : (q : Int) ≤ (cut : Int) := by omega
            have HN : Hid (sz l (k + 1) ≤ cut) := by show sz l (k + 1) ≤ cut; rw [HQ.out]; exact hle
            go_wp2
            go_round
            case rel => exact ⟨k + 1, by omega, by go_num, HN.out⟩
            case measure => simp [intOf]; omega
          · have hle' : ¬ (q : Int) ≤ (cut : Int) := by omega
            have HLT : Hid (k < l.length → cut < sz l (k + 1)) := fun _ => by rw [HQ.out]; omega
            clear HQ
            have HRL : Hid (rdJ ((catL l).take cut) = (l.take k, sz l k, 0)) := by
              show _ = _
              have hx : ((catL l).take cut).length ≤ 65536 := by rw [List.length_take]; have := HC.out; omega
              rw [rdJ_small hx, cut_read HE.out hk HSZ.out (fun _ => HLT.out ‹_›) (by rw [HCN.out]; exact hcut2)]
            have hR := fun w => read_any ((str (catL l)).extract 0 cut) (by rw [ByteArray.size_extract]; unfold maxLen; omega) w
            unfold RetRd at hR
            rw [show ((str (catL l)).extract 0 cut).data.toList = (catL l).take cut by rw [ex_list, str_list, List.drop_zero, Nat.sub_zero], HRL.out] at hR
            have HR := Lib.hid hR
            obtain ⟨A1, hr1, ha1'⟩ := recs_head A cA l k hk hc
            have HA1 := Lib.hid ha1'
            have HSM := Lib.hid (fun w A3 c3 h1 h2 => sameRec_same A3 A1 c3 cA (l.take k) w h1 h2 (by rw [List.length_take]; unfold maxLen; omega))
            have HCK : Hid (∀ wx, Below w3.heap.size w3 wx → wx.cell? ⟨b, off + k, none⟩ = some (.int .i64 (sz l k : Int))) := fun wx hx => (hx.cell (p := ⟨b, off + k, none⟩) (World.block_lt_of_cell? _ _ (HCELL.out k hk))).trans (HCELL.out k hk)
            clear hR ha1' HRL HLT HSZ
            generalize l.take k = l1 at HA1 HR HSM hr1
            generalize sz l k = n at HR HCK
            generalize str (catL l) = S at HR hss ⊢
            go_wp2_with fail
            refine (HR.out _).mono ?_
            rintro e w5 ⟨A5, c5, rfl, hr5, hb5⟩
            have HB5 := Lib.hid (HB3.out.trans (hb5.mono HB3.out.size))
            have HR5 := Lib.hid hr5
            have HB35 := Lib.hid hb5
            clear hr5 hb5 HR
            go_wp2_with fail
            refine (HSM.out _ _ _ HR5.out (HA1.out _ (HA.out.below HB5.out))).mono ?_
            rintro e w6 ⟨rfl, hb6⟩
            have HB6 := Lib.hid (HB5.out.trans (hb6.mono HB5.out.size))
            have hck6 := HCK.out _ (HB35.out.trans (hb6.mono HB35.out.size))
            clear hb6 HSM
            go_wp2_with fail
            refine (jawake_any _).mono ?_
            rintro e w7 ⟨rfl, hb7⟩
            have HB7 := Lib.hid (HB6.out.trans (hb7.mono HB6.out.size))
            clear hb7
            go_wp2
            go_ret
            exact ⟨rfl, HB7.out⟩
        · have HLT : Hid (k < l.length → cut < sz l (k + 1)) := fun h => absurd h hlt
          have HRL : Hid (rdJ ((catL l).take cut) = (l.take k, sz l k, 0)) := by
            show _ = _
            have hx : ((catL l).take cut).length ≤ 65536 := by rw [List.length_take]; have := HC.out; omega
            rw [rdJ_small hx, cut_read HE.out hk HSZ.out (fun _ => HLT.out ‹_›) (by rw [HCN.out]; exact hcut2)]
          have hR := fun w => read_any ((str (catL l)).extract 0 cut) (by rw [ByteArray.size_extract]; unfold maxLen; omega) w
          unfold RetRd at hR
          rw [show ((str (catL l)).extract 0 cut).data.toList = (catL l).take cut by rw [ex_list, str_list, List.drop_zero, Nat.sub_zero], HRL.out] at hR
          have HR := Lib.hid hR
          obtain ⟨A1, hr1, ha1'⟩ := recs_head A cA l k hk hc
          have HA1 := Lib.hid ha1'
          have HSM := Lib.hid (fun w A3 c3 h1 h2 => sameRec_same A3 A1 c3 cA (l.take k) w h1 h2 (by rw [List.length_take]; unfold maxLen; omega))
          have HCK : Hid (∀ wx, Below w3.heap.size w3 wx → wx.cell? ⟨b, off + k, none⟩ = some (.int .i64 (sz l k : Int))) := fun wx hx => (hx.cell (p := ⟨b, off + k, none⟩) (World.block_lt_of_cell? _ _ (HCELL.out k hk))).trans (HCELL.out k hk)
          clear hR ha1' HRL HLT HSZ
          generalize l.take k = l1 at HA1 HR HSM hr1
          generalize sz l k = n at HR HCK
          generalize str (catL l) = S at HR hss ⊢
          go_wp2_with fail
          refine (HR.out _).mono ?_
          rintro e w5 ⟨A5, c5, rfl, hr5, hb5⟩
          have HB5 := Lib.hid (HB3.out.trans (hb5.mono HB3.out.size))
          have HR5 := Lib.hid hr5
          have HB35 := Lib.hid hb5
          clear hr5 hb5 HR
          go_wp2_with fail
          refine (HSM.out _ _ _ HR5.out (HA1.out _ (HA.out.below HB5.out))).mono ?_
          rintro e w6 ⟨rfl, hb6⟩
          have HB6 := Lib.hid (HB5.out.trans (hb6.mono HB5.out.size))
          have hck6 := HCK.out _ (HB35.out.trans (hb6.mono HB35.out.size))
          clear hb6 HSM
          go_wp2_with fail
          refine (jawake_any _).mono ?_
          rintro e w7 ⟨rfl, hb7⟩
          have HB7 := Lib.hid (HB6.out.trans (hb7.mono HB6.out.size))
          clear hb7
          go_wp2
          go_ret
          exact ⟨rfl, HB7.out⟩
    · have hqb : (appE [] l != 0) = true := by rw [bne_iff_ne]; exact hq
      have HB2 := Lib.hid hb2
      generalize appE [] l = q at HN0 hqb
      generalize str (appL [] l) = y at HN0
      clear hq hb2 HS HG
      go_wp2_with fail
      refine (HN0.out _ (HA.out.below HB2.out)).mono ?_
      rintro e w3 ⟨rfl, hb3⟩
      have HB3 := Lib.hid (HB2.out.trans (hb3.mono HB2.out.size))
      clear hb3
      go_wp2_with fail
      refine (jawake_any _).mono ?_
      rintro e w4 ⟨rfl, hb4⟩
      have HB4 := Lib.hid (HB3.out.trans (hb4.mono HB3.out.size))
      clear hb4
      go_wp2
      go_ret
      exact ⟨rfl, HB4.out⟩
end Go.Proofs.Ytlknjdfiedkhbaa
