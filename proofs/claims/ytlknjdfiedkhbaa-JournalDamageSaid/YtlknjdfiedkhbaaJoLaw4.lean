/- JournalDamage, walked: the call answers true. Conditions: the records lie in memory; lengths below the model's greatest. -/
import Derived.Test.YtlknjdfiedkhbaaJoSizes
namespace Go.Proofs.Ytlknjdfiedkhbaa
open Go Go.RowKit
open Jo (RId Itm Rec rcA rcL)
attribute [-simp] Try.isAgg34 Try.sizeOf34 Try.typeInfo34

theorem mod_nat3 (a : Int) (n : Nat) (h : 0 < n) : ∃ k : Nat, a % (n : Int) = (k : Int) ∧ k < n := by
  have h1 := Int.emod_nonneg a (b := (n : Int)) (by omega)
  have h2 := Int.emod_lt_of_pos a (b := (n : Int)) (by omega)
  exact ⟨(a % (n : Int)).toNat, by omega, by omega⟩
theorem cat_pos {l : List Rec} (h : errL l = 0) (hl : l ≠ []) : 0 < (catL l).length := by
  cases l with
  | nil => exact absurd rfl hl
  | cons r l =>
    obtain ⟨h1, _⟩ := errL_cons h
    obtain ⟨_, h2, h3⟩ := rec_ok h1
    rw [catL_cons, List.length_append, h3, seal_size h2]
    omega
theorem xor_ne {p u : UInt8} (h : u ≠ 0) : p ≠ p ^^^ u := fun e => h (by
  have : p ^^^ p = p ^^^ (p ^^^ u) := by rw [← e]
  rw [UInt8.xor_self, ← UInt8.xor_assoc, UInt8.xor_self, UInt8.zero_xor] at this
  exact this.symm)
theorem sz_cell2 {w : World} {A : Option Addr} {l : List Rec} (h : IntsAt w A (szL l (l.length + 1))) : ∃ b off, A = some ⟨b, off, none⟩ ∧ b < w.heap.size ∧ ∀ k, k ≤ l.length → w.cell? ⟨b, off + k, none⟩ = some (.int .i64 (sz l k : Int)) := by
  obtain ⟨b, off, hA, hb, hc⟩ := h.opened (by rw [szL_len]; omega)
  refine ⟨b, off, hA, hb, fun k hk => ?_⟩
  have := hc k (by rw [szL_len]; omega)
  rw [this, elt, szL_at l _ k (by omega)]; rfl

set_option maxHeartbeats 4000000 in
set_option maxRecDepth 100000 in
theorem lawHurt (A : Option Addr) (cA : Nat) (l : List Rec) (a : Int) (u : UInt8) (w : World) (hl : l.length ≤ maxLen) (hd : ∀ r ∈ l, r.item.data.size ≤ maxLen) (hA : RecsAt w A l) (hc : l.length ≤ cA) (ha : 0 ≤ a ∧ a ≤ 4294967295) :
    Calls Try.prog 8 #[.slice A l.length cA, .int .u32 a, .int .u8 (u.toNat : Int)] w fun e w' => e = .returned (.bool true) ∧ Below w.heap.size w w' := by
  have HG := Lib.hid (great_any A cA l w hA hl hd)
  have HA := Lib.hid hA
  have HD := Lib.hid hd
  clear hA hd hl
  have HGN := Lib.hid (@great_no l)
  generalize greatB l = g at HG HGN
  cases g with
  | true =>
    clear HGN
    go_enter Try.func8, Try.ntmps8
    go_wp2_with fail
    refine HG.out.mono ?_
    rintro e w1 ⟨rfl, rfl⟩
    go_wp2_with fail
    refine (jawake_any _).mono ?_
    rintro e w4 ⟨rfl, hb4⟩
    have HB4 := Lib.hid hb4
    clear hb4
    go_wp2
    go_ret
    exact ⟨rfl, HB4.out⟩
  | false =>
    by_cases h0 : l.length = 0
    · have h0b : ((l.length : Int) == 0) = true := by rw [beq_iff_eq]; omega
      clear h0 HGN
      go_enter Try.func8, Try.ntmps8
      go_wp2_with fail
      refine HG.out.mono ?_
      rintro e w1 ⟨rfl, rfl⟩
      go_wp2_with fail
      refine (jawake_any _).mono ?_
      rintro e w4 ⟨rfl, hb4⟩
      have HB4 := Lib.hid hb4
      clear hb4
      go_wp2
      go_ret
      exact ⟨rfl, HB4.out⟩
    by_cases hu : u = 0
    · subst hu
      have h0b : ((l.length : Int) == 0) = false := by rw [beq_eq_false_iff_ne]; omega
      clear h0 HGN
      go_enter Try.func8, Try.ntmps8
      go_wp2_with fail
      refine HG.out.mono ?_
      rintro e w1 ⟨rfl, rfl⟩
      go_wp2_with fail
      refine (jawake_any _).mono ?_
      rintro e w4 ⟨rfl, hb4⟩
      have HB4 := Lib.hid hb4
      clear hb4
      go_wp2
      go_ret
      exact ⟨rfl, HB4.out⟩
    obtain ⟨hl16, _⟩ := HGN.out rfl
    clear HGN
    obtain ⟨ha0, ha1⟩ := ha
    have HS := Lib.hid (sizes_any A cA l w hl16 HD.out HA.out hc)
    have HN0 := Lib.hid (fun w h => append_any ⟨#[]⟩ A cA l w (by decide) (Nat.le_trans hl16 (by decide)) HD.out h)
    rw [emp_list] at HN0
    have h0b : ((l.length : Int) == 0) = false := by rw [beq_eq_false_iff_ne]; omega
    have HNIL : Hid (l ≠ []) := fun h => h0 (by rw [h]; rfl)
    have hub : ((u.toNat : Int) == 0) = false := by
      rw [beq_eq_false_iff_ne]
      intro h
      exact hu (by rw [← UInt8.toNat_inj]; simpa using h)
    have HU := Lib.hid hu
    clear h0 hu
    go_enter Try.func8, Try.ntmps8
    go_wp2_with fail
    refine HG.out.mono ?_
    rintro e w1 ⟨rfl, rfl⟩
    go_wp2_with fail
    refine HS.out.mono ?_
    rintro e w2 ⟨hb2, ⟨hq, A2, c2, rfl, hi2⟩ | ⟨hq, rfl⟩⟩
    · have HB2 := Lib.hid hb2
      have HI2 := Lib.hid hi2
      obtain ⟨h1, h2, h3⟩ := app_ok hq
      rw [List.nil_append] at h2 h3
      rw [h3, hq] at HN0
      have HE := Lib.hid h1
      have HC := Lib.hid h2
      have hlen : ((szL l (l.length + 1)).length : Int) = (l.length : Int) + 1 := by rw [szL_len]; omega
      clear hb2 hi2 h1 h2 h3 hq HS HG
      generalize hsl : (szL l (l.length + 1)).length = sl at hlen
      clear hsl
      go_wp2_with fail
      refine (HN0.out _ (HA.out.below HB2.out)).mono ?_
      rintro e w3 ⟨rfl, hb3⟩
      have HB3 := Lib.hid (HB2.out.trans (hb3.mono HB2.out.size))
      have HI3 := Lib.hid (HI2.out.below hb3)
      clear hb3 HB2 HI2 HN0
      have hps := cat_pos HE.out HNIL.out
      obtain ⟨cut, hcut, hcut2⟩ := mod_nat3 a (catL l).length hps
      have hss : ((str (catL l)).size : Int) = ((catL l).length : Int) := by rw [str_size]
      have hsm : (catL l).length ≤ 65536 := HC.out
      generalize hcn : (catL l).length = cn at hcut hcut2 hss hsm hps
      have HCN := Lib.hid hcn
      clear hcn
      have hz0 : ((cn : Int) == 0) = false := by rw [beq_eq_false_iff_ne]; omega
      obtain ⟨b, off, rfl, hbl, hcell⟩ := sz_cell2 HI3.out
      have HCELL := Lib.hid hcell
      have H0 : Hid (sz l 0 ≤ cut) := by show sz l 0 ≤ cut; rw [sz_zero]; exact Nat.zero_le _
      have hclen := HCELL.out l.length (Nat.le_refl _)
      rw [sz_len, HCN.out] at hclen
      clear hcell hbl
      go_wp2_with fail
      clear hclen
      go_loop [12] (fun i => ∃ k : Nat, k ≤ l.length ∧ i = .int .i64 k ∧ sz l k ≤ cut) (fun i => l.length - (intOf i).toNat)
      case atStart => exact ⟨0, Nat.zero_le _, rfl, H0.out⟩
      case round =>
        obtain ⟨k, hk, rfl, hsz⟩ := hrel
        have HSZ := Lib.hid hsz
        clear hsz H0
        by_cases hlt : k < l.length
        · have hcl := HCELL.out (k + 1) (by omega)
          have HXS : Hid (sz l (k + 1) = sz l (k + 1)) := rfl
          generalize hq : sz l (k + 1) = q at hcl
          have HQ := Lib.hid hq
          clear hq HXS
          by_cases hle : q ≤ cut
          · have hle' : (q : Int) ≤ (cut : Int) := by omega
            have HN : Hid (sz l (k + 1) ≤ cut) := by show sz l (k + 1) ≤ cut; rw [HQ.out]; exact hle
            go_wp2
            go_round
            case rel => exact ⟨k + 1, by omega, by go_num, HN.out⟩
            case measure => simp [intOf]; omega
          · have hle' : ¬ (q : Int) ≤ (cut : Int) := by omega
            have HLT : Hid (cut < sz l (k + 1)) := by show cut < sz l (k + 1); rw [HQ.out]; omega
            have hck := HCELL.out k hk
            clear HQ
            by_cases h3 : cut < sz l k + 3
            · have h3' : (cut : Int) < (sz l k : Int) + 3 := by omega
              clear HLT h3
              have hnb : sz l k ≤ 65536 := by have := HSZ.out; omega
              generalize sz l k = n at hck h3' HSZ hnb
              go_wp2_with fail
              refine (jawake_any _).mono ?_
              rintro e w7 ⟨rfl, hb7⟩
              have HB7 := Lib.hid (HB3.out.trans (hb7.mono HB3.out.size))
              clear hb7
              go_wp2
              go_ret
              exact ⟨rfl, HB7.out⟩
            · have h3' : ¬ (cut : Int) < (sz l k : Int) + 3 := by omega
              have hcl2 : cut < (catL l).length := by rw [HCN.out]; exact hcut2
              obtain ⟨p, hp⟩ : ∃ p, (catL l)[cut]? = some p := ⟨_, List.getElem?_eq_getElem hcl2⟩
              have hx := xor_byte2 p u
              have HDR : Hid (rdJ ((catL l).set cut (p ^^^ u)) = (l.take k, sz l k, 0)) := by
                show _ = _
                rw [rdJ_small (by rw [List.length_set]; exact HC.out), damage_read HE.out hlt (by omega) HLT.out _ (by rw [hp]; intro c; exact xor_ne HU.out (Option.some.inj c))]
              obtain ⟨v, wb, hcv, hrow, hbb⟩ := brow_of_string (str (catL l)) w3 (by rw [str_size, HCN.out]; omega)
              obtain ⟨g, cap, rfl⟩ := hrow.form
              have hgw : w3.heap.size ≤ g := by obtain ⟨g', cap', e1, e2, _⟩ := hrow; cases e1; exact e2
              have hsc : cut < (str (catL l)).size := by rw [str_size]; exact hcl2
              have hci : wb.cell? ⟨g, cut, none⟩ = some (.int .u8 (p.toNat : Int)) := by
                rw [hrow.cells cut hsc, str_list, List.getElem?_map, hp]; rfl
              have hfi : wb.frozen? ⟨g, cut, none⟩ = false := by
                obtain ⟨g', cap', e1, _, _, e4, _, _, _, e8⟩ := hrow
                cases e1
                exact (e8 _ (by omega)).2
              have hrow2 := hrow.put cut hsc (.int .u8 ((p ^^^ u).toNat : Int))
              rw [str_list, show ((catL l).map byteV).set cut (.int .u8 ((p ^^^ u).toNat : Int)) = ((catL l).set cut (p ^^^ u)).map byteV by rw [List.map_set]; rfl] at hrow2
              have hcv2 := hrow2.str (by rw [List.length_set, str_size])
              have HBW : Hid (Below w3.heap.size w3 (wb.setCell ⟨g, cut, none⟩ (.int .u8 ((p ^^^ u).toNat : Int)))) := hbb.setCell (p := ⟨g, cut, none⟩) hgw _
              have hR := fun w => read_any (str ((catL l).set cut (p ^^^ u))) (by rw [str_size, List.length_set, HCN.out]; unfold maxLen; omega) w
              unfold RetRd at hR
              rw [str_list, HDR.out] at hR
              have HR := Lib.hid hR
              obtain ⟨A1, hr1, ha1'⟩ := recs_head A cA l k hk hc
              have HA1 := Lib.hid ha1'
              have HSM := Lib.hid (fun w A3 c3 h1 h2 => sameRec_same A3 A1 c3 cA (l.take k) w h1 h2 (by rw [List.length_take]; unfold maxLen; omega))
              have HCK : Hid (∀ wx, Below w3.heap.size w3 wx → wx.cell? ⟨b, off + k, none⟩ = some (.int .i64 (sz l k : Int))) := fun wx hx => (hx.cell (p := ⟨b, off + k, none⟩) (World.block_lt_of_cell? _ _ (HCELL.out k hk))).trans (HCELL.out k hk)
              have HP := Lib.hid hp
              have hnb : sz l k ≤ 65536 := by have := HSZ.out; omega
              clear hR ha1' HDR HLT HSZ hrow hrow2 hbb hp h3 hcl2
              generalize l.take k = l1 at HA1 HR HSM hr1
              generalize sz l k = n at HR HCK hck h3' hnb
              generalize str ((catL l).set cut (p ^^^ u)) = S2 at hcv2 HR
              generalize str (catL l) = S at hss hcv hcv2 hsc ⊢
              generalize p ^^^ u = pu at hx hcv2 HBW
              go_wp2_with fail
              refine (HR.out _).mono ?_
              rintro e w5 ⟨A5, c5, rfl, hr5, hb5⟩
              have HB35 := Lib.hid (HBW.out.trans (hb5.mono HBW.out.size))
              have HB5 := Lib.hid (HB3.out.trans (HB35.out.mono HB3.out.size))
              have HR5 := Lib.hid hr5
              clear hr5 hb5 HR hck hcv hcv2 hci hfi
              go_wp2_with fail
              refine (HSM.out _ _ _ HR5.out (HA1.out _ (HA.out.below HB5.out))).mono ?_
              rintro e w6 ⟨rfl, hb6⟩
              have HB6 := Lib.hid (HB5.out.trans (hb6.mono HB5.out.size))
              have hck6 := HCK.out _ (HB35.out.trans (hb6.mono HB35.out.size))
              clear hb6 HSM
              go_wp2_with fail
              refine (jawake_any _).mono ?_
              rintro e w7 ⟨rfl, hb7⟩
              have HB7 := Lib.hid (HB6.out.trans (hb7.mono HB6.out.size))
              clear hb7
              go_wp2
              go_ret
              exact ⟨rfl, HB7.out⟩
        · exfalso
          have h := HSZ.out
          have e : k = l.length := by omega
          rw [e, sz_len, HCN.out] at h
          omega
    · have hqb : (appE [] l != 0) = true := by rw [bne_iff_ne]; exact hq
      have HB2 := Lib.hid hb2
      generalize appE [] l = q at HN0 hqb
      generalize str (appL [] l) = y at HN0
      clear hq hb2 HS HG
      go_wp2_with fail
      refine (HN0.out _ (HA.out.below HB2.out)).mono ?_
      rintro e w3 ⟨rfl, hb3⟩
      have HB3 := Lib.hid (HB2.out.trans (hb3.mono HB2.out.size))
      clear hb3
      go_wp2_with fail
      refine (jawake_any _).mono ?_
      rintro e w4 ⟨rfl, hb4⟩
      have HB4 := Lib.hid (HB3.out.trans (hb4.mono HB3.out.size))
      clear hb4
      go_wp2
      go_ret
      exact ⟨rfl, HB4.out⟩
theorem lawHurtI (A : Option Addr) (cA : Nat) (l : List Rec) (a c : Int) (w : World) (hl : l.length ≤ maxLen) (hd : ∀ r ∈ l, r.item.data.size ≤ maxLen) (hA : RecsAt w A l) (hc : l.length ≤ cA) (ha : 0 ≤ a ∧ a ≤ 4294967295) (hcc : 0 ≤ c ∧ c ≤ 255) :
    Calls Try.prog 8 #[.slice A l.length cA, .int .u32 a, .int .u8 c] w fun e w' => e = .returned (.bool true) ∧ Below w.heap.size w w' := by
  obtain ⟨u, rfl⟩ : ∃ u : UInt8, c = (u.toNat : Int) := ⟨UInt8.ofNat c.toNat, by rw [UInt8.toNat_ofNat']; omega⟩
  exact lawHurt A cA l a u w hl hd hA hc ha
end Go.Proofs.Ytlknjdfiedkhbaa
