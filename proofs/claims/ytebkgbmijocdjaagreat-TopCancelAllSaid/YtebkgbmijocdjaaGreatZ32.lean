/- A part of the proof for the ledger. No condition beyond those that each theorem states. -/
import Derived.Test.YtebkgbmijocdjaaGreatZ30
set_option maxHeartbeats 32000000
set_option maxRecDepth 100000
set_option linter.unusedVariables false
set_option linter.unusedSimpArgs false
namespace Go.Proofs.YtebkgbmijocdjaaGreat.Tp
open Go Go.RowKit
theorem Xiu:∀ {l m:List Int},l.length=m.length→lx l m≤0→cmpL l m≤0
 | [], [],_,_=>by simp[cmpL]
 | a :: l,b :: m,hm,h=>by
   rw[Xey] at h;rw[cmpL]
   split at h
   ·rename_i e
    rw[if_neg (by omega),if_neg (by omega)]
    exact Xiu (by simpa using hm) h
   ·rename_i e
    have h1:¬ cmpI a b=0:=fun h1=>e (Xmw.1 h1);have h2:a<b:=Xd7.1 (by omega)
    rw[if_pos h2];omega
theorem Xqj {a b:Hld}(h:hdC a b≤0):hdLe a b:=by
 have h:lx [a.node,a.frm,a.til,a.tick,a.size] [b.node,b.frm,b.til,b.tick,b.size] ≤ 0:=h;exact Xiu rfl h
theorem Xmq (Aq:Option Addr)(cq:Nat)(Ac:Option Addr)(cc:Nat)(p:Pln)(B:Option Addr)(cb:Nat)(l:List Hld)(w:World)(hp:Xas w Aq cq Ac cc p)(hl:SlAt hdE w B l)(hlm:l.length≤maxLen) :
  Calls Tryz.prog 77 #[.agg (plA Aq cq Ac cc p),.slice B l.length cb] w (Xd (Xbe p∧Xm p l) w):=by
 have HP:=Lib.hid hp;have HL:=Lib.hid hl;have HB0:Hid (Below w.heap.size w (w.alloc (.cells (plA Aq cq Ac cc p) 25))):=(Below.refl _ _).alloc (Nat.le_refl _) _;have HK:=Lib.hid (Bk.new w 25 (plA Aq cq Ac cc p));have HC:=Lib.hid (fun w h=>Xb2 Aq cq Ac cc p w h);unfold maxLen at hlm;clear hp hl;go_enter Tryz.func77,Tryz.ntmps77;go_wp2_with fail;generalize w.alloc (.cells (plA Aq cq Ac cc p) 25)=W at HB0 HK ⊢;generalize w.heap.size=g0 at HK ⊢;refine (HC.out _ (HP.out.below HB0.out)).mono ?_;rintro e w1 ⟨q,rfl,hq,hb1⟩;have HQ:=Lib.hid hq;have HB1:=Lib.hid (Xa HB0.out hb1);have HK1:=Lib.hid (HK.out.below hb1 HK.out.lt);clear hq hb1 HB0 HK HC
 by_cases h0:q=0
 ·subst h0;have HPO:=Lib.hid (HQ.out.1 rfl);clear HQ;have hql:p.q.length≤16:=HPO.out.1.2.1
  by_cases h1:(512:Int)<(l.length:Int)
  ·go_wp2;go_ret;exact Xa2 (by decide) (fun h=>by have:=h.2.1; omega) HB1.out
  ·have HLN:Hid (l.length≤512):=by show _≤_; omega
   go_wp2;generalize hw1:w1=W1 at HB1 HK1 ⊢;clear hw1;go_loopw [5,6,17] (fun _ _ i wr => ∃k:Nat,k≤l.length∧i = .int .i64 k∧Below W1.heap.size W1 wr∧(∀b ∈ l.take k,Xca p b)∧(l.take k).Pairwise hdLe) (fun _ _ i _=>l.length - (intOf i).toNat)
   case atStart=>exact ⟨0,Nat.zero_le _,rfl,Below.refl _ _,by simp,by simp⟩
   case round =>
    obtain ⟨k,hk,rfl,hbw,hok,hpw⟩:=hrel;obtain ⟨wq,rfl⟩:∃wo:World,wo=wr:=⟨_,rfl⟩;have HB:=Lib.hid hbw;have HOK:=Lib.hid hok;have HPW:=Lib.hid hpw;clear hbw hok hpw
    by_cases hlt:k<l.length
    ·have HLA:=Lib.hid (HL.out.below (Xa HB1.out HB.out));obtain ⟨b,off,rfl,hr⟩:=HLA.out.one (by omega)
     obtain ⟨r,hrk⟩:∃r,l[k]? = some r:=⟨_,List.getElem?_eq_getElem hlt⟩;have HRK:=Lib.hid hrk;have HRA:=Lib.hid hr;have hrg:wq.rangeAt b (off+k * 5) (hdE.f r):=hr k r hrk;obtain ⟨c0,c1,c2,c3,c4⟩:=Tp.rgHd hrg;have HV:=Lib.hid (fun w=>Xhk Aq cq Ac cc p r w);have HKN:=Lib.hid (Bk.new wq 99 (hdA r));have HBN:Hid (Below wq.heap.size wq (wq.alloc (.cells (hdA r) 99))):=(Below.refl _ _).alloc (Nat.le_refl _) _;have HKP:Hid (Bk (wq.alloc (.cells (hdA r) 99)) g0 25 (plA Aq cq Ac cc p)):=HK1.out.below (Xa HB.out HBN.out) HK1.out.lt;obtain ⟨p0',p1'⟩:=HKP.out.c2;clear hr hrk hrg;go_wp2_with fail;generalize wq.alloc (.cells (hdA r) 99)=W2 at HKN HBN HKP p0' p1' ⊢;generalize hg1:wq.heap.size=g1 at HKN ⊢;clear hg1 c0 c1 c2 c3 c4 p0' p1';refine (HV.out _).mono ?_;rintro e w4 ⟨v,rfl,hv,hb4⟩;have HVV:=Lib.hid hv;have HB4:=Lib.hid (Xa (Xa HB.out HBN.out) hb4);have HK4:=Lib.hid (HKN.out.below hb4 HKN.out.lt);have HRX:Hid (∀i y,l[i]? = some y→w4.rangeAt b (off+i * 5) (hdE.f y)):=fun i y h=>Xa3 (HRA.out i y h) (Xa HBN.out hb4);clear hv hb4 HV HKN HBN HKP;cases v with
     | false =>
       have HN:Hid (¬ Xca p r):=fun h=>by have:=HVV.out.2 h; cases this
       go_wp2;go_ret;exact Xa2 (by decide) (fun h=>HN.out (h.2.2.1 r (List.mem_of_getElem? HRK.out))) (Xa HB1.out HB4.out)
     | true =>
       have HN1:=Lib.hid (Xnw HRK.out HOK.out (HVV.out.1 rfl));cases k with
       | zero =>
         have HN2:Hid ((l.take (0+1)).Pairwise hdLe):=by
          show List.Pairwise _ _;rw[take_snoc HRK.out];simp
         rw[show ((0:Nat):Int)=0 from rfl];have hz0:decide ((0:Int) > 0)=false:=by decide
         go_wp2_with fail;go_quiet (fail);go_wp2;go_roundw
         case rel=>exact ⟨0+1,by omega,by go_num,Xa4 HB4.out _,HN1.out,HN2.out⟩
         case measure=>simp[intOf]; omega
       | succ j =>
         obtain ⟨x,hx⟩:∃x,l[j]? = some x:=⟨_,List.getElem?_eq_getElem (by omega)⟩
         have HX:=Lib.hid hx;have HXR:=Lib.hid (HRX.out j x hx);have HCM:=Lib.hid (fun w=>Xfp x r w);have hjl:(j:Int)<(l.length:Int):=by omega
         have hjl1:(j:Int)+1<(l.length:Int):=by omega
         have hj0:(0:Int)≤(j:Int):=by omega
         have hj1:(0:Int)≤(j:Int)+1:=by omega
         have hjt:((j:Int)+1).toNat=j+1:=by omega
         have hjb:decide (((j:Int)+1) > 0)=true:=decide_eq_true (by omega)
         have hjw:IntKind.i64.wrap ((j:Int)+1 - 1)=(j:Int):=by rw[IntWalk.i64_in _ (by omega)]; omega
         have hjw2:IntKind.i64.wrap (j:Int)=(j:Int):=IntWalk.i64_in _ (by omega)
         rw[show ((j+1:Nat):Int)=(j:Int)+1 by omega]
         have HD2:Hid (∀w',Below w4.heap.size w4 w' → (w'.cell? ⟨g1,0,none⟩=some (.int .i64 r.node)∧w'.cell? ⟨g1,1,none⟩=some (.int .i64 r.frm)∧w'.cell? ⟨g1,2,none⟩=some (.int .i64 r.til)∧w'.cell? ⟨g1,3,none⟩=some (.int .i64 r.size)∧w'.cell? ⟨g1,4,none⟩=some (.int .i64 r.tick))∧(w'.cell? ⟨b,off+j * 5,none⟩=some (.int .i64 x.node)∧w'.cell? ⟨b,off+j * 5+1,none⟩=some (.int .i64 x.frm)∧w'.cell? ⟨b,off+j * 5+2,none⟩=some (.int .i64 x.til)∧w'.cell? ⟨b,off+j * 5+3,none⟩=some (.int .i64 x.size)∧w'.cell? ⟨b,off+j * 5+4,none⟩=some (.int .i64 x.tick))):=fun w' hb' => by
          have h4:=HK4.out.below hb' HK4.out.lt;have h5:=Xa3 HXR.out hb';exact ⟨⟨h4.cell 0,h4.cell 1,h4.cell 2,h4.cell 3,h4.cell 4⟩,⟨h5 0 _ rfl,h5 1 _ rfl,h5 2 _ rfl,h5 3 _ rfl,h5 4 _ rfl⟩⟩
         have HCZ:Hid (hdC x r≤0↔hdLe x r):=⟨Xqj,Xt⟩;have HSN:Hid (hdLe x r→(l.take (j+1+1)).Pairwise hdLe):=by
          intro hxr;rw[take_snoc HRK.out,take_snoc HX.out];refine Xry ?_ hxr;rw[←take_snoc HX.out];exact HPW.out
         have HBD:Hid (Xm p l→hdLe x r):=fun h=>Xmc h.2.2.1 HX.out HRK.out;generalize hdC x r=cz at HCM HCZ;clear hx
         by_cases hc:cz≤0
         ·have e1:decide (cz > 0)=false:=by simpa using hc
          have HN2:=Lib.hid (HSN.out (HCZ.out.1 hc));clear hc HCZ HSN HBD;go_wp2_with fail;go_region_held3 (fun w' => ((w'.cell? ⟨g1,0,none⟩=some (.int .i64 r.node)∧w'.cell? ⟨g1,1,none⟩=some (.int .i64 r.frm)∧w'.cell? ⟨g1,2,none⟩=some (.int .i64 r.til)∧w'.cell? ⟨g1,3,none⟩=some (.int .i64 r.size)∧w'.cell? ⟨g1,4,none⟩=some (.int .i64 r.tick))∧(w'.cell? ⟨b,off+j * 5,none⟩=some (.int .i64 x.node)∧w'.cell? ⟨b,off+j * 5+1,none⟩=some (.int .i64 x.frm)∧w'.cell? ⟨b,off+j * 5+2,none⟩=some (.int .i64 x.til)∧w'.cell? ⟨b,off+j * 5+3,none⟩=some (.int .i64 x.size)∧w'.cell? ⟨b,off+j * 5+4,none⟩=some (.int .i64 x.tick)))∧Hid (Below w4.heap.size w4 w')) (((try go_split_ands); first | exact Xa7 HD2 (Below.refl _ _).drew | exact Xaw HD2 (by assumption) hb5))
           ((go_at_call 94
             refine (HCM.out _).mono ?_;rintro e w5 ⟨rfl,hb5⟩))
          have HBF:Hid (Below w4.heap.size w4 w5):=by (try go_split_ands); assumption
          have HBW:=Lib.hid (Xa HB4.out HBF.out);clear HD2 HBF;go_wp2;go_roundw
          case rel=>exact ⟨j+1+1,by omega,by go_num,HBW.out,HN1.out,HN2.out⟩
          case measure=>simp[intOf]; omega
         ·have e1:decide (cz > 0)=true:=by simpa using (show cz > 0 by omega)
          have HN:Hid (¬ Xm p l):=fun h=>hc (HCZ.out.2 (HBD.out h));clear hc HCZ HSN HBD;go_wp2_with fail;go_region_held3 (fun w' => ((w'.cell? ⟨g1,0,none⟩=some (.int .i64 r.node)∧w'.cell? ⟨g1,1,none⟩=some (.int .i64 r.frm)∧w'.cell? ⟨g1,2,none⟩=some (.int .i64 r.til)∧w'.cell? ⟨g1,3,none⟩=some (.int .i64 r.size)∧w'.cell? ⟨g1,4,none⟩=some (.int .i64 r.tick))∧(w'.cell? ⟨b,off+j * 5,none⟩=some (.int .i64 x.node)∧w'.cell? ⟨b,off+j * 5+1,none⟩=some (.int .i64 x.frm)∧w'.cell? ⟨b,off+j * 5+2,none⟩=some (.int .i64 x.til)∧w'.cell? ⟨b,off+j * 5+3,none⟩=some (.int .i64 x.size)∧w'.cell? ⟨b,off+j * 5+4,none⟩=some (.int .i64 x.tick)))∧Hid (Below w4.heap.size w4 w')) (((try go_split_ands); first | exact Xa7 HD2 (Below.refl _ _).drew | exact Xaw HD2 (by assumption) hb5))
           ((go_at_call 94
             refine (HCM.out _).mono ?_;rintro e w5 ⟨rfl,hb5⟩))
          have HBF:Hid (Below w4.heap.size w4 w5):=by (try go_split_ands); assumption
          have HBW:=Lib.hid (Xa HB4.out HBF.out);clear HD2 HBF;go_wp2;go_ret;exact Xa2 (by decide) (fun h=>HN.out h.2) (Xa HB1.out HBW.out)
    ·have HAO:Hid (∀h ∈ l,Xca p h):=fun h hh=>HOK.out h (by rw[List.take_of_length_le (by omega)]; exact hh)
     have HAP:Hid (l.Pairwise hdLe):=by
      have h:=HPW.out;rw[List.take_of_length_le (by omega)] at h
      exact h
     have HBQ:=Lib.hid (Xa HB1.out HB.out);have HKQ:=Lib.hid (HK1.out.below HB.out HK1.out.lt);have HMO:=Lib.hid (fun A c F w hA hF=>Xnd A c F w hA hF);have HLV:=Lib.hid (fun n w hl=>Xg3 B cb l n w hl (by have:=HLN.out; omega) (fun h hh=>by
      have:=HAO.out h hh;unfold Xca at this;exact ⟨by omega,Xik (by omega) (by omega),Xik (by omega) (by omega)⟩))
     have q0:=HKQ.out.cell 0;clear HB;go_wp2_with fail;clear q0;go_loopw [7,8,42] (fun _ _ i wr => ∃k:Nat,k≤p.q.length∧i = .int .i64 k∧Below wq.heap.size wq wr ∧ ∀(m:Nat) (x:Int),m<k→p.q[m]? = some x → ∀t,used l m t≤x) (fun _ _ i _=>p.q.length - (intOf i).toNat)
     case atStart=>exact ⟨0,Nat.zero_le _,rfl,Below.refl _ _,fun m x h=>absurd h (Nat.not_lt_zero _)⟩
     case round =>
      obtain ⟨n,hn,rfl,hbw,hus⟩:=hrel;have HUS:=Lib.hid hus;clear hus;have HB:=Lib.hid (Xa HBQ.out hbw);have HB2:=Lib.hid hbw;clear hbw
      by_cases hnt:n<p.q.length
      ·obtain ⟨b,off,rfl,hr⟩:=(HP.out.q.below HB.out).one (by omega)
       obtain ⟨x,hx⟩:∃x,p.q[n]? = some x:=⟨_,List.getElem?_eq_getElem hnt⟩;have hc0:wr.cell? ⟨b,off+n,none⟩=some (.int .i64 x):=by
        have:=hr n x hx 0 _ rfl;simpa[intE] using this
       have HX0:Hid (Xfi (Xae l n)≤x ↔ ∀t,used l n t≤x):=by
        have h1:=HPO.out.2.1 x (List.mem_of_getElem? hx);exact Xq3 (fun h hh=>by have:=HAO.out h hh; unfold Xca at this; omega) h1.1
       have HXN:=Lib.hid hx;clear hr hx;go_wp2_with fail;refine (HLV.out (n:Int) _ (HL.out.below HB.out)).mono ?_;rintro e w2 ⟨A2,c2,rfl,hs2,hc2,hbk2,hb2⟩;have HS2:=Lib.hid hs2;have HB3:=Lib.hid (Xa HB2.out hb2);have hll:(Xae l n).length≤1000000:=by
        have h1:=Xeg (chg (evL l n)) 0 (Xgi (evL l n));have h2:(Xgi (evL l n)).length=(Xay (evL l n)).length:=List.length_mergeSort _;have h3:=Xdb (evL l n);have h4:=Xhq l n;rw[←Xei] at h1;omega
       clear hs2 hc2 hbk2 hb2 hc0;go_wp2_with fail;refine (HMO.out A2 c2 (Xae l n) _ HS2.out hll).mono ?_;rintro e w3 ⟨rfl,hb3⟩;have HB4:=Lib.hid (Xa HB3.out hb3);clear hb3 hll
       by_cases hx0:x<Xfi (Xae l n)
       ·have HN:Hid (¬ Xm p l):=fun h=>by have:=HX0.out.2 (h.2.2.2 n x HXN.out); omega
        go_wp2;go_ret;exact Xa2 (by decide) (fun h=>HN.out h.2) (Xa HBQ.out HB4.out)
       ·have HN:Hid (∀(m:Nat) (y:Int),m<n+1→p.q[m]? = some y → ∀t,used l m t≤y):=fun m y hm hy=>by
         by_cases e:m=n
         ·subst e;rw[HXN.out] at hy;cases hy;exact HX0.out.1 (by omega)
         ·exact HUS.out m y (by omega) hy
        go_wp2;go_roundw
        case rel=>exact ⟨n+1,by omega,by go_num,HB4.out,HN.out⟩
        case measure=>simp[intOf]; omega
      ·have HF:Hid (Xbe p∧Xm p l):=⟨HPO.out,HLN.out,HAO.out,HAP.out,fun n q hq=>HUS.out n q (by have:=(List.getElem?_eq_some_iff.1 hq).1; omega) hq⟩
       go_wp2;go_ret;exact Xbf HF.out HB.out
 ·have hqb:(q != 0)=true:=by rw[bne_iff_ne]; exact h0
  have H0:=Lib.hid h0;clear h0;go_wp2;go_ret;exact Xa2 (by decide) (fun h=>H0.out (HQ.out.2 h.1)) HB1.out
theorem Xfx (Aq:Option Addr)(cq:Nat)(Ac:Option Addr)(cc:Nat)(B:Option Addr)(cb:Nat)(H:Option Addr)(ch:Nat)(t:Tbl)(w:World)(ht:Xcm w Aq cq Ac cc B cb H ch t) :
  Calls Tryz.prog 33 #[.agg (tbA Aq cq Ac cc B cb H ch t)] w (Xd (Xb5 t) w):=by
 have HT:=Lib.hid ht;have HB0:Hid (Below w.heap.size w (w.alloc (.cells (tbA Aq cq Ac cc B cb H ch t) 29))):=(Below.refl _ _).alloc (Nat.le_refl _) _;have HK:=Lib.hid (Bk.new w 29 (tbA Aq cq Ac cc B cb H ch t));have HC1:=Lib.hid (fun w h=>Xb2 Aq cq Ac cc t.p w h);have HC2:=Lib.hid (fun w h h2=>Xds Aq cq Ac cc t.p B cb t.b w h h2 ht.bm);have HC3:=Lib.hid (fun w h h2=>Xmq Aq cq Ac cc t.p H ch t.h w h h2 ht.hm);clear ht;go_enter Tryz.func33,Tryz.ntmps33;go_wp2_with fail;generalize w.alloc (.cells (tbA Aq cq Ac cc B cb H ch t) 29)=W at HB0 HK ⊢;generalize w.heap.size=g0 at HK ⊢;refine (HC1.out W (HT.out.p.below HB0.out)).mono ?_;rintro e w1 ⟨q,rfl,hq,hb1⟩;have HB1:=Lib.hid (Xa HB0.out hb1);have HK1:=Lib.hid (HK.out.below hb1 HK.out.lt);have t0:=HK1.out.c3
 by_cases hz:q=0
 ·subst hz;have HPO:=Lib.hid (hq.1 rfl);clear hq hb1 HB0 HK HC1;go_wp2_with fail;refine (HC2.out w1 (HT.out.p.below HB1.out) (HT.out.b.below HB1.out)).mono ?_;rintro e w2 ⟨q,rfl,hq,hb2⟩;have HB2:=Lib.hid (Xa HB1.out hb2);have HK2:=Lib.hid (HK1.out.below hb2 HK1.out.lt);clear t0;have t0:=HK2.out.c2;have t3:=HK2.out.n3
  by_cases hz:q=0
  ·subst hz;have HBO:=Lib.hid (hq.1 rfl).2;clear hq hb2 HB1 HK1 HC2;go_wp2_with fail;refine (HC3.out w2 (HT.out.p.below HB2.out) (HT.out.h.below HB2.out)).mono ?_;rintro e w3 ⟨q,rfl,hq,hb3⟩;have HB3:=Lib.hid (Xa HB2.out hb3);have HFI:Hid (q=0↔Xb5 t):=⟨fun h=>⟨HPO.out,HBO.out,(hq.1 h).2⟩,fun h=>hq.2 ⟨h.1,h.2.2⟩⟩;clear hb3 hq t0 t3;go_wp2;go_ret;exact ⟨q,rfl,HFI.out,HB3.out⟩
  ·have hzb:(q != 0)=true:=by rw[bne_iff_ne]; exact hz
   have HN:Hid (¬ Xb5 t):=fun h=>hz (hq.2 ⟨h.1,h.2.1⟩);have HZ:=Lib.hid hz;clear hq hb2 HB1 HK1 HC2 hz;go_wp2;go_ret;exact Xa2 HZ.out HN.out HB2.out
 ·have hzb:(q != 0)=true:=by rw[bne_iff_ne]; exact hz
  have HN:Hid (¬ Xb5 t):=fun h=>hz (hq.2 h.1);have HZ:=Lib.hid hz;clear hq hb1 HB0 HK HC1 hz;go_wp2;go_ret;exact Xa2 HZ.out HN.out HB1.out
theorem Xsb (Aq:Option Addr)(cq:Nat)(Ac:Option Addr)(cc:Nat)(B:Option Addr)(cb:Nat)(H:Option Addr)(ch:Nat)(t:Tbl)(q:Rq)(w:World)(ht:Xcm w Aq cq Ac cc B cb H ch t)(hno:¬ (Xb5 t∧RqOK t.p q)) :
  Calls Tryz.prog 26 #[.agg (tbA Aq cq Ac cc B cb H ch t),.agg (rqA q)] w fun e w' => e = .returned (.tuple #[.pointer none,.bool false])∧Below w.heap.size w w':=by
 have HT:=Lib.hid ht;have HNO:=Lib.hid hno;obtain ⟨_,_,rfl,rfl,-,HB0,HK0,HK1⟩:=box2 w 29 (tbA Aq cq Ac cc B cb H ch t) 31 (rqL q).toArray;have HC1:=Lib.hid (fun w' hb=>Xfx Aq cq Ac cc B cb H ch t w' (ht.below (w':=w') hb));have HC2:=Lib.hid (fun w' hb=>Xc5 Aq cq Ac cc t.p q w' (ht.below (w':=w') hb).p);have a0:=HK0.out.c4;clear ht hno;go_enter Tryz.func26,Tryz.ntmps26;go_wp2_with fail;clear a0;generalize ((w.alloc (.cells (tbA Aq cq Ac cc B cb H ch t) 29)).alloc (.cells (rqL q).toArray 31))=W at HB0 HK0 HK1 ⊢;generalize hn0:w.heap.size=n0 at HB0 HK0 HK1 ⊢;refine (HC1.out W (by rw[hn0]; exact HB0.out)).mono ?_
 rintro e w1 ⟨x,rfl,hx,hb1⟩;have HB1:Hid (Below n0 w w1):=HB0.out.trans (hb1.mono (by have:=HK0.out.lt; omega))
 have HM0:=Lib.hid (HK0.out.below hb1 HK0.out.lt);have HM1:=Lib.hid (HK1.out.below hb1 HK1.out.lt);clear HB0 HK0 HK1 HC1
 by_cases hz:x=0
 ·subst hz;have HTO:=Lib.hid (hx.1 rfl);clear hx hb1;have a0:=HM0.out.c2;have b0:=HM1.out.c7;go_wp2_with fail;refine (HC2.out w1 (by rw[hn0]; exact HB1.out)).mono ?_
  rintro e w2 ⟨y,rfl,hy,hb2⟩;have HB2:Hid (Below n0 w w2):=HB1.out.trans (hb2.mono (by have:=HM0.out.lt; omega))
  have hzy:¬ y=0:=fun h=>HNO.out ⟨HTO.out,hy.1 h⟩;have hzb:(y != 0)=true:=by rw[bne_iff_ne]; exact hzy
  clear hb2 hy hzy a0 b0;go_wp2;go_ret2;exact ⟨rfl,by rw[hn0]; exact HB2.out⟩
 ·have hzb:(x != 0)=true:=by rw[bne_iff_ne]; exact hz
  clear hx hb1 hz;go_wp2;go_ret2;exact ⟨rfl,by rw[hn0]; exact HB1.out⟩
theorem Xmu (Aq:Option Addr)(cq:Nat)(Ac:Option Addr)(cc:Nat)(B:Option Addr)(cb:Nat)(H:Option Addr)(ch:Nat)(t:Tbl)(q:Rq)(w:World)(ht:Xcm w Aq cq Ac cc B cb H ch t)(hno:¬ (Xb5 t∧RqOK t.p q)) :
  Calls Tryz.prog 10 #[.agg (tbA Aq cq Ac cc B cb H ch t),.agg (rqA q)] w fun e w' => e = .returned (.tuple #[.slice none 0 0,.int .i64 1])∧Below w.heap.size w w':=by
 have HT:=Lib.hid ht;have HNO:=Lib.hid hno;obtain ⟨_,_,rfl,rfl,-,HB0,HK0,HK1⟩:=box2 w 29 (tbA Aq cq Ac cc B cb H ch t) 31 (rqL q).toArray;have HBU:=Lib.hid (fun w' hb=>Xsb Aq cq Ac cc B cb H ch t q w' (ht.below (w':=w') hb) hno);have a0:=HK0.out.c4;have b0:=HK1.out.c7;clear ht hno;have hmf:=fun (fn:Fn) (first cap:Array Value) (w:World)=>(rfl:(Instr.makeFunc fn first cap).run Tryz.prog w = .ok (.func fn first cap) w)
 go_enter Tryz.func10,Tryz.ntmps10;go_wp2_with fail;clear a0 b0 HK0 HK1;generalize ((w.alloc (.cells (tbA Aq cq Ac cc B cb H ch t) 29)).alloc (.cells (rqL q).toArray 31))=W at HB0 ⊢;refine (HBU.out W HB0.out).mono ?_;rintro e w1 ⟨rfl,hb1⟩;have HB1:Hid (Below w.heap.size w w1):=Xa HB0.out hb1;clear hb1 HB0 HBU;go_wp2;go_ret2;exact ⟨rfl,HB1.out.alloc HB1.out.size _⟩
theorem Xjr (Aq:Option Addr)(cq:Nat)(Ac:Option Addr)(cc:Nat)(B:Option Addr)(cb:Nat)(H:Option Addr)(ch:Nat)(t:Tbl)(q:Rq)(w:World)(ht:Xcm w Aq cq Ac cc B cb H ch t)(hok:Xb5 t)(hq:RqOK t.p q) :
  Calls Tryz.prog 120 #[.agg (tbA Aq cq Ac cc B cb H ch t),.agg (rqA q)] w fun e w' => (∃A n c,e = .returned (.tuple #[.slice A n c,.int .i64 0]))∧Below w.heap.size w w':=by
 have HT:=Lib.hid ht;obtain ⟨_,_,rfl,rfl,-,HB0,HK0,HK1⟩:=box2 w 29 (tbA Aq cq Ac cc B cb H ch t) 31 (rqL q).toArray;have HBU:=Lib.hid (fun w' hb=>Xhw Aq cq Ac cc B cb H ch t q w' (ht.below (w':=w') hb) hok hq);have a0:=HK0.out.c4;have b0:=HK1.out.c7;clear ht hok hq;have hmf:=fun (fn:Fn) (first cap:Array Value) (w:World)=>(rfl:(Instr.makeFunc fn first cap).run Tryz.prog w = .ok (.func fn first cap) w)
 go_enter Tryz.func120,Tryz.ntmps120;go_wp2_with fail;clear a0 b0 HK0 HK1;generalize ((w.alloc (.cells (tbA Aq cq Ac cc B cb H ch t) 29)).alloc (.cells (rqL q).toArray 31))=W at HB0 ⊢;refine (HBU.out W HB0.out).mono ?_;rintro e w1 ⟨G,rfl,hg1,hG1,hb1⟩;have HG1:=Lib.hid hg1;have HB1:Hid (Below w.heap.size w w1):=Xa HB0.out hb1;clear hg1 hb1 HB0 HBU;go_wp2_with fail;refine (Xg4 G t q w1 HG1.out).mono ?_;rintro e w2 ⟨L,hp,A,c,rfl,hs,hc,hba,hb2⟩;have HB2:Hid (Below w.heap.size w w2):=Xa HB1.out hb2;clear hp hs hc hba hb2 HB1 HG1;go_wp2;go_ret2;exact ⟨⟨_,_,_,rfl⟩,HB2.out⟩
def EarR (t:Tbl)(q:Rq):Option (List Hop)→Prop
 | none => ¬ (Xb5 t∧RqOK t.p q)∨Xdi t q=none
 | some m=>Xb5 t∧RqOK t.p q ∧ ∃n,Xdi t q=some n∧Xn7 t q n m
def EarG (t:Tbl)(q:Rq)(w:World)(e:Ending)(w':World):Prop:=Below w.heap.size w w' ∧ ((∃x:Int,x ≠ 0∧e = .returned (.tuple #[.slice none 0 0,.int .i64 x])∧EarR t q none) ∨ ∃m A c,EarR t q (some m)∧e = .returned (.tuple #[.slice A m.length c,.int .i64 0])∧HpAt w' A c m)
theorem Xdq (Aq:Option Addr)(cq:Nat)(Ac:Option Addr)(cc:Nat)(B:Option Addr)(cb:Nat)(H:Option Addr)(ch:Nat)(t:Tbl)(q:Rq)(w:World)(ht:Xcm w Aq cq Ac cc B cb H ch t) :
  Calls Tryz.prog 10 #[.agg (tbA Aq cq Ac cc B cb H ch t),.agg (rqA q)] w (EarG t q w):=by
 by_cases h:Xb5 t∧RqOK t.p q
 ·refine (Xlm Aq cq Ac cc B cb H ch t q w ht h.1 h.2).mono ?_;rintro e w' ⟨hb,hp⟩;refine ⟨hb,?_⟩;cases hbf:Xdi t q with
  | none =>
    rw[hbf] at hp;exact .inl ⟨18,by decide,hp,.inr hbf⟩
  | some n =>
    rw[hbf] at hp;obtain ⟨m,A,c,h1,h2,h3⟩:=hp;exact .inr ⟨m,A,c,⟨h.1,h.2,n,hbf,h1⟩,h2,h3⟩
 ·refine (Xmu Aq cq Ac cc B cb H ch t q w ht h).mono ?_;rintro e w' ⟨he,hb⟩;exact ⟨hb,.inl ⟨1,by decide,he,.inl h⟩⟩
section
variable {t:Tbl} {q:Rq}
theorem Xpz (ht:Xb5 t)(hq:RqOK t.p q){L:List Lab}(hL:Labs (grf t q) L)(hA:∀a ∈ L,∀b ∈ L,same a b=true→a=b){at_:Int}{x:Lab}{m:List Hop}{xs:List Lab}(h:Xc1 (grf t q) L at_ x m xs)(hx1:x.node=q.src)(hx2:x.time=q.ready) :
  m ≠ [] ∧ Xbw t.p q q.src q.ready m∧(Xc7 t.p q.src q.ready m).1=q.dst∧(Xc7 t.p q.src q.ready m).2≤q.dead∧(bksL m 0 ++ t.b).Pairwise apartB ∧ ∀(n:Nat) (qn:Int),t.p.q[n]? = some qn → ∀tm,used (Xcv t.p q m 0 ++ t.h) n tm≤qn:=by
 have hg:=Xfq ht hq;have hf:=Xjw ht hq;have hxL:x ∈ L:=by
  obtain ⟨l,rfl⟩:=h.head;exact h.sub x (by simp)
 have fx:=hL.fine x hxL;obtain ⟨hw,hbk,_⟩:=h.way hg hf hL;have hway:=hw q.ready (by have:=fx.2.2.2.1; omega) (by omega)
 obtain ⟨hh1,hh2⟩:=h.holds hg hf hL hA q.ready (by have:=fx.2.2.2.1; omega) (by omega)
 rw[hx1] at hway hh1 hh2;rw[hx2] at hway;have hsz:=hq.2.2.2.2.1;have chk:∀ {n f a:Int} {m:List Hop},Way (grf t q) (Xra t) (Xr9 t q.size) n f a m→Xbw t.p q n a m∧(Xc7 t.p n a m).1=q.dst∧(Xc7 t.p n a m).2≤q.dead∧m ≠ [] ∧ ∀h ∈ m,∀x ∈ t.b,apartB ⟨h.ct,h.beg,h.fin,0⟩ x:=by
  have one:∀ {n f a:Int} {i:Nat} {c:Ct} {h:Hop},Stp (grf t q) (Xra t) (Xr9 t q.size) n f a i c h→(0≤h.ct∧t.p.c[h.ct.toNat]? = some c)∧c.src=n∧n ≠ q.dst∧a≤h.beg∧c.beg≤h.beg∧h.beg≤c.fin - dur c q.size∧h=⟨h.ct,h.beg,h.beg+dur c q.size,h.beg+dur c q.size+c.rng⟩ ∧ ∀x ∈ t.b,apartB ⟨h.ct,h.beg,h.fin,0⟩ x:=by
   intro n f a i c h hst;have e0:h.ct=i:=by rw[hst.eq]
   have hc:t.p.c[i]? = some c:=hst.ct;have e1:h.fin=h.beg+dur c q.size:=by rw[hst.eq,Xqn hc]
   have e2:h.arr=h.beg+dur c q.size+c.rng:=by rw[hst.eq,Xqn hc]
   obtain ⟨c2,h5,h6,h7,h8⟩:=hst.fc;rw[hc] at h5;cases h5;have hd:=Xdw (ht.1.2.2.1 c (List.mem_of_getElem? hc)).1 hsz.1;refine ⟨⟨by omega,by rw[e0]; exact hc⟩,hst.src,hst.nd,hst.aft,h6,by omega,?_,fun x hx=>?_⟩
   ·rw[←e2, ←e1]
   ·have hv:=(ht.2.1.2.1 x hx).2.2;obtain ⟨_,_,_,hv2,_⟩:=hv;have:=h8 x hx;unfold apartB bkLt;simp only;omega
  intro n f a m hway
  induction hway with
  | last hst h1 h2 =>
    obtain ⟨o1,o2,o3,o4,o5,o6,o7,o8⟩:=one hst;refine ⟨⟨_,o1,o2,o3,o4,o5,o6,o7,trivial⟩,?_,?_,by simp,?_⟩
    ·rw[Xc7,o1.2]; exact h1
    ·rw[Xc7,o1.2]; exact h2
    ·intro h' hh'; rw[List.mem_singleton.1 hh']; exact o8
  | cons hst h1 ih =>
    obtain ⟨o1,o2,o3,o4,o5,o6,o7,o8⟩:=one hst;obtain ⟨i1,i2,i3,i4,i5⟩:=ih;refine ⟨⟨_,o1,o2,o3,o4,o5,o6,o7,i1⟩,?_,?_,by simp,?_⟩
    ·rw[Xc7,o1.2]; exact i2
    ·rw[Xc7,o1.2]; exact i3
    ·intro h' hh';rcases List.mem_cons.1 hh' with rfl | e
     ·exact o8
     ·exact i5 h' e
 obtain ⟨c1,c2,c3,c4,c5⟩:=chk hway;refine ⟨c4,c1,c2,c3,?_,?_⟩
 ·refine List.pairwise_append.2 ⟨?_,?_,?_⟩
  ·unfold bksL;rw[List.pairwise_map];have hpos:∀h ∈ m,h.beg<h.fin:=by
    intro h hh;have:∀ {n a:Int} {m:List Hop},Xbw t.p q n a m → ∀h ∈ m,h.beg<h.fin:=by
     intro n a m
     induction m generalizing n a with
     | nil=>intro _ h hh; simp at hh
     | cons k l ih =>
       rintro ⟨c,o1,_,_,_,_,_,o7,o8⟩ h hh;rcases List.mem_cons.1 hh with rfl | e
       ·have:=Xdw (ht.1.2.2.1 c (List.mem_of_getElem? o1.2)).1 hsz.1;have:h.fin=h.beg+dur c q.size:=by rw[o7]
        omega
       ·exact ih o8 h e
    exact this c1 h hh
   refine hbk.imp_of_mem (fun {a b} ha hb hab=>?_);have:=hpos a ha;unfold apartB bkLt;simp only;omega
  ·exact ht.2.1.2.2.imp (fun {a b} h => .inl h)
  ·intro a ha b hb;obtain ⟨h',hh',rfl⟩:=List.mem_map.1 ha;exact c5 h' hh' b hb
 ·intro n qn hqn tm;rw[Xdk];rcases Xid (n:=n) (tm:=tm) (sz:=q.size) (by omega) (a:=Xcv t.p q m 0) (fun h hh=>by
   obtain ⟨k,_,rfl⟩:=List.mem_map.1 hh; rfl) (by
   unfold Xcv;rw[List.pairwise_map];exact hh1) with e | ⟨e,h',hh',k1,k2,k3⟩
  ·rw[e];have:=ht.2.2.2.2.2 n qn hqn tm;omega
  ·rw[e];obtain ⟨k,hk,rfl⟩:=List.mem_map.1 hh';obtain ⟨y,_,_,_,_,_,hfn⟩:=hh2 k hk;obtain ⟨_,_,q',hq',hfn⟩:=hfn;simp only at k1 k2 k3;rw[k1,Int.toNat_natCast,hqn] at hq';cases hq';have:=hfn tm k2 k3;rw[k1] at this;omega
theorem Xob (ht:Xb5 t)(hq:RqOK t.p q){L:List Lab}(hL:Labs (grf t q) L)(hA:∀a ∈ L,∀b ∈ L,same a b=true→a=b){at_:Int}{x:Lab}{m:List Hop}{xs:List Lab}(h:Xc1 (grf t q) L at_ x m xs)(hx1:x.node=q.src)(hx2:x.time=q.ready):∀x ∈ Xcv t.p q m 0,Xca t.p x:=by
 intro k hk;have hg:=Xfq ht hq;have hf:=Xjw ht hq;have hxL:x ∈ L:=by
  obtain ⟨l,rfl⟩:=h.head;exact h.sub x (by simp)
 have fx:=hL.fine x hxL;obtain ⟨-,hh2⟩:=h.holds hg hf hL hA q.ready (by have:=fx.2.2.2.1; omega) (by omega)
 rw[hx1] at hh2;obtain ⟨k0,hk0,rfl⟩:=List.mem_map.1 hk;obtain ⟨y,hy,h1,h2,h3,h4,h5,h6,q',hq', -⟩:=hh2 k0 hk0;have fy:=hL.fine y (h.sub y hy);have hn:0≤k0.node:=by have:=fy.2.1; omega
 have hn2:k0.node.toNat<t.p.q.length:=(List.getElem?_eq_some_iff.1 hq').1;have hsz:=hq.2.2.2.2.1;unfold maxT at h6;exact ⟨hn,by show k0.node<_; omega,h5,h4,h6,hsz.1,hsz.2,by show (0:Int)≤0; omega,by show (0:Int)≤_; omega⟩
end
structure Good (t:Tbl)(q:Rq)(n:Int)(m:List Hop):Prop where
 rt:Xax t.p q m
 last:Xac m=n
 ap:(bksL m 0 ++ t.b).Pairwise apartB
 us:∀(k:Nat) (qn:Int),t.p.q[k]? = some qn → ∀tm,used (Xcv t.p q m 0 ++ t.h) k tm≤qn
 hd:∀x ∈ Xcv t.p q m 0,Xca t.p x
theorem Xn7.fine {t:Tbl}{q:Rq}{n:Int}{m:List Hop}(ht:Xb5 t)(hq:RqOK t.p q)(h:Xn7 t q n m):Good t q n m:=by
 have hlen:=h.len ht hq;have hk:=Xqd ht q;have h1:=ht.1.1.2.1;have h2:=ht.2.2.1;obtain ⟨L,x,xs,hp,hl,hx1,hx2⟩:=h;have hg:=Xfq ht hq;have hL:=(Xjq hg).perm hp;have hap:∀a ∈ L,∀b ∈ L,same a b=true→a=b:=fun a ha b hb hab=>Xoi hg a (hp.mem_iff.1 ha) b (hp.mem_iff.1 hb) hab;obtain ⟨he,hne⟩:=hl.end_ hg;obtain ⟨c1,c2,c3,c4,c5,c6⟩:=Xpz ht hq hL hap hl hx1 hx2;exact ⟨⟨hq,c1,by omega,c2,c3,c4⟩,he,c5,c6,Xob ht hq hL hap hl hx1 hx2⟩
structure TblR (p:Pln)(ts:List Tk)(t:Tbl):Prop where
 pl:t.p=p
 b:t.b.Perm (bksA ts)
 bs:t.b.Pairwise fun a b=>ltOf bkC b a=false
 h:t.h.Perm (hdsA p ts)
 hs:t.h.Pairwise fun a b=>ltOf hdC b a=false
def BksV (p:Pln)(L:List Bkg):Prop:=L.length≤512∧(∀b ∈ L,Xi8 p b)∧L.Pairwise apartB
def HdsV (p:Pln)(L:List Hld):Prop:=L.length≤512∧(∀h ∈ L,Xca p h) ∧ ∀(n:Nat)(q:Int),p.q[n]? = some q → ∀t,used L n t≤q
def Xbh (ts:List Tk):Prop:=(∀k ∈ ts,0<k.num∧k.num≤1152921504606846976)∧ts.Pairwise fun a b=>a.num<b.num
def TkOK (p:Pln)(k:Tk):Prop:=RqOK p k.rq∧(k.st=1∧Xax p k.rq k.hops∧k.til=0∨k.st=2∧(k.hops = [] ∨ Xg8 p k.rq k.hops)∧0≤k.til∧k.til≤1099511627776)
def LgOK (p:Pln)(ts:List Tk):Prop:=Xbe p∧ts.length≤64∧Xbh ts∧(∀k ∈ ts,TkOK p k)∧BksV p (bksA ts)∧HdsV p (hdsA p ts)
theorem Xlq {a b:Bkg}:ltOf bkC a b=true↔a.ct<b.ct∨a.ct=b.ct∧a.beg<b.beg:=by
 unfold ltOf;rw[decide_eq_true_iff];show lx [a.ct,a.beg] [b.ct,b.beg] < 0↔_;rw[Xey,Xey]
 split
 ·rename_i e
  split
  ·rename_i e2
   simp[lx,orL,e,e2]
  ·rw[Xd7]; omega
 ·rw[Xd7]; omega
theorem Xjv {a b:Hld}(h:ltOf hdC b a=false):hdLe a b:=by
 have h:¬ (lx [b.node,b.frm,b.til,b.tick,b.size] [a.node,a.frm,a.til,a.tick,a.size] < 0):=by
  have:=of_decide_eq_false h;exact this
 unfold hdLe Xon;have key:∀(l m:List Int),l.length=m.length → ¬ lx m l<0→cmpL l m≤0:=by
  intro l
  induction l with
  | nil=>intro m _ _; simp[cmpL]
  | cons a l ih =>
    intro m hm h;cases m with
    | nil=>simp at hm
    | cons b m =>
      rw[Xey] at h;rw[cmpL]
      split at h
      ·rename_i e
       rw[if_neg (by omega),if_neg (by omega)]
       exact ih m (by simpa using hm) h
      ·rename_i e
       rw[Xd7] at h;rw[if_pos (by omega)]
       omega
 exact key _ _ rfl h
theorem Xn9 {p:Pln}{ts:List Tk}{t:Tbl}(h:TblR p ts t)(hp:Xbe p):Xb5 t↔BksV p (bksA ts)∧HdsV p (hdsA p ts):=by
 obtain ⟨rfl,hb,hbs,hh,hhs⟩:=h;have aps:∀ {a b:Bkg},apartB a b→apartB b a:=fun h=>h.symm;constructor
 ·rintro ⟨_,⟨b1,b2,b3⟩,⟨h1,h2,h3,h4⟩⟩;refine ⟨⟨by rw[←hb.length_eq]; exact b1,fun b hm=>b2 b (hb.mem_iff.2 hm),hb.pairwise (b3.imp fun h => .inl h) aps⟩,⟨by rw[←hh.length_eq]; exact h1,fun b hm=>h2 b (hh.mem_iff.2 hm),fun n q hq tm=>?_⟩⟩
  have:=h4 n q hq tm;rw[show used (hdsA t.p ts) n tm=used t.h n tm from (Xcp hh n tm).symm];exact this
 ·rintro ⟨⟨b1,b2,b3⟩,⟨h1,h2,h4⟩⟩;refine ⟨hp,⟨by rw[hb.length_eq]; exact b1,fun b hm=>b2 b (hb.mem_iff.1 hm),?_⟩,⟨by rw[hh.length_eq]; exact h1,fun b hm=>h2 b (hh.mem_iff.1 hm),hhs.imp Xjv,fun n q hq tm=>?_⟩⟩
  ·have h5:=hb.symm.pairwise b3 aps;refine (h5.and hbs).imp fun {a b} hab=>?_;rcases hab.1 with h | h
   ·exact h
   ·have:ltOf bkC b a=true:=Xlq.2 (by unfold bkLt at h; omega)
    rw[hab.2] at this;cases this
  ·rw[Xcp hh];exact h4 n q hq tm
end Go.Proofs.YtebkgbmijocdjaaGreat.Tp
