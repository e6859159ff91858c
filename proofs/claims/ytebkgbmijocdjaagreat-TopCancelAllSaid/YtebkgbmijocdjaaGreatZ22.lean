/- A part of the proof for the ledger. No condition beyond those that each theorem states. -/
import Derived.Test.YtebkgbmijocdjaaGreatZ15
import Derived.Test.YtebkgbmijocdjaaGreatZ21
set_option maxHeartbeats 32000000
set_option maxRecDepth 100000
set_option linter.unusedVariables false
set_option linter.unusedSimpArgs false
namespace Go.Proofs.YtebkgbmijocdjaaGreat.Tp
open Go Go.RowKit
abbrev mvV (y:Lab × Hop):Array Value := #[.agg #[.int .i64 y.1.node,.int .i64 y.1.frm,.int .i64 y.1.til,.int .i64 y.1.time,.int .i64 y.2.ct,.int .i64 y.2.beg,.int .i64 y.2.fin,.int .i64 y.2.arr]]
def KpM (n₀ BG BL:Nat)(W W':World):Prop:=Below n₀ W W' ∧ (∀k cs t,(t=104∨t=142∨t=41)→Bk W k t cs→Bk W' k t cs) ∧ ∀k cs t,(k=BG∨k=BL)→Bk W k t cs→Bk W' k t cs
theorem KpM.of_below {n₀ BG BL:Nat}{W W':World}(hb:Below W.heap.size W W')(hn:n₀ ≤ W.heap.size):KpM n₀ BG BL W W':=⟨hb.mono hn,fun _ _ _ _ h=>h.below hb h.lt,fun _ _ _ _ h=>h.below hb h.lt⟩
theorem KpM.trans {n₀ BG BL:Nat}{A B C:World}(h:KpM n₀ BG BL A B)(h':KpM n₀ BG BL B C):KpM n₀ BG BL A C:=⟨h.1.trans h'.1,fun k cs t ht hb=>h'.2.1 k cs t ht (h.2.1 k cs t ht hb),fun k cs t ht hb=>h'.2.2 k cs t ht (h.2.2 k cs t ht hb)⟩
theorem Xjs {n₀ BG BL:Nat}{w:World}(hn:n₀ ≤ w.heap.size)(W:World)(l:Nat)(o o':Obj)(hl:w.heap.size≤l)(h:W.heap[l]? = some o)(hc:o.isCells=false) (_:o.isWalk=false):KpM n₀ BG BL W (W.putObj l o'):=by
 have hk:∀k cs t,Bk W k t cs→Bk (W.putObj l o') k t cs:=fun k cs t hb=>by
  by_cases e:k=l
  ·subst e;rw[show W.heap[k]? = some _ from hb] at h;cases h;cases hc
  ·exact (World.putObj_heap_other e).trans hb
 exact ⟨⟨rfl,rfl,rfl,by simp,fun k hk=>World.putObj_heap_other (by omega)⟩,fun k cs t _ hb=>hk k cs t hb,fun k cs t _ hb=>hk k cs t hb⟩
theorem Xtq {t:Tbl}{i:Nat}{c:Ct}(ht:Xb5 t)(hc:t.p.c[i]? = some c):∀s ∈ (Xb6 t).getD i [],0≤s.frm∧s.frm<s.til∧s.til≤1099511627776:=by
 intro s hs;have hct:=(ht.1.2.2.1 c (List.mem_of_getElem? hc)).1;unfold CtOK at hct;obtain ⟨f1,f2,f3⟩:=Xe9 ht.2.1 hc;rw[Xe7 hc] at hs;have h5:=(Xcx (fin:=c.fin) f1 f3).1 s hs;have h6:=h5.2.2.1 f2;exact ⟨by omega,h5.2.1,by omega⟩
theorem Xq2 (n:Nat)(hn:1≤n)(l BG BL G:Nat)(t:Tbl)(q:Rq)(x:Lab)(w0:World)(J Jx:List (Lab × Hop)→World→Prop)
  (W:World) (hW:Below w0.heap.size w0 W) (hJa:AbidesFrom W.heap.size J)
  (hY:∀(pre:List (Lab × Hop)) (y:Lab × Hop) (W1:World),J pre W1→pre ++ [y] <+: Xag (grf t q) x→W.heap.size<W1.heap.size→pre.length<1000000→YieldAt Fence.wide (n - 1) Tryz.prog l (mvV y) W1 fun e W' =>
    (e = .returned (.bool true)∧J (pre ++ [y]) W' ∧ KpM w0.heap.size BG BL W1 W')∨(e = .returned (.bool false)∧Jx (pre ++ [y]) W'))
  (hbg:Bk W BG 74 #[.pointer (some ⟨G,0,none⟩)]) (hbl:Bk W BL 81 (lbA x)) (hg:GAt w0 G t q) (hx:0≤x.time∧x.time≤1099511627776)
  (hN:(Xag (grf t q) x).length<1000000) (hrb:∀(n:Int) (r:Spn),r ∈ Xbb (grf t q) n→0≤r.frm∧r.frm≤1099511627776) (h0:J [] W) :
  CallsIn Fence.wide n Tryz.prog 72 #[.func (.yield l) #[] #[],.pointer (some ⟨BG,0,none⟩),.pointer (some ⟨BL,0,none⟩)] W fun e W' => (∃v,e = .returned v) ∧
   ((∃xs,xs=Xag (grf t q) x∧J xs W')∨(∃pre,pre <+: Xag (grf t q) x∧Jx pre W')):=by
 have HG:=Lib.hid hg;obtain ⟨Aq,cq,Ac,cc,B,cb,H,ch,Ag,cg,Ar,cr,Ad,cd,hbk,hin⟩:=hg;have HIN:=Lib.hid hin;have HBK:=Lib.hid hbk;have g0:=hbg.n0;have g1:W.cell? ⟨G,1,none⟩=some (.slice Ac t.p.c.length cc):=(hbk.below hW hbk.lt).cell 1;have HJ0:=Lib.hid h0;have HW:=Lib.hid hW;have HBG:=Lib.hid hbg;have HBL:=Lib.hid hbl;have HY:=Lib.hid hY;have HJA:=Lib.hid hJa;have HNL:=Lib.hid hN;have HRB:=Lib.hid hrb;have HPG:Hid (W.heap.size≤W.heap.size∧w0.heap.size≤W.heap.size):=⟨Nat.le_refl _,hW.size⟩;have hcm:=hin.tb.p.cm;unfold maxLen at hcm;clear h0 hbg hbl hY hJa hbk hin hN hrb;refine callsIn_of_wp Tryz.func72 rfl trivial ?_ rfl;simp only[Tryz.ntmps72,List.size_toArray,List.length_cons,List.length_nil,Nat.reduceAdd,Nat.reduceSub,Array.replicate_succ,Array.replicate_zero,List.push_toArray,List.append_toArray,List.nil_append,List.cons_append]
 gi_wp2
 clear g0 g1
 gi_loopw [4,5,7,8,9,17,32] (fun _ _ _ _ _ i _ wr => ∃(k:Nat) (pre:List (Lab × Hop)),k≤t.p.c.length∧i = .int .i64 k∧pre ++ Xal (grf t q) x k (t.p.c.drop k)=Xag (grf t q) x∧J pre wr∧Below w0.heap.size w0 wr∧W.heap.size≤wr.heap.size∧Bk wr BG 74 #[.pointer (some ⟨G,0,none⟩)] ∧ Bk wr BL 81 (lbA x)) (fun _ _ _ _ _ i _ _=>t.p.c.length - (intOf i).toNat)
 case atStart=>exact ⟨0, [],Nat.zero_le _,rfl,rfl,HJ0.out,HW.out,Nat.le_refl _,HBG.out,HBL.out⟩
 case round =>
  obtain ⟨k,pre,hk,rfl,hpre,hJ,hbw,hgw,hbg,hbl⟩:=hrel;have HPRE:=Lib.hid hpre;have HJ:=Lib.hid hJ;have HBW:=Lib.hid hbw;have HGW:=Lib.hid hgw;have HBG2:=Lib.hid hbg;have HBL2:=Lib.hid hbl;clear hpre hJ hbw hgw hbg hbl HJ0 HBG HBL
  by_cases hlt:k<t.p.c.length
  ·obtain ⟨bc,oc,rfl,hr⟩:=(HIN.out.tb.p.c.below HBW.out).one (by omega)
   obtain ⟨c,hc⟩:∃c,t.p.c[k]? = some c:=⟨_,List.getElem?_eq_getElem hlt⟩;have hrg:wr.rangeAt bc (oc+k * 7) (ctE.f c):=hr k c hc;have c0:=Tp.rgCt hrg;have HC:=Lib.hid hc;have hk0:(0:Int)≤(k:Int):=by omega
   have hk1:(k:Int)<(t.p.c.length:Int):=by omega
   have hcok:=HIN.out.qok.1.2.2.1 c (List.mem_of_getElem? hc);have HDR:Hid (t.p.c.drop k=c :: t.p.c.drop (k+1)):=by
    obtain ⟨h1,h2⟩:=List.getElem?_eq_some_iff.1 hc;show _=_;rw[List.drop_eq_getElem_cons h1,h2]
   have HMV:Hid (pre ++ (mvCt (grf t q) x k c ++ Xal (grf t q) x (k+1) (t.p.c.drop (k+1)))=Xag (grf t q) x):=by
    have h1:=HPRE.out;rw[HDR.out,Xal] at h1;exact h1
   obtain ⟨_,_,rfl,rfl,-,HBX,HCB⟩:=box1 wr 104 (ctA c);have HBG3:=Lib.hid (HBG2.out.below HBX.out HBG2.out.lt);have HBL3:=Lib.hid (HBL2.out.below HBX.out HBL2.out.lt);have HBW3:Hid (Below w0.heap.size w0 (wr.alloc (.cells (ctA c) 104))):=HBW.out.trans (HBX.out.mono HBW.out.size);have HGW3:Hid (W.heap.size<(wr.alloc (.cells (ctA c) 104)).heap.size):=by have:=HGW.out; show _<_; simp; omega
   have HJ3:Hid (J pre (wr.alloc (.cells (ctA c) 104))):=HJA.out _ _ _ none HJ.out (World.grownBy_alloc _ _ _) (fun r e=>by cases e)
   have l0:=HBL3.out.n0;clear HPRE HDR HJ HBW HGW HBG2 HBL2 HBX hc hr hrg
   by_cases hsn:c.src=x.node
   ·have e1:(c.src == x.node)=true:=by simpa using hsn
    have e2:(c.src != x.node)=false:=by simpa using hsn
    have HCT:Hid (mvCt (grf t q) x k c=(Xbb (grf t q) c.dst).flatMap (mvOf (grf t q) x k c)):=by show _=_; unfold mvCt; rw[if_pos hsn]
    have p0:=HBG3.out.n0;have p1:=HCB.out.n1;clear hsn;have hd0:0≤c.dst:=by
     have:=hcok.1;unfold CtOK at this;omega
    obtain ⟨dn,hdn⟩:∃dn:Nat,c.dst=(dn:Int):=⟨c.dst.toNat,by omega⟩
    have hro:=Xop G t q dn w0 (wr.alloc (.cells (ctA c) 104)) HG.out HBW3.out (by have:=hcok.2.2; omega)
    rw[←hdn] at hro;have HRO:=Lib.hid hro;clear hro hdn
    gi_wp2_with fail
    generalize hw2:(wr.alloc (.cells (ctA c) 104))=w2 at HCB HBG3 HBL3 HBW3 HGW3 HJ3 HRO ⊢;have hw2s:w2.heap.size=wr.heap.size+1:=by rw[←hw2]; simp
    clear hw2 l0 p0 p1 c0;generalize hcb:wr.heap.size=CB at HCB hw2s ⊢;refine ⟨trivial,?_⟩;refine (callsIn_wide.2 HRO.out).mono ?_;rintro e w4 ⟨A7,c7,rfl,h7,hc7,hm7,hb4⟩;have HJ4:Hid (J pre w4):=HJA.out _ _ _ none HJ3.out (grown_below hb4 none) (fun r e=>by cases e)
    have HS7:Hid (∀W':World,Below w0.heap.size w0 W' → (∀cs,Bk w4 w2.heap.size 142 cs→Bk W' w2.heap.size 142 cs)→SlAt spE W' A7 (Xbb (grf t q) c.dst)):=fun W' hb hk=>by
     rcases h7 with h7 | ⟨h8,h9,h10⟩
     ·exact h7.below hb
     ·rw[h8,h9];intro k r hk2
      match k,hk2 with
      | 0,hk2 =>
        cases hk2;refine ⟨_,0,rfl,fun j v hv=>?_⟩;have h:=(hk _ h10).cell j;rw[Nat.zero_mul,Nat.add_zero,Nat.zero_add,h];simpa using (show [Value.int .i64 0,Value.int .i64 1099511627776][j]? = some v from hv)
    have HC4:=Lib.hid (HCB.out.below hb4 HCB.out.lt);have HG4:=Lib.hid (HBG3.out.below hb4 HBG3.out.lt);have HL4:=Lib.hid (HBL3.out.below hb4 HBL3.out.lt);have HB4:Hid (Below w0.heap.size w0 w4):=HBW3.out.trans (hb4.mono HBW3.out.size);have HZ4:Hid (W.heap.size<w4.heap.size):=by have h1:=hb4.size; have h2:=HGW3.out; show _<_; omega
    have HMV2:Hid (pre ++ ((Xbb (grf t q) c.dst).flatMap (mvOf (grf t q) x k c) ++ Xal (grf t q) x (k+1) (t.p.c.drop (k+1)))=Xag (grf t q) x):=by
     have h:=HMV.out;rw[HCT.out] at h;exact h
    clear h7 hb4 HCB HBG3 HBL3 HBW3 HGW3 HJ3 HRO HMV HCT;have HRL:Hid (∀r ∈ Xbb (grf t q) c.dst,0≤r.frm∧r.frm≤1099511627776):=fun r hr=>HRB.out c.dst r hr;generalize Xbb (grf t q) c.dst=L at HS7 HMV2 hc7 hm7 HRL ⊢;have hL0:(0:Int)≤(L.length:Int):=by omega
    gi_wp2
    gi_loopw [7,8,9,32] (fun _ _ _ i wr => ∃(m:Nat) (pre:List (Lab × Hop)),m≤L.length∧i = .int .i64 m∧pre ++ ((L.drop m).flatMap (mvOf (grf t q) x k c) ++ Xal (grf t q) x (k+1) (t.p.c.drop (k+1)))=Xag (grf t q) x∧J pre wr∧Below w0.heap.size w0 wr∧W.heap.size<wr.heap.size∧Bk wr BG 74 #[.pointer (some ⟨G,0,none⟩)] ∧ Bk wr BL 81 (lbA x)∧Bk wr CB 104 (ctA c) ∧ ∀cs,Bk w4 w2.heap.size 142 cs→Bk wr w2.heap.size 142 cs) (fun _ _ _ i _=>L.length - (intOf i).toNat)
    case atStart=>exact ⟨0,pre,Nat.zero_le _,rfl,HMV2.out,HJ4.out,HB4.out,HZ4.out,HG4.out,HL4.out,HC4.out,fun _ h=>h⟩
    case round =>
     obtain ⟨m,pre2,hm,rfl,hpre2,hJ2,hb2,hz2,hg2,hl2,hc2,hs2⟩:=hrel;have HP2:=Lib.hid hpre2;have HJ2:=Lib.hid hJ2;have HB2:=Lib.hid hb2;have HZ2:=Lib.hid hz2;have HG2:=Lib.hid hg2;have HL2:=Lib.hid hl2;have HC2:=Lib.hid hc2;have HS2:=Lib.hid hs2;clear hpre2 hJ2 hb2 hz2 hg2 hl2 hc2 hs2 HJ4 HB4 HZ4 HG4 HL4 HC4 HMV2
     by_cases hlm:m<L.length
     ·obtain ⟨bs,os,rfl,hr⟩:=(HS7.out wr HB2.out HS2.out).one (by omega)
      obtain ⟨s,hs⟩:∃s,L[m]? = some s:=⟨_,List.getElem?_eq_getElem hlm⟩;have hrg:wr.rangeAt bs (os+m * 2) (spE.f s):=hr m s hs;have c0:=Tp.rgSp hrg;have hsb:=HRL.out s (List.mem_of_getElem? hs);have HDR:Hid (pre2 ++ (mvOf (grf t q) x k c s ++ ((L.drop (m+1)).flatMap (mvOf (grf t q) x k c) ++ Xal (grf t q) x (k+1) (t.p.c.drop (k+1))))=Xag (grf t q) x):=by
       obtain ⟨h1,h2⟩:=List.getElem?_eq_some_iff.1 hs;have h:=HP2.out;rw[List.drop_eq_getElem_cons h1,h2,List.flatMap_cons,List.append_assoc] at h;exact h
      have hm0:(0:Int)≤(m:Int):=by omega
      have hm1:(m:Int)<(L.length:Int):=by omega
      obtain ⟨_,_,rfl,rfl,-,HBX,HSB⟩:=box1 wr 142 #[.int .i64 s.frm,.int .i64 s.til];have HG5:=Lib.hid (HG2.out.below HBX.out HG2.out.lt);have HL5:=Lib.hid (HL2.out.below HBX.out HL2.out.lt);have HC5:=Lib.hid (HC2.out.below HBX.out HC2.out.lt);have HB5:Hid (Below w0.heap.size w0 (wr.alloc (.cells #[.int .i64 s.frm,.int .i64 s.til] 142))):=HB2.out.trans (HBX.out.mono HB2.out.size);have HZ5:Hid (W.heap.size<(wr.alloc (.cells #[.int .i64 s.frm,.int .i64 s.til] 142)).heap.size):=by have:=HZ2.out; show _<_; simp; omega
      have HJ5:Hid (J pre2 (wr.alloc (.cells #[.int .i64 s.frm,.int .i64 s.til] 142))):=HJA.out _ _ _ none HJ2.out (World.grownBy_alloc _ _ _) (fun r e=>by cases e)
      have HS5:Hid (∀cs,Bk w4 w2.heap.size 142 cs→Bk (wr.alloc (.cells #[.int .i64 s.frm,.int .i64 s.til] 142)) w2.heap.size 142 cs):=fun cs h=>(HS2.out cs h).below HBX.out (HS2.out cs h).lt;have b0:=HG5.out.n0;have l3:=HL5.out.n3;have hmax:0≤max x.time s.frm∧max x.time s.frm≤1099511627776:=by omega
      have HHO:=Lib.hid (Xs2 G t q k c (max x.time s.frm) (wr.alloc (.cells #[.int .i64 s.frm,.int .i64 s.til] 142)) (HG.out.below HB5.out) HC.out hmax);have HMO:Hid (mvOf (grf t q) x k c s=match hopF k c (dur c q.size) (max x.time s.frm) ((Xb6 t).getD k []) with | none => [] | some h=>if mvOk (grf t q) x c s h then [(⟨c.dst,s.frm,s.til,h.arr⟩,h)] else []):=by
       show _=_;unfold mvOf;have e:(grf t q).durs.getD k 0=dur c q.size:=by
        show (t.p.c.map fun c=>dur c q.size).getD k 0=_;rw[List.getD_eq_getElem?_getD,List.getElem?_map,HC.out]
        rfl
       rw[e]
       rfl
      clear HP2 HJ2 HB2 HZ2 HG2 HL2 HC2 HS2 hr hs hrg HBX
      gi_wp2_with fail
      clear b0 l3 c0;generalize hws:(wr.alloc (.cells #[.int .i64 s.frm,.int .i64 s.til] 142))=ws at HSB HG5 HL5 HC5 HB5 HZ5 HJ5 HS5 HHO ⊢;clear hws;generalize hsbk:wr.heap.size=SB at HSB ⊢;clear hsbk;refine ⟨trivial,?_⟩;refine (callsIn_wide.2 HHO.out).mono ?_;rintro e w5 ⟨rfl,hb5⟩;have HCAR:Hid (∀W':World,Below ws.heap.size ws W' → J pre2 W' ∧ Below w0.heap.size w0 W' ∧ W.heap.size<W'.heap.size∧Bk W' BG 74 #[.pointer (some ⟨G,0,none⟩)] ∧ Bk W' BL 81 (lbA x)∧Bk W' CB 104 (ctA c)∧(∀cs,Bk w4 w2.heap.size 142 cs→Bk W' w2.heap.size 142 cs)∧Bk W' SB 142 #[.int .i64 s.frm,.int .i64 s.til]):=fun W' hb =>
       ⟨HJA.out _ _ _ none HJ5.out (grown_below hb none) (fun r e=>by cases e),HB5.out.trans (hb.mono HB5.out.size),by have h1:=hb.size; have h2:=HZ5.out; omega,HG5.out.below hb HG5.out.lt,HL5.out.below hb HL5.out.lt,HC5.out.below hb HC5.out.lt,fun cs h=>(HS5.out cs h).below hb (HS5.out cs h).lt,HSB.out.below hb HSB.out.lt⟩
      have HB6:=Lib.hid hb5;clear hb5 HHO HJ5 HG5 HL5 HC5 HS5 HSB;generalize ho:hopF k c (dur c q.size) (max x.time s.frm) ((Xb6 t).getD k [])=o at HMO ⊢;have HO:=Lib.hid ho;clear ho;cases o with
      | none =>
        have HN:Hid (pre2 ++ ((L.drop (m+1)).flatMap (mvOf (grf t q) x k c) ++ Xal (grf t q) x (k+1) (t.p.c.drop (k+1)))=Xag (grf t q) x):=by
         have h:=HDR.out;rw[HMO.out,List.nil_append] at h;exact h
        clear HDR HMO
        dsimp only[hopV,Option.isSome]
        gi_wp2_with fail
        have HB7:Hid (Below ws.heap.size ws (w5.alloc (.cells #[.int .i64 0,.int .i64 0,.int .i64 0,.int .i64 0] 41))):=HB6.out.alloc HB6.out.size _;generalize (w5.alloc (.cells #[.int .i64 0,.int .i64 0,.int .i64 0,.int .i64 0] 41))=w7 at HB7 ⊢;refine wpIn_wide.2 ?_;go_quiet (fail)
        gi_wp2
        go_roundw
        case rel =>
         obtain ⟨q1,q2,q3,q4,q5,q6,q7,_⟩:=HCAR.out (w7.drewN nq) (Xa4 HB7.out _);exact ⟨m+1,pre2,by omega,by go_num,HN.out,q1,q2,q3,q4,q5,q6,q7⟩
        case measure=>simp[intOf]; omega
      | some h =>
        obtain ⟨sg,hsg,hs1,hs2,hs3,hs4⟩:=Xe5 HO.out;have hgb:=Xtq HIN.out.tok HC.out sg hsg;have hdb:=Xdw hcok.1 HIN.out.qok.2.2.2.2.1.1;have hfb:0≤h.fin∧h.fin≤1099511627776:=by
         have e:h.fin=h.beg+dur c q.size:=by rw[hs4]
         omega
        have hik:h.ct=(k:Int):=by rw[hs4]
        have HLV:Hid (∀w',Below (w5.alloc (.cells #[.int .i64 h.ct,.int .i64 h.beg,.int .i64 h.fin,.int .i64 h.arr] 41)).heap.size (w5.alloc (.cells #[.int .i64 h.ct,.int .i64 h.beg,.int .i64 h.fin,.int .i64 h.arr] 41)) w' → Calls Tryz.prog 75 #[.pointer (some ⟨G,0,none⟩),.agg #[.int .i64 h.ct,.int .i64 h.beg,.int .i64 h.fin,.int .i64 h.arr]] w' fun e w'' => e = .returned (.int .i64 (Xav q.cust c h))∧Below w'.heap.size w' w''):=fun w' hb=>Xoq G t q h k c w' (HG.out.below (HB5.out.trans ((Xa (HB6.out.alloc HB6.out.size _) hb).mono HB5.out.size))) HC.out hik hfb;clear hsg hs1 hs2 hs3 hs4 hgb hdb hfb hik;obtain ⟨hct,hbeg,hfin,harr⟩:=h
        dsimp only[hopV,Option.isSome]
        gi_wp2_with fail
        have HB7:Hid (Below ws.heap.size ws (w5.alloc (.cells #[.int .i64 hct,.int .i64 hbeg,.int .i64 hfin,.int .i64 harr] 41))):=HB6.out.alloc HB6.out.size _;have HHX:Hid (Bk (w5.alloc (.cells #[.int .i64 hct,.int .i64 hbeg,.int .i64 hfin,.int .i64 harr] 41)) w5.heap.size 41 #[.int .i64 hct,.int .i64 hbeg,.int .i64 hfin,.int .i64 harr]):=Bk.new _ _ _;generalize (w5.alloc (.cells #[.int .i64 hct,.int .i64 hbeg,.int .i64 hfin,.int .i64 harr] 41))=w7 at HB7 HHX HLV ⊢;generalize w5.heap.size=HB at HHX ⊢;have HD:Hid (∀w',Below w7.heap.size w7 w' → ((w'.cell? ⟨BG,0,none⟩=some (.pointer (some ⟨G,0,none⟩))∧w'.cell? ⟨BL,2,none⟩=some (.int .i64 x.til))∧(w'.cell? ⟨HB,0,none⟩=some (.int .i64 hct)∧w'.cell? ⟨HB,1,none⟩=some (.int .i64 hbeg)∧w'.cell? ⟨HB,2,none⟩=some (.int .i64 hfin)∧w'.cell? ⟨HB,3,none⟩=some (.int .i64 harr))∧(w'.cell? ⟨G,5,none⟩=some (.int .i64 q.dst)∧w'.cell? ⟨G,8,none⟩=some (.int .i64 q.dead))∧w'.cell? ⟨CB,1,none⟩=some (.int .i64 c.dst)∧w'.cell? ⟨SB,1,none⟩=some (.int .i64 s.til))):=fun w' hb=>by
         obtain ⟨q1,q2,q3,q4,q5,q6,q7,q8⟩:=HCAR.out w' (Xa HB7.out hb);have g:=HBK.out.below q2 HBK.out.lt;have hx:=HHX.out.below hb HHX.out.lt;exact ⟨⟨q4.cell 0,q5.cell 2⟩,⟨hx.cell 0,hx.cell 1,hx.cell 2,hx.cell 3⟩,⟨g.cell 5,g.cell 8⟩,q6.cell 1,q8.cell 1⟩
        have HMO2:Hid (mvOf (grf t q) x k c s=if mvOk (grf t q) x c s ⟨hct,hbeg,hfin,harr⟩ then [(⟨c.dst,s.frm,s.til,harr⟩,⟨hct,hbeg,hfin,harr⟩)] else []):=HMO.out
        have HMK0:Hid (mvOk (grf t q) x c s ⟨hct,hbeg,hfin,harr⟩=decide (Xav q.cust c ⟨hct,hbeg,hfin,harr⟩≤x.til∧harr≤q.dead∧(c.dst=q.dst∨harr<s.til))):=rfl;clear HMO HO;generalize Xav q.cust c ⟨hct,hbeg,hfin,harr⟩=lv at HLV HMK0;have HNO:(¬ (lv≤x.til∧harr≤q.dead∧(c.dst=q.dst∨harr<s.til)))→pre2 ++ ((L.drop (m+1)).flatMap (mvOf (grf t q) x k c) ++ Xal (grf t q) x (k+1) (t.p.c.drop (k+1)))=Xag (grf t q) x:=fun hn=>by
         have h:=HDR.out;rw[HMO2.out,HMK0.out,if_neg (by simpa using hn),List.nil_append] at h
         exact h
        have HNO2:=Lib.hid HNO;clear HNO
        by_cases h1:x.til<lv
        ·have d1:decide (x.til<lv)=true:=by simpa using h1
         have HN:Hid (pre2 ++ ((L.drop (m+1)).flatMap (mvOf (grf t q) x k c) ++ Xal (grf t q) x (k+1) (t.p.c.drop (k+1)))=Xag (grf t q) x):=HNO2.out (by rintro ⟨a1,a2,a3⟩; omega)
         refine wpIn_wide.2 ?_;refine wp_region_held_drew (S:=fun w' => ((w'.cell? ⟨BG,0,none⟩=some (.pointer (some ⟨G,0,none⟩))∧w'.cell? ⟨BL,2,none⟩=some (.int .i64 x.til))∧(w'.cell? ⟨HB,0,none⟩=some (.int .i64 hct)∧w'.cell? ⟨HB,1,none⟩=some (.int .i64 hbeg)∧w'.cell? ⟨HB,2,none⟩=some (.int .i64 hfin)∧w'.cell? ⟨HB,3,none⟩=some (.int .i64 harr))∧(w'.cell? ⟨G,5,none⟩=some (.int .i64 q.dst)∧w'.cell? ⟨G,8,none⟩=some (.int .i64 q.dead))∧w'.cell? ⟨CB,1,none⟩=some (.int .i64 c.dst)∧w'.cell? ⟨SB,1,none⟩=some (.int .i64 s.til))∧Hid (Below w7.heap.size w7 w')) (by kernel_rfl) (Xa7 HD (Below.refl _ _).drew) (fun hHeld=>?_)
         refine tkL 0 _ ?_;refine tkL 1 _ ?_;refine tkL 2 _ ?_;refine tkL 3 _ ?_;refine tkL 4 _ ?_;refine tkL 6 _ ?_;refine tkL 7 _ ?_;refine Xat (i:=5) rfl (by kernel_rfl) (by rfl) (fun K hK=>?_)
         go_simp;refine (HLV.out _ (Below.refl _ _).drew).mono ?_;rintro e w8 ⟨rfl,hb8⟩;have HBF:Hid (Below w7.heap.size w7 w8):=(Below.refl w7.heap.size w7).drew.trans hb8;have HB8:Hid (Below ws.heap.size ws w8):=Xa HB7.out HBF.out;refine hK _ _ (Xa7 HD HBF.out) (fun hHeld=>?_);clear hK K hb8
         try simp only[PU]
         refine tkL 8 (.bool true) ?_;refine tkL 9 (.bool true) ?_;refine tkL 10 (.bool true) ?_;refine tkL 11 undef ?_ (hy:=.inr ⟨by rfl,rfl⟩)
         refine tkL 12 undef ?_ (hy:=.inr ⟨by rfl,rfl⟩)
         refine tkL 13 undef ?_ (hy:=.inr ⟨by rfl,rfl⟩)
         refine tkL 14 undef ?_ (hy:=.inr ⟨by rfl,rfl⟩)
         refine tkL 15 undef ?_ (hy:=.inr ⟨by rfl,rfl⟩)
         refine tkL 16 undef ?_ (hy:=.inr ⟨by rfl,rfl⟩)
         refine tkL 17 undef ?_ (hy:=.inr ⟨by rfl,rfl⟩)
         refine tkL 18 undef ?_ (hy:=.inr ⟨by rfl,rfl⟩)
         refine tkL 19 (.bool true) ?_;refine tkL 20 (.bool true) ?_;refine tkL 21 undef ?_ (hy:=.inr ⟨by rfl,rfl⟩)
         refine tkL 22 undef ?_ (hy:=.inr ⟨by rfl,rfl⟩)
         refine tkL 23 undef ?_ (hy:=.inr ⟨by rfl,rfl⟩)
         refine tkL 24 undef ?_ (hy:=.inr ⟨by rfl,rfl⟩)
         refine tkL 25 undef ?_ (hy:=.inr ⟨by rfl,rfl⟩)
         refine tkL 26 undef ?_ (hy:=.inr ⟨by rfl,rfl⟩)
         refine tkL 27 undef ?_ (hy:=.inr ⟨by rfl,rfl⟩)
         refine tkL 28 undef ?_ (hy:=.inr ⟨by rfl,rfl⟩)
         refine tkL 29 undef ?_ (hy:=.inr ⟨by rfl,rfl⟩)
         refine tkL 30 undef ?_ (hy:=.inr ⟨by rfl,rfl⟩)
         refine tkL 31 undef ?_ (hy:=.inr ⟨by rfl,rfl⟩)
         refine tkL 32 undef ?_ (hy:=.inr ⟨by rfl,rfl⟩)
         refine tkL 33 undef ?_ (hy:=.inr ⟨by rfl,rfl⟩)
         refine tkL 34 undef ?_ (hy:=.inr ⟨by rfl,rfl⟩)
         refine tkL 35 undef ?_ (hy:=.inr ⟨by rfl,rfl⟩)
         refine tkL 36 (.bool true) ?_;refine wpAnyH_done (by kernel_rfl) ?_ _
         gi_wp2
         go_roundw
         case rel =>
          obtain ⟨q1,q2,q3,q4,q5,q6,q7,_⟩:=HCAR.out w8 HB8.out;exact ⟨m+1,pre2,by omega,by go_num,HN.out,q1,q2,q3,q4,q5,q6,q7⟩
         case measure=>simp[intOf]; omega
        ·have d1:decide (x.til<lv)=false:=by simpa using h1
         have H1:=Lib.hid h1;clear h1
         by_cases h2:q.dead<harr
         ·have d2:decide (q.dead<harr)=true:=by simpa using h2
          have HN:Hid (pre2 ++ ((L.drop (m+1)).flatMap (mvOf (grf t q) x k c) ++ Xal (grf t q) x (k+1) (t.p.c.drop (k+1)))=Xag (grf t q) x):=HNO2.out (by rintro ⟨a1,a2,a3⟩; omega)
          refine wpIn_wide.2 ?_;refine wp_region_held_drew (S:=fun w' => ((w'.cell? ⟨BG,0,none⟩=some (.pointer (some ⟨G,0,none⟩))∧w'.cell? ⟨BL,2,none⟩=some (.int .i64 x.til))∧(w'.cell? ⟨HB,0,none⟩=some (.int .i64 hct)∧w'.cell? ⟨HB,1,none⟩=some (.int .i64 hbeg)∧w'.cell? ⟨HB,2,none⟩=some (.int .i64 hfin)∧w'.cell? ⟨HB,3,none⟩=some (.int .i64 harr))∧(w'.cell? ⟨G,5,none⟩=some (.int .i64 q.dst)∧w'.cell? ⟨G,8,none⟩=some (.int .i64 q.dead))∧w'.cell? ⟨CB,1,none⟩=some (.int .i64 c.dst)∧w'.cell? ⟨SB,1,none⟩=some (.int .i64 s.til))∧Hid (Below w7.heap.size w7 w')) (by kernel_rfl) (Xa7 HD (Below.refl _ _).drew) (fun hHeld=>?_)
          refine tkL 0 _ ?_;refine tkL 1 _ ?_;refine tkL 2 _ ?_;refine tkL 3 _ ?_;refine tkL 4 _ ?_;refine tkL 6 _ ?_;refine tkL 7 _ ?_;refine Xat (i:=5) rfl (by kernel_rfl) (by rfl) (fun K hK=>?_)
          go_simp;refine (HLV.out _ (Below.refl _ _).drew).mono ?_;rintro e w8 ⟨rfl,hb8⟩;have HBF:Hid (Below w7.heap.size w7 w8):=(Below.refl w7.heap.size w7).drew.trans hb8;have HB8:Hid (Below ws.heap.size ws w8):=Xa HB7.out HBF.out;refine hK _ _ (Xa7 HD HBF.out) (fun hHeld=>?_);clear hK K hb8
          try simp only[PU]
          refine tkL 8 (.bool false) ?_;refine tkL 9 (.bool false) ?_;refine tkL 10 (.bool false) ?_;refine tkL 11 _ ?_;refine tkL 12 _ ?_;refine tkL 13 _ ?_;refine tkL 14 _ ?_;refine tkL 15 _ ?_;refine tkL 16 _ ?_;refine tkL 17 _ ?_;refine tkL 18 (.bool true) ?_;refine tkL 19 (.bool true) ?_;refine tkL 20 (.bool true) ?_;refine tkL 21 undef ?_ (hy:=.inr ⟨by rfl,rfl⟩)
          refine tkL 22 undef ?_ (hy:=.inr ⟨by rfl,rfl⟩)
          refine tkL 23 undef ?_ (hy:=.inr ⟨by rfl,rfl⟩)
          refine tkL 24 undef ?_ (hy:=.inr ⟨by rfl,rfl⟩)
          refine tkL 25 undef ?_ (hy:=.inr ⟨by rfl,rfl⟩)
          refine tkL 26 undef ?_ (hy:=.inr ⟨by rfl,rfl⟩)
          refine tkL 27 undef ?_ (hy:=.inr ⟨by rfl,rfl⟩)
          refine tkL 28 undef ?_ (hy:=.inr ⟨by rfl,rfl⟩)
          refine tkL 29 undef ?_ (hy:=.inr ⟨by rfl,rfl⟩)
          refine tkL 30 undef ?_ (hy:=.inr ⟨by rfl,rfl⟩)
          refine tkL 31 undef ?_ (hy:=.inr ⟨by rfl,rfl⟩)
          refine tkL 32 undef ?_ (hy:=.inr ⟨by rfl,rfl⟩)
          refine tkL 33 undef ?_ (hy:=.inr ⟨by rfl,rfl⟩)
          refine tkL 34 undef ?_ (hy:=.inr ⟨by rfl,rfl⟩)
          refine tkL 35 undef ?_ (hy:=.inr ⟨by rfl,rfl⟩)
          refine tkL 36 (.bool true) ?_;refine wpAnyH_done (by kernel_rfl) ?_ _
          gi_wp2
          go_roundw
          case rel =>
           obtain ⟨q1,q2,q3,q4,q5,q6,q7,_⟩:=HCAR.out w8 HB8.out;exact ⟨m+1,pre2,by omega,by go_num,HN.out,q1,q2,q3,q4,q5,q6,q7⟩
          case measure=>simp[intOf]; omega
         ·have d2:decide (q.dead<harr)=false:=by simpa using h2
          have H2:=Lib.hid h2;clear h2
          by_cases h3:c.dst=q.dst
          ·have d3:(c.dst != q.dst)=false:=by simpa using h3
           have d4:(c.dst == q.dst)=true:=by simpa using h3
           have HYP:Hid (pre2 ++ [(⟨c.dst,s.frm,s.til,harr⟩,⟨hct,hbeg,hfin,harr⟩)] ++ ((L.drop (m+1)).flatMap (mvOf (grf t q) x k c) ++ Xal (grf t q) x (k+1) (t.p.c.drop (k+1)))=Xag (grf t q) x):=by
            have h:=HDR.out;rw[HMO2.out,HMK0.out,if_pos (by rw[decide_eq_true_eq]; exact ⟨by have:=H1.out; omega,by have:=H2.out; omega,.inl h3⟩)] at h
            show _=_;rw[List.append_assoc];exact h
           clear h3;refine wpIn_wide.2 ?_;refine wp_region_held_drew (S:=fun w' => ((w'.cell? ⟨BG,0,none⟩=some (.pointer (some ⟨G,0,none⟩))∧w'.cell? ⟨BL,2,none⟩=some (.int .i64 x.til))∧(w'.cell? ⟨HB,0,none⟩=some (.int .i64 hct)∧w'.cell? ⟨HB,1,none⟩=some (.int .i64 hbeg)∧w'.cell? ⟨HB,2,none⟩=some (.int .i64 hfin)∧w'.cell? ⟨HB,3,none⟩=some (.int .i64 harr))∧(w'.cell? ⟨G,5,none⟩=some (.int .i64 q.dst)∧w'.cell? ⟨G,8,none⟩=some (.int .i64 q.dead))∧w'.cell? ⟨CB,1,none⟩=some (.int .i64 c.dst)∧w'.cell? ⟨SB,1,none⟩=some (.int .i64 s.til))∧Hid (Below w7.heap.size w7 w')) (by kernel_rfl) (Xa7 HD (Below.refl _ _).drew) (fun hHeld=>?_)
           refine tkL 0 _ ?_;refine tkL 1 _ ?_;refine tkL 2 _ ?_;refine tkL 3 _ ?_;refine tkL 4 _ ?_;refine tkL 6 _ ?_;refine tkL 7 _ ?_;refine Xat (i:=5) rfl (by kernel_rfl) (by rfl) (fun K hK=>?_)
           go_simp;refine (HLV.out _ (Below.refl _ _).drew).mono ?_;rintro e w8 ⟨rfl,hb8⟩;have HBF:Hid (Below w7.heap.size w7 w8):=(Below.refl w7.heap.size w7).drew.trans hb8;have HB8:Hid (Below ws.heap.size ws w8):=Xa HB7.out HBF.out;refine hK _ _ (Xa7 HD HBF.out) (fun hHeld=>?_);clear hK K hb8
           try simp only[PU]
           refine tkL 8 (.bool false) ?_;refine tkL 9 (.bool false) ?_;refine tkL 10 (.bool false) ?_;refine tkL 11 _ ?_;refine tkL 12 _ ?_;refine tkL 13 _ ?_;refine tkL 14 _ ?_;refine tkL 15 _ ?_;refine tkL 16 _ ?_;refine tkL 17 _ ?_;refine tkL 18 (.bool false) ?_;refine tkL 19 (.bool false) ?_;refine tkL 20 (.bool false) ?_;refine tkL 21 _ ?_;refine tkL 22 (.int .i64 c.dst) ?_;refine tkL 23 _ ?_;refine tkL 24 _ ?_;refine tkL 25 _ ?_;refine tkL 26 _ ?_;refine tkL 27 (.int .i64 q.dst) ?_;refine tkL 28 (.bool false) ?_;refine tkL 29 (.bool false) ?_;refine tkL 30 undef ?_ (hy:=.inr ⟨by rfl,rfl⟩)
           refine tkL 31 undef ?_ (hy:=.inr ⟨by rfl,rfl⟩)
           refine tkL 32 undef ?_ (hy:=.inr ⟨by rfl,rfl⟩)
           refine tkL 33 undef ?_ (hy:=.inr ⟨by rfl,rfl⟩)
           refine tkL 34 undef ?_ (hy:=.inr ⟨by rfl,rfl⟩)
           refine tkL 35 (.bool false) ?_;refine tkL 36 (.bool false) ?_;refine wpAnyH_done (by kernel_rfl) ?_ _
           clear hHeld;obtain ⟨q1,q2,q3,q4,q5,q6,q7,q8⟩:=HCAR.out w8 HB8.out;have HPX:Hid (pre2 ++ [(⟨c.dst,s.frm,s.til,harr⟩,⟨hct,hbeg,hfin,harr⟩)] <+: Xag (grf t q) x):=⟨_,HYP.out⟩;obtain ⟨fn,tmps,assign,body,hy,hR⟩:=HY.out pre2 (⟨c.dst,s.frm,s.til,harr⟩,⟨hct,hbeg,hfin,harr⟩) w8 q1 HPX.out q3 (by have h1:=HPX.out.length_le; rw[List.length_append] at h1; have h2:=HNL.out; omega)
           dsimp only[mvV] at hy
           have hX8:=HHX.out.below HBF.out HHX.out.lt;have r1:=q6.n1;have r2:=q8.c2;have r4:=hX8.c4;have HQ:=Lib.hid (And.intro q2 (And.intro q3 (And.intro q4 (And.intro q5 (And.intro q6 q7)))));clear q1 q2 q3 q4 q5 q6 q7 q8 hX8 HD HDR HMO2 HMK0 HNO2
           gi_wp2_with fail
           refine hR.mono ?_;clear hR hy r1 r2 r4 d3 d4;rintro e W3 (⟨rfl,hJ3,hk3⟩ | ⟨rfl,hJx3⟩)
           ·have HR3:Hid (J (pre2 ++ [(⟨c.dst,s.frm,s.til,harr⟩,⟨hct,hbeg,hfin,harr⟩)]) W3∧Below w0.heap.size w0 W3∧W.heap.size<W3.heap.size∧Bk W3 BG 74 #[.pointer (some ⟨G,0,none⟩)] ∧ Bk W3 BL 81 (lbA x)∧Bk W3 CB 104 (ctA c) ∧ ∀cs,Bk w4 w2.heap.size 142 cs→Bk W3 w2.heap.size 142 cs):=by
             obtain ⟨q2,q3,q4,q5,q6,q7⟩:=HQ.out;exact ⟨hJ3,q2.trans hk3.1,by have:=hk3.1.size; omega,hk3.2.2 _ _ _ (.inl rfl) q4,hk3.2.2 _ _ _ (.inr rfl) q5,hk3.2.1 _ _ _ (.inl rfl) q6,fun cs h=>hk3.2.1 _ _ _ (.inr (.inl rfl)) (q7 cs h)⟩
            clear hJ3 hk3
            gi_wp2
            go_roundw
            case rel =>
             obtain ⟨q1,q2,q3,q4,q5,q6,q7⟩:=HR3.out;exact ⟨m+1,_,by omega,by go_num,HYP.out,q1,q2,q3,q4,q5,q6,q7⟩
            case measure=>simp[intOf]; omega
           ·gi_wp2
            refine bodyPost_ret (results_none rfl _ _ _) rfl ?_;exact ⟨⟨_,rfl⟩,.inr ⟨_,HPX.out,hJx3⟩⟩
          ·have d3:(c.dst != q.dst)=true:=by simpa using h3
           have d4:(c.dst == q.dst)=false:=by simpa using h3
           have H3:=Lib.hid h3;clear h3
           by_cases h4:s.til≤harr
           ·have d5:decide (s.til≤harr)=true:=by simpa using h4
            have HN:Hid (pre2 ++ ((L.drop (m+1)).flatMap (mvOf (grf t q) x k c) ++ Xal (grf t q) x (k+1) (t.p.c.drop (k+1)))=Xag (grf t q) x):=HNO2.out (by rintro ⟨a1,a2,a3⟩; rcases a3 with a3 | a3; exact H3.out a3; omega)
            refine wpIn_wide.2 ?_;refine wp_region_held_drew (S:=fun w' => ((w'.cell? ⟨BG,0,none⟩=some (.pointer (some ⟨G,0,none⟩))∧w'.cell? ⟨BL,2,none⟩=some (.int .i64 x.til))∧(w'.cell? ⟨HB,0,none⟩=some (.int .i64 hct)∧w'.cell? ⟨HB,1,none⟩=some (.int .i64 hbeg)∧w'.cell? ⟨HB,2,none⟩=some (.int .i64 hfin)∧w'.cell? ⟨HB,3,none⟩=some (.int .i64 harr))∧(w'.cell? ⟨G,5,none⟩=some (.int .i64 q.dst)∧w'.cell? ⟨G,8,none⟩=some (.int .i64 q.dead))∧w'.cell? ⟨CB,1,none⟩=some (.int .i64 c.dst)∧w'.cell? ⟨SB,1,none⟩=some (.int .i64 s.til))∧Hid (Below w7.heap.size w7 w')) (by kernel_rfl) (Xa7 HD (Below.refl _ _).drew) (fun hHeld=>?_)
            refine tkL 0 _ ?_;refine tkL 1 _ ?_;refine tkL 2 _ ?_;refine tkL 3 _ ?_;refine tkL 4 _ ?_;refine tkL 6 _ ?_;refine tkL 7 _ ?_;refine Xat (i:=5) rfl (by kernel_rfl) (by rfl) (fun K hK=>?_)
            go_simp;refine (HLV.out _ (Below.refl _ _).drew).mono ?_;rintro e w8 ⟨rfl,hb8⟩;have HBF:Hid (Below w7.heap.size w7 w8):=(Below.refl w7.heap.size w7).drew.trans hb8;have HB8:Hid (Below ws.heap.size ws w8):=Xa HB7.out HBF.out;refine hK _ _ (Xa7 HD HBF.out) (fun hHeld=>?_);clear hK K hb8
            try simp only[PU]
            refine tkL 8 (.bool false) ?_;refine tkL 9 (.bool false) ?_;refine tkL 10 (.bool false) ?_;refine tkL 11 _ ?_;refine tkL 12 _ ?_;refine tkL 13 _ ?_;refine tkL 14 _ ?_;refine tkL 15 _ ?_;refine tkL 16 _ ?_;refine tkL 17 _ ?_;refine tkL 18 (.bool false) ?_;refine tkL 19 (.bool false) ?_;refine tkL 20 (.bool false) ?_;refine tkL 21 _ ?_;refine tkL 22 (.int .i64 c.dst) ?_;refine tkL 23 _ ?_;refine tkL 24 _ ?_;refine tkL 25 _ ?_;refine tkL 26 _ ?_;refine tkL 27 (.int .i64 q.dst) ?_;refine tkL 28 (.bool true) ?_;refine tkL 29 (.bool true) ?_;refine tkL 30 _ ?_;refine tkL 31 _ ?_;refine tkL 32 _ ?_;refine tkL 33 _ ?_;refine tkL 34 (.bool true) ?_;refine tkL 35 (.bool true) ?_;refine tkL 36 (.bool true) ?_;refine wpAnyH_done (by kernel_rfl) ?_ _
            gi_wp2
            go_roundw
            case rel =>
             obtain ⟨q1,q2,q3,q4,q5,q6,q7,_⟩:=HCAR.out w8 HB8.out;exact ⟨m+1,pre2,by omega,by go_num,HN.out,q1,q2,q3,q4,q5,q6,q7⟩
            case measure=>simp[intOf]; omega
           ·have d5:decide (s.til≤harr)=false:=by simpa using h4
            have H4:=Lib.hid h4;clear h4;have HYP:Hid (pre2 ++ [(⟨c.dst,s.frm,s.til,harr⟩,⟨hct,hbeg,hfin,harr⟩)] ++ ((L.drop (m+1)).flatMap (mvOf (grf t q) x k c) ++ Xal (grf t q) x (k+1) (t.p.c.drop (k+1)))=Xag (grf t q) x):=by
             have h:=HDR.out;rw[HMO2.out,HMK0.out,if_pos (by rw[decide_eq_true_eq]; exact ⟨by have:=H1.out; omega,by have:=H2.out; omega,.inr (by have:=H4.out; omega)⟩)] at h
             show _=_;rw[List.append_assoc];exact h
            refine wpIn_wide.2 ?_;refine wp_region_held_drew (S:=fun w' => ((w'.cell? ⟨BG,0,none⟩=some (.pointer (some ⟨G,0,none⟩))∧w'.cell? ⟨BL,2,none⟩=some (.int .i64 x.til))∧(w'.cell? ⟨HB,0,none⟩=some (.int .i64 hct)∧w'.cell? ⟨HB,1,none⟩=some (.int .i64 hbeg)∧w'.cell? ⟨HB,2,none⟩=some (.int .i64 hfin)∧w'.cell? ⟨HB,3,none⟩=some (.int .i64 harr))∧(w'.cell? ⟨G,5,none⟩=some (.int .i64 q.dst)∧w'.cell? ⟨G,8,none⟩=some (.int .i64 q.dead))∧w'.cell? ⟨CB,1,none⟩=some (.int .i64 c.dst)∧w'.cell? ⟨SB,1,none⟩=some (.int .i64 s.til))∧Hid (Below w7.heap.size w7 w')) (by kernel_rfl) (Xa7 HD (Below.refl _ _).drew) (fun hHeld=>?_)
            refine tkL 0 _ ?_;refine tkL 1 _ ?_;refine tkL 2 _ ?_;refine tkL 3 _ ?_;refine tkL 4 _ ?_;refine tkL 6 _ ?_;refine tkL 7 _ ?_;refine Xat (i:=5) rfl (by kernel_rfl) (by rfl) (fun K hK=>?_)
            go_simp;refine (HLV.out _ (Below.refl _ _).drew).mono ?_;rintro e w8 ⟨rfl,hb8⟩;have HBF:Hid (Below w7.heap.size w7 w8):=(Below.refl w7.heap.size w7).drew.trans hb8;have HB8:Hid (Below ws.heap.size ws w8):=Xa HB7.out HBF.out;refine hK _ _ (Xa7 HD HBF.out) (fun hHeld=>?_);clear hK K hb8
            try simp only[PU]
            refine tkL 8 (.bool false) ?_;refine tkL 9 (.bool false) ?_;refine tkL 10 (.bool false) ?_;refine tkL 11 _ ?_;refine tkL 12 _ ?_;refine tkL 13 _ ?_;refine tkL 14 _ ?_;refine tkL 15 _ ?_;refine tkL 16 _ ?_;refine tkL 17 _ ?_;refine tkL 18 (.bool false) ?_;refine tkL 19 (.bool false) ?_;refine tkL 20 (.bool false) ?_;refine tkL 21 _ ?_;refine tkL 22 (.int .i64 c.dst) ?_;refine tkL 23 _ ?_;refine tkL 24 _ ?_;refine tkL 25 _ ?_;refine tkL 26 _ ?_;refine tkL 27 (.int .i64 q.dst) ?_;refine tkL 28 (.bool true) ?_;refine tkL 29 (.bool true) ?_;refine tkL 30 _ ?_;refine tkL 31 _ ?_;refine tkL 32 _ ?_;refine tkL 33 _ ?_;refine tkL 34 (.bool false) ?_;refine tkL 35 (.bool false) ?_;refine tkL 36 (.bool false) ?_;refine wpAnyH_done (by kernel_rfl) ?_ _
            clear hHeld;obtain ⟨q1,q2,q3,q4,q5,q6,q7,q8⟩:=HCAR.out w8 HB8.out;have HPX:Hid (pre2 ++ [(⟨c.dst,s.frm,s.til,harr⟩,⟨hct,hbeg,hfin,harr⟩)] <+: Xag (grf t q) x):=⟨_,HYP.out⟩;obtain ⟨fn,tmps,assign,body,hy,hR⟩:=HY.out pre2 (⟨c.dst,s.frm,s.til,harr⟩,⟨hct,hbeg,hfin,harr⟩) w8 q1 HPX.out q3 (by have h1:=HPX.out.length_le; rw[List.length_append] at h1; have h2:=HNL.out; omega)
            dsimp only[mvV] at hy
            have hX8:=HHX.out.below HBF.out HHX.out.lt;have r1:=q6.n1;have r2:=q8.c2;have r4:=hX8.c4;have HQ:=Lib.hid (And.intro q2 (And.intro q3 (And.intro q4 (And.intro q5 (And.intro q6 q7)))));clear q1 q2 q3 q4 q5 q6 q7 q8 hX8 HD HDR HMO2 HMK0 HNO2
            gi_wp2_with fail
            refine hR.mono ?_;clear hR hy r1 r2 r4;rintro e W3 (⟨rfl,hJ3,hk3⟩ | ⟨rfl,hJx3⟩)
            ·have HR3:Hid (J (pre2 ++ [(⟨c.dst,s.frm,s.til,harr⟩,⟨hct,hbeg,hfin,harr⟩)]) W3∧Below w0.heap.size w0 W3∧W.heap.size<W3.heap.size∧Bk W3 BG 74 #[.pointer (some ⟨G,0,none⟩)] ∧ Bk W3 BL 81 (lbA x)∧Bk W3 CB 104 (ctA c) ∧ ∀cs,Bk w4 w2.heap.size 142 cs→Bk W3 w2.heap.size 142 cs):=by
              obtain ⟨q2,q3,q4,q5,q6,q7⟩:=HQ.out;exact ⟨hJ3,q2.trans hk3.1,by have:=hk3.1.size; omega,hk3.2.2 _ _ _ (.inl rfl) q4,hk3.2.2 _ _ _ (.inr rfl) q5,hk3.2.1 _ _ _ (.inl rfl) q6,fun cs h=>hk3.2.1 _ _ _ (.inr (.inl rfl)) (q7 cs h)⟩
             clear hJ3 hk3
             gi_wp2
             go_roundw
             case rel =>
              obtain ⟨q1,q2,q3,q4,q5,q6,q7⟩:=HR3.out;exact ⟨m+1,_,by omega,by go_num,HYP.out,q1,q2,q3,q4,q5,q6,q7⟩
             case measure=>simp[intOf]; omega
            ·gi_wp2
             refine bodyPost_ret (results_none rfl _ _ _) rfl ?_;exact ⟨⟨_,rfl⟩,.inr ⟨_,HPX.out,hJx3⟩⟩
     ·have HF:Hid (pre2 ++ Xal (grf t q) x (k+1) (t.p.c.drop (k+1))=Xag (grf t q) x):=by
       have h:=HP2.out;rw[List.drop_of_length_le (by omega)] at h
       show _=_;simpa using h
      clear HP2
      gi_wp2
      go_roundw
      case rel=>exact ⟨k+1,pre2,by omega,by go_num,HF.out,HJ2.out,HB2.out,Nat.le_of_lt HZ2.out,HG2.out,HL2.out⟩
      case measure=>simp[intOf]; omega
   ·have e1:(c.src == x.node)=false:=by simpa using hsn
    have e2:(c.src != x.node)=true:=by simpa using hsn
    have HCT:Hid (pre ++ Xal (grf t q) x (k+1) (t.p.c.drop (k+1))=Xag (grf t q) x):=by
     have h1:=HMV.out;unfold mvCt at h1;rw[if_neg hsn,List.nil_append] at h1;exact h1
    clear hsn HMV
    gi_wp2
    go_roundw
    case rel=>exact ⟨k+1,pre,by omega,by go_num,HCT.out,HJ3.out,HBW3.out,Nat.le_of_lt HGW3.out,HBG3.out,HBL3.out⟩
    case measure=>simp[intOf]; omega
  ·have HF:Hid (pre=Xag (grf t q) x):=by
    have h1:=HPRE.out;rw[List.drop_of_length_le (by omega)] at h1
    show _=_;simpa[Xal] using h1
   clear HPRE
   gi_wp2
   go_end0;exact ⟨⟨_,rfl⟩,.inl ⟨_,HF.out,HJ.out⟩⟩
theorem Xex (n:Nat)(hn:1≤n)(BG BL G:Nat)(t:Tbl)(q:Rq)(x:Lab)(w0 wS:World)(hWS:Below w0.heap.size w0 wS)(hbg:Bk wS BG 74 #[.pointer (some ⟨G,0,none⟩)])(hbl:Bk wS BL 81 (lbA x))(hg:GAt w0 G t q)(hx:0≤x.time∧x.time≤1099511627776)
  (hN:(Xag (grf t q) x).length<1000000) (hrb:∀(n:Int) (r:Spn),r ∈ Xbb (grf t q) n→0≤r.frm∧r.frm≤1099511627776) :
  Xk6 Fence.wide n Tryz.prog 72 #[.pointer (some ⟨BG,0,none⟩),.pointer (some ⟨BL,0,none⟩)] mvV (KpM w0.heap.size BG BL) (fun xs=>xs=Xag (grf t q) x) (fun pre=>pre <+: Xag (grf t q) x) 1000000 wS:=by
 intro l J Jx W hW hJ _ _ hY h0;exact Xq2 n hn l BG BL G t q x w0 J Jx W (hWS.trans (hW.mono hWS.size)) hJ hY (hbg.below hW hbg.lt) (hbl.below hW hbl.lt) hg hx hN hrb h0
end Go.Proofs.YtebkgbmijocdjaaGreat.Tp
