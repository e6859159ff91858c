/- A part of the proof for the ledger. No condition beyond those that each theorem states. -/
import Derived.Test.YtebkgbmijocdjaaGreatZ11
set_option maxHeartbeats 32000000
set_option maxRecDepth 100000
set_option linter.unusedVariables false
set_option linter.unusedSimpArgs false
namespace Go.Proofs.YtebkgbmijocdjaaGreat.Tp
open Go Go.RowKit
theorem Xo1 (Aq:Option Addr)(cq:Nat)(Ac:Option Addr)(cc:Nat)(B:Option Addr)(cb:Nat)(H:Option Addr)(ch:Nat)(t:Tbl)(w:World)(ht:Xcm w Aq cq Ac cc B cb H ch t)(hok:Xb5 t) :
  Calls Tryz.prog 33 #[.agg (tbA Aq cq Ac cc B cb H ch t)] w fun e w' => e = .returned (.int .i64 0)∧Below w.heap.size w w':=by
 have HT:=Lib.hid ht;have HOK:=Lib.hid hok;have HB0:Hid (Below w.heap.size w (w.alloc (.cells (tbA Aq cq Ac cc B cb H ch t) 29))):=(Below.refl _ _).alloc (Nat.le_refl _) _;have HK:=Lib.hid (Bk.new w 29 (tbA Aq cq Ac cc B cb H ch t));have HC1:=Lib.hid (fun w h=>Xb2 Aq cq Ac cc t.p w h);have HC2:=Lib.hid (fun w h h2=>Xds Aq cq Ac cc t.p B cb t.b w h h2 (by have:=hok.2.1.1; unfold maxLen; omega))
 have HC3:=Lib.hid (fun w h h2=>Xhl Aq cq Ac cc t.p H ch t.h w h h2 ⟨hok.1,hok.2.2⟩);clear ht hok;go_enter Tryz.func33,Tryz.ntmps33;go_wp2_with fail;generalize w.alloc (.cells (tbA Aq cq Ac cc B cb H ch t) 29)=W at HB0 HK ⊢;generalize w.heap.size=g0 at HK ⊢;refine (HC1.out W (HT.out.p.below HB0.out)).mono ?_;rintro e w1 ⟨q,rfl,hq,hb1⟩;obtain rfl:q=0:=hq.2 HOK.out.1;have HB1:=Lib.hid (Xa HB0.out hb1);have HK1:=Lib.hid (HK.out.below hb1 HK.out.lt);have t0:=HK1.out.c3;clear hq hb1 HB0 HK HC1;go_wp2_with fail;refine (HC2.out w1 (HT.out.p.below HB1.out) (HT.out.b.below HB1.out)).mono ?_;rintro e w2 ⟨q,rfl,hq,hb2⟩;obtain rfl:q=0:=hq.2 ⟨HOK.out.1,HOK.out.2.1⟩;have HB2:=Lib.hid (Xa HB1.out hb2);have HK2:=Lib.hid (HK1.out.below hb2 HK1.out.lt);clear t0;have t0:=HK2.out.c2;have t3:=HK2.out.n3;clear hq hb2 HB1 HK1 HC2;go_wp2_with fail;refine (HC3.out w2 (HT.out.p.below HB2.out) (HT.out.h.below HB2.out)).mono ?_;rintro e w3 ⟨rfl,hb3⟩;have HB3:=Lib.hid (Xa HB2.out hb3);clear hb3 t0 t3;go_wp2;go_ret;exact ⟨rfl,HB3.out⟩
theorem Xtn (Aq:Option Addr)(cq:Nat)(Ac:Option Addr)(cc:Nat)(p:Pln)(q:Rq)(i:Nat)(c:Ct)(b:Int)(w:World)(hp:Xas w Aq cq Ac cc p)(hq:RqOK p q)(hc:p.c[i]? = some c)(hb:c.beg≤b∧b≤c.fin - dur c q.size) :
  Calls Tryz.prog 102 #[.agg (plA Aq cq Ac cc p),.agg (rqA q),.int .i64 i,.int .i64 b] w fun e w' => e = .returned (.agg #[.int .i64 i,.int .i64 b,.int .i64 (b+dur c q.size),.int .i64 (b+dur c q.size+c.rng)])∧Below w.heap.size w w':=by
 have hct:=(hq.1.2.2.1 c (List.mem_of_getElem? hc));have hil:i<p.c.length:=(List.getElem?_eq_some_iff.1 hc).1;have hd:=Xdw hct.1 hq.2.2.2.2.1.1;have hcf:0≤c.beg∧c.fin≤1099511627776∧1≤c.rng∧c.rng≤1048576:=by
  have:=hct.1;unfold CtOK at this;omega
 have HB0:Hid (Below w.heap.size w ((w.alloc (.cells (plA Aq cq Ac cc p) 25)).alloc (.cells (rqA q) 31))):=((Below.refl _ _).alloc (Nat.le_refl _) _).alloc (by simp) _
 have HDU:=Lib.hid (fun w=>Xfs c hct.1 q.size hq.2.2.2.2.1 w);obtain ⟨bc,oc,rfl,hr⟩:=hp.c.one (by omega)
 have hm:=hp.cm;unfold maxLen at hm;have hra:((w.alloc (.cells #[.slice Aq p.q.length cq,.slice (some ⟨bc,oc,none⟩) p.c.length cc] 25)).alloc (.cells (rqA q) 31)).rangeAt bc (oc+i * 7) (ctE.f c):=Xa3 (hr i c hc) HB0.out;clear hr;have hrg:(((w.alloc (.cells #[.slice Aq p.q.length cq,.slice (some ⟨bc,oc,none⟩) p.c.length cc] 25)).alloc (.cells (rqA q) 31)).alloc (.cells #[.int .i64 0,.int .i64 0,.int .i64 0,.int .i64 0] 41)).rangeAt bc (oc+i * 7) (ctE.f c):=Xa3 hra ((Below.refl _ _).alloc (Nat.le_refl _) _);have c0:=Tp.rgCt hrg;have hi0:(0:Int)≤(i:Int):=by omega
 have hi1:(i:Int)<(p.c.length:Int):=by omega
 clear hp hc hra hrg hct;go_enter Tryz.func102,Tryz.ntmps102;go_wp2_with fail;obtain ⟨_,_,rfl,rfl,-,HBW,-,-,HR2,HC2⟩:=box4 w 25 #[.slice Aq p.q.length cq,.slice (some ⟨bc,oc,none⟩) p.c.length cc] 31 (rqA q) 41 #[.int .i64 0,.int .i64 0,.int .i64 0,.int .i64 0] 104 (ctA c);generalize (((w.alloc (.cells #[.slice Aq p.q.length cq,.slice (some ⟨bc,oc,none⟩) p.c.length cc] 25)).alloc (.cells (rqA q) 31)).alloc (.cells #[.int .i64 0,.int .i64 0,.int .i64 0,.int .i64 0] 41)).alloc (.cells (ctA c) 104)=W at HBW HR2 HC2 ⊢;clear c0 HB0;refine (HDU.out W).mono ?_;rintro e w1 ⟨rfl,hb1⟩;have HB1:=Lib.hid (Xa HBW.out hb1);have HR1:=Lib.hid (HR2.out.below hb1 HR2.out.lt);have HC1:=Lib.hid (HC2.out.below hb1 HC2.out.lt);have r0:=HR1.out.c4;have f0:=HR1.out.f4;have k5:=HC1.out.n5;clear hb1 HBW HR2 HC2 HDU;go_wp2;have HF:Bk ((((w1.setCell ⟨w.heap.size+1+1,0,none⟩ (.int .i64 (i:Int))).setCell ⟨w.heap.size+1+1,1,none⟩ (.int .i64 b)).setCell ⟨w.heap.size+1+1,2,none⟩ (.int .i64 (b+dur c q.size))).setCell ⟨w.heap.size+1+1,3,none⟩ (.int .i64 (b+dur c q.size+c.rng))) (w.heap.size+1+1) 41 #[.int .i64 (i:Int),.int .i64 b,.int .i64 (b+dur c q.size),.int .i64 (b+dur c q.size+c.rng)]:=(((HR1.out.put 0 _).put 1 _).put 2 _).put 3 _;have HBF:Below w.heap.size w ((((w1.setCell ⟨w.heap.size+1+1,0,none⟩ (.int .i64 (i:Int))).setCell ⟨w.heap.size+1+1,1,none⟩ (.int .i64 b)).setCell ⟨w.heap.size+1+1,2,none⟩ (.int .i64 (b+dur c q.size))).setCell ⟨w.heap.size+1+1,3,none⟩ (.int .i64 (b+dur c q.size+c.rng))) :=
  (((HB1.out.setCell (p:=⟨w.heap.size+1+1,0,none⟩) (by show w.heap.size≤w.heap.size+1+1; omega) _).setCell (p:=⟨w.heap.size+1+1,1,none⟩) (by show w.heap.size≤w.heap.size+1+1; omega) _).setCell (p:=⟨w.heap.size+1+1,2,none⟩) (by show w.heap.size≤w.heap.size+1+1; omega) _).setCell (p:=⟨w.heap.size+1+1,3,none⟩) (by show w.heap.size≤w.heap.size+1+1; omega) _
 have g0:=HF.cell 0;have g1:=HF.cell 1;have g2:=HF.cell 2;have g3:=HF.cell 3;simp only[List.getElem?_toArray,List.getElem?_cons_zero,List.getElem?_cons_succ] at g0 g1 g2 g3;generalize (((w1.setCell ⟨w.heap.size+1+1,0,none⟩ (.int .i64 (i:Int))).setCell ⟨w.heap.size+1+1,1,none⟩ (.int .i64 b)).setCell ⟨w.heap.size+1+1,2,none⟩ (.int .i64 (b+dur c q.size))).setCell ⟨w.heap.size+1+1,3,none⟩ (.int .i64 (b+dur c q.size+c.rng))=WF at HF HBF g0 g1 g2 g3 ⊢;clear r0 f0 k5;exact bodyPost_ret (v:=.agg #[.int .i64 (i:Int),.int .i64 b,.int .i64 (b+dur c q.size),.int .i64 (b+dur c q.size+c.rng)]) (by simp[results,Tryz.results102,go_sem,g0,g1,g2,g3]) rfl ⟨rfl,HBF⟩
def Xc2 (p:Pln)(q:Rq)(n a:Int)(h:Hop):Prop:=∃c,(0≤h.ct∧p.c[h.ct.toNat]? = some c)∧c.src=n∧n ≠ q.dst∧a≤h.beg∧c.beg≤h.beg∧h.beg≤c.fin - dur c q.size∧h=⟨h.ct,h.beg,h.beg+dur c q.size,h.beg+dur c q.size+c.rng⟩
def Xn3 (P:Prop)(w:World)(e:Ending)(w':World):Prop:=∃q:Int,e = .returned (.int .i64 q)∧(q=0↔P)∧q ≠ 18∧Below w.heap.size w w'
theorem Xm9 {P:Prop}{w w':World}(h:P)(hb:Below w.heap.size w w'):Xn3 P w (.returned (.int .i64 0)) w':=⟨0,rfl,⟨fun _=>h,fun _=>rfl⟩,by decide,hb⟩
theorem Xbs {P:Prop}{w w':World}{q:Int}(hq:q ≠ 0)(hq':q ≠ 18)(h:¬ P)(hb:Below w.heap.size w w'):Xn3 P w (.returned (.int .i64 q)) w':=⟨q,rfl,⟨fun c=>absurd c hq,fun c=>absurd c h⟩,hq',hb⟩
theorem Xk (Aq:Option Addr)(cq:Nat)(Ac:Option Addr)(cc:Nat)(p:Pln)(q:Rq)(n a:Int)(h:Hop)(w:World)(hp:Xas w Aq cq Ac cc p)(hq:RqOK p q) :
  Calls Tryz.prog 79 #[.agg (plA Aq cq Ac cc p),.agg (rqA q),.agg #[.int .i64 n,.int .i64 a],.agg #[.int .i64 h.ct,.int .i64 h.beg,.int .i64 h.fin,.int .i64 h.arr]] w (Xn3 (Xc2 p q n a h) w):=by
 have HP:=Lib.hid hp;have HQ:=Lib.hid hq;have hm:=hp.cm;unfold maxLen at hm;obtain ⟨_,_,rfl,rfl,-,HB0,HK0,HK1,HK2,HK3⟩:=box4 w 25 (plA Aq cq Ac cc p) 31 (rqA q) 158 #[.int .i64 n,.int .i64 a] 41 #[.int .i64 h.ct,.int .i64 h.beg,.int .i64 h.fin,.int .i64 h.arr];have HW4:Hid (((((w.alloc (.cells (plA Aq cq Ac cc p) 25)).alloc (.cells (rqA q) 31)).alloc (.cells #[.int .i64 n,.int .i64 a] 158)).alloc (.cells #[.int .i64 h.ct,.int .i64 h.beg,.int .i64 h.fin,.int .i64 h.arr] 41)).heap.size=w.heap.size+4):=by show _=_; simp
 clear hp hq
 by_cases hneg:h.ct<0
 ·have HN:Hid (¬ Xc2 p q n a h):=fun ⟨c,hc,_⟩=>by omega
  go_enter Tryz.func79,Tryz.ntmps79;go_wp2;go_ret;exact Xbs (by decide) (by decide) HN.out HB0.out
 ·obtain ⟨m,hm'⟩:∃m:Nat,h.ct=(m:Int):=⟨h.ct.toNat,by omega⟩
  by_cases hge:m<p.c.length
  ·obtain ⟨c,hc⟩:∃c,p.c[m]? = some c:=⟨_,List.getElem?_eq_getElem hge⟩;have hct:=(HQ.out.1.2.2.1 c (List.mem_of_getElem? hc)).1;have hd:=Xdw hct HQ.out.2.2.2.2.1.1;have hcf:0≤c.beg∧c.fin≤1099511627776∧1≤c.rng∧c.rng≤1048576:=by
    have:=hct;unfold CtOK at this;omega
   have HSO:Hid (Xc2 p q n a h↔c.src=n∧n ≠ q.dst∧a≤h.beg∧(c.beg≤h.beg∧h.beg≤c.fin - dur c q.size)∧h.fin=h.beg+dur c q.size∧h.arr=h.beg+dur c q.size+c.rng):=by
    show _↔_;constructor
    ·rintro ⟨c',⟨_,h2⟩,h3,h4,h5,h6,h7,h8⟩;rw[hm',Int.toNat_natCast,hc] at h2;cases h2;exact ⟨h3,h4,h5,⟨h6,h7⟩,by rw[h8],by rw[h8]⟩
    ·rintro ⟨h3,h4,h5,⟨h6,h7⟩,h8,h9⟩;refine ⟨c,⟨by omega,by rw[hm',Int.toNat_natCast]; exact hc⟩,h3,h4,h5,h6,h7,?_⟩
     rw[←h9, ←h8]
   have HOP:=Lib.hid (fun b w hp hb=>Xtn Aq cq Ac cc p q m c b w hp HQ.out hc hb);have HFT:=Lib.hid (fun w=>Xqu c h.beg q.size w);have HHC:=Lib.hid hc;have HCT:=Lib.hid hct;obtain ⟨bc,oc,rfl,hr⟩:=(HP.out.below HB0.out).c.one (by omega)
   have hrg:=hr m c hc;have HXG:=Lib.hid hrg;have e0:=HK0.out.cell 0;have e1:=HK0.out.cell 1;have f0:=HK3.out.cell 0;have f1:=HK3.out.cell 1;have n0:=HK2.out.cell 0;have n1:=HK2.out.cell 1;have q1:=HK1.out.cell 1;have q2:=HK1.out.cell 2;clear hc hct hr hneg;obtain ⟨hct,hbeg,hfin,harr⟩:=h;simp only at hm' HSO HFT;subst hm';have hi0:(0:Int)≤(m:Int):=by omega
   have hi1:(m:Int)<(p.c.length:Int):=by omega
   have c0:((((w.alloc (.cells #[.slice Aq p.q.length cq,.slice (some ⟨bc,oc,none⟩) p.c.length cc] 25)).alloc (.cells (rqA q) 31)).alloc (.cells #[.int .i64 n,.int .i64 a] 158)).alloc (.cells #[.int .i64 m,.int .i64 hbeg,.int .i64 hfin,.int .i64 harr] 41)).cell? ⟨bc,oc+m * 7,none⟩=some (.int .i64 c.src):=hrg 0 _ rfl;have c1:((((w.alloc (.cells #[.slice Aq p.q.length cq,.slice (some ⟨bc,oc,none⟩) p.c.length cc] 25)).alloc (.cells (rqA q) 31)).alloc (.cells #[.int .i64 n,.int .i64 a] 158)).alloc (.cells #[.int .i64 m,.int .i64 hbeg,.int .i64 hfin,.int .i64 harr] 41)).cell? ⟨bc,oc+m * 7+1,none⟩=some (.int .i64 c.dst):=hrg 1 _ rfl;have c2:((((w.alloc (.cells #[.slice Aq p.q.length cq,.slice (some ⟨bc,oc,none⟩) p.c.length cc] 25)).alloc (.cells (rqA q) 31)).alloc (.cells #[.int .i64 n,.int .i64 a] 158)).alloc (.cells #[.int .i64 m,.int .i64 hbeg,.int .i64 hfin,.int .i64 harr] 41)).cell? ⟨bc,oc+m * 7+2,none⟩=some (.int .i64 c.beg):=hrg 2 _ rfl;have c3:((((w.alloc (.cells #[.slice Aq p.q.length cq,.slice (some ⟨bc,oc,none⟩) p.c.length cc] 25)).alloc (.cells (rqA q) 31)).alloc (.cells #[.int .i64 n,.int .i64 a] 158)).alloc (.cells #[.int .i64 m,.int .i64 hbeg,.int .i64 hfin,.int .i64 harr] 41)).cell? ⟨bc,oc+m * 7+3,none⟩=some (.int .i64 c.fin):=hrg 3 _ rfl;have c4:((((w.alloc (.cells #[.slice Aq p.q.length cq,.slice (some ⟨bc,oc,none⟩) p.c.length cc] 25)).alloc (.cells (rqA q) 31)).alloc (.cells #[.int .i64 n,.int .i64 a] 158)).alloc (.cells #[.int .i64 m,.int .i64 hbeg,.int .i64 hfin,.int .i64 harr] 41)).cell? ⟨bc,oc+m * 7+4,none⟩=some (.int .i64 c.rate):=hrg 4 _ rfl
   have c5:((((w.alloc (.cells #[.slice Aq p.q.length cq,.slice (some ⟨bc,oc,none⟩) p.c.length cc] 25)).alloc (.cells (rqA q) 31)).alloc (.cells #[.int .i64 n,.int .i64 a] 158)).alloc (.cells #[.int .i64 m,.int .i64 hbeg,.int .i64 hfin,.int .i64 harr] 41)).cell? ⟨bc,oc+m * 7+5,none⟩=some (.int .i64 c.rng):=hrg 5 _ rfl;have c6:((((w.alloc (.cells #[.slice Aq p.q.length cq,.slice (some ⟨bc,oc,none⟩) p.c.length cc] 25)).alloc (.cells (rqA q) 31)).alloc (.cells #[.int .i64 n,.int .i64 a] 158)).alloc (.cells #[.int .i64 m,.int .i64 hbeg,.int .i64 hfin,.int .i64 harr] 41)).cell? ⟨bc,oc+m * 7+6,none⟩=some (.int .i64 c.loss):=hrg 6 _ rfl;clear hrg;generalize Xc2 p q n a _=SO at HSO ⊢
   by_cases hcn:c.src=n
   ·have HCN:=Lib.hid hcn;have b1:(c.src == n)=true:=by simpa using hcn
    have b2:(c.src != n)=false:=by simpa using hcn
    clear hcn
    by_cases hnd:n=q.dst
    ·have HN:Hid (¬ SO):=fun h=>(HSO.out.1 h).2.1 hnd;have b3:(n == q.dst)=true:=by simpa using hnd
     clear hnd;go_enter Tryz.func79,Tryz.ntmps79;go_wp2;go_ret;exact Xbs (by decide) (by decide) HN.out (HB0.out.alloc HB0.out.size _)
    ·have HND:=Lib.hid hnd;have b3:(n == q.dst)=false:=by simpa using hnd
     clear hnd
     by_cases hba:hbeg<a
     ·have HN:Hid (¬ SO):=fun h=>by have:=(HSO.out.1 h).2.2.1; omega
      have n1':((((((w.alloc (.cells #[.slice Aq p.q.length cq,.slice (some ⟨bc,oc,none⟩) p.c.length cc] 25)).alloc (.cells (rqA q) 31)).alloc (.cells #[.int .i64 n,.int .i64 a] 158)).alloc (.cells #[.int .i64 m,.int .i64 hbeg,.int .i64 hfin,.int .i64 harr] 41))).alloc (.cells (ctA c) 104)).cell? ⟨w.heap.size+1+1,1,none⟩=some (.int .i64 a):=(HK2.out.alloc _).cell 1;go_enter Tryz.func79,Tryz.ntmps79;go_wp2;go_ret;exact Xbs (by decide) (by decide) HN.out (HB0.out.alloc HB0.out.size _)
     ·go_enter Tryz.func79,Tryz.ntmps79;go_wp2_with fail;have HBW:Hid (Below w.heap.size w (((((w.alloc (.cells #[.slice Aq p.q.length cq,.slice (some ⟨bc,oc,none⟩) p.c.length cc] 25)).alloc (.cells (rqA q) 31)).alloc (.cells #[.int .i64 n,.int .i64 a] 158)).alloc (.cells #[.int .i64 m,.int .i64 hbeg,.int .i64 hfin,.int .i64 harr] 41)).alloc (.cells (ctA c) 104))):=HB0.out.alloc HB0.out.size _;have HL0:=Lib.hid (HK0.out.alloc (.cells (ctA c) 104));have HL1:=Lib.hid (HK1.out.alloc (.cells (ctA c) 104));have HL3:=Lib.hid (HK3.out.alloc (.cells (ctA c) 104));clear e0 e1 f0 f1 n0 n1 q1 q2 c0 c1 c2 c3 c4 c5 c6 HK0 HK1 HK2 HK3 HB0 HXG HW4;generalize (((((w.alloc (.cells #[.slice Aq p.q.length cq,.slice (some ⟨bc,oc,none⟩) p.c.length cc] 25)).alloc (.cells (rqA q) 31)).alloc (.cells #[.int .i64 n,.int .i64 a] 158)).alloc (.cells #[.int .i64 m,.int .i64 hbeg,.int .i64 hfin,.int .i64 harr] 41)).alloc (.cells (ctA c) 104))=W at HBW HL0 HL1 HL3 ⊢;generalize w.heap.size=g0 at HL0 HL1 HL3 ⊢;generalize dur c q.size=d at HSO HOP HFT hd;refine (HFT.out W).mono ?_;rintro e w5 ⟨v,rfl,hv,hb5⟩;have HV:=Lib.hid hv;have HB5:=Lib.hid (Xa HBW.out hb5);have HM0:=Lib.hid (HL0.out.below hb5 HL0.out.lt);have HM1:=Lib.hid (HL1.out.below hb5 HL1.out.lt);have HM3:=Lib.hid (HL3.out.below hb5 HL3.out.lt);clear hv hb5 HBW HL0 HL1 HL3 HFT;cases v with
      | false =>
        have HN:Hid (¬ SO):=fun h=>by
         have h1:=(HSO.out.1 h).2.2.2.1;have:=HV.out.2 ⟨⟨HCT.out,HQ.out.2.2.2.2.1⟩,h1⟩;cases this
        go_wp2;go_ret;exact Xbs (by decide) (by decide) HN.out HB5.out
      | true =>
        have HFB:Hid (c.beg≤hbeg∧hbeg≤c.fin - d):=(HV.out.1 rfl).2;have HD:Hid (∀w',Below w5.heap.size w5 w' → (w'.cell? ⟨g0+1+1+1,0,none⟩=some (.int .i64 (m:Int))∧w'.cell? ⟨g0+1+1+1,1,none⟩=some (.int .i64 hbeg)∧w'.cell? ⟨g0+1+1+1,2,none⟩=some (.int .i64 hfin)∧w'.cell? ⟨g0+1+1+1,3,none⟩=some (.int .i64 harr))∧(w'.cell? ⟨g0,0,none⟩=some (.slice Aq p.q.length cq)∧w'.cell? ⟨g0,1,none⟩=some (.slice (some ⟨bc,oc,none⟩) p.c.length cc))∧w'.cell? ⟨g0+1,0,none⟩=some (.int .i64 q.src)∧w'.cell? ⟨g0+1,1,none⟩=some (.int .i64 q.dst)∧w'.cell? ⟨g0+1,2,none⟩=some (.int .i64 q.size)∧w'.cell? ⟨g0+1,3,none⟩=some (.int .i64 q.ready)∧w'.cell? ⟨g0+1,4,none⟩=some (.int .i64 q.dead)∧w'.cell? ⟨g0+1,5,none⟩=some (.int .i64 q.prio)∧w'.cell? ⟨g0+1,6,none⟩=some (.bool q.cust)):=fun w' hb' => by
         have h0:=HM0.out.below hb' HM0.out.lt;have h1:=HM1.out.below hb' HM1.out.lt;have h3:=HM3.out.below hb' HM3.out.lt;exact ⟨⟨h3.cell 0,h3.cell 1,h3.cell 2,h3.cell 3⟩,⟨h0.cell 0,h0.cell 1⟩,h1.cell 0,h1.cell 1,h1.cell 2,h1.cell 3,h1.cell 4,h1.cell 5,h1.cell 6⟩
        have HPW:Hid (∀w',Below w5.heap.size w5 w' → Xas w' Aq cq (some ⟨bc,oc,none⟩) cc p):=fun w' hb' => HP.out.below (Xa HB5.out hb')
        by_cases hE:hfin=hbeg+d∧harr=hbeg+d+c.rng
        ·have HY:Hid SO:=HSO.out.2 ⟨HCN.out,HND.out,by omega,HFB.out,hE⟩
         obtain ⟨rfl,rfl⟩:=hE;clear HSO HV;go_wp2_with fail;go_region_held3 (fun w' => ((w'.cell? ⟨g0+1+1+1,0,none⟩=some (.int .i64 (m:Int))∧w'.cell? ⟨g0+1+1+1,1,none⟩=some (.int .i64 hbeg)∧w'.cell? ⟨g0+1+1+1,2,none⟩=some (.int .i64 (hbeg+d))∧w'.cell? ⟨g0+1+1+1,3,none⟩=some (.int .i64 (hbeg+d+c.rng)))∧(w'.cell? ⟨g0,0,none⟩=some (.slice Aq p.q.length cq)∧w'.cell? ⟨g0,1,none⟩=some (.slice (some ⟨bc,oc,none⟩) p.c.length cc))∧w'.cell? ⟨g0+1,0,none⟩=some (.int .i64 q.src)∧w'.cell? ⟨g0+1,1,none⟩=some (.int .i64 q.dst)∧w'.cell? ⟨g0+1,2,none⟩=some (.int .i64 q.size)∧w'.cell? ⟨g0+1,3,none⟩=some (.int .i64 q.ready)∧w'.cell? ⟨g0+1,4,none⟩=some (.int .i64 q.dead)∧w'.cell? ⟨g0+1,5,none⟩=some (.int .i64 q.prio)∧w'.cell? ⟨g0+1,6,none⟩=some (.bool q.cust))∧Hid (Below w5.heap.size w5 w')) (((try go_split_ands); first | exact Xa7 HD (Below.refl _ _).drew | exact Xaw HD (by assumption) hb6))
          ((go_at_call 102
            refine (HOP.out hbeg _ (HPW.out _ (Hid.out (by (try go_split_ands); assumption))) HFB.out).mono ?_
            rintro e w6 ⟨rfl,hb6⟩))
         have HBF:Hid (Below w5.heap.size w5 w6):=by (try go_split_ands); assumption
         have HB6:=Lib.hid (Xa HB5.out HBF.out);clear HD HPW HBF;go_wp2;go_ret;exact Xm9 HY.out HB6.out
        ·have HN:Hid (¬ SO):=fun h=>hE (HSO.out.1 h).2.2.2.2;have hE2:((hfin == hbeg+d) && (harr == hbeg+d+c.rng))=false:=by
          rw[Bool.eq_false_iff];intro hc;simp at hc;exact hE hc
         clear HSO HV hE
         by_cases hE3:hfin=hbeg+d
         ·have hE4:(harr == hbeg+d+c.rng)=false:=by
           rw[hE3] at hE2;simpa using hE2
          subst hE3;clear hE2;go_wp2_with fail;go_region_held3 (fun w' => ((w'.cell? ⟨g0+1+1+1,0,none⟩=some (.int .i64 (m:Int))∧w'.cell? ⟨g0+1+1+1,1,none⟩=some (.int .i64 hbeg)∧w'.cell? ⟨g0+1+1+1,2,none⟩=some (.int .i64 (hbeg+d))∧w'.cell? ⟨g0+1+1+1,3,none⟩=some (.int .i64 harr))∧(w'.cell? ⟨g0,0,none⟩=some (.slice Aq p.q.length cq)∧w'.cell? ⟨g0,1,none⟩=some (.slice (some ⟨bc,oc,none⟩) p.c.length cc))∧w'.cell? ⟨g0+1,0,none⟩=some (.int .i64 q.src)∧w'.cell? ⟨g0+1,1,none⟩=some (.int .i64 q.dst)∧w'.cell? ⟨g0+1,2,none⟩=some (.int .i64 q.size)∧w'.cell? ⟨g0+1,3,none⟩=some (.int .i64 q.ready)∧w'.cell? ⟨g0+1,4,none⟩=some (.int .i64 q.dead)∧w'.cell? ⟨g0+1,5,none⟩=some (.int .i64 q.prio)∧w'.cell? ⟨g0+1,6,none⟩=some (.bool q.cust))∧Hid (Below w5.heap.size w5 w')) (((try go_split_ands); first | exact Xa7 HD (Below.refl _ _).drew | exact Xaw HD (by assumption) hb6))
           ((go_at_call 102
             refine (HOP.out hbeg _ (HPW.out _ (Hid.out (by (try go_split_ands); assumption))) HFB.out).mono ?_
             rintro e w6 ⟨rfl,hb6⟩))
          have HBF:Hid (Below w5.heap.size w5 w6):=by (try go_split_ands); assumption
          have HB6:=Lib.hid (Xa HB5.out HBF.out);clear HD HPW HBF;go_wp2;go_ret;exact Xbs (by decide) (by decide) HN.out HB6.out
         ·have hE4:(hfin == hbeg+d)=false:=by simpa using hE3
          clear hE2 hE3;go_wp2_with fail;go_region_held3 (fun w' => ((w'.cell? ⟨g0+1+1+1,0,none⟩=some (.int .i64 (m:Int))∧w'.cell? ⟨g0+1+1+1,1,none⟩=some (.int .i64 hbeg)∧w'.cell? ⟨g0+1+1+1,2,none⟩=some (.int .i64 hfin)∧w'.cell? ⟨g0+1+1+1,3,none⟩=some (.int .i64 harr))∧(w'.cell? ⟨g0,0,none⟩=some (.slice Aq p.q.length cq)∧w'.cell? ⟨g0,1,none⟩=some (.slice (some ⟨bc,oc,none⟩) p.c.length cc))∧w'.cell? ⟨g0+1,0,none⟩=some (.int .i64 q.src)∧w'.cell? ⟨g0+1,1,none⟩=some (.int .i64 q.dst)∧w'.cell? ⟨g0+1,2,none⟩=some (.int .i64 q.size)∧w'.cell? ⟨g0+1,3,none⟩=some (.int .i64 q.ready)∧w'.cell? ⟨g0+1,4,none⟩=some (.int .i64 q.dead)∧w'.cell? ⟨g0+1,5,none⟩=some (.int .i64 q.prio)∧w'.cell? ⟨g0+1,6,none⟩=some (.bool q.cust))∧Hid (Below w5.heap.size w5 w')) (((try go_split_ands); first | exact Xa7 HD (Below.refl _ _).drew | exact Xaw HD (by assumption) hb6))
           ((go_at_call 102
             refine (HOP.out hbeg _ (HPW.out _ (Hid.out (by (try go_split_ands); assumption))) HFB.out).mono ?_
             rintro e w6 ⟨rfl,hb6⟩))
          have HBF:Hid (Below w5.heap.size w5 w6):=by (try go_split_ands); assumption
          have HB6:=Lib.hid (Xa HB5.out HBF.out);clear HD HPW HBF;go_wp2;go_ret;exact Xbs (by decide) (by decide) HN.out HB6.out
   ·have HN:Hid (¬ SO):=fun h=>hcn (HSO.out.1 h).1;have b1:(c.src == n)=false:=by simpa using hcn
    have b2:(c.src != n)=true:=by simpa using hcn
    clear hcn;go_enter Tryz.func79,Tryz.ntmps79;go_wp2;go_ret;exact Xbs (by decide) (by decide) HN.out (HB0.out.alloc HB0.out.size _)
  ·have HN:Hid (¬ Xc2 p q n a h):=fun ⟨c,⟨_,hc⟩,_⟩=>by
    rw[hm',Int.toNat_natCast] at hc;have:=(List.getElem?_eq_some_iff.1 hc).1;omega
   have HM:=Lib.hid hm';rw[hm'] at HB0;have hge2:¬ (m:Int)<(p.c.length:Int):=by omega
   clear hneg;obtain ⟨hct,hbeg,hfin,harr⟩:=h;simp only at hm';subst hm';go_enter Tryz.func79,Tryz.ntmps79;go_wp2;go_ret;exact Xbs (by decide) (by decide) HN.out HB0.out
def HopB (p:Pln)(h:Hop):Prop:=(0≤h.ct ∧ ∃c,p.c[h.ct.toNat]? = some c)∧0≤h.beg∧0≤h.fin∧h.fin≤1099511627776∧0≤h.arr∧h.arr≤1099511627776
theorem Xez (Aq:Option Addr)(cq:Nat)(Ac:Option Addr)(cc:Nat)(p:Pln)(q:Rq)(h:Hop)(w:World)(hp:Xas w Aq cq Ac cc p)(hok:Xbe p)(hb:HopB p h) :
  Calls Tryz.prog 126 #[.agg (plA Aq cq Ac cc p),.agg (rqA q),.agg #[.int .i64 h.ct,.int .i64 h.beg,.int .i64 h.fin,.int .i64 h.arr]] w fun e w' => e = .returned (.int .i64 (Xav q.cust (ctD p h.ct) h))∧Below w.heap.size w w':=by
 obtain ⟨⟨hi0,c,hc⟩,_,hf⟩:=hb;obtain ⟨i,hi⟩:∃i:Nat,h.ct=(i:Int):=⟨h.ct.toNat,by omega⟩
 rw[hi,Int.toNat_natCast] at hc;have hct:=(hok.2.2.1 c (List.mem_of_getElem? hc));have hil:i<p.c.length:=(List.getElem?_eq_some_iff.1 hc).1;have hcd:ctD p h.ct=c:=by unfold ctD; rw[hi,Int.toNat_natCast,List.getD_eq_getElem?_getD,hc]; rfl
 rw[hcd];have hcf:0≤c.beg∧c.fin≤1099511627776∧1≤c.rng∧c.rng≤1048576:=by
  have:=hct.1;unfold CtOK at this;omega
 have HB0:Hid (Below w.heap.size w (((w.alloc (.cells (plA Aq cq Ac cc p) 25)).alloc (.cells (rqA q) 31)).alloc (.cells #[.int .i64 h.ct,.int .i64 h.beg,.int .i64 h.fin,.int .i64 h.arr] 41))):=(((Below.refl _ _).alloc (Nat.le_refl _) _).alloc (by simp) _).alloc (by simp; omega) _
 obtain ⟨bc,oc,rfl,hr⟩:=hp.c.one (by omega)
 have hm:=hp.cm;unfold maxLen at hm;have hrg:(((w.alloc (.cells #[.slice Aq p.q.length cq,.slice (some ⟨bc,oc,none⟩) p.c.length cc] 25)).alloc (.cells (rqA q) 31)).alloc (.cells #[.int .i64 h.ct,.int .i64 h.beg,.int .i64 h.fin,.int .i64 h.arr] 41)).rangeAt bc (oc+i * 7) (ctE.f c):=Xa3 (hr i c hc) HB0.out;have c0:=Tp.rgCt hrg;have hi0:(0:Int)≤(i:Int):=by omega
 have hi1:(i:Int)<(p.c.length:Int):=by omega
 have hl:Xav q.cust c h=if q.cust then h.fin+2 * c.rng else h.fin:=rfl
 clear hp hc hr hrg hct hcd;obtain ⟨hct,hbeg,hfin,harr⟩:=h;simp only at hi hl hf;subst hi;rw[hl];clear hl;have h9:((i:Int))=(i:Int):=rfl;obtain ⟨qsrc,qdst,qsize,qready,qdead,qprio,qcust⟩:=q;cases qcust with
 | false =>
   go_enter Tryz.func126,Tryz.ntmps126;go_wp2;go_ret;exact ⟨rfl,HB0.out⟩
 | true =>
   go_enter Tryz.func126,Tryz.ntmps126;go_wp2_with fail;go_quiet (fail);go_wp2;go_ret;exact ⟨by first | rfl | (simp; omega),Xa4 HB0.out _⟩
def posD (p:Pln)(now:Int)(k:Tk):Int × Int:=(posF p now k).getD (0,0)
def posV (p:Pln)(now:Int)(k:Tk):Value:=.tuple #[.int .i64 (posD p now k).1,.int .i64 (posD p now k).2,.bool (posF p now k).isSome]
theorem Xe2 (Aq:Option Addr)(cq:Nat)(Ac:Option Addr)(cc:Nat)(p:Pln)(k:Tk)(A:Option Addr)(cA:Nat)(now:Int)(w:World)(hp:Xas w Aq cq Ac cc p)(h:HpAt w A cA k.hops)(hl:k.hops.length≤4000)(hb:∀x ∈ k.hops,HopB p x) :
  Calls Tryz.prog 124 #[.agg (plA Aq cq Ac cc p),.agg (tkA k A cA),.int .i64 now] w fun e w' => e = .returned (posV p now k)∧Below w.heap.size w w':=by
 have HP:=Lib.hid hp;have HS:=Lib.hid h;have HHB:=Lib.hid hb;obtain ⟨_,_,rfl,rfl,-,HB0,HK0,HK1⟩:=box2 w 25 (plA Aq cq Ac cc p) 55 (tkA k A cA);have HBG:=Lib.hid (fun w' hb=>Xec k A cA now w' (h.below (w':=w') hb) (by omega))
 clear hp h hb;obtain ⟨k0,k1,k2,k3,k4,k5,k6,k7,k8,k9,k10⟩:=HK1.out.c11;go_enter Tryz.func124,Tryz.ntmps124;go_wp2_with fail;clear k0 k1 k2 k3 k4 k5 k6 k7 k8 k9 k10;generalize ((w.alloc (.cells (plA Aq cq Ac cc p) 25)).alloc (.cells (tkA k A cA) 55))=W at HB0 HK0 HK1 ⊢;generalize hn0:w.heap.size=n0 at HB0 HK0 HK1 ⊢;refine (HBG.out W (by rw[hn0]; exact HB0.out)).mono ?_
 rintro e w1 ⟨rfl,hb1⟩;have HM0:=Lib.hid (HK0.out.below hb1 HK0.out.lt);have HM1:=Lib.hid (HK1.out.below hb1 HK1.out.lt);have HB1:Hid (Below n0 w w1):=HB0.out.trans (hb1.mono (by have:=HK1.out.lt; omega))
 clear hb1 HB0 HK0 HK1 HBG;obtain ⟨k0,k1,k2,k3,k4,k5,k6,k7,k8,k9,k10⟩:=HM1.out.c11;have hbl:=Xhx now k.hops;have HPD:Hid (posF p now k=if k.st=1∧begN now k.hops ≠ k.hops.length then some (Xo7 p now k (begN now k.hops)) else none):=rfl
 generalize begN now k.hops=n at HPD hbl ⊢
 by_cases hst:k.st=1
 ·have d1:(k.st == 1)=true:=by simpa using hst
  have d2:(k.st != 1)=false:=by simpa using hst
  by_cases hnl:n=k.hops.length
  ·have d3:((n:Int) == (k.hops.length:Int))=true:=by rw[beq_iff_eq]; omega
   have HR:Hid (posF p now k=none):=by
    show _=_;rw[HPD.out,if_neg (by omega)]
   clear HPD hst hnl hbl;go_wp2;go_ret3;refine ⟨?_,by rw[hn0]; exact HB1.out⟩
   unfold posV posD;rw[HR.out]
   rfl
  ·have d3:((n:Int) == (k.hops.length:Int))=false:=by rw[beq_eq_false_iff_ne]; omega
   have HPD2:Hid (posF p now k=some (Xo7 p now k n)):=by
    show _=_;rw[HPD.out,if_pos ⟨hst,hnl⟩]
   clear HPD hst;cases n with
   | zero =>
     rw[show ((0:Nat):Int)=0 from rfl];go_wp2_with fail;go_quiet (fail);go_wp2;go_ret3;refine ⟨?_,by rw[hn0]; exact Xa4 HB1.out _⟩
     unfold posV posD;rw[HPD2.out];unfold Xo7
     rfl
   | succ j =>
     obtain ⟨b,off,rfl,hr⟩:=(HS.out.s.below (by rw[hn0]; exact HB1.out)).one (by omega)
     obtain ⟨r,hrk⟩:∃r,k.hops[j]? = some r:=⟨_,List.getElem?_eq_getElem (by omega)⟩
     have hrg:w1.rangeAt b (off+j * 4) (hpE.f r):=hr j r hrk;obtain ⟨c0,c1,c2,c3⟩:=Tp.rgHp hrg;obtain ⟨⟨hct0,ct,hct⟩,hrb⟩:=HHB.out r (List.mem_of_getElem? hrk);obtain ⟨i,hi⟩:∃i:Nat,r.ct=(i:Int):=⟨r.ct.toNat,by omega⟩
     rw[hi] at c0;rw[hi,Int.toNat_natCast] at hct;have HCT:Hid (Xo7 p now k (j+1)=(ct.dst,max (max now k.rq.ready) r.arr)):=by
      show (match k.hops[j]? with | none=>(0,0) | some h=>((ctD p h.ct).dst,max (max now k.rq.ready) h.arr))=_
      rw[hrk];unfold ctD;simp only;rw[hi,Int.toNat_natCast,List.getD_eq_getElem?_getD,hct]
      rfl
     have hj0:(0:Int)≤(j:Int):=by omega
     have hjl:(j:Int)<(k.hops.length:Int):=by omega
     have hjw:IntKind.i64.wrap ((j:Int)+1 - 1)=(j:Int):=by rw[IntWalk.i64_in _ (by omega)]; omega
     have hjw2:IntKind.i64.wrap (j:Int)=(j:Int):=IntWalk.i64_in _ (by omega)
     have hjg:(0:Int)<(j:Int)+1:=by omega
     rw[show ((j+1:Nat):Int)=(j:Int)+1 by omega]
     go_wp2_with fail;go_quiet (fail);have hil:i<p.c.length:=(List.getElem?_eq_some_iff.1 hct).1;obtain ⟨bc,oc,rfl,hrc⟩:=(HP.out.below (by rw[hn0]; exact HB1.out)).c.one (by omega)
     have hcm:=HP.out.cm;unfold maxLen at hcm;have hcg:w1.rangeAt bc (oc+i * 7) (ctE.f ct):=hrc i ct hct;have HBX:Hid (Below w1.heap.size w1 ((w1.drewN nq).alloc (.cells #[.int .i64 i,.int .i64 r.beg,.int .i64 r.fin,.int .i64 r.arr] 41))):=(Xa4 (Below.refl _ _) nq).alloc (Nat.le_refl _) _;have HB2:Hid (Below n0 w (w1.drewN nq)):=Xa4 HB1.out _;have HN0:Hid (Bk (w1.drewN nq) n0 25 #[.slice Aq p.q.length cq,.slice (some ⟨bc,oc,none⟩) p.c.length cc]):=HM0.out;have e0:(w1.drewN nq).cell? ⟨b,off+j * 4,none⟩=some (.int .i64 i):=c0;have e1:(w1.drewN nq).cell? ⟨b,off+j * 4+1,none⟩=some (.int .i64 r.beg):=c1;have e2:(w1.drewN nq).cell? ⟨b,off+j * 4+2,none⟩=some (.int .i64 r.fin):=c2;have e3:(w1.drewN nq).cell? ⟨b,off+j * 4+3,none⟩=some (.int .i64 r.arr):=c3;have e8:(w1.drewN nq).cell? ⟨n0+1,8,none⟩=some (.slice (some ⟨b,off,none⟩) k.hops.length cA):=k8;have HCG:Hid ((w1.drewN nq).rangeAt bc (oc+i * 7) (ctE.f ct)):=hcg;clear c0 c1 c2 c3 k0 k1 k2 k3 k4 k5 k6 k7 k8 k9 k10 hcg hrc HBX;generalize w1.drewN nq=w2 at HB2 HN0 e0 e1 e2 e3 e8 HCG ⊢;go_wp2_with fail;have HBY:Hid (Below w2.heap.size w2 (w2.alloc (.cells #[.int .i64 i,.int .i64 r.beg,.int .i64 r.fin,.int .i64 r.arr] 41))):=(Below.refl _ _).alloc (Nat.le_refl _) _;have HB3:Hid (Below n0 w (w2.alloc (.cells #[.int .i64 i,.int .i64 r.beg,.int .i64 r.fin,.int .i64 r.arr] 41))):=HB2.out.trans (HBY.out.mono (by have:=HN0.out.lt; omega))
     have HO0:=HN0.out.below HBY.out HN0.out.lt;have HOX:=Xa3 HCG.out HBY.out;have HOH:=Bk.new w2 41 #[.int .i64 i,.int .i64 r.beg,.int .i64 r.fin,.int .i64 r.arr];have p1:=HO0.n1;have x1:(w2.alloc (.cells #[.int .i64 i,.int .i64 r.beg,.int .i64 r.fin,.int .i64 r.arr] 41)).cell? ⟨bc,oc+i * 7+1,none⟩=some (.int .i64 ct.dst):=HOX 1 _ rfl;have y0:=HOH.n0;have y3:=HOH.n3;clear e0 e1 e2 e3 e8 HO0 HOX HOH HBY;generalize w2.alloc (.cells #[.int .i64 i,.int .i64 r.beg,.int .i64 r.fin,.int .i64 r.arr] 41)=w3 at HB3 p1 x1 y0 y3 ⊢;generalize w2.heap.size=gh at y0 y3 ⊢;have hi0:(0:Int)≤(i:Int):=by omega
     have hi1:(i:Int)<(p.c.length:Int):=by omega
     go_wp2_with fail;go_quiet (fail);go_wp2;go_ret3;refine ⟨?_,by rw[hn0]; exact Xa4 HB3.out _⟩
     unfold posV posD;rw[HPD2.out,HCT.out,Int.max_assoc]
     rfl
 ·have d1:(k.st == 1)=false:=by simpa using hst
  have d2:(k.st != 1)=true:=by simpa using hst
  have HR:Hid (posF p now k=none):=by
   show _=_;rw[HPD.out,if_neg (by omega)]
  clear HPD hst hbl;go_wp2;go_ret3;refine ⟨?_,by rw[hn0]; exact HB1.out⟩
  unfold posV posD;rw[HR.out]
  rfl
end Go.Proofs.YtebkgbmijocdjaaGreat.Tp
