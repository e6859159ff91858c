/- A part of the proof for the ledger. No condition beyond those that each theorem states. -/
import Derived.Test.YtebkgbmijocdjaaGreatZ02
set_option maxHeartbeats 32000000
set_option maxRecDepth 100000
set_option linter.unusedVariables false
set_option linter.unusedSimpArgs false
namespace Go.Proofs.YtebkgbmijocdjaaGreat.Tp
open Go Go.RowKit
def Xi1 (g:Nat)(c:Ct)(w:World):Prop:=w.cell? ⟨g,0,none⟩=some (.int .i64 c.src)∧w.cell? ⟨g,1,none⟩=some (.int .i64 c.dst)∧w.cell? ⟨g,2,none⟩=some (.int .i64 c.beg)∧w.cell? ⟨g,3,none⟩=some (.int .i64 c.fin)∧w.cell? ⟨g,4,none⟩=some (.int .i64 c.rate)∧w.cell? ⟨g,5,none⟩=some (.int .i64 c.rng)∧w.cell? ⟨g,6,none⟩=some (.int .i64 c.loss)
theorem Xbm {w:World}{g:Nat}{c:Ct}(h:Bk w g 104 (ctA c)):Xi1 g c w:=⟨h.cell 0,h.cell 1,h.cell 2,h.cell 3,h.cell 4,h.cell 5,h.cell 6⟩
theorem Xgg (c:Ct)(hc:CtOK c)(m:Int)(hm:1≤m∧m≤65536)(w:World) :
  Calls Tryz.prog 137 #[.agg #[.int .i64 c.src,.int .i64 c.dst,.int .i64 c.beg,.int .i64 c.fin,.int .i64 c.rate,.int .i64 c.rng,.int .i64 c.loss],.int .i64 m] w fun e w' => e = .returned (.int .i64 (dur c m))∧Below w.heap.size w w':=by
 have HT:=Lib.hid (fun w=>Xkg c 16 w hc.2.2.1.1 hc.2.2.1.2 (by omega) (by omega))
 have HP:=Lib.hid (fun w=>Xrj c hc m hm w);have hp:=Xq hc hm.1;have ht:=Xee hc.2.2.1.1 hc.2.2.1.2 (n:=16) (by omega) (by omega)
 have hl:=lossy hc;have hg:1≤c.rng∧c.rng≤1048576:=hc.2.2.2.1;have HDU:Hid (dur c m=pass c m+c.loss * (2 * c.rng+1+Xdy c 16)):=rfl;generalize dur c m=d at HDU;generalize pass c m=pp at HP hp HDU;generalize Xdy c 16=tt at HT ht hl HDU;have HB0:Hid (Below w.heap.size w (w.alloc (.cells (ctA c) 104))):=(Below.refl _ _).alloc (Nat.le_refl _) _;have HK:=Lib.hid (Bk.new w 104 (ctA c));clear hc hm;have q1:IntKind.i64.wrap (2 * c.rng)=2 * c.rng:=IntWalk.i64_in _ (by omega)
 have q2:IntKind.i64.wrap (2 * c.rng+1)=2 * c.rng+1:=IntWalk.i64_in _ (by omega)
 have q3:IntKind.i64.wrap (2 * c.rng+1+tt)=2 * c.rng+1+tt:=IntWalk.i64_in _ (by omega)
 have q4:IntKind.i64.wrap (c.loss * (2 * c.rng+1+tt))=c.loss * (2 * c.rng+1+tt):=IntWalk.i64_in _ (by omega)
 have q5:IntKind.i64.wrap (pp+c.loss * (2 * c.rng+1+tt))=pp+c.loss * (2 * c.rng+1+tt):=IntWalk.i64_in _ (by omega)
 go_enter Tryz.func137,Tryz.ntmps137;go_wp2_with fail;generalize w.alloc (.cells (ctA c) 104)=W at HB0 HK ⊢;generalize w.heap.size=g at HK ⊢;have HD:Hid (∀w',Below W.heap.size W w' → Xi1 g c w'):=fun w' hb=>Xbm (HK.out.below hb HK.out.lt);unfold Xi1 at HD;go_region_held3 (fun w' => (w'.cell? ⟨g,0,none⟩=some (.int .i64 c.src)∧w'.cell? ⟨g,1,none⟩=some (.int .i64 c.dst)∧w'.cell? ⟨g,2,none⟩=some (.int .i64 c.beg)∧w'.cell? ⟨g,3,none⟩=some (.int .i64 c.fin)∧w'.cell? ⟨g,4,none⟩=some (.int .i64 c.rate)∧w'.cell? ⟨g,5,none⟩=some (.int .i64 c.rng)∧w'.cell? ⟨g,6,none⟩=some (.int .i64 c.loss))∧Hid (Below W.heap.size W w')) (((try go_split_ands); first | exact Xa7 HD (Below.refl _ _).drew | exact Xaw HD (by assumption) hb4))
  ((first
    | (go_at_call 170
       refine (HP.out _).mono ?_;rintro e w4 ⟨rfl,hb4⟩)
    | (go_at_call 171
       refine (HT.out _).mono ?_;rintro e w4 ⟨rfl,hw4⟩;have hb4:=Xqx hw4;clear hw4)))
 have HBF:Hid (Below W.heap.size W w4):=by (try go_split_ands); assumption
 clear q1 q2 q3 q4;go_wp2;go_ret;exact ⟨Xh2 HDU.out.symm,Xa HB0.out HBF.out⟩
theorem Xiv (c:Ct)(m:Int)(w:World):Calls Tryz.prog 136 #[.agg #[.int .i64 c.src,.int .i64 c.dst,.int .i64 c.beg,.int .i64 c.fin,.int .i64 c.rate,.int .i64 c.rng,.int .i64 c.loss],.int .i64 m] w (Xd (CtOK c∧1≤m∧m≤65536) w):=by
 have HB0:Hid (Below w.heap.size w (w.alloc (.cells (ctA c) 104))):=(Below.refl _ _).alloc (Nat.le_refl _) _;have HC:=Lib.hid (fun w=>Xdr c w);have HW:=Lib.hid (fun w=>Xcn m 1 65536 w);have HI:Hid (wi m 1 65536=true↔1≤m∧m≤65536):=Xkc;generalize wi m 1 65536=b at HW HI;go_enter Tryz.func136,Tryz.ntmps136;go_wp2_with fail;refine (HC.out _).mono ?_;rintro e w1 ⟨q,rfl,hq,hb1⟩;have HQ:=Lib.hid hq;have HB1:=Lib.hid (Xa HB0.out hb1);clear hq hb1 HB0 HC
 by_cases h0:q=0
 ·subst h0;cases b with
  | false =>
    go_wp2_with fail;refine (HW.out _).mono ?_;rintro e w2 ⟨rfl,rfl⟩;go_wp2;go_ret;exact Xa2 (by decide) (fun h=>by have:=HI.out.2 h.2; cases this) HB1.out
  | true =>
    go_wp2_with fail;refine (HW.out _).mono ?_;rintro e w2 ⟨rfl,rfl⟩;go_wp2;go_ret;exact Xbf ⟨HQ.out.1 (by trivial),HI.out.1 (by trivial)⟩ HB1.out
 ·have hqb:(q != 0)=true:=by rw[bne_iff_ne]; exact h0
  have H0:=Lib.hid h0;clear h0;go_wp2;go_ret;exact Xa2 (by decide) (fun h=>H0.out (HQ.out.2 h.1)) HB1.out
theorem fits_any (c:Ct)(hc:CtOK c)(b m:Int)(hm:1≤m∧m≤65536)(w:World):Calls Tryz.prog 155 #[.agg #[.int .i64 c.src,.int .i64 c.dst,.int .i64 c.beg,.int .i64 c.fin,.int .i64 c.rate,.int .i64 c.rng,.int .i64 c.loss],.int .i64 b,.int .i64 m] w (Xap (c.beg≤b∧b≤c.fin - dur c m) w):=by
 have HP:=Lib.hid (fun w=>Xgg c hc m hm w);have hp:=Xdw hc hm.1;generalize dur c m=d at HP hp;have hf:0≤c.fin∧c.fin≤1099511627776:=by obtain ⟨_,_,_,hg,_,_,h1,h2,h3⟩:=hc; omega
 have HB0:Hid (Below w.heap.size w (w.alloc (.cells (ctA c) 104))):=(Below.refl _ _).alloc (Nat.le_refl _) _;have HK:=Lib.hid (Bk.new w 104 (ctA c));clear hc hm
 by_cases hg:c.beg≤b
 ·have q1:IntKind.i64.wrap (c.fin - d)=c.fin - d:=IntWalk.i64_in _ (by omega)
  have HG:=Lib.hid hg;go_enter Tryz.func155,Tryz.ntmps155;go_wp2_with fail;generalize w.alloc (.cells (ctA c) 104)=W at HB0 HK ⊢;generalize w.heap.size=g at HK ⊢;have HD:Hid (∀w',Below W.heap.size W w' → Xi1 g c w'):=fun w' hb=>Xbm (HK.out.below hb HK.out.lt);unfold Xi1 at HD;go_region_held3 (fun w' => (w'.cell? ⟨g,0,none⟩=some (.int .i64 c.src)∧w'.cell? ⟨g,1,none⟩=some (.int .i64 c.dst)∧w'.cell? ⟨g,2,none⟩=some (.int .i64 c.beg)∧w'.cell? ⟨g,3,none⟩=some (.int .i64 c.fin)∧w'.cell? ⟨g,4,none⟩=some (.int .i64 c.rate)∧w'.cell? ⟨g,5,none⟩=some (.int .i64 c.rng)∧w'.cell? ⟨g,6,none⟩=some (.int .i64 c.loss))∧Hid (Below W.heap.size W w')) (((try go_split_ands); first | exact Xa7 HD (Below.refl _ _).drew | exact Xaw HD (by assumption) hb4))
   ((go_at_call 137
     refine (HP.out _).mono ?_;rintro e w4 ⟨rfl,hb4⟩))
  have HBF:Hid (Below W.heap.size W w4):=by (try go_split_ands); assumption
  go_wp2;go_ret;exact Xaf (by simp; omega) (Xa HB0.out HBF.out)
 ·have dg:decide (b ≥ c.beg)=false:=by simpa using hg
  have HG:=Lib.hid hg;clear hg;go_enter Tryz.func155,Tryz.ntmps155;go_wp2_with fail;have c2:=(Xbm HK.out).2.2.1;go_quiet (fail);go_wp2;go_ret;exact Xaf (by have:=HG.out; simp; omega) (Xa4 HB0.out _)
theorem Xqu (c:Ct)(b m:Int)(w:World):Calls Tryz.prog 101 #[.agg #[.int .i64 c.src,.int .i64 c.dst,.int .i64 c.beg,.int .i64 c.fin,.int .i64 c.rate,.int .i64 c.rng,.int .i64 c.loss],.int .i64 b,.int .i64 m] w (Xap ((CtOK c∧1≤m∧m≤65536)∧c.beg≤b∧b≤c.fin - dur c m) w):=by
 have HB0:Hid (Below w.heap.size w (w.alloc (.cells (ctA c) 104))):=(Below.refl _ _).alloc (Nat.le_refl _) _;have HK:=Lib.hid (Bk.new w 104 (ctA c));have HC:=Lib.hid (fun w=>Xiv c m w);go_enter Tryz.func101,Tryz.ntmps101;go_wp2_with fail;generalize w.alloc (.cells (ctA c) 104)=W at HB0 HK ⊢;generalize w.heap.size=g at HK ⊢;refine (HC.out _).mono ?_;rintro e w1 ⟨q,rfl,hq,hb1⟩;have HQ:=Lib.hid hq;have HB1:=Lib.hid (Xa HB0.out hb1);have HK1:=Lib.hid (HK.out.below hb1 HK.out.lt);clear hq hb1 HB0 HC HK
 by_cases h0:q=0
 ·subst h0;obtain ⟨hc,hm⟩:=HQ.out.1 rfl;have HF:=Lib.hid (fun w=>fits_any c hc b m hm w);have HV:=Lib.hid (And.intro hc hm);obtain ⟨c0,c1,c2,c3,c4,c5,c6⟩:=Xbm HK1.out;clear hc hm HQ;go_wp2_with fail;refine (HF.out _).mono ?_;rintro e w2 ⟨d,rfl,hd,hb2⟩;have HD:=Lib.hid hd;have HB2:=Lib.hid (Xa HB1.out hb2);clear hd hb2 c0 c1 c2 c3 c4 c5 c6;go_wp2;go_ret;exact Xaf ⟨fun h=>⟨HV.out,HD.out.1 h⟩,fun h=>HD.out.2 h.2⟩ HB2.out
 ·have hqb:(q == 0)=false:=by rw[beq_eq_false_iff_ne]; exact h0
  have H0:=Lib.hid h0;clear h0;go_wp2;go_ret;exact Xaf ⟨fun h=>(by cases h),fun h=>absurd (HQ.out.2 h.1) H0.out⟩ HB1.out
theorem Xfs (c:Ct)(hc:CtOK c)(m:Int)(hm:1≤m∧m≤65536)(w:World):Calls Tryz.prog 63 #[.agg #[.int .i64 c.src,.int .i64 c.dst,.int .i64 c.beg,.int .i64 c.fin,.int .i64 c.rate,.int .i64 c.rng,.int .i64 c.loss],.int .i64 m] w fun e w' => e = .returned (.tuple #[.int .i64 (dur c m),.int .i64 0])∧Below w.heap.size w w':=by
 have HB0:Hid (Below w.heap.size w (w.alloc (.cells (ctA c) 104))):=(Below.refl _ _).alloc (Nat.le_refl _) _;have HK:=Lib.hid (Bk.new w 104 (ctA c));have HC:=Lib.hid (fun w=>Xiv c m w);have HF:=Lib.hid (fun w=>Xgg c hc m hm w);have HV:=Lib.hid (And.intro hc hm);generalize dur c m=d at HF;clear hc hm;go_enter Tryz.func63,Tryz.ntmps63;go_wp2_with fail;generalize w.alloc (.cells (ctA c) 104)=W at HB0 HK ⊢;generalize w.heap.size=g at HK ⊢;refine (HC.out _).mono ?_;rintro e w1 ⟨q,rfl,hq,hb1⟩;obtain rfl:q=0:=hq.2 HV.out;have HB1:=Lib.hid (Xa HB0.out hb1);have HK1:=Lib.hid (HK.out.below hb1 HK.out.lt);clear hq hb1 HB0 HC HK;obtain ⟨c0,c1,c2,c3,c4,c5,c6⟩:=Xbm HK1.out;go_wp2_with fail;refine (HF.out _).mono ?_;rintro e w2 ⟨rfl,hb2⟩;have HB2:=Lib.hid (Xa HB1.out hb2);clear hb2 c0 c1 c2 c3 c4 c5 c6;go_wp2;go_ret2;exact ⟨rfl,HB2.out⟩
theorem Xmd (a b:Ct)(ha:CtOK a)(hb:CtOK b)(w:World):Calls Tryz.prog 106 #[.agg #[.int .i64 a.src,.int .i64 a.dst,.int .i64 a.beg,.int .i64 a.fin,.int .i64 a.rate,.int .i64 a.rng,.int .i64 a.loss],.agg #[.int .i64 b.src,.int .i64 b.dst,.int .i64 b.beg,.int .i64 b.fin,.int .i64 b.rate,.int .i64 b.rng,.int .i64 b.loss]] w (Xap (Ovl a b) w):=by
 have HB0:Hid (Below w.heap.size w ((w.alloc (.cells (ctA a) 104)).alloc (.cells (ctA b) 104))):=((Below.refl _ _).alloc (Nat.le_refl _) _).alloc (by simp) _
 have HK:=Lib.hid ((Bk.new w 104 (ctA a)).alloc (.cells (ctA b) 104));have HL:Hid (Bk ((w.alloc (.cells (ctA a) 104)).alloc (.cells (ctA b) 104)) (w.heap.size+1) 104 (ctA b)):=by
  have h:=Bk.new (w.alloc (.cells (ctA a) 104)) 104 (ctA b)
  rwa [World.size_alloc] at h
 have HC:=Lib.hid (fun w=>Xdr a w);have HD:=Lib.hid (fun w=>Xdr b w);have HV:=Lib.hid (And.intro ha hb);clear ha hb;go_enter Tryz.func106,Tryz.ntmps106;go_wp2_with fail;generalize (w.alloc (.cells (ctA a) 104)).alloc (.cells (ctA b) 104)=W at HB0 HK HL ⊢;refine (HC.out _).mono ?_;rintro e w1 ⟨q,rfl,hq,hb1⟩;obtain rfl:q=0:=hq.2 HV.out.1;have HB1:=Lib.hid (Xa HB0.out hb1);have HK1:=Lib.hid (HK.out.below hb1 HK.out.lt);have HL1:=Lib.hid (HL.out.below hb1 HL.out.lt);clear hq hb1 HB0 HC HK HL;obtain ⟨d0,d1,d2,d3,d4,d5,d6⟩:=Xbm HL1.out;go_wp2_with fail;refine (HD.out _).mono ?_;rintro e w2 ⟨q,rfl,hq,hb2⟩;obtain rfl:q=0:=hq.2 HV.out.2;have HB2:=Lib.hid (Xa HB1.out hb2);have HK2:=Lib.hid (HK1.out.below hb2 HK1.out.lt);have HL2:=Lib.hid (HL1.out.below hb2 HL1.out.lt);clear hq hb2 HB1 HD HK1 HL1 HV d0 d1 d2 d3 d4 d5 d6;obtain ⟨c0,c1,c2,c3,c4,c5,c6⟩:=Xbm HK2.out;obtain ⟨d0,d1,d2,d3,d4,d5,d6⟩:=Xbm HL2.out;have HO:Hid (Ovl a b↔a.src=b.src∧a.dst=b.dst∧max a.beg b.beg<min a.fin b.fin):=Iff.rfl
 by_cases hs:a.src=b.src
 ·by_cases hd:a.dst=b.dst
  ·have HE:=Lib.hid (And.intro hs hd);have e1:(a.src != b.src)=false:=by simpa using hs
   have e2:(a.dst != b.dst)=false:=by simpa using hd
   clear hs hd;go_wp2
   all_goals
    go_ret;exact Xaf (by rw[HO.out]; have:=HE.out; simp; omega) HB2.out
  ·have HE:=Lib.hid hd;have e1:(a.src != b.src)=false:=by simpa using hs
   have e2:(a.dst != b.dst)=true:=by simpa using hd
   clear hs hd;go_wp2;go_ret;exact Xaf ⟨fun h=>(by cases h),fun h=>absurd (HO.out.1 h).2.1 HE.out⟩ HB2.out
 ·have HE:=Lib.hid hs;have e1:(a.src != b.src)=true:=by simpa using hs
  clear hs;go_wp2;go_ret;exact Xaf ⟨fun h=>(by cases h),fun h=>absurd (HO.out.1 h).1 HE.out⟩ HB2.out
def IdxOf {α:Type}(p:α → Prop)(l:List α)(z:Int):Prop:=(z = -1 ∧ ∀x ∈ l,¬ p x) ∨ ∃(k:Nat)(r:α),z=(k:Int)∧l[k]? = some r∧p r ∧ ∀x ∈ l.take k,¬ p x
def Xdu {α:Type}(p:α → Prop)(l:List α)(w:World)(e:Ending)(w':World):Prop:=∃z:Int,e = .returned (.int .i64 z)∧IdxOf p l z∧Below w.heap.size w w'
theorem Xhj {α:Type}{p:α → Prop}{l:List α}{z:Int}(h:IdxOf p l z):0≤z ↔ ∃x ∈ l,p x:=by
 rcases h with ⟨rfl,h⟩ | ⟨k,r,rfl,hk,hp,_⟩
 ·exact ⟨fun h=>absurd h (by decide),fun ⟨x,hx,hp⟩=>absurd hp (h x hx)⟩
 ·exact ⟨fun _=>⟨r,List.mem_of_getElem? hk,hp⟩,fun _=>by omega⟩
theorem Xl3 (c d:Ct)(hc:CtOK c)(hd:CtOK d)(g:Nat)(w:World)(hg:Bk w g 104 (ctA c)) :
  Calls Tryz.prog 105 #[.agg #[.int .i64 d.src,.int .i64 d.dst,.int .i64 d.beg,.int .i64 d.fin,.int .i64 d.rate,.int .i64 d.rng,.int .i64 d.loss],.pointer (some ⟨g,0,none⟩)] w (Xap (Ovl c d) w):=by
 have HB0:Hid (Below w.heap.size w (w.alloc (.cells (ctA d) 104))):=(Below.refl _ _).alloc (Nat.le_refl _) _;have HO:=Lib.hid (fun w=>Xmd c d hc hd w);obtain ⟨c0,c1,c2,c3,c4,c5,c6⟩:=Xbm (hg.alloc (.cells (ctA d) 104));clear hg hc hd;go_enter Tryz.func105,Tryz.ntmps105;go_wp2_with fail;refine (HO.out _).mono ?_;rintro e w1 ⟨v,rfl,hv,hb⟩;have HB:=Lib.hid (Xa HB0.out hb);have HV:=Lib.hid hv;clear hv hb HB0 HO c0 c1 c2 c3 c4 c5 c6;go_wp2;go_ret;exact Xaf HV.out HB.out
theorem Xl1 (A:Option Addr)(cA:Nat)(l:List Ct)(g:Nat)(p:Ct→Prop)(w:World)(hA:SlAt ctE w A l)(hl:l.length≤1000000)(hF:∀x ∈ l,∀w',Below w.heap.size w w' → Calls Tryz.prog 105 #[.agg #[.int .i64 x.src,.int .i64 x.dst,.int .i64 x.beg,.int .i64 x.fin,.int .i64 x.rate,.int .i64 x.rng,.int .i64 x.loss],.pointer (some ⟨g,0,none⟩)] w' (Xap (p x) w')) :
  Calls Tryz.prog 157 #[.slice A l.length cA,.func (.func 105) #[] #[.pointer (some ⟨g,0,none⟩)]] w (Xdu p l w):=by
 have HA:=Lib.hid hA;have HF:=Lib.hid hF;clear hA hF;go_enter Tryz.func157,Tryz.ntmps157;go_wp2;go_loopw [5,8] (fun _ i wr => ∃k:Nat,k≤l.length∧i = .int .i64 k∧Below w.heap.size w wr ∧ ∀x ∈ l.take k,¬ p x) (fun _ i _=>l.length - (intOf i).toNat)
 case atStart=>exact ⟨0,Nat.zero_le _,rfl,Below.refl _ _,by simp⟩
 case round =>
  obtain ⟨k,hk,rfl,hbw,hno⟩:=hrel;have HB:=Lib.hid hbw;have HNO:=Lib.hid hno;clear hbw hno
  by_cases hlt:k<l.length
  ·obtain ⟨b,off,rfl,hr⟩:=HA.out.one (by omega)
   obtain ⟨r,hrk⟩:∃r,l[k]? = some r:=⟨_,List.getElem?_eq_getElem hlt⟩;have HRK:=Lib.hid hrk;have hrg:wr.rangeAt b (off+k * 7) (ctE.f r):=Xa3 (hr k r hrk) HB.out;have c0:=Tp.rgCt hrg;have HCL:=Lib.hid (HF.out r (List.mem_of_getElem? hrk) wr HB.out);clear hr hrk hrg;go_wp2_with fail;refine HCL.out.mono ?_;rintro e w2 ⟨v,rfl,hv,hb2⟩;have HB2:=Lib.hid (Xa HB.out hb2);have HV:=Lib.hid hv;clear hb2 HCL hv c0;cases v with
   | false =>
     have HN:Hid (∀x ∈ l.take (k+1),¬ p x):=by
      intro x hx;rw[take_snoc HRK.out] at hx;rcases List.mem_append.1 hx with h | h
      ·exact HNO.out x h
      ·rw[List.mem_singleton.1 h];intro hp;have:=HV.out.2 hp;cases this
     go_wp2;go_roundw
     case rel=>exact ⟨k+1,by omega,by go_num,HB2.out,HN.out⟩
     case measure=>simp[intOf]; omega
   | true =>
     have HP:=Lib.hid (HV.out.1 rfl);go_wp2;go_ret;exact ⟨_,rfl,.inr ⟨k,r,rfl,HRK.out,HP.out,HNO.out⟩,HB2.out⟩
  ·have HN:Hid (∀x ∈ l,¬ p x):=by
    intro x hx;refine HNO.out x ?_;rw[List.take_of_length_le (by omega)]
    exact hx
   go_wp2;go_ret;exact ⟨_,rfl,.inl ⟨rfl,HN.out⟩,HB.out⟩
theorem Xl2 (A:Option Addr)(cA:Nat)(l:List Ct)(g:Nat)(p:Ct→Prop)(w:World)(hA:SlAt ctE w A l)(hl:l.length≤1000000)(hF:∀x ∈ l,∀w',Below w.heap.size w w' → Calls Tryz.prog 105 #[.agg #[.int .i64 x.src,.int .i64 x.dst,.int .i64 x.beg,.int .i64 x.fin,.int .i64 x.rate,.int .i64 x.rng,.int .i64 x.loss],.pointer (some ⟨g,0,none⟩)] w' (Xap (p x) w')) :
  Calls Tryz.prog 104 #[.slice A l.length cA,.func (.func 105) #[] #[.pointer (some ⟨g,0,none⟩)]] w (Xap (∃x ∈ l,p x) w):=by
 have HI:=Lib.hid (Xl1 A cA l g p w hA hl hF);clear hA hF;go_enter Tryz.func104,Tryz.ntmps104;go_wp2_with fail;refine HI.out.mono ?_;rintro e w1 ⟨z,rfl,hz,hb⟩;have HB:=Lib.hid hb;have HZ:=Lib.hid (Xhj hz);clear hz hb HI;go_wp2;go_ret;exact Xaf (by have:=HZ.out; simpa using this) HB.out
structure Xas (w:World)(Aq:Option Addr)(cq:Nat)(Ac:Option Addr)(cc:Nat)(p:Pln):Prop where
 q:SlAt intE w Aq p.q
 c:SlAt ctE w Ac p.c
 ql:p.q.length≤cq
 cl:p.c.length≤cc
 qm:p.q.length≤maxLen
 cm:p.c.length≤maxLen
theorem Xas.below {w w':World}{Aq Ac:Option Addr}{cq cc:Nat}{p:Pln}(h:Xas w Aq cq Ac cc p)(hb:Below w.heap.size w w'):Xas w' Aq cq Ac cc p:=⟨h.q.below hb,h.c.below hb,h.ql,h.cl,h.qm,h.cm⟩
theorem Xs8:Tryz.prog.elem 23=104:=by kernel_rfl
theorem Xpl:Tryz.prog.underlying 23=some (.slice (Tryz.prog.elem 23)):=by kernel_rfl
theorem Xts (A:Option Addr)(c:Nat)(l:List Ct)(k:Nat)(hk:k≤l.length)(hc:l.length≤c) :
  ∃A1,(∀w,(Instr.slice 23 (.slice A l.length c) none (some (.int .i64 (k:Int))) none).run Tryz.prog w = .ok (.slice A1 (l.take k).length c) w) ∧ ∀w,SlAt ctE w A l→SlAt ctE w A1 (l.take k):=by
 have e:∀w,(Instr.slice 23 (.slice A l.length c) none (some (.int .i64 (k:Int))) none).run Tryz.prog w = .ok (sliced A 0 k c 7) w:=fun w=>by
  rw[run_slice_h w _ _ _ _ Xpl .i64 (k:Int) (by omega) (by omega),Xs8,Tryz.sizeOf104]
  rfl
 have hl:(l.take k).length=k:=by rw[List.length_take]; omega
 refine ⟨if c=0 then A else A.map (·.add (0 * 7)),fun w=>by rw[e,hl]; rfl,fun w h=>?_⟩
 split
 ·exact h.take k
 ·have:A.map (fun a=>a.add (0 * 7))=A:=by
   cases A with
   | none=>rfl
   | some a=>simp[Addr.add]
  rw[this];exact h.take k
theorem Xb2 (Aq:Option Addr)(cq:Nat)(Ac:Option Addr)(cc:Nat)(p:Pln)(w:World)(hp:Xas w Aq cq Ac cc p) :
  Calls Tryz.prog 44 #[.agg (plA Aq cq Ac cc p)] w (Xd (Xbe p) w):=by
 have HP:=Lib.hid hp;have HO:Hid (Xbe p↔(1≤p.q.length∧p.q.length≤16∧p.c.length≤64)∧(∀x ∈ p.q,0≤x∧x≤1073741824)∧(∀c ∈ p.c,CtOK c∧c.src<p.q.length∧c.dst<p.q.length)∧p.c.Pairwise fun a b => ¬ Ovl b a):=Iff.rfl;have HB0:Hid (Below w.heap.size w (w.alloc (.cells (plA Aq cq Ac cc p) 25))):=(Below.refl _ _).alloc (Nat.le_refl _) _;have HK:=Lib.hid (Bk.new w 25 (plA Aq cq Ac cc p));clear hp;have hsz:p.q.length<1∨16<p.q.length∨64<p.c.length∨(1≤p.q.length∧p.q.length≤16∧p.c.length≤64):=by omega
 rcases hsz with h1 | h1 | h1 | ⟨h1,h2,h3⟩
 ·have h2:(p.q.length:Int)<1:=by omega
  go_enter Tryz.func44,Tryz.ntmps44;go_wp2;go_ret;exact Xa2 (by decide) (fun h=>by have:=(HO.out.1 h).1; omega) HB0.out
 ·have h2:(16:Int)<(p.q.length:Int):=by omega
  have h3:¬ (p.q.length:Int)<1:=by omega
  go_enter Tryz.func44,Tryz.ntmps44;go_wp2;go_ret;exact Xa2 (by decide) (fun h=>by have:=(HO.out.1 h).1; omega) HB0.out
 ·by_cases h2:16<p.q.length∨p.q.length<1
  ·rcases h2 with h2 | h2
   ·have h4:(16:Int)<(p.q.length:Int):=by omega
    have h3:¬ (p.q.length:Int)<1:=by omega
    go_enter Tryz.func44,Tryz.ntmps44;go_wp2;go_ret;exact Xa2 (by decide) (fun h=>by have:=(HO.out.1 h).1; omega) HB0.out
   ·have h3:(p.q.length:Int)<1:=by omega
    go_enter Tryz.func44,Tryz.ntmps44;go_wp2;go_ret;exact Xa2 (by decide) (fun h=>by have:=(HO.out.1 h).1; omega) HB0.out
  ·have h3:¬ (16:Int)<(p.q.length:Int):=by omega
   have h4:¬ (p.q.length:Int)<1:=by omega
   have h5:(64:Int)<(p.c.length:Int):=by omega
   go_enter Tryz.func44,Tryz.ntmps44;go_wp2;go_ret;exact Xa2 (by decide) (fun h=>by have:=(HO.out.1 h).1; omega) HB0.out
 ·have h5:¬ (16:Int)<(p.q.length:Int):=by omega
  have h4:¬ (p.q.length:Int)<1:=by omega
  have h6:¬ (64:Int)<(p.c.length:Int):=by omega
  have HSZ:=Lib.hid (And.intro h1 (And.intro h2 h3));go_enter Tryz.func44,Tryz.ntmps44;go_wp2;generalize w.alloc (.cells (plA Aq cq Ac cc p) 25)=W at HB0 HK ⊢;generalize w.heap.size=g0 at HK ⊢;go_loop [5,27] (fun _ i => ∃k:Nat,k≤p.q.length∧i = .int .i64 k ∧ ∀x ∈ p.q.take k,0≤x∧x≤1073741824) (fun _ i=>p.q.length - (intOf i).toNat)
  case atStart=>exact ⟨0,Nat.zero_le _,rfl,by simp⟩
  case round =>
   obtain ⟨k,hk,rfl,hq⟩:=hrel;have HQ:=Lib.hid hq;clear hq
   by_cases hlt:k<p.q.length
   ·obtain ⟨b,off,rfl,hr⟩:=HP.out.q.one (by omega)
    obtain ⟨x,hx⟩:∃x,p.q[k]? = some x:=⟨_,List.getElem?_eq_getElem hlt⟩;have hrg:W.rangeAt b (off+k * 1) (intE.f x):=Xa3 (hr k x hx) HB0.out;have c0:W.cell? ⟨b,off+k,none⟩=some (.int .i64 x):=by have:=hrg 0 _ rfl; simpa using this
    have HX:=Lib.hid hx;clear hr hx hrg
    by_cases h8:x<0
    ·have HN:Hid (¬ Xbe p):=fun h=>by have:=(HO.out.1 h).2.1 x (List.mem_of_getElem? HX.out); omega
     go_wp2;go_ret;exact Xa2 (by decide) HN.out HB0.out
    ·by_cases h9:1073741824<x
     ·have HN:Hid (¬ Xbe p):=fun h=>by have:=(HO.out.1 h).2.1 x (List.mem_of_getElem? HX.out); omega
      go_wp2;go_ret;exact Xa2 (by decide) HN.out HB0.out
     ·have HN:Hid (∀y ∈ p.q.take (k+1),0≤y∧y≤1073741824):=by
       intro y hy;rw[take_snoc HX.out] at hy;rcases List.mem_append.1 hy with h | h
       ·exact HQ.out y h
       ·rw[List.mem_singleton.1 h]; omega
      go_wp2;go_round
      case rel=>exact ⟨k+1,by omega,by go_num,HN.out⟩
      case measure=>simp[intOf]; omega
   ·have HQA:Hid (∀x ∈ p.q,0≤x∧x≤1073741824):=by
     intro x hx;refine HQ.out x ?_;rw[List.take_of_length_le (by omega)]
     exact hx
    have hk0:=HK.out.cell 1;have hk1:W.cell? ⟨g0,1,none⟩=some (.slice Ac p.c.length cc):=hk0;clear hk0 HQ;go_wp2;go_loopw [6,7,8,41] (fun _ _ _ i wr => ∃k:Nat,k≤p.c.length∧i = .int .i64 k∧Below W.heap.size W wr∧(∀c ∈ p.c.take k,CtOK c∧c.src<p.q.length∧c.dst<p.q.length)∧(p.c.take k).Pairwise fun a b => ¬ Ovl b a) (fun _ _ _ i _=>p.c.length - (intOf i).toNat)
    case atStart=>exact ⟨0,Nat.zero_le _,rfl,Below.refl _ _,by simp,by simp⟩
    case round =>
     clear hk1;obtain ⟨k,hk,rfl,hbw,hok,hpw⟩:=hrel;obtain ⟨wq,rfl⟩:∃wo:World,wo=wr:=⟨_,rfl⟩;have HB:=Lib.hid hbw;have HOK:=Lib.hid hok;have HPW:=Lib.hid hpw;clear hbw hok hpw
     by_cases hlt:k<p.c.length
     ·have HPC:=Lib.hid ((HP.out.c.below HB0.out).below HB.out);obtain ⟨b,off,rfl,hr⟩:=HPC.out.one (by omega)
      obtain ⟨r,hrk⟩:∃r,p.c[k]? = some r:=⟨_,List.getElem?_eq_getElem hlt⟩;have HRK:=Lib.hid hrk;have hrg:wq.rangeAt b (off+k * 7) (ctE.f r):=hr k r hrk;obtain ⟨c0,c1,c2,c3,c4,c5,c6⟩:=Tp.rgCt hrg;have HC:=Lib.hid (fun w=>Xdr r w);have HK1:=Lib.hid (HK.out.below HB.out HK.out.lt);have HKN:=Lib.hid (Bk.new wq 104 (ctA r));have HBN:Hid (Below wq.heap.size wq (wq.alloc (.cells (ctA r) 104))):=(Below.refl _ _).alloc (Nat.le_refl _) _;clear hr hrk hrg;go_wp2_with fail;generalize wq.alloc (.cells (ctA r) 104)=W1 at HKN HBN ⊢;generalize hg1:wq.heap.size=g1 at HKN ⊢;have HG1:=Lib.hid hg1;clear hg1 c0 c1 c2 c3 c4 c5 c6;refine (HC.out _).mono ?_;rintro e w2 ⟨q,rfl,hq,hb2⟩;have HQ2:=Lib.hid hq;have HB2:=Lib.hid (Xa (Xa HB.out HBN.out) hb2);have HK2:=Lib.hid (HKN.out.below hb2 HKN.out.lt);have HBQ:Hid (Below wq.heap.size wq w2):=Xa HBN.out hb2;clear hq hb2 HC HKN HBN
      by_cases h0:q=0
      ·subst h0;have HCO:=Lib.hid (HQ2.out.1 rfl);clear HQ2;have d0:=HK2.out.c2
       by_cases hs:(p.q.length:Int)≤r.src
       ·have HN:Hid (¬ Xbe p):=fun h=>by have:=((HO.out.1 h).2.2.1 r (List.mem_of_getElem? HRK.out)).2.1; omega
        go_wp2;go_ret;exact Xa2 (by decide) HN.out (Xa HB0.out HB2.out)
       ·have e1:decide (r.src ≥ (p.q.length:Int))=false:=by simpa using hs
        by_cases hs2:(p.q.length:Int)≤r.dst
        ·have HN:Hid (¬ Xbe p):=fun h=>by have:=((HO.out.1 h).2.2.1 r (List.mem_of_getElem? HRK.out)).2.2; omega
         go_wp2;go_ret;exact Xa2 (by decide) HN.out (Xa HB0.out HB2.out)
        ·have e2:decide (r.dst ≥ (p.q.length:Int))=false:=by simpa using hs2
         have HRD:Hid (r.src<p.q.length∧r.dst<p.q.length):=⟨by omega,by omega⟩
         have hk1:w2.cell? ⟨g0,1,none⟩=some (.slice (some ⟨b,off,none⟩) p.c.length cc):=(HK.out.below HB2.out HK.out.lt).cell 1;obtain ⟨A1,hr1,hh1⟩:=Xts (some ⟨b,off,none⟩) cc p.c k (Nat.le_of_lt hlt) HP.out.cl;have HH:=Lib.hid (hh1 w2 (HPC.out.below HBQ.out));have HL1:Hid ((p.c.take k).length≤1000000):=by show _≤_; rw[List.length_take]; have:=HSZ.out.2.2; omega
         have HCL:=Lib.hid (Xl2 A1 cc (p.c.take k) g1 (fun d=>Ovl r d) w2 HH.out HL1.out (fun x hx w' hb' => Xl3 r x HCO.out (HOK.out x hx).1 g1 w' (HK2.out.below hb' HK2.out.lt)));have HTK:=Lib.hid (take_snoc HRK.out);have hmf:=fun (fn:Fn) (first cap:Array Value) (w:World)=>(rfl:(Instr.makeFunc fn first cap).run Tryz.prog w = .ok (.func fn first cap) w)
         clear hh1 hs hs2;generalize hT:p.c.take k=T at hr1 HCL;have HT:=Lib.hid hT;clear hT;go_wp2_with fail;refine HCL.out.mono ?_;rintro e w3 ⟨v,rfl,hv,hb3⟩;have HV:=Lib.hid hv;have HB3:=Lib.hid (Xa HB2.out hb3);clear hv hb3 HCL hr1 hmf hk1 d0 e1 e2;cases v with
         | true =>
           have HN:Hid (¬ Xbe p):=fun h=>by
            obtain ⟨d,hd,ho⟩:=HV.out.1 rfl;have hp4:=(HO.out.1 h).2.2.2;rw[←List.take_append_drop (k+1) p.c,List.pairwise_append,HTK.out,List.pairwise_append] at hp4;exact hp4.1.2.2 d (by rw[HT.out]; exact hd) r (by simp) ho
           go_wp2;go_ret;exact Xa2 (by decide) HN.out (Xa HB0.out HB3.out)
         | false =>
           have HN1:Hid (∀c ∈ p.c.take (k+1),CtOK c∧c.src<p.q.length∧c.dst<p.q.length):=by
            intro c hc;rw[HTK.out] at hc;rcases List.mem_append.1 hc with h | h
            ·exact HOK.out c h
            ·rw[List.mem_singleton.1 h]; exact ⟨HCO.out,HRD.out⟩
           have HN2:Hid ((p.c.take (k+1)).Pairwise fun a b => ¬ Ovl b a):=by
            show List.Pairwise _ _;rw[HTK.out,List.pairwise_append];refine ⟨HPW.out,by simp,fun d hd c hc=>?_⟩
            rw[List.mem_singleton.1 hc];intro ho;have:=HV.out.2 ⟨d,by rw[←HT.out]; exact hd,ho⟩
            cases this
           go_wp2;go_roundw
           case rel=>exact ⟨k+1,by omega,by go_num,HB3.out,HN1.out,HN2.out⟩
           case measure=>simp[intOf]; omega
      ·have hqb:(q != 0)=true:=by rw[bne_iff_ne]; exact h0
       have H0:=Lib.hid h0;have HN:Hid (¬ Xbe p):=fun h=>H0.out (HQ2.out.2 ((HO.out.1 h).2.2.1 r (List.mem_of_getElem? HRK.out)).1);clear h0;go_wp2;go_ret;exact Xa2 H0.out HN.out (Xa HB0.out HB2.out)
     ·have HF:Hid (Xbe p):=by
       refine HO.out.2 ⟨HSZ.out,HQA.out,?_,?_⟩
       ·intro c hc;refine HOK.out c ?_;rw[List.take_of_length_le (by omega)]
        exact hc
       ·have:=HPW.out
        rwa [List.take_of_length_le (by omega)] at this
      go_wp2;go_ret;exact Xbf HF.out (Xa HB0.out HB.out)
abbrev bkA (b:Bkg):Array Value := #[.int .i64 b.ct,.int .i64 b.beg,.int .i64 b.fin,.int .i64 b.tick]
theorem Xoz {a b c:Bkg}(h:bkLt a b)(h':bkLt b c):bkLt a c:=by
 unfold bkLt at *;omega
theorem Xsc {L:List Bkg}{x r:Bkg}(h:(L ++ [x]).Pairwise bkLt)(hx:bkLt x r):(L ++ [x] ++ [r]).Pairwise bkLt:=by
 rw[List.pairwise_append];refine ⟨h,by simp,fun a ha b hb=>?_⟩
 rw[List.mem_singleton.1 hb];rcases List.mem_append.1 ha with h1 | h1
 ·rw[List.pairwise_append] at h;exact Xoz (h.2.2 a h1 x (by simp)) hx
 ·rw[List.mem_singleton.1 h1]; exact hx
theorem Xnw {α:Type}{P:α → Prop}{l:List α}{k:Nat}{r:α}(hk:l[k]? = some r)(h:∀x ∈ l.take k,P x)(hr:P r):∀x ∈ l.take (k+1),P x:=by
 intro x hx;rw[take_snoc hk] at hx;rcases List.mem_append.1 hx with h1 | h1
 ·exact h x h1
 ·rw[List.mem_singleton.1 h1]; exact hr
abbrev hdA (h:Hld):Array Value := #[.int .i64 h.node,.int .i64 h.frm,.int .i64 h.til,.int .i64 h.size,.int .i64 h.tick]
theorem Xs0 {a b:Hld}:hdLe a b↔(a.node<b.node∨a.node=b.node∧(a.frm<b.frm∨a.frm=b.frm∧(a.til<b.til∨a.til=b.til∧(a.tick<b.tick∨a.tick=b.tick∧a.size≤b.size)))):=by
 have h1:∀(x y:Int) (l m:List Int),cmpL (x :: l) (y :: m)≤0↔x<y∨x=y∧cmpL l m≤0:=by
  intro x y l m;have hc:cmpL (x :: l) (y :: m)=if x<y then -1 else if y<x then 1 else cmpL l m:=by rw[cmpL]
  rw[hc]
  split
  ·exact ⟨fun _ => .inl (by assumption),fun _=>by decide⟩
  ·split
   ·exact ⟨fun h=>absurd h (by decide),fun h=>by omega⟩
   ·exact ⟨fun h => .inr ⟨by omega,h⟩,fun h=>by rcases h with h | h; exact absurd h (by assumption); exact h.2⟩
 have h0:cmpL ([]:List Int) [] ≤ 0:=by decide
 unfold hdLe Xon;rw[h1,h1,h1,h1,h1];constructor
 ·intro h;rcases h with h | ⟨e1,h | ⟨e2,h | ⟨e3,h | ⟨e4,h | ⟨e5,_⟩⟩⟩⟩⟩ <;> omega
 ·intro h;rcases h with h | ⟨e1,h | ⟨e2,h | ⟨e3,h | ⟨e4,h⟩⟩⟩⟩
  ·exact .inl h
  ·exact .inr ⟨e1,.inl h⟩
  ·exact .inr ⟨e1,.inr ⟨e2,.inl h⟩⟩
  ·exact .inr ⟨e1,.inr ⟨e2,.inr ⟨e3,.inl h⟩⟩⟩
  ·by_cases h5:a.size<b.size
   ·exact .inr ⟨e1,.inr ⟨e2,.inr ⟨e3,.inr ⟨e4,.inl h5⟩⟩⟩⟩
   ·exact .inr ⟨e1,.inr ⟨e2,.inr ⟨e3,.inr ⟨e4,.inr ⟨by omega,h0⟩⟩⟩⟩⟩
theorem Xom {a b c:Hld}(h:hdLe a b)(h':hdLe b c):hdLe a c:=by
 rw[Xs0] at *;omega
theorem Xry {L:List Hld}{x r:Hld}(h:(L ++ [x]).Pairwise hdLe)(hx:hdLe x r):(L ++ [x] ++ [r]).Pairwise hdLe:=by
 rw[List.pairwise_append];refine ⟨h,by simp,fun a ha b hb=>?_⟩
 rw[List.mem_singleton.1 hb];rcases List.mem_append.1 ha with h1 | h1
 ·rw[List.pairwise_append] at h;exact Xom (h.2.2 a h1 x (by simp)) hx
 ·rw[List.mem_singleton.1 h1]; exact hx
structure Xcm (w:World)(Aq:Option Addr)(cq:Nat)(Ac:Option Addr)(cc:Nat)(B:Option Addr)(cb:Nat)(H:Option Addr)(ch:Nat)(t:Tbl):Prop where
 p:Xas w Aq cq Ac cc t.p
 b:SlAt bkE w B t.b
 h:SlAt hdE w H t.h
 bl:t.b.length≤cb
 hl:t.h.length≤ch
 bm:t.b.length≤maxLen
 hm:t.h.length≤maxLen
theorem Xcm.below {w w':World}{Aq Ac B H:Option Addr}{cq cc cb ch:Nat}{t:Tbl}(h:Xcm w Aq cq Ac cc B cb H ch t)(hb:Below w.heap.size w w'):Xcm w' Aq cq Ac cc B cb H ch t:=⟨h.p.below hb,h.b.below hb,h.h.below hb,h.bl,h.hl,h.bm,h.hm⟩
end Go.Proofs.YtebkgbmijocdjaaGreat.Tp
