/- A part of the proof for the ledger. No condition beyond those that each theorem states. -/
import Derived.Test.YtebkgbmijocdjaaGreatZ32
set_option maxHeartbeats 32000000
set_option maxRecDepth 100000
set_option linter.unusedVariables false
set_option linter.unusedSimpArgs false
namespace Go.Proofs.YtebkgbmijocdjaaGreat.Tp
open Go Go.RowKit
theorem Xhu (Aq:Option Addr)(cq:Nat)(Ac:Option Addr)(cc:Nat)(p:Pln)(k:Tk)(A:Option Addr)(cA:Nat)(bf:Int)(w:World)(hp:Xas w Aq cq Ac cc p)(h:HpAt w A cA k.hops)(hl:k.hops.length≤1000000) :
  Calls Tryz.prog 109 #[.agg (plA Aq cq Ac cc p),.agg (tkA k A cA),.int .i64 bf] w (Xd ((bf<k.num∧k.num≤1152921504606846976)∧TkOK p k) w):=by
 have HP:=Lib.hid hp;have HS:=Lib.hid h;obtain ⟨_,_,rfl,rfl,-,HB0,HK0,HK1⟩:=box2 w 25 (plA Aq cq Ac cc p) 55 (tkA k A cA);have HRQ:=Lib.hid (fun w' hb' => Xc5 Aq cq Ac cc p k.rq w' (hp.below (w':=w') hb'));have HRC:=Lib.hid (fun w' hb' => Xkw Aq cq Ac cc p k.rq A cA k.hops w' (hp.below (w':=w') hb') (h.below hb').s (by unfold maxLen; omega))
 have HTK:Hid (((bf<k.num∧k.num≤1152921504606846976)∧TkOK p k)↔((bf<k.num∧k.num≤1152921504606846976)∧RqOK p k.rq∧(k.st=1∧Xax p k.rq k.hops∧k.til=0∨k.st=2∧(k.hops = [] ∨ Xg8 p k.rq k.hops)∧0≤k.til∧k.til≤1099511627776))):=Iff.rfl;have HNL:Hid (k.hops = [] ↔ (k.hops.length:Int)=0):=by
  show _↔_;rw[←List.length_eq_zero_iff]; omega
 clear hp h;have a0:=HK0.out.c2;have k0:=HK1.out.c11;generalize ((bf<k.num∧k.num≤1152921504606846976)∧TkOK p k)=G at HTK ⊢
 by_cases h1:k.num≤bf
 ·have HN:Hid (¬ G):=fun h=>by have:=(HTK.out.1 h).1; omega
  go_enter Tryz.func109,Tryz.ntmps109;go_wp2;go_ret;exact Xa2 (by decide) HN.out HB0.out
 ·by_cases h2:(1152921504606846976:Int)<k.num
  ·have HN:Hid (¬ G):=fun h=>by have:=(HTK.out.1 h).1; omega
   go_enter Tryz.func109,Tryz.ntmps109;go_wp2;go_ret;exact Xa2 (by decide) HN.out HB0.out
  ·have HNUM:Hid (bf<k.num∧k.num≤1152921504606846976):=⟨by omega,by omega⟩
   by_cases h3:k.st=1
   ·have d1:(k.st == 1)=true:=by simpa using h3
    have d2:(k.st != 1)=false:=by simpa using h3
    have d3:(k.st == 2)=false:=by rw[h3]; rfl
    have HGI:Hid (RqOK p k.rq→(G↔Xax p k.rq k.hops∧k.til=0)):=fun hq=>⟨fun h=>by
     rcases (HTK.out.1 h).2.2 with h | h
     ·exact h.2
     ·have:=h.1; omega,fun h=>HTK.out.2 ⟨HNUM.out,hq,.inl ⟨h3,h⟩⟩⟩
    have HGQ:Hid (¬ RqOK p k.rq → ¬ G):=fun hn h=>hn (HTK.out.1 h).2.1;clear HTK HNUM h3;go_enter Tryz.func109,Tryz.ntmps109;go_wp2_with fail;clear a0 k0;generalize ((w.alloc (.cells (plA Aq cq Ac cc p) 25)).alloc (.cells (tkA k A cA) 55))=W at HB0 HK0 HK1 ⊢;generalize hn0:w.heap.size=n0 at HB0 HK0 HK1 ⊢;refine (HRQ.out W (by rw[hn0]; exact HB0.out)).mono ?_
    rintro e w1 ⟨q1,rfl,hq1,hb1⟩;have HM0:=Lib.hid (HK0.out.below hb1 HK0.out.lt);have HM1:=Lib.hid (HK1.out.below hb1 HK1.out.lt);have HB1:Hid (Below n0 w w1):=HB0.out.trans (hb1.mono (by have:=HK1.out.lt; omega))
    clear hb1 HB0 HK0 HK1 HRQ
    by_cases hz:q1=0
    ·subst hz;have HRO:=Lib.hid (HGI.out (hq1.1 rfl));clear hq1 HGI HGQ;have a0:=HM0.out.c2;have k0:=HM1.out.c11;go_wp2_with fail;clear a0 k0;refine (HRC.out w1 (by rw[hn0]; exact HB1.out)).mono ?_
     rintro e w2 ⟨r,rfl,hr0,hr18,hb2⟩;have HN1:=Lib.hid (HM1.out.below hb2 HM1.out.lt);have HB2:Hid (Below n0 w w2):=HB1.out.trans (hb2.mono (by have:=HM1.out.lt; omega))
     have k0:=HN1.out.c11
     by_cases r0:r=0
     ·have f1:(r == 0)=true:=by simpa using r0
      by_cases t0:k.til=0
      ·have f2:(k.til == 0)=true:=by simpa using t0
       have HF:Hid (G):=HRO.out.2 ⟨hr0.1 r0,t0⟩;clear hr0 hr18 HRO hb2 HB1 HM0 HM1 HN1;go_wp2;go_ret;exact Xbf HF.out (by rw[hn0]; exact HB2.out)
      ·have f2:(k.til == 0)=false:=by simpa using t0
       have HF:Hid (¬ G):=fun h=>t0 (HRO.out.1 h).2;clear hr0 hr18 HRO hb2 HB1 HM0 HM1 HN1;go_wp2;go_ret;exact Xa2 (by decide) HF.out (by rw[hn0]; exact HB2.out)
     ·have f1:(r == 0)=false:=by simpa using r0
      have HF:Hid (¬ G):=fun h=>r0 (hr0.2 (HRO.out.1 h).1);clear hr0 hr18 HRO hb2 HB1 HM0 HM1 HN1;go_wp2;go_ret;exact Xa2 (by decide) HF.out (by rw[hn0]; exact HB2.out)
    ·have hzb:(q1 != 0)=true:=by rw[bne_iff_ne]; exact hz
     have HN:=Lib.hid (HGQ.out fun h=>hz (hq1.2 h));clear hq1 hz HGI HGQ;go_wp2;go_ret;exact Xa2 (by decide) HN.out (by rw[hn0]; exact HB1.out)
   ·by_cases h4:k.st=2
    ·have d1:(k.st == 2)=true:=by simpa using h4
     have d2:(k.st != 2)=false:=by simpa using h4
     have d3:(k.st == 1)=false:=by simpa using h3
     have d4:(k.st != 1)=true:=by simpa using h3
     have HGI:Hid (RqOK p k.rq→(G↔(k.hops = [] ∨ Xg8 p k.rq k.hops)∧0≤k.til∧k.til≤1099511627776)):=fun hq=>⟨fun h=>by
      rcases (HTK.out.1 h).2.2 with h | h
      ·exact absurd h.1 h3
      ·exact h.2,fun h=>HTK.out.2 ⟨HNUM.out,hq,.inr ⟨h4,h⟩⟩⟩
     have HGQ:Hid (¬ RqOK p k.rq → ¬ G):=fun hn h=>hn (HTK.out.1 h).2.1;clear HTK HNUM h3 h4;go_enter Tryz.func109,Tryz.ntmps109;go_wp2_with fail;clear a0 k0;generalize ((w.alloc (.cells (plA Aq cq Ac cc p) 25)).alloc (.cells (tkA k A cA) 55))=W at HB0 HK0 HK1 ⊢;generalize hn0:w.heap.size=n0 at HB0 HK0 HK1 ⊢;refine (HRQ.out W (by rw[hn0]; exact HB0.out)).mono ?_
     rintro e w1 ⟨q1,rfl,hq1,hb1⟩;have HM0:=Lib.hid (HK0.out.below hb1 HK0.out.lt);have HM1:=Lib.hid (HK1.out.below hb1 HK1.out.lt);have HB1:Hid (Below n0 w w1):=HB0.out.trans (hb1.mono (by have:=HK1.out.lt; omega))
     clear hb1 HB0 HK0 HK1 HRQ
     by_cases hz:q1=0
     ·subst hz;have HRO:=Lib.hid (HGI.out (hq1.1 rfl));clear hq1 HGI HGQ;have a0:=HM0.out.c2;have k0:=HM1.out.c11;go_wp2_with fail;clear a0 k0;refine (HRC.out w1 (by rw[hn0]; exact HB1.out)).mono ?_
      rintro e w2 ⟨r,rfl,hr0,hr18,hb2⟩;have HN1:=Lib.hid (HM1.out.below hb2 HM1.out.lt);have HB2:Hid (Below n0 w w2):=HB1.out.trans (hb2.mono (by have:=HM1.out.lt; omega))
      have k0:=HN1.out.c11
      by_cases l0:(k.hops.length:Int)=0
      ·have f1:((k.hops.length:Int) == 0)=true:=by simpa using l0
       by_cases t0:(0:Int)≤k.til
       ·by_cases t1:k.til≤(1099511627776:Int)
        ·have g1:decide (k.til≤1099511627776)=true:=decide_eq_true t1;have g0:decide (0≤k.til)=true:=decide_eq_true t0;have HF:Hid (G):=HRO.out.2 ⟨.inl (HNL.out.2 l0),t0,t1⟩;clear hr0 hr18 HRO hb2 HB1 HM0 HM1 HN1;go_wp2;go_ret;exact Xbf HF.out (by rw[hn0]; exact HB2.out)
        ·have g1:decide (k.til≤1099511627776)=false:=decide_eq_false t1;have g0:decide (0≤k.til)=true:=decide_eq_true t0;have HF:Hid (¬ G):=fun h=>t1 (HRO.out.1 h).2.2;clear hr0 hr18 HRO hb2 HB1 HM0 HM1 HN1;go_wp2;go_ret;exact Xa2 (by decide) HF.out (by rw[hn0]; exact HB2.out)
       ·have g0:decide (0≤k.til)=false:=decide_eq_false t0;have HF:Hid (¬ G):=fun h=>t0 (HRO.out.1 h).2.1;clear hr0 hr18 HRO hb2 HB1 HM0 HM1 HN1;go_wp2;go_ret;exact Xa2 (by decide) HF.out (by rw[hn0]; exact HB2.out)
      ·have f1:((k.hops.length:Int) == 0)=false:=by simpa using l0
       by_cases r0:r=18
       ·have f2:(r == 18)=true:=by simpa using r0
        by_cases t0:(0:Int)≤k.til
        ·by_cases t1:k.til≤(1099511627776:Int)
         ·have g1:decide (k.til≤1099511627776)=true:=decide_eq_true t1;have g0:decide (0≤k.til)=true:=decide_eq_true t0;have HF:Hid (G):=HRO.out.2 ⟨.inr (hr18.1 r0),t0,t1⟩;clear hr0 hr18 HRO hb2 HB1 HM0 HM1 HN1;go_wp2;go_ret;exact Xbf HF.out (by rw[hn0]; exact HB2.out)
         ·have g1:decide (k.til≤1099511627776)=false:=decide_eq_false t1;have g0:decide (0≤k.til)=true:=decide_eq_true t0;have HF:Hid (¬ G):=fun h=>t1 (HRO.out.1 h).2.2;clear hr0 hr18 HRO hb2 HB1 HM0 HM1 HN1;go_wp2;go_ret;exact Xa2 (by decide) HF.out (by rw[hn0]; exact HB2.out)
        ·have g0:decide (0≤k.til)=false:=decide_eq_false t0;have HF:Hid (¬ G):=fun h=>t0 (HRO.out.1 h).2.1;clear hr0 hr18 HRO hb2 HB1 HM0 HM1 HN1;go_wp2;go_ret;exact Xa2 (by decide) HF.out (by rw[hn0]; exact HB2.out)
       ·have f2:(r == 18)=false:=by simpa using r0
        have HF:Hid (¬ G):=fun h=>(HRO.out.1 h).1.elim (fun h=>l0 (HNL.out.1 h)) fun h=>r0 (hr18.2 h);clear hr0 hr18 HRO hb2 HB1 HM0 HM1 HN1;go_wp2;go_ret;exact Xa2 (by decide) HF.out (by rw[hn0]; exact HB2.out)
     ·have hzb:(q1 != 0)=true:=by rw[bne_iff_ne]; exact hz
      have HN:=Lib.hid (HGQ.out fun h=>hz (hq1.2 h));clear hq1 hz HGI HGQ;go_wp2;go_ret;exact Xa2 (by decide) HN.out (by rw[hn0]; exact HB1.out)
    ·have HN:Hid (¬ G):=fun h=>by
      rcases (HTK.out.1 h).2.2 with h | h
      ·exact h3 h.1
      ·exact h4 h.1
     have d1:(k.st != 1)=true:=by simpa using h3
     have d2:(k.st != 2)=true:=by simpa using h4
     clear h3 h4;go_enter Tryz.func109,Tryz.ntmps109;go_wp2;go_ret;exact Xa2 (by decide) HN.out HB0.out
def Xf3 (t:Tbl):Prop:=t.b.length≤512∧t.h.length≤512
def ExT (p:Pln)(ts:List Tk)(vs:List Int)(now:Int)(t:Tbl):Prop:=∃t0,TblR p ts t0∧Xf3 t0∧t = { t0 with b:=Xgj vs now t0.b }
def Xn5 (p:Pln)(now:Int)(ts:List Tk)(n:Int)(vs:List Int)(ts':List Tk)(mv:Bool):Prop :=
 ∃k,Xbg ts n=some k ∧ ∃nd tm,(posF p now k).getD (0,0)=(nd,tm) ∧ ∃t,ExT p (setT ts (Xao now tm k)) vs now t ∧
  (mv=true∧(∃m,EarR t { k.rq with src:=nd,ready:=tm } (some m)∧ts' = setT (setT ts (Xao now tm k)) (resF now m k)) ∨
   mv=false∧EarR t { k.rq with src:=nd,ready:=tm } none∧k.rq.cust=false∧ts' = setT (setT ts (Xao now tm k)) (Xao now now k))
inductive Xd0 (p:Pln)(now:Int):List Tk→List Int→List Int→List Int→List Tk→Prop
 | nil (ts:List Tk):Xd0 p now ts [] [] [] ts
 | moved {ts ts1 ts':List Tk} {n:Int} {vs M D:List Int}:Xn5 p now ts n vs ts1 true→Xd0 p now ts1 vs M D ts' → Xd0 p now ts (n :: vs) (n :: M) D ts'
 | dropped {ts ts1 ts':List Tk} {n:Int} {vs M D:List Int}:Xn5 p now ts n vs ts1 false→Xd0 p now ts1 vs M D ts' → Xd0 p now ts (n :: vs) M (n :: D) ts'
structure AccO where
 ts:List Tk
 acc:Bool
 num:Int
 mv:List Int
 dr:List Int
inductive AccR (p:Pln)(ts:List Tk)(q:Rq)(now:Int):AccO→Prop
 | refused {t:Tbl}:TblR p ts t→EarR t q none→AccR p ts q now ⟨ts,false,0, [], []⟩
 | plain {t:Tbl} {m:List Hop}:TblR p ts t→EarR t q (some m)→(∃t',TblR p (setT ts ⟨Xad ts,q,m,1,0⟩) t' ∧ Xf3 t')→AccR p ts q now ⟨setT ts ⟨Xad ts,q,m,1,0⟩,true,Xad ts, [], []⟩
 | exch {t t2:Tbl} {pl:Option (List Hop)} {m:List Hop} {M D:List Int} {ts':List Tk}:q.prio=2→TblR p ts t→EarR t q pl→TblR p ts t2→EarR { t2 with b:=Xgj (Xbk p now ts) now t2.b } q (some m)→(∀m0,pl=some m0→Xac m<Xac m0) →
    Xd0 p now (setT ts ⟨Xad ts,q,m,1,0⟩) (vicF p now m (setT ts ⟨Xad ts,q,m,1,0⟩)) M D ts' → (∃t',ExT p ts' [] now t')→AccR p ts q now ⟨ts',true,Xad ts,M,D⟩
theorem Xcd {ts:List Tk}(hn:Xbh ts){k:Tk}(hk:k ∈ ts):Xbg ts k.num=some k:=by
 induction ts with
 | nil=>simp at hk
 | cons x l ih =>
   unfold Xbg at ih ⊢;rw[List.find?_cons];rcases List.mem_cons.1 hk with e | e
   ·subst e; simp
   ·have:=(List.pairwise_cons.1 hn.2).1 k e;have h2:¬ x.num=k.num:=by omega
    simp only[h2,decide_false];exact ih ⟨fun y hy=>hn.1 y (by simp[hy]),(List.pairwise_cons.1 hn.2).2⟩ e
theorem Xeu {ts:List Tk}(hn:Xbh ts){a b:Tk}(ha:a ∈ ts)(hb:b ∈ ts)(h:a.num=b.num):a=b:=by
 have h1:=Xcd hn ha;rw[h,Xcd hn hb] at h1;exact (Option.some.inj h1).symm
theorem Xe3 {ts:List Tk}(hn:Xbh ts):0<Xad ts ∧ ∀k ∈ ts,k.num<Xad ts:=by
 unfold Xad;cases h:ts.getLast? with
 | none =>
   rw[List.getLast?_eq_none_iff] at h;subst h;simp
 | some k =>
   obtain ⟨l,rfl⟩:=List.getLast?_eq_some_iff.1 h;simp only;have h1:=hn.1 k (by simp)
   refine ⟨by omega,fun y hy=>?_⟩
   rcases List.mem_append.1 hy with e | e
   ·have:=(List.pairwise_append.1 hn.2).2.2 y e k (by simp)
    omega
   ·rw[List.mem_singleton.1 e]; omega
theorem Xb {ts:List Tk}(hn:Xbh ts){k:Tk}(hk:k.num=Xad ts):setT ts k=ts ++ [k]:=Xna fun x hx=>by have:=(Xe3 hn).2 x hx; omega
def Al (R:Tk→Tk→Prop)(ts ts':List Tk):Prop:=ts'.length=ts.length ∧ ∀(i:Nat)(a b:Tk),ts[i]? = some a→ts'[i]? = some b→R a b
theorem Al.refl {R:Tk→Tk→Prop}(h:∀a,R a a)(ts:List Tk):Al R ts ts:=⟨rfl,fun i a b ha hb=>by rw[ha] at hb; cases hb; exact h a⟩
theorem Al.trans {R S T:Tk→Tk→Prop}{a b c:List Tk}(hRS:∀x y z,R x y→S y z→T x z)(h:Al R a b)(k:Al S b c):Al T a c:=by
 refine ⟨k.1.trans h.1,fun i x z hx hz=>?_⟩;have hi:i<b.length:=by have:=(List.getElem?_eq_some_iff.1 hx).1; rw[h.1]; exact this
 have hy:b[i]? = some b[i]:=List.getElem?_eq_getElem hi;exact hRS x _ z (h.2 i x _ hx hy) (k.2 i _ z hy hz)
theorem Al.one {R:Tk→Tk→Prop}(h:∀a,R a a)(pre post:List Tk){k k':Tk}(hk:R k k'):Al R (pre ++ k :: post) (pre ++ k' :: post):=by
 refine ⟨by simp,fun i a b ha hb=>?_⟩
 by_cases h1:i<pre.length
 ·rw[List.getElem?_append_left h1] at ha hb;rw[ha] at hb; cases hb; exact h a
 ·rw[List.getElem?_append_right (by omega)] at ha hb
  cases e:i - pre.length with
  | zero=>rw[e] at ha hb; simp at ha hb; rw[←ha, ←hb]; exact hk
  | succ j=>rw[e] at ha hb; simp at ha hb; rw[ha] at hb; cases hb; exact h a
theorem Al.mem {R:Tk→Tk→Prop}{ts ts':List Tk}(h:Al R ts ts'){b:Tk}(hb:b ∈ ts'):∃a ∈ ts,R a b:=by
 obtain ⟨i,hi⟩:=List.getElem?_of_mem hb;have h1:=(List.getElem?_eq_some_iff.1 hi).1;obtain ⟨y,h2⟩:∃y,ts[i]? = some y:=⟨_,List.getElem?_eq_getElem (by rw[←h.1]; exact h1)⟩
 exact ⟨_,List.mem_of_getElem? h2,h.2 i _ b h2 hi⟩
theorem Al.mem' {R:Tk→Tk→Prop}{ts ts':List Tk}(h:Al R ts ts'){a:Tk}(ha:a ∈ ts):∃b ∈ ts',R a b:=by
 obtain ⟨i,hi⟩:=List.getElem?_of_mem ha;have h1:=(List.getElem?_eq_some_iff.1 hi).1;obtain ⟨y,h2⟩:∃y,ts'[i]? = some y:=⟨_,List.getElem?_eq_getElem (by rw[h.1]; exact h1)⟩
 exact ⟨_,List.mem_of_getElem? h2,h.2 i a _ hi h2⟩
def Xbv (V:List Int)(a b:Tk):Prop:=b.num=a.num∧b.rq=a.rq∧(b ≠ a→a.num ∈ V)
theorem Xbv.refl (V:List Int)(a:Tk):Xbv V a a:=⟨rfl,rfl,fun h=>absurd rfl h⟩
theorem Xbv.trans {V:List Int}{a b c:Tk}(h:Xbv V a b)(k:Xbv V b c):Xbv V a c:=by
 refine ⟨k.1.trans h.1,k.2.1.trans h.2.1,fun hne=>?_⟩
 by_cases e:b=a
 ·subst e; exact k.2.2 hne
 ·exact h.2.2 e
theorem Xbv.mono {V W:List Int}(hVW:∀n ∈ V,n ∈ W){a b:Tk}(h:Xbv V a b):Xbv W a b:=⟨h.1,h.2.1,fun e=>hVW _ (h.2.2 e)⟩
theorem Al.mono {R S:Tk→Tk→Prop}(h:∀a b,R a b→S a b){ts ts':List Tk}(k:Al R ts ts'):Al S ts ts':=⟨k.1,fun i a b ha hb=>h a b (k.2 i a b ha hb)⟩
theorem Xrm {V:List Int}{ts ts':List Tk}(h:Al (Xbv V) ts ts')(hn:Xbh ts):Xbh ts':=by
 have e:ts'.map (·.num)=ts.map (·.num):=by
  apply List.ext_getElem?;intro i;rw[List.getElem?_map,List.getElem?_map]
  by_cases hi:i<ts.length
  ·have h1:ts[i]? = some ts[i]:=List.getElem?_eq_getElem hi;obtain ⟨y,h2⟩:∃y,ts'[i]? = some y:=⟨_,List.getElem?_eq_getElem (by rw[h.1]; exact hi)⟩
   rw[h1,h2];simp only[Option.map_some];rw[(h.2 i _ _ h1 h2).1]
  ·rw[List.getElem?_eq_none (by rw[h.1]; omega),List.getElem?_eq_none (by omega)]
 refine ⟨fun k hk=>?_,?_⟩
 ·have:k.num ∈ ts'.map (·.num):=List.mem_map.2 ⟨k,hk,rfl⟩;rw[e] at this;obtain ⟨a,ha,h2⟩:=List.mem_map.1 this;rw[←h2]; exact hn.1 a ha
 ·have h1:(ts'.map (·.num)).Pairwise (· < ·):=by rw[e,List.pairwise_map]; exact hn.2
  rwa [List.pairwise_map] at h1
def JC (ts:List Tk):Prop:=∀k ∈ ts,k.rq.cust=true→k.st=1∧k.hops ≠ [] ∧ Xac k.hops≤k.rq.dead
theorem Xhf:∀(l:List Hop){m:List Hop},m ≠ [] → Xac (l ++ m)=Xac m
 | [],m,_=>rfl
 | [x],m,h=>by
   cases m with
   | nil=>exact absurd rfl h
   | cons a m=>rfl
 | x :: y :: l,m,h=>by
   have:=Xhf (y :: l) h;rw[List.cons_append,List.cons_append];rw[List.cons_append] at this;exact this
theorem EarR.good {t:Tbl}{q:Rq}{m:List Hop}(h:EarR t q (some m)):m ≠ [] ∧ Xac m≤q.dead ∧ ∃n,Xdi t q=some n∧Good t q n m:=by
 obtain ⟨ht,hq,n,hb,he⟩:=h;have hg:=he.fine ht hq;refine ⟨hg.rt.2.1,?_,n,hb,hg⟩;have:=hg.rt.2.2.2.2.2
 rwa [Xhe _ hg.rt.2.1] at this
theorem Xh6 {p:Pln}{now:Int}{ts ts':List Tk}{n:Int}{vs:List Int}{mv:Bool}(h:Xn5 p now ts n vs ts' mv)(hJ:JC ts):Al (Xbv [n]) ts ts' ∧ JC ts':=by
 obtain ⟨k,hf,nd,tm,hpos,t,hx,h⟩:=h;obtain ⟨hk,pre,post,rfl,hpre⟩:=Xau hf;have h1:setT (pre ++ k :: post) (Xao now tm k)=pre ++ Xao now tm k :: post:=Xcq rfl (fun x hx=>by have:=hpre x hx; show x.num ≠ k.num; rw[hk]; exact this)
 rw[h1] at h;have h2:∀k':Tk,k'.num=k.num→setT (pre ++ Xao now tm k :: post) k' = pre ++ k' :: post:=fun k' e=>Xcq (by rw[e]; rfl) (fun x hx=>by rw[e,hk]; exact hpre x hx)
 have hJ1:∀x ∈ pre ++ post,x.rq.cust=true→x.st=1∧x.hops ≠ [] ∧ Xac x.hops≤x.rq.dead:=fun x hx=>hJ x (by
  rcases List.mem_append.1 hx with e | e
  ·simp[e]
  ·simp[e])
 have fin:∀k':Tk,k'.num=k.num→k'.rq=k.rq→(k'.rq.cust=true→k'.st=1∧k'.hops ≠ [] ∧ Xac k'.hops≤k'.rq.dead)→Al (Xbv [n]) (pre ++ k :: post) (pre ++ k' :: post)∧JC (pre ++ k' :: post):=fun k' e1 e2 hc=>by
  refine ⟨Al.one (Xbv.refl _) pre post ⟨e1,e2,fun _=>by rw[hk]; simp⟩,fun x hx=>?_⟩
  rcases List.mem_append.1 hx with e | e
  ·exact hJ1 x (by simp[e])
  ·rcases List.mem_cons.1 e with e | e
   ·rw[e]; exact hc
   ·exact hJ1 x (by simp[e])
 rcases h with ⟨_,m,he,rfl⟩ | ⟨_,_,hc,rfl⟩
 ·rw[h2 (resF now m k) rfl];obtain ⟨g1,g2,_⟩:=he.good;refine fin _ rfl rfl fun hc=>?_;have:=hJ k (by simp) hc
  refine ⟨this.1,by unfold resF; simp[g1],?_⟩
  unfold resF;rw[Xhf _ g1];exact g2
 ·rw[h2 (Xao now now k) rfl];refine fin _ rfl rfl fun hc' => ?_;have:k.rq.cust=true:=hc';rw[hc] at this;cases this
theorem Xla {p:Pln}{now:Int}{ts ts':List Tk}{vs M D:List Int}(h:Xd0 p now ts vs M D ts')(hJ:JC ts):Al (Xbv vs) ts ts' ∧ JC ts' ∧ (vs ≠ [] → M ≠ [] ∨ D ≠ []):=by
 induction h with
 | nil ts=>exact ⟨Al.refl (Xbv.refl _) ts,hJ,fun h=>absurd rfl h⟩
 | moved h1 _ ih =>
   obtain ⟨a1,j1⟩:=Xh6 h1 hJ;obtain ⟨a2,j2,_⟩:=ih j1;exact ⟨Al.trans (fun x y z h h' => Xbv.trans (h.mono (by simp)) (h'.mono (fun n hn=>List.mem_cons_of_mem _ hn))) a1 a2,j2,fun _ => .inl (by simp)⟩
 | dropped h1 _ ih =>
   obtain ⟨a1,j1⟩:=Xh6 h1 hJ;obtain ⟨a2,j2,_⟩:=ih j1;exact ⟨Al.trans (fun x y z h h' => Xbv.trans (h.mono (by simp)) (h'.mono (fun n hn=>List.mem_cons_of_mem _ hn))) a1 a2,j2,fun _ => .inr (by simp)⟩
theorem Xgw {p:Pln}{now:Int}{m:List Hop}{ts:List Tk}{n:Int}(h:n ∈ vicF p now m ts):∃k ∈ ts,k.num=n∧k.rq.prio<2∧Xd1 p now k=true:=by
 have h1:=(List.mem_filter.1 h).1;obtain ⟨k,hk,e⟩:=List.mem_map.1 h1;obtain ⟨h2,h3⟩:=List.mem_filter.1 hk;simp only[Bool.and_eq_true,decide_eq_true_eq] at h3;exact ⟨k,h2,e,h3.1,h3.2⟩
theorem Xsh {p:Pln}{ts:List Tk}{q:Rq}{now:Int}{o:AccO}(h:AccR p ts q now o)(hn:Xbh ts)(hJ:JC ts) :
  JC o.ts∧ts.length≤o.ts.length ∧ ∀(i:Nat) (a b:Tk),ts[i]? = some a→o.ts[i]? = some b→b.num=a.num∧b.rq=a.rq∧(a.rq.prio=2→b=a)∧(b ≠ a→o.mv ≠ [] ∨ o.dr ≠ []):=by
 cases h with
 | refused _ _=>exact ⟨hJ,Nat.le_refl _,fun i a b ha hb=>by rw[ha] at hb; cases hb; exact ⟨rfl,rfl,fun _=>rfl,fun h=>absurd rfl h⟩⟩
 | plain h1 h2 h3 =>
   obtain ⟨g1,g2,_⟩:=h2.good;rw[Xb hn rfl];refine ⟨fun k hk=>?_,by simp,fun i a b ha hb=>?_⟩
   ·rcases List.mem_append.1 hk with e | e
    ·exact hJ k e
    ·rw[List.mem_singleton.1 e]; exact fun _=>⟨rfl,g1,g2⟩
   ·rw[List.getElem?_append_left (List.getElem?_eq_some_iff.1 ha).1,ha] at hb;cases hb;exact ⟨rfl,rfl,fun _=>rfl,fun h=>absurd rfl h⟩
 | exch hp h1 h2 h3 h4 h5 h6 h7 =>
   rename_i t t2 pl m M D ts'
   obtain ⟨g1,g2,_⟩:=h4.good;rw[Xb hn rfl] at h6;have hJ2:JC (ts ++ [⟨Xad ts,q,m,1,0⟩]):=fun k hk=>by
    rcases List.mem_append.1 hk with e | e
    ·exact hJ k e
    ·rw[List.mem_singleton.1 e]; exact fun _=>⟨rfl,g1,g2⟩
   obtain ⟨a1,j1,c1⟩:=Xla h6 hJ2;refine ⟨j1,by have:=a1.1; simp at this; show _≤ts'.length; omega,fun i a b ha hb=>?_⟩
   have hs:=a1.2 i a b (by rw[List.getElem?_append_left (List.getElem?_eq_some_iff.1 ha).1]; exact ha) hb
   refine ⟨hs.1,hs.2.1,fun hpr=>?_,fun hne=>?_⟩
   ·by_cases e:b=a
    ·exact e
    ·exfalso
     obtain ⟨k,hk,e1,e2,_⟩:=Xgw (hs.2.2 e);rcases List.mem_append.1 hk with e3 | e3
     ·have:=Xeu hn e3 (List.mem_of_getElem? ha) e1;subst this;omega
     ·rw[List.mem_singleton.1 e3] at e1;have:=(Xe3 hn).2 a (List.mem_of_getElem? ha);simp only at e1;omega
   ·exact c1 (fun e=>by
     have:=hs.2.2 hne;rw[e] at this;simp at this)
end Go.Proofs.YtebkgbmijocdjaaGreat.Tp
