/- A part of the proof for the ledger. No condition beyond those that each theorem states. -/
import Derived.Test.YtebkgbmijocdjaaGreatZ39
set_option maxHeartbeats 32000000
set_option maxRecDepth 100000
set_option linter.unusedVariables false
set_option linter.unusedSimpArgs false
namespace Go.Proofs.YtebkgbmijocdjaaGreat.Tp
open Go Go.RowKit
theorem Xqh:(Tryz.prog.info? 3).map (fun i=>(i.zero,i.size,i.bytes))=some (some (.int .i64 0),1,8):=by kernel_rfl
theorem Xnz (p:Pln)(now:Int)(ts:List Tk)(x:Tk):Xbk p now (ts ++ [x])=Xbk p now ts ++ (if x.rq.prio<2∧Xd1 p now x=true then [x.num] else []):=by
 unfold Xbk;rw[List.filter_append,List.map_append]
 congr 1
 by_cases h:x.rq.prio<2∧Xd1 p now x=true
 ·rw[if_pos h,List.filter_cons,if_pos (by rw[decide_eq_true h.1,h.2]; rfl)]; rfl
 ·rw[if_neg h,List.filter_cons,if_neg (by
   intro e;rw[Bool.and_eq_true] at e;exact h ⟨of_decide_eq_true e.1,e.2⟩)]; rfl
theorem Xf5 (p:Pln)(now:Int)(ts:List Tk):(Xbk p now ts).length≤ts.length:=by
 unfold Xbk;rw[List.length_map];exact List.length_filter_le _ _
theorem Xia (Aq:Option Addr)(cq:Nat)(Ac:Option Addr)(cc:Nat)(p:Pln)(A:Option Addr)(ct:Nat)(ts:List Tk)(now:Int)(w:World)(h:LgAt w Aq cq Ac cc p A ct ts)(hok:Xbe p)(hb:∀k ∈ ts,∀x ∈ k.hops,HopB p x) :
  Calls Tryz.prog 113 #[.agg (lgA Aq cq Ac cc p A ts.length ct),.int .i64 now] w (Xcz intE (Xbk p now ts) w):=by
 have HP:=Lib.hid h.p;have HT:=Lib.hid h.t;have HOK:=Lib.hid hok;have HHB:=Lib.hid hb;have HTM:Hid (ts.length≤100):=h.tm;have HHM:=Lib.hid h.hm;obtain ⟨_,_,rfl,rfl,-,HB0,HK0⟩:=box1 w 53 (lgA Aq cq Ac cc p A ts.length ct);have a0:=HK0.out.c4;obtain ⟨i0,hi0,hz0,hz1,hz2⟩:=info_parts Xqh;have HI:=Lib.hid (And.intro hi0 (And.intro hz0 (And.intro hz1 hz2)));clear h hok hb hi0 hz0 hz1 hz2;go_enter Tryz.func113,Tryz.ntmps113;go_wp2_with fail;clear a0;generalize (w.alloc (.cells (lgA Aq cq Ac cc p A ts.length ct) 53))=W at HB0 HK0 ⊢;generalize hn0:w.heap.size=n0 at HB0 HK0 ⊢;go_loopw [5,7,11] (fun v _ i wr => ∃j:Nat,j≤ts.length∧i = .int .i64 j∧Below n0 w wr∧Bk wr n0 53 (lgA Aq cq Ac cc p A ts.length ct)∧wr.ownsRow n0 3 1 v (Xbk p now (ts.take j)).length ((Xbk p now (ts.take j)).flatMap intE.f)) (fun _ _ i _=>ts.length - (intOf i).toNat)
 case atStart=>exact ⟨0,Nat.zero_le _,rfl,HB0.out,HK0.out,World.ownsRow_nil _ _ _ _⟩
 case round =>
  obtain ⟨j,hj,rfl,hbw,hlg,hown⟩:=hrel;have HB:=Lib.hid hbw;have HG:=Lib.hid hlg;have HO:=Lib.hid hown;clear hbw hlg hown HB0 HK0;have hj100:(j:Int)≤100:=by have:=HTM.out; omega
  by_cases hlt:j<ts.length
  ·obtain ⟨b,off,rfl,hr⟩:=HT.out.one (by omega)
   obtain ⟨x,hx⟩:∃x,ts[j]? = some x:=⟨_,List.getElem?_eq_getElem hlt⟩;obtain ⟨Ah,ch,hrg',hhp⟩:=hr j x hx;have hrg:=Xa3 hrg' (show Below w.heap.size w wr by rw[hn0]; exact HB.out)
   have HHP:=Lib.hid hhp;have HHL:Hid (x.hops.length≤4000):=HHM.out x (List.mem_of_getElem? hx);have HHO:=Lib.hid (HHB.out x (List.mem_of_getElem? hx));have HSN:Hid (Xbk p now (ts.take (j+1))=Xbk p now (ts.take j) ++ (if x.rq.prio<2∧Xd1 p now x=true then [x.num] else [])):=by
    show _=_;rw[take_snoc hx,Xnz]
   have HML:Hid ((Xbk p now (ts.take j)).length≤100):=by
    have h1:=Xf5 p now (ts.take j);have h2:(ts.take j).length≤ts.length:=by rw[List.length_take]; omega
    have h3:=HTM.out;show _≤_;omega
   generalize Xbk p now (ts.take j)=M at HO HSN HML;have c0:wr.cell? ⟨b,off+j * 11,none⟩=some (.int .i64 x.num):=hrg 0 _ rfl;have c1:wr.cell? ⟨b,off+j * 11+1,none⟩=some (.int .i64 x.rq.src):=hrg 1 _ rfl;have c2:wr.cell? ⟨b,off+j * 11+2,none⟩=some (.int .i64 x.rq.dst):=hrg 2 _ rfl;have c3:wr.cell? ⟨b,off+j * 11+3,none⟩=some (.int .i64 x.rq.size):=hrg 3 _ rfl;have c4:wr.cell? ⟨b,off+j * 11+4,none⟩=some (.int .i64 x.rq.ready):=hrg 4 _ rfl;have c5:wr.cell? ⟨b,off+j * 11+5,none⟩=some (.int .i64 x.rq.dead):=hrg 5 _ rfl;have c6:wr.cell? ⟨b,off+j * 11+6,none⟩=some (.int .i64 x.rq.prio):=hrg 6 _ rfl;have c7:wr.cell? ⟨b,off+j * 11+7,none⟩=some (.bool x.rq.cust):=hrg 7 _ rfl;have c8:wr.cell? ⟨b,off+j * 11+8,none⟩=some (.slice Ah x.hops.length ch):=hrg 8 _ rfl;have c9:wr.cell? ⟨b,off+j * 11+9,none⟩=some (.int .i64 x.st):=hrg 9 _ rfl;have c10:wr.cell? ⟨b,off+j * 11+10,none⟩=some (.int .i64 x.til):=hrg 10 _ rfl;obtain ⟨_,_,rfl,rfl,-,HBN,HX8⟩:=box1 wr 55 (tkA x Ah ch);have HG8:Hid (Bk (wr.alloc (.cells (tkA x Ah ch) 55)) n0 53 #[.slice Aq p.q.length cq,.slice Ac p.c.length cc,.slice none 0 0,.slice (some ⟨b,off,none⟩) ts.length ct]):=HG.out.below HBN.out HG.out.lt;have HB8:Hid (Below n0 w (wr.alloc (.cells (tkA x Ah ch) 55))):=HB.out.trans (HBN.out.mono (by have:=HG.out.lt; omega))
   have HO8:Hid ((wr.alloc (.cells (tkA x Ah ch) 55)).ownsRow n0 3 1 u5 M.length (M.flatMap intE.f)):=Xa6 HO.out HBN.out;have a0:=HG.out.c4;obtain ⟨d0,d1⟩:=HG8.out.c2;obtain ⟨k0,k1,k2,k3,k4,k5,k6,k7,k8,k9,k10⟩:=HX8.out.c11;clear hr hx hrg hrg' hhp HB HG HO HBN
   by_cases hp:x.rq.prio<2
   ·have hd:decide (x.rq.prio<2)=true:=decide_eq_true hp;have HRS:=Lib.hid (Xkz Aq cq Ac cc p x Ah ch now (wr.alloc (.cells (tkA x Ah ch) 55)) (HP.out.below (by rw[hn0]; exact HB8.out)) HOK.out (HHP.out.below (by rw[hn0]; exact HB8.out)) HHL.out HHO.out)
    have HPR:=Lib.hid hp;clear hp;go_wp2_with fail;clear c0 c1 c2 c3 c4 c5 c6 c7 c8 c9 c10 k0 k1 k2 k3 k4 k5 k6 k7 k8 k9 k10 a0 d0 d1;generalize wr.alloc (.cells (tkA x Ah ch) 55)=w8 at HX8 HG8 HB8 HO8 HRS ⊢;generalize wr.heap.size=g8 at HX8 ⊢;refine HRS.out.mono ?_;rintro e w9 ⟨rfl,hb9⟩;have HX9:=Lib.hid (HX8.out.below hb9 HX8.out.lt);have HG9:=Lib.hid (HG8.out.below hb9 HG8.out.lt);have HB9:Hid (Below n0 w w9):=HB8.out.trans (hb9.mono (by have:=HG8.out.lt; omega))
    have HO9:Hid (w9.ownsRow n0 3 1 u5 M.length (M.flatMap intE.f)):=Xa6 HO8.out hb9;clear hb9 HRS HX8 HG8 HB8 HO8;generalize hrf:Xd1 p now x=rf at HSN ⊢;clear hrf;cases rf with
    | false =>
      have HSN2:Hid (Xbk p now (ts.take (j+1))=M):=by show _=_; rw[HSN.out,if_neg (by simp),List.append_nil]
      go_wp2;go_roundw
      case rel=>exact ⟨j+1,by omega,by go_num,HB9.out,HG9.out,by rw[HSN2.out]; exact HO9.out⟩
      case measure=>simp[intOf]; omega
    | true =>
      have HSN2:Hid (Xbk p now (ts.take (j+1))=M ++ [x.num]):=by show _=_; rw[HSN.out,if_pos ⟨HPR.out,rfl⟩]
      have k0:=HX9.out.n0;have HON:Hid ((w9.alloc (.cells #[.int .i64 x.num] 3)).ownsRow n0 3 1 u5 M.length (M.flatMap intE.f)):=HO9.out.alloc _;have HBA:Hid (Below n0 w (w9.alloc (.cells #[.int .i64 x.num] 3))):=HB9.out.alloc (by have:=HG9.out.lt; omega) _
      have HGA:Hid (Bk (w9.alloc (.cells #[.int .i64 x.num] 3)) n0 53 #[.slice Aq p.q.length cq,.slice Ac p.c.length cc,.slice none 0 0,.slice (some ⟨b,off,none⟩) ts.length ct]):=Bk.alloc HG9.out _;obtain ⟨hi0,hz0,hz1,hz2⟩:=HI.out;clear HO9 HB9;go_wp2_with (at_builtin; refine wpList_append_own_at _ rfl _ _ 22 rfl n0 3 i0 (.int .i64 0) 1 8 Tryz.underlying22 hi0 hz0 hz1 hz2 rfl (by decide) _ _ _ rfl HON.out ⟨w9.heap.size,0,none⟩ 1 1 [.int .i64 x.num] rfl rfl ?d1 ?d2 ?d3 ?d4 ?d5 ?_)
      case d1=>exact fun j u hu=>by rw[Addr.add_mid,Nat.zero_add]; exact Xcj _ [.int .i64 x.num] _ rfl j u hu
      case d2=>exact fun u hu=>intE.one x.num u hu
      case d3=>have:=HML.out; unfold maxLen; omega
      case d4=>have:=HML.out; omega
      case d5=>have:=HGA.out.lt; omega
      intro v' w4 hown' hg' _ _;have HB4:Hid (Below n0 w w4):=HBA.out.grown hg' (by have:=HGA.out.lt; omega) (fun j hj=>(HON.out.lt j hj).1)
      have HG4:=Lib.hid (HGA.out.grown hg' (Xa1 HGA.out (by decide) HON.out))
      have HO4:Hid (w4.ownsRow n0 3 1 v' (Xbk p now (ts.take (j+1))).length ((Xbk p now (ts.take (j+1))).flatMap intE.f)):=by
       show w4.ownsRow _ _ _ _ _ _;rw[HSN2.out,List.length_append,List.flatMap_append,show [x.num].flatMap intE.f = [.int .i64 x.num] from rfl];exact hown'
      clear hown' hg' hi0 hz0 hz1 hz2 k0;go_wp2;go_roundw
      case rel=>exact ⟨j+1,by omega,by go_num,HB4.out,HG4.out,HO4.out⟩
      case measure=>simp[intOf]; omega
   ·have hd:decide (x.rq.prio<2)=false:=decide_eq_false hp;have HSN2:Hid (Xbk p now (ts.take (j+1))=M):=by show _=_; rw[HSN.out,if_neg (fun h=>hp h.1),List.append_nil]
    clear hp;go_wp2;go_roundw
    case rel=>exact ⟨j+1,by omega,by go_num,HB8.out,HG8.out,by rw[HSN2.out]; exact HO8.out⟩
    case measure=>simp[intOf]; omega
  ·have HF:Hid (Xcz intE (Xbk p now ts) w (.returned u5) wr):=by
    show Xcz _ _ _ _ _;have h:=HO.out;rw[List.take_of_length_le (by omega)] at h
    obtain ⟨A1,c1,e1,h1,h2,h3⟩:=Xab (E:=intE) h;subst e1;exact ⟨A1,c1,rfl,h1,h2,by rw[hn0]; exact h3,by rw[hn0]; exact HB.out⟩
   go_wp2;go_ret;exact HF.out
theorem Xhd:∀ {l:List Hop},l ≠ [] → ∃x,l[l.length - 1]? = some x∧Xac l=x.arr
 | [x],_=>⟨x,rfl,rfl⟩
 | x :: y :: l,_=>by
   obtain ⟨z,h1,h2⟩:=Xhd (l:=y :: l) (by simp)
   exact ⟨z,by simpa using h1,by rw[Xac]; exact h2⟩
theorem Xjd (X:Nat)(a b:Hop)(w:World)(h0:w.cell? ⟨X,0,none⟩=some (.int .i64 a.ct))(h1:w.cell? ⟨X,1,none⟩=some (.int .i64 a.beg))(h2:w.cell? ⟨X,2,none⟩=some (.int .i64 a.fin)) :
  Calls Tryz.prog 207 #[.agg #[.int .i64 b.ct,.int .i64 b.beg,.int .i64 b.fin,.int .i64 b.arr],.pointer (some ⟨X,0,none⟩)] w (Xap (a.ct=b.ct∧a.beg<b.fin∧b.beg<a.fin) w):=by
 obtain ⟨_,_,rfl,rfl,-,HB0,HK0⟩:=box1 w 41 #[.int .i64 b.ct,.int .i64 b.beg,.int .i64 b.fin,.int .i64 b.arr];have x0:(w.alloc (.cells #[.int .i64 b.ct,.int .i64 b.beg,.int .i64 b.fin,.int .i64 b.arr] 41)).cell? ⟨X,0,none⟩=some (.int .i64 a.ct):=(HB0.out.cell (p:=⟨X,0,none⟩) (World.block_lt_of_cell? _ _ h0)).trans h0;have x1:(w.alloc (.cells #[.int .i64 b.ct,.int .i64 b.beg,.int .i64 b.fin,.int .i64 b.arr] 41)).cell? ⟨X,1,none⟩=some (.int .i64 a.beg):=(HB0.out.cell (p:=⟨X,1,none⟩) (World.block_lt_of_cell? _ _ h1)).trans h1;have x2:(w.alloc (.cells #[.int .i64 b.ct,.int .i64 b.beg,.int .i64 b.fin,.int .i64 b.arr] 41)).cell? ⟨X,2,none⟩=some (.int .i64 a.fin):=(HB0.out.cell (p:=⟨X,2,none⟩) (World.block_lt_of_cell? _ _ h2)).trans h2;have k0:=HK0.out.c4;clear h0 h1 h2;go_enter Tryz.func207,Tryz.ntmps207
 by_cases e:a.ct=b.ct
 ·have d:(a.ct == b.ct)=true:=by simpa using e
  by_cases e1:a.beg<b.fin
  ·have d1:decide (a.beg<b.fin)=true:=decide_eq_true e1
   by_cases e2:b.beg<a.fin
   ·have d2:decide (b.beg<a.fin)=true:=decide_eq_true e2;have HF:=Lib.hid (And.intro e (And.intro e1 e2));clear e e1 e2;go_wp2;go_ret;exact ⟨true,rfl,⟨fun _=>HF.out,fun _=>rfl⟩,HB0.out⟩
   ·have d2:decide (b.beg<a.fin)=false:=decide_eq_false e2;have HF:Hid (¬ b.beg<a.fin):=e2;clear e e1 e2;go_wp2;go_ret;exact ⟨false,rfl,⟨fun h=>(by cases h),fun h=>(by have h1:=h.2.2; have h2:=HF.out; omega)⟩,HB0.out⟩
  ·have d1:decide (a.beg<b.fin)=false:=decide_eq_false e1;have HF:Hid (¬ a.beg<b.fin):=e1;clear e e1;go_wp2;go_ret;exact ⟨false,rfl,⟨fun h=>(by cases h),fun h=>(by have h1:=h.2.1; have h2:=HF.out; omega)⟩,HB0.out⟩
 ·have d:(a.ct == b.ct)=false:=by simpa using e
  have HF:=Lib.hid e;clear e;go_wp2;go_ret;exact ⟨false,rfl,⟨fun h=>(by cases h),fun h=>absurd h.1 HF.out⟩,HB0.out⟩
theorem Xte (A:Option Addr)(cA:Nat)(l:List Hop)(X:Nat)(p:Hop→Prop)(w:World)(hA:SlAt hpE w A l)(hl:l.length≤1000000)(hF:∀x ∈ l,∀w',Below w.heap.size w w' → Calls Tryz.prog 207 #[.agg #[.int .i64 x.ct,.int .i64 x.beg,.int .i64 x.fin,.int .i64 x.arr],.pointer (some ⟨X,0,none⟩)] w' (Xap (p x) w')) :
  Calls Tryz.prog 227 #[.slice A l.length cA,.func (.func 207) #[] #[.pointer (some ⟨X,0,none⟩)]] w (Xdu p l w):=by
 have HA:=Lib.hid hA;have HF:=Lib.hid hF;clear hA hF;go_enter Tryz.func227,Tryz.ntmps227;go_wp2;go_loopw [5,8] (fun _ i wr => ∃k:Nat,k≤l.length∧i = .int .i64 k∧Below w.heap.size w wr ∧ ∀x ∈ l.take k,¬ p x) (fun _ i _=>l.length - (intOf i).toNat)
 case atStart=>exact ⟨0,Nat.zero_le _,rfl,Below.refl _ _,by simp⟩
 case round =>
  obtain ⟨k,hk,rfl,hbw,hno⟩:=hrel;have HB:=Lib.hid hbw;have HNO:=Lib.hid hno;clear hbw hno
  by_cases hlt:k<l.length
  ·obtain ⟨b,off,rfl,hr⟩:=HA.out.one (by omega)
   obtain ⟨r,hrk⟩:∃r,l[k]? = some r:=⟨_,List.getElem?_eq_getElem hlt⟩;have HRK:=Lib.hid hrk;have hrg:wr.rangeAt b (off+k * 4) (hpE.f r):=Xa3 (hr k r hrk) HB.out;have c0:=Tp.rgHp hrg;have HCL:=Lib.hid (HF.out r (List.mem_of_getElem? hrk) wr HB.out);clear hr hrk hrg;go_wp2_with fail;refine HCL.out.mono ?_;rintro e w2 ⟨v,rfl,hv,hb2⟩;have HB2:=Lib.hid (Xa HB.out hb2);have HV:=Lib.hid hv;clear hb2 HCL hv c0;cases v with
   | false =>
     have HN:Hid (∀x ∈ l.take (k+1),¬ p x):=by
      intro x hx;rw[take_snoc HRK.out] at hx;rcases List.mem_append.1 hx with h | h
      ·exact HNO.out x h
      ·rw[List.mem_singleton.1 h];intro hp;have:=HV.out.2 hp;cases this
     go_wp2;go_roundw
     case rel=>exact ⟨k+1,by omega,by go_num,HB2.out,HN.out⟩
     case measure=>simp[intOf]; omega
   | true =>
     have HP:=Lib.hid (HV.out.1 rfl);go_wp2;go_ret;exact ⟨_,rfl,.inr ⟨k,r,rfl,HRK.out,HP.out,HNO.out⟩,HB2.out⟩
  ·have HN:Hid (∀x ∈ l,¬ p x):=by
    intro x hx;refine HNO.out x ?_;rw[List.take_of_length_le (by omega)]
    exact hx
   go_wp2;go_ret;exact ⟨_,rfl,.inl ⟨rfl,HN.out⟩,HB.out⟩
theorem Xtf (A:Option Addr)(cA:Nat)(l:List Hop)(X:Nat)(p:Hop→Prop)(w:World)(hA:SlAt hpE w A l)(hl:l.length≤1000000)(hF:∀x ∈ l,∀w',Below w.heap.size w w' → Calls Tryz.prog 207 #[.agg #[.int .i64 x.ct,.int .i64 x.beg,.int .i64 x.fin,.int .i64 x.arr],.pointer (some ⟨X,0,none⟩)] w' (Xap (p x) w')) :
  Calls Tryz.prog 205 #[.slice A l.length cA,.func (.func 207) #[] #[.pointer (some ⟨X,0,none⟩)]] w (Xap (∃x ∈ l,p x) w):=by
 have HI:=Lib.hid (Xte A cA l X p w hA hl hF);clear hA hF;go_enter Tryz.func205,Tryz.ntmps205;go_wp2_with fail;refine HI.out.mono ?_;rintro e w1 ⟨z,rfl,hz,hb⟩;have HB:=Lib.hid hb;have HZ:=Lib.hid (Xhj hz);clear hz hb HI;go_wp2;go_ret;exact Xaf (by have:=HZ.out; simpa using this) HB.out
theorem Xl7 (X:Nat)(A:Option Addr)(cA:Nat)(m:List Hop)(a:Hop)(w:World)(hX:w.cell? ⟨X,0,none⟩=some (.slice A m.length cA))(hA:SlAt hpE w A m)(hl:m.length≤1000000) :
  Calls Tryz.prog 206 #[.agg #[.int .i64 a.ct,.int .i64 a.beg,.int .i64 a.fin,.int .i64 a.arr],.pointer (some ⟨X,0,none⟩)] w (Xap (∃x ∈ m,(a.ct=x.ct∧a.beg<x.fin∧x.beg<a.fin)) w):=by
 obtain ⟨_,_,rfl,rfl,-,HB0,HK0⟩:=box1 w 41 #[.int .i64 a.ct,.int .i64 a.beg,.int .i64 a.fin,.int .i64 a.arr];have x0:(w.alloc (.cells #[.int .i64 a.ct,.int .i64 a.beg,.int .i64 a.fin,.int .i64 a.arr] 41)).cell? ⟨X,0,none⟩=some (.slice A m.length cA):=(HB0.out.cell (p:=⟨X,0,none⟩) (World.block_lt_of_cell? _ _ hX)).trans hX;have HCN:=Lib.hid (Xtf A cA m w.heap.size (fun x=>(a.ct=x.ct∧a.beg<x.fin∧x.beg<a.fin)) (w.alloc (.cells #[.int .i64 a.ct,.int .i64 a.beg,.int .i64 a.fin,.int .i64 a.arr] 41)) (hA.below HB0.out) hl (fun x hx w' hb=>Xjd w.heap.size a x w' ((hb.cell (p:=⟨w.heap.size,0,none⟩) HK0.out.lt).trans (HK0.out.cell 0)) ((hb.cell (p:=⟨w.heap.size,1,none⟩) HK0.out.lt).trans (HK0.out.cell 1)) ((hb.cell (p:=⟨w.heap.size,2,none⟩) HK0.out.lt).trans (HK0.out.cell 2))));have hmf:=fun (fn:Fn) (first cap:Array Value) (w:World)=>(rfl:(Instr.makeFunc fn first cap).run Tryz.prog w = .ok (.func fn first cap) w)
 generalize (∃x ∈ m,(a.ct=x.ct∧a.beg<x.fin∧x.beg<a.fin))=G at HCN ⊢;clear hX hA;go_enter Tryz.func206,Tryz.ntmps206;go_wp2_with fail;clear x0;refine HCN.out.mono ?_;rintro e w1 ⟨v,rfl,hv,hb1⟩;have HF:Hid (Xap G w (.returned (.bool v)) w1):=⟨v,rfl,hv,Xa HB0.out hb1⟩;clear hv hb1 HCN;go_wp2;go_ret;exact HF.out
theorem Xtc (A:Option Addr)(cA:Nat)(l:List Hop)(X:Nat)(p:Hop→Prop)(w:World)(hA:SlAt hpE w A l)(hl:l.length≤1000000)(hF:∀x ∈ l,∀w',Below w.heap.size w w' → Calls Tryz.prog 206 #[.agg #[.int .i64 x.ct,.int .i64 x.beg,.int .i64 x.fin,.int .i64 x.arr],.pointer (some ⟨X,0,none⟩)] w' (Xap (p x) w')) :
  Calls Tryz.prog 227 #[.slice A l.length cA,.func (.func 206) #[] #[.pointer (some ⟨X,0,none⟩)]] w (Xdu p l w):=by
 have HA:=Lib.hid hA;have HF:=Lib.hid hF;clear hA hF;go_enter Tryz.func227,Tryz.ntmps227;go_wp2;go_loopw [5,8] (fun _ i wr => ∃k:Nat,k≤l.length∧i = .int .i64 k∧Below w.heap.size w wr ∧ ∀x ∈ l.take k,¬ p x) (fun _ i _=>l.length - (intOf i).toNat)
 case atStart=>exact ⟨0,Nat.zero_le _,rfl,Below.refl _ _,by simp⟩
 case round =>
  obtain ⟨k,hk,rfl,hbw,hno⟩:=hrel;have HB:=Lib.hid hbw;have HNO:=Lib.hid hno;clear hbw hno
  by_cases hlt:k<l.length
  ·obtain ⟨b,off,rfl,hr⟩:=HA.out.one (by omega)
   obtain ⟨r,hrk⟩:∃r,l[k]? = some r:=⟨_,List.getElem?_eq_getElem hlt⟩;have HRK:=Lib.hid hrk;have hrg:wr.rangeAt b (off+k * 4) (hpE.f r):=Xa3 (hr k r hrk) HB.out;have c0:=Tp.rgHp hrg;have HCL:=Lib.hid (HF.out r (List.mem_of_getElem? hrk) wr HB.out);clear hr hrk hrg;go_wp2_with fail;refine HCL.out.mono ?_;rintro e w2 ⟨v,rfl,hv,hb2⟩;have HB2:=Lib.hid (Xa HB.out hb2);have HV:=Lib.hid hv;clear hb2 HCL hv c0;cases v with
   | false =>
     have HN:Hid (∀x ∈ l.take (k+1),¬ p x):=by
      intro x hx;rw[take_snoc HRK.out] at hx;rcases List.mem_append.1 hx with h | h
      ·exact HNO.out x h
      ·rw[List.mem_singleton.1 h];intro hp;have:=HV.out.2 hp;cases this
     go_wp2;go_roundw
     case rel=>exact ⟨k+1,by omega,by go_num,HB2.out,HN.out⟩
     case measure=>simp[intOf]; omega
   | true =>
     have HP:=Lib.hid (HV.out.1 rfl);go_wp2;go_ret;exact ⟨_,rfl,.inr ⟨k,r,rfl,HRK.out,HP.out,HNO.out⟩,HB2.out⟩
  ·have HN:Hid (∀x ∈ l,¬ p x):=by
    intro x hx;refine HNO.out x ?_;rw[List.take_of_length_le (by omega)]
    exact hx
   go_wp2;go_ret;exact ⟨_,rfl,.inl ⟨rfl,HN.out⟩,HB.out⟩
theorem Xtd (A:Option Addr)(cA:Nat)(l:List Hop)(X:Nat)(p:Hop→Prop)(w:World)(hA:SlAt hpE w A l)(hl:l.length≤1000000)(hF:∀x ∈ l,∀w',Below w.heap.size w w' → Calls Tryz.prog 206 #[.agg #[.int .i64 x.ct,.int .i64 x.beg,.int .i64 x.fin,.int .i64 x.arr],.pointer (some ⟨X,0,none⟩)] w' (Xap (p x) w')) :
  Calls Tryz.prog 205 #[.slice A l.length cA,.func (.func 206) #[] #[.pointer (some ⟨X,0,none⟩)]] w (Xap (∃x ∈ l,p x) w):=by
 have HI:=Lib.hid (Xtc A cA l X p w hA hl hF);clear hA hF;go_enter Tryz.func205,Tryz.ntmps205;go_wp2_with fail;refine HI.out.mono ?_;rintro e w1 ⟨z,rfl,hz,hb⟩;have HB:=Lib.hid hb;have HZ:=Lib.hid (Xhj hz);clear hz hb HI;go_wp2;go_ret;exact Xaf (by have:=HZ.out; simpa using this) HB.out
theorem Xrk (now:Int)(m:List Hop)(k:Tk):(∃a ∈ k.hops.drop (begN now k.hops),∃x ∈ m,(a.ct=x.ct∧a.beg<x.fin∧x.beg<a.fin))↔ovlF now m k=true:=by
 unfold ovlF;rw[List.any_eq_true];constructor
 ·rintro ⟨a,ha,x,hx,h1,h2,h3⟩;refine ⟨a,ha,List.any_eq_true.2 ⟨x,hx,?_⟩⟩;rw[decide_eq_true h1,decide_eq_true h2,decide_eq_true h3]; rfl
 ·rintro ⟨a,ha,h⟩;obtain ⟨x,hx,h⟩:=List.any_eq_true.1 h;simp only[Bool.and_eq_true,decide_eq_true_eq] at h;exact ⟨a,ha,x,hx,h.1,h.2.1,h.2.2⟩
theorem Xpm {α:Type}{E:Enc α}{w:World}{b off:Nat}{l:List α}(h:SlAt E w (some ⟨b,off,none⟩) l)(n:Nat):SlAt E w (some ⟨b,off+n * E.k,none⟩) (l.drop n):=fun j r hj=>by
 rw[List.getElem?_drop] at hj;obtain ⟨b',off',e,h1⟩:=h (n+j) r hj;cases e;exact ⟨b,off+n * E.k,rfl,by rw[Nat.add_assoc, ←Nat.add_mul]; exact h1⟩
theorem Xjo (k:Tk)(A:Option Addr)(cA:Nat)(M:Option Addr)(cM:Nat)(m:List Hop)(now:Int)(w:World)(h:HpAt w A cA k.hops)(hm:HpAt w M cM m)(hl:k.hops.length≤100000)(hml:m.length≤100000) :
  Calls Tryz.prog 165 #[.agg (tkA k A cA),.slice M m.length cM,.int .i64 now] w (Xap (ovlF now m k=true) w):=by
 have HS:=Lib.hid h;have HSM:=Lib.hid hm;have HHL:Hid (k.hops.length≤100000):=hl;have HML:Hid (m.length≤100000):=hml;obtain ⟨_,_,rfl,rfl,-,HB0,HK0,HK1⟩:=box2 w 55 (tkA k A cA) 37 #[.slice M m.length cM];have HBG:=Lib.hid (fun w' hb' => Xec k A cA now w' (h.below (w':=w') hb') (by omega))
 have hmf:=fun (fn:Fn) (first cap:Array Value) (w:World)=>(rfl:(Instr.makeFunc fn first cap).run Tryz.prog w = .ok (.func fn first cap) w)
 have hcA:=h.c;obtain ⟨G,hG⟩:∃G:Prop,G=(ovlF now m k=true):=⟨_,rfl⟩;rw[←hG];have HOV:Hid ((∃a ∈ k.hops.drop (begN now k.hops),∃x ∈ m,(a.ct=x.ct∧a.beg<x.fin∧x.beg<a.fin))↔G):=by rw[hG]; exact Xrk now m k
 clear h hm hl hml hG;go_enter Tryz.func165,Tryz.ntmps165;go_wp2_with fail;generalize ((w.alloc (.cells (tkA k A cA) 55)).alloc (.cells #[.slice M m.length cM] 37))=W at HB0 HK0 HK1 ⊢;generalize hn0:w.heap.size=n0 at HB0 HK0 HK1 ⊢;have hbl:=Xhx now k.hops;have hlen:(k.hops.drop (begN now k.hops)).length=k.hops.length - begN now k.hops:=List.length_drop;have HTA:Hid (∀w' b off,SlAt hpE w' (some ⟨b,off,none⟩) k.hops→SlAt hpE w' (some ⟨b,off+begN now k.hops * 4,none⟩) (k.hops.drop (begN now k.hops))):=fun w' b off h=>Xpm h _;generalize k.hops.drop (begN now k.hops)=L at HTA HOV hlen;have HLN:Hid (L.length=k.hops.length - begN now k.hops):=hlen;generalize begN now k.hops=n at HBG HTA HLN hbl hlen;have hn1:(n:Int)≤(cA:Int):=by omega
 have hn2:(0:Int)≤(n:Int):=by omega
 have hn3:n≤cA:=by omega
 have hn4:(n:Int)≤(k.hops.length:Int):=by omega
 have HSF:Hid (∀W,Bk W n0 55 (tkA k A cA)→(fun w' => w'.cell? ⟨n0,0,none⟩=some (.int .i64 k.num)∧w'.cell? ⟨n0,1,none⟩=some (.int .i64 k.rq.src)∧w'.cell? ⟨n0,2,none⟩=some (.int .i64 k.rq.dst)∧w'.cell? ⟨n0,3,none⟩=some (.int .i64 k.rq.size)∧w'.cell? ⟨n0,4,none⟩=some (.int .i64 k.rq.ready)∧w'.cell? ⟨n0,5,none⟩=some (.int .i64 k.rq.dead)∧w'.cell? ⟨n0,6,none⟩=some (.int .i64 k.rq.prio)∧w'.cell? ⟨n0,7,none⟩=some (.bool k.rq.cust)∧w'.cell? ⟨n0,8,none⟩=some (.slice A k.hops.length cA)∧w'.cell? ⟨n0,9,none⟩=some (.int .i64 k.st)∧w'.cell? ⟨n0,10,none⟩=some (.int .i64 k.til)) W):=fun W h=>⟨h.cell 0,h.cell 1,h.cell 2,h.cell 3,h.cell 4,h.cell 5,h.cell 6,h.cell 7,h.cell 8,h.cell 9,h.cell 10⟩;have HCN:Hid (∀(A':Option Addr) (d c':Nat) w',d=k.hops.length - n→Below n0 w w' → Bk w' (n0+1) 37 #[.slice M m.length cM] → SlAt hpE w' A' L→Calls Tryz.prog 205 #[.slice A' d c',.func (.func 206) #[] #[.pointer (some ⟨n0+1,0,none⟩)]] w' (Xap G w')):=fun A' d c' w' hd hb hk hs=>by
  have h:=Xtd A' c' L (n0+1) (fun a => ∃x ∈ m,(a.ct=x.ct∧a.beg<x.fin∧x.beg<a.fin)) w' hs (by have:=HLN.out; have:=HHL.out; omega) (fun a ha w2 hb2=>Xl7 (n0+1) M cM m a w2 ((hb2.cell (p:=⟨n0+1,0,none⟩) hk.lt).trans (hk.cell 0)) ((HSM.out.below (by rw[hn0]; exact hb)).s.below hb2) (by have:=HML.out; omega))
  rw[HLN.out, ←hd] at h;have h2:(∃x ∈ L,∃y ∈ m,(x.ct=y.ct∧x.beg<y.fin∧y.beg<x.fin))=G:=propext HOV.out
  rwa [h2] at h
 clear HOV hlen;rcases Nat.lt_or_ge n k.hops.length with hlt | hge
 ·obtain ⟨b,off,rfl,hr⟩:=HS.out.s.one (by omega)
  clear hr;have hq1:¬ (cA=n):=by omega
  have hq2:¬ ((cA:Int)=(n:Int)):=by omega
  have hq3:¬ (cA - n=0):=by omega
  have hq4:n<cA:=by omega
  refine Xam (S:=fun w' => w'.cell? ⟨n0,0,none⟩=some (.int .i64 k.num)∧w'.cell? ⟨n0,1,none⟩=some (.int .i64 k.rq.src)∧w'.cell? ⟨n0,2,none⟩=some (.int .i64 k.rq.dst)∧w'.cell? ⟨n0,3,none⟩=some (.int .i64 k.rq.size)∧w'.cell? ⟨n0,4,none⟩=some (.int .i64 k.rq.ready)∧w'.cell? ⟨n0,5,none⟩=some (.int .i64 k.rq.dead)∧w'.cell? ⟨n0,6,none⟩=some (.int .i64 k.rq.prio)∧w'.cell? ⟨n0,7,none⟩=some (.bool k.rq.cust)∧w'.cell? ⟨n0,8,none⟩=some (.slice (some ⟨b,off,none⟩) k.hops.length cA)∧w'.cell? ⟨n0,9,none⟩=some (.int .i64 k.st)∧w'.cell? ⟨n0,10,none⟩=some (.int .i64 k.til)) [] (by kernel_rfl) (HSF.out _ (HK0.out.below (Below.refl _ _).drew HK0.out.lt)) (fun hHeld=>?_)
  have HM0:=Lib.hid (HK0.out.below (Below.refl W.heap.size W).drew HK0.out.lt);have HM1:=Lib.hid (HK1.out.below (Below.refl W.heap.size W).drew HK1.out.lt);have HB1:Hid (Below n0 w W.drew):=HB0.out.drew;clear HB0 HK0 HK1;generalize W.drew=V at HM0 HM1 HB1 hHeld ⊢;refine tkF 0 _ ?_;refine tkG 1 (.slice (some ⟨b,off,none⟩) k.hops.length cA) ?_;refine tkG 2 (.agg #[.int .i64 k.num,.int .i64 k.rq.src,.int .i64 k.rq.dst,.int .i64 k.rq.size,.int .i64 k.rq.ready,.int .i64 k.rq.dead,.int .i64 k.rq.prio,.bool k.rq.cust,.slice (some ⟨b,off,none⟩) k.hops.length cA,.int .i64 k.st,.int .i64 k.til]) ?_;refine tkF 3 _ ?_;refine tkF 6 _ ?_;refine Xaa (i:=4) rfl (by kernel_rfl) (by rfl) (fun K hK=>?_)
  go_simp;refine (HBG.out V (by rw[hn0]; exact HB1.out)).mono ?_
  rintro e w6 ⟨rfl,hb6⟩;have HN0:=Lib.hid (HM0.out.below hb6 HM0.out.lt);have HN1:=Lib.hid (HM1.out.below hb6 HM1.out.lt);have HB6:Hid (Below n0 w w6):=HB1.out.trans (hb6.mono (by have:=HM1.out.lt; omega))
  clear hHeld;have hHeld:(fun w' => w'.cell? ⟨n0,0,none⟩=some (.int .i64 k.num)∧w'.cell? ⟨n0,1,none⟩=some (.int .i64 k.rq.src)∧w'.cell? ⟨n0,2,none⟩=some (.int .i64 k.rq.dst)∧w'.cell? ⟨n0,3,none⟩=some (.int .i64 k.rq.size)∧w'.cell? ⟨n0,4,none⟩=some (.int .i64 k.rq.ready)∧w'.cell? ⟨n0,5,none⟩=some (.int .i64 k.rq.dead)∧w'.cell? ⟨n0,6,none⟩=some (.int .i64 k.rq.prio)∧w'.cell? ⟨n0,7,none⟩=some (.bool k.rq.cust)∧w'.cell? ⟨n0,8,none⟩=some (.slice (some ⟨b,off,none⟩) k.hops.length cA)∧w'.cell? ⟨n0,9,none⟩=some (.int .i64 k.st)∧w'.cell? ⟨n0,10,none⟩=some (.int .i64 k.til)) w6:=HSF.out _ HN0.out;refine hK _ _ hHeld ?_;clear hK K hb6 HM0 HM1 HB1 HBG
  try simp only[PU]
  refine tkF 5 _ ?_;clear hHeld;refine Xaa (i:=7) rfl (by kernel_rfl) (by rfl) (fun K hK=>?_)
  go_simp;refine (HCN.out _ _ _ w6 (by omega) HB6.out HN1.out (HTA.out _ _ _ (HS.out.below (by rw[hn0]; exact HB6.out)).s)).mono ?_
  rintro e w7 ⟨v,rfl,hv,hb7⟩;have HF:Hid (Xap G w (.returned (.bool v)) w7):=⟨v,rfl,hv,by rw[hn0]; exact HB6.out.trans (hb7.mono (by have:=HN1.out.lt; omega))⟩
  have hHeld:(fun w' => w'.cell? ⟨n0,0,none⟩=some (.int .i64 k.num)∧w'.cell? ⟨n0,1,none⟩=some (.int .i64 k.rq.src)∧w'.cell? ⟨n0,2,none⟩=some (.int .i64 k.rq.dst)∧w'.cell? ⟨n0,3,none⟩=some (.int .i64 k.rq.size)∧w'.cell? ⟨n0,4,none⟩=some (.int .i64 k.rq.ready)∧w'.cell? ⟨n0,5,none⟩=some (.int .i64 k.rq.dead)∧w'.cell? ⟨n0,6,none⟩=some (.int .i64 k.rq.prio)∧w'.cell? ⟨n0,7,none⟩=some (.bool k.rq.cust)∧w'.cell? ⟨n0,8,none⟩=some (.slice (some ⟨b,off,none⟩) k.hops.length cA)∧w'.cell? ⟨n0,9,none⟩=some (.int .i64 k.st)∧w'.cell? ⟨n0,10,none⟩=some (.int .i64 k.til)) w7:=HSF.out _ (HN0.out.below hb7 HN0.out.lt);refine hK _ _ hHeld ?_;clear hK K hb7 hv HCN HN0 HN1 HB6
  try simp only[PU]
  refine tkF 8 _ ?_;refine Xbd (by kernel_rfl) ?_
  clear hHeld;go_wp2
  all_goals (go_ret; exact HF.out)
 ·obtain rfl:n=k.hops.length:=by omega
  refine Xam (S:=fun w' => w'.cell? ⟨n0,0,none⟩=some (.int .i64 k.num)∧w'.cell? ⟨n0,1,none⟩=some (.int .i64 k.rq.src)∧w'.cell? ⟨n0,2,none⟩=some (.int .i64 k.rq.dst)∧w'.cell? ⟨n0,3,none⟩=some (.int .i64 k.rq.size)∧w'.cell? ⟨n0,4,none⟩=some (.int .i64 k.rq.ready)∧w'.cell? ⟨n0,5,none⟩=some (.int .i64 k.rq.dead)∧w'.cell? ⟨n0,6,none⟩=some (.int .i64 k.rq.prio)∧w'.cell? ⟨n0,7,none⟩=some (.bool k.rq.cust)∧w'.cell? ⟨n0,8,none⟩=some (.slice A k.hops.length cA)∧w'.cell? ⟨n0,9,none⟩=some (.int .i64 k.st)∧w'.cell? ⟨n0,10,none⟩=some (.int .i64 k.til)) [] (by kernel_rfl) (HSF.out _ (HK0.out.below (Below.refl _ _).drew HK0.out.lt)) (fun hHeld=>?_)
  have HM0:=Lib.hid (HK0.out.below (Below.refl W.heap.size W).drew HK0.out.lt);have HM1:=Lib.hid (HK1.out.below (Below.refl W.heap.size W).drew HK1.out.lt);have HB1:Hid (Below n0 w W.drew):=HB0.out.drew;clear HB0 HK0 HK1;generalize W.drew=V at HM0 HM1 HB1 hHeld ⊢;refine tkF 0 _ ?_;refine tkG 1 (.slice A k.hops.length cA) ?_;refine tkG 2 (.agg (tkA k A cA)) ?_;refine tkF 3 _ ?_;refine tkF 6 _ ?_;refine Xaa (i:=4) rfl (by kernel_rfl) (by rfl) (fun K hK=>?_)
  go_simp;refine (HBG.out V (by rw[hn0]; exact HB1.out)).mono ?_
  rintro e w6 ⟨rfl,hb6⟩;have HN0:=Lib.hid (HM0.out.below hb6 HM0.out.lt);have HN1:=Lib.hid (HM1.out.below hb6 HM1.out.lt);have HB6:Hid (Below n0 w w6):=HB1.out.trans (hb6.mono (by have:=HM1.out.lt; omega))
  clear hHeld;have hHeld:(fun w' => w'.cell? ⟨n0,0,none⟩=some (.int .i64 k.num)∧w'.cell? ⟨n0,1,none⟩=some (.int .i64 k.rq.src)∧w'.cell? ⟨n0,2,none⟩=some (.int .i64 k.rq.dst)∧w'.cell? ⟨n0,3,none⟩=some (.int .i64 k.rq.size)∧w'.cell? ⟨n0,4,none⟩=some (.int .i64 k.rq.ready)∧w'.cell? ⟨n0,5,none⟩=some (.int .i64 k.rq.dead)∧w'.cell? ⟨n0,6,none⟩=some (.int .i64 k.rq.prio)∧w'.cell? ⟨n0,7,none⟩=some (.bool k.rq.cust)∧w'.cell? ⟨n0,8,none⟩=some (.slice A k.hops.length cA)∧w'.cell? ⟨n0,9,none⟩=some (.int .i64 k.st)∧w'.cell? ⟨n0,10,none⟩=some (.int .i64 k.til)) w6:=HSF.out _ HN0.out;refine hK _ _ hHeld ?_;clear hK K hb6 HM0 HM1 HB1 HBG
  try simp only[PU]
  refine tkF 5 _ ?_;clear hHeld;refine Xaa (i:=7) rfl (by kernel_rfl) (by rfl) (fun K hK=>?_)
  go_simp;refine (HCN.out _ _ _ w6 (by omega) HB6.out HN1.out (fun j r hj=>by have h1:=(List.getElem?_eq_some_iff.1 hj).1; have h2:=HLN.out; omega)).mono ?_
  rintro e w7 ⟨v,rfl,hv,hb7⟩;have HF:Hid (Xap G w (.returned (.bool v)) w7):=⟨v,rfl,hv,by rw[hn0]; exact HB6.out.trans (hb7.mono (by have:=HN1.out.lt; omega))⟩
  have hHeld:(fun w' => w'.cell? ⟨n0,0,none⟩=some (.int .i64 k.num)∧w'.cell? ⟨n0,1,none⟩=some (.int .i64 k.rq.src)∧w'.cell? ⟨n0,2,none⟩=some (.int .i64 k.rq.dst)∧w'.cell? ⟨n0,3,none⟩=some (.int .i64 k.rq.size)∧w'.cell? ⟨n0,4,none⟩=some (.int .i64 k.rq.ready)∧w'.cell? ⟨n0,5,none⟩=some (.int .i64 k.rq.dead)∧w'.cell? ⟨n0,6,none⟩=some (.int .i64 k.rq.prio)∧w'.cell? ⟨n0,7,none⟩=some (.bool k.rq.cust)∧w'.cell? ⟨n0,8,none⟩=some (.slice A k.hops.length cA)∧w'.cell? ⟨n0,9,none⟩=some (.int .i64 k.st)∧w'.cell? ⟨n0,10,none⟩=some (.int .i64 k.til)) w7:=HSF.out _ (HN0.out.below hb7 HN0.out.lt);refine hK _ _ hHeld ?_;clear hK K hb7 hv HCN HN0 HN1 HB6
  try simp only[PU]
  refine tkF 8 _ ?_;refine Xbd (by kernel_rfl) ?_
  clear hHeld;go_wp2
  all_goals (go_ret; exact HF.out)
theorem Xfl (A:Option Addr)(c:Nat)(l:List Hop)(w:World)(hA:SlAt hpE w A l)(hne:l ≠ [])(hl:l.length≤1000000) :
  Calls Tryz.prog 117 #[.slice A l.length c] w fun e w' => e = .returned (.int .i64 (Xac l))∧Below w.heap.size w w':=by
 have hpos:0<l.length:=List.length_pos_iff.2 hne;obtain ⟨b,off,rfl,hr⟩:=hA.one hpos;obtain ⟨x,hx,he⟩:∃x,l[l.length - 1]? = some x∧Xac l=x.arr:=Xhd hne;have hrg:=hr _ x hx;have c3:w.cell? ⟨b,off+(l.length - 1) * 4+3,none⟩=some (.int .i64 x.arr):=hrg 3 _ rfl;have h1:(0:Int)≤(l.length:Int) - 1:=by omega
 have h2:(l.length:Int) - 1<(l.length:Int):=by omega
 have h3:((l.length:Int) - 1).toNat=l.length - 1:=by omega
 have h4:(1:Int)≤(l.length:Int):=by omega
 have h5:IntKind.i64.wrap ((l.length:Int) - 1)=(l.length:Int) - 1:=by rw[IntKind.wrap_i64]; omega
 have h6:(l.length:Int)≤1000000:=by omega
 rw[he];have HB:=Lib.hid (Below.refl w.heap.size w);clear hr hx hrg he hA hne;go_enter Tryz.func117,Tryz.ntmps117;go_wp2;go_ret;exact ⟨rfl,HB.out⟩
end Go.Proofs.YtebkgbmijocdjaaGreat.Tp
