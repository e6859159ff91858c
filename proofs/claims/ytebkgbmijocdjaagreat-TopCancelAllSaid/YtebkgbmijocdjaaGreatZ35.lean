/- A part of the proof for the ledger. No condition beyond those that each theorem states. -/
import Derived.Lib.AppendZeros
import Derived.Test.YtebkgbmijocdjaaGreatZ33
import Derived.Test.YtebkgbmijocdjaaGreatZ34
set_option maxHeartbeats 32000000
set_option maxRecDepth 100000
set_option linter.unusedVariables false
set_option linter.unusedSimpArgs false
namespace Go.Proofs.YtebkgbmijocdjaaGreat.Tp
open Go Go.RowKit
theorem Xtj (A:Option Addr)(cA:Nat)(l:List Bkg)  (p:Bkg→Prop)(w:World)(hA:SlAt bkE w A l)(hl:l.length≤1000000)(hF:∀x ∈ l,∀w',Below w.heap.size w w' → Calls Tryz.prog 108 #[.agg #[.int .i64 x.ct,.int .i64 x.beg,.int .i64 x.fin,.int .i64 x.tick]] w' (Xap (p x) w')) :
  Calls Tryz.prog 158 #[.slice A l.length cA,.func (.func 108) #[] #[]] w (Xdu p l w):=by
 have HA:=Lib.hid hA;have HF:=Lib.hid hF;clear hA hF;go_enter Tryz.func158,Tryz.ntmps158;go_wp2;go_loopw [5,8] (fun _ i wr => ∃k:Nat,k≤l.length∧i = .int .i64 k∧Below w.heap.size w wr ∧ ∀x ∈ l.take k,¬ p x) (fun _ i _=>l.length - (intOf i).toNat)
 case atStart=>exact ⟨0,Nat.zero_le _,rfl,Below.refl _ _,by simp⟩
 case round =>
  obtain ⟨k,hk,rfl,hbw,hno⟩:=hrel;have HB:=Lib.hid hbw;have HNO:=Lib.hid hno;clear hbw hno
  by_cases hlt:k<l.length
  ·obtain ⟨b,off,rfl,hr⟩:=HA.out.one (by omega)
   obtain ⟨r,hrk⟩:∃r,l[k]? = some r:=⟨_,List.getElem?_eq_getElem hlt⟩;have HRK:=Lib.hid hrk;have hrg:wr.rangeAt b (off+k * 4) (bkE.f r):=Xa3 (hr k r hrk) HB.out;have c0:=Tp.rgBk hrg;have HCL:=Lib.hid (HF.out r (List.mem_of_getElem? hrk) wr HB.out);clear hr hrk hrg;go_wp2_with fail;refine HCL.out.mono ?_;rintro e w2 ⟨v,rfl,hv,hb2⟩;have HB2:=Lib.hid (Xa HB.out hb2);have HV:=Lib.hid hv;clear hb2 HCL hv c0;cases v with
   | false =>
     have HN:Hid (∀x ∈ l.take (k+1),¬ p x):=by
      intro x hx;rw[take_snoc HRK.out] at hx;rcases List.mem_append.1 hx with h | h
      ·exact HNO.out x h
      ·rw[List.mem_singleton.1 h];intro hp;have:=HV.out.2 hp;cases this
     go_wp2;go_roundw
     case rel=>exact ⟨k+1,by omega,by go_num,HB2.out,HN.out⟩
     case measure=>simp[intOf]; omega
   | true =>
     have HP:=Lib.hid (HV.out.1 rfl);go_wp2;go_ret;exact ⟨_,rfl,.inr ⟨k,r,rfl,HRK.out,HP.out,HNO.out⟩,HB2.out⟩
  ·have HN:Hid (∀x ∈ l,¬ p x):=by
    intro x hx;refine HNO.out x ?_;rw[List.take_of_length_le (by omega)]
    exact hx
   go_wp2;go_ret;exact ⟨_,rfl,.inl ⟨rfl,HN.out⟩,HB.out⟩
theorem Xtk (A:Option Addr)(cA:Nat)(l:List Bkg)  (p:Bkg→Prop)(w:World)(hA:SlAt bkE w A l)(hl:l.length≤1000000)(hF:∀x ∈ l,∀w',Below w.heap.size w w' → Calls Tryz.prog 108 #[.agg #[.int .i64 x.ct,.int .i64 x.beg,.int .i64 x.fin,.int .i64 x.tick]] w' (Xap (p x) w')) :
  Calls Tryz.prog 107 #[.slice A l.length cA,.func (.func 108) #[] #[]] w (Xap (∃x ∈ l,p x) w):=by
 have HI:=Lib.hid (Xtj A cA l  p w hA hl hF);clear hA hF;go_enter Tryz.func107,Tryz.ntmps107;go_wp2_with fail;refine HI.out.mono ?_;rintro e w1 ⟨z,rfl,hz,hb⟩;have HB:=Lib.hid hb;have HZ:=Lib.hid (Xhj hz);clear hz hb HI;go_wp2;go_ret;exact Xaf (by have:=HZ.out; simpa using this) HB.out
theorem Xc3 {p:Pln}{q:Rq}(hq:RqOK p q):∀ {l:List Hop}{n a:Int},Xbw p q n a l → ∀h ∈ l,HopB p h
 | [],_,_,_,h,hh=>by simp at hh
 | x :: l,n,a,hw,h,hh=>by
   obtain ⟨c,hc,h1,h2,h3,h4,h5,h6,h7⟩:=hw;rcases List.mem_cons.1 hh with e | e
   ·subst e;have hct:=(hq.1.2.2.1 c (List.mem_of_getElem? hc.2)).1;have hd:=Xdw hct hq.2.2.2.2.1.1;have e1:h.fin=h.beg+dur c q.size:=by rw[h6]
    have e2:h.arr=h.beg+dur c q.size+c.rng:=by rw[h6]
    unfold CtOK at hct;exact ⟨⟨hc.1,c,hc.2⟩,by omega,by omega,by omega,by omega,by omega⟩
   ·exact Xc3 hq h7 h e
theorem TkOK.hopB {p:Pln}{k:Tk}(h:TkOK p k):∀x ∈ k.hops,HopB p x:=by
 rcases h.2 with ⟨_,hr,_⟩ | ⟨_,hr | hr,_⟩
 ·exact Xc3 h.1 hr.2.2.2.1
 ·rw[hr]; simp
 ·exact Xc3 h.1 hr.2.2.2.1
def Xcg (ts:List Tk):Int:=match ts.getLast? with | none=>0 | some k=>k.num
theorem Xld (ts:List Tk)(k:Tk):Xcg (ts ++ [k])=k.num:=by unfold Xcg; rw[List.getLast?_append]; rfl
theorem Xbh.last {ts:List Tk}(hn:Xbh ts):0≤Xcg ts ∧ ∀k ∈ ts,k.num≤Xcg ts:=by
 unfold Xcg;cases h:ts.getLast? with
 | none =>
   rw[List.getLast?_eq_none_iff] at h;subst h;simp
 | some k =>
   obtain ⟨l,rfl⟩:=List.getLast?_eq_some_iff.1 h;have h1:=hn.1 k (by simp)
   refine ⟨by show 0≤k.num; omega,fun y hy=>?_⟩
   show y.num≤k.num;rcases List.mem_append.1 hy with e | e
   ·have:=(List.pairwise_append.1 hn.2).2.2 y e k (by simp)
    omega
   ·rw[List.mem_singleton.1 e]; omega
theorem Xbh.more {ts:List Tk}{k:Tk}(hn:Xbh ts)(h1:Xcg ts<k.num)(h2:k.num≤1152921504606846976):Xbh (ts ++ [k]):=by
 have hl:=hn.last;refine ⟨fun x hx=>?_,?_⟩
 ·rcases List.mem_append.1 hx with e | e
  ·exact hn.1 x e
  ·rw[List.mem_singleton.1 e]; omega
 ·rw[List.pairwise_append];refine ⟨hn.2,by simp,fun a ha b hb=>?_⟩
  rw[List.mem_singleton.1 hb];have:=hl.2 a ha;omega
theorem Xbh.less {ts:List Tk}{k:Tk}(hn:Xbh (ts ++ [k])):Xbh ts∧Xcg ts<k.num∧k.num≤1152921504606846976:=by
 have h1:=hn.1 k (by simp)
 have h2:=List.pairwise_append.1 hn.2;refine ⟨⟨fun x hx=>hn.1 x (by simp[hx]),h2.1⟩,?_,h1.2⟩
 unfold Xcg;cases h:ts.getLast? with
 | none=>show 0<k.num; exact h1.1
 | some y =>
   obtain ⟨l,rfl⟩:=List.getLast?_eq_some_iff.1 h;exact h2.2.2 y (by simp) k (by simp)
theorem Xbh.take {ts:List Tk}(hn:Xbh ts)(j:Nat):Xbh (ts.take j):=⟨fun k hk=>hn.1 k (List.mem_of_mem_take hk),hn.2.sublist (List.take_sublist _ _)⟩
theorem Xf (Aq:Option Addr)(cq:Nat)(Ac:Option Addr)(cc:Nat)(p:Pln)(A:Option Addr)(ct:Nat)(ts:List Tk)(w:World)(h:LgAt w Aq cq Ac cc p A ct ts) :
  Calls Tryz.prog 45 #[.agg (lgA Aq cq Ac cc p A ts.length ct)] w (Xd (LgOK p ts) w):=by
 have HP:=Lib.hid h.p;have HT:=Lib.hid h.t;have HTM:Hid (ts.length≤100):=h.tm;have HHM:=Lib.hid h.hm;obtain ⟨_,_,rfl,rfl,-,HB0,HK0⟩:=box1 w 53 (lgA Aq cq Ac cc p A ts.length ct);have HTA:=Lib.hid (fun w' hb hok hx=>Xbt Aq cq Ac cc p A ct ts w' (h.below (w':=w') hb) hok hx);have HPC:=Lib.hid (fun w' hb=>Xb2 Aq cq Ac cc p w' (h.below (w':=w') hb).p);have HBC:=Lib.hid (fun w' hb=>Xds Aq cq Ac cc p none 0 [] w' (h.below (w':=w') hb).p (SlAt.nil _ _) (by unfold maxLen; simp))
 clear h;have a0:=HK0.out.c4;go_enter Tryz.func45,Tryz.ntmps45;go_wp2_with fail;clear a0;generalize (w.alloc (.cells (lgA Aq cq Ac cc p A ts.length ct) 53))=W at HB0 HK0 ⊢;generalize hn0:w.heap.size=n0 at HB0 HK0 ⊢;refine (HPC.out W (by rw[hn0]; exact HB0.out)).mono ?_
 rintro e w1 ⟨q,rfl,hq,hb1⟩;have HB1:Hid (Below n0 w w1):=HB0.out.trans (hb1.mono (by have:=HK0.out.lt; omega))
 have HM0:=Lib.hid (HK0.out.below hb1 HK0.out.lt);clear hb1 HB0 HK0 HPC
 by_cases hz:q=0
 ·subst hz;have HPO:=Lib.hid (hq.1 rfl);clear hq;have a0:=HM0.out.c4;go_wp2_with fail;clear a0;refine (Xtk none 0 [] (fun _=>False) w1 (SlAt.nil _ _) (by simp) (by simp)).mono ?_
  rintro e w2 ⟨v,rfl,hv,hb2⟩;obtain rfl:v=false:=by
   cases v with
   | false=>rfl
   | true=>exact absurd (hv.1 rfl) (by simp)
  have HB2:Hid (Below n0 w w2):=HB1.out.trans (hb2.mono (by have:=HM0.out.lt; omega))
  have HN0:=Lib.hid (HM0.out.below hb2 HM0.out.lt);clear hb2 hv HB1 HM0;have a0:=HN0.out.c4
  by_cases h64:(64:Int)<(ts.length:Int)
  ·have HN:Hid (¬ LgOK p ts):=fun h=>by have:=h.2.1; omega
   go_wp2;go_ret;exact Xa2 (by decide) HN.out (by rw[hn0]; exact HB2.out)
  ·have HLN:Hid (ts.length≤64):=by show _≤_; omega
   go_wp2_with fail;clear a0;generalize hw2:w2=W2 at HB2 HN0 ⊢;clear hw2;go_loopw [4,6,7,25] (fun bf _ _ i wr => ∃j:Nat,j≤ts.length∧i = .int .i64 j∧bf = .int .i64 (Xcg (ts.take j))∧Below W2.heap.size W2 wr∧Xbh (ts.take j) ∧ ∀k ∈ ts.take j,TkOK p k) (fun _ _ _ i _=>ts.length - (intOf i).toNat)
   case atStart=>exact ⟨0,Nat.zero_le _,rfl,rfl,Below.refl _ _,⟨by simp,by simp⟩,by simp⟩
   case round =>
    obtain ⟨j,hj,rfl,rfl,hbw,hnm,htk⟩:=hrel;obtain ⟨wq,rfl⟩:∃wo:World,wo=wr:=⟨_,rfl⟩;have HBW:=Lib.hid hbw;have HNM:=Lib.hid hnm;have HTK:=Lib.hid htk;have HB3:Hid (Below n0 w wq):=HB2.out.trans (hbw.mono (by have:=HN0.out.lt; omega))
    have HQ0:=Lib.hid (HN0.out.below hbw HN0.out.lt);clear hbw hnm htk
    by_cases hlt:j<ts.length
    ·obtain ⟨b,off,hA,hr⟩:=HT.out.one (by omega)
     obtain ⟨x,hx⟩:∃x,ts[j]? = some x:=⟨_,List.getElem?_eq_getElem hlt⟩;obtain ⟨Ah,ch,hrg',hhp⟩:=hr j x hx;have hrg:=Xa3 hrg' (show Below w.heap.size w wq by rw[hn0]; exact HB3.out)
     have HX:=Lib.hid hx;have HSN:Hid (ts.take (j+1)=ts.take j ++ [x]):=take_snoc hx;have HHL:Hid (x.hops.length≤4000):=HHM.out x (List.mem_of_getElem? hx);have HCK:=Lib.hid (fun bf w' hb=>Xhu Aq cq Ac cc p x Ah ch bf w' (HP.out.below (w':=w') hb) (hhp.below hb) (by have:=HHM.out x (List.mem_of_getElem? hx); omega))
     subst hA;have c0:wq.cell? ⟨b,off+j * 11,none⟩=some (.int .i64 x.num):=hrg 0 _ rfl;have c1:wq.cell? ⟨b,off+j * 11+1,none⟩=some (.int .i64 x.rq.src):=hrg 1 _ rfl;have c2:wq.cell? ⟨b,off+j * 11+2,none⟩=some (.int .i64 x.rq.dst):=hrg 2 _ rfl;have c3:wq.cell? ⟨b,off+j * 11+3,none⟩=some (.int .i64 x.rq.size):=hrg 3 _ rfl;have c4:wq.cell? ⟨b,off+j * 11+4,none⟩=some (.int .i64 x.rq.ready):=hrg 4 _ rfl;have c5:wq.cell? ⟨b,off+j * 11+5,none⟩=some (.int .i64 x.rq.dead):=hrg 5 _ rfl;have c6:wq.cell? ⟨b,off+j * 11+6,none⟩=some (.int .i64 x.rq.prio):=hrg 6 _ rfl;have c7:wq.cell? ⟨b,off+j * 11+7,none⟩=some (.bool x.rq.cust):=hrg 7 _ rfl;have c8:wq.cell? ⟨b,off+j * 11+8,none⟩=some (.slice Ah x.hops.length ch):=hrg 8 _ rfl;have c9:wq.cell? ⟨b,off+j * 11+9,none⟩=some (.int .i64 x.st):=hrg 9 _ rfl;have c10:wq.cell? ⟨b,off+j * 11+10,none⟩=some (.int .i64 x.til):=hrg 10 _ rfl;have hj64:(j:Int)≤64:=by have:=HLN.out; omega
     obtain ⟨_,_,rfl,rfl,-,HBN,HX8⟩:=box1 wq 55 (tkA x Ah ch);have HB8:Hid (Below n0 w (wq.alloc (.cells (tkA x Ah ch) 55))):=HB3.out.trans (HBN.out.mono (by have:=HQ0.out.lt; omega))
     have HBW8:=Lib.hid (Xa HBW.out HBN.out);have HR0:=Lib.hid (HQ0.out.below HBN.out HQ0.out.lt);have a0:=HR0.out.c4;obtain ⟨y0,y1,y2,y3,y4,y5,y6,y7,y8,y9,y10⟩:=HX8.out.c11;clear hr hx hrg hrg' hhp HBN;generalize hbf:Xcg (ts.take j)=bf;have HBF:Hid (bf=Xcg (ts.take j)):=hbf.symm;clear hbf;go_wp2_with fail;clear a0 c0 c1 c2 c3 c4 c5 c6 c7 c8 c9 c10 y0 y1 y2 y3 y4 y5 y6 y7 y8 y9 y10;generalize wq.alloc (.cells (tkA x Ah ch) 55)=w8 at HX8 HB8 HBW8 HR0 ⊢;generalize wq.heap.size=g8 at HX8 ⊢;refine (HCK.out bf w8 (by rw[hn0]; exact HB8.out)).mono ?_
     rintro e w9 ⟨r,rfl,hr,hb9⟩;have HX9:=Lib.hid (HX8.out.below hb9 HX8.out.lt);have HB9:Hid (Below n0 w w9):=HB8.out.trans (hb9.mono (by have:=HR0.out.lt; omega))
     have HBW9:=Lib.hid (Xa HBW8.out hb9);have y0:=HX9.out.n0;clear hb9 HX8 HB8 HBW8 HR0
     by_cases hz:r=0
     ·have hk:=hr.1 hz;subst hz;have HNM2:Hid (Xbh (ts.take (j+1))):=by
       show Xbh _;rw[HSN.out];exact HNM.out.more (by rw[←HBF.out]; exact hk.1.1) hk.1.2
      have HTK2:Hid (∀k ∈ ts.take (j+1),TkOK p k):=fun k hm=>by
       rw[HSN.out] at hm;rcases List.mem_append.1 hm with e | e
       ·exact HTK.out k e
       ·rw[List.mem_singleton.1 e]; exact hk.2
      have HLN2:Hid (Xcg (ts.take (j+1))=x.num):=by show _=_; rw[HSN.out,Xld]
      clear hr hk;go_wp2;go_roundw
      case rel=>exact ⟨j+1,by omega,by go_num,by rw[HLN2.out],HBW9.out,HNM2.out,HTK2.out⟩
      case measure=>simp[intOf]; omega
     ·have hzb:(r != 0)=true:=by rw[bne_iff_ne]; exact hz
      have HN:Hid (¬ LgOK p ts):=fun h=>hz (hr.2 (by
       have h1:=h.2.2.1.take (j+1);rw[HSN.out] at h1;have h2:=h1.less;exact ⟨⟨by rw[HBF.out]; exact h2.2.1,h2.2.2⟩,h.2.2.2.1 x (List.mem_of_getElem? HX.out)⟩))
      have HZ:=Lib.hid hz;clear hr hz;go_wp2;go_ret;exact Xa2 HZ.out HN.out (by rw[hn0]; exact HB9.out)
    ·have e:ts.take j=ts:=List.take_of_length_le (by omega)
     rw[e] at HNM HTK;clear e;have a0:=HQ0.out.c4;go_wp2_with fail;clear a0;refine (HBC.out wq (by rw[hn0]; exact HB3.out)).mono ?_
     rintro e w4 ⟨r,rfl,hr,hb4⟩;obtain rfl:r=0:=hr.2 ⟨HPO.out,by simp,by simp,List.Pairwise.nil⟩
     have HB4:Hid (Below n0 w w4):=HB3.out.trans (hb4.mono (by have:=HQ0.out.lt; omega))
     have HR0:=Lib.hid (HQ0.out.below hb4 HQ0.out.lt);clear hr hb4 HB3 HBW;have a0:=HR0.out.c4;go_wp2_with fail;clear a0;refine (HTA.out w4 (by rw[hn0]; exact HB4.out) HPO.out (fun k hk=>(HTK.out k hk).hopB)).mono ?_
     rintro e w5 ⟨t,B,cb,H,ch,htr,rfl,hta,hrow,hb5⟩;have HB5:Hid (Below n0 w w5):=HB4.out.trans (hb5.mono (by have:=HR0.out.lt; omega))
     have HTR:=Lib.hid htr;have HCT:=Lib.hid (Xfx Aq cq Ac cc B cb H ch t w5 hta);clear htr hta hrow hb5;go_wp2_with fail;refine HCT.out.mono ?_;rintro e w6 ⟨r,rfl,hr,hb6⟩;have HB6:Hid (Below n0 w w6):=HB5.out.trans (hb6.mono (by have h1:=HR0.out.lt; have h2:=HB5.out.size; have:=HB4.out.size; omega))
     have HFI:Hid (r=0↔LgOK p ts):=by
      show _↔_;rw[hr,Xn9 HTR.out HPO.out];exact ⟨fun h=>⟨HPO.out,HLN.out,HNM.out,HTK.out,h.1,h.2⟩,fun h=>h.2.2.2.2⟩
     clear hr hb6 HCT;go_wp2;go_ret;exact ⟨r,rfl,HFI.out,by rw[hn0]; exact HB6.out⟩
 ·have hzb:(q != 0)=true:=by rw[bne_iff_ne]; exact hz
  have HN:Hid (¬ LgOK p ts):=fun h=>hz (hq.2 h.1);have HZ:=Lib.hid hz;clear hq hz;go_wp2;go_ret;exact Xa2 HZ.out HN.out (by rw[hn0]; exact HB1.out)
theorem Xoo (n:Nat)(w:World)(hn:n≤1000000) :
  Calls Tryz.prog 236 #[.slice none 0 0,.int .i64 n] w fun e w' => ∃v,e = .returned v∧w'.ownsRow w.heap.size 41 4 v 0 [] ∧ Below w.heap.size w w':=by
 by_cases h0:n=0
 ·subst h0;rw[show ((0:Nat):Int)=0 from rfl];go_enter Tryz.func236,Tryz.ntmps236;go_wp2;go_ret;exact ⟨_,rfl,World.ownsRow_nil _ _ _ _,Below.refl _ _⟩
 ·obtain ⟨i0,hi0,hz0,hz1,hz2⟩:=info_parts Xnj;have h1:(0:Int)<(n:Int):=by omega
  have h2:¬ (n:Int)<0:=by omega
  have h3:IntKind.i64.wrap (n:Int)=(n:Int):=IntWalk.i64_in _ (by omega)
  obtain ⟨GC,hGC⟩:∃GC,GC=grownCap w n 0 41:=⟨_,rfl⟩;have hGM:GC≤maxLen:=by rw[hGC]; exact grownCap_le_maxLen w n 0 41 (by unfold maxLen; omega)
  have hGn:n≤GC:=by rw[hGC]; exact grownCap_ge w _ _ _
  obtain ⟨ROW,hROW⟩:∃ROW:Array Value,ROW=Builtin.zeroCells (Value.agg #[.int .i64 0,.int .i64 0,.int .i64 0,.int .i64 0]).cells n ++ Builtin.zeroCells (Value.agg #[.int .i64 0,.int .i64 0,.int .i64 0,.int .i64 0]).cells (GC - n):=⟨_,rfl⟩;have hZ:∀m,(Builtin.zeroCells (Value.agg #[.int .i64 0,.int .i64 0,.int .i64 0,.int .i64 0]).cells m).size=m * 4:=fun m=>by simp[Builtin.zeroCells,Value.cells]
  have hRs:ROW.size=GC * 4:=by rw[hROW,Array.size_append,hZ,hZ]; omega
  have HRZ:Hid (∀ty,(Builtin.append_ #[37,3] ty #[.slice none 0 0,.int .i64 (n:Int)]).run Tryz.prog w = .ok (.slice (some ⟨w.heap.size,0,none⟩) n GC) (w.drew.alloc (.cells ROW 41))):=fun ty=>by
   have h:=Lib.run_append_nil_zeros (P:=Tryz.prog) w 37 3 ty 41 i0 _ .i64 .i64 Tryz.underlying37 Tryz.underlying3 hi0 hz0 n (by omega) (by rw[hz1]; omega) (by omega) (by rw[hz2]; omega)
   rw[←hGC, ←hROW] at h;exact h
  have HOW:Hid ((w.drew.alloc (.cells ROW 41)).ownsRow w.heap.size 41 4 (.slice (some ⟨w.heap.size,0,none⟩) 0 GC) 0 []) :=
   ⟨rfl,.inr ⟨w.heap.size,GC,ROW,rfl,Nat.le_refl _,Bk.new w.drew _ _,Nat.zero_le _,hGM,hRs,by simp⟩⟩
  have HBW:Hid (Below w.heap.size w (w.drew.alloc (.cells ROW 41))):=(Below.refl _ _).drew.alloc (Nat.le_refl _) _;have hgc1:(0:Int)≤(GC:Int):=by omega
  clear hGC hROW hZ hRs hi0 hz0 hz1 hz2 hGn;go_enter Tryz.func236,Tryz.ntmps236;go_wp2_with (at_builtin; refine Lib.wpList_append_run _ rfl _ _ _ _ rfl _ _ rfl rfl _ _ (HRZ.out _) ?_);go_wp2;go_ret;exact ⟨_,rfl,HOW.out,HBW.out⟩
theorem Xln (b:Nat)(A1:Option Addr)(c1:Nat)(l1:List Hop)(A2:Option Addr)(c2:Nat)(l2:List Hop)(w:World)(hb:Bk w b 37 #[.slice A1 l1.length c1,.slice A2 l2.length c2])(h1:SlAt hpE w A1 l1)(h2:SlAt hpE w A2 l2)(hl1:l1.length≤100000)(hl2:l2.length≤100000) :
  Calls Tryz.prog 228 #[.slice (some ⟨b,0,none⟩) 2 2] w fun e w' => ∃v,e = .returned v∧w'.ownsRow w.heap.size 41 4 v (l1 ++ l2).length ((l1 ++ l2).flatMap hpE.f)∧Below w.heap.size w w':=by
 have HK:=Lib.hid hb;have H1:=Lib.hid h1;have H2:=Lib.hid h2;have HN1:Hid (l1.length≤100000):=hl1;have HN2:Hid (l2.length≤100000):=hl2;obtain ⟨i0,hi0,hz0,hz1,hz2⟩:=info_parts Xnj;obtain ⟨k0,k1⟩:=HK.out.c2;have h3:IntKind.i64.wrap ((l1.length:Int)+(l2.length:Int))=(l1.length:Int)+(l2.length:Int):=IntWalk.i64_in _ (by omega)
 have h4:IntKind.i64.wrap (l1.length:Int)=(l1.length:Int):=IntWalk.i64_in _ (by omega)
 have h5:¬ (l1.length:Int)<0:=by omega
 have h6:¬ (l1.length:Int)+(l2.length:Int)<0:=by omega
 clear hb h1 h2;go_enter Tryz.func228,Tryz.ntmps228;go_wp2_with fail;go_loopw [3,5,11] (fun s _ i wr=>wr=w∧(i = .int .i64 0∧s = .int .i64 0∨i = .int .i64 1∧s = .int .i64 l1.length∨i = .int .i64 2∧s = .int .i64 ((l1.length:Int)+l2.length))) (fun _ _ i _=>2 - (intOf i).toNat)
 case atStart=>exact ⟨rfl,.inl ⟨rfl,rfl⟩⟩
 case round =>
  obtain ⟨rfl,hs⟩:=hrel;rcases hs with ⟨rfl,rfl⟩ | ⟨rfl,rfl⟩ | ⟨rfl,rfl⟩
  ·go_wp2;go_roundw
   case rel=>exact ⟨trivial,.inr (.inl ⟨rfl,rfl⟩)⟩
   case measure=>simp[intOf]
  ·go_wp2;go_roundw
   case rel=>exact ⟨trivial,.inr (.inr ⟨rfl,rfl⟩)⟩
   case measure=>simp[intOf]
  ·obtain ⟨wo,rfl⟩:∃wo:World,wo=wr:=⟨_,rfl⟩;have HG:=Lib.hid (Xoo (l1.length+l2.length) wo (by omega))
   rw[show ((l1.length+l2.length:Nat):Int)=(l1.length:Int)+(l2.length:Int) by omega] at HG
   clear k0 k1;go_wp2_with fail;refine HG.out.mono ?_;rintro e w1 ⟨v,rfl,hrow,hb1⟩;have HR:=Lib.hid hrow;have HB:=Lib.hid hb1;clear hrow hb1 HG;go_wp2_with fail;go_loopw [6,8,27] (fun v _ i wq=>Below wo.heap.size wo wq∧(i = .int .i64 0∧wq.ownsRow wo.heap.size 41 4 v 0 [] ∨ i = .int .i64 1∧wq.ownsRow wo.heap.size 41 4 v l1.length (l1.flatMap hpE.f)∨i = .int .i64 2∧wq.ownsRow wo.heap.size 41 4 v (l1 ++ l2).length ((l1 ++ l2).flatMap hpE.f))) (fun _ _ i _=>2 - (intOf i).toNat)
   case atStart=>exact ⟨HB.out,.inl ⟨rfl,HR.out⟩⟩
   case round =>
    obtain ⟨hbw,hs⟩:=hrel;have HBW:=Lib.hid hbw;rcases hs with ⟨rfl,hr⟩ | ⟨rfl,hr⟩ | ⟨rfl,hr⟩
    ·have HQ:=Lib.hid hr;have HKQ:=HK.out.below hbw HK.out.lt;have k0:=HKQ.cell 0;clear hbw hr HR HB;simp only[List.getElem?_toArray,List.getElem?_cons_zero] at k0;go_wp2_with (at_builtin; refine Xdv hpE rfl _ _ 37 41 rfl wo.heap.size i0 (.agg #[.int .i64 0,.int .i64 0,.int .i64 0,.int .i64 0]) 32 Tryz.underlying37 hi0 hz0 hz1 hz2 rfl (by decide) _ _ _ rfl HQ.out A1 l1 c1 rfl (H1.out.below HBW.out) ?d3 ?d4 ?d5 ?_)
     case d3=>have:=HN1.out; unfold maxLen; omega
     case d4=>have:=HN1.out; omega
     case d5=>exact HBW.out.size
     intro v' w4 hown hg _;have HR4:Hid (w4.ownsRow wo.heap.size 41 4 v' l1.length (l1.flatMap hpE.f)):=by
      have hown:=hown;exact hown
     have HB4:Hid (Below wo.heap.size wo w4):=HBW.out.grown hg HBW.out.size (fun r e=>(HQ.out.lt r e).1);clear hown hg;go_wp2;go_roundw
     case rel=>exact ⟨HB4.out,.inr (.inl ⟨rfl,HR4.out⟩)⟩
     case measure=>simp[intOf]
    ·have HQ:=Lib.hid hr;have HKQ:=HK.out.below hbw HK.out.lt;have k1:=HKQ.cell 1;clear hbw hr HR HB;simp only[List.getElem?_toArray,List.getElem?_cons_succ,List.getElem?_cons_zero] at k1;go_wp2_with (at_builtin; refine Xdv hpE rfl _ _ 37 41 rfl wo.heap.size i0 (.agg #[.int .i64 0,.int .i64 0,.int .i64 0,.int .i64 0]) 32 Tryz.underlying37 hi0 hz0 hz1 hz2 rfl (by decide) _ _ _ rfl HQ.out A2 l2 c2 rfl (H2.out.below HBW.out) ?d3 ?d4 ?d5 ?_)
     case d3=>have:=HN1.out; have:=HN2.out; unfold maxLen; omega
     case d4=>have:=HN1.out; have:=HN2.out; omega
     case d5=>exact HBW.out.size
     intro v' w4 hown hg _;have HR4:Hid (w4.ownsRow wo.heap.size 41 4 v' (l1 ++ l2).length ((l1 ++ l2).flatMap hpE.f)):=by
      show w4.ownsRow _ _ _ _ _ _;rw[List.length_append,List.flatMap_append];exact hown
     have HB4:Hid (Below wo.heap.size wo w4):=HBW.out.grown hg HBW.out.size (fun r e=>(HQ.out.lt r e).1);clear hown hg;go_wp2;go_roundw
     case rel=>exact ⟨HB4.out,.inr (.inr ⟨rfl,HR4.out⟩)⟩
     case measure=>simp[intOf]
    ·have HQ:=Lib.hid hr;clear hbw hr HR HB;go_wp2;go_ret;exact ⟨_,rfl,HQ.out,HBW.out⟩
def Xtw (p:Pln)(Aq:Option Addr)(cq:Nat)(Ac:Option Addr)(cc:Nat)(w:World)(e:Ending)(w':World):Prop:=Below w.heap.size w w' ∧ ((Xbe p∧e = .returned (.tuple #[.agg (lgA Aq cq Ac cc p none 0 0),.int .i64 0]))∨(¬ Xbe p ∧ ∃x:Int,x ≠ 0 ∧ ∃v,e = .returned (.tuple #[v,.int .i64 x])))
theorem Xq6 (Aq:Option Addr)(cq:Nat)(Ac:Option Addr)(cc:Nat)(p:Pln)(w:World)(hp:Xas w Aq cq Ac cc p) :
  Calls Tryz.prog 18 #[.agg (plA Aq cq Ac cc p)] w (Xtw p Aq cq Ac cc w):=by
 obtain ⟨_,_,rfl,rfl,-,HB0,HK0,HK1⟩:=box2 w 25 (plA Aq cq Ac cc p) 53 #[.slice none 0 0,.slice none 0 0,.slice none 0 0,.slice none 0 0];have HPC:=Lib.hid (fun w' hb=>Xb2 Aq cq Ac cc p w' (hp.below (w':=w') hb));clear hp;have a0:=HK0.out.c2;go_enter Tryz.func18,Tryz.ntmps18;go_wp2_with fail;clear a0;generalize ((w.alloc (.cells (plA Aq cq Ac cc p) 25)).alloc (.cells #[.slice none 0 0,.slice none 0 0,.slice none 0 0,.slice none 0 0] 53))=W at HB0 HK0 HK1 ⊢;generalize hn0:w.heap.size=n0 at HB0 HK0 HK1 ⊢;refine (HPC.out W (by rw[hn0]; exact HB0.out)).mono ?_
 rintro e w1 ⟨q,rfl,hq,hb1⟩;have HB1:Hid (Below n0 w w1):=HB0.out.trans (hb1.mono (by have:=HK0.out.lt; omega))
 have HM0:=Lib.hid (HK0.out.below hb1 HK0.out.lt);have HM1:=Lib.hid (HK1.out.below hb1 HK1.out.lt);clear hb1 HB0 HK0 HK1 HPC
 by_cases hz:q=0
 ·have HPO:=Lib.hid (hq.1 hz);subst hz;clear hq;have a0:=HM0.out.c2;have r0:=HM1.out.c4;have f0:=HM1.out.f4;go_wp2;obtain ⟨hq,hbe⟩:=Xmb HM1.out HB1.out (by omega) (.slice Aq p.q.length cq) (.slice Ac p.c.length cc) (.slice none 0 0) (.slice none 0 0)
  generalize ((((w1.setCell ⟨n0+1,0,none⟩ (.slice Aq p.q.length cq)).setCell ⟨n0+1,1,none⟩ (.slice Ac p.c.length cc)).setCell ⟨n0+1,2,none⟩ (.slice none 0 0)).setCell ⟨n0+1,3,none⟩ (.slice none 0 0))=WF at hq hbe ⊢;have p0:=hq.c4;exact bodyPost_ret (v:=.tuple #[.agg (lgA Aq cq Ac cc p none 0 0),.int .i64 0]) (by simp[results,Tryz.results18,go_sem,p0]) rfl ⟨by rw[hn0]; exact hbe,.inl ⟨HPO.out,rfl⟩⟩
 ·have hzb:(q != 0)=true:=by rw[bne_iff_ne]; exact hz
  have HNO:Hid (¬ Xbe p):=fun h=>hz (hq.2 h);have HZ:=Lib.hid hz;clear hq hz;have r0:=HM1.out.c4;have f0:=HM1.out.f4;go_wp2;obtain ⟨hq,hbe⟩:=Xmb HM1.out HB1.out (by omega) (.slice none 0 0) (.slice none 0 0) (.slice none 0 0) (.slice none 0 0)
  generalize ((((w1.setCell ⟨n0+1,0,none⟩ (.slice none 0 0)).setCell ⟨n0+1,1,none⟩ (.slice none 0 0)).setCell ⟨n0+1,2,none⟩ (.slice none 0 0)).setCell ⟨n0+1,3,none⟩ (.slice none 0 0))=WF at hq hbe ⊢;have p0:=hq.c4;exact bodyPost_ret (v:=.tuple #[.agg #[.slice none 0 0,.slice none 0 0,.slice none 0 0,.slice none 0 0],.int .i64 q]) (by simp[results,Tryz.results18,go_sem,p0]) rfl ⟨by rw[hn0]; exact hbe,.inr ⟨HNO.out,q,HZ.out,_,rfl⟩⟩
theorem Xfz {W:World}{g:Nat}{T e:TypeId}{cs:Array Value}(hg:Bk W g T cs)(hTe:T ≠ e){base k n:Nat}{v:Value}{xs:List Value}(hr:W.ownsRow base e k v n xs)(i:Nat)(u:Value):(W.setCell ⟨g,i,none⟩ u).ownsRow base e k v n xs :=
 hr.kept (Xa0 W g i u) (.inr (Xa1 hg hTe hr).symm)
theorem Xj9 {W:World}{g:Nat}{T e:TypeId}{cs:Array Value}(hg:Bk W g T cs)(hTe:T ≠ e){base k n:Nat}{v:Value}{xs:List Value}(hr:W.ownsRow base e k v n xs)(u0 u1 u2 u3:Value):((((W.setCell ⟨g,0,none⟩ u0).setCell ⟨g,1,none⟩ u1).setCell ⟨g,2,none⟩ u2).setCell ⟨g,3,none⟩ u3).ownsRow base e k v n xs :=
 Xfz (((hg.put 0 u0).put 1 u1).put 2 u2) hTe (Xfz ((hg.put 0 u0).put 1 u1) hTe (Xfz (hg.put 0 u0) hTe (Xfz hg hTe hr 0 u0) 1 u1) 2 u2) 3 u3
theorem Xo0 {W:World}{Aq:Option Addr}{cq:Nat}{Ac:Option Addr}{cc:Nat}{B:Option Addr}{cb:Nat}{H:Option Addr}{ch:Nat}{t:Tbl}{base:Nat}(hp:Xas W Aq cq Ac cc t.p)
  (rb:W.ownsRow base 95 4 (.slice B t.b.length cb) t.b.length (t.b.flatMap bkE.f)) (rh:W.ownsRow base 99 5 (.slice H t.h.length ch) t.h.length (t.h.flatMap hdE.f)) (h1:t.b.length≤maxLen) (h2:t.h.length≤maxLen):Xcm W Aq cq Ac cc B cb H ch t:=by
 obtain ⟨A3,c3,e3,hsb,hcb, -⟩:=Xab (E:=bkE) rb;obtain ⟨A4,c4,e4,hsh,hch, -⟩:=Xab (E:=hdE) rh
 injection e3 with e31 _ e33
 injection e4 with e41 _ e43
 subst e31 e33 e41 e43;exact ⟨hp,hsb,hsh,hcb,hch,h1,h2⟩
def Xr4 (p:Pln)(Aq:Option Addr)(cq:Nat)(Ac:Option Addr)(cc:Nat)(ts:List Tk)(w:World)(e:Ending)(w':World):Prop:=∃(t:Tbl)(B:Option Addr)(cb:Nat)(H:Option Addr)(ch:Nat),TblR p ts t∧e = .returned (.tuple #[.agg (tbA Aq cq Ac cc B cb H ch t),.int .i64 0])∧Xcm w' Aq cq Ac cc B cb H ch t∧Below w.heap.size w w'
theorem Xe4 (Aq:Option Addr)(cq:Nat)(Ac:Option Addr)(cc:Nat)(p:Pln)(A:Option Addr)(ct:Nat)(ts:List Tk)(w:World)(h:LgAt w Aq cq Ac cc p A ct ts)(hok:LgOK p ts) :
  Calls Tryz.prog 19 #[.agg (lgA Aq cq Ac cc p A ts.length ct)] w (Xr4 p Aq cq Ac cc ts w):=by
 obtain ⟨_,_,rfl,rfl,-,HB0,HK0,HK1⟩:=box2 w 53 (lgA Aq cq Ac cc p A ts.length ct) 29 #[.slice none 0 0,.slice none 0 0,.slice none 0 0,.slice none 0 0];have HCK:=Lib.hid (fun w' hb=>Xf Aq cq Ac cc p A ct ts w' (h.below (w':=w') hb));have HTA:=Lib.hid (fun w' hb=>Xbt Aq cq Ac cc p A ct ts w' (h.below (w':=w') hb) hok.1 (fun k hk=>(hok.2.2.2.1 k hk).hopB));have HOK:=Lib.hid hok;have HP:=Lib.hid h.p;clear h hok;have a0:=HK0.out.c4;go_enter Tryz.func19,Tryz.ntmps19;go_wp2_with fail;clear a0;generalize ((w.alloc (.cells (lgA Aq cq Ac cc p A ts.length ct) 53)).alloc (.cells #[.slice none 0 0,.slice none 0 0,.slice none 0 0,.slice none 0 0] 29))=W at HB0 HK0 HK1 ⊢;generalize hn0:w.heap.size=n0 at HB0 HK0 HK1 ⊢;refine (HCK.out W (by rw[hn0]; exact HB0.out)).mono ?_
 rintro e w1 ⟨q,rfl,hq,hb1⟩;obtain rfl:q=0:=hq.2 HOK.out;have HB1:Hid (Below n0 w w1):=HB0.out.trans (hb1.mono (by have:=HK0.out.lt; omega))
 have HM0:=Lib.hid (HK0.out.below hb1 HK0.out.lt);have HM1:=Lib.hid (HK1.out.below hb1 HK1.out.lt);clear hb1 HB0 HK0 HK1 HCK hq;have a0:=HM0.out.c4;go_wp2_with fail;clear a0;refine (HTA.out w1 (by rw[hn0]; exact HB1.out)).mono ?_
 rintro e w2 ⟨t,B,cb,H,ch,htr,rfl,hta,hrow,hb2⟩;have HB2:Hid (Below n0 w w2):=HB1.out.trans (hb2.mono (by have:=HM0.out.lt; omega))
 have HN1:=Lib.hid (HM1.out.below hb2 HM1.out.lt);have HTR:=Lib.hid htr;have HT2:=Lib.hid (And.intro hta.bm hta.hm);have HRB:=Lib.hid hrow.1;have HRH:=Lib.hid hrow.2;clear hb2 HB1 HM0 HM1 htr hta hrow;have r0:=HN1.out.c4;have f0:=HN1.out.f4;go_wp2;obtain ⟨hq,hbe⟩:=Xmb HN1.out HB2.out (by omega) (.slice Aq t.p.q.length cq) (.slice Ac t.p.c.length cc) (.slice B t.b.length cb) (.slice H t.h.length ch)
 have hrb:=Xj9 HN1.out (by decide) HRB.out (.slice Aq t.p.q.length cq) (.slice Ac t.p.c.length cc) (.slice B t.b.length cb) (.slice H t.h.length ch)
 have hrh:=Xj9 HN1.out (by decide) HRH.out (.slice Aq t.p.q.length cq) (.slice Ac t.p.c.length cc) (.slice B t.b.length cb) (.slice H t.h.length ch)
 generalize ((((w2.setCell ⟨n0+1,0,none⟩ (.slice Aq t.p.q.length cq)).setCell ⟨n0+1,1,none⟩ (.slice Ac t.p.c.length cc)).setCell ⟨n0+1,2,none⟩ (.slice B t.b.length cb)).setCell ⟨n0+1,3,none⟩ (.slice H t.h.length ch))=WF at hq hbe hrb hrh ⊢;have p0:=hq.c4;exact bodyPost_ret (v:=.tuple #[.agg (tbA Aq cq Ac cc B cb H ch t),.int .i64 0]) (by simp[results,Tryz.results19,go_sem,p0]) rfl ⟨t,B,cb,H,ch,HTR.out,rfl,Xo0 (by rw[HTR.out.pl]; exact HP.out.below (by rw[hn0]; exact hbe)) hrb hrh HT2.out.1 HT2.out.2,by rw[hn0]; exact hbe⟩
end Go.Proofs.YtebkgbmijocdjaaGreat.Tp
