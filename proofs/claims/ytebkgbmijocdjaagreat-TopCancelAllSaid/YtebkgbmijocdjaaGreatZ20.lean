/- A part of the proof for the ledger. No condition beyond those that each theorem states. -/
import Derived.Test.YtebkgbmijocdjaaGreatZ12
set_option maxHeartbeats 32000000
set_option maxRecDepth 100000
set_option linter.unusedVariables false
set_option linter.unusedSimpArgs false
namespace Go.Proofs.YtebkgbmijocdjaaGreat.Tp
open Go Go.RowKit
theorem Xf2.one {w:World}{A:Option Addr}{ts:List Tk}(h:Xf2 w A ts)(hl:0<ts.length):∃b off,A=some ⟨b,off,none⟩ ∧ ∀(j:Nat)(k:Tk),ts[j]? = some k → ∃Ah ch,w.rangeAt b (off+j * 11) (tmL ⟨k,Ah,ch⟩)∧HpAt w Ah ch k.hops:=by
 obtain ⟨ms,rfl,h2,h3⟩:=h;obtain ⟨b,off,rfl,hr⟩:=h2.one (by simpa using hl)
 refine ⟨b,off,rfl,fun j k hk=>?_⟩;rw[List.getElem?_map] at hk;cases hm:ms[j]? with
 | none=>rw[hm] at hk; cases hk
 | some m =>
   rw[hm] at hk;cases hk;exact ⟨m.A,m.c,hr j m hm,h3 m (List.mem_of_getElem? hm)⟩
theorem Xf2.nil (w:World)(A:Option Addr):Xf2 w A []:=⟨[],rfl,SlAt.nil _ _,by simp⟩
def Xgh (ts:List Tk):Bool:=decide (64≤ts.length) || match ts.getLast? with | none=>false | some k=>decide (1152921504606846976≤k.num)
theorem Xqq {ts:List Tk}(h:Xgh ts=false):ts.length<64∧Xad ts≤1152921504606846976:=by
 unfold Xgh at h;rw[Bool.or_eq_false_iff,decide_eq_false_iff_not] at h;refine ⟨by omega,?_⟩
 unfold Xad;cases e:ts.getLast? with
 | none=>simp
 | some k =>
   rw[e] at h;have:=of_decide_eq_false h.2;simp only;omega
theorem Xio {ts:List Tk}{n:Nat}{k:Tk}(hn:ts.length=n+1)(hk:ts[n]? = some k):ts.getLast? = some k:=by
 rw[List.getLast?_eq_getElem?,hn];exact hk
theorem Xmv (Aq:Option Addr)(cq:Nat)(Ac:Option Addr)(cc:Nat)(p:Pln)(A:Option Addr)(ct:Nat)(ts:List Tk)(w:World)(h:Xf2 w A ts)(hl:ts.length≤1000) :
  Calls Tryz.prog 49 #[.agg (lgA Aq cq Ac cc p A ts.length ct)] w fun e w' => e = .returned (.bool (Xgh ts))∧Below w.heap.size w w':=by
 have HS:=Lib.hid h;have HB0:Hid (Below w.heap.size w (w.alloc (.cells (lgA Aq cq Ac cc p A ts.length ct) 53))):=(Below.refl _ _).alloc (Nat.le_refl _) _;have HC:Hid (Xgh ts=(decide (64≤ts.length) || match ts.getLast? with | none=>false | some k=>decide (1152921504606846976≤k.num))):=rfl
 clear h;generalize Xgh ts=cf at HC ⊢
 by_cases h64:64≤ts.length
 ·have h1:¬ (ts.length:Int)<64:=by omega
  have h1':(64:Int)≤(ts.length:Int):=by omega
  have HR:Hid (cf=true):=by show _=_; rw[HC.out,decide_eq_true h64]; rfl
  clear HC;go_enter Tryz.func49,Tryz.ntmps49;go_wp2;go_ret;exact ⟨Xe0 (by rw[HR.out]),HB0.out⟩
 ·cases hn:ts.length with
  | zero =>
    have e:ts = []:=List.eq_nil_of_length_eq_zero hn;subst e;have HR:Hid (cf=false):=HC.out;clear HC h64 hn;go_enter Tryz.func49,Tryz.ntmps49;go_wp2;go_ret;exact ⟨Xe0 (by rw[HR.out]),HB0.out⟩
  | succ n =>
    obtain ⟨b,off,rfl,hr⟩:=(HS.out.below HB0.out).one (by omega)
    obtain ⟨k,hk⟩:∃k,ts[n]? = some k:=⟨_,List.getElem?_eq_getElem (by omega)⟩
    obtain ⟨Ah,ch,hrg, -⟩:=hr n k hk;have HR:Hid (cf=decide (1152921504606846976≤k.num)):=by show _=_; rw[HC.out,decide_eq_false h64,Xio hn hk]; rfl
    rw[hn] at HB0 h64 hrg;have c0:(w.alloc (.cells #[.slice Aq p.q.length cq,.slice Ac p.c.length cc,.slice none 0 0,.slice (some ⟨b,off,none⟩) (n+1) ct] 53)).cell? ⟨b,off+n * 11,none⟩=some (.int .i64 k.num):=hrg 0 _ rfl;have hj0:(0:Int)≤(n:Int):=by omega
    have hjl:(n:Int)<(n:Int)+1:=by omega
    have hjw:IntKind.i64.wrap ((n:Int)+1 - 1)=(n:Int):=by rw[IntWalk.i64_in _ (by omega)]; omega
    have hjw2:IntKind.i64.wrap (n:Int)=(n:Int):=IntWalk.i64_in _ (by omega)
    have hjg:(0:Int)<(n:Int)+1:=by omega
    have h1:¬ (64:Int)≤(n:Int)+1:=by omega
    have h2:(n:Int)+1<64:=by omega
    clear HC hr hk hrg HS hn
    by_cases hbig:k.num<1152921504606846976
    ·have HR2:Hid (cf=false):=by show _=_; rw[HR.out]; exact decide_eq_false (by omega)
     have hd:decide (1152921504606846976≤k.num)=false:=decide_eq_false (by omega)
     clear HR;go_enter Tryz.func49,Tryz.ntmps49;go_wp2;go_ret;exact ⟨Xe0 (by rw[HR2.out]),HB0.out⟩
    ·have HR2:Hid (cf=true):=by show _=_; rw[HR.out]; exact decide_eq_true (by omega)
     clear HR;go_enter Tryz.func49,Tryz.ntmps49;go_wp2;go_ret;exact ⟨Xe0 (by rw[HR2.out]),HB0.out⟩
def Xi5 (t:Tbl):Bool:=decide (512<t.b.length) || decide (512<t.h.length)
theorem Xnn (Aq:Option Addr)(cq:Nat)(Ac:Option Addr)(cc:Nat)(B:Option Addr)(cb:Nat)(H:Option Addr)(ch:Nat)(t:Tbl)(w:World) :
  Calls Tryz.prog 55 #[.agg (tbA Aq cq Ac cc B cb H ch t)] w fun e w' => e = .returned (.bool (Xi5 t))∧Below w.heap.size w w':=by
 have HB0:Hid (Below w.heap.size w (w.alloc (.cells (tbA Aq cq Ac cc B cb H ch t) 29))):=(Below.refl _ _).alloc (Nat.le_refl _) _;have HC:Hid (Xi5 t=(decide (512<t.b.length) || decide (512<t.h.length))):=rfl
 generalize Xi5 t=cf at HC ⊢
 by_cases h1:512<t.b.length
 ·have h1':(512:Int)<(t.b.length:Int):=by omega
  have HR:Hid (cf=true):=by show _=_; rw[HC.out,decide_eq_true h1]; rfl
  clear HC h1;go_enter Tryz.func55,Tryz.ntmps55;go_wp2;go_ret;exact ⟨Xe0 (by rw[HR.out]),HB0.out⟩
 ·have h1':¬ (512:Int)<(t.b.length:Int):=by omega
  by_cases h2:512<t.h.length
  ·have h2':(512:Int)<(t.h.length:Int):=by omega
   have HR:Hid (cf=true):=by show _=_; rw[HC.out,decide_eq_true h2]; simp
   clear HC h1 h2;go_enter Tryz.func55,Tryz.ntmps55;go_wp2;go_ret;exact ⟨Xe0 (by rw[HR.out]),HB0.out⟩
  ·have h2':¬ (512:Int)<(t.h.length:Int):=by omega
   have HR:Hid (cf=false):=by show _=_; rw[HC.out,decide_eq_false h1,decide_eq_false h2]; rfl
   clear HC h1 h2;go_enter Tryz.func55,Tryz.ntmps55;go_wp2;go_ret;exact ⟨Xe0 (by rw[HR.out]),HB0.out⟩
theorem next_any (X:Nat)(A:Option Addr)(ct:Nat)(ts:List Tk)(w:World)(h:Xf2 w A ts)(hx:w.cell? ⟨X,3,none⟩=some (.slice A ts.length ct))(hl:ts.length≤1000)(hm:0<Xad ts∧Xad ts≤1152921504606846977) :
  Calls Tryz.prog 53 #[.pointer (some ⟨X,0,none⟩)] w fun e w' => e = .returned (.int .i64 (Xad ts))∧Below w.heap.size w w':=by
 cases hn:ts.length with
 | zero =>
   have e:ts = []:=List.eq_nil_of_length_eq_zero hn;subst e;rw[hn] at hx;clear hn h;go_enter Tryz.func53,Tryz.ntmps53;go_wp2;go_ret;exact ⟨rfl,Below.refl _ _⟩
 | succ n =>
   obtain ⟨b,off,rfl,hr⟩:=h.one (by omega)
   obtain ⟨k,hk⟩:∃k,ts[n]? = some k:=⟨_,List.getElem?_eq_getElem (by omega)⟩
   obtain ⟨Ah,ch,hrg, -⟩:=hr n k hk;have HR:Hid (Xad ts=k.num+1):=by show _=_; unfold Xad; rw[Xio hn hk]
   rw[HR.out] at hm;rw[hn] at hx;have c0:w.cell? ⟨b,off+n * 11,none⟩=some (.int .i64 k.num):=hrg 0 _ rfl;have hj0:(0:Int)≤(n:Int):=by omega
   have hjl:(n:Int)<(n:Int)+1:=by omega
   have hjw:IntKind.i64.wrap ((n:Int)+1 - 1)=(n:Int):=by rw[IntWalk.i64_in _ (by omega)]; omega
   have hjw2:IntKind.i64.wrap (n:Int)=(n:Int):=IntWalk.i64_in _ (by omega)
   have hkw:IntKind.i64.wrap (k.num+1)=k.num+1:=IntWalk.i64_in _ (by omega)
   have hze:(((n:Int)+1) == 0)=false:=by rw[beq_eq_false_iff_ne]; omega
   have hx2:w.cell? ⟨X,3,none⟩=some (.slice (some ⟨b,off,none⟩) (n+1) ct):=hx;clear hr hk hrg hn hx h;go_enter Tryz.func53,Tryz.ntmps53;go_wp2_with fail;go_quiet (fail);go_wp2;go_ret;exact ⟨Xh2 (by rw[HR.out]),Xa4 (Below.refl _ _) _⟩
theorem Xii {w w0:World}{g n0:Nat}{T:TypeId}{c0 c1 c2 c3 c4 c5 c6 c7 c8 c9 c10:Value}(h:Bk w g T #[c0,c1,c2,c3,c4,c5,c6,c7,c8,c9,c10])(hb:Below n0 w0 w)(hg:n0≤g)(v0 v1 v2 v3 v4 v5 v6 v7 v8 v9 v10:Value) :
  Bk (((((((((((w.setCell ⟨g,0,none⟩ v0).setCell ⟨g,1,none⟩ v1).setCell ⟨g,2,none⟩ v2).setCell ⟨g,3,none⟩ v3).setCell ⟨g,4,none⟩ v4).setCell ⟨g,5,none⟩ v5).setCell ⟨g,6,none⟩ v6).setCell ⟨g,7,none⟩ v7).setCell ⟨g,8,none⟩ v8).setCell ⟨g,9,none⟩ v9).setCell ⟨g,10,none⟩ v10) g T #[v0,v1,v2,v3,v4,v5,v6,v7,v8,v9,v10] ∧ Below n0 w0 (((((((((((w.setCell ⟨g,0,none⟩ v0).setCell ⟨g,1,none⟩ v1).setCell ⟨g,2,none⟩ v2).setCell ⟨g,3,none⟩ v3).setCell ⟨g,4,none⟩ v4).setCell ⟨g,5,none⟩ v5).setCell ⟨g,6,none⟩ v6).setCell ⟨g,7,none⟩ v7).setCell ⟨g,8,none⟩ v8).setCell ⟨g,9,none⟩ v9).setCell ⟨g,10,none⟩ v10):=by
 have h0:=h;have h1:=h0.put 0 v0;simp only[List.setIfInBounds_toArray,List.set_cons_zero] at h1;have h2:=h1.put 1 v1;simp only[List.setIfInBounds_toArray,List.set_cons_zero,List.set_cons_succ] at h2;have h3:=h2.put 2 v2;simp only[List.setIfInBounds_toArray,List.set_cons_zero,List.set_cons_succ] at h3;have h4:=h3.put 3 v3;simp only[List.setIfInBounds_toArray,List.set_cons_zero,List.set_cons_succ] at h4;have h5:=h4.put 4 v4;simp only[List.setIfInBounds_toArray,List.set_cons_zero,List.set_cons_succ] at h5;have h6:=h5.put 5 v5;simp only[List.setIfInBounds_toArray,List.set_cons_zero,List.set_cons_succ] at h6;have h7:=h6.put 6 v6;simp only[List.setIfInBounds_toArray,List.set_cons_zero,List.set_cons_succ] at h7;have h8:=h7.put 7 v7;simp only[List.setIfInBounds_toArray,List.set_cons_zero,List.set_cons_succ] at h8;have h9:=h8.put 8 v8;simp only[List.setIfInBounds_toArray,List.set_cons_zero,List.set_cons_succ] at h9;have h10:=h9.put 9 v9;simp only[List.setIfInBounds_toArray,List.set_cons_zero,List.set_cons_succ] at h10;have h11:=h10.put 10 v10;simp only[List.setIfInBounds_toArray,List.set_cons_zero,List.set_cons_succ] at h11;exact ⟨h11,(((((((((((hb.setCell (p:=⟨g,0,none⟩) hg v0).setCell (p:=⟨g,1,none⟩) hg v1).setCell (p:=⟨g,2,none⟩) hg v2).setCell (p:=⟨g,3,none⟩) hg v3).setCell (p:=⟨g,4,none⟩) hg v4).setCell (p:=⟨g,5,none⟩) hg v5).setCell (p:=⟨g,6,none⟩) hg v6).setCell (p:=⟨g,7,none⟩) hg v7).setCell (p:=⟨g,8,none⟩) hg v8).setCell (p:=⟨g,9,none⟩) hg v9).setCell (p:=⟨g,10,none⟩) hg v10)⟩
theorem Xnq {n:Int}:∀ {ts:List Tk}{j:Nat}{k:Tk},(∀i x,i<j→ts[i]? = some x→x.num ≠ n)→ts[j]? = some k→k.num=n→Xbg ts n=some k
 | [],j,k,_,h,_=>by simp at h
 | x :: l,0,k,_,h,hk=>by
   simp only[List.getElem?_cons_zero,Option.some.injEq] at h;subst h;unfold Xbg;rw[List.find?_cons,decide_eq_true hk]
 | x :: l,j+1,k,hp,h,hk=>by
   have ih:=Xnq (ts:=l) (j:=j) (k:=k) (fun i y hi hy=>hp (i+1) y (by omega) (by simpa using hy)) (by simpa using h) hk
   unfold Xbg at ih ⊢;rw[List.find?_cons,decide_eq_false (hp 0 x (by omega) rfl)]
   exact ih
theorem Xs5 {n:Int}{ts:List Tk}(h:∀i x,i<ts.length→ts[i]? = some x→x.num ≠ n):Xbg ts n=none:=by
 unfold Xbg;rw[List.find?_eq_none];intro x hx;obtain ⟨i,hi⟩:=List.getElem?_of_mem hx;simpa using h i x (List.getElem?_eq_some_iff.1 hi).1 hi
def Xnx (ts:List Tk)(n:Int)(w:World)(e:Ending)(w':World):Prop:=Below w.heap.size w w' ∧ match Xbg ts n with
 | none=>e = .returned (.tuple #[.agg #[.int .i64 0,.int .i64 0,.int .i64 0,.int .i64 0,.int .i64 0,.int .i64 0,.int .i64 0,.bool false,.slice none 0 0,.int .i64 0,.int .i64 0],.bool false])
 | some k => ∃A c,e = .returned (.tuple #[.agg (tkA k A c),.bool true])∧HpAt w' A c k.hops
theorem Xfr (Aq:Option Addr)(cq:Nat)(Ac:Option Addr)(cc:Nat)(p:Pln)(A:Option Addr)(ct:Nat)(ts:List Tk)(n:Int)(w:World)(h:Xf2 w A ts)(hl:ts.length≤1000) :
  Calls Tryz.prog 21 #[.agg (lgA Aq cq Ac cc p A ts.length ct),.int .i64 n] w (Xnx ts n w):=by
 have HS:=Lib.hid h;obtain ⟨_,_,rfl,rfl,-,HB0,-,HK1⟩:=box2 w 53 (lgA Aq cq Ac cc p A ts.length ct) 55 #[.int .i64 0,.int .i64 0,.int .i64 0,.int .i64 0,.int .i64 0,.int .i64 0,.int .i64 0,.bool false,.slice none 0 0,.int .i64 0,.int .i64 0];clear h;go_enter Tryz.func21,Tryz.ntmps21;go_wp2_with fail;generalize ((w.alloc (.cells (lgA Aq cq Ac cc p A ts.length ct) 53)).alloc (.cells #[.int .i64 0,.int .i64 0,.int .i64 0,.int .i64 0,.int .i64 0,.int .i64 0,.int .i64 0,.bool false,.slice none 0 0,.int .i64 0,.int .i64 0] 55))=W at HB0 HK1 ⊢;generalize hn0:w.heap.size=n0 at HB0 HK1 ⊢;go_loopw [7,11] (fun _ i wr => ∃k:Nat,k≤ts.length∧i = .int .i64 k∧Below W.heap.size W wr ∧ ∀j x,j<k→ts[j]? = some x→x.num ≠ n) (fun _ i _=>ts.length - (intOf i).toNat)
 case atStart=>exact ⟨0,Nat.zero_le _,rfl,Below.refl _ _,fun j x h=>absurd h (Nat.not_lt_zero _)⟩
 case round =>
  obtain ⟨k,hk,rfl,hbw,hno⟩:=hrel;obtain ⟨wq,rfl⟩:∃wo:World,wo=wr:=⟨_,rfl⟩;have HBW:=Lib.hid hbw;have HNO:=Lib.hid hno;have HB1:Hid (Below n0 w wq):=HB0.out.trans (hbw.mono (by have:=HK1.out.lt; omega))
  have HM1:=Lib.hid (HK1.out.below hbw HK1.out.lt);clear hbw hno
  by_cases hlt:k<ts.length
  ·obtain ⟨b,off,rfl,hr⟩:=HS.out.one (by omega)
   obtain ⟨x,hx⟩:∃x,ts[k]? = some x:=⟨_,List.getElem?_eq_getElem hlt⟩;obtain ⟨Ah,ch,hrg',hhp⟩:=hr k x hx;have hrg:=Xa3 hrg' (show Below w.heap.size w wq by rw[hn0]; exact HB1.out)
   have HX:=Lib.hid hx;have HHP:=Lib.hid hhp;have c0:wq.cell? ⟨b,off+k * 11,none⟩=some (.int .i64 x.num):=hrg 0 _ rfl;have c1:wq.cell? ⟨b,off+k * 11+1,none⟩=some (.int .i64 x.rq.src):=hrg 1 _ rfl;have c2:wq.cell? ⟨b,off+k * 11+2,none⟩=some (.int .i64 x.rq.dst):=hrg 2 _ rfl;have c3:wq.cell? ⟨b,off+k * 11+3,none⟩=some (.int .i64 x.rq.size):=hrg 3 _ rfl;have c4:wq.cell? ⟨b,off+k * 11+4,none⟩=some (.int .i64 x.rq.ready):=hrg 4 _ rfl;have c5:wq.cell? ⟨b,off+k * 11+5,none⟩=some (.int .i64 x.rq.dead):=hrg 5 _ rfl;have c6:wq.cell? ⟨b,off+k * 11+6,none⟩=some (.int .i64 x.rq.prio):=hrg 6 _ rfl;have c7:wq.cell? ⟨b,off+k * 11+7,none⟩=some (.bool x.rq.cust):=hrg 7 _ rfl;have c8:wq.cell? ⟨b,off+k * 11+8,none⟩=some (.slice Ah x.hops.length ch):=hrg 8 _ rfl;have c9:wq.cell? ⟨b,off+k * 11+9,none⟩=some (.int .i64 x.st):=hrg 9 _ rfl;have c10:wq.cell? ⟨b,off+k * 11+10,none⟩=some (.int .i64 x.til):=hrg 10 _ rfl;have HBN:Hid (Below wq.heap.size wq (wq.alloc (.cells (tkA x Ah ch) 55))):=(Below.refl _ _).alloc (Nat.le_refl _) _;have HB2:Hid (Below n0 w (wq.alloc (.cells (tkA x Ah ch) 55))):=HB1.out.trans (HBN.out.mono (by have:=HM1.out.lt; omega))
   have HM2:=Lib.hid (HM1.out.below HBN.out HM1.out.lt);clear hr hx hrg hrg' hhp
   by_cases he:x.num=n
   ·have HF:Hid (Xbg ts n=some x):=Xnq HNO.out HX.out he;have hd:(x.num == n)=true:=by simpa using he
    have r0:=HM2.out.c11;have f0:=HM2.out.f11;clear he;go_wp2;obtain ⟨hp,hb⟩:=Xii HM2.out HB2.out (by omega) (.int .i64 x.num) (.int .i64 x.rq.src) (.int .i64 x.rq.dst) (.int .i64 x.rq.size) (.int .i64 x.rq.ready) (.int .i64 x.rq.dead) (.int .i64 x.rq.prio) (.bool x.rq.cust) (.slice Ah x.hops.length ch) (.int .i64 x.st) (.int .i64 x.til)
    generalize ((((((((((((wq.alloc (.cells (tkA x Ah ch) 55)).setCell ⟨n0+1,0,none⟩ (.int .i64 x.num)).setCell ⟨n0+1,1,none⟩ (.int .i64 x.rq.src)).setCell ⟨n0+1,2,none⟩ (.int .i64 x.rq.dst)).setCell ⟨n0+1,3,none⟩ (.int .i64 x.rq.size)).setCell ⟨n0+1,4,none⟩ (.int .i64 x.rq.ready)).setCell ⟨n0+1,5,none⟩ (.int .i64 x.rq.dead)).setCell ⟨n0+1,6,none⟩ (.int .i64 x.rq.prio)).setCell ⟨n0+1,7,none⟩ (.bool x.rq.cust)).setCell ⟨n0+1,8,none⟩ (.slice Ah x.hops.length ch)).setCell ⟨n0+1,9,none⟩ (.int .i64 x.st)).setCell ⟨n0+1,10,none⟩ (.int .i64 x.til))=WF at hp hb ⊢;have p0:=hp.c11;refine bodyPost_ret (v:=.tuple #[.agg (tkA x Ah ch),.bool true]) (by simp[results,Tryz.results21,go_sem,p0]) rfl ⟨by rw[hn0]; exact hb,?_⟩
    rw[HF.out];exact ⟨_,_,rfl,HHP.out.below (by rw[hn0]; exact hb)⟩
   ·have HN:Hid (∀j y,j<k+1→ts[j]? = some y→y.num ≠ n):=fun j y hj hy=>by
     by_cases e:j=k
     ·subst e; rw[HX.out] at hy; cases hy; exact he
     ·exact HNO.out j y (by omega) hy
    have hd:(x.num == n)=false:=by simpa using he
    clear he;go_wp2;go_roundw
    case rel=>exact ⟨k+1,by omega,by go_num,Xa HBW.out HBN.out,HN.out⟩
    case measure=>simp[intOf]; omega
  ·have HF:Hid (Xbg ts n=none):=Xs5 fun i x hi hx=>HNO.out i x (by omega) hx
   have r0:=HM1.out.c11;have f0:=HM1.out.f11;go_wp2;obtain ⟨hp,hb⟩:=Xii HM1.out HB1.out (by omega) (.int .i64 0) (.int .i64 0) (.int .i64 0) (.int .i64 0) (.int .i64 0) (.int .i64 0) (.int .i64 0) (.bool false) (.slice none 0 0) (.int .i64 0) (.int .i64 0)
   generalize (((((((((((wq.setCell ⟨n0+1,0,none⟩ (.int .i64 0)).setCell ⟨n0+1,1,none⟩ (.int .i64 0)).setCell ⟨n0+1,2,none⟩ (.int .i64 0)).setCell ⟨n0+1,3,none⟩ (.int .i64 0)).setCell ⟨n0+1,4,none⟩ (.int .i64 0)).setCell ⟨n0+1,5,none⟩ (.int .i64 0)).setCell ⟨n0+1,6,none⟩ (.int .i64 0)).setCell ⟨n0+1,7,none⟩ (.bool false)).setCell ⟨n0+1,8,none⟩ (.slice none 0 0)).setCell ⟨n0+1,9,none⟩ (.int .i64 0)).setCell ⟨n0+1,10,none⟩ (.int .i64 0))=WF at hp hb ⊢;have p0:=hp.c11;refine bodyPost_ret (v:=.tuple #[.agg #[.int .i64 0,.int .i64 0,.int .i64 0,.int .i64 0,.int .i64 0,.int .i64 0,.int .i64 0,.bool false,.slice none 0 0,.int .i64 0,.int .i64 0],.bool false]) (by simp[results,Tryz.results21,go_sem,p0]) rfl ⟨by rw[hn0]; exact hb,?_⟩
   rw[HF.out]
theorem hop4 {w W:World}{n g:Nat}{t:TypeId}{v0 v1 v2 v3:Value}(h:Bk W g t #[v0,v1,v2,v3])(hb:Below n w W)(hg:n≤g)(a b c d:Value) :
  (((((W.setCell ⟨g,0,none⟩ a).setCell ⟨g,1,none⟩ b).setCell ⟨g,2,none⟩ c).setCell ⟨g,3,none⟩ d).cell? ⟨g,0,none⟩=some a∧((((W.setCell ⟨g,0,none⟩ a).setCell ⟨g,1,none⟩ b).setCell ⟨g,2,none⟩ c).setCell ⟨g,3,none⟩ d).cell? ⟨g,1,none⟩=some b∧((((W.setCell ⟨g,0,none⟩ a).setCell ⟨g,1,none⟩ b).setCell ⟨g,2,none⟩ c).setCell ⟨g,3,none⟩ d).cell? ⟨g,2,none⟩=some c∧((((W.setCell ⟨g,0,none⟩ a).setCell ⟨g,1,none⟩ b).setCell ⟨g,2,none⟩ c).setCell ⟨g,3,none⟩ d).cell? ⟨g,3,none⟩=some d)∧Below n w ((((W.setCell ⟨g,0,none⟩ a).setCell ⟨g,1,none⟩ b).setCell ⟨g,2,none⟩ c).setCell ⟨g,3,none⟩ d):=by
 have HF:Bk ((((W.setCell ⟨g,0,none⟩ a).setCell ⟨g,1,none⟩ b).setCell ⟨g,2,none⟩ c).setCell ⟨g,3,none⟩ d) g t #[a,b,c,d]:=(((h.put 0 a).put 1 b).put 2 c).put 3 d;exact ⟨⟨HF.cell 0,HF.cell 1,HF.cell 2,HF.cell 3⟩,(((hb.setCell (p:=⟨g,0,none⟩) hg _).setCell (p:=⟨g,1,none⟩) hg _).setCell (p:=⟨g,2,none⟩) hg _).setCell (p:=⟨g,3,none⟩) hg _⟩
end Go.Proofs.YtebkgbmijocdjaaGreat.Tp
