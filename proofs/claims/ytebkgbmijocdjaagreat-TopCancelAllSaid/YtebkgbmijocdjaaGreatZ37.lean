/- A part of the proof for the ledger. No condition beyond those that each theorem states. -/
import Derived.Test.YtebkgbmijocdjaaGreatZ36
set_option maxHeartbeats 32000000
set_option maxRecDepth 100000
set_option linter.unusedVariables false
set_option linter.unusedSimpArgs false
namespace Go.Proofs.YtebkgbmijocdjaaGreat.Tp
open Go Go.RowKit
def Xrb (t:Tbl)(q:Rq)(w:World)(e:Ending)(w':World):Prop:=Below w.heap.size w w' ∧ ((EarR t q none∧e = .returned (.tuple #[.slice none 0 0,.bool false])) ∨ ∃m A c,EarR t q (some m)∧e = .returned (.tuple #[.slice A m.length c,.bool true])∧HpAt w' A c m)
theorem Xr0 (Aq:Option Addr)(cq:Nat)(Ac:Option Addr)(cc:Nat)(B:Option Addr)(cb:Nat)(H:Option Addr)(ch:Nat)(t:Tbl)(k:Tk)(A:Option Addr)(cA:Nat)(q:Rq)(w:World)(ht:Xcm w Aq cq Ac cc B cb H ch t)(hq:q = { k.rq with src:=q.src,ready:=q.ready }) :
  Calls Tryz.prog 208 #[.agg (tbA Aq cq Ac cc B cb H ch t),.agg (tkA k A cA),.int .i64 q.src,.int .i64 q.ready] w (Xrb t q w):=by
 obtain ⟨_,_,rfl,rfl,-,HB0,HK0,HK1,HK2⟩:=box3 w 29 (tbA Aq cq Ac cc B cb H ch t) 55 (tkA k A cA) 31 #[.int .i64 q.src,.int .i64 k.rq.dst,.int .i64 k.rq.size,.int .i64 q.ready,.int .i64 k.rq.dead,.int .i64 k.rq.prio,.bool k.rq.cust];have HEA:=Lib.hid (fun w' hb=>Xdq Aq cq Ac cc B cb H ch t q w' (ht.below (w':=w') hb));have e1:k.rq.dst=q.dst:=(congrArg Rq.dst hq).symm;have e2:k.rq.size=q.size:=(congrArg Rq.size hq).symm;have e4:k.rq.dead=q.dead:=(congrArg Rq.dead hq).symm;have e5:k.rq.prio=q.prio:=(congrArg Rq.prio hq).symm;have e6:k.rq.cust=q.cust:=(congrArg Rq.cust hq).symm;have HE:=Lib.hid (And.intro e1 (And.intro e2 (And.intro e4 (And.intro e5 e6))));clear ht hq e1 e2 e4 e5 e6;have HK1b:Hid (Bk ((w.alloc (.cells (tbA Aq cq Ac cc B cb H ch t) 29)).alloc (.cells (tkA k A cA) 55)) (w.heap.size+1) 55 (tkA k A cA)):=by
  have h:=Bk.new (w.alloc (.cells (tbA Aq cq Ac cc B cb H ch t) 29)) 55 (tkA k A cA)
  rwa [World.size_alloc] at h
 have k0:=HK1b.out.c11;go_enter Tryz.func208,Tryz.ntmps208;go_upto_region 3 with fail
 clear k0 HK1 HK1b;generalize (((w.alloc (.cells (tbA Aq cq Ac cc B cb H ch t) 29)).alloc (.cells (tkA k A cA) 55)).alloc (.cells #[.int .i64 q.src,.int .i64 k.rq.dst,.int .i64 k.rq.size,.int .i64 q.ready,.int .i64 k.rq.dead,.int .i64 k.rq.prio,.bool k.rq.cust] 31))=W at HB0 HK0 HK2 ⊢;have HR:Hid (Bk W (w.heap.size+1+1) 31 (rqA q)):=by
  have h:=HK2.out;obtain ⟨e1,e2,e4,e5,e6⟩:=HE.out;rw[e1,e2,e4,e5,e6] at h;exact h
 have HB4:=HB0;generalize w.heap.size=n0 at HK0 HR;have a0:=HK0.out.c4;have q0:=HR.out.c7;clear HK2;go_wp2_with fail;clear a0 q0 HK0 HR HB0;refine (HEA.out W HB4.out).mono ?_;rintro e w1 ⟨hb1,hp⟩;have HB1:=Lib.hid (Xa HB4.out hb1);clear hb1 HEA;rcases hp with ⟨x,hx,rfl,hr⟩ | ⟨m,A2,c2,hr,rfl,hh⟩
 ·have HR:=Lib.hid hr;have hz:(x == 0)=false:=by simpa using hx
  clear hr hx;go_wp2;go_ret2;exact ⟨HB1.out,.inl ⟨HR.out,rfl⟩⟩
 ·have HR:=Lib.hid hr;have HH:=Lib.hid hh;clear hr hh;go_wp2;go_ret2;exact ⟨HB1.out,.inr ⟨m,A2,c2,HR.out,rfl,HH.out⟩⟩
theorem open_any (Aq:Option Addr)(cq:Nat)(Ac:Option Addr)(cc:Nat)(p:Pln)(A:Option Addr)(n ct:Nat)(ms:List Tm)(w:World)(hs:SlAt tmE w A ms)(hn:n=ms.length)(hl:ms.length≤1000) :
  Calls Tryz.prog 52 #[.agg (lgA Aq cq Ac cc p A n ct)] w fun e w' => ∃B cb,e = .returned (.agg (lgA Aq cq Ac cc p B ms.length cb))∧w'.ownsRow w.heap.size 55 11 (.slice B ms.length cb) ms.length (ms.flatMap tmE.f)∧Below w.heap.size w w':=by
 subst hn;obtain ⟨_,_,rfl,rfl,-,HB0,HK0,HK1⟩:=box2 w 53 (lgA Aq cq Ac cc p A ms.length ct) 118 #[.slice none 0 0,.slice none 0 0,.slice none 0 0,.slice none 0 0];have HCL:=Lib.hid (fun w' hb=>Xre A ct ms w' (hs.below (w':=w') hb) (by omega))
 have HLN:Hid (ms.length≤1000):=hl;clear hs;have a0:=HK0.out.c4;go_enter Tryz.func52,Tryz.ntmps52;go_wp2_with fail;clear a0;generalize ((w.alloc (.cells (lgA Aq cq Ac cc p A ms.length ct) 53)).alloc (.cells #[.slice none 0 0,.slice none 0 0,.slice none 0 0,.slice none 0 0] 118))=W at HB0 HK0 HK1 ⊢;generalize hn0:w.heap.size=n0 at HB0 HK0 HK1 ⊢;refine (HCL.out W (by rw[hn0]; exact HB0.out)).mono ?_
 rintro e w1 ⟨v,rfl,hrow,hb1⟩;obtain ⟨B,cb,rfl⟩:=Xa8 hrow;have HRW:Hid (w1.ownsRow n0 55 11 (.slice B ms.length cb) ms.length (ms.flatMap tmE.f)):=Xgl hrow (by have:=HK1.out.lt; omega)
 have HM0:=Lib.hid (HK0.out.below hb1 HK0.out.lt);have HM1:=Lib.hid (HK1.out.below hb1 HK1.out.lt);have HB1:Hid (Below n0 w w1):=HB0.out.trans (hb1.mono (by have:=HK1.out.lt; omega))
 clear hrow hb1 HB0 HK0 HK1 HCL;have HN0:Hid (Bk (w1.setCell ⟨n0,3,none⟩ (.slice B ms.length cb)) n0 53 (lgA Aq cq Ac cc p B ms.length cb)):=HM0.out.put 3 _;have HN1:Hid (Bk (w1.setCell ⟨n0,3,none⟩ (.slice B ms.length cb)) (n0+1) 118 #[.slice none 0 0,.slice none 0 0,.slice none 0 0,.slice none 0 0]):=HM1.out.other (p:=⟨n0,3,none⟩) (by show n0+1 ≠ n0; omega) _
 have HB2:Hid (Below n0 w (w1.setCell ⟨n0,3,none⟩ (.slice B ms.length cb))):=HB1.out.setCell (p:=⟨n0,3,none⟩) (Nat.le_refl _) _;have HR2:=Lib.hid (Xfz HM0.out (by decide) HRW.out 3 (.slice B ms.length cb))
 have a0:=HM0.out.c4;have b0:=HM0.out.f4;have c0:=HN0.out.c4;have r0:=HN1.out.c4;have f0:=HN1.out.f4;go_wp2;obtain ⟨hq,hbe⟩:=Xmb HN1.out HB2.out (by omega) (.slice Aq p.q.length cq) (.slice Ac p.c.length cc) (.slice none 0 0) (.slice B ms.length cb)
 have hrr:=Xj9 HN1.out (by decide) HR2.out (.slice Aq p.q.length cq) (.slice Ac p.c.length cc) (.slice none 0 0) (.slice B ms.length cb)
 generalize (((((w1.setCell ⟨n0,3,none⟩ (.slice B ms.length cb)).setCell ⟨n0+1,0,none⟩ (.slice Aq p.q.length cq)).setCell ⟨n0+1,1,none⟩ (.slice Ac p.c.length cc)).setCell ⟨n0+1,2,none⟩ (.slice none 0 0)).setCell ⟨n0+1,3,none⟩ (.slice B ms.length cb))=WF at hq hbe hrr ⊢;have p0:=hq.c4;exact bodyPost_ret (v:=.agg (lgA Aq cq Ac cc p B ms.length cb)) (by simp[results,Tryz.results52,go_sem,p0]) rfl ⟨B,cb,rfl,by first | exact hrr | (rw[hn0]; exact hrr),by first | exact hbe | (rw[hn0]; exact hbe)⟩
theorem Xrg (G:Nat)(n:Int)(m:Tm)(w:World)(h:w.cell? ⟨G,0,none⟩=some (.int .i64 n)) :
  Calls Tryz.prog 123 #[.agg (tkA m.k m.A m.c),.pointer (some ⟨G,0,none⟩)] w (Xap (m.k.num=n) w):=by
 have HB0:Hid (Below w.heap.size w (w.alloc (.cells (tkA m.k m.A m.c) 55))):=(Below.refl _ _).alloc (Nat.le_refl _) _;have HK:=Lib.hid (Bk.new w 55 (tkA m.k m.A m.c));have g0:(w.alloc (.cells (tkA m.k m.A m.c) 55)).cell? ⟨G,0,none⟩=some (.int .i64 n):=(HB0.out.cell (p:=⟨G,0,none⟩) (World.block_lt_of_cell? _ _ h)).trans h;have k0:=HK.out.n0;clear h
 by_cases e:m.k.num=n
 ·have d:(m.k.num == n)=true:=by simpa using e
  have HE:=Lib.hid e;clear e;go_enter Tryz.func123,Tryz.ntmps123;go_wp2;go_ret;exact ⟨true,rfl,⟨fun _=>HE.out,fun _=>rfl⟩,HB0.out⟩
 ·have d:(m.k.num == n)=false:=by simpa using e
  have HE:=Lib.hid e;clear e;go_enter Tryz.func123,Tryz.ntmps123;go_wp2;go_ret;exact ⟨false,rfl,⟨fun h=>by (cases h),fun h=>absurd h HE.out⟩,HB0.out⟩
theorem Xp9 (A:Option Addr)(cA:Nat)(l:List Tm)(G:Nat)(p:Tm→Prop)(w:World)(hA:SlAt tmE w A l)(hl:l.length≤1000000)(hF:∀x ∈ l,∀w',Below w.heap.size w w' → Calls Tryz.prog 123 #[.agg (tkA x.k x.A x.c),.pointer (some ⟨G,0,none⟩)] w' (Xap (p x) w')) :
  Calls Tryz.prog 122 #[.slice A l.length cA,.func (.func 123) #[] #[.pointer (some ⟨G,0,none⟩)]] w (Xdu p l w):=by
 have HA:=Lib.hid hA;have HF:=Lib.hid hF;clear hA hF;go_enter Tryz.func122,Tryz.ntmps122;go_wp2;go_loopw [5,8] (fun _ i wr => ∃k:Nat,k≤l.length∧i = .int .i64 k∧Below w.heap.size w wr ∧ ∀x ∈ l.take k,¬ p x) (fun _ i _=>l.length - (intOf i).toNat)
 case atStart=>exact ⟨0,Nat.zero_le _,rfl,Below.refl _ _,by simp⟩
 case round =>
  obtain ⟨k,hk,rfl,hbw,hno⟩:=hrel;have HB:=Lib.hid hbw;have HNO:=Lib.hid hno;clear hbw hno
  by_cases hlt:k<l.length
  ·obtain ⟨b,off,rfl,hr⟩:=HA.out.one (by omega)
   obtain ⟨r,hrk⟩:∃r,l[k]? = some r:=⟨_,List.getElem?_eq_getElem hlt⟩;have HRK:=Lib.hid hrk;have hrg:wr.rangeAt b (off+k * 11) (tmE.f r):=Xa3 (hr k r hrk) HB.out;have c0:wr.cell? ⟨b,off+k * 11,none⟩=some (.int .i64 r.k.num):=hrg 0 _ rfl;have c1:wr.cell? ⟨b,off+k * 11+1,none⟩=some (.int .i64 r.k.rq.src):=hrg 1 _ rfl;have c2:wr.cell? ⟨b,off+k * 11+2,none⟩=some (.int .i64 r.k.rq.dst):=hrg 2 _ rfl;have c3:wr.cell? ⟨b,off+k * 11+3,none⟩=some (.int .i64 r.k.rq.size):=hrg 3 _ rfl;have c4:wr.cell? ⟨b,off+k * 11+4,none⟩=some (.int .i64 r.k.rq.ready):=hrg 4 _ rfl;have c5:wr.cell? ⟨b,off+k * 11+5,none⟩=some (.int .i64 r.k.rq.dead):=hrg 5 _ rfl;have c6:wr.cell? ⟨b,off+k * 11+6,none⟩=some (.int .i64 r.k.rq.prio):=hrg 6 _ rfl;have c7:wr.cell? ⟨b,off+k * 11+7,none⟩=some (.bool r.k.rq.cust):=hrg 7 _ rfl;have c8:wr.cell? ⟨b,off+k * 11+8,none⟩=some (.slice r.A r.k.hops.length r.c):=hrg 8 _ rfl;have c9:wr.cell? ⟨b,off+k * 11+9,none⟩=some (.int .i64 r.k.st):=hrg 9 _ rfl;have c10:wr.cell? ⟨b,off+k * 11+10,none⟩=some (.int .i64 r.k.til):=hrg 10 _ rfl;have HCL:=Lib.hid (HF.out r (List.mem_of_getElem? hrk) wr HB.out);clear hr hrk hrg;go_wp2_with fail;refine HCL.out.mono ?_;rintro e w2 ⟨v,rfl,hv,hb2⟩;have HB2:=Lib.hid (Xa HB.out hb2);have HV:=Lib.hid hv;clear hb2 HCL hv c0 c1 c2 c3 c4 c5 c6 c7 c8 c9 c10;cases v with
   | false =>
     have HN:Hid (∀x ∈ l.take (k+1),¬ p x):=by
      intro x hx;rw[take_snoc HRK.out] at hx;rcases List.mem_append.1 hx with h | h
      ·exact HNO.out x h
      ·rw[List.mem_singleton.1 h];intro hp;have:=HV.out.2 hp;cases this
     go_wp2;go_roundw
     case rel=>exact ⟨k+1,by omega,by go_num,HB2.out,HN.out⟩
     case measure=>simp[intOf]; omega
   | true =>
     have HP:=Lib.hid (HV.out.1 rfl);go_wp2;go_ret;exact ⟨_,rfl,.inr ⟨k,r,rfl,HRK.out,HP.out,HNO.out⟩,HB2.out⟩
  ·have HN:Hid (∀x ∈ l,¬ p x):=by
    intro x hx;refine HNO.out x ?_;rw[List.take_of_length_le (by omega)]
    exact hx
   go_wp2;go_ret;exact ⟨_,rfl,.inl ⟨rfl,HN.out⟩,HB.out⟩
theorem Xby {W:World}{base g n c k:Nat}{e:TypeId}{xs:List Value}(h:W.ownsRow base e k (.slice (some ⟨g,0,none⟩) n c) n xs)(a:Nat)(u:Value):(W.setCell ⟨g,a,none⟩ u).ownsRow base e k (.slice (some ⟨g,0,none⟩) n c) n (xs.set a u):=by
 obtain ⟨hl,h⟩:=h;rcases h with ⟨h,_⟩ | ⟨g',cap,cur,hv,hb,hg,h1,h2,h3,h4⟩
 ·cases h
 ·injection hv with hv1 _ hv3
  injection hv1 with hv1
  injection hv1 with hv1
  subst hv1 hv3;refine ⟨by rw[List.length_set]; exact hl,.inr ⟨g,c,cur.setIfInBounds a u,rfl,hb,Bk.put hg a u,h1,h2,by rw[Array.size_setIfInBounds]; exact h3,?_⟩⟩
  rw[Array.toList_setIfInBounds,List.take_set,h4]
theorem Xnp (m:Tm):∀(ms:List Tm)(i:Nat),i<ms.length→((((((((((((ms.flatMap tmE.f).set (i * 11) (.int .i64 m.k.num)).set (i * 11+1) (.int .i64 m.k.rq.src)).set (i * 11+2) (.int .i64 m.k.rq.dst)).set (i * 11+3) (.int .i64 m.k.rq.size)).set (i * 11+4) (.int .i64 m.k.rq.ready)).set (i * 11+5) (.int .i64 m.k.rq.dead)).set (i * 11+6) (.int .i64 m.k.rq.prio)).set (i * 11+7) (.bool m.k.rq.cust)).set (i * 11+8) (.slice m.A m.k.hops.length m.c)).set (i * 11+9) (.int .i64 m.k.st)).set (i * 11+10) (.int .i64 m.k.til))=(ms.set i m).flatMap tmE.f
 | [],i,h=>by simp at h
 | x :: l,0,_=>by
   simp only[Nat.zero_mul,Nat.zero_add,List.set_cons_zero,List.flatMap_cons]
   rfl
 | x :: l,i+1,h=>by
   have ih:=Xnp m l i (by simpa using h)
   have hl:(tmE.f x).length=11:=rfl;rw[List.set_cons_succ,List.flatMap_cons,List.flatMap_cons, ←ih];rw[List.set_append_right _ _ (by rw[hl]; omega),hl,show (i+1) * 11 - 11=i * 11 by omega]
   rw[List.set_append_right _ _ (by rw[hl]; omega),hl,show (i+1) * 11+1 - 11=i * 11+1 by omega]
   rw[List.set_append_right _ _ (by rw[hl]; omega),hl,show (i+1) * 11+2 - 11=i * 11+2 by omega]
   rw[List.set_append_right _ _ (by rw[hl]; omega),hl,show (i+1) * 11+3 - 11=i * 11+3 by omega]
   rw[List.set_append_right _ _ (by rw[hl]; omega),hl,show (i+1) * 11+4 - 11=i * 11+4 by omega]
   rw[List.set_append_right _ _ (by rw[hl]; omega),hl,show (i+1) * 11+5 - 11=i * 11+5 by omega]
   rw[List.set_append_right _ _ (by rw[hl]; omega),hl,show (i+1) * 11+6 - 11=i * 11+6 by omega]
   rw[List.set_append_right _ _ (by rw[hl]; omega),hl,show (i+1) * 11+7 - 11=i * 11+7 by omega]
   rw[List.set_append_right _ _ (by rw[hl]; omega),hl,show (i+1) * 11+8 - 11=i * 11+8 by omega]
   rw[List.set_append_right _ _ (by rw[hl]; omega),hl,show (i+1) * 11+9 - 11=i * 11+9 by omega]
   rw[List.set_append_right _ _ (by rw[hl]; omega),hl,show (i+1) * 11+10 - 11=i * 11+10 by omega]
theorem Xpq {W:World}{base:Nat}{ms:List Tm}{v:Value}(h:W.ownsRow base 55 11 v ms.length (ms.flatMap tmE.f)){i:Nat}(hi:i<ms.length):∃g off c,v = .slice (some ⟨g,off,none⟩) ms.length c∧base≤g∧(∀(j:Nat)(r:Tm),ms[j]? = some r→W.rangeAt g (off+j * 11) (tmL r))∧(∀a,W.frozen? ⟨g,a,none⟩=false) ∧ ∀m:Tm,(((((((((((W.setCell ⟨g,off+i * 11,none⟩ (.int .i64 m.k.num)).setCell ⟨g,off+i * 11+1,none⟩ (.int .i64 m.k.rq.src)).setCell ⟨g,off+i * 11+2,none⟩ (.int .i64 m.k.rq.dst)).setCell ⟨g,off+i * 11+3,none⟩ (.int .i64 m.k.rq.size)).setCell ⟨g,off+i * 11+4,none⟩ (.int .i64 m.k.rq.ready)).setCell ⟨g,off+i * 11+5,none⟩ (.int .i64 m.k.rq.dead)).setCell ⟨g,off+i * 11+6,none⟩ (.int .i64 m.k.rq.prio)).setCell ⟨g,off+i * 11+7,none⟩ (.bool m.k.rq.cust)).setCell ⟨g,off+i * 11+8,none⟩ (.slice m.A m.k.hops.length m.c)).setCell ⟨g,off+i * 11+9,none⟩ (.int .i64 m.k.st)).setCell ⟨g,off+i * 11+10,none⟩ (.int .i64 m.k.til)).ownsRow base 55 11 v ms.length ((ms.set i m).flatMap tmE.f)∧W.grownBy (((((((((((W.setCell ⟨g,off+i * 11,none⟩ (.int .i64 m.k.num)).setCell ⟨g,off+i * 11+1,none⟩ (.int .i64 m.k.rq.src)).setCell ⟨g,off+i * 11+2,none⟩ (.int .i64 m.k.rq.dst)).setCell ⟨g,off+i * 11+3,none⟩ (.int .i64 m.k.rq.size)).setCell ⟨g,off+i * 11+4,none⟩ (.int .i64 m.k.rq.ready)).setCell ⟨g,off+i * 11+5,none⟩ (.int .i64 m.k.rq.dead)).setCell ⟨g,off+i * 11+6,none⟩ (.int .i64 m.k.rq.prio)).setCell ⟨g,off+i * 11+7,none⟩ (.bool m.k.rq.cust)).setCell ⟨g,off+i * 11+8,none⟩ (.slice m.A m.k.hops.length m.c)).setCell ⟨g,off+i * 11+9,none⟩ (.int .i64 m.k.st)).setCell ⟨g,off+i * 11+10,none⟩ (.int .i64 m.k.til)) (some g):=by
 obtain ⟨A,c,rfl,hs,hc⟩:=Xah (E:=tmE) h;obtain ⟨g,off,rfl,hr⟩:=hs.one (by omega)
 have h0:off=0:=by
  rcases h.2 with ⟨h,_⟩ | ⟨g',cap,cur,hv,_⟩
  ·cases h
  ·injection hv with hv1
   injection hv1 with hv1
   injection hv1
 subst h0;have hb:base≤g ∧ ∀a,W.frozen? ⟨g,a,none⟩=false:=by
  rcases h.2 with ⟨h,_⟩ | ⟨g',cap,cur,hv,hb,hg,_⟩
  ·cases h
  ·injection hv with hv1
   injection hv1 with hv1
   injection hv1 with hv1
   subst hv1;exact ⟨hb,fun a=>Bk.free (w:=W) hg a⟩
 refine ⟨g,0,c,rfl,hb.1,hr,hb.2,fun m=>⟨?_,?_⟩⟩
 ·rw[←Xnp m ms i hi];simp only[Nat.zero_add];exact (Xby (Xby (Xby (Xby (Xby (Xby (Xby (Xby (Xby (Xby (Xby h (i * 11) (.int .i64 m.k.num)) (i * 11+1) (.int .i64 m.k.rq.src)) (i * 11+2) (.int .i64 m.k.rq.dst)) (i * 11+3) (.int .i64 m.k.rq.size)) (i * 11+4) (.int .i64 m.k.rq.ready)) (i * 11+5) (.int .i64 m.k.rq.dead)) (i * 11+6) (.int .i64 m.k.rq.prio)) (i * 11+7) (.bool m.k.rq.cust)) (i * 11+8) (.slice m.A m.k.hops.length m.c)) (i * 11+9) (.int .i64 m.k.st)) (i * 11+10) (.int .i64 m.k.til))
 ·exact (((((((((((Xa0 _ _ _ _).trans (Xa0 _ _ _ _)).trans (Xa0 _ _ _ _)).trans (Xa0 _ _ _ _)).trans (Xa0 _ _ _ _)).trans (Xa0 _ _ _ _)).trans (Xa0 _ _ _ _)).trans (Xa0 _ _ _ _)).trans (Xa0 _ _ _ _)).trans (Xa0 _ _ _ _)).trans (Xa0 _ _ _ _))
def Xn2 (X:Nat)(T:TypeId)(cs:Array Value)(base:Nat)(v:Value)(ms:List Tm)(m:Tm)(w:World)(e:Ending)(w':World):Prop:=e = .returned (.tuple #[]) ∧ ∃(v':Value)(ms':List Tm),ms'.map (·.k)=setT (ms.map (·.k)) m.k∧(∀x ∈ ms',x=m∨x ∈ ms)∧Bk w' X T (cs.setIfInBounds 3 v')∧w'.ownsRow base 55 11 v' ms'.length (ms'.flatMap tmE.f)∧w.heap.size≤w'.heap.size∧(∀j,j<w.heap.size→j ≠ X→v.ownBlock ≠ some j→w'.heap[j]? = w.heap[j]?)∧(v'.ownBlock=v.ownBlock ∨ ∀r,v'.ownBlock=some r→w.heap.size≤r) ∧ ∀b0,b0≤base→b0≤X→b0≤w.heap.size→Below b0 w w'
theorem Xo3 {ms:List Tm}{m:Tm}{i:Nat}{r:Tm}(hr:ms[i]? = some r)(hn:r.k.num=m.k.num)(hno:∀x ∈ ms.take i,¬ x.k.num=m.k.num):(ms.set i m).map (·.k)=setT (ms.map (·.k)) m.k:=by
 induction ms generalizing i with
 | nil=>simp at hr
 | cons x l ih =>
   cases i with
   | zero =>
     simp only[List.getElem?_cons_zero,Option.some.injEq] at hr;subst hr;rw[List.set_cons_zero,List.map_cons,List.map_cons,setT,if_pos hn]
   | succ i =>
     have hx:¬ x.k.num=m.k.num:=hno x (by simp)
     rw[List.set_cons_succ,List.map_cons,List.map_cons,setT,if_neg hx,ih (by simpa using hr) (fun y hy=>hno y (by simp[hy]))]
theorem Xpo {ms:List Tm}{m:Tm}(hno:∀x ∈ ms,¬ x.k.num=m.k.num):(ms ++ [m]).map (·.k)=setT (ms.map (·.k)) m.k:=by
 rw[List.map_append,Xna (fun x hx=>by
  obtain ⟨y,hy,rfl⟩:=List.mem_map.1 hx;exact hno y hy)]
 rfl
theorem set_any (X:Nat)(T:TypeId)(cs:Array Value)(base:Nat)(v:Value)(ms:List Tm)(m:Tm)(w:World)(hX:Bk w X T cs)(h3:cs[3]? = some v)(hT:T ≠ 55)(hr:w.ownsRow base 55 11 v ms.length (ms.flatMap tmE.f))(hb:base≤w.heap.size)(hl:ms.length≤1000) :
  Calls Tryz.prog 54 #[.pointer (some ⟨X,0,none⟩),.agg (tkA m.k m.A m.c)] w (Xn2 X T cs base v ms m w):=by
 obtain ⟨A,cA,rfl,hs,hcA⟩:=Xah (E:=tmE) hr;have HX:=Lib.hid hX;have HR:=Lib.hid hr;have HS:=Lib.hid hs;have HTN:Hid (T ≠ 55):=hT;have HC3:=Lib.hid h3;have HBS:Hid (base≤w.heap.size):=hb;have HRL:Hid (∀r,(Value.slice A ms.length cA).ownBlock=some r→r<w.heap.size):=fun r e=>(hr.lt r e).2;obtain ⟨_,_,rfl,rfl,-,HB0,HX8⟩:=box1 w 55 (tkA m.k m.A m.c);have HXW:=Lib.hid (HX.out.alloc (.cells (tkA m.k m.A m.c) 55));have HRW:=Lib.hid (HR.out.alloc (.cells (tkA m.k m.A m.c) 55));have HSW:=Lib.hid (HS.out.below HB0.out);have HSZ:Hid ((w.alloc (.cells (tkA m.k m.A m.c) 55)).heap.size=w.heap.size+1):=World.size_alloc _ _;have x3:(w.alloc (.cells (tkA m.k m.A m.c) 55)).cell? ⟨X,3,none⟩=some (.slice A ms.length cA):=(HXW.out.cell 3).trans HC3.out;have hmf:=fun (fn:Fn) (first cap:Array Value) (w:World)=>(rfl:(Instr.makeFunc fn first cap).run Tryz.prog w = .ok (.func fn first cap) w)
 clear hX h3 hT hr hb hs;go_enter Tryz.func54,Tryz.ntmps54;go_wp2_with fail;generalize w.alloc (.cells (tkA m.k m.A m.c) 55)=W at HB0 HX8 HXW HRW HSW HSZ x3 ⊢;generalize hg8:w.heap.size=g8 at HB0 HX8 HSZ HBS HRL ⊢;refine (Xp9 A cA ms g8 (fun x=>x.k.num=m.k.num) W HSW.out (by omega) (fun x hx w' hb' => Xrg g8 m.k.num x w' ((hb'.cell (p:=⟨g8,0,none⟩) HX8.out.lt).trans (HX8.out.cell 0)))).mono ?_
 rintro e w1 ⟨z,rfl,hz,hb1⟩;have HB1:Hid (Below g8 w w1):=HB0.out.trans (hb1.mono (by have:=HSZ.out; omega))
 have HY8:=Lib.hid (HX8.out.below hb1 HX8.out.lt);have HXY:=Lib.hid (HXW.out.below hb1 HXW.out.lt);have HRY:=Lib.hid (Xa6 HRW.out hb1);have HSY:Hid (g8+1≤w1.heap.size):=by have:=hb1.size; have:=HSZ.out; show _≤_; omega
 clear x3 hb1 HB0 HX8 HXW HRW HSW HSZ HX HR HS;rcases hz with ⟨rfl,hno⟩ | ⟨i,r,rfl,hir,hrn,hno⟩
 ·have HSF:Hid (∀W,Bk W X T cs→Bk W g8 55 (tkA m.k m.A m.c)→(fun w' => w'.cell? ⟨X,3,none⟩=some (.slice A ms.length cA)∧w'.cell? ⟨g8,0,none⟩=some (.int .i64 m.k.num)∧w'.cell? ⟨g8,1,none⟩=some (.int .i64 m.k.rq.src)∧w'.cell? ⟨g8,2,none⟩=some (.int .i64 m.k.rq.dst)∧w'.cell? ⟨g8,3,none⟩=some (.int .i64 m.k.rq.size)∧w'.cell? ⟨g8,4,none⟩=some (.int .i64 m.k.rq.ready)∧w'.cell? ⟨g8,5,none⟩=some (.int .i64 m.k.rq.dead)∧w'.cell? ⟨g8,6,none⟩=some (.int .i64 m.k.rq.prio)∧w'.cell? ⟨g8,7,none⟩=some (.bool m.k.rq.cust)∧w'.cell? ⟨g8,8,none⟩=some (.slice m.A m.k.hops.length m.c)∧w'.cell? ⟨g8,9,none⟩=some (.int .i64 m.k.st)∧w'.cell? ⟨g8,10,none⟩=some (.int .i64 m.k.til)) W):=fun W h1 h2=>⟨(h1.cell 3).trans HC3.out,h2.cell 0,h2.cell 1,h2.cell 2,h2.cell 3,h2.cell 4,h2.cell 5,h2.cell 6,h2.cell 7,h2.cell 8,h2.cell 9,h2.cell 10⟩;have HNO:=Lib.hid hno;obtain ⟨i0,hi0,hz0,hz1,hz2⟩:=info_parts Xsv;clear hno;go_wp2_with fail;refine Xam (S:=fun w' => w'.cell? ⟨X,3,none⟩=some (.slice A ms.length cA)∧w'.cell? ⟨g8,0,none⟩=some (.int .i64 m.k.num)∧w'.cell? ⟨g8,1,none⟩=some (.int .i64 m.k.rq.src)∧w'.cell? ⟨g8,2,none⟩=some (.int .i64 m.k.rq.dst)∧w'.cell? ⟨g8,3,none⟩=some (.int .i64 m.k.rq.size)∧w'.cell? ⟨g8,4,none⟩=some (.int .i64 m.k.rq.ready)∧w'.cell? ⟨g8,5,none⟩=some (.int .i64 m.k.rq.dead)∧w'.cell? ⟨g8,6,none⟩=some (.int .i64 m.k.rq.prio)∧w'.cell? ⟨g8,7,none⟩=some (.bool m.k.rq.cust)∧w'.cell? ⟨g8,8,none⟩=some (.slice m.A m.k.hops.length m.c)∧w'.cell? ⟨g8,9,none⟩=some (.int .i64 m.k.st)∧w'.cell? ⟨g8,10,none⟩=some (.int .i64 m.k.til)) [12] (by kernel_rfl) (HSF.out _ (HXY.out.below (Below.refl _ _).drew HXY.out.lt) (HY8.out.below (Below.refl _ _).drew HY8.out.lt)) (fun hHeld=>?_)
  have HV8:=Lib.hid (HY8.out.below (Below.refl w1.heap.size w1).drew HY8.out.lt);have HVX:=Lib.hid (HXY.out.below (Below.refl w1.heap.size w1).drew HXY.out.lt);have HVR:=Lib.hid (Xa6 HRY.out (Below.refl w1.heap.size w1).drew);have HVB:Hid (Below g8 w w1.drew):=HB1.out.drew;have HVS:Hid (g8+1≤w1.drew.heap.size):=HSY.out;clear HY8 HXY HRY HB1 HSY;generalize w1.drew=V at HV8 HVX HVR HVB HVS hHeld ⊢;refine tkF 0 _ ?_;refine tkF 1 _ ?_;refine tkF 2 _ ?_;refine tkF 3 _ ?_;refine tkF 4 _ ?_;refine tkG 5 (.slice A ms.length cA) ?_;refine tkG 6 (.agg (tkA m.k m.A m.c)) ?_;clear hHeld;refine Xaa (i:=7) rfl (by kernel_rfl) (by rfl) (fun K hK=>?_)
  go_simp;have hal:Below V.heap.size V (V.alloc (.cells (tkA m.k m.A m.c) 55)):=(Below.refl _ _).alloc (Nat.le_refl _) _;have HN9:Hid (Bk (V.alloc (.cells (tkA m.k m.A m.c) 55)) V.heap.size 55 (tkA m.k m.A m.c)):=Bk.new _ _ _;have HU8:=Lib.hid (HV8.out.below hal HV8.out.lt);have HUX:=Lib.hid (HVX.out.below hal HVX.out.lt);have HUR:=Lib.hid (Xa6 HVR.out hal);have HUB:Hid (Below g8 w (V.alloc (.cells (tkA m.k m.A m.c) 55))):=HVB.out.trans (hal.mono (by have:=HVS.out; omega))
  have HUS:Hid (g8+1≤(V.alloc (.cells (tkA m.k m.A m.c) 55)).heap.size):=by have:=hal.size; have:=HVS.out; show _≤_; omega
  refine hK _ _ (HSF.out _ HUX.out HU8.out) ?_;clear hK K hal HV8 HVX HVR HVB HVS
  try simp only[PU]
  generalize V.alloc (.cells (tkA m.k m.A m.c) 55)=U at HN9 HU8 HUX HUR HUB HUS ⊢;generalize V.heap.size=g9 at HN9 ⊢;refine Xaa (i:=8) rfl (by kernel_rfl) (by rfl) (fun K hK=>?_)
  have hN9s:SlAt tmE U (some ⟨g9,0,none⟩) [m]:=fun j r hj=>by
   cases j with
   | zero =>
     simp only[List.getElem?_cons_zero,Option.some.injEq] at hj;subst hj;refine ⟨g9,0,rfl,fun a u hu=>?_⟩;simp only[Nat.zero_mul,Nat.zero_add];rw[HN9.out.cell];simpa[tmE,tmL] using hu
   | succ j=>simp at hj
  refine Xaq tmE (.tmp 19) (.tmp 21) 51 55 rfl base i0 (.agg #[.int .i64 0,.int .i64 0,.int .i64 0,.int .i64 0,.int .i64 0,.int .i64 0,.int .i64 0,.bool false,.slice none 0 0,.int .i64 0,.int .i64 0]) 104 Tryz.underlying51 hi0 hz0 hz1 hz2 rfl (by decide) (.slice A ms.length cA) ms.length (ms.flatMap tmE.f) rfl HUR.out (some ⟨g9,0,none⟩) [m] 1 rfl hN9s (by simp; unfold maxLen; omega) (by simp; omega) (by have:=HUS.out; have:=HBS.out; omega) (fun v8 w9 h2 h3 h4=>?_)
  obtain ⟨A8,c8,rfl⟩:=Xa8 h2
  replace h4:(Value.slice A8 (ms.length+1) c8).ownBlock=(Value.slice A ms.length cA).ownBlock∨(Value.slice A8 (ms.length+1) c8).ownBlock=some U.heap.size:=h4
  have h2':w9.ownsRow base 55 11 (.slice A8 (ms.length+1) c8) (ms ++ [m]).length ((ms ++ [m]).flatMap tmE.f):=by
   have h2:w9.ownsRow base 55 11 (.slice A8 (ms.length+1) c8) (ms.length+1) (ms.flatMap tmE.f ++ [m].flatMap tmE.f):=h2;rw[←List.flatMap_append] at h2;have e:(ms ++ [m]).length=ms.length+1:=by simp
   rw[e];exact h2
  have hx9:=HUX.out.grown h3 (Xa1 HUX.out HTN.out HUR.out);have hlt:=fun r e=>(HUR.out.lt r e).1;have hb9:∀b0,b0≤base→b0≤X→b0≤g8→Below b0 w (w9.setCell ⟨X,3,none⟩ (.slice A8 (ms.length+1) c8)):=fun b0 e1 e2 e3=>((HUB.out.mono e3).grown h3 (by have:=HUS.out; omega) (fun r e=>by have:=hlt r e; omega)).setCell (p:=⟨X,3,none⟩) e2 _
  have hk9:∀j,j<g8→j ≠ X→(Value.slice A ms.length cA).ownBlock ≠ some j→(w9.setCell ⟨X,3,none⟩ (.slice A8 (ms.length+1) c8)).heap[j]? = w.heap[j]? := fun j e1 e2 e3 =>
   (Below.heap_setCell w9 ⟨X,3,none⟩ _ j e2).trans ((h3.block j (by have:=HUS.out; omega) (fun e=>e3 e.symm)).trans (HUB.out.block j e1))
  have HX9:=Lib.hid hx9;have HR9:=Lib.hid (Xfz hx9 HTN.out h2' 3 (.slice A8 (ms.length+1) c8));have HB9:=Lib.hid hb9;have HK9:=Lib.hid hk9;have HOB:Hid ((Value.slice A8 (ms.length+1) c8).ownBlock=(Value.slice A ms.length cA).ownBlock ∨ ∀r,(Value.slice A8 (ms.length+1) c8).ownBlock=some r→g8≤r):=by
   rcases h4 with h4 | h4
   ·exact .inl h4
   ·refine .inr fun r e=>?_;rw[h4] at e;cases e;have:=HUS.out;omega
  have HS9:Hid (g8≤(w9.setCell ⟨X,3,none⟩ (.slice A8 (ms.length+1) c8)).heap.size):=by
   have:=HUS.out;have:=h3.size;simp only[World.setCell,Array.size_modify];show _≤_;omega
  have HU9:=Lib.hid (HU8.out.grown h3 (fun e=>Nat.lt_irrefl _ (HRL.out _ e.symm)));have hHeld:(fun w' => w'.cell? ⟨X,3,none⟩=some (.slice A ms.length cA)∧w'.cell? ⟨g8,0,none⟩=some (.int .i64 m.k.num)∧w'.cell? ⟨g8,1,none⟩=some (.int .i64 m.k.rq.src)∧w'.cell? ⟨g8,2,none⟩=some (.int .i64 m.k.rq.dst)∧w'.cell? ⟨g8,3,none⟩=some (.int .i64 m.k.rq.size)∧w'.cell? ⟨g8,4,none⟩=some (.int .i64 m.k.rq.ready)∧w'.cell? ⟨g8,5,none⟩=some (.int .i64 m.k.rq.dead)∧w'.cell? ⟨g8,6,none⟩=some (.int .i64 m.k.rq.prio)∧w'.cell? ⟨g8,7,none⟩=some (.bool m.k.rq.cust)∧w'.cell? ⟨g8,8,none⟩=some (.slice m.A m.k.hops.length m.c)∧w'.cell? ⟨g8,9,none⟩=some (.int .i64 m.k.st)∧w'.cell? ⟨g8,10,none⟩=some (.int .i64 m.k.til)) w9:=HSF.out _ hx9 HU9.out;refine hK _ _ hHeld ?_;clear hK K h2 h2' h3 h4 hx9 hlt hb9 hk9 HN9 HU8 HUX HUR HUB HUS hN9s HU9
  try simp only[PU]
  refine tkF 9 _ ?_;refine tkF 10 _ ?_;refine tkF 11 _ ?_;clear hHeld;have r0:w9.cell? ⟨X,3,none⟩=some (.slice A ms.length cA):=(HX9.out.cell 3).trans HC3.out;have f0:=HX9.out.free 3;refine Xb4 (i:=12) rfl (by kernel_rfl) (by rfl) (by rfl) (fun K hK=>?_)
  go_simp;refine hK _ _ ?_;clear hK K r0 f0
  try simp only[PU]
  have HXF:=Lib.hid (HX9.out.put 3 (.slice A8 (ms.length+1) c8));generalize w9.setCell ⟨X,3,none⟩ (.slice A8 (ms.length+1) c8)=WF at HXF HR9 HB9 HK9 HS9 ⊢;refine Xbd (by kernel_rfl) ?_
  go_wp2;go_end0;refine ⟨rfl,_,ms ++ [m],Xpo HNO.out,fun x hx=>?_,HXF.out,HR9.out,by rw[hg8]; exact HS9.out,by rw[hg8]; exact HK9.out,by rw[hg8]; exact HOB.out,by rw[hg8]; exact HB9.out⟩
  rcases List.mem_append.1 hx with e | e
  ·exact .inr e
  ·exact .inl (List.mem_singleton.1 e)
 ·have hi:i<ms.length:=(List.getElem?_eq_some_iff.1 hir).1;have HIR:=Lib.hid hir;have HRN:=Lib.hid hrn;have HNO:=Lib.hid hno;obtain ⟨g,off,c,hveq,hbg,hcell,hfz,hst⟩:=Xpq (Xa6 HRY.out (Below.refl w1.heap.size w1).drew) hi
  injection hveq with hv1 _ hv3
  subst hv1 hv3;have HST:=Lib.hid (hst m);have HGB:Hid (base≤g):=hbg;have HCL:=Lib.hid (hcell i r hir);have HFZ:=Lib.hid hfz;have hi0:(0:Int)≤(i:Int):=by omega
  have hi1:(i:Int)<(ms.length:Int):=by omega
  clear hir hrn hno hcell hfz hst;have HSF:Hid (∀W,Bk W X T cs→Bk W g8 55 (tkA m.k m.A m.c)→(fun w' => w'.cell? ⟨X,3,none⟩=some (.slice (some ⟨g,off,none⟩) ms.length cA)∧w'.cell? ⟨g8,0,none⟩=some (.int .i64 m.k.num)∧w'.cell? ⟨g8,1,none⟩=some (.int .i64 m.k.rq.src)∧w'.cell? ⟨g8,2,none⟩=some (.int .i64 m.k.rq.dst)∧w'.cell? ⟨g8,3,none⟩=some (.int .i64 m.k.rq.size)∧w'.cell? ⟨g8,4,none⟩=some (.int .i64 m.k.rq.ready)∧w'.cell? ⟨g8,5,none⟩=some (.int .i64 m.k.rq.dead)∧w'.cell? ⟨g8,6,none⟩=some (.int .i64 m.k.rq.prio)∧w'.cell? ⟨g8,7,none⟩=some (.bool m.k.rq.cust)∧w'.cell? ⟨g8,8,none⟩=some (.slice m.A m.k.hops.length m.c)∧w'.cell? ⟨g8,9,none⟩=some (.int .i64 m.k.st)∧w'.cell? ⟨g8,10,none⟩=some (.int .i64 m.k.til)) W):=fun W h1 h2=>⟨(h1.cell 3).trans HC3.out,h2.cell 0,h2.cell 1,h2.cell 2,h2.cell 3,h2.cell 4,h2.cell 5,h2.cell 6,h2.cell 7,h2.cell 8,h2.cell 9,h2.cell 10⟩;go_wp2_with fail;refine Xam (S:=fun w' => w'.cell? ⟨X,3,none⟩=some (.slice (some ⟨g,off,none⟩) ms.length cA)∧w'.cell? ⟨g8,0,none⟩=some (.int .i64 m.k.num)∧w'.cell? ⟨g8,1,none⟩=some (.int .i64 m.k.rq.src)∧w'.cell? ⟨g8,2,none⟩=some (.int .i64 m.k.rq.dst)∧w'.cell? ⟨g8,3,none⟩=some (.int .i64 m.k.rq.size)∧w'.cell? ⟨g8,4,none⟩=some (.int .i64 m.k.rq.ready)∧w'.cell? ⟨g8,5,none⟩=some (.int .i64 m.k.rq.dead)∧w'.cell? ⟨g8,6,none⟩=some (.int .i64 m.k.rq.prio)∧w'.cell? ⟨g8,7,none⟩=some (.bool m.k.rq.cust)∧w'.cell? ⟨g8,8,none⟩=some (.slice m.A m.k.hops.length m.c)∧w'.cell? ⟨g8,9,none⟩=some (.int .i64 m.k.st)∧w'.cell? ⟨g8,10,none⟩=some (.int .i64 m.k.til)) [8] (by kernel_rfl) (HSF.out _ (HXY.out.below (Below.refl _ _).drew HXY.out.lt) (HY8.out.below (Below.refl _ _).drew HY8.out.lt)) (fun hHeld=>?_)
  have HCV:Hid (w1.drew.rangeAt g (off+i * 11) (tmL r)):=HCL.out;have HFV:Hid (∀a,w1.drew.frozen? ⟨g,a,none⟩=false):=HFZ.out;have HSV:Hid (((((((((((((w1.drew.setCell ⟨g,off+i * 11,none⟩ (.int .i64 m.k.num)).setCell ⟨g,off+i * 11+1,none⟩ (.int .i64 m.k.rq.src)).setCell ⟨g,off+i * 11+2,none⟩ (.int .i64 m.k.rq.dst)).setCell ⟨g,off+i * 11+3,none⟩ (.int .i64 m.k.rq.size)).setCell ⟨g,off+i * 11+4,none⟩ (.int .i64 m.k.rq.ready)).setCell ⟨g,off+i * 11+5,none⟩ (.int .i64 m.k.rq.dead)).setCell ⟨g,off+i * 11+6,none⟩ (.int .i64 m.k.rq.prio)).setCell ⟨g,off+i * 11+7,none⟩ (.bool m.k.rq.cust)).setCell ⟨g,off+i * 11+8,none⟩ (.slice m.A m.k.hops.length m.c)).setCell ⟨g,off+i * 11+9,none⟩ (.int .i64 m.k.st)).setCell ⟨g,off+i * 11+10,none⟩ (.int .i64 m.k.til))).ownsRow base 55 11 (.slice (some ⟨g,off,none⟩) ms.length cA) ms.length ((ms.set i m).flatMap tmE.f)∧w1.drew.grownBy ((((((((((((w1.drew.setCell ⟨g,off+i * 11,none⟩ (.int .i64 m.k.num)).setCell ⟨g,off+i * 11+1,none⟩ (.int .i64 m.k.rq.src)).setCell ⟨g,off+i * 11+2,none⟩ (.int .i64 m.k.rq.dst)).setCell ⟨g,off+i * 11+3,none⟩ (.int .i64 m.k.rq.size)).setCell ⟨g,off+i * 11+4,none⟩ (.int .i64 m.k.rq.ready)).setCell ⟨g,off+i * 11+5,none⟩ (.int .i64 m.k.rq.dead)).setCell ⟨g,off+i * 11+6,none⟩ (.int .i64 m.k.rq.prio)).setCell ⟨g,off+i * 11+7,none⟩ (.bool m.k.rq.cust)).setCell ⟨g,off+i * 11+8,none⟩ (.slice m.A m.k.hops.length m.c)).setCell ⟨g,off+i * 11+9,none⟩ (.int .i64 m.k.st)).setCell ⟨g,off+i * 11+10,none⟩ (.int .i64 m.k.til))) (some g)):=HST.out
  have HXV:=Lib.hid (HXY.out.below (Below.refl w1.heap.size w1).drew HXY.out.lt);have HBV:Hid (Below g8 w w1.drew):=HB1.out.drew;have HVS:Hid (g8+1≤w1.drew.heap.size):=HSY.out;have HGN:Hid (X ≠ g):=fun e=>Xa1 HXY.out HTN.out HRY.out (by rw[e]; rfl)
  clear HY8 HXY HRY HB1 HSY HST HCL HFZ;generalize w1.drew=V at HCV HFV HSV HXV HBV HVS hHeld ⊢;refine tkF 0 _ ?_;refine tkF 1 _ ?_;refine tkF 2 _ ?_;refine tkF 3 _ ?_;refine tkG 4 (.slice (some ⟨g,off,none⟩) ms.length cA) ?_;refine tkF 5 _ ?_;refine tkG 6 (.agg (tkA m.k m.A m.c)) ?_;refine tkF 7 _ ?_;clear hHeld;have r0:V.cell? ⟨g,off+i * 11,none⟩=some (.int .i64 r.k.num):=HCV.out 0 _ rfl;have f0:V.frozen? ⟨g,off+i * 11,none⟩=false:=HFV.out _;have r1:V.cell? ⟨g,off+i * 11+1,none⟩=some (.int .i64 r.k.rq.src):=HCV.out 1 _ rfl;have f1:V.frozen? ⟨g,off+i * 11+1,none⟩=false:=HFV.out _;have r2:V.cell? ⟨g,off+i * 11+2,none⟩=some (.int .i64 r.k.rq.dst):=HCV.out 2 _ rfl;have f2:V.frozen? ⟨g,off+i * 11+2,none⟩=false:=HFV.out _;have r3:V.cell? ⟨g,off+i * 11+3,none⟩=some (.int .i64 r.k.rq.size):=HCV.out 3 _ rfl;have f3:V.frozen? ⟨g,off+i * 11+3,none⟩=false:=HFV.out _;have r4:V.cell? ⟨g,off+i * 11+4,none⟩=some (.int .i64 r.k.rq.ready):=HCV.out 4 _ rfl;have f4:V.frozen? ⟨g,off+i * 11+4,none⟩=false:=HFV.out _;have r5:V.cell? ⟨g,off+i * 11+5,none⟩=some (.int .i64 r.k.rq.dead):=HCV.out 5 _ rfl;have f5:V.frozen? ⟨g,off+i * 11+5,none⟩=false:=HFV.out _;have r6:V.cell? ⟨g,off+i * 11+6,none⟩=some (.int .i64 r.k.rq.prio):=HCV.out 6 _ rfl;have f6:V.frozen? ⟨g,off+i * 11+6,none⟩=false:=HFV.out _;have r7:V.cell? ⟨g,off+i * 11+7,none⟩=some (.bool r.k.rq.cust):=HCV.out 7 _ rfl
  have f7:V.frozen? ⟨g,off+i * 11+7,none⟩=false:=HFV.out _;have r8:V.cell? ⟨g,off+i * 11+8,none⟩=some (.slice r.A r.k.hops.length r.c):=HCV.out 8 _ rfl;have f8:V.frozen? ⟨g,off+i * 11+8,none⟩=false:=HFV.out _;have r9:V.cell? ⟨g,off+i * 11+9,none⟩=some (.int .i64 r.k.st):=HCV.out 9 _ rfl;have f9:V.frozen? ⟨g,off+i * 11+9,none⟩=false:=HFV.out _;have r10:V.cell? ⟨g,off+i * 11+10,none⟩=some (.int .i64 r.k.til):=HCV.out 10 _ rfl;have f10:V.frozen? ⟨g,off+i * 11+10,none⟩=false:=HFV.out _;refine Xb4 (i:=8) rfl (by kernel_rfl) (by rfl) (by rfl) (fun K hK=>?_)
  go_simp;refine hK _ _ ?_;clear hK K r0 r1 r2 r3 r4 r5 r6 r7 r8 r9 r10 f0 f1 f2 f3 f4 f5 f6 f7 f8 f9 f10
  try simp only[PU]
  have HXF:=Lib.hid (HXV.out.grown HSV.out.2 (by intro e; exact HGN.out (Option.some.inj e)))
  have HRF:=Lib.hid HSV.out.1;have HKF:=Lib.hid HSV.out.2;clear HSV;generalize (((((((((((V.setCell ⟨g,off+i * 11,none⟩ (.int .i64 m.k.num)).setCell ⟨g,off+i * 11+1,none⟩ (.int .i64 m.k.rq.src)).setCell ⟨g,off+i * 11+2,none⟩ (.int .i64 m.k.rq.dst)).setCell ⟨g,off+i * 11+3,none⟩ (.int .i64 m.k.rq.size)).setCell ⟨g,off+i * 11+4,none⟩ (.int .i64 m.k.rq.ready)).setCell ⟨g,off+i * 11+5,none⟩ (.int .i64 m.k.rq.dead)).setCell ⟨g,off+i * 11+6,none⟩ (.int .i64 m.k.rq.prio)).setCell ⟨g,off+i * 11+7,none⟩ (.bool m.k.rq.cust)).setCell ⟨g,off+i * 11+8,none⟩ (.slice m.A m.k.hops.length m.c)).setCell ⟨g,off+i * 11+9,none⟩ (.int .i64 m.k.st)).setCell ⟨g,off+i * 11+10,none⟩ (.int .i64 m.k.til))=WF at HXF HRF HKF ⊢;refine Xbd (by kernel_rfl) ?_
  go_wp2;go_end0;refine ⟨rfl,_,ms.set i m,Xo3 HIR.out HRN.out HNO.out,fun x hx=>?_,?_,?_,?_,fun j e1 e2 e3=>?_,.inl rfl,fun b0 e1 e2 e3=>?_⟩
  ·rcases List.mem_or_eq_of_mem_set hx with e | e
   ·exact .inr e
   ·exact .inl e
  ·have e:cs.setIfInBounds 3 (.slice (some ⟨g,off,none⟩) ms.length cA)=cs:=by
    apply Array.ext_getElem?;intro j
    by_cases hj:j=3
    ·subst hj;rw[HC3.out,Array.getElem?_setIfInBounds_self_of_lt (Array.getElem?_eq_some_iff.1 HC3.out).1]
    ·rw[Array.getElem?_setIfInBounds_ne (fun e=>hj e.symm)]
   rw[e];exact HXF.out
  ·rw[List.length_set];exact HRF.out
  ·rw[hg8];have:=HKF.out.size;have:=HVS.out;omega
  ·rw[hg8] at e1;exact (HKF.out.block j (by have:=HVS.out; omega) (fun e=>e3 (by cases e; rfl))).trans (HBV.out.block j e1)
  ·rw[hg8] at e3;exact (HBV.out.mono e3).grown HKF.out (by have:=HVS.out; omega) (fun r e=>by cases e; have:=HGB.out; omega)
end Go.Proofs.YtebkgbmijocdjaaGreat.Tp
