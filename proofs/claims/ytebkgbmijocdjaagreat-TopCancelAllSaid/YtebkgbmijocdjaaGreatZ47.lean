/- A part of the proof for the ledger. No condition beyond those that each theorem states. -/
import Derived.Test.YtebkgbmijocdjaaGreatZ46
set_option maxHeartbeats 32000000
set_option maxRecDepth 100000
set_option linter.unusedVariables false
set_option linter.unusedSimpArgs false
namespace Go.Proofs.YtebkgbmijocdjaaGreat.Tp
open Go Go.RowKit
theorem Xix {p:Pln}{now:Int}{m:List Hop}{ts:List Tk}{q:Rq}(hn:Xbh ts)(hq:q.prio=2):vicF p now m (setT ts ⟨Xad ts,q,m,1,0⟩)=vicF p now m ts:=by
 rw[Xb hn rfl];unfold vicF;have hw:Xbk p now (ts ++ [⟨Xad ts,q,m,1,0⟩])=Xbk p now ts:=by
  unfold Xbk;rw[List.filter_append];simp[hq]
 rw[hw];apply List.filter_congr;intro n hnm;obtain ⟨k,hk,rfl⟩:=List.mem_map.1 hnm;have h1:=Xcd hn (List.mem_filter.1 hk).1;have h2:Xbg (ts ++ [⟨Xad ts,q,m,1,0⟩]) k.num=some k:=by
  unfold Xbg at h1 ⊢;rw[List.find?_append,h1]
  rfl
 rw[h1,h2]
theorem Xja {w:World}{g k:Nat}{T U:TypeId}{c0 c1 c2 c3 d0 d1 d2 d3 d4:Value}(h:Bk w g T #[c0,c1,c2,c3])(h':Bk w k U #[d0,d1,d2,d3,d4])(hgk:g<k)(v0 v1 v2 v3 u0 u1 u2 u3 u4:Value) :
  ∃X Y,((((w.setCell ⟨g,0,none⟩ v0).setCell ⟨g,1,none⟩ v1).setCell ⟨g,2,none⟩ v2).setCell ⟨g,3,none⟩ v3)=X∧(((((X.setCell ⟨k,0,none⟩ u0).setCell ⟨k,1,none⟩ u1).setCell ⟨k,2,none⟩ u2).setCell ⟨k,3,none⟩ u3).setCell ⟨k,4,none⟩ u4)=Y∧Bk X k U #[d0,d1,d2,d3,d4] ∧ Bk Y g T #[v0,v1,v2,v3] ∧ Bk Y k U #[u0,u1,u2,u3,u4] ∧ (∀n0 w0,Below n0 w0 w→n0≤g→Below n0 w0 Y)∧Fr (fun j=>j=g∨j=k) w Y∧Fr (fun j=>some g=some j) w X:=by
 obtain ⟨X,hX,hx,hg⟩:=h.p4 v0 v1 v2 v3;have h2:=h'.grown hg (by simp; omega)
 obtain ⟨Y,hY,hy,hg2⟩:=h2.p5 u0 u1 u2 u3 u4;have hl:=h'.lt;have f1:=Fr.grown hg;have f2:=Fr.grown hg2;refine ⟨X,Y,hX,hY,h2,hx.grown hg2 (by simp; omega),hy,fun n0 w0 hb hn=>below_grown (below_grown hb hg hn (by have:=h.lt; omega)) hg2 (by omega) (by have:=hg.size; have:=h.lt; omega),⟨Nat.le_trans f1.1 f2.1,fun j hj hn=>?_⟩,f1⟩
 exact (f2.2 j (Nat.lt_of_lt_of_le hj f1.1) (fun e=>hn (.inr (Option.some.inj e).symm))).trans (f1.2 j hj (fun e=>hn (.inl (Option.some.inj e).symm)))
theorem Xgp {W Y:World}{E:Nat→Prop}{Aq Ac:Option Addr}{cq cc:Nat}{p:Pln}(hp:Xas Y Aq cq Ac cc p){base:Nat}{v:Value}{ms:List Tm}(hr:W.ownsRow base 55 11 v ms.length (ms.flatMap tmE.f))(hh:∀m ∈ ms,HpAt W m.A m.c m.k.hops)(hf:Fr E W Y)(h1:∀r,v.ownBlock=some r → ¬ E r)
  (h2:∀j cs mk,W.heap[j]? = some (.cells cs 41 mk) → ¬ E j) (hl:ms.length≤100) (hl2:∀m ∈ ms,m.k.hops.length≤4000):∃A c,v = .slice A ms.length c∧LgAt Y Aq cq Ac cc p A c (ms.map (·.k)):=by
 obtain ⟨A,c,e,hs,hc⟩:=Xah (E:=tmE) (Xde hr hf h1);refine ⟨A,c,e,hp,⟨ms,rfl,hs,fun m hm=>Xep (hh m hm) hf h2⟩,by rw[List.length_map]; exact hc,by rw[List.length_map]; exact hl,fun k hk=>?_⟩
 obtain ⟨m,hm,rfl⟩:=List.mem_map.1 hk;exact hl2 m hm
theorem Xdx {W:World}{g:Nat}{T U:TypeId}{cs:Array Value}(h:Bk W g T cs)(hTU:T ≠ U){j:Nat}{cs':Array Value}{mk:Nat × Nat}(hj:W.heap[j]? = some (.cells cs' U mk)):j ≠ g:=fun e=>by
 unfold Bk at h;rw[e,h] at hj;cases hj;exact hTU rfl
theorem Xsq {X base:Nat}{T:TypeId}{cs:Array Value}{v:Value}{ms:List Tm}{m:Tm}{w w':World}{e:Ending}(hX:Bk w X T cs)(hT:T ≠ 41)(hr:w.ownsRow base 55 11 v ms.length (ms.flatMap tmE.f))(hh:∀y ∈ ms,HpAt w y.A y.c y.k.hops)(hm:HpAt w m.A m.c m.k.hops)(h:Xn2 X T cs base v ms m w e w') :
  e = .returned (.tuple #[]) ∧ ∃(v':Value) (ms':List Tm),ms'.map (·.k)=setT (ms.map (·.k)) m.k∧(∀y ∈ ms',y=m∨y ∈ ms)∧Bk w' X T (cs.setIfInBounds 3 v')∧w'.ownsRow base 55 11 v' ms'.length (ms'.flatMap tmE.f)∧(∀y ∈ ms',HpAt w' y.A y.c y.k.hops)∧Fr (fun j=>j=X∨v.ownBlock=some j) w w' ∧ ∀b0,b0≤base→b0≤X→b0≤w.heap.size→Below b0 w w':=by
 obtain ⟨e1,v',ms',h1,h2,h3,h4,h5,h6,h7,h8⟩:=h;have hf:Fr (fun j=>j=X∨v.ownBlock=some j) w w':=⟨h5,fun j hj hn=>h6 j hj (fun e=>hn (.inl e)) (fun e=>hn (.inr e))⟩;have hne:∀j cs mk,w.heap[j]? = some (.cells cs 41 mk) → ¬ (j=X∨v.ownBlock=some j):=fun j cs mk hj=>by
  rintro (e | e)
  ·exact Xdx hX hT hj e
  ·obtain ⟨cs',hb⟩:=Xbn hr e;exact Xdx hb (by decide) hj rfl
 refine ⟨e1,v',ms',h1,h2,h3,h4,fun y hy=>?_,hf,h8⟩;rcases h2 y hy with rfl | h
 ·exact Xep hm hf hne
 ·exact Xep (hh y h) hf hne
def AccNo (p:Pln)(ts:List Tk)(q:Rq)(now:Int):Prop:=¬ (LgOK p ts∧RqOK p q∧(0≤now∧now≤q.ready)∧Xgh ts=false) ∨ ∃t m,TblR p ts t∧EarR t q (some m) ∧ ∃t',TblR p (setT ts ⟨Xad ts,q,m,1,0⟩) t' ∧ ¬ Xf3 t'
def Xu1 (Aq:Option Addr)(cq:Nat)(Ac:Option Addr)(cc:Nat)(p:Pln)(A0:Option Addr)(ts:List Tk)(q:Rq)(now:Int)(w:World)(e:Ending)(w':World):Prop:=Below w.heap.size w w' ∧
 ((∃x:Int,x ≠ 0∧AccNo p ts q now∧e = .returned (.tuple #[.agg #[.slice none 0 0,.slice none 0 0,.slice none 0 0,.slice none 0 0],.agg #[.bool false,.int .i64 0,.slice none 0 0,.slice none 0 0,.slice none 0 0],.int .i64 x])) ∨
  ∃(o:AccO) (A:Option Addr) (c:Nat) (Am:Option Addr) (cm:Nat) (Ad:Option Addr) (cd:Nat) (Ab:Option Addr) (nb cb:Nat),(LgOK p ts∧RqOK p q∧(0≤now∧now≤q.ready)∧ts.length<64∧Xad ts≤1152921504606846976)∧AccR p ts q now o∧LgAt w' Aq cq Ac cc p A c o.ts∧(o.acc=true∧(∀a,A=some a→w.heap.size≤a.block)∨o.acc=false∧A=A0) ∧
   e = .returned (.tuple #[.agg (lgA Aq cq Ac cc p A o.ts.length c),.agg #[.bool o.acc,.int .i64 o.num,.slice Am o.mv.length cm,.slice Ad o.dr.length cd,.slice Ab nb cb],.int .i64 0]))
theorem Xen (Aq:Option Addr)(cq:Nat)(Ac:Option Addr)(cc:Nat)(p:Pln)(A:Option Addr)(ct:Nat)(ts:List Tk)(q:Rq)(now:Int)(w:World)(h:LgAt w Aq cq Ac cc p A ct ts) :
  Calls Tryz.prog 20 #[.agg (lgA Aq cq Ac cc p A ts.length ct),.agg (rqA q),.int .i64 now] w (Xu1 Aq cq Ac cc p A ts q now w):=by
 obtain ⟨W,n0,hW,hn,HSZ,HB,HK0,HK1,HK2,HK3⟩:=box4 w 53 (lgA Aq cq Ac cc p A ts.length ct) 31 (rqA q) 53 #[.slice none 0 0,.slice none 0 0,.slice none 0 0,.slice none 0 0] 59 #[.bool false,.int .i64 0,.slice none 0 0,.slice none 0 0,.slice none 0 0];have HL:Hid (∀w',Below n0 w w' → LgAt w' Aq cq Ac cc p A ct ts):=fun w' hb=>h.below (by rw[hn]; exact hb)
 have HCK:=Lib.hid (Xf Aq cq Ac cc p A ct ts W (HL.out _ HB.out));have a0:=HK0.out.c4;go_enter Tryz.func20,Tryz.ntmps20;go_wp2_with fail;clear a0 hW;refine HCK.out.mono ?_;rintro e w1 ⟨x,rfl,hx,hb1⟩;have HM0:=Lib.hid (HK0.out.below hb1 HK0.out.lt);have HM1:=Lib.hid (HK1.out.below hb1 HK1.out.lt);have HM2:=Lib.hid (HK2.out.below hb1 HK2.out.lt);have HM3:=Lib.hid (HK3.out.below hb1 HK3.out.lt);have HB1:Hid (Below n0 w w1):=HB.out.trans (hb1.mono (by have:=HSZ.out; omega))
 clear hb1 HK0 HK1 HK2 HK3 HB HCK
 by_cases hz:x=0
 ·have HOK:=Lib.hid (hx.1 hz);subst hz;clear hx;have HCR:=Lib.hid (Xc5 Aq cq Ac cc p q w1 (HL.out _ HB1.out).p);have a0:=HM0.out.c4;obtain ⟨b0,b1,b2,b3,b4,b5,b6⟩:=HM1.out.c7;go_wp2_with fail;clear a0 b0 b1 b2 b3 b4 b5 b6;refine HCR.out.mono ?_;rintro e w2 ⟨x,rfl,hx,hb2⟩;have HN0:=Lib.hid (HM0.out.below hb2 HM0.out.lt);have HN1:=Lib.hid (HM1.out.below hb2 HM1.out.lt);have HN2:=Lib.hid (HM2.out.below hb2 HM2.out.lt);have HN3:=Lib.hid (HM3.out.below hb2 HM3.out.lt);have HB2:Hid (Below n0 w w2):=HB1.out.trans (hb2.mono (by have:=HM1.out.lt; omega))
  clear hb2 HM0 HM1 HM2 HM3 HB1 HCR
  by_cases hz:x=0
  ·have HQ:=Lib.hid (hx.1 hz);subst hz;clear hx;obtain ⟨b0,b1,b2,b3,b4,b5,b6⟩:=HN1.out.c7
   by_cases h0:now<0
   ·have HNO:Hid (¬ (0≤now∧now≤q.ready)):=by show ¬ _; omega
    have d0:decide (now<0)=true:=by simpa using h0
    clear h0;go_wp2_with fail;refine (Xem 2 w2).mono ?_;rintro e wf ⟨rfl,hbf⟩;have HF2:=Lib.hid (HN2.out.below hbf HN2.out.lt);have HF3:=Lib.hid (HN3.out.below hbf HN3.out.lt);have HBF:Hid (Below n0 w wf):=HB2.out.trans (hbf.mono (by have:=HN2.out.lt; omega))
    clear hbf;obtain ⟨X,Y,hX,hY,hxk,hyg,hyk,hbe,hfr, -⟩:=Xja HF2.out HF3.out (by omega) (.slice none 0 0) (.slice none 0 0) (.slice none 0 0) (.slice none 0 0) (.bool false) (.int .i64 0) (.slice none 0 0) (.slice none 0 0) (.slice none 0 0)
    have r0:=HF2.out.c4;have f0:=HF2.out.f4;have s0:=hxk.c5;obtain ⟨e0,e1,e2,e3,e4⟩:=hxk.f5;have HBE:Hid (Below n0 w Y):=hbe _ _ HBF.out (by omega)
    have HFR:=Lib.hid hfr;have p0:=hyg.c4;have o0:=hyk.c5;clear hxk hyg hyk hbe hfr;go_wp2_with fail;exact bodyPost_ret (v:=.tuple #[.agg #[.slice none 0 0,.slice none 0 0,.slice none 0 0,.slice none 0 0],.agg #[.bool false,.int .i64 0,.slice none 0 0,.slice none 0 0,.slice none 0 0],.int .i64 2]) (by simp[results,Tryz.results20,go_sem,p0,o0]) rfl ⟨by rw[hn]; exact HBE.out,.inl ⟨_,(by decide),.inl fun h=>HNO.out h.2.2.1,rfl⟩⟩
   ·by_cases h1:q.ready<now
    ·have HNO:Hid (¬ (0≤now∧now≤q.ready)):=by show ¬ _; omega
     have d0:decide (now<0)=false:=by simpa using h0
     have d1:decide (q.ready<now)=true:=by simpa using h1
     have d2:decide (now > q.ready)=true:=by simpa using h1
     clear h0 h1;go_wp2_with fail;refine (Xem 2 w2).mono ?_;rintro e wf ⟨rfl,hbf⟩;have HF2:=Lib.hid (HN2.out.below hbf HN2.out.lt);have HF3:=Lib.hid (HN3.out.below hbf HN3.out.lt);have HBF:Hid (Below n0 w wf):=HB2.out.trans (hbf.mono (by have:=HN2.out.lt; omega))
     clear hbf;obtain ⟨X,Y,hX,hY,hxk,hyg,hyk,hbe,hfr, -⟩:=Xja HF2.out HF3.out (by omega) (.slice none 0 0) (.slice none 0 0) (.slice none 0 0) (.slice none 0 0) (.bool false) (.int .i64 0) (.slice none 0 0) (.slice none 0 0) (.slice none 0 0)
     have r0:=HF2.out.c4;have f0:=HF2.out.f4;have s0:=hxk.c5;obtain ⟨e0,e1,e2,e3,e4⟩:=hxk.f5;have HBE:Hid (Below n0 w Y):=hbe _ _ HBF.out (by omega)
     have HFR:=Lib.hid hfr;have p0:=hyg.c4;have o0:=hyk.c5;clear hxk hyg hyk hbe hfr;go_wp2_with fail;exact bodyPost_ret (v:=.tuple #[.agg #[.slice none 0 0,.slice none 0 0,.slice none 0 0,.slice none 0 0],.agg #[.bool false,.int .i64 0,.slice none 0 0,.slice none 0 0,.slice none 0 0],.int .i64 2]) (by simp[results,Tryz.results20,go_sem,p0,o0]) rfl ⟨by rw[hn]; exact HBE.out,.inl ⟨_,(by decide),.inl fun h=>HNO.out h.2.2.1,rfl⟩⟩
    ·have HNW:Hid (0≤now∧now≤q.ready):=by show _∧_; omega
     have d0:decide (now<0)=false:=by simpa using h0
     have d1:decide (q.ready<now)=false:=by simpa using h1
     have d2:decide (now > q.ready)=false:=by simpa using h1
     clear h0 h1;have HCW:=Lib.hid (Xmv Aq cq Ac cc p A ct ts w2 (HL.out _ HB2.out).t (by have:=(HL.out _ HB2.out).tm; omega))
     have a0:=HN0.out.c4;go_wp2_with fail;clear a0 b0 b1 b2 b3 b4 b5 b6 d0 d1 d2;refine HCW.out.mono ?_;rintro e w3 ⟨rfl,hb3⟩;have HP0:=Lib.hid (HN0.out.below hb3 HN0.out.lt);have HP1:=Lib.hid (HN1.out.below hb3 HN1.out.lt);have HP2:=Lib.hid (HN2.out.below hb3 HN2.out.lt);have HP3:=Lib.hid (HN3.out.below hb3 HN3.out.lt);have HB3:Hid (Below n0 w w3):=HB2.out.trans (hb3.mono (by have:=HN1.out.lt; omega))
     clear hb3 HN0 HN1 HN2 HN3 HB2 HCW;cases hcw:Xgh ts with
     | true =>
       have HNO:Hid (¬ Xgh ts=false):=by show ¬ _; rw[hcw]; simp
       clear hcw;go_wp2_with fail;refine (Xem 4 w3).mono ?_;rintro e wf ⟨rfl,hbf⟩;have HF2:=Lib.hid (HP2.out.below hbf HP2.out.lt);have HF3:=Lib.hid (HP3.out.below hbf HP3.out.lt);have HBF:Hid (Below n0 w wf):=HB3.out.trans (hbf.mono (by have:=HP2.out.lt; omega))
       clear hbf;obtain ⟨X,Y,hX,hY,hxk,hyg,hyk,hbe,hfr, -⟩:=Xja HF2.out HF3.out (by omega) (.slice none 0 0) (.slice none 0 0) (.slice none 0 0) (.slice none 0 0) (.bool false) (.int .i64 0) (.slice none 0 0) (.slice none 0 0) (.slice none 0 0)
       have r0:=HF2.out.c4;have f0:=HF2.out.f4;have s0:=hxk.c5;obtain ⟨e0,e1,e2,e3,e4⟩:=hxk.f5;have HBE:Hid (Below n0 w Y):=hbe _ _ HBF.out (by omega)
       have HFR:=Lib.hid hfr;have p0:=hyg.c4;have o0:=hyk.c5;clear hxk hyg hyk hbe hfr;go_wp2_with fail;exact bodyPost_ret (v:=.tuple #[.agg #[.slice none 0 0,.slice none 0 0,.slice none 0 0,.slice none 0 0],.agg #[.bool false,.int .i64 0,.slice none 0 0,.slice none 0 0,.slice none 0 0],.int .i64 4]) (by simp[results,Tryz.results20,go_sem,p0,o0]) rfl ⟨by rw[hn]; exact HBE.out,.inl ⟨_,(by decide),.inl fun h=>HNO.out h.2.2.2,rfl⟩⟩
     | false =>
       have HC:=Lib.hid (Xqq hcw);clear hcw;have a0:=HP0.out.c4;have HHB:Hid (∀k ∈ ts,∀x ∈ k.hops,HopB p x):=fun k hk=>(HOK.out.2.2.2.1 k hk).hopB;have HTB:=Lib.hid (Xbt Aq cq Ac cc p A ct ts w3 (HL.out _ HB3.out) HOK.out.1 HHB.out);go_wp2_with fail;clear a0;refine HTB.out.mono ?_;rintro e w4 ⟨⟨p',b,h⟩,B,cb,H,ch,hR,rfl,hT,-,hb4⟩;have hpe:p=p':=hR.1.symm;subst hpe
       dsimp only
       have HR:=Lib.hid hR;obtain ⟨W5,g5,hW5,hg5,HSZ5,HA5,HT5⟩:=box1 w4 29 (tbB Aq cq Ac cc p B b cb H h ch);have hb5:Below w3.heap.size w3 W5:=Xa hb4 (by rw[hg5]; exact HA5.out)
       have HTA:Hid (Xcm W5 Aq cq Ac cc B cb H ch ⟨p,b,h⟩):=hT.below (by rw[hg5]; exact HA5.out)
       have HQ0:=Lib.hid (HP0.out.below hb5 HP0.out.lt);have HQ1:=Lib.hid (HP1.out.below hb5 HP1.out.lt);have HQ2:=Lib.hid (HP2.out.below hb5 HP2.out.lt);have HQ3:=Lib.hid (HP3.out.below hb5 HP3.out.lt);have HB5:Hid (Below n0 w W5):=HB3.out.trans (hb5.mono (by have:=HP3.out.lt; omega))
       have HEA:=Lib.hid (Xdq Aq cq Ac cc B cb H ch ⟨p,b,h⟩ q W5 HTA.out);clear hR hT hb4 hb5 HP0 HP1 HP2 HP3 HB3 HTB HA5;have c0:=HT5.out.c4;obtain ⟨b0,b1,b2,b3,b4,b5,b6⟩:=HQ1.out.c7;go_wp2_with fail;clear c0 b0 b1 b2 b3 b4 b5 b6 hW5 hg5;refine HEA.out.mono ?_;rintro e w6 ⟨hb6,hpost⟩;obtain ⟨pm,Ap,cp,ex,rfl,hpm,hpl,hcase⟩:∃pm Ap cp ex,e = .returned (.tuple #[.slice Ap pm.length cp,.int .i64 ex])∧HpAt w6 Ap cp pm∧pm.length≤1000∧(ex=0∧EarR ⟨p,b,h⟩ q (some pm)∨ex ≠ 0∧EarR ⟨p,b,h⟩ q none∧pm = []):=by
        rcases hpost with ⟨x,hx,rfl,hr⟩ | ⟨m,A',c,hr,rfl,hm⟩
        ·exact ⟨[],none,0,x,rfl,HpAt.nil _,by simp,.inr ⟨hx,hr,rfl⟩⟩
        ·obtain ⟨_,_,n,_,hg⟩:=hr.good;exact ⟨m,A',c,0,rfl,hm,hg.rt.2.2.1,.inl ⟨rfl,hr⟩⟩
       have HPM:=Lib.hid hpm;have HPL:Hid (pm.length≤1000):=hpl;have HCASE:=Lib.hid hcase;have HR0:=Lib.hid (HQ0.out.below hb6 HQ0.out.lt);have HR1:=Lib.hid (HQ1.out.below hb6 HQ1.out.lt);have HR2:=Lib.hid (HQ2.out.below hb6 HQ2.out.lt);have HR3:=Lib.hid (HQ3.out.below hb6 HQ3.out.lt);have HT6:=Lib.hid (HT5.out.below hb6 HT5.out.lt);have HTA6:=Lib.hid (HTA.out.below hb6);have HB6:Hid (Below n0 w w6):=HB5.out.trans (hb6.mono (by have:=HQ3.out.lt; omega))
       have HLS:Hid (∀k ∈ ts,k.hops.length≤1000):=fun k hk=>by
        rcases (HOK.out.2.2.2.1 k hk).2 with ⟨_,h1,_⟩ | ⟨_,h1,_⟩
        ·exact h1.2.2.1
        ·rcases h1 with h1 | h1
         ·rw[h1]; simp
         ·exact h1.2.2.1
       clear hpm hpl hcase hpost hb6 HQ0 HQ1 HQ2 HQ3 HT5 HTA HB5 HEA HSZ5;obtain ⟨b0,b1,b2,b3,b4,b5,b6⟩:=HR1.out.c7;go_upto_if 70 with fail
       clear b0 b1 b2 b3 b4 b5 b6;go_cut [14,15] from 68 (fun _ _ wc=>Below w6.heap.size w6 wc)
       case first =>
        by_cases hp2:q.prio=2
        ·have d0:(q.prio == 2)=true:=by simpa using hp2
         have HP2:=Lib.hid hp2;clear hp2;have HTR:=Lib.hid (try_any Aq cq Ac cc p A ct ts q Ap cp pm now w6 (HL.out _ HB6.out) HOK.out.1 HHB.out HOK.out.2.1 HLS.out HOK.out.2.2.1 HC.out.2 HPM.out HPL.out);have a0:=HR0.out.c4;obtain ⟨b0,b1,b2,b3,b4,b5,b6⟩:=HR1.out.c7;go_wp2_with fail;clear a0 b0 b1 b2 b3 b4 b5 b6;refine HTR.out.mono ?_;rintro e w7 ⟨hb7,hpost⟩;rcases hpost with ⟨v,rfl⟩ | ⟨X,x',t2,m,rfl,hR2,hE2,hlt,hmv,hX,hacc,hnum,hOKx,hvs,hT2⟩
         ·go_wp2;go_meet
          case rel=>exact hb7
         ·obtain ⟨vT,ms',V,cV,vs,acc,num,vM,M,vD,D⟩:=x'
          dsimp only at hmv hacc hnum hvs hT2
          subst hacc hnum hvs;obtain ⟨Ax,cx,hx1⟩:=Xa8 hX.c.rt;obtain ⟨Am,cm,hx2⟩:=Xa8 hX.c.rm;obtain ⟨Ad,cd,hx3⟩:=Xa8 hX.c.rd
          dsimp only at hx1 hx2 hx3
          subst hx1 hx2 hx3;have hX0:Bk w7 X 120 #[.slice Aq p.q.length cq,.slice Ac p.c.length cc,.slice none 0 0,.slice Ax ms'.length cx,.int .i64 now,.slice V 0 cV,.bool true,.int .i64 (Xad ts),.slice Am M.length cm,.slice Ad D.length cd,.slice none 0 0]:=hX.x;have HSF:Hid (∀w',Bk w' X 120 #[.slice Aq p.q.length cq,.slice Ac p.c.length cc,.slice none 0 0,.slice Ax ms'.length cx,.int .i64 now,.slice V 0 cV,.bool true,.int .i64 (Xad ts),.slice Am M.length cm,.slice Ad D.length cd,.slice none 0 0] → w'.cell? ⟨X,0,none⟩=some (.slice Aq p.q.length cq)∧w'.cell? ⟨X,1,none⟩=some (.slice Ac p.c.length cc)∧w'.cell? ⟨X,2,none⟩=some (.slice none 0 0)∧w'.cell? ⟨X,3,none⟩=some (.slice Ax ms'.length cx)∧w'.cell? ⟨X,6,none⟩=some (.bool true)∧w'.cell? ⟨X,7,none⟩=some (.int .i64 (Xad ts))∧w'.cell? ⟨X,8,none⟩=some (.slice Am M.length cm)∧w'.cell? ⟨X,9,none⟩=some (.slice Ad D.length cd)∧w'.cell? ⟨X,10,none⟩=some (.slice none 0 0)):=fun w' h=>⟨h.cell 0,h.cell 1,h.cell 2,h.cell 3,h.cell 6,h.cell 7,h.cell 8,h.cell 9,h.cell 10⟩;have HM0:=Lib.hid (HR0.out.below hb7 HR0.out.lt);have HM2:=Lib.hid (HR2.out.below hb7 HR2.out.lt);have HM3:=Lib.hid (HR3.out.below hb7 HR3.out.lt);have HB7:Hid (Below n0 w w7):=HB6.out.trans (hb7.mono (by have:=HR3.out.lt; omega))
          have HZ:Hid (n0+1+1+1<w6.heap.size∧w6.heap.size≤X):=⟨HR3.out.lt,hX.nX⟩;have HACC:Hid (AccR p ts q now ⟨ms'.map (·.k),true,Xad ts,M,D⟩):=by
           rw[←Xix HOK.out.2.2.1 HP2.out] at hmv;rcases HCASE.out with ⟨_,hear⟩ | ⟨_,hear,_⟩
           ·exact .exch HP2.out HR.out hear hR2 hE2 (fun m0 e=>by cases e; exact hlt hear.good.1) hmv hT2
           ·exact .exch HP2.out HR.out hear hR2 hE2 (fun m0 e=>by cases e) hmv hT2
          have HXC:=Lib.hid hX.c;have HOX:Hid (ms'.length≤70 ∧ ∀m ∈ ms',m.k.hops.length≤2000):=⟨hOKx.ln,hOKx.l2⟩;clear hb7 HR0 HR1 HR2 HR3 HB6 hR2 hE2 hlt hmv hT2 hOKx hX HTR HT6 HTA6;go_wp2_with fail;refine Xam (S:=fun w' => w'.cell? ⟨X,0,none⟩=some (.slice Aq p.q.length cq)∧w'.cell? ⟨X,1,none⟩=some (.slice Ac p.c.length cc)∧w'.cell? ⟨X,2,none⟩=some (.slice none 0 0)∧w'.cell? ⟨X,3,none⟩=some (.slice Ax ms'.length cx)∧w'.cell? ⟨X,6,none⟩=some (.bool true)∧w'.cell? ⟨X,7,none⟩=some (.int .i64 (Xad ts))∧w'.cell? ⟨X,8,none⟩=some (.slice Am M.length cm)∧w'.cell? ⟨X,9,none⟩=some (.slice Ad D.length cd)∧w'.cell? ⟨X,10,none⟩=some (.slice none 0 0)) [] (by kernel_rfl) (HSF.out _ hX0) (fun hHeld=>?_)
          have hdr:Below w7.heap.size w7 w7.drew:=(Below.refl _ _).drew;have HN2:=Lib.hid (HM2.out.below hdr HM2.out.lt);have HN3:=Lib.hid (HM3.out.below hdr HM3.out.lt);have HBD:Hid (Below n0 w w7.drew):=HB7.out.trans (hdr.mono (by have:=HM3.out.lt; omega))
          have HX0:Hid (Bk w7.drew X 120 #[.slice Aq p.q.length cq,.slice Ac p.c.length cc,.slice none 0 0,.slice Ax ms'.length cx,.int .i64 now,.slice V 0 cV,.bool true,.int .i64 (Xad ts),.slice Am M.length cm,.slice Ad D.length cd,.slice none 0 0]):=hX0;have HFD:Hid (Fr (fun _=>False) w7 w7.drew):=Fr.below hdr;clear hdr hX0;generalize w7.drew=U at HN2 HN3 HBD HX0 HFD hHeld ⊢;refine tkF 0 _ ?_;refine tkF 1 _ ?_;refine tkF 2 _ ?_;refine tkF 3 _ ?_;refine tkG 4 (.agg (lgA Aq cq Ac cc p Ax ms'.length cx)) ?_;refine tkF 5 _ ?_;refine tkF 6 _ ?_;refine tkF 7 _ ?_;obtain ⟨X1,Y,hX1,hY,hxk,hyg,hyk,hbe,hfr,hfx⟩:=Xja HN2.out HN3.out (by omega) (.slice Aq p.q.length cq) (.slice Ac p.c.length cc) (.slice none 0 0) (.slice Ax ms'.length cx) (.bool true) (.int .i64 (Xad ts)) (.slice Am M.length cm) (.slice Ad D.length cd) (.slice none 0 0)
          have r0:=HN2.out.c4;have f0:=HN2.out.f4;have s0:=hxk.c5;obtain ⟨e0,e1,e2,e3,e4⟩:=hxk.f5;have p0:=hyg.c4;have o0:=hyk.c5;have HBE:Hid (Below n0 w Y):=hbe _ _ HBD.out (by omega)
          have HS1:=Lib.hid (HSF.out _ (Xft HX0.out hfx (by have:=HZ.out; simp; omega)))
          have HS2:=Lib.hid (HSF.out _ (Xft HX0.out hfr (by have:=HZ.out; omega)))
          have HLGY:Hid (LgAt Y Aq cq Ac cc p Ax cx (ms'.map (·.k))):=by
           have hf2:Fr (fun j=>j=n0+1+1∨j=n0+1+1+1) w7 Y:=⟨Nat.le_trans HFD.out.1 hfr.1,fun j hj hn=>(hfr.2 j (Nat.lt_of_lt_of_le hj HFD.out.1) hn).trans (HFD.out.2 j hj id)⟩;obtain ⟨A8,c8,e8,hlg⟩:=Xgp (HL.out _ HBE.out).p HXC.out.rt HXC.out.hp hf2 (fun r e=>by have h1:=(HXC.out.rt.lt r e).1; have:=HZ.out; omega) (fun j cs mk hj=>by
            rintro (e | e)
            ·exact Xdx HM2.out (by decide) hj e
            ·exact Xdx HM3.out (by decide) hj e) (by have:=HOX.out.1; show ms'.length≤100; omega) (fun m hm=>by have:=HOX.out.2 m hm; omega)
           cases e8;exact hlg
          clear hxk hyg hyk hbe hfr hfx HN2 HN3 HX0 HBD HFD;refine Xe1 (i:=8) (j:=9) rfl rfl (by kernel_rfl) (by rfl) (by rfl) (fun K hK=>?_) (fun K hK=>?_)
          ·have hH:=hHeld;obtain ⟨x0,x1,x2,x3,x6,x7,x8,x9,x10⟩:=hH;go_simp;refine hK _ _ hHeld ?_;clear hK K x0 x1 x2 x3 x6 x7 x8 x9 x10
           try simp only[PU]
           refine Xaa (i:=9) rfl (by kernel_rfl) (by rfl) (fun K hK=>?_)
           go_simp;refine hK _ _ HS1.out ?_;clear hK K
           try simp only[PU]
           have hHeld:(fun w' => w'.cell? ⟨X,0,none⟩=some (.slice Aq p.q.length cq)∧w'.cell? ⟨X,1,none⟩=some (.slice Ac p.c.length cc)∧w'.cell? ⟨X,2,none⟩=some (.slice none 0 0)∧w'.cell? ⟨X,3,none⟩=some (.slice Ax ms'.length cx)∧w'.cell? ⟨X,6,none⟩=some (.bool true)∧w'.cell? ⟨X,7,none⟩=some (.int .i64 (Xad ts))∧w'.cell? ⟨X,8,none⟩=some (.slice Am M.length cm)∧w'.cell? ⟨X,9,none⟩=some (.slice Ad D.length cd)∧w'.cell? ⟨X,10,none⟩=some (.slice none 0 0)) X1:=HS1.out;refine Xaa (i:=10) rfl (by kernel_rfl) (by rfl) (fun K hK=>?_)
           go_simp;refine hK _ _ HS2.out ?_;clear hK K
           try simp only[PU]
           have hHeld:(fun w' => w'.cell? ⟨X,0,none⟩=some (.slice Aq p.q.length cq)∧w'.cell? ⟨X,1,none⟩=some (.slice Ac p.c.length cc)∧w'.cell? ⟨X,2,none⟩=some (.slice none 0 0)∧w'.cell? ⟨X,3,none⟩=some (.slice Ax ms'.length cx)∧w'.cell? ⟨X,6,none⟩=some (.bool true)∧w'.cell? ⟨X,7,none⟩=some (.int .i64 (Xad ts))∧w'.cell? ⟨X,8,none⟩=some (.slice Am M.length cm)∧w'.cell? ⟨X,9,none⟩=some (.slice Ad D.length cd)∧w'.cell? ⟨X,10,none⟩=some (.slice none 0 0)) Y:=HS2.out;refine tkF 11 _ ?_;clear hHeld;refine Xbd (by kernel_rfl) ?_
           go_wp2_with fail;exact bodyPost_ret (v:=.tuple #[.agg (lgA Aq cq Ac cc p Ax ms'.length cx),.agg #[.bool true,.int .i64 (Xad ts),.slice Am M.length cm,.slice Ad D.length cd,.slice none 0 0],.int .i64 0]) (by simp[results,Tryz.results20,go_sem,p0,o0]) rfl ⟨by rw[hn]; exact HBE.out,.inr ⟨⟨ms'.map (·.k),true,Xad ts,M,D⟩,Ax,cx,Am,cm,Ad,cd,none,0,0,⟨HOK.out,HQ.out,HNW.out,HC.out⟩,HACC.out,HLGY.out,.inl ⟨rfl,fun a e=>by have h1:=(HXC.out.rt.lt a.block (by rw[e]; rfl)).1; have:=HZ.out; omega⟩,by rw[List.length_map]⟩⟩
          ·go_simp;refine hK _ _ HS1.out ?_;clear hK K hHeld
           try simp only[PU]
           have hHeld:(fun w' => w'.cell? ⟨X,0,none⟩=some (.slice Aq p.q.length cq)∧w'.cell? ⟨X,1,none⟩=some (.slice Ac p.c.length cc)∧w'.cell? ⟨X,2,none⟩=some (.slice none 0 0)∧w'.cell? ⟨X,3,none⟩=some (.slice Ax ms'.length cx)∧w'.cell? ⟨X,6,none⟩=some (.bool true)∧w'.cell? ⟨X,7,none⟩=some (.int .i64 (Xad ts))∧w'.cell? ⟨X,8,none⟩=some (.slice Am M.length cm)∧w'.cell? ⟨X,9,none⟩=some (.slice Ad D.length cd)∧w'.cell? ⟨X,10,none⟩=some (.slice none 0 0)) X1:=HS1.out;have hH:=HS1.out;obtain ⟨x0,x1,x2,x3,x6,x7,x8,x9,x10⟩:=hH;refine Xaa (i:=8) rfl (by kernel_rfl) (by rfl) (fun K hK=>?_)
           go_simp;refine hK _ _ HS1.out ?_;clear hK K
           try simp only[PU]
           clear x0 x1 x2 x3 x6 x7 x8 x9 x10;refine Xaa (i:=10) rfl (by kernel_rfl) (by rfl) (fun K hK=>?_)
           go_simp;refine hK _ _ HS2.out ?_;clear hK K
           try simp only[PU]
           have hHeld:(fun w' => w'.cell? ⟨X,0,none⟩=some (.slice Aq p.q.length cq)∧w'.cell? ⟨X,1,none⟩=some (.slice Ac p.c.length cc)∧w'.cell? ⟨X,2,none⟩=some (.slice none 0 0)∧w'.cell? ⟨X,3,none⟩=some (.slice Ax ms'.length cx)∧w'.cell? ⟨X,6,none⟩=some (.bool true)∧w'.cell? ⟨X,7,none⟩=some (.int .i64 (Xad ts))∧w'.cell? ⟨X,8,none⟩=some (.slice Am M.length cm)∧w'.cell? ⟨X,9,none⟩=some (.slice Ad D.length cd)∧w'.cell? ⟨X,10,none⟩=some (.slice none 0 0)) Y:=HS2.out;refine tkF 11 _ ?_;clear hHeld;refine Xbd (by kernel_rfl) ?_
           go_wp2_with fail;exact bodyPost_ret (v:=.tuple #[.agg (lgA Aq cq Ac cc p Ax ms'.length cx),.agg #[.bool true,.int .i64 (Xad ts),.slice Am M.length cm,.slice Ad D.length cd,.slice none 0 0],.int .i64 0]) (by simp[results,Tryz.results20,go_sem,p0,o0]) rfl ⟨by rw[hn]; exact HBE.out,.inr ⟨⟨ms'.map (·.k),true,Xad ts,M,D⟩,Ax,cx,Am,cm,Ad,cd,none,0,0,⟨HOK.out,HQ.out,HNW.out,HC.out⟩,HACC.out,HLGY.out,.inl ⟨rfl,fun a e=>by have h1:=(HXC.out.rt.lt a.block (by rw[e]; rfl)).1; have:=HZ.out; omega⟩,by rw[List.length_map]⟩⟩
        ·have d0:(q.prio == 2)=false:=by simpa using hp2
         go_wp2;go_meet
         case rel=>exact Below.refl _ _
       case rest =>
        obtain ⟨w8,hw8⟩:∃v,v=wc:=⟨_,rfl⟩;subst hw8;have HS0:=Lib.hid (HR0.out.below hcut HR0.out.lt);have HS1:=Lib.hid (HR1.out.below hcut HR1.out.lt);have HS2:=Lib.hid (HR2.out.below hcut HR2.out.lt);have HS3:=Lib.hid (HR3.out.below hcut HR3.out.lt);have HS5:=Lib.hid (HT6.out.below hcut HT6.out.lt);have HTA8:=Lib.hid (HTA6.out.below hcut);have HPM8:=Lib.hid (HPM.out.below hcut);have HB8:Hid (Below n0 w w8):=HB6.out.trans (hcut.mono (by have:=HR3.out.lt; omega))
        clear hcut HR0 HR1 HR2 HR3 HT6 HTA6 HPM HB6;rcases HCASE.out with ⟨rfl,hear⟩ | ⟨hex,hear,hpn⟩
        ·have HEAR:=Lib.hid hear;clear hear HCASE;obtain ⟨ms,hms,hsl,hhp⟩:=(HL.out _ HB8.out).t;have HMS:=Lib.hid hms;have hlen:ts.length=ms.length:=by rw[←hms,List.length_map]
         have HML:Hid (ms.length<64):=by have:=HC.out.1; show _<_; omega
         have HHP:=Lib.hid hhp;have HOP:=Lib.hid (open_any Aq cq Ac cc p A ts.length ct ms w8 hsl hlen (by have:=HC.out.1; omega))
         clear hms hsl hhp hlen;have a0:=HS0.out.c4;go_wp2_with fail;clear a0;refine HOP.out.mono ?_;rintro e w9 ⟨D,cd,rfl,hrow,hb9⟩;obtain ⟨W10,g10,hW10,hg10,HSZ10,HA10,HK10⟩:=box1 w9 118 (lgA Aq cq Ac cc p D ms.length cd);have hb10:Below w8.heap.size w8 W10:=Xa hb9 (by rw[hg10]; exact HA10.out)
         have HRW:Hid (W10.ownsRow w8.heap.size 55 11 (.slice D ms.length cd) ms.length (ms.flatMap tmE.f)):=Xa6 hrow (by rw[hg10]; exact HA10.out)
         have HBS:Hid (w8.heap.size≤g10):=by have:=hb9.size; show _≤_; omega
         have HHT:Hid (∀m ∈ ms,HpAt W10 m.A m.c m.k.hops):=fun m hm=>(HHP.out m hm).below hb10;have HPM10:=Lib.hid (HPM8.out.below hb10);have HU0:=Lib.hid (HS0.out.below hb10 HS0.out.lt);have HU1:=Lib.hid (HS1.out.below hb10 HS1.out.lt);have HU2:=Lib.hid (HS2.out.below hb10 HS2.out.lt);have HU3:=Lib.hid (HS3.out.below hb10 HS3.out.lt);have HB10:Hid (Below n0 w W10):=HB8.out.trans (hb10.mono (by have:=HS3.out.lt; omega))
         have HZ8:Hid (n0+1+1+1<w8.heap.size):=HS3.out.lt;clear hb9 hb10 hrow HS0 HS1 HS2 HS3 HHP HPM8 HTA8 HA10 HOP HB8;obtain ⟨D',cd',e0,hsD,hcD⟩:=Xah (E:=tmE) HRW.out;obtain ⟨rfl,rfl⟩:D=D' ∧ cd=cd':=by cases e0; exact ⟨rfl,rfl⟩
         have HNX:=Lib.hid (next_any g10 D cd ts W10 ⟨ms,HMS.out,hsD,HHT.out⟩ (by rw[HK10.out.cell 3, ←HMS.out,List.length_map]; rfl) (by have:=HC.out.1; omega) (by have h1:=(Xe3 HOK.out.2.2.1).1; have h2:=HC.out.2; omega))
         clear e0 hsD hcD;go_wp2_with fail;clear hW10 hg10;refine HNX.out.mono ?_;rintro e w11 ⟨rfl,hb11⟩;have HRW11:=Lib.hid (Xa6 HRW.out hb11);have HHT11:Hid (∀m ∈ ms,HpAt w11 m.A m.c m.k.hops):=fun m hm=>(HHT.out m hm).below hb11;have HPM11:=Lib.hid (HPM10.out.below hb11);have HV0:=Lib.hid (HU0.out.below hb11 HU0.out.lt);have HV1:=Lib.hid (HU1.out.below hb11 HU1.out.lt);have HV2:=Lib.hid (HU2.out.below hb11 HU2.out.lt);have HV3:=Lib.hid (HU3.out.below hb11 HU3.out.lt);have HK11:=Lib.hid (HK10.out.below hb11 HK10.out.lt);have HB11:Hid (Below n0 w w11):=HB10.out.trans (hb11.mono (by have:=HU3.out.lt; omega))
         clear hb11 HRW HHT HPM10 HU0 HU1 HU2 HU3 HK10 HB10 HNX;obtain ⟨tn,htn⟩:∃tn:Tk,tn=⟨Xad ts,q,pm,1,0⟩:=⟨_,rfl⟩;have HSE:=Lib.hid (set_any g10 118 (lgA Aq cq Ac cc p D ms.length cd) w8.heap.size (.slice D ms.length cd) ms ⟨⟨Xad ts,q,pm,1,0⟩,Ap,cp⟩ w11 HK11.out rfl (by decide) HRW11.out (by have:=HK11.out.lt; have:=HBS.out; omega) (by have:=HML.out; omega))
         obtain ⟨b0,b1,b2,b3,b4,b5,b6⟩:=HV1.out.c7;go_wp2_with fail;clear b0 b1 b2 b3 b4 b5 b6;refine HSE.out.mono ?_;intro e w12 hpost;obtain ⟨rfl,v',ms',hm1,hm2,hk12,hr12,hh12,hf12,hb12⟩:=Xsq HK11.out (by decide) HRW11.out HHT11.out HPM11.out hpost
         have hob:∀r,(Value.slice D ms.length cd).ownBlock=some r→w8.heap.size≤r:=fun r e=>(HRW11.out.lt r e).1;have hfr:∀j,j<w8.heap.size → ¬ (j=g10∨(Value.slice D ms.length cd).ownBlock=some j):=fun j hj=>by
          rintro (e | e)
          ·have:=HBS.out; omega
          ·have:=hob j e; omega
         have hbw:Below w8.heap.size w11 w12:=hb12 _ (Nat.le_refl _) HBS.out (by have:=HK11.out.lt; have:=HBS.out; omega)
         have HM1:Hid (ms'.map (·.k)=setT ts ⟨Xad ts,q,pm,1,0⟩):=by show _=_; rw[hm1,HMS.out]
         have HML2:Hid (ms'.length≤100 ∧ ∀m ∈ ms',m.k.hops.length≤1000 ∧ ∀x ∈ m.k.hops,HopB p x):=by
          have h1:ms'.length=ts.length+1:=by
           have:=congrArg List.length HM1.out;rw[Xb HOK.out.2.2.1 rfl] at this;simpa using this
          refine ⟨by have:=HC.out.1; omega,fun m hm=>?_⟩
          rcases hm2 m hm with rfl | h2
          ·obtain ⟨_,_,n,_,hg⟩:=HEAR.out.good;exact ⟨HPL.out,Xc3 HQ.out hg.rt.2.2.2.1⟩
          ·have h3:m.k ∈ ts:=by rw[←HMS.out]; exact List.mem_map.2 ⟨m,h2,rfl⟩
           exact ⟨HLS.out _ h3,HHB.out _ h3⟩
         have HV0b:=Lib.hid (Xft HV0.out hf12 (hfr _ (by have:=HZ8.out; omega)))
         have HV2b:=Lib.hid (Xft HV2.out hf12 (hfr _ (by have:=HZ8.out; omega)))
         have HV3b:=Lib.hid (Xft HV3.out hf12 (hfr _ HZ8.out));have HK12:Hid (Bk w12 g10 118 #[.slice Aq p.q.length cq,.slice Ac p.c.length cc,.slice none 0 0,v']):=hk12;have HR12:=Lib.hid hr12;have HH12:=Lib.hid hh12;have HB12:Hid (Below n0 w w12):=HB11.out.trans (hbw.mono (by have:=HZ8.out; omega))
         clear hm1 hm2 hk12 hr12 hh12 hf12 hb12 hob hfr hbw hpost HRW11 HHT11 HPM11 HV0 HV1 HV2 HV3 HK11 HB11 HSE;obtain ⟨A9,c9,rfl,hlg⟩:=Xgp (HL.out _ HB12.out).p HR12.out HH12.out (Fr.below (Below.refl _ _)) (fun _ _ h=>h) (fun _ _ _ _ h=>h) HML2.out.1 (fun m hm=>by have:=(HML2.out.2 m hm).1; omega)
         have HLEN:Hid (ms'.length=(setT ts ⟨Xad ts,q,pm,1,0⟩).length):=by show _=_; rw[←HM1.out,List.length_map]
         have HLG:=Lib.hid hlg;have HTC:=Xbt Aq cq Ac cc p A9 c9 (ms'.map (·.k)) w12 hlg HOK.out.1 (fun k hk=>by obtain ⟨m,hm,rfl⟩:=List.mem_map.1 hk; exact (HML2.out.2 m hm).2)
         rw[List.length_map] at HTC;have HTC:=Lib.hid HTC;clear hlg;have a0:=HK12.out.c4;go_wp2_with fail;clear a0;refine HTC.out.mono ?_;rintro e w13 ⟨⟨p',b2,h2⟩,B2,cb2,H2,ch2,hR2,rfl,-,-,hb13⟩;have hpe:p=p':=hR2.1.symm;subst hpe
         dsimp only
         have HR2:=Lib.hid hR2;clear hR2;have HFU:=Lib.hid (Xnn Aq cq Ac cc B2 cb2 H2 ch2 ⟨p,b2,h2⟩ w13);go_wp2_with fail;refine HFU.out.mono ?_;rintro e w14 ⟨rfl,hb14⟩;have hb14:=Xa hb13 hb14;have HW2:=Lib.hid (HV2b.out.below hb14 HV2b.out.lt);have HW3:=Lib.hid (HV3b.out.below hb14 HV3b.out.lt);have HK14:=Lib.hid (HK12.out.below hb14 HK12.out.lt);have HR14:=Lib.hid (Xa6 HR12.out hb14);have HH14:Hid (∀m ∈ ms',HpAt w14 m.A m.c m.k.hops):=fun m hm=>(HH12.out m hm).below hb14;have HB14:Hid (Below n0 w w14):=HB12.out.trans (hb14.mono (by have:=HV3b.out.lt; omega))
         clear hb13 hb14 HV0b HV2b HV3b HK12 HR12 HH12 HB12 HTC HFU HLG;cases hfl:Xi5 ⟨p,b2,h2⟩ with
         | true =>
           have HNF:Hid (¬ Xf3 ⟨p,b2,h2⟩):=fun h=>by
            unfold Xi5 at hfl;simp only[Bool.or_eq_true,decide_eq_true_eq] at hfl;have h1:b2.length≤512:=h.1;have h3:h2.length≤512:=h.2;rcases hfl with h4 | h4 <;> omega
           clear hfl;go_wp2_with fail;refine (Xem 4 w14).mono ?_;rintro e wf ⟨rfl,hbf⟩;have HF2:=Lib.hid (HW2.out.below hbf HW2.out.lt);have HF3:=Lib.hid (HW3.out.below hbf HW3.out.lt);have HBF:Hid (Below n0 w wf):=HB14.out.trans (hbf.mono (by have:=HW2.out.lt; omega))
           clear hbf;obtain ⟨X,Y,hX,hY,hxk,hyg,hyk,hbe,hfr, -⟩:=Xja HF2.out HF3.out (by omega) (.slice none 0 0) (.slice none 0 0) (.slice none 0 0) (.slice none 0 0) (.bool false) (.int .i64 0) (.slice none 0 0) (.slice none 0 0) (.slice none 0 0)
           have r0:=HF2.out.c4;have f0:=HF2.out.f4;have s0:=hxk.c5;obtain ⟨e0,e1,e2,e3,e4⟩:=hxk.f5;have HBE:Hid (Below n0 w Y):=hbe _ _ HBF.out (by omega)
           have HFR:=Lib.hid hfr;have p0:=hyg.c4;have o0:=hyk.c5;clear hxk hyg hyk hbe hfr;go_wp2_with fail;exact bodyPost_ret (v:=.tuple #[.agg #[.slice none 0 0,.slice none 0 0,.slice none 0 0,.slice none 0 0],.agg #[.bool false,.int .i64 0,.slice none 0 0,.slice none 0 0,.slice none 0 0],.int .i64 4]) (by simp[results,Tryz.results20,go_sem,p0,o0]) rfl ⟨by rw[hn]; exact HBE.out,.inl ⟨_,(by decide),.inr ⟨_,_,HR.out,HEAR.out,_,HM1.out ▸ HR2.out,HNF.out⟩,rfl⟩⟩
         | false =>
           have HNF:Hid (Xf3 ⟨p,b2,h2⟩):=by
            unfold Xi5 at hfl;simp only[Bool.or_eq_false_iff,decide_eq_false_iff_not,Nat.not_lt] at hfl;exact hfl
           clear hfl;have a0:=HK14.out.c4;have hne:∀j cs mk,w14.heap[j]? = some (.cells cs 41 mk) → ¬ (j=n0+1+1∨j=n0+1+1+1):=fun j cs mk hj=>by
            rintro (e | e)
            ·exact Xdx HW2.out (by decide) hj e
            ·exact Xdx HW3.out (by decide) hj e
           have hrw:∀r,(Value.slice A9 ms'.length c9).ownBlock=some r → ¬ (r=n0+1+1∨r=n0+1+1+1):=fun r e=>by
            have:=(HR14.out.lt r e).1;have:=HZ8.out;omega
           have HNE:=Lib.hid hne;have HRWN:=Lib.hid hrw;clear hne hrw;obtain ⟨X,Y,hX,hY,hxk,hyg,hyk,hbe,hfr, -⟩:=Xja HW2.out HW3.out (by omega) (.slice Aq p.q.length cq) (.slice Ac p.c.length cc) (.slice none 0 0) (.slice A9 ms'.length c9) (.bool true) (.int .i64 (Xad ts)) (.slice none 0 0) (.slice none 0 0) (.slice none 0 0)
           have r0:=HW2.out.c4;have f0:=HW2.out.f4;have s0:=hxk.c5;obtain ⟨e0,e1,e2,e3,e4⟩:=hxk.f5;have HBE:Hid (Below n0 w Y):=hbe _ _ HB14.out (by omega)
           have HFR:=Lib.hid hfr;have p0:=hyg.c4;have o0:=hyk.c5;clear hxk hyg hyk hbe hfr;go_wp2_with fail;have hlg:LgAt Y Aq cq Ac cc p A9 c9 (setT ts ⟨Xad ts,q,pm,1,0⟩):=by
            obtain ⟨A8,c8,e8,hlg⟩:=Xgp (HL.out _ HBE.out).p HR14.out HH14.out HFR.out HRWN.out HNE.out HML2.out.1 (fun m hm=>by have:=(HML2.out.2 m hm).1; omega)
            cases e8
            rwa [HM1.out] at hlg
           exact bodyPost_ret (v:=.tuple #[.agg (lgA Aq cq Ac cc p A9 ms'.length c9),.agg #[.bool true,.int .i64 (Xad ts),.slice none 0 0,.slice none 0 0,.slice none 0 0],.int .i64 0]) (by simp[results,Tryz.results20,go_sem,p0,o0]) rfl ⟨by rw[hn]; exact HBE.out,.inr ⟨⟨setT ts ⟨Xad ts,q,pm,1,0⟩,true,Xad ts, [], []⟩,A9,c9,none,0,none,0,none,0,0,⟨HOK.out,HQ.out,HNW.out,HC.out⟩,.plain HR.out HEAR.out ⟨_,HM1.out ▸ HR2.out,HNF.out⟩,hlg,.inl ⟨rfl,fun a e=>by have h1:=(HR14.out.lt a.block (by rw[e]; rfl)).1; have:=HZ8.out; omega⟩,by rw[HLEN.out]; rfl⟩⟩
        ·have HEAR:=Lib.hid hear;have d0:(ex == 0)=false:=by simpa using hex
         clear hear hex hpn HCASE;have HBA:=Lib.hid (Xn0 Aq cq Ac cc B cb H ch ⟨p,b,h⟩ q w8 HTA8.out);have c0:=HS5.out.c4;obtain ⟨b0,b1,b2,b3,b4,b5,b6⟩:=HS1.out.c7;go_wp2_with fail;clear c0 b0 b1 b2 b3 b4 b5 b6;refine HBA.out.mono ?_;rintro e w9 ⟨hb9,Ab,nb,cb',z,rfl⟩;have HU0:=Lib.hid (HS0.out.below hb9 HS0.out.lt);have HU2:=Lib.hid (HS2.out.below hb9 HS2.out.lt);have HU3:=Lib.hid (HS3.out.below hb9 HS3.out.lt);have HB9:Hid (Below n0 w w9):=HB8.out.trans (hb9.mono (by have:=HS3.out.lt; omega))
         clear hb9 HS0 HS1 HS2 HS3 HS5 HB8 HBA;have a0:=HU0.out.c4;obtain ⟨X,Y,hX,hY,hxk,hyg,hyk,hbe,hfr, -⟩:=Xja HU2.out HU3.out (by omega) (.slice Aq p.q.length cq) (.slice Ac p.c.length cc) (.slice none 0 0) (.slice A ts.length ct) (.bool false) (.int .i64 0) (.slice none 0 0) (.slice none 0 0) (.slice Ab nb cb')
         have r0:=HU2.out.c4;have f0:=HU2.out.f4;have s0:=hxk.c5;obtain ⟨e0,e1,e2,e3,e4⟩:=hxk.f5;have HBE:Hid (Below n0 w Y):=hbe _ _ HB9.out (by omega)
         have HFR:=Lib.hid hfr;have p0:=hyg.c4;have o0:=hyk.c5;clear hxk hyg hyk hbe hfr;go_wp2_with fail;exact bodyPost_ret (v:=.tuple #[.agg (lgA Aq cq Ac cc p A ts.length ct),.agg #[.bool false,.int .i64 0,.slice none 0 0,.slice none 0 0,.slice Ab nb cb'],.int .i64 0]) (by simp[results,Tryz.results20,go_sem,p0,o0]) rfl ⟨by rw[hn]; exact HBE.out,.inr ⟨⟨ts,false,0, [], []⟩,A,ct,none,0,none,0,Ab,nb,cb',⟨HOK.out,HQ.out,HNW.out,HC.out⟩,.refused HR.out HEAR.out,HL.out _ HBE.out,.inr ⟨rfl,rfl⟩,rfl⟩⟩
  ·have d0:(x == 0)=false:=by simpa using hz
   have HNO:Hid (¬ RqOK p q):=fun h=>hz (hx.2 h);have HZ:=Lib.hid hz;clear hz hx;go_wp2_with fail;refine (Xem x w2).mono ?_;rintro e wf ⟨rfl,hbf⟩;have HF2:=Lib.hid (HN2.out.below hbf HN2.out.lt);have HF3:=Lib.hid (HN3.out.below hbf HN3.out.lt);have HBF:Hid (Below n0 w wf):=HB2.out.trans (hbf.mono (by have:=HN2.out.lt; omega))
   clear hbf;obtain ⟨X,Y,hX,hY,hxk,hyg,hyk,hbe,hfr, -⟩:=Xja HF2.out HF3.out (by omega) (.slice none 0 0) (.slice none 0 0) (.slice none 0 0) (.slice none 0 0) (.bool false) (.int .i64 0) (.slice none 0 0) (.slice none 0 0) (.slice none 0 0)
   have r0:=HF2.out.c4;have f0:=HF2.out.f4;have s0:=hxk.c5;obtain ⟨e0,e1,e2,e3,e4⟩:=hxk.f5;have HBE:Hid (Below n0 w Y):=hbe _ _ HBF.out (by omega)
   have HFR:=Lib.hid hfr;have p0:=hyg.c4;have o0:=hyk.c5;clear hxk hyg hyk hbe hfr;go_wp2_with fail;exact bodyPost_ret (v:=.tuple #[.agg #[.slice none 0 0,.slice none 0 0,.slice none 0 0,.slice none 0 0],.agg #[.bool false,.int .i64 0,.slice none 0 0,.slice none 0 0,.slice none 0 0],.int .i64 x]) (by simp[results,Tryz.results20,go_sem,p0,o0]) rfl ⟨by rw[hn]; exact HBE.out,.inl ⟨_,HZ.out,.inl fun h=>HNO.out h.2.1,rfl⟩⟩
 ·have d0:(x == 0)=false:=by simpa using hz
  have HNO:Hid (¬ LgOK p ts):=fun h=>hz (hx.2 h);clear hz hx;go_wp2_with fail;refine (Xem 1 w1).mono ?_;rintro e wf ⟨rfl,hbf⟩;have HF2:=Lib.hid (HM2.out.below hbf HM2.out.lt);have HF3:=Lib.hid (HM3.out.below hbf HM3.out.lt);have HBF:Hid (Below n0 w wf):=HB1.out.trans (hbf.mono (by have:=HM2.out.lt; omega))
  clear hbf;obtain ⟨X,Y,hX,hY,hxk,hyg,hyk,hbe,hfr, -⟩:=Xja HF2.out HF3.out (by omega) (.slice none 0 0) (.slice none 0 0) (.slice none 0 0) (.slice none 0 0) (.bool false) (.int .i64 0) (.slice none 0 0) (.slice none 0 0) (.slice none 0 0)
  have r0:=HF2.out.c4;have f0:=HF2.out.f4;have s0:=hxk.c5;obtain ⟨e0,e1,e2,e3,e4⟩:=hxk.f5;have HBE:Hid (Below n0 w Y):=hbe _ _ HBF.out (by omega)
  have HFR:=Lib.hid hfr;have p0:=hyg.c4;have o0:=hyk.c5;clear hxk hyg hyk hbe hfr;go_wp2_with fail;exact bodyPost_ret (v:=.tuple #[.agg #[.slice none 0 0,.slice none 0 0,.slice none 0 0,.slice none 0 0],.agg #[.bool false,.int .i64 0,.slice none 0 0,.slice none 0 0,.slice none 0 0],.int .i64 1]) (by simp[results,Tryz.results20,go_sem,p0,o0]) rfl ⟨by rw[hn]; exact HBE.out,.inl ⟨_,(by decide),.inl fun h=>HNO.out h.1,rfl⟩⟩
end Go.Proofs.YtebkgbmijocdjaaGreat.Tp
