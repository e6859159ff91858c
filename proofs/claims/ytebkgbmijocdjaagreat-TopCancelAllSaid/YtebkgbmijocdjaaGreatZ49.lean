/- A part of the proof for the ledger. No condition beyond those that each theorem states. -/
import Derived.Test.YtebkgbmijocdjaaGreatZ48
set_option maxHeartbeats 32000000
set_option maxRecDepth 100000
set_option linter.unusedVariables false
set_option linter.unusedSimpArgs false
namespace Go.Proofs.YtebkgbmijocdjaaGreat.Tp
open Go Go.RowKit
def rqE:Enc Rq:=⟨7,rqL,fun _=>rfl,fun q v hv=>by
 simp only[rqL,List.mem_cons,List.not_mem_nil,or_false] at hv;rcases hv with rfl | rfl | rfl | rfl | rfl | rfl | rfl <;> rfl⟩
theorem rgRq {w:World}{b o i:Nat}{x:Rq}(h:w.rangeAt b (o+i * rqE.k) (rqE.f x)):w.cell? ⟨b,o+i * 7,none⟩=some (.int .i64 x.src)∧w.cell? ⟨b,o+i * 7+1,none⟩=some (.int .i64 x.dst)∧w.cell? ⟨b,o+i * 7+2,none⟩=some (.int .i64 x.size)∧w.cell? ⟨b,o+i * 7+3,none⟩=some (.int .i64 x.ready)∧w.cell? ⟨b,o+i * 7+4,none⟩=some (.int .i64 x.dead)∧w.cell? ⟨b,o+i * 7+5,none⟩=some (.int .i64 x.prio)∧w.cell? ⟨b,o+i * 7+6,none⟩=some (.bool x.cust):=⟨h 0 _ rfl,h 1 _ rfl,h 2 _ rfl,h 3 _ rfl,h 4 _ rfl,h 5 _ rfl,h 6 _ rfl⟩
def New2 (p:Pln)(Aq:Option Addr)(cq:Nat)(Ac:Option Addr)(cc:Nat)(w:World)(e:Ending)(w':World):Prop:=Below w.heap.size w w' ∧ ((Xbe p∧e = .returned (.tuple #[.agg (lgA Aq cq Ac cc p none 0 0),.int .i64 0])) ∨ ∃x:Int,x ≠ 0∧e = .returned (.tuple #[.agg #[.slice none 0 0,.slice none 0 0,.slice none 0 0,.slice none 0 0],.int .i64 x]))
theorem Xg1 (Aq:Option Addr)(cq:Nat)(Ac:Option Addr)(cc:Nat)(p:Pln)(w:World)(hp:Xas w Aq cq Ac cc p):Calls Tryz.prog 18 #[.agg (plA Aq cq Ac cc p)] w (New2 p Aq cq Ac cc w):=by
 obtain ⟨W,n0,hW,hn,HSZ,HB,HK0,HK1⟩:=box2 w 25 (plA Aq cq Ac cc p) 53 #[.slice none 0 0,.slice none 0 0,.slice none 0 0,.slice none 0 0];have HCK:=Lib.hid (Xb2 Aq cq Ac cc p W (hp.below (by rw[hn]; exact HB.out)))
 have a0:=HK0.out.c2;go_enter Tryz.func18,Tryz.ntmps18;go_wp2_with fail;clear a0 hW;refine HCK.out.mono ?_;rintro e w1 ⟨x,rfl,hx,hb1⟩;have HM0:=Lib.hid (HK0.out.below hb1 HK0.out.lt);have HM1:=Lib.hid (HK1.out.below hb1 HK1.out.lt);have HB1:Hid (Below n0 w w1):=HB.out.trans (hb1.mono (by have:=HSZ.out; omega))
 have HZ:Hid (n0+1<w1.heap.size):=HM1.out.lt;clear hb1 HK0 HK1 HB HCK;have r0:=HM1.out.c4;have f0:=HM1.out.f4
 by_cases hz:x=0
 ·have HOK:=Lib.hid (hx.1 hz);subst hz;clear hx;obtain ⟨X,hX,hx,hg⟩:=HM1.out.p4 (.slice Aq p.q.length cq) (.slice Ac p.c.length cc) (.slice none 0 0) (.slice none 0 0);have HBE:Hid (Below n0 w X):=below_grown HB1.out hg (by omega) (by have:=HZ.out; omega)
  have p0:=hx.c4;have a0:=HM0.out.c2;clear hx hg;go_wp2_with fail;exact bodyPost_ret (v:=.tuple #[.agg (lgA Aq cq Ac cc p none 0 0),.int .i64 0]) (by simp[results,Tryz.results18,go_sem,p0]) rfl ⟨by rw[hn]; exact HBE.out,.inl ⟨HOK.out,rfl⟩⟩
 ·have d0:(x == 0)=false:=by simpa using hz
  have HX:=Lib.hid hz;clear hz hx;obtain ⟨X,hX,hx,hg⟩:=HM1.out.p4 (.slice none 0 0) (.slice none 0 0) (.slice none 0 0) (.slice none 0 0);have HBE:Hid (Below n0 w X):=below_grown HB1.out hg (by omega) (by have:=HZ.out; omega)
  have p0:=hx.c4;clear hx hg;go_wp2_with fail;exact bodyPost_ret (v:=.tuple #[.agg #[.slice none 0 0,.slice none 0 0,.slice none 0 0,.slice none 0 0],.int .i64 x]) (by simp[results,Tryz.results18,go_sem,p0]) rfl ⟨by rw[hn]; exact HBE.out,.inr ⟨_,HX.out,rfl⟩⟩
theorem Xjz {α:Type}{le:α → α → Prop}(anti:∀a b,le a b→le b a→a=b):∀ {l m:List α},l.Perm m→l.Pairwise le→m.Pairwise le→l=m
 | [],m,h,_,_=>(List.Perm.nil_eq h).symm ▸ rfl
 | a :: l, [],h,_,_=>by simpa using h.length_eq
 | a :: l,b :: m,h,h1,h2=>by
   rw[List.pairwise_cons] at h1 h2;have hab:a=b:=by
    have ha:a ∈ b :: m:=h.mem_iff.1 (by simp)
    have hb:b ∈ a :: l:=h.mem_iff.2 (by simp)
    rcases List.mem_cons.1 ha with e | ha
    ·exact e
    ·rcases List.mem_cons.1 hb with e | hb
     ·exact e.symm
     ·exact anti a b (h1.1 b hb) (h2.1 a ha)
   subst hab;rw[Xjz anti (List.Perm.cons_inv h) h1.2 h2.2]
theorem Xtp {a b:Hld}(h1:hdLe a b)(h2:hdLe b a):a=b:=by
 obtain ⟨a1,a2,a3,a4,a5⟩:=a;obtain ⟨b1,b2,b3,b4,b5⟩:=b;unfold hdLe Xon at h1 h2;simp only[cmpL] at h1 h2
 (repeat' split at h1) <;> (repeat' split at h2) <;> first | (exfalso; omega) | (simp only[Hld.mk.injEq]; omega)
theorem Xsr {α:Type}{R:α → α → Prop}:∀ {l:List α},l.Pairwise R→l.Pairwise fun a b=>a ∈ l∧b ∈ l∧R a b
 | [],_=>List.Pairwise.nil
 | a :: l,h=>by
   rw[List.pairwise_cons] at h ⊢;refine ⟨fun b hb=>⟨by simp,by simp[hb],h.1 b hb⟩,(Xsr h.2).imp fun {x y} hxy=>⟨by simp[hxy.1],by simp[hxy.2.1],hxy.2.2⟩⟩
theorem Xj0 {p:Pln}{ts:List Tk}{t t':Tbl}(h:TblR p ts t)(h':TblR p ts t')(hok:LgOK p ts):t=t':=by
 obtain ⟨b1,b2,b3⟩:=hok.2.2.2.2.1;have hap:∀ {u:Tbl},TblR p ts u→u.b.Pairwise fun a b=>a=b∨bkLt a b:=fun {u} hu=>by
  have h5:=hu.b.symm.pairwise b3 (fun {a b} h=>h.symm);refine (h5.and hu.bs).imp fun {a b} hab=>?_;rcases hab.1 with h | h
  ·exact .inr h
  ·exfalso
   have:ltOf bkC b a=true:=Xlq.2 (by unfold bkLt at h; omega)
   rw[hab.2] at this;cases this
 have hb:t.b=t'.b:=by
  have hm:∀ {u:Tbl},TblR p ts u → ∀a ∈ u.b,a.beg<a.fin:=fun {u} hu a ha=>by
   obtain ⟨_,_,c,_,_,h,_⟩:=b2 a (hu.b.mem_iff.1 ha);exact h
  have hq:∀ {u:Tbl},TblR p ts u→u.b.Pairwise fun a b=>a.beg<a.fin∧b.beg<b.fin∧(a=b∨bkLt a b):=fun {u} hu=>(Xsr (hap hu)).imp fun {a b} hab=>⟨hm hu a hab.1,hm hu b hab.2.1,hab.2.2⟩;refine Xjz (fun a b hab hba=>?_) (h.b.trans h'.b.symm) (hq h) (hq h');rcases hab.2.2 with e | e
  ·exact e
  ·rcases hba.2.2 with e2 | e2
   ·exact e2.symm
   ·exfalso
    unfold bkLt at e e2;omega
 have hh:t.h=t'.h:=Xjz (fun a b=>Xtp) (h.h.trans h'.h.symm) (h.hs.imp Xjv) (h'.hs.imp Xjv);obtain ⟨tp,tb,th⟩:=t;obtain ⟨tp',tb',th'⟩:=t';have e1:tp=p:=h.pl;have e2:tp' = p:=h'.pl
 dsimp only at hb hh
 rw[e1,e2,hb,hh]
theorem Xpa {p:Pln}{ts:List Tk}{t:Tbl}(h:TblR p ts t)(hok:LgOK p ts):Xb5 t:=(Xn9 h hok.1).2 ⟨hok.2.2.2.2.1,hok.2.2.2.2.2⟩
theorem Xkt {ts:List Tk}(hn:Xbh ts){k:Tk}(hk:k.num=Xad ts):Xbg (setT ts k) k.num=some k:=by
 rw[Xb hn hk];unfold Xbg;rw[List.find?_append];have:ts.find? (fun x=>decide (x.num=k.num))=none:=by
  rw[List.find?_eq_none];intro x hx;have:=(Xe3 hn).2 x hx;simp;omega
 rw[this];simp
theorem Xs6 {V:List Int}{ts ts':List Tk}(h:Al (Xbv V) ts ts'){k:Tk}(hk:Xbg ts k.num=some k)(hv:k.num ∉ V):Xbg ts' k.num=some k:=by
 obtain ⟨hl,hs⟩:=h;unfold Xbg at hk ⊢;rw[List.find?_eq_some_iff_getElem] at hk ⊢;obtain ⟨h1,i,hi,e1,e2⟩:=hk;refine ⟨h1,i,by omega,?_,fun j hj=>?_⟩
 ·have h3:=hs i _ _ (List.getElem?_eq_getElem hi) (List.getElem?_eq_getElem (by omega))
  exact Classical.byContradiction fun hc=>absurd (h3.2.2 fun e=>hc (e.trans e1)) (by rw[e1]; exact hv)
 ·have h3:=hs j _ _ (List.getElem?_eq_getElem (by omega)) (List.getElem?_eq_getElem (by omega))
  have h4:=e2 j hj;rw[h3.1];exact h4
theorem Xnc {p:Pln}{now:Int}{ts ts':List Tk}{n:Int}{vs:List Int}{mv:Bool}(h:Xn5 p now ts n vs ts' mv):Al (Xbv [n]) ts ts':=by
 obtain ⟨k,hf,nd,tm,hpos,t,hx,h⟩:=h;obtain ⟨hk,pre,post,rfl,hpre⟩:=Xau hf;have h1:setT (pre ++ k :: post) (Xao now tm k)=pre ++ Xao now tm k :: post:=Xcq rfl (fun x hx=>by have:=hpre x hx; show x.num ≠ k.num; rw[hk]; exact this)
 rw[h1] at h;have h2:∀k':Tk,k'.num=k.num→setT (pre ++ Xao now tm k :: post) k' = pre ++ k' :: post:=fun k' e=>Xcq (by rw[e]; rfl) (fun x hx=>by rw[e,hk]; exact hpre x hx)
 rcases h with ⟨_,m,he,rfl⟩ | ⟨_,_,hc,rfl⟩
 ·rw[h2 (resF now m k) rfl];exact Al.one (Xbv.refl _) pre post ⟨rfl,rfl,fun _=>by rw[hk]; simp⟩
 ·rw[h2 (Xao now now k) rfl];exact Al.one (Xbv.refl _) pre post ⟨rfl,rfl,fun _=>by rw[hk]; simp⟩
theorem Xfg {p:Pln}{now:Int}{ts ts':List Tk}{vs M D:List Int}(h:Xd0 p now ts vs M D ts'):Al (Xbv vs) ts ts':=by
 induction h with
 | nil ts=>exact Al.refl (Xbv.refl _) ts
 | moved h1 _ ih=>exact Al.trans (fun x y z h h' => Xbv.trans (h.mono (by simp)) (h'.mono (fun n hn=>List.mem_cons_of_mem _ hn))) (Xnc h1) ih
 | dropped h1 _ ih=>exact Al.trans (fun x y z h h' => Xbv.trans (h.mono (by simp)) (h'.mono (fun n hn=>List.mem_cons_of_mem _ hn))) (Xnc h1) ih
theorem Xr3 {p:Pln}{ts:List Tk}{q:Rq}{now:Int}{o:AccO}{t:Tbl}(h:AccR p ts q now o)(hok:LgOK p ts)(hq:RqOK p q)(hm:Xad ts≤1152921504606846976)(ht:TblR p ts t) :
  (o.acc=false∧Xdi t q=none)∨(o.acc=true ∧ ∃k,Xbg o.ts o.num=some k∧k.hops ≠ [] ∧ (Xdi t q=some (Xac k.hops)∨q.prio=2 ∧ ∀n,Xdi t q=some n→Xac k.hops≤n)):=by
 have hn:=hok.2.2.1;have hto:=Xpa ht hok;cases h with
 | refused h1 h2 =>
   obtain rfl:=Xj0 ht h1 hok;refine .inl ⟨rfl,?_⟩;rcases h2 with h2 | h2
   ·exact absurd ⟨hto,by rw[h1.pl]; exact hq⟩ h2
   ·exact h2
 | plain h1 h2 h3 =>
   rename_i t0 m
   obtain rfl:=Xj0 ht h1 hok;obtain ⟨g1,g2,n,g3,g4⟩:=h2.good;refine .inr ⟨rfl,_,Xkt hn rfl,g1,.inl ?_⟩;rw[g3, ←g4.last]
 | exch hp h1 h2 h3 h4 h5 h6 h7 =>
   rename_i t0 t2 pl m M D ts'
   obtain rfl:=Xj0 ht h1 hok;obtain ⟨g1,g2,n2,g3,g4⟩:=h4.good;have hv:Xad ts ∉ vicF p now m (setT ts ⟨Xad ts,q,m,1,0⟩):=fun hv=>by
    rw[Xix hn hp] at hv;obtain ⟨k,hk,e,_⟩:=Xgw hv;have:=(Xe3 hn).2 k hk;omega
   have al:Al (Xbv (vicF p now m (setT ts ⟨Xad ts,q,m,1,0⟩))) (setT ts ⟨Xad ts,q,m,1,0⟩) ts':=Xfg h6;refine .inr ⟨rfl,_,Xs6 (k:=⟨Xad ts,q,m,1,0⟩) al (Xkt hn rfl) hv,g1,.inr ⟨hp,fun n hb=>?_⟩⟩;cases pl with
   | none =>
     exfalso
     rcases h2 with h2 | h2
     ·exact h2 ⟨hto,by rw[h1.pl]; exact hq⟩
     ·rw[h2] at hb; cases hb
   | some m0 =>
     have:=h5 m0 rfl;obtain ⟨_,_,n3,b3,gg⟩:=h2.good;rw[hb] at b3;cases b3;have:=gg.last;show Xac m≤n;omega
theorem Xng {p:Pln}(hp:Xbe p):LgOK p []:=⟨hp,by simp,⟨by simp,List.Pairwise.nil⟩,by simp,⟨by simp[bksA],by simp[bksA],by simp[bksA]⟩,⟨by simp[hdsA],by simp[hdsA],fun n q hq tm=>(hp.2.1 q (List.mem_of_getElem? hq)).1⟩⟩
theorem Xtu {p:Pln}{ts:List Tk}{q:Rq}{now:Int}{o:AccO}(h:AccR p ts q now o)(hn:Xbh ts):o.ts.length≤ts.length+1:=by
 cases h with
 | refused _ _=>exact Nat.le_succ _
 | plain _ _ _=>show (setT _ _).length≤_; rw[Xb hn rfl]; simp
 | exch h0 h1 h2 h3 h4 h5 h6 h7 =>
   rename_i t t2 pl m M D ts'
   have:=(Xfg h6).1;rw[Xb hn rfl] at this;show ts'.length≤_;simp at this;omega
theorem Xmk:∀ {l:List Hop},l ≠ [] → ∃(k:Nat)(y:Hop),l.length=k+1∧l[k]? = some y∧y.arr=Xac l
 | [],h=>absurd rfl h
 | [a],_=>⟨0,a,rfl,rfl,rfl⟩
 | a :: b :: l,_=>by
   obtain ⟨k,y,h1,h2,h3⟩:=Xmk (l:=b :: l) (by simp)
   exact ⟨k+1,y,by rw[List.length_cons,h1],by simpa using h2,h3⟩
theorem LgAt.store {W X:World}{g:Nat}{Aq Ac A:Option Addr}{cq cc c:Nat}{p:Pln}{ts:List Tk}{A0 A1 A2 A3:Option Addr}{n0 n1 n2 n3 c0 c1 c2 c3:Nat}(h:LgAt W Aq cq Ac cc p A c ts)(hp:Xas X Aq cq Ac cc p)(hb:Bk W g 53 #[.slice A0 n0 c0,.slice A1 n1 c1,.slice A2 n2 c2,.slice A3 n3 c3])(hf:Fr (fun j=>some g=some j) W X):LgAt X Aq cq Ac cc p A c ts:=by
 obtain ⟨_,⟨ms,hms,hs,hh⟩,tl,tm,hm⟩:=h;refine ⟨hp,⟨ms,hms,?_,fun m hm=>Xep (hh m hm) hf (fun j cs mk hj e=>Xdx hb (by decide) hj (Option.some.inj e).symm)⟩,tl,tm,hm⟩
 cases ms with
 | nil=>exact SlAt.nil _ _
 | cons m ms =>
   obtain ⟨b,off,rfl,hr⟩:=hs.one (by simp)
   refine Xj5 hs hf (fun a ha e=>?_);cases ha;obtain rfl:g=b:=Option.some.inj e;have h1:=hr 0 m rfl 0 _ rfl;rw[hb.cell] at h1
   match hi:off+0 * tmE.k+0,h1 with
   | 0,h1=>cases h1
   | 1,h1=>cases h1
   | 2,h1=>cases h1
   | 3,h1=>cases h1
   | i+4,h1=>simp at h1
theorem Xll (Aq:Option Addr)(cq:Nat)(Ac:Option Addr)(cc:Nat)(p:Pln)(R:Option Addr)(cR:Nat)(rs:List Rq)(w:World)(hp:Xas w Aq cq Ac cc p)(hr:SlAt rqE w R rs) :
  Calls Tryz.prog 5 #[.agg (plA Aq cq Ac cc p),.slice R rs.length cR] w fun e w' => e = .returned (.bool true)∧Below w.heap.size w w':=by
 obtain ⟨W,n0,hW,hn,HSZ,HB,HK0⟩:=box1 w 25 (plA Aq cq Ac cc p);have HP:Hid (∀w',Below n0 w w' → Xas w' Aq cq Ac cc p):=fun w' hb=>hp.below (by rw[hn]; exact hb)
 have HRS:Hid (∀w',Below n0 w w' → SlAt rqE w' R rs):=fun w' hb=>hr.below (by rw[hn]; exact hb)
 have HG:=Lib.hid (Xf1 Aq cq Ac cc p R rs.length cR W);have a0:=HK0.out.c2;clear hp hr;go_enter Tryz.func5,Tryz.ntmps5;go_wp2_with fail;clear a0 hW;refine HG.out.mono ?_;rintro e w1 ⟨b,rfl,hb5,hb1⟩;have HM0:=Lib.hid (HK0.out.below hb1 HK0.out.lt);have HB1:Hid (Below n0 w w1):=HB.out.trans (hb1.mono (by have:=HSZ.out; omega))
 have HN1:Hid (n0<w1.heap.size):=HM0.out.lt;clear hb1 HK0 HB HG;cases b with
 | true =>
   clear hb5;go_wp2_with fail;refine (Xb8 w1).mono ?_;rintro e w2 ⟨rfl,hb2⟩;have HB2:Hid (Below n0 w w2):=HB1.out.trans (hb2.mono (by have:=HN1.out; omega))
   clear hb2;go_wp2;go_ret;exact ⟨rfl,by rw[hn]; exact HB2.out⟩
 | false =>
   have HLEN:Hid (rs.length≤5):=hb5 rfl;have HNW:=Lib.hid (Xg1 Aq cq Ac cc p w1 (HP.out _ HB1.out));have a0:=HM0.out.c2;clear hb5;go_wp2_with fail;clear a0;refine HNW.out.mono ?_;rintro e w2 ⟨hb2,hpost⟩;have HB2:Hid (Below n0 w w2):=HB1.out.trans (hb2.mono (by have:=HN1.out; omega))
   have HN2:Hid (n0<w2.heap.size):=by have:=hb2.size; have:=HN1.out; show _<_; omega
   clear hb2 HNW HB1 HN1 HM0;rcases hpost with ⟨hpok,rfl⟩ | ⟨x,hx,rfl⟩
   ·have HPOK:=Lib.hid hpok;clear hpok;obtain ⟨W3,g3,hW3,hg3,HSZ3,HA3,HK3⟩:=box1 w2 53 (lgA Aq cq Ac cc p none 0 0);have HW3:=Lib.hid hW3;have HB3:Hid (Below n0 w W3):=HB2.out.trans (HA3.out.mono (by have:=HN2.out; omega))
    have HG3:Hid (n0≤g3):=by have:=HN2.out; show _≤_; omega
    have HLG3:Hid (LgAt W3 Aq cq Ac cc p none 0 []):=⟨HP.out _ HB3.out,Xf2.nil _ _,Nat.le_refl _,by simp,by simp⟩
    clear hW3 HB2 HN2 HA3;go_wp2;rw[HW3.out];clear hg3 HW3;go_loopw [8,9,10,11,12,13,14,15,16,17,32] (fun _ _ _ _ _ _ _ _ _ _ i wr => ∃(n:Nat) (ts:List Tk) (A:Option Addr) (ct:Nat),n≤rs.length∧i = .int .i64 n∧ts.length≤n∧LgOK p ts∧Zs p ts∧Below n0 w wr∧Bk wr g3 53 (lgA Aq cq Ac cc p A ts.length ct)∧LgAt wr Aq cq Ac cc p A ct ts) (fun _ _ _ _ _ _ _ _ _ _ i _=>rs.length - (intOf i).toNat)
    case atStart=>exact ⟨0, [],none,0,Nat.zero_le _,rfl,Nat.zero_le _,Xng HPOK.out,fun k hk=>by simp at hk,HB3.out,HK3.out,HLG3.out⟩
    case round =>
     obtain ⟨n,ts,A,ct,hle,rfl,htn,hok,hz,hb,hk,hl⟩:=hrel;have HTN:Hid (ts.length≤n):=htn;have HOK:=Lib.hid hok;have HZ:=Lib.hid hz;have HBR:=Lib.hid hb;have HKR:=Lib.hid hk;have HLR:=Lib.hid hl;clear htn hok hz hb hk hl HB3 HK3 HLG3
     by_cases hlt:n<rs.length
     ·obtain ⟨bR,oR,rfl,hrow⟩:=(HRS.out wr HBR.out).one (by omega)
      obtain ⟨r,hr⟩:∃r,rs[n]? = some r:=⟨_,List.getElem?_eq_getElem hlt⟩;obtain ⟨v0,v1,v2,v3,v4,v5,v6⟩:=rgRq (hrow n r hr);have hn0:(0:Int)≤(n:Int):=by omega
      have hn1:(n:Int)<(rs.length:Int):=by omega
      obtain ⟨W4,g4,hW4,hg4,HSZ4,HA4,HK4⟩:=box1 wr 31 (rqA r);have hb4:Below wr.heap.size wr W4:=by rw[hg4]; exact HA4.out
      have HS0:Hid (n0≤wr.heap.size∧g3<wr.heap.size):=⟨(by have:=HKR.out.lt; have:=HG3.out; omega),HKR.out.lt⟩
      have HB4:Hid (Below n0 w W4):=HBR.out.trans (hb4.mono HS0.out.1);have HG4:=Lib.hid (HKR.out.below hb4 HKR.out.lt);have HL4:=Lib.hid (HLR.out.below hb4);have HTB:=Lib.hid (Xe4 Aq cq Ac cc p A ct ts W4 HL4.out HOK.out);have a0:=HG4.out.c4;clear hrow hr hb4 HBR HKR HLR HA4;go_wp2_with fail;clear a0 v0 v1 v2 v3 v4 v5 v6 hW4;refine HTB.out.mono ?_;rintro e w5 ⟨⟨p',b,h⟩,B,cb,H,ch,hR,rfl,hT,hb5⟩;have hpe:p=p':=hR.1.symm;subst hpe
      dsimp only
      have HR:=Lib.hid hR;obtain ⟨W6,g6,hW6,hg6,HSZ6,HA6,HK6⟩:=box1 w5 29 (tbB Aq cq Ac cc p B b cb H h ch);have hb6:Below W4.heap.size W4 W6:=Xa hb5 (by rw[hg6]; exact HA6.out)
      have HT6:Hid (Xcm W6 Aq cq Ac cc B cb H ch ⟨p,b,h⟩):=hT.below (by rw[hg6]; exact HA6.out)
      have HG6:=Lib.hid (HG4.out.below hb6 HG4.out.lt);have HR6:=Lib.hid (HK4.out.below hb6 HK4.out.lt);have HB6:Hid (Below n0 w W6):=HB4.out.trans (hb6.mono (by have:=HS0.out; have:=HSZ4.out; omega))
      have HS4:Hid (n0≤W4.heap.size):=by have:=HS0.out; have:=HSZ4.out; show _≤_; omega
      have HL6:=Lib.hid (HL4.out.below hb6);have HAC:=Lib.hid (Xen Aq cq Ac cc p A ct ts r 0 W6 HL6.out);clear hR hT hb5 hb6 HG4 HK4 HB4 HL4 HTB HA6 hg4;have a0:=HG6.out.c4;obtain ⟨b0,b1,b2,b3,b4,b5,b6⟩:=HR6.out.c7;go_wp2_with fail;clear a0 b0 b1 b2 b3 b4 b5 b6 hW6;refine HAC.out.mono ?_;rintro e w7 ⟨hb7,hpost⟩;have HS6:Hid (n0≤W6.heap.size):=by have:=HR6.out.lt; have h2:=HG6.out.lt; have:=HG3.out; show _≤_; omega
      rcases hpost with ⟨x,hx,-,rfl⟩ | ⟨o,A',c',Am,cm,Ad,cd,Ab,nb,cb2,⟨-,hrq,-,htl,hnx⟩,hacc,hlg,-,rfl⟩
      ·obtain ⟨W8,g8,hW8,hg8,HSZ8,HA8,HK8,HK9⟩:=box2 w7 53 #[.slice none 0 0,.slice none 0 0,.slice none 0 0,.slice none 0 0] 59 #[.bool false,.int .i64 0,.slice none 0 0,.slice none 0 0,.slice none 0 0];have HW8:=Lib.hid hW8;have hb8:Below W6.heap.size W6 W8:=Xa hb7 (by rw[hg8]; exact HA8.out)
       have HG8:=Lib.hid (HG6.out.below hb8 HG6.out.lt);have HL8:=Lib.hid (HL6.out.below hb8);have HB8:Hid (Below n0 w W8):=HB6.out.trans (hb8.mono HS6.out);have d0:(x == 0)=false:=by simpa using hx
       clear hb7 hb8 hW8 hx HG6 HR6 HB6 HL6 HT6 HK6 HAC HA8;have hl5:=HLEN.out;go_wp2;rw[HW8.out];clear hg8 HW8;go_roundw
       case rel=>exact ⟨n+1,ts,A,ct,by omega,by go_num,by have:=HTN.out; omega,HOK.out,HZ.out,HB8.out,HG8.out,HL8.out⟩
       case measure=>simp[intOf]; omega
      ·have HOL:Hid (o.ts.length≤ts.length+1):=Xtu hacc HOK.out.2.2.1;have HV:Hid (LgOK p o.ts∧Zs p o.ts):=Xly hacc HOK.out HZ.out hrq htl hnx;have hev:=Xr3 hacc HOK.out hrq hnx HR.out;have htok:=Xpa HR.out HOK.out;obtain ⟨W8,g8,hW8,hg8,HSZ8,HA8,HK8,HK9⟩:=box2 w7 53 (lgA Aq cq Ac cc p A' o.ts.length c') 59 #[.bool o.acc,.int .i64 o.num,.slice Am o.mv.length cm,.slice Ad o.dr.length cd,.slice Ab nb cb2];have HW8:=Lib.hid hW8;have hal8:Below w7.heap.size w7 W8:=by rw[hg8]; exact HA8.out
       have hb8:Below W6.heap.size W6 W8:=Xa hb7 hal8;have HG8:=Lib.hid (HG6.out.below hb8 HG6.out.lt);have HR8:=Lib.hid (HR6.out.below hb8 HR6.out.lt);have HK68:=Lib.hid (HK6.out.below hb8 HK6.out.lt);have HL8:Hid (LgAt W8 Aq cq Ac cc p A' c' o.ts):=hlg.below hal8;have HB8:Hid (Below n0 w W8):=HB6.out.trans (hb8.mono HS6.out);have HS8:Hid (n0≤W8.heap.size):=by have:=hb8.size; have:=HS6.out; show _≤_; omega
       have HAR:=Lib.hid (Xes Aq cq Ac cc B cb H ch ⟨p,b,h⟩ r W8 (HT6.out.below hb8) htok hrq);have HEV:=Lib.hid hev;clear hb7 hal8 hb8 hW8 hlg hacc hrq htl hnx hev htok HG6 HR6 HB6 HL6 HT6 HK6 HAC HA8;obtain ⟨c0,c1,c2,c3⟩:=(HK68.out.back HW8.out).c4;obtain ⟨b0,b1,b2,b3,b4,b5,b6⟩:=(HR8.out.back HW8.out).c7;go_wp2_with fail;clear c0 c1 c2 c3 b0 b1 b2 b3 b4 b5 b6;rw[HW8.out];clear hg8 HW8;refine HAR.out.mono ?_;rintro e w9 ⟨rfl,hb9⟩;have HG9:=Lib.hid (HG8.out.below hb9 HG8.out.lt);have HR9:=Lib.hid (HR8.out.below hb9 HR8.out.lt);have HN9:=Lib.hid (HK8.out.below hb9 HK8.out.lt);have HV9:=Lib.hid (HK9.out.below hb9 HK9.out.lt);have HLQ:=Lib.hid (HL8.out.below hb9);have HBQ:Hid (Below n0 w w9):=HB8.out.trans (hb9.mono HS8.out);have HS9:Hid (n0≤w9.heap.size):=by have:=hb9.size; have:=HS8.out; show _≤_; omega
       clear hb9 HG8 HR8 HK68 HL8 HB8 HK8 HK9 HAR HS8;rcases HEV.out with ⟨ha,hbe⟩ | ⟨ha,k,hfk,hne,hcase⟩
       ·obtain ⟨u0,u1,u2,u3,u4⟩:=HV9.out.c5;rw[ha] at u0;rw[hbe];clear ha hbe HEV;unfold arvV
        dsimp only
        obtain ⟨X,hX,hx,hg⟩:=HG9.out.p4 (.slice Aq p.q.length cq) (.slice Ac p.c.length cc) (.slice none 0 0) (.slice A' o.ts.length c');have r0:=HG9.out.c4;have f0:=HG9.out.f4;have q0:=HN9.out.c4;have HBX:Hid (Below n0 w X):=below_grown HBQ.out hg HG3.out (by have:=HG9.out.lt; have:=HG3.out; omega)
        have HLX:Hid (LgAt X Aq cq Ac cc p A' c' o.ts):=HLQ.out.store (HP.out _ HBX.out) HG9.out (Fr.grown hg);have HXX:=Lib.hid hx;clear hx hg;have hl5:=HLEN.out;go_wp2;go_roundw
        case rel=>exact ⟨n+1,o.ts,A',c',by omega,by go_num,by have:=HOL.out; have:=HTN.out; omega,HV.out.1,HV.out.2,HBX.out,HXX.out,HLX.out⟩
        case measure=>simp[intOf]; omega
       ·have HFD:=Lib.hid (Xfr Aq cq Ac cc p A' c' o.ts o.num w9 HLQ.out.t (by have:=HLQ.out.tm; omega))
        have HNE:=Lib.hid hne;have HFK:=Lib.hid hfk;have HCS:=Lib.hid hcase;obtain ⟨u0,u1,u2,u3,u4⟩:=HV9.out.c5;have q0:=HN9.out.c4;rw[ha] at u0;clear ha hne hfk hcase HEV;obtain ⟨ax,az,hax⟩:∃ax az:Int,arvV (Xdi ⟨p,b,h⟩ r) = .tuple #[.int .i64 ax,.int .i64 az] ∧ (az=0∧Xdi ⟨p,b,h⟩ r=some ax∨az=18∧Xdi ⟨p,b,h⟩ r=none):=by
         cases Xdi ⟨p,b,h⟩ r with
         | none=>exact ⟨0,18,rfl,.inr ⟨rfl,rfl⟩⟩
         | some n=>exact ⟨n,0,rfl,.inl ⟨rfl,rfl⟩⟩
        rw[hax.1];have HAX:=Lib.hid hax.2;clear hax;go_wp2_with fail;clear u0 u1 u2 u3 u4 q0;refine HFD.out.mono ?_;rintro e w10 ⟨hb10,hpost⟩;rw[HFK.out] at hpost;obtain ⟨Ak,ck,rfl,hhp⟩:=hpost;obtain ⟨W11,g11,hW11,hg11,HSZ11,HA11,HK11⟩:=box1 w10 55 (tkA k Ak ck);have hb11:Below w9.heap.size w9 W11:=Xa hb10 (by rw[hg11]; exact HA11.out)
        have hh11:HpAt W11 Ak ck k.hops:=hhp.below (by rw[hg11]; exact HA11.out)
        have HG11:=Lib.hid (HG9.out.below hb11 HG9.out.lt);have HN11:=Lib.hid (HN9.out.below hb11 HN9.out.lt);have HR11:=Lib.hid (HR9.out.below hb11 HR9.out.lt);have HLQ2:=Lib.hid (HLQ.out.below hb11);have HBQ2:Hid (Below n0 w W11):=HBQ.out.trans (hb11.mono HS9.out);obtain ⟨j,y,hmk,hy,hya⟩:=Xmk HNE.out;obtain ⟨bh,oh,rfl,hrow⟩:=hh11.s.one (by omega)
        have hy3:W11.cell? ⟨bh,oh+j * 4+3,none⟩=some (.int .i64 (Xac k.hops)):=by
         rw[←hya];exact hrow j y hy 3 _ rfl
        have hlen2:k.hops.length≤4000:=by
         obtain ⟨_,pre,post,e,_⟩:=Xau HFK.out;exact HLQ.out.hm k (by rw[e]; simp)
        have hm1:(k.hops.length:Int)=(j:Int)+1:=by omega
        have hm2:((k.hops.length:Int) - 1)=(j:Int):=by omega
        have hm3:((k.hops.length:Int) == 0)=false:=by rw[beq_eq_false_iff_ne]; omega
        have hm4:(0:Int)≤(j:Int):=by omega
        have hm5:(j:Int)≤4000:=by omega
        have hm6:(j:Int)<(k.hops.length:Int):=by omega
        obtain ⟨HLQ,HBQ⟩:Hid (LgAt W11 Aq cq Ac cc p A' c' o.ts)∧Hid (Below n0 w W11):=⟨HLQ2,HBQ2⟩;clear hb10 hb11 hhp hh11 hmk hy hya hrow HA11 HFD HG9 HN9 HR9 HV9 HFK HNE HLQ2 HBQ2 hlen2;have k0:=HK11.out.c11;obtain ⟨b0,b1,b2,b3,b4,b5,b6⟩:=HR11.out.c7;rcases HAX.out with ⟨rfl,hbb⟩ | ⟨rfl,hbb⟩
        ·have hle2:Xac k.hops≤ax:=by
          rcases HCS.out with h1 | ⟨_,h1⟩
          ·rw[hbb] at h1; cases h1; exact Int.le_refl _
          ·exact h1 ax hbb
         have d1:decide (Xac k.hops > ax)=false:=by simp; omega
         have d2:decide (ax<Xac k.hops)=false:=by simp; omega
         by_cases hp2:r.prio=2
         ·have d3:(r.prio == 2)=true:=by simpa using hp2
          have d4:(r.prio != 2)=false:=by simpa using hp2
          clear hbb hle2 HAX HCS hp2;obtain ⟨X,hX,hx,hg⟩:=HG11.out.p4 (.slice Aq p.q.length cq) (.slice Ac p.c.length cc) (.slice none 0 0) (.slice A' o.ts.length c');have r0:=HG11.out.c4;have f0:=HG11.out.f4;have q0:=HN11.out.c4;have HBX:Hid (Below n0 w X):=below_grown HBQ.out hg HG3.out (by have:=HG11.out.lt; have:=HG3.out; omega)
          have HLX:Hid (LgAt X Aq cq Ac cc p A' c' o.ts):=HLQ.out.store (HP.out _ HBX.out) HG11.out (Fr.grown hg);have HXX:=Lib.hid hx;clear hx hg;have hl5:=HLEN.out;go_wp2;go_roundw
          case rel=>exact ⟨n+1,o.ts,A',c',by omega,by go_num,by have:=HOL.out; have:=HTN.out; omega,HV.out.1,HV.out.2,HBX.out,HXX.out,HLX.out⟩
          case measure=>simp[intOf]; omega
         ·have d3:(r.prio == 2)=false:=by simpa using hp2
          have d4:(r.prio != 2)=true:=by simpa using hp2
          have hla:Xac k.hops=ax:=by
           rcases HCS.out with h1 | ⟨h1,_⟩
           ·rw[hbb] at h1; cases h1; rfl
           ·exact absurd h1 hp2
          have d5:(Xac k.hops == ax)=true:=by simpa using hla
          have d6:(Xac k.hops != ax)=false:=by simpa using hla
          clear hbb hle2 HAX HCS hp2 hla;obtain ⟨X,hX,hx,hg⟩:=HG11.out.p4 (.slice Aq p.q.length cq) (.slice Ac p.c.length cc) (.slice none 0 0) (.slice A' o.ts.length c');have r0:=HG11.out.c4;have f0:=HG11.out.f4;have q0:=HN11.out.c4;have HBX:Hid (Below n0 w X):=below_grown HBQ.out hg HG3.out (by have:=HG11.out.lt; have:=HG3.out; omega)
          have HLX:Hid (LgAt X Aq cq Ac cc p A' c' o.ts):=HLQ.out.store (HP.out _ HBX.out) HG11.out (Fr.grown hg);have HXX:=Lib.hid hx;clear hx hg;have hl5:=HLEN.out;go_wp2;go_roundw
          case rel=>exact ⟨n+1,o.ts,A',c',by omega,by go_num,by have:=HOL.out; have:=HTN.out; omega,HV.out.1,HV.out.2,HBX.out,HXX.out,HLX.out⟩
          case measure=>simp[intOf]; omega
        ·have hp2:r.prio=2:=by
          rcases HCS.out with h1 | ⟨h1,_⟩
          ·rw[hbb] at h1; cases h1
          ·exact h1
         have d3:(r.prio == 2)=true:=by simpa using hp2
         have d4:(r.prio != 2)=false:=by simpa using hp2
         clear hbb HAX HCS hp2;obtain ⟨X,hX,hx,hg⟩:=HG11.out.p4 (.slice Aq p.q.length cq) (.slice Ac p.c.length cc) (.slice none 0 0) (.slice A' o.ts.length c');have r0:=HG11.out.c4;have f0:=HG11.out.f4;have q0:=HN11.out.c4;have HBX:Hid (Below n0 w X):=below_grown HBQ.out hg HG3.out (by have:=HG11.out.lt; have:=HG3.out; omega)
         have HLX:Hid (LgAt X Aq cq Ac cc p A' c' o.ts):=HLQ.out.store (HP.out _ HBX.out) HG11.out (Fr.grown hg);have HXX:=Lib.hid hx;clear hx hg;have hl5:=HLEN.out;go_wp2;go_roundw
         case rel=>exact ⟨n+1,o.ts,A',c',by omega,by go_num,by have:=HOL.out; have:=HTN.out; omega,HV.out.1,HV.out.2,HBX.out,HXX.out,HLX.out⟩
         case measure=>simp[intOf]; omega
     ·have hn1:decide ((n:Int)<(rs.length:Int))=false:=by simpa using hlt
      have HS0:Hid (n0≤wr.heap.size):=by have:=HKR.out.lt; have:=HG3.out; show _≤_; omega
      go_wp2_with fail;refine (Xb8 wr).mono ?_;rintro e w5 ⟨rfl,hb5⟩;have HB5:Hid (Below n0 w w5):=HBR.out.trans (hb5.mono HS0.out);clear hb5;go_wp2;go_ret;exact ⟨rfl,by rw[hn]; exact HB5.out⟩
   ·obtain ⟨W3,g3,hW3,hg3,HSZ3,HA3,HK3⟩:=box1 w2 53 #[.slice none 0 0,.slice none 0 0,.slice none 0 0,.slice none 0 0];have HW3:=Lib.hid hW3;have HB3:Hid (Below n0 w W3):=HB2.out.trans (HA3.out.mono (by have:=HN2.out; omega))
    have HN3:Hid (n0≤W3.heap.size):=by have:=HSZ3.out; have:=HN2.out; show _≤_; omega
    have d0:(x == 0)=false:=by simpa using hx
    clear hW3 HB2 HN2 HA3 hx;go_wp2_with fail;rw[HW3.out];clear hg3 HW3;refine (Xb8 W3).mono ?_;rintro e w5 ⟨rfl,hb5⟩;have HB5:Hid (Below n0 w w5):=HB3.out.trans (hb5.mono HN3.out);clear hb5;go_wp2;go_ret;exact ⟨rfl,by rw[hn]; exact HB5.out⟩
end Go.Proofs.YtebkgbmijocdjaaGreat.Tp
