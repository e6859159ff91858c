/- A part of the proof for the ledger. No condition beyond those that each theorem states. -/
import Derived.Test.YtebkgbmijocdjaaGreatZ47
set_option maxHeartbeats 32000000
set_option maxRecDepth 100000
set_option linter.unusedVariables false
set_option linter.unusedSimpArgs false
namespace Go.Proofs.YtebkgbmijocdjaaGreat.Tp
open Go Go.RowKit
def c25a:Ct:=⟨0,1,10,60,4,5,0⟩
def c25b:Ct:=⟨1,2,50,100,4,5,0⟩
def t25:Tbl:=⟨⟨[100,100,100], [c25a,c25b]⟩, [], []⟩
def q25:Rq:=⟨0,2,20,0,90,0,false⟩
theorem ok25:Xb5 t25:=by
 refine ⟨⟨⟨by decide,by decide,by decide⟩,by decide,?_,?_⟩,⟨by decide,(fun b hb=>by cases hb),List.Pairwise.nil⟩,⟨by decide,(fun h hh=>by cases hh),List.Pairwise.nil,?_⟩⟩
 ·intro c hc;simp only[t25,List.mem_cons,List.not_mem_nil,or_false] at hc;rcases hc with rfl | rfl
  ·unfold CtOK c25a t25; simp
  ·unfold CtOK c25b t25; simp
 ·unfold t25 Ovl c25a c25b;simp
 ·intro n q hq tm;have h0:used t25.h n tm=0:=by unfold t25 used; simp
  rw[h0];have:q ∈ t25.p.q:=List.mem_of_getElem? hq;simp[t25] at this;omega
theorem rq25:RqOK t25.p q25:=by
 refine ⟨ok25.1,?_⟩;unfold q25 t25;simp
theorem Xoh (n:Int):Xae [] n = []:=by
 unfold Xae evL Xay;simp[lvGo]
def g25:Grf:=⟨[c25a,c25b], [[⟨10,60⟩], [⟨50,100⟩]], [[⟨0,1099511627776⟩], [⟨0,1099511627776⟩], [⟨0,1099511627776⟩]], [dur c25a 20,dur c25b 20],0,2,0,90,false⟩
theorem grf25:grf t25 q25=g25:=by
 unfold grf g25 Xak Xb6 t25 q25;simp only[List.zipIdx,List.map_cons,List.map_nil,Xoh]
 rfl
theorem Xt2:Xdi t25 q25=some 64:=by
 unfold Xdi;rw[grf25]
 decide
theorem Xbr {α:Type}{E:Enc α}{w:World}{g:Nat}{t:TypeId}{L:List α}(h:Bk w g t (L.flatMap E.f).toArray):SlAt E w (some ⟨g,0,none⟩) L:=fun k r hk=>⟨g,0,rfl,fun j v hj=>by
 have h1:=flat_get (E:=E) L k r hk j v hj;rw[Nat.zero_add,h.cell];simpa using h1⟩
theorem len25 {m:List Hop}(h:Xax t25.p q25 m):m.length=2:=by
 obtain ⟨_,hne,_,hw,he,_⟩:=h;have step:∀ {n a:Int} {x:Hop} {l:List Hop},Xbw t25.p q25 n a (x :: l)→(n=0∧(Xc7 t25.p n a (x :: l))=Xc7 t25.p 1 x.arr l∧Xbw t25.p q25 1 x.arr l)∨(n=1∧(Xc7 t25.p n a (x :: l))=Xc7 t25.p 2 x.arr l∧Xbw t25.p q25 2 x.arr l):=by
  intro n a x l hw;obtain ⟨c,⟨_,hc⟩,h1,h2,_,_,_,_,h7⟩:=hw;have e:Xc7 t25.p n a (x :: l)=Xc7 t25.p c.dst x.arr l:=by
   rw[Xc7,hc]; rfl
  match x.ct.toNat,hc with
  | 0,hc' =>
    obtain rfl:c25a=c:=by simpa[t25] using hc'
    exact .inl ⟨h1.symm,e,h7⟩
  | 1,hc' =>
    obtain rfl:c25b=c:=by simpa[t25] using hc'
    exact .inr ⟨h1.symm,e,h7⟩
  | n+2,hc' =>
    simp[t25] at hc'
 have stop:∀ {a:Int} {x:Hop} {l:List Hop},¬ Xbw t25.p q25 2 a (x :: l):=by
  intro a x l hw;obtain ⟨c,_,_,h2,_⟩:=hw;exact h2 rfl
 match m,hne,hw,he with
 | [x],_,hw,he =>
   rcases step hw with ⟨_,e,_⟩ | ⟨h,_⟩
   ·rw[e] at he; simp[Xc7,q25] at he
   ·simp[q25] at h
 | [x,y],_,_,_=>rfl
 | x :: y :: z :: l,_,hw,_ =>
   exfalso
   rcases step hw with ⟨_,_,h1⟩ | ⟨h,_⟩
   ·rcases step h1 with ⟨h,_⟩ | ⟨_,_,h2⟩
    ·simp at h
    ·exact stop h2
   ·simp[q25] at h
theorem Xpb {t:Tbl}(h:TblR t25.p [] t):t=t25:=by
 obtain ⟨h1,h2,_,h4,_⟩:=h;obtain ⟨p,b,hd⟩:=t;have h1:p=t25.p:=h1;have h2:b = []:=List.Perm.eq_nil h2;have h4:hd = []:=List.Perm.eq_nil h4;rw[h1,h2,h4]
 rfl
theorem Xt0 {m:List Hop}(h:EarR t25 q25 (some m)):m.length=2∧Xac m=64:=by
 obtain ⟨h1,h2,n,h3,h4⟩:=h;rw[Xt2] at h3;cases h3;have hg:=h4.fine h1 h2;exact ⟨len25 hg.rt,hg.last⟩
theorem lg25:LgOK t25.p []:=⟨ok25.1,by simp,⟨by simp,List.Pairwise.nil⟩,by simp,⟨by simp[bksA],by simp[bksA],by simp[bksA]⟩,⟨by simp[hdsA],by simp[hdsA],fun n q hq tm=>ok25.2.2.2.2.2 n q hq tm⟩⟩
theorem accR25 {o:AccO}(h:AccR t25.p [] q25 0 o):o.acc=true∧o.num=1 ∧ ∃m,o.ts = [⟨1,q25,m,1,0⟩] ∧ m.length=2∧Xac m=64:=by
 cases h with
 | refused h1 h2 =>
   exfalso
   rw[Xpb h1] at h2;rcases h2 with h2 | h2
   ·exact h2 ⟨ok25,rq25⟩
   ·rw[Xt2] at h2; cases h2
 | plain h1 h2 h3 =>
   rw[Xpb h1] at h2;exact ⟨rfl,rfl,_,rfl,Xt0 h2⟩
 | exch h1=>cases h1
theorem full25 {t:Tbl}{m:List Hop}{t':Tbl}(h1:TblR t25.p [] t)(h2:EarR t q25 (some m))(h3:TblR t25.p (setT [] ⟨Xad [],q25,m,1,0⟩) t'):Xf3 t':=by
 rw[Xpb h1] at h2;have hl:=(Xt0 h2).1;have e1:(bksA (setT [] ⟨Xad [],q25,m,1,0⟩)).length=2:=by
  show (bksL m 1 ++ []).length=2;simp[bksL,hl]
 have e2:=Xju t25.p ⟨1,q25,m,1,0⟩;have e3:(hdsA t25.p (setT [] ⟨Xad [],q25,m,1,0⟩)).length≤3:=by
  show (hdsT t25.p ⟨1,q25,m,1,0⟩ ++ []).length≤3;rw[List.append_nil];have:(⟨1,q25,m,1,0⟩:Tk).hops.length=2:=hl;omega
 exact ⟨by rw[h3.b.length_eq]; omega,by rw[h3.h.length_eq]; omega⟩
def Xt4 (P:Prop)(w:World)(e:Ending)(w':World):Prop:=∃b:Bool,e = .returned (.bool b)∧(P→b=true)∧Below w.heap.size w w'
theorem Xi4 (k k':Tk)(A:Option Addr)(c:Nat)(A':Option Addr)(c':Nat)(w:World)(h:HpAt w A c k.hops)(h':HpAt w A' c' k'.hops)(hl:k.hops.length≤1000000) :
  Calls Tryz.prog 17 #[.agg (tkA k A c),.agg #[.int .i64 k'.num,.int .i64 k'.rq.src,.int .i64 k'.rq.dst,.int .i64 k'.rq.size,.int .i64 k'.rq.ready,.int .i64 k'.rq.dead,.int .i64 k'.rq.prio,.bool k'.rq.cust,.slice A' k'.hops.length c',.int .i64 k'.st,.int .i64 k'.til]] w (Xt4 (k=k') w):=by
 obtain ⟨W,n0,hW,hn,HSZ,HB,HK0,HK1⟩:=box2 w 55 (tkA k A c) 55 #[.int .i64 k'.num,.int .i64 k'.rq.src,.int .i64 k'.rq.dst,.int .i64 k'.rq.size,.int .i64 k'.rq.ready,.int .i64 k'.rq.dead,.int .i64 k'.rq.prio,.bool k'.rq.cust,.slice A' k'.hops.length c',.int .i64 k'.st,.int .i64 k'.til];have HS:Hid (∀w',Below n0 w w' → SlAt hpE w' A k.hops):=fun w' hb=>h.s.below (by rw[hn]; exact hb)
 have HS':Hid (∀w',Below n0 w w' → SlAt hpE w' A' k'.hops):=fun w' hb=>h'.s.below (by rw[hn]; exact hb)
 have a0:=HK0.out.c11;have b0:=HK1.out.c11;clear h h';go_enter Tryz.func17,Tryz.ntmps17;go_wp2_with fail
 all_goals try (go_ret; refine ⟨_,rfl,fun e=>?_,by rw[hn]; exact HB.out⟩; subst e; first | contradiction | simp_all; done)
 rename_i e1 e2 e3 e4 e5 e6 e7 e8 e9 e10 eL K hK
 have hLE:k.hops.length=k'.hops.length:=by
  have h0:(k.hops.length:Int)=(k'.hops.length:Int):=by simpa using eL
  omega
 have HLE:Hid (k.hops.length=k'.hops.length):=hLE;have HEQ:Hid (k.hops=k'.hops→k=k'):=fun e=>by
  obtain ⟨_,⟨_,_,_,_,_,_,_⟩,_,_,_⟩:=k;obtain ⟨_,⟨_,_,_,_,_,_,_⟩,_,_,_⟩:=k'
  dsimp only at e e1 e2 e3 e4 e5 e6 e7 e8 e9 e10
  subst e e1 e2 e3 e4 e5 e6 e7 e8 e9 e10
  rfl
 clear e1 e2 e3 e4 e5 e6 e7 e8 e9 e10 eL a0 b0 hW hLE;go_loopw [5,46] (fun i _ wr => ∃n:Nat,n≤k.hops.length∧i = .int .i64 n∧Below W.heap.size W wr) (fun i _ _=>k.hops.length - (intOf i).toNat)
 case atStart=>exact ⟨0,Nat.zero_le _,rfl,Below.refl _ _⟩
 case round =>
  obtain ⟨n,hle,rfl,hb⟩:=hrel;have HBW:Hid (Below n0 w wr):=HB.out.trans (hb.mono (by have:=HSZ.out; omega))
  have HBR:=Lib.hid hb;have HM0:=Lib.hid (HK0.out.below hb HK0.out.lt);have HM1:=Lib.hid (HK1.out.below hb HK1.out.lt);clear hb;have a0:=HM0.out.c11;have b0:=HM1.out.c11
  by_cases hlt:n<k.hops.length
  ·have hl2:n<k'.hops.length:=by have:=HLE.out; omega
   obtain ⟨ba,oa,rfl,ha⟩:=(HS.out wr HBW.out).one (by omega)
   obtain ⟨bb,ob,rfl,hb'⟩:=(HS'.out wr HBW.out).one (by omega)
   obtain ⟨r,hr⟩:∃r,k.hops[n]? = some r:=⟨_,List.getElem?_eq_getElem hlt⟩;obtain ⟨r',hr'⟩:∃r,k'.hops[n]? = some r:=⟨_,List.getElem?_eq_getElem hl2⟩;have HR1:=Lib.hid hr;have HR2:=Lib.hid hr';obtain ⟨p0,p1,p2,p3⟩:=rgHp (ha n r hr);obtain ⟨q0,q1,q2,q3⟩:=rgHp (hb' n r' hr');have hn0:(0:Int)≤(n:Int):=by omega
   have hn1:(n:Int)<(k.hops.length:Int):=by omega
   have hn2:(n:Int)<(k'.hops.length:Int):=by omega
   clear ha hb' hr hr';go_wp2_with fail
   by_cases g0:r.ct=r'.ct
   case neg =>
    have d0:(r.ct == r'.ct)=false:=by simpa using g0
    have HNE:Hid (k ≠ k'):=fun e=>by
     have h1:=HR1.out;rw[e,HR2.out] at h1;exact g0 (by rw[Option.some.inj h1])
    clear g0;go_quiet (fail);go_wp2;go_ret;exact ⟨_,rfl,(fun e=>absurd e HNE.out),by rw[hn]; exact Xa4 HBW.out _⟩
   have d0:(r.ct == r'.ct)=true:=by simpa using g0
   by_cases g1:r.beg=r'.beg
   case neg =>
    have d1:(r.beg == r'.beg)=false:=by simpa using g1
    have HNE:Hid (k ≠ k'):=fun e=>by
     have h1:=HR1.out;rw[e,HR2.out] at h1;exact g1 (by rw[Option.some.inj h1])
    clear g1;go_quiet (fail);go_wp2;go_ret;exact ⟨_,rfl,(fun e=>absurd e HNE.out),by rw[hn]; exact Xa4 HBW.out _⟩
   have d1:(r.beg == r'.beg)=true:=by simpa using g1
   by_cases g2:r.fin=r'.fin
   case neg =>
    have d2:(r.fin == r'.fin)=false:=by simpa using g2
    have HNE:Hid (k ≠ k'):=fun e=>by
     have h1:=HR1.out;rw[e,HR2.out] at h1;exact g2 (by rw[Option.some.inj h1])
    clear g2;go_quiet (fail);go_wp2;go_ret;exact ⟨_,rfl,(fun e=>absurd e HNE.out),by rw[hn]; exact Xa4 HBW.out _⟩
   have d2:(r.fin == r'.fin)=true:=by simpa using g2
   by_cases g3:r.arr=r'.arr
   case neg =>
    have d3:(r.arr == r'.arr)=false:=by simpa using g3
    have HNE:Hid (k ≠ k'):=fun e=>by
     have h1:=HR1.out;rw[e,HR2.out] at h1;exact g3 (by rw[Option.some.inj h1])
    clear g3;go_quiet (fail);go_wp2;go_ret;exact ⟨_,rfl,(fun e=>absurd e HNE.out),by rw[hn]; exact Xa4 HBW.out _⟩
   have d3:(r.arr == r'.arr)=true:=by simpa using g3
   go_quiet (fail);go_wp2;go_roundw
   case rel=>exact ⟨n+1,by omega,by go_num,Xa4 HBR.out _⟩
   case measure=>simp[intOf]; omega
  ·have hn1:decide ((n:Int)<(k.hops.length:Int))=false:=by simpa using hlt
   go_wp2_with fail
   first | refine hK _ _ ?_ | skip
   go_wp2;go_ret;exact ⟨_,rfl,fun _=>rfl,by rw[hn]; exact HBW.out⟩
theorem Xmr (Aq:Option Addr)(cq:Nat)(Ac:Option Addr)(cc:Nat)(p:Pln)(w:World) :
  Calls Tryz.prog 42 #[.agg (plA Aq cq Ac cc p)] w (Xt4 False w):=by
 obtain ⟨W,n0,hW,hn,HSZ,HB,HK0⟩:=box1 w 25 (plA Aq cq Ac cc p);have a0:=HK0.out.c2;go_enter Tryz.func42,Tryz.ntmps42;go_wp2
 all_goals (go_ret; exact ⟨_,rfl,False.elim,by rw[hn]; exact HB.out⟩)
def Xtx (n:Nat)(w:World)(e:Ending)(w':World):Prop:=∃b:Bool,e = .returned (.bool b)∧(b=false→n≤5)∧Below w.heap.size w w'
theorem Xf1 (Aq:Option Addr)(cq:Nat)(Ac:Option Addr)(cc:Nat)(p:Pln)(A:Option Addr)(n c:Nat)(w:World) :
  Calls Tryz.prog 14 #[.agg (plA Aq cq Ac cc p),.slice A n c] w (Xtx n w):=by
 obtain ⟨W,n0,hW,hn,HSZ,HB,HK0⟩:=box1 w 25 (plA Aq cq Ac cc p);have a0:=HK0.out.c2;have HG:=Lib.hid (Xmr Aq cq Ac cc p W);go_enter Tryz.func14,Tryz.ntmps14;go_wp2_with fail;clear a0 hW;refine HG.out.mono ?_;rintro e w1 ⟨b,rfl,-,hb1⟩;have HBE:Hid (Below w.heap.size w w1):=by rw[hn]; exact HB.out.trans (hb1.mono (by have:=HSZ.out; omega))
 clear hb1;cases b with
 | true =>
   go_wp2;go_ret;exact ⟨_,rfl,(fun h=>by simp at h),HBE.out⟩
 | false =>
   by_cases h5:(5:Int)<n
   ·have d0:decide ((5:Int)<n)=true:=by simpa using h5
    have d1:decide ((n:Int) > 5)=true:=by simpa using h5
    go_wp2;go_ret;exact ⟨_,rfl,(fun h=>by simp at h),HBE.out⟩
   ·have d0:decide ((5:Int)<n)=false:=by simpa using h5
    have d1:decide ((n:Int) > 5)=false:=by simpa using h5
    go_wp2;go_ret;exact ⟨_,rfl,(fun h=>by omega),HBE.out⟩
theorem Xo8 (w:World):Calls Tryz.prog 43 #[] w fun e w' => ∃(p:Pln)(Aq:Option Addr)(cq:Nat)(Ac:Option Addr)(cc:Nat),p=t25.p∧e = .returned (.agg (plA Aq cq Ac cc p))∧Xas w' Aq cq Ac cc p∧Below w.heap.size w w':=by
 obtain ⟨n0,hn⟩:∃n,w.heap.size=n:=⟨_,rfl⟩;obtain ⟨W,n0',hW,hn',HSZ,HB,HK0,HK1,HK2⟩:=box3 w 25 #[.slice (some ⟨n0+1,0,none⟩) 3 3,.slice (some ⟨n0+1+1,0,none⟩) 2 2] 3 #[.int .i64 100,.int .i64 100,.int .i64 100] 104 #[.int .i64 0,.int .i64 1,.int .i64 10,.int .i64 60,.int .i64 4,.int .i64 5,.int .i64 0,.int .i64 1,.int .i64 2,.int .i64 50,.int .i64 100,.int .i64 4,.int .i64 5,.int .i64 0];obtain rfl:n0' = n0:=hn'.symm.trans hn;clear hn';have HP:Hid (Xas W (some ⟨n0' + 1,0,none⟩) 3 (some ⟨n0' + 1+1,0,none⟩) 2 t25.p):=⟨Xbr (t:=3) HK1.out,Xbr (t:=104) HK2.out,by decide,by decide,by decide,by decide⟩
 have a0:=HK0.out.c2;go_enter Tryz.func43,Tryz.ntmps43;go_wp2;exact bodyPost_ret (v:=.agg #[.slice (some ⟨n0' + 1,0,none⟩) 3 3,.slice (some ⟨n0' + 1+1,0,none⟩) 2 2]) (by simp[results,Tryz.results43,go_sem,a0]) rfl ⟨t25.p,_,_,_,_,rfl,rfl,HP.out,by rw[hn]; exact HB.out⟩
theorem two_of {m:List Hop}(h:m.length=2)(h2:Xac m=64):∃x y:Hop,m[0]? = some x∧m[1]? = some y∧y.arr=64:=by
 match m,h,h2 with
 | [x,y],_,h2=>exact ⟨x,y,rfl,rfl,h2⟩
theorem Xb8 (w:World):Calls Tryz.prog 15 #[] w fun e w' => e = .returned (.bool true)∧Below w.heap.size w w':=by
 go_enter Tryz.func15,Tryz.ntmps15;go_wp2_with fail;refine (Xo8 w).mono ?_;rintro e w1 ⟨p,Aq,cq,Ac,cc,hp,rfl,hpl,hb1⟩;have HPE:=Lib.hid hp;have HPL:=Lib.hid hpl;have HNW:=Lib.hid (Xq6 Aq cq Ac cc p w1 hpl);have HB1:=Lib.hid hb1;clear hp hpl hb1;go_wp2_with fail;refine HNW.out.mono ?_;rintro e w2 ⟨hb2,hpost⟩;have hpost:e = .returned (.tuple #[.agg (lgA Aq cq Ac cc p none 0 0),.int .i64 0]):=by
  rcases hpost with ⟨_,h⟩ | ⟨h,_⟩
  ·exact h
  ·exact absurd (by rw[HPE.out]; exact ok25.1) h
 subst hpost;obtain ⟨W3,g3,hW3,hg3,HSZ3,HA3,HK3⟩:=box1 w2 53 (lgA Aq cq Ac cc p none 0 0);have hb3:Below w1.heap.size w1 W3:=Xa hb2 (by rw[hg3]; exact HA3.out)
 have HB3:Hid (Below w.heap.size w W3):=Xa HB1.out hb3;have HLG:Hid (LgAt W3 Aq cq Ac cc p none 0 []):=⟨HPL.out.below hb3,Xf2.nil _ _,Nat.le_refl _,by simp,by simp⟩
 have HAC:=Lib.hid (Xen Aq cq Ac cc p none 0 [] q25 0 W3 HLG.out);clear hb2 hb3 HA3 HB1 HNW;have HW3:=Lib.hid hW3;clear hW3;obtain ⟨a0,a1,a2,a3⟩:=(HK3.out.back HW3.out).c4;go_wp2_with fail;clear a0 a1 a2 a3 hg3;rw[HW3.out];refine HAC.out.mono ?_;rintro e w4 ⟨hb4,hpost⟩;rcases hpost with ⟨x,hx,hno,rfl⟩ | ⟨⟨ts,acc,num,mv,dr⟩,A,c,Am,cm,Ad,cd,Ab,nb,cb,-,hacc,hlg,-,rfl⟩
 ·exfalso
  rw[HPE.out] at hno;rcases hno with h | ⟨t,m,h1,h2,t',h3,h4⟩
  ·exact h ⟨lg25,rq25,by simp[q25],by decide⟩
  ·exact h4 (full25 h1 h2 h3)
 ·rw[HPE.out] at hacc;obtain ⟨e1,e2,m,e3,e4,e5⟩:=accR25 hacc
  dsimp only at e1 e2 e3 hlg ⊢
  subst e1 e2;have hl:ts.length=1:=by rw[e3]; rfl
  obtain ⟨b,off,hA,hrow⟩:=hlg.t.one (by omega)
  obtain ⟨Ah,ch,hr,hh⟩:=hrow 0 ⟨1,q25,m,1,0⟩ (by rw[e3]; rfl)
  obtain ⟨x,y,hm0,hm1,hy⟩:=two_of e4 e5;obtain ⟨b2,off2,hA2,hrow2⟩:=hh.s.one (show 0<m.length by omega)
  subst hA hA2;rw[hl];obtain ⟨W5,g5,hW5,hg5,HSZ5,HA5,HK5,HK6⟩:=box2 w4 53 #[.slice Aq p.q.length cq,.slice Ac p.c.length cc,.slice none 0 0,.slice (some ⟨b,off,none⟩) 1 c] 59 #[.bool true,.int .i64 1,.slice Am mv.length cm,.slice Ad dr.length cd,.slice Ab nb cb];have hal:Below w4.heap.size w4 W5:=by rw[hg5]; exact HA5.out
  have HB5:Hid (Below w.heap.size w W5):=Xa (Xa HB3.out hb4) hal;have t8:W5.cell? ⟨b,off+8,none⟩=some (.slice (some ⟨b2,off2,none⟩) 2 ch):=by
   have h:=hr 8 _ rfl;have h2:=(hal.cell (p:=⟨b,off+0 * 11+8,none⟩) (World.block_lt_of_cell? _ _ h)).trans h;rw[Nat.zero_mul,Nat.add_zero] at h2;rw[h2];show some (Value.slice (some ⟨b2,off2,none⟩) m.length ch)=_;rw[e4]
  have h3:W5.cell? ⟨b2,off2+4+3,none⟩=some (.int .i64 64):=by
   have h:=hrow2 1 y hm1 3 _ rfl;have h2:=(hal.cell (p:=⟨b2,off2+1 * 4+3,none⟩) (World.block_lt_of_cell? _ _ h)).trans h;rw[Nat.one_mul] at h2;rw[h2,hy]
  have r0:=HK5.out.c4;have s0:=HK6.out.c5;clear hb4 hacc hlg e3 e4 e5 hl hrow hr hh hm0 hm1 hy hrow2 hal HA5 HAC HK3 HLG;go_wp2;go_ret;exact ⟨rfl,HB5.out⟩
theorem Xof (Aq:Option Addr)(cq:Nat)(Ac:Option Addr)(cc:Nat)(p:Pln)(A:Option Addr)(ct:Nat)(ts:List Tk)(n:Int)(k:Tk)(nd tm:Int)(w:World)(h:LgAt w Aq cq Ac cc p A ct ts)(hok:LgOK p ts)(hk:Xbg ts n=some k)(hp:posF p 0 k=some (nd,tm)) :
  Calls Tryz.prog 56 #[.agg (lgA Aq cq Ac cc p A ts.length ct),.int .i64 n,.int .i64 0] w fun e w' => ∃A' c',e = .returned (.tuple #[.agg (tkA k A' c'),.int .i64 nd,.int .i64 tm,.int .i64 0])∧HpAt w' A' c' k.hops∧Below w.heap.size w w':=by
 obtain ⟨W,n0,hW,hn,HSZ,HB,HK0,HK1⟩:=box2 w 53 (lgA Aq cq Ac cc p A ts.length ct) 55 #[.int .i64 0,.int .i64 0,.int .i64 0,.int .i64 0,.int .i64 0,.int .i64 0,.int .i64 0,.bool false,.slice none 0 0,.int .i64 0,.int .i64 0];have HL:Hid (∀w',Below n0 w w' → LgAt w' Aq cq Ac cc p A ct ts):=fun w' hb=>h.below (by rw[hn]; exact hb)
 have HOK:=Lib.hid hok;have HKF:=Lib.hid hk;have HPO:=Lib.hid hp;have HCK:=Lib.hid (Xf Aq cq Ac cc p A ct ts W (HL.out _ HB.out));have a0:=HK0.out.c4;clear h hok hk hp;go_enter Tryz.func56,Tryz.ntmps56;go_wp2_with fail;clear a0 hW;refine HCK.out.mono ?_;rintro e w1 ⟨x,rfl,hx,hb1⟩;obtain rfl:x=0:=hx.2 HOK.out;have HM0:=Lib.hid (HK0.out.below hb1 HK0.out.lt);have HM1:=Lib.hid (HK1.out.below hb1 HK1.out.lt);have HB1:Hid (Below n0 w w1):=HB.out.trans (hb1.mono (by have:=HSZ.out; omega))
 have HFD:=Lib.hid (Xfr Aq cq Ac cc p A ct ts n w1 (HL.out _ HB1.out).t (by have:=(HL.out _ HB1.out).tm; omega))
 clear hb1 HK0 HK1 HB HCK hx;have a0:=HM0.out.c4;go_wp2_with fail;clear a0;refine HFD.out.mono ?_;rintro e w2 ⟨hb2,hpost⟩;rw[HKF.out] at hpost;obtain ⟨Ak,ck,rfl,hhp⟩:=hpost;obtain ⟨W3,g3,hW3,hg3,HSZ3,HA3,HK3⟩:=box1 w2 55 (tkA k Ak ck);have hb3:Below w1.heap.size w1 W3:=Xa hb2 (by rw[hg3]; exact HA3.out)
 have HHP:Hid (HpAt W3 Ak ck k.hops):=hhp.below (by rw[hg3]; exact HA3.out)
 have HN0:=Lib.hid (HM0.out.below hb3 HM0.out.lt);have HN1:=Lib.hid (HM1.out.below hb3 HM1.out.lt);have HB3:Hid (Below n0 w W3):=HB1.out.trans (hb3.mono (by have:=HM1.out.lt; omega))
 have hkm:k ∈ ts:=by
  obtain ⟨_,pre,post,e,_⟩:=Xau HKF.out;rw[e]; simp
 have HKM:Hid (k.hops.length≤4000 ∧ ∀x ∈ k.hops,HopB p x):=⟨(HL.out _ HB3.out).hm k hkm,(HOK.out.2.2.2.1 k hkm).hopB⟩;have hpo:=Xe2 Aq cq Ac cc p k Ak ck 0 W3 (HL.out _ HB3.out).p HHP.out HKM.out.1 HKM.out.2;unfold posV posD at hpo;rw[HPO.out] at hpo;have HPS:=Lib.hid hpo;clear hpo hb2 hb3 hhp hkm HM0 HM1 HA3 HFD;have a0:=HN0.out.c4;have k0:=HK3.out.c11;go_wp2_with fail;clear a0 k0 hW3;refine HPS.out.mono ?_;rintro e w4 ⟨rfl,hb4⟩;have HP1:=Lib.hid (HN1.out.below hb4 HN1.out.lt);have HP3:=Lib.hid (HK3.out.below hb4 HK3.out.lt);have HB4:Hid (Below n0 w w4):=HB3.out.trans (hb4.mono (by have:=HN1.out.lt; omega))
 have HH4:=Lib.hid (HHP.out.below hb4);clear hb4 HN0 HN1 HK3 HHP HB3 HPS hg3;obtain ⟨X,hX,hx,hg⟩:=HP1.out.p11 (.int .i64 k.num) (.int .i64 k.rq.src) (.int .i64 k.rq.dst) (.int .i64 k.rq.size) (.int .i64 k.rq.ready) (.int .i64 k.rq.dead) (.int .i64 k.rq.prio) (.bool k.rq.cust) (.slice Ak k.hops.length ck) (.int .i64 k.st) (.int .i64 k.til);have HBE:Hid (Below n0 w X):=below_grown HB4.out hg (by omega) (by have:=HP1.out.lt; omega)
 have HHX:Hid (HpAt X Ak ck k.hops):=Xep HH4.out (Fr.grown hg) (fun j cs mk hj e=>by
  have hb:=HP1.out;rw[Option.some.inj e] at hb;unfold Bk at hb;rw[hb] at hj;cases hj)
 have k0:=HP3.out.c11;have r0:=HP1.out.c11;have f0:=HP1.out.f11;have p0:=hx.c11;clear hx hg;go_wp2_with fail;exact bodyPost_ret (v:=.tuple #[.agg (tkA k Ak ck),.int .i64 nd,.int .i64 tm,.int .i64 0]) (by simp[results,Tryz.results56,go_sem,p0]) rfl ⟨_,_,rfl,HHX.out,by rw[hn]; exact HBE.out⟩
theorem Xow (Aq:Option Addr)(cq:Nat)(Ac:Option Addr)(cc:Nat)(p:Pln)(A:Option Addr)(ct:Nat)(ts:List Tk)(n:Int)(k:Tk)(w:World)(h:LgAt w Aq cq Ac cc p A ct ts)(hok:LgOK p ts)(hk:Xbg ts n=some k)(hr:Xd1 p 0 k=true) :
  Calls Tryz.prog 22 #[.agg (lgA Aq cq Ac cc p A ts.length ct),.int .i64 n,.int .i64 0] w fun e w' => ∃A' c',e = .returned (.tuple #[.agg #[.slice Aq p.q.length cq,.slice Ac p.c.length cc,.slice none 0 0,.slice A' (setT ts (Xao 0 0 k)).length c'],.int .i64 0])∧LgAt w' Aq cq Ac cc p A' c' (setT ts (Xao 0 0 k))∧Below w.heap.size w w':=by
 obtain ⟨nd,tm,hp⟩:∃nd tm,posF p 0 k=some (nd,tm):=by
  have h1:=hr;unfold Xd1 at h1;rw[Bool.and_eq_true] at h1;obtain ⟨⟨a,b⟩,hx⟩:=Option.isSome_iff_exists.1 h1.1;exact ⟨a,b,hx⟩
 obtain ⟨W,n0,hW,hn,HSZ,HB,HK0,HK1⟩:=box2 w 53 (lgA Aq cq Ac cc p A ts.length ct) 53 #[.slice none 0 0,.slice none 0 0,.slice none 0 0,.slice none 0 0];have HL:Hid (∀w',Below n0 w w' → LgAt w' Aq cq Ac cc p A ct ts):=fun w' hb=>h.below (by rw[hn]; exact hb)
 have HOK:=Lib.hid hok;have HKF:=Lib.hid hk;have HRT:=Lib.hid hr;have HFD:=Lib.hid (Xof Aq cq Ac cc p A ct ts n k nd tm W (HL.out _ HB.out) hok hk hp);have hkm:k ∈ ts:=by
  obtain ⟨_,pre,post,e,_⟩:=Xau hk;rw[e]; simp
 have HKM:Hid (k.hops.length≤4000 ∧ ∀x ∈ k.hops,HopB p x):=⟨h.hm k hkm,(hok.2.2.2.1 k hkm).hopB⟩;have a0:=HK0.out.c4;clear h hok hk hr hp hkm;go_enter Tryz.func22,Tryz.ntmps22;go_wp2_with fail;clear a0 hW;refine HFD.out.mono ?_;rintro e w1 ⟨Ak,ck,rfl,hhp,hb1⟩;obtain ⟨W2,g2,hW2,hg2,HSZ2,HA2,HK2⟩:=box1 w1 55 (tkA k Ak ck);have hb2:Below W.heap.size W W2:=Xa hb1 (by rw[hg2]; exact HA2.out)
 have HHP:Hid (HpAt W2 Ak ck k.hops):=hhp.below (by rw[hg2]; exact HA2.out)
 have HM0:=Lib.hid (HK0.out.below hb2 HK0.out.lt);have HM1:=Lib.hid (HK1.out.below hb2 HK1.out.lt);have HB2:Hid (Below n0 w W2):=HB.out.trans (hb2.mono (by have:=HSZ.out; omega))
 have hrs:=Xkz Aq cq Ac cc p k Ak ck 0 W2 (HL.out _ HB2.out).p HOK.out.1 HHP.out HKM.out.1 HKM.out.2;rw[HRT.out] at hrs;have HRS:=Lib.hid hrs;clear hrs hhp hb1 hb2 HK0 HK1 HB HFD HA2;have a0:=HM0.out.c4;have k0:=HK2.out.c11;go_wp2_with fail;clear a0 k0 hW2;refine HRS.out.mono ?_;rintro e w3 ⟨rfl,hb3⟩;have HN0:=Lib.hid (HM0.out.below hb3 HM0.out.lt);have HN1:=Lib.hid (HM1.out.below hb3 HM1.out.lt);have HN2:=Lib.hid (HK2.out.below hb3 HK2.out.lt);have HHP3:=Lib.hid (HHP.out.below hb3);have HB3:Hid (Below n0 w w3):=HB2.out.trans (hb3.mono (by have:=HM1.out.lt; omega))
 clear hb3 HM0 HM1 HK2 HHP HB2 HRS hg2;obtain ⟨ms,hms,hsl,hhp⟩:=(HL.out _ HB3.out).t;have HMS:=Lib.hid hms;have hlen:ts.length=ms.length:=by rw[←hms,List.length_map]
 have HML:Hid (ms.length≤64):=by have:=HOK.out.2.1; show _≤_; omega
 have HOP:=Lib.hid (open_any Aq cq Ac cc p A ts.length ct ms w3 hsl hlen (by have:=HML.out; omega))
 have HHM:=Lib.hid hhp;clear hms hsl hhp hlen;have a0:=HN0.out.c4;go_wp2_with fail;clear a0;refine HOP.out.mono ?_;rintro e w4 ⟨D,cd,rfl,hrow,hb4⟩;obtain ⟨W5,g5,hW5,hg5,HSZ5,HA5,HK5⟩:=box1 w4 118 (lgA Aq cq Ac cc p D ms.length cd);have hb5:Below w3.heap.size w3 W5:=Xa hb4 (by rw[hg5]; exact HA5.out)
 have HRW:Hid (W5.ownsRow w3.heap.size 55 11 (.slice D ms.length cd) ms.length (ms.flatMap tmE.f)):=Xa6 hrow (by rw[hg5]; exact HA5.out)
 have HBS:Hid (w3.heap.size≤g5):=by have:=hb4.size; show _≤_; omega
 have HHT:Hid (∀m ∈ ms,HpAt W5 m.A m.c m.k.hops):=fun m hm=>(HHM.out m hm).below hb5;have HHP5:=Lib.hid (HHP3.out.below hb5);have HP1:=Lib.hid (HN1.out.below hb5 HN1.out.lt);have HP2:=Lib.hid (HN2.out.below hb5 HN2.out.lt);have HB5:Hid (Below n0 w W5):=HB3.out.trans (hb5.mono (by have:=HN1.out.lt; omega))
 have HZ3:Hid (n0+1<w3.heap.size):=HN1.out.lt;obtain ⟨k',hk'⟩:∃k',k' = Xao 0 0 k:=⟨_,rfl⟩;have HST:=Lib.hid (Xet k k' Ak ck 0 0 W5 HHP5.out (by have:=HKM.out.1; omega) hk')
 have HKE:=Lib.hid hk';clear hk' hb4 hb5 hrow HN0 HN1 HN2 HHM HHP3 HA5 HOP HB3;have k0:=HP2.out.c11;go_wp2_with fail;clear k0 hW5 hg5;refine HST.out.mono ?_;rintro e w6 ⟨Ak',ck',rfl,hhp',hb6⟩;have HRW6:=Lib.hid (Xa6 HRW.out hb6);have HHT6:Hid (∀m ∈ ms,HpAt w6 m.A m.c m.k.hops):=fun m hm=>(HHT.out m hm).below hb6;have HHK:=Lib.hid hhp';have HQ1:=Lib.hid (HP1.out.below hb6 HP1.out.lt);have HK6:=Lib.hid (HK5.out.below hb6 HK5.out.lt);have HB6:Hid (Below n0 w w6):=HB5.out.trans (hb6.mono (by have:=HP1.out.lt; omega))
 clear hhp' hb6 HRW HHT HP1 HP2 HK5 HB5 HST HHP5;have HSE:=Lib.hid (set_any g5 118 (lgA Aq cq Ac cc p D ms.length cd) w3.heap.size (.slice D ms.length cd) ms ⟨k',Ak',ck'⟩ w6 HK6.out rfl (by decide) HRW6.out (by have:=HK6.out.lt; have:=HBS.out; omega) (by have:=HML.out; omega))
 go_wp2_with fail;refine HSE.out.mono ?_;intro e w7 hpost;obtain ⟨rfl,v',ms',hm1,hm2,hk7,hr7,hh7,hf7,hb7⟩:=Xsq HK6.out (by decide) HRW6.out HHT6.out HHK.out hpost
 have hob:∀r,(Value.slice D ms.length cd).ownBlock=some r→w3.heap.size≤r:=fun r e=>(HRW6.out.lt r e).1;have hbw:Below w3.heap.size w6 w7:=hb7 _ (Nat.le_refl _) HBS.out (by have:=HK6.out.lt; have:=HBS.out; omega)
 have HM1:Hid (ms'.map (·.k)=setT ts (Xao 0 0 k)):=by show _=_; rw[hm1,HMS.out, ←HKE.out]
 have HML2:Hid (ms'.length≤100 ∧ ∀m ∈ ms',m.k.hops.length≤4000):=by
  obtain ⟨hk1,pre,post,e3,hpre⟩:=Xau HKF.out;refine ⟨?_,fun m hm=>?_⟩
  ·have h1:ms'.length=ts.length:=by
    have:=congrArg List.length HM1.out;rw[List.length_map] at this;rw[this,e3,Xcq (by rfl) (fun x hx=>by rw[show (Xao 0 0 k).num=k.num from rfl,hk1]; exact hpre x hx)]
    simp
   have:=HOK.out.2.1;omega
  ·rcases hm2 m hm with rfl | h2
   ·show k'.hops.length≤4000;rw[HKE.out];have h1:=HKM.out.1;have h2:(Xao 0 0 k).hops.length≤k.hops.length:=by unfold Xao; rw[List.length_take]; omega
    omega
   ·have h3:m.k ∈ ts:=by rw[←HMS.out]; exact List.mem_map.2 ⟨m,h2,rfl⟩
    exact (HL.out _ HB6.out).hm _ h3
 have HR1:=Lib.hid (Xft HQ1.out hf7 (by
  rintro (e | e)
  ·have:=HBS.out; have:=HZ3.out; omega
  ·have:=hob _ e; have:=HZ3.out; omega))
 have HK7:Hid (Bk w7 g5 118 #[.slice Aq p.q.length cq,.slice Ac p.c.length cc,.slice none 0 0,v']):=hk7;have HB7:Hid (Below n0 w w7):=HB6.out.trans (hbw.mono (by have:=HZ3.out; omega))
 obtain ⟨A9,c9,e9⟩:=Xa8 hr7;subst e9;obtain ⟨X,hX,hx,hg⟩:=HR1.out.p4 (.slice Aq p.q.length cq) (.slice Ac p.c.length cc) (.slice none 0 0) (.slice A9 ms'.length c9);have HBE:Hid (Below n0 w X):=below_grown HB7.out hg (by omega) (by have:=HR1.out.lt; omega)
 have HLG:Hid (LgAt X Aq cq Ac cc p A9 c9 (setT ts (Xao 0 0 k))):=by
  obtain ⟨A8,c8,e8,hlg⟩:=Xgp (HL.out _ HBE.out).p hr7 hh7 (Fr.grown hg) (fun r e e2=>by have h1:=(hr7.lt r e).1; have:=HZ3.out; have:=Option.some.inj e2; omega) (fun j cs mk hj e=>Xdx HR1.out (by decide) hj (Option.some.inj e).symm) HML2.out.1 HML2.out.2
  cases e8
  rwa [HM1.out] at hlg
 have HLEN:Hid (ms'.length=(setT ts (Xao 0 0 k)).length):=by show _=_; rw[←HM1.out,List.length_map]
 clear hm1 hm2 hk7 hr7 hh7 hf7 hb7 hob hbw hpost HRW6 HHT6 HHK HQ1 HK6 HB6 HSE hg;have a0:=HK7.out.c4;have r0:=HR1.out.c4;have f0:=HR1.out.f4;have p0:=hx.c4;clear hx;go_wp2_with fail;exact bodyPost_ret (v:=.tuple #[.agg (lgA Aq cq Ac cc p A9 ms'.length c9),.int .i64 0]) (by simp[results,Tryz.results22,go_sem,p0]) rfl ⟨A9,c9,by rw[HLEN.out],HLG.out,by rw[hn]; exact HBE.out⟩
end Go.Proofs.YtebkgbmijocdjaaGreat.Tp
