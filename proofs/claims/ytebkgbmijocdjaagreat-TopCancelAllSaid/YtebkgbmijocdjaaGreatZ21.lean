/- A part of the proof for the ledger. No condition beyond those that each theorem states. -/
import Derived.Test.YtebkgbmijocdjaaGreatZ13
import Derived.Test.YtebkgbmijocdjaaGreatZ20
set_option maxHeartbeats 32000000
set_option maxRecDepth 100000
set_option linter.unusedVariables false
set_option linter.unusedSimpArgs false
namespace Go.Proofs.YtebkgbmijocdjaaGreat.Tp
open Go Go.RowKit
def Xp5 (w:World)(A:Option Addr)(L:List (List Spn)):Prop:=∀(j:Nat)(l:List Spn),L[j]? = some l → ∃b off A' c',A=some ⟨b,off,none⟩∧w.cell? ⟨b,off+j,none⟩=some (.slice A' l.length c')∧SlAt spE w A' l∧l.length≤c' ∧ l.length≤100000
theorem Xp5.below {w w':World}{A:Option Addr}{L:List (List Spn)}(h:Xp5 w A L)(hb:Below w.heap.size w w'):Xp5 w' A L:=fun j l hj=>by
 obtain ⟨b,off,A',c',hA,hc,hs,hl⟩:=h j l hj;exact ⟨b,off,A',c',hA,(hb.cell (p:=⟨b,off+j,none⟩) (World.block_lt_of_cell? _ _ hc)).trans hc,hs.below hb,hl⟩
abbrev grA (Aq:Option Addr)(cq:Nat)(Ac:Option Addr)(cc:Nat)(B:Option Addr)(cb:Nat)(H:Option Addr)(ch:Nat)(t:Tbl)(q:Rq)(Ag:Option Addr)(cg:Nat)(Ar:Option Addr)(cr:Nat)(Ad:Option Addr)(cd:Nat):Array Value := #[.slice Aq t.p.q.length cq,.slice Ac t.p.c.length cc,.slice B t.b.length cb,.slice H t.h.length ch,.int .i64 q.src,.int .i64 q.dst,.int .i64 q.size,.int .i64 q.ready,.int .i64 q.dead,.int .i64 q.prio,.bool q.cust,.slice Ag t.p.c.length cg,.slice Ar t.p.q.length cr,.slice Ad t.p.c.length cd]
structure GIn (w:World)(Aq:Option Addr)(cq:Nat)(Ac:Option Addr)(cc:Nat)(B:Option Addr)(cb:Nat)(H:Option Addr)(ch:Nat)(t:Tbl)(q:Rq)(Ag Ar Ad:Option Addr):Prop where
 tb:Xcm w Aq cq Ac cc B cb H ch t
 gaps:Xp5 w Ag (Xb6 t)
 rooms:Xp5 w Ar (Xak t q.size)
 durs:SlAt intE w Ad (t.p.c.map fun c=>dur c q.size)
 tok:Xb5 t
 qok:RqOK t.p q
def GAt (w:World)(G:Nat)(t:Tbl)(q:Rq):Prop:=∃Aq cq Ac cc B cb H ch Ag cg Ar cr Ad cd,Bk w G 135 (grA Aq cq Ac cc B cb H ch t q Ag cg Ar cr Ad cd)∧GIn w Aq cq Ac cc B cb H ch t q Ag Ar Ad
theorem GAt.below {w w':World}{G:Nat}{t:Tbl}{q:Rq}(h:GAt w G t q)(hb:Below w.heap.size w w'):GAt w' G t q:=by
 obtain ⟨Aq,cq,Ac,cc,B,cb,H,ch,Ag,cg,Ar,cr,Ad,cd,h1,h2⟩:=h;exact ⟨Aq,cq,Ac,cc,B,cb,H,ch,Ag,cg,Ar,cr,Ad,cd,h1.below hb h1.lt,h2.tb.below hb,h2.gaps.below hb,h2.rooms.below hb,h2.durs.below hb,h2.tok,h2.qok⟩
theorem GAt.lt {w:World}{G:Nat}{t:Tbl}{q:Rq}(h:GAt w G t q):G<w.heap.size:=by
 obtain ⟨Aq,cq,Ac,cc,B,cb,H,ch,Ag,cg,Ar,cr,Ad,cd,h1,h2⟩:=h;exact h1.lt
theorem Xj6 (a b:Lab)(w:World):Calls Tryz.prog 31 #[.agg #[.int .i64 a.node,.int .i64 a.frm,.int .i64 a.til,.int .i64 a.time],.agg #[.int .i64 b.node,.int .i64 b.frm,.int .i64 b.til,.int .i64 b.time]] w fun e w' => e = .returned (.bool (same a b))∧Below w.heap.size w w':=by
 have HB0:Hid (Below w.heap.size w ((w.alloc (.cells (lbA a) 81)).alloc (.cells (lbA b) 81))):=((Below.refl _ _).alloc (Nat.le_refl _) _).alloc (by simp) _
 have HS:Hid (same a b=(a.node == b.node && a.frm == b.frm)):=rfl;generalize same a b=s at HS ⊢
 by_cases h1:a.node=b.node
 ·have e1:(a.node == b.node)=true:=by simpa using h1
  have HF:Hid ((a.frm == b.frm)=s):=by show _=_; rw[HS.out,e1,Bool.true_and]
  clear h1 HS;go_enter Tryz.func31,Tryz.ntmps31;go_wp2;go_ret;exact ⟨Xe0 HF.out,HB0.out⟩
 ·have e1:(a.node == b.node)=false:=by simpa using h1
  have HF:Hid (false=s):=by show _=_; rw[HS.out,e1,Bool.false_and]
  clear h1 HS;go_enter Tryz.func31,Tryz.ntmps31;go_wp2;go_ret;exact ⟨Xe0 HF.out,HB0.out⟩
theorem Xoq (G:Nat)(t:Tbl)(q:Rq)(h:Hop)(i:Nat)(c:Ct)(w:World)(hg:GAt w G t q)(hc:t.p.c[i]? = some c)(hi:h.ct=(i:Int))(hf:0≤h.fin∧h.fin≤1099511627776) :
  Calls Tryz.prog 75 #[.pointer (some ⟨G,0,none⟩),.agg #[.int .i64 h.ct,.int .i64 h.beg,.int .i64 h.fin,.int .i64 h.arr]] w fun e w' => e = .returned (.int .i64 (Xav q.cust c h))∧Below w.heap.size w w':=by
 obtain ⟨Aq,cq,Ac,cc,B,cb,H,ch,Ag,cg,Ar,cr,Ad,cd,hbk,hin⟩:=hg;have hct:=(hin.qok.1.2.2.1 c (List.mem_of_getElem? hc));have hil:i<t.p.c.length:=(List.getElem?_eq_some_iff.1 hc).1;have hcf:1≤c.rng∧c.rng≤1048576:=by
  have:=hct.1;unfold CtOK at this;omega
 obtain ⟨hct0,hbeg,hfin,harr⟩:=h;simp only at hi hf;subst hi;obtain ⟨_,_,rfl,rfl,-,HB0,HHB⟩:=box1 w 41 #[.int .i64 (i:Int),.int .i64 hbeg,.int .i64 hfin,.int .i64 harr];have HGB:=Lib.hid (hbk.below HB0.out hbk.lt);obtain ⟨bc,oc,rfl,hr⟩:=hin.tb.p.c.one (by omega)
 have hm:=hin.tb.p.cm;unfold maxLen at hm;have hrg:(w.alloc (.cells #[.int .i64 (i:Int),.int .i64 hbeg,.int .i64 hfin,.int .i64 harr] 41)).rangeAt bc (oc+i * 7) (ctE.f c):=Xa3 (hr i c hc) HB0.out;have c5:(w.alloc (.cells #[.int .i64 (i:Int),.int .i64 hbeg,.int .i64 hfin,.int .i64 harr] 41)).cell? ⟨bc,oc+i * 7+5,none⟩=some (.int .i64 c.rng):=hrg 5 _ rfl;have hi0:(0:Int)≤(i:Int):=by omega
 have hi1:(i:Int)<(t.p.c.length:Int):=by omega
 have hl:Xav q.cust c ⟨(i:Int),hbeg,hfin,harr⟩=if q.cust then hfin+2 * c.rng else hfin:=rfl
 have g1:=HGB.out.n1;have g10:=HGB.out.n10;have h0:=HHB.out.n0;have h2:=HHB.out.n2;clear hc hr hrg hct hbk hin;rw[hl];clear hl;go_enter Tryz.func75,Tryz.ntmps75;cases hcu:q.cust with
 | false =>
   rw[hcu] at g10;go_wp2;go_ret;exact ⟨by first | rfl | simp,HB0.out⟩
 | true =>
   rw[hcu] at g10;go_wp2_with fail;go_quiet (fail);go_wp2;go_ret;exact ⟨by first | rfl | (simp; omega),Xa4 HB0.out _⟩
def RetSp (w0:World)(L:List Spn)(w:World)(e:Ending)(w':World):Prop:=∃A c,e = .returned (.slice A L.length c)∧(SlAt spE w0 A L∨(L = [⟨0,1099511627776⟩] ∧ A=some ⟨w.heap.size,0,none⟩∧Bk w' w.heap.size 142 #[.int .i64 0,.int .i64 1099511627776]))∧L.length≤c∧L.length≤100000∧Below w.heap.size w w'
theorem Xop (G:Nat)(t:Tbl)(q:Rq)(n:Nat)(w0 w:World)(hg:GAt w0 G t q)(hb0:Below w0.heap.size w0 w)(hn:n<t.p.q.length) :
  Calls Tryz.prog 73 #[.pointer (some ⟨G,0,none⟩),.int .i64 n] w (RetSp w0 (Xbb (grf t q) n) w):=by
 obtain ⟨Aq,cq,Ac,cc,B,cb,H,ch,Ag,cg,Ar,cr,Ad,cd,hbk,hin⟩:=hg;have hbk2:=hbk.below hb0 hbk.lt;have g5:=hbk2.n5;have g12:w.cell? ⟨G,12,none⟩=some (.slice Ar t.p.q.length cr):=hbk2.cell 12;have HQL:=hin.tb.p.qm;unfold maxLen at HQL
 by_cases hd:(n:Int)=q.dst
 ·have e1:((n:Int) == q.dst)=true:=by simpa using hd
  have HR:Hid (Xbb (grf t q) n = [⟨0,1099511627776⟩]):=by
   show _=_;unfold Xbb;rw[if_pos (by show (n:Int)=q.dst; exact hd)]
  generalize Xbb (grf t q) n=L at HR ⊢;obtain rfl:=HR.out;clear hd hin hbk hbk2 HR hb0;go_enter Tryz.func73,Tryz.ntmps73;go_wp2;go_ret;exact ⟨some ⟨w.heap.size,0,none⟩,1,rfl,.inr ⟨rfl,rfl,Bk.new _ _ _⟩,Nat.le_refl _,by simp,(Below.refl _ _).alloc (Nat.le_refl _) _⟩
 ·have e1:((n:Int) == q.dst)=false:=by simpa using hd
  have hL:Xbb (grf t q) n=(Xak t q.size).getD n []:=by
   unfold Xbb;rw[if_neg (by show ¬ (n:Int)=q.dst; exact hd)]
   rfl
  obtain ⟨l,hl⟩:∃l,(Xak t q.size)[n]? = some l:=⟨_,List.getElem?_eq_getElem (by simp[Xak]; exact hn)⟩
  have hL2:Xbb (grf t q) n=l:=by rw[hL,List.getD_eq_getElem?_getD,hl]; rfl
  rw[hL2];obtain ⟨b,off,A',c',rfl,hc,hs,hlc,hlm⟩:=hin.rooms n l hl;have hc2:w.cell? ⟨b,off+n,none⟩=some (.slice A' l.length c'):=(hb0.cell (p:=⟨b,off+n,none⟩) (World.block_lt_of_cell? _ _ hc)).trans hc;have HS:=Lib.hid hs;have HL:=Lib.hid hlc;have HM:=Lib.hid hlm;have hi0:(0:Int)≤(n:Int):=by omega
  have hi1:(n:Int)<(t.p.q.length:Int):=by omega
  clear hL hL2 hl hs hlc hlm hd hin hbk hbk2 hb0 hc;go_enter Tryz.func73,Tryz.ntmps73;go_wp2;go_ret;exact ⟨A',c',rfl,.inl HS.out,HL.out,HM.out,Below.refl _ _⟩
def hopV (o:Option Hop):Value:=.tuple #[match o with | none => .agg #[.int .i64 0,.int .i64 0,.int .i64 0,.int .i64 0] | some h => .agg #[.int .i64 h.ct,.int .i64 h.beg,.int .i64 h.fin,.int .i64 h.arr],.bool o.isSome]
theorem Xs2 (G:Nat)(t:Tbl)(q:Rq)(i:Nat)(c:Ct)(f:Int)(w:World)(hg:GAt w G t q)(hc:t.p.c[i]? = some c)(hf:0≤f∧f≤1099511627776) :
  Calls Tryz.prog 74 #[.pointer (some ⟨G,0,none⟩),.int .i64 i,.int .i64 f] w fun e w' => e = .returned (hopV (hopF i c (dur c q.size) f ((Xb6 t).getD i [])))∧Below w.heap.size w w':=by
 have HG:=Lib.hid hg;obtain ⟨Aq,cq,Ac,cc,B,cb,H,ch,Ag,cg,Ar,cr,Ad,cd,hbk,hin⟩:=hg;have hct:=(hin.qok.1.2.2.1 c (List.mem_of_getElem? hc));have hil:i<t.p.c.length:=(List.getElem?_eq_some_iff.1 hc).1;have hcf:0≤c.beg∧c.fin≤1099511627776∧1≤c.rng∧c.rng≤1048576:=by
  have:=hct.1;unfold CtOK at this;omega
 have hdb:=Xdw hct.1 hin.qok.2.2.2.2.1.1;have hm:=hin.tb.p.cm;unfold maxLen at hm;obtain ⟨l,hl⟩:∃l,(Xb6 t)[i]? = some l:=⟨_,List.getElem?_eq_getElem (by simp[Xb6]; exact hil)⟩
 have hL:(Xb6 t).getD i [] = l:=by rw[List.getD_eq_getElem?_getD,hl]; rfl
 have hsb:∀s ∈ l,0≤s.frm∧s.frm<s.til∧s.til≤1099511627776:=by
  intro s hs;obtain ⟨f1,f2,f3⟩:=Xe9 hin.tok.2.1 hc;have h4:=Xe7 hc;rw[hL] at h4;rw[h4] at hs;have h5:=(Xcx (fin:=c.fin) f1 f3).1 s hs;have h6:=h5.2.2.1 f2;exact ⟨by omega,h5.2.1,by omega⟩
 rw[hL];obtain ⟨b,off,A',c',rfl,hcl,hs,hlc,hlm⟩:=hin.gaps i l hl;obtain ⟨bd,od,rfl,hrd⟩:=hin.durs.one (by rw[List.length_map]; omega)
 have hdc:w.cell? ⟨bd,od+i,none⟩=some (.int .i64 (dur c q.size)):=by
  have h:=hrd i (dur c q.size) (by rw[List.getElem?_map,hc]; rfl) 0 _ rfl
  have e:od+i * intE.k+0=od+i:=by show od+i * 1+0=_; omega
  rwa [e] at h
 obtain ⟨bc,oc,rfl,hr⟩:=hin.tb.p.c.one (by omega)
 have hcr:w.cell? ⟨bc,oc+i * 7+5,none⟩=some (.int .i64 c.rng):=hr i c hc 5 _ rfl;have hi0:(0:Int)≤(i:Int):=by omega
 have hi1:(i:Int)<(t.p.c.length:Int):=by omega
 have HW:Hid (Bk w G 135 (grA Aq cq (some ⟨bc,oc,none⟩) cc B cb H ch t q (some ⟨b,off,none⟩) cg Ar cr (some ⟨bd,od,none⟩) cd)):=hbk;have HCR:=Lib.hid hcr;have HS:=Lib.hid hs;have HSB:=Lib.hid hsb;have HHB:Hid (Bk (w.alloc (.cells #[.int .i64 0,.int .i64 0,.int .i64 0,.int .i64 0] 41)) w.heap.size 41 #[.int .i64 0,.int .i64 0,.int .i64 0,.int .i64 0]):=Bk.new _ _ _;have HB0:Hid (Below w.heap.size w (w.alloc (.cells #[.int .i64 0,.int .i64 0,.int .i64 0,.int .i64 0] 41))):=(Below.refl _ _).alloc (Nat.le_refl _) _;have HGW:=Lib.hid (HW.out.below HB0.out HW.out.lt);have g13:(w.alloc (.cells #[.int .i64 0,.int .i64 0,.int .i64 0,.int .i64 0] 41)).cell? ⟨G,13,none⟩=some (.slice (some ⟨bd,od,none⟩) t.p.c.length cd):=HGW.out.cell 13;have g11:(w.alloc (.cells #[.int .i64 0,.int .i64 0,.int .i64 0,.int .i64 0] 41)).cell? ⟨G,11,none⟩=some (.slice (some ⟨b,off,none⟩) t.p.c.length cg):=HGW.out.cell 11;have hdc':(w.alloc (.cells #[.int .i64 0,.int .i64 0,.int .i64 0,.int .i64 0] 41)).cell? ⟨bd,od+i,none⟩=some (.int .i64 (dur c q.size)):=(HB0.out.cell (p:=⟨bd,od+i,none⟩) (World.block_lt_of_cell? _ _ hdc)).trans hdc;have hcl':(w.alloc (.cells #[.int .i64 0,.int .i64 0,.int .i64 0,.int .i64 0] 41)).cell? ⟨b,off+i,none⟩=some (.slice A' l.length c'):=(HB0.out.cell (p:=⟨b,off+i,none⟩) (World.block_lt_of_cell? _ _ hcl)).trans hcl;have HCR':Hid ((w.alloc (.cells #[.int .i64 0,.int .i64 0,.int .i64 0,.int .i64 0] 41)).cell? ⟨bc,oc+i * 7+5,none⟩=some (.int .i64 c.rng)):=(HB0.out.cell (p:=⟨bc,_,none⟩) (World.block_lt_of_cell? _ _ HCR.out)).trans HCR.out
 have HS':=Lib.hid (HS.out.below HB0.out);clear hc hct hl hL hsb hs hrd hr hin hbk hcr hil hdc hcl HCR HS;generalize dur c q.size=d at hdc' hdb ⊢;go_enter Tryz.func74,Tryz.ntmps74;go_wp2_with fail;generalize (w.alloc (.cells #[.int .i64 0,.int .i64 0,.int .i64 0,.int .i64 0] 41))=W at HHB HB0 HGW HCR' HS' ⊢;generalize hh0:w.heap.size=h0 at HHB HB0 ⊢;clear g11 g13 hdc' hcl';go_loopw [10,11,12,28] (fun _ _ _ i' wr => ∃k:Nat,k≤l.length∧i' = .int .i64 k∧Below W.heap.size W wr∧hopF i c d f (l.drop k)=hopF i c d f l) (fun _ _ _ i' _=>l.length - (intOf i').toNat)
 case atStart=>exact ⟨0,Nat.zero_le _,rfl,Below.refl _ _,rfl⟩
 case round =>
  obtain ⟨k,hk,rfl,hbw,hh⟩:=hrel;have HBW:=Lib.hid hbw;have HH:=Lib.hid hh;have HBW0:Hid (Below h0 w wr):=by
   have h:=HB0.out;exact h.trans (hbw.mono (by rw[←hh0]; rw[←hh0] at h; exact h.size))
  clear hbw hh
  by_cases hlt:k<l.length
  ·obtain ⟨bs,os,rfl,hr⟩:=(HS'.out.below HBW.out).one (by omega)
   obtain ⟨s,hs⟩:∃s,l[k]? = some s:=⟨_,List.getElem?_eq_getElem hlt⟩;have hrg:wr.rangeAt bs (os+k * 2) (spE.f s):=hr k s hs;have c0:=Tp.rgSp hrg;have hb1:=HSB.out s (List.mem_of_getElem? hs);have HDR:Hid (l.drop k=s :: l.drop (k+1)):=by
    obtain ⟨h1,h2⟩:=List.getElem?_eq_some_iff.1 hs;show _=_;rw[List.drop_eq_getElem_cons h1,h2]
   have hk0:(0:Int)≤(k:Int):=by omega
   have hk1:(k:Int)<(l.length:Int):=by omega
   have HBX:Hid (Below wr.heap.size wr (wr.alloc (.cells #[.int .i64 s.frm,.int .i64 s.til] 142))):=(Below.refl _ _).alloc (Nat.le_refl _) _;have HNB:=Lib.hid ((HHB.out.below HBW.out HHB.out.lt).below HBX.out (HHB.out.below HBW.out HHB.out.lt).lt);have HBN:Hid (Below h0 w (wr.alloc (.cells #[.int .i64 s.frm,.int .i64 s.til] 142))):=HBW0.out.alloc (by have:=(HHB.out.below HBW.out HHB.out.lt).lt; omega) _
   have HBN2:Hid (Below W.heap.size W (wr.alloc (.cells #[.int .i64 s.frm,.int .i64 s.til] 142))):=HBW.out.alloc HBW.out.size _;have HSP:Hid (Bk (wr.alloc (.cells #[.int .i64 s.frm,.int .i64 s.til] 142)) wr.heap.size 142 #[.int .i64 s.frm,.int .i64 s.til]):=Bk.new _ _ _;have HGN:=Lib.hid ((HGW.out.below HBW.out HGW.out.lt).below HBX.out (HGW.out.below HBW.out HGW.out.lt).lt);have g1:=HGN.out.n1;have hcrW:=(HBW.out.cell (p:=⟨bc,oc+i * 7+5,none⟩) (World.block_lt_of_cell? _ _ HCR'.out)).trans HCR'.out;have hcr:(wr.alloc (.cells #[.int .i64 s.frm,.int .i64 s.til] 142)).cell? ⟨bc,oc+i * 7+5,none⟩=some (.int .i64 c.rng):=(HBX.out.cell (p:=⟨bc,oc+i * 7+5,none⟩) (World.block_lt_of_cell? _ _ hcrW)).trans hcrW;have r0:=HNB.out.c4;obtain ⟨f0,f1,f2,f3⟩:=HNB.out.f4;clear hr hs hrg hcrW HSP HGN
   by_cases hfit:max s.frm f+d≤s.til
   ·have HF:Hid (hopF i c d f l=some ⟨i,max s.frm f,max s.frm f+d,max s.frm f+d+c.rng⟩):=by
     show _=_;rw[←HH.out,HDR.out,hopF];rw[if_pos hfit]
    obtain ⟨⟨p0,p1,p2,p3⟩,hbf⟩:=hop4 (g:=h0) HNB.out HBN.out (Nat.le_refl _) (.int .i64 (i:Int)) (.int .i64 (max s.frm f)) (.int .i64 (max s.frm f+d)) (.int .i64 (max s.frm f+d+c.rng));clear HH HDR;go_wp2;generalize ((((wr.alloc (.cells #[.int .i64 s.frm,.int .i64 s.til] 142)).setCell ⟨h0,0,none⟩ (.int .i64 (i:Int))).setCell ⟨h0,1,none⟩ (.int .i64 (max s.frm f))).setCell ⟨h0,2,none⟩ (.int .i64 (max s.frm f+d))).setCell ⟨h0,3,none⟩ (.int .i64 (max s.frm f+d+c.rng))=WF at p0 p1 p2 p3 hbf ⊢;refine bodyPost_ret (v:=.tuple #[.agg #[.int .i64 (i:Int),.int .i64 (max s.frm f),.int .i64 (max s.frm f+d),.int .i64 (max s.frm f+d+c.rng)],.bool true]) (by simp[results,Tryz.results74,go_sem,p0,p1,p2,p3]) rfl ⟨?_,by rw[←hh0] at hbf; exact hbf⟩
    rw[HF.out]
    rfl
   ·have HF:Hid (hopF i c d f (l.drop (k+1))=hopF i c d f l):=by
     show _=_;rw[←HH.out,HDR.out,hopF];rw[if_neg hfit]
    clear HH HDR;go_wp2;go_roundw
    case rel=>exact ⟨k+1,by omega,by go_num,HBN2.out,HF.out⟩
    case measure=>simp[intOf]; omega
  ·have HF:Hid (hopF i c d f l=none):=by
    show _=_;rw[←HH.out,List.drop_of_length_le (by omega)]
    rfl
   have HNB:=Lib.hid (HHB.out.below HBW.out HHB.out.lt);have r0:=HNB.out.c4;obtain ⟨f0,f1,f2,f3⟩:=HNB.out.f4;obtain ⟨⟨p0,p1,p2,p3⟩,hbf⟩:=hop4 (g:=h0) HNB.out HBW0.out (Nat.le_refl _) (.int .i64 0) (.int .i64 0) (.int .i64 0) (.int .i64 0);clear HH;go_wp2;generalize (((wr.setCell ⟨h0,0,none⟩ (.int .i64 0)).setCell ⟨h0,1,none⟩ (.int .i64 0)).setCell ⟨h0,2,none⟩ (.int .i64 0)).setCell ⟨h0,3,none⟩ (.int .i64 0)=WF at p0 p1 p2 p3 hbf ⊢;refine bodyPost_ret (v:=.tuple #[.agg #[.int .i64 0,.int .i64 0,.int .i64 0,.int .i64 0],.bool false]) (by simp[results,Tryz.results74,go_sem,p0,p1,p2,p3]) rfl ⟨?_,by rw[←hh0] at hbf; exact hbf⟩
   rw[HF.out]
   rfl
def mvW (w:World)(G:Nat)(x:Lab):World:=(w.alloc (.cells #[.pointer (some ⟨G,0,none⟩)] 74)).alloc (.cells (lbA x) 81)
theorem Xjg (n G:Nat)(x:Lab)(w:World) :
  CallsIn Fence.wide n Tryz.prog 30 #[.pointer (some ⟨G,0,none⟩),.agg #[.int .i64 x.node,.int .i64 x.frm,.int .i64 x.til,.int .i64 x.time]] w fun e w' => e = .returned (.func (.func 72) #[] #[.pointer (some ⟨w.heap.size,0,none⟩),.pointer (some ⟨w.heap.size+1,0,none⟩)])∧w' = mvW w G x:=by
 refine callsIn_of_wp Tryz.func30 rfl trivial ?_ rfl;simp only[Tryz.ntmps30,List.size_toArray,List.length_cons,List.length_nil,Nat.reduceAdd,Nat.reduceSub,Array.replicate_succ,Array.replicate_zero,List.push_toArray,List.append_toArray,List.nil_append,List.cons_append];have hmf:=fun (fn:Fn) (first cap:Array Value) (w:World)=>(rfl:(Instr.makeFunc fn first cap).run Tryz.prog w = .ok (.func fn first cap) w)
 gi_wp2
 go_ret;exact ⟨rfl,rfl⟩
theorem Xmg (w:World)(G:Nat)(x:Lab):Bk (mvW w G x) w.heap.size 74 #[.pointer (some ⟨G,0,none⟩)] ∧ Bk (mvW w G x) (w.heap.size+1) 81 (lbA x)∧Below w.heap.size w (mvW w G x)∧(mvW w G x).heap.size=w.heap.size+2:=by
 unfold mvW;refine ⟨(Bk.new w _ _).alloc _,?_,((Below.refl _ _).alloc (Nat.le_refl _) _).alloc (by simp) _,by simp⟩
 have h:=Bk.new (w.alloc (.cells #[.pointer (some ⟨G,0,none⟩)] 74)) 81 (lbA x)
 rwa [World.size_alloc] at h
end Go.Proofs.YtebkgbmijocdjaaGreat.Tp
