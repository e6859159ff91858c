/- A part of the proof for the ledger. No condition beyond those that each theorem states. -/
import Derived.Test.YtebkgbmijocdjaaGreatZ45
set_option maxHeartbeats 32000000
set_option maxRecDepth 100000
set_option linter.unusedVariables false
set_option linter.unusedSimpArgs false
namespace Go.Proofs.YtebkgbmijocdjaaGreat.Tp
open Go Go.RowKit
theorem Xlu (Aq:Option Addr)(cq:Nat)(Ac:Option Addr)(cc:Nat)(B:Option Addr)(cb:Nat)(H:Option Addr)(ch:Nat)(t:Tbl)(q:Rq)(w:World)(ht:Xcm w Aq cq Ac cc B cb H ch t) :
  Calls Tryz.prog 119 #[.agg (tbA Aq cq Ac cc B cb H ch t),.agg (rqA q)] w (Xd (Xb5 t∧RqOK t.p q) w):=by
 have HT:=Lib.hid ht;obtain ⟨_,_,rfl,rfl,-,HB0,HK0,HK1⟩:=box2 w 29 (tbA Aq cq Ac cc B cb H ch t) 31 (rqA q);have HC1:=Lib.hid (Xfx Aq cq Ac cc B cb H ch t ((w.alloc (.cells (tbA Aq cq Ac cc B cb H ch t) 29)).alloc (.cells (rqA q) 31)) (ht.below HB0.out));have a0:=HK0.out.c4;have b0:=HK1.out.c7;clear ht;go_enter Tryz.func119,Tryz.ntmps119;go_wp2_with fail;clear a0 b0;generalize ((w.alloc (.cells (tbA Aq cq Ac cc B cb H ch t) 29)).alloc (.cells (rqA q) 31))=W at HB0 HK0 HK1 HC1 ⊢;generalize hn0:w.heap.size=n0 at HB0 HK0 HK1 ⊢;refine HC1.out.mono ?_;rintro e w1 ⟨z,rfl,hz,hb1⟩;have HB1:Hid (Below n0 w w1):=HB0.out.trans (hb1.mono (by have:=HK1.out.lt; omega))
 have HK10:=Lib.hid (HK0.out.below hb1 HK0.out.lt);have HK11:=Lib.hid (HK1.out.below hb1 HK1.out.lt);have HZ:=Lib.hid hz;clear hz hb1 HC1 HB0 HK0 HK1
 by_cases h0:z=0
 ·subst h0;have HC2:=Lib.hid (Xc5 Aq cq Ac cc t.p q w1 (HT.out.p.below (by rw[hn0]; exact HB1.out)))
  have a0:=HK10.out.c4;have b0:=HK11.out.c7;go_wp2_with fail;clear a0 b0;refine HC2.out.mono ?_;rintro e w2 ⟨y,rfl,hy,hb2⟩;have HB2:Hid (Below n0 w w2):=HB1.out.trans (hb2.mono (by have:=HK11.out.lt; omega))
  have HY:=Lib.hid hy;clear hy hb2 HC2
  by_cases h1:y=0
  ·subst h1;have HF:Hid (Xd (Xb5 t∧RqOK t.p q) w (.returned (.int .i64 0)) w2):=Xbf ⟨HZ.out.1 (by trivial),HY.out.1 (by trivial)⟩ (by rw[hn0]; exact HB2.out)
   go_wp2;go_ret;exact HF.out
  ·have d1:(y == 0)=false:=by simpa using h1
   have d2:(y != 0)=true:=by simpa using h1
   have HF:Hid (Xd (Xb5 t∧RqOK t.p q) w (.returned (.int .i64 1)) w2):=Xa2 (by decide) (fun h=>h1 (HY.out.2 h.2)) (by rw[hn0]; exact HB2.out)
   go_wp2;go_ret;exact HF.out
 ·have d1:(z == 0)=false:=by simpa using h0
  have d2:(z != 0)=true:=by simpa using h0
  have HF:Hid (Xd (Xb5 t∧RqOK t.p q) w (.returned (.int .i64 1)) w1):=Xa2 (by decide) (fun h=>h0 (HZ.out.2 h.1)) (by rw[hn0]; exact HB1.out)
  go_wp2;go_ret;exact HF.out
def Xka (w:World)(e:Ending)(w':World):Prop:=Below w.heap.size w w' ∧ ∃A n c z,e = .returned (.tuple #[.slice A n c,.int .i64 z])
theorem Xn0 (Aq:Option Addr)(cq:Nat)(Ac:Option Addr)(cc:Nat)(B:Option Addr)(cb:Nat)(H:Option Addr)(ch:Nat)(t:Tbl)(q:Rq)(w:World)(ht:Xcm w Aq cq Ac cc B cb H ch t) :
  Calls Tryz.prog 51 #[.agg (tbA Aq cq Ac cc B cb H ch t),.agg (rqA q)] w (Xka w):=by
 have HT:=Lib.hid ht;obtain ⟨_,_,rfl,rfl,-,HB0,HK0,HK1⟩:=box2 w 29 (tbA Aq cq Ac cc B cb H ch t) 31 (rqA q);have HC1:=Lib.hid (Xlu Aq cq Ac cc B cb H ch t q ((w.alloc (.cells (tbA Aq cq Ac cc B cb H ch t) 29)).alloc (.cells (rqA q) 31)) (ht.below HB0.out));have a0:=HK0.out.c4;have b0:=HK1.out.c7;clear ht;go_enter Tryz.func51,Tryz.ntmps51;go_wp2_with fail;clear a0 b0;generalize ((w.alloc (.cells (tbA Aq cq Ac cc B cb H ch t) 29)).alloc (.cells (rqA q) 31))=W at HB0 HK0 HK1 HC1 ⊢;generalize hn0:w.heap.size=n0 at HB0 HK0 HK1 ⊢;refine HC1.out.mono ?_;rintro e w1 ⟨z,rfl,hz,hb1⟩;have HB1:Hid (Below n0 w w1):=HB0.out.trans (hb1.mono (by have:=HK1.out.lt; omega))
 have HK10:=Lib.hid (HK0.out.below hb1 HK0.out.lt);have HK11:=Lib.hid (HK1.out.below hb1 HK1.out.lt);have HZ:=Lib.hid hz;clear hz hb1 HC1 HB0 HK0 HK1
 by_cases h0:z=0
 ·subst h0;have hok:=HZ.out.1 rfl;have HC2:=Lib.hid (Xes Aq cq Ac cc B cb H ch t q w1 (HT.out.below (by rw[hn0]; exact HB1.out)) hok.1 hok.2)
  have HOK:=Lib.hid hok;have a0:=HK10.out.c4;have b0:=HK11.out.c7;clear hok;go_wp2_with fail;clear a0 b0;refine HC2.out.mono ?_;rintro e w2 ⟨rfl,hb2⟩;have HB2:Hid (Below n0 w w2):=HB1.out.trans (hb2.mono (by have:=HK11.out.lt; omega))
  have HK20:=Lib.hid (HK10.out.below hb2 HK10.out.lt);have HK21:=Lib.hid (HK11.out.below hb2 HK11.out.lt);clear hb2 HC2;generalize Xdi t q=bf;cases bf with
  | some n =>
    unfold arvV;have HF:Hid (Xka w (.returned (.tuple #[.slice none 0 0,.int .i64 6])) w2):=⟨by rw[hn0]; exact HB2.out,none,0,0,6,rfl⟩
    go_wp2;go_ret2;exact HF.out
  | none =>
    unfold arvV;have HC3:=Lib.hid (Xjr Aq cq Ac cc B cb H ch t q w2 (HT.out.below (by rw[hn0]; exact HB2.out)) HOK.out.1 HOK.out.2)
    have a0:=HK20.out.c4;have b0:=HK21.out.c7;go_wp2_with fail;clear a0 b0;refine HC3.out.mono ?_;rintro e w3 ⟨⟨A,n,c,rfl⟩,hb3⟩;have HF:Hid (Xka w (.returned (.tuple #[.slice A n c,.int .i64 0])) w3):=⟨by rw[hn0]; exact HB2.out.trans (hb3.mono (by have:=HK21.out.lt; omega)),A,n,c,0,rfl⟩
    clear hb3 HC3;go_wp2;go_ret2;exact HF.out
 ·have d1:(z == 0)=false:=by simpa using h0
  have d2:(z != 0)=true:=by simpa using h0
  have HF:Hid (Xka w (.returned (.tuple #[.slice none 0 0,.int .i64 z])) w1):=⟨by rw[hn0]; exact HB1.out,none,0,0,z,rfl⟩
  go_wp2;go_ret2;exact HF.out
def TryPost (Aq:Option Addr)(cq:Nat)(Ac:Option Addr)(cc:Nat)(p:Pln)(now:Int)(q:Rq)(pm:List Hop)(ts:List Tk)(w:World)(e:Ending)(w':World):Prop:=Below w.heap.size w w' ∧ ((∃v,e = .returned (.tuple #[.pointer v,.bool false])) ∨ ∃(X:Nat)(x':ExV)(t2:Tbl)(m:List Hop),e = .returned (.tuple #[.pointer (some ⟨X,0,none⟩),.bool true])∧TblR p ts t2∧EarR { t2 with b:=Xgj (Xbk p now ts) now t2.b } q (some m)∧(pm ≠ [] → Xac m<Xac pm) ∧
 Xd0 p now (setT ts ⟨Xad ts,q,m,1,0⟩) (vicF p now m ts) x'.M x'.D (x'.ms.map (·.k))∧ExS w.heap.size X w Aq cq Ac cc p now x' w' ∧ x'.acc=true∧x'.num=Xad ts∧ExOK p x' ∧ x'.vs = [] ∧ ∃t',ExT p (x'.ms.map (·.k)) [] now t')
theorem try_any (Aq:Option Addr)(cq:Nat)(Ac:Option Addr)(cc:Nat)(p:Pln)(A:Option Addr)(ct:Nat)(ts:List Tk)(q:Rq)(Ap:Option Addr)(cp:Nat)(pm:List Hop)(now:Int)(w:World)(h:LgAt w Aq cq Ac cc p A ct ts)(hok:Xbe p)(hb:∀k ∈ ts,∀x ∈ k.hops,HopB p x)(hl:ts.length≤64)(hll:∀k ∈ ts,k.hops.length≤1000)(hnm:Xbh ts)(hnx:Xad ts≤1152921504606846976)(hpm:HpAt w Ap cp pm)(hpl:pm.length≤1000) :
  Calls Tryz.prog 50 #[.agg (lgA Aq cq Ac cc p A ts.length ct),.agg (rqA q),.slice Ap pm.length cp,.int .i64 now] w (TryPost Aq cq Ac cc p now q pm ts w):=by
 have HL:=Lib.hid h;have HOK:=Lib.hid hok;have HHB:=Lib.hid hb;have HTL:Hid (ts.length≤64):=hl;have HHL:=Lib.hid hll;have HNM:=Lib.hid hnm;have HNX:=Lib.hid hnx;have HPM:=Lib.hid hpm;have HPL:Hid (pm.length≤1000):=hpl;obtain ⟨_,_,rfl,rfl,-,HB0,HK0,HK1,HK2⟩:=box3 w 53 (lgA Aq cq Ac cc p A ts.length ct) 31 (rqA q) 3 #[.int .i64 now];have a0:=HK0.out.c4;have HTB:=Lib.hid (Xbt Aq cq Ac cc p A ct ts (((w.alloc (.cells (lgA Aq cq Ac cc p A ts.length ct) 53)).alloc (.cells (rqA q) 31)).alloc (.cells #[.int .i64 now] 3)) (h.below HB0.out) hok hb);have hmf:=fun (fn:Fn) (first cap:Array Value) (w:World)=>(rfl:(Instr.makeFunc fn first cap).run Tryz.prog w = .ok (.func fn first cap) w)
 clear h hok hb hl hll hnm hnx hpm hpl;go_enter Tryz.func50,Tryz.ntmps50;go_wp2_with fail;clear a0;have HSZ:Hid ((((w.alloc (.cells (lgA Aq cq Ac cc p A ts.length ct) 53)).alloc (.cells (rqA q) 31)).alloc (.cells #[.int .i64 now] 3)).heap.size=w.heap.size+1+1+1):=by show _=_; simp
 generalize (((w.alloc (.cells (lgA Aq cq Ac cc p A ts.length ct) 53)).alloc (.cells (rqA q) 31)).alloc (.cells #[.int .i64 now] 3))=W at HB0 HK0 HK1 HK2 HTB HSZ ⊢;generalize hn0:w.heap.size=n0 at HB0 HK0 HK1 HK2 HSZ ⊢;refine HTB.out.mono ?_;rintro e w1 ⟨⟨p',b,h⟩,B,cb,H,ch,hR,rfl,hT,⟨hrb,hrh⟩,hbe⟩;have hpe:p=p':=hR.1.symm;subst hpe;have HR:=Lib.hid hR;have HT:=Lib.hid hT;have HB1:Hid (Below n0 w w1):=HB0.out.trans (hbe.mono (by have:=HSZ.out; omega))
 have HM0:=Lib.hid (HK0.out.below hbe HK0.out.lt);have HM1:=Lib.hid (HK1.out.below hbe HK1.out.lt);have HM2:=Lib.hid (HK2.out.below hbe HK2.out.lt);have HRB:=Lib.hid hrb;have HRH:=Lib.hid hrh;clear hR hT hrb hrh hbe HB0 HK0 HK1 HK2 HTB
 dsimp only
 have HALT:Below w1.heap.size w1 (w1.alloc (.cells (tbB Aq cq Ac cc p B b cb H h ch) 29)):=(Below.refl _ _).alloc (Nat.le_refl _) _;have HB3:Hid (Below n0 w (w1.alloc (.cells (tbB Aq cq Ac cc p B b cb H h ch) 29))):=HB1.out.trans (HALT.mono (by have:=HM2.out.lt; omega))
 have HN0:=Lib.hid (HM0.out.below HALT HM0.out.lt);have HN1:=Lib.hid (HM1.out.below HALT HM1.out.lt);have HN2:=Lib.hid (HM2.out.below HALT HM2.out.lt);have HN3:Hid (Bk (w1.alloc (.cells (tbB Aq cq Ac cc p B b cb H h ch) 29)) w1.heap.size 29 (tbB Aq cq Ac cc p B b cb H h ch)):=Bk.new _ _ _;have HRN:Hid ((w1.alloc (.cells (tbB Aq cq Ac cc p B b cb H h ch) 29)).ownsRow (n0+3) 95 4 (.slice B b.length cb) b.length (b.flatMap bkE.f)):=by
  have h:=Xa6 HRB.out HALT
  rwa [HSZ.out] at h
 have HHN:Hid ((w1.alloc (.cells (tbB Aq cq Ac cc p B b cb H h ch) 29)).ownsRow (n0+3) 99 5 (.slice H h.length ch) h.length (h.flatMap hdE.f)):=by
  have h:=Xa6 HRH.out HALT
  rwa [HSZ.out] at h
 have HSZ1:Hid (n0+3≤w1.heap.size):=by have:=HM2.out.lt; show _≤_; omega
 have HWK:Hid (Calls Tryz.prog 113 #[.agg (lgA Aq cq Ac cc p A ts.length ct),.int .i64 now] (w1.alloc (.cells (tbB Aq cq Ac cc p B b cb H h ch) 29)) (Xcz intE (Xbk p now ts) (w1.alloc (.cells (tbB Aq cq Ac cc p B b cb H h ch) 29)))):=Xia Aq cq Ac cc p A ct ts now (w1.alloc (.cells (tbB Aq cq Ac cc p B b cb H h ch) 29)) (HL.out.below (by rw[hn0]; exact HB3.out)) HOK.out HHB.out
 have a0:=HN0.out.c4;have n0':=HN2.out.n0;clear HM0 HM1 HM2 HRB HRH HSZ HB1 HALT;go_wp2_with fail;clear a0 n0';generalize (w1.alloc (.cells (tbB Aq cq Ac cc p B b cb H h ch) 29))=W3 at HB3 HN0 HN1 HN2 HN3 HRN HHN HWK ⊢;generalize w1.heap.size=g10 at HN3 HSZ1 ⊢;obtain ⟨L,hL⟩:∃L,L=Xbk p now ts:=⟨_,rfl⟩;rw[←hL] at HWK;have HLE:=Lib.hid hL;have HLL:Hid (L.length≤64):=by
  have h1:=Xf5 p now ts;rw[←hL] at h1;have h2:=HTL.out;show _≤_;omega
 clear hL;refine HWK.out.mono ?_;rintro e w2 ⟨AL,cL,rfl,hs2,hc2,hba2,hb2⟩;have hal2:Below W3.heap.size W3 (w2.alloc (.cells #[.slice AL L.length cL] 22)):=hb2.alloc hb2.size _;have HB5:Hid (Below n0 w (w2.alloc (.cells #[.slice AL L.length cL] 22))):=HB3.out.trans (hal2.mono (by have:=HN2.out.lt; omega))
 have HP0:=Lib.hid (HN0.out.below hal2 HN0.out.lt);have HP1:=Lib.hid (HN1.out.below hal2 HN1.out.lt);have HP2:=Lib.hid (HN2.out.below hal2 HN2.out.lt);have HP3:=Lib.hid (HN3.out.below hal2 HN3.out.lt);have HP4:Hid (Bk (w2.alloc (.cells #[.slice AL L.length cL] 22)) w2.heap.size 22 #[.slice AL L.length cL]):=Bk.new _ _ _;have HRP:=Lib.hid (Xa6 HRN.out hal2);have HHP:=Lib.hid (Xa6 HHN.out hal2);have HSL:Hid (SlAt intE (w2.alloc (.cells #[.slice AL L.length cL] 22)) AL L):=hs2.below ((Below.refl _ _).alloc (Nat.le_refl _) _);have HBA:Hid (∀a,AL=some a→W3.heap.size≤a.block):=hba2;have HRL:Hid (∀r,(Value.slice B b.length cb).ownBlock=some r→n0+3≤r∧r<W3.heap.size):=fun r e=>HRN.out.lt r e;have HSZ5:Hid (n0+3≤(w2.alloc (.cells #[.slice AL L.length cL] 22)).heap.size):=by have h1:=hal2.size; have h2:=HN3.out.lt; have h3:=HSZ1.out; show _≤_; omega
 clear hs2 hc2 hba2 hb2 HN0 HN1 HN2 HN3 HRN HHN HB3 HWK hal2;obtain ⟨PD,hPD⟩:∃PD:Bkg→Bool,PD=fun y=>L.contains y.tick && decide (now<y.beg):=⟨_,rfl⟩;have hbm:b.length≤400000:=by
  have h1:=HR.out.b.length_eq;have h2:=Xk2 (ts:=ts) (fun k hk=>by have:=HHL.out k hk; omega)
  have h3:=HTL.out;have h1:b.length=(bksA ts).length:=h1;omega
 have HDL:=Lib.hid (Xrc w2.heap.size (n0+1+1) (n0+3) PD (.slice B b.length cb) b (w2.alloc (.cells #[.slice AL L.length cL] 22)) HRP.out HSZ5.out (fun y hy w' hg=>by
  have h:=Xrd w2.heap.size (n0+1+1) AL cL L now y w' ((HP4.out.grown hg (Xa1 HP4.out (by decide) HRP.out)).cell 0) ((HP2.out.grown hg (Xa1 HP2.out (by decide) HRP.out)).cell 0) (Xdc HSL.out hg (fun a _ e h2=>by
   have h3:=HBA.out a e;have h4:=(HRL.out a.block h2.symm).2;omega)) (by have:=HLL.out; omega)
  rwa [hPD]) (by omega))
 have HFE:Hid ((b.filter fun y => !PD y)=Xgj L now b):=by rw[hPD]; rfl
 clear hPD;generalize (b.filter fun y => !PD y)=F at HDL HFE;have q0:=HP3.out.c4;go_wp2_with fail;clear q0;generalize (w2.alloc (.cells #[.slice AL L.length cL] 22))=W5 at HB5 HP0 HP1 HP2 HP3 HP4 HRP HHP HSL HSZ5 HDL ⊢;generalize w2.heap.size=g11 at HP4 HDL ⊢;refine HDL.out.mono ?_;rintro e w6 ⟨v',rfl,hrow,hob,hg⟩;obtain ⟨B',cF,rfl,hs6,hc6, -⟩:=Xab (E:=bkE) hrow;have HR6:=Lib.hid hrow;have HB6:Hid (Below n0 w w6):=HB5.out.grown hg (by have:=HP2.out.lt; omega) (fun r e=>by have:=(HRP.out.lt r e).1; omega)
 have HQ0:=Lib.hid (HP0.out.grown hg (Xa1 HP0.out (by decide) HRP.out))
 have HQ1:=Lib.hid (HP1.out.grown hg (Xa1 HP1.out (by decide) HRP.out))
 have HQ2:=Lib.hid (HP2.out.grown hg (Xa1 HP2.out (by decide) HRP.out))
 have HQ3:=Lib.hid (HP3.out.grown hg (Xa1 HP3.out (by decide) HRP.out))
 have HH6:=Lib.hid (Xbz HRP.out HHP.out (by decide) hg)
 clear hrow hob hg hs6 hc6 HDL HP0 HP1 HP2 HP3 HP4 HRP HHP HB5 HSL HBA HRL;have q0:=HQ3.out.c4;have f0:=HQ3.out.f4;go_upto_region 4 with fail
 have hne0:n0 ≠ g10:=by have:=HSZ1.out; omega
 have hne1:n0+1 ≠ g10:=by have:=HSZ1.out; omega
 have hne2:n0+1+1 ≠ g10:=by have:=HSZ1.out; omega
 have HV0:=Lib.hid (HQ0.out.other (p:=⟨g10,2,none⟩) hne0 (.slice B' F.length cF));have HV1:=Lib.hid (HQ1.out.other (p:=⟨g10,2,none⟩) hne1 (.slice B' F.length cF));have HV2:=Lib.hid (HQ2.out.other (p:=⟨g10,2,none⟩) hne2 (.slice B' F.length cF));have HV3:=Lib.hid (HQ3.out.put 2 (.slice B' F.length cF));have HVB:Hid (Below n0 w (w6.setCell ⟨g10,2,none⟩ (.slice B' F.length cF))):=HB6.out.setCell (p:=⟨g10,2,none⟩) (by have:=HSZ1.out; show n0≤g10; omega) _
 have HVR:Hid ((w6.setCell ⟨g10,2,none⟩ (.slice B' F.length cF)).ownsRow (n0+3) 95 4 (.slice B' F.length cF) F.length (F.flatMap bkE.f)):=HR6.out.kept (Xa0 _ _ _ _) (.inr (Xa1 HQ3.out (by decide) HR6.out).symm)
 have HVH:Hid ((w6.setCell ⟨g10,2,none⟩ (.slice B' F.length cF)).ownsRow (n0+3) 99 5 (.slice H h.length ch) h.length (h.flatMap hdE.f)):=HH6.out.kept (Xa0 _ _ _ _) (.inr (Xa1 HQ3.out (by decide) HH6.out).symm)
 clear HQ0 HQ1 HQ2 HQ3 HB6 HR6 HH6 q0 f0 hne0 hne1 hne2;generalize w6.setCell ⟨g10,2,none⟩ (.slice B' F.length cF)=w7 at HV0 HV1 HV2 HV3 HVB HVR HVH ⊢;have HTA:Hid (Xcm w7 Aq cq Ac cc B' cF H ch ⟨p,F,h⟩):=by
  obtain ⟨A3,c3,e3,hsb,hcb, -⟩:=Xab (E:=bkE) HVR.out;obtain ⟨A4,c4,e4,hsh,hch, -⟩:=Xab (E:=hdE) HVH.out
  injection e3 with e31 _ e33
  injection e4 with e41 _ e43
  subst e31 e33 e41 e43;refine ⟨HL.out.p.below (by rw[hn0]; exact HVB.out),hsb,hsh,hcb,hch,?_,HT.out.hm⟩
  have h2:F.length≤b.length:=by
   rw[HFE.out];exact List.length_filter_le _ _
  unfold maxLen;show F.length≤_;omega
 clear HVR HVH;have q0:=HV3.out.c4;have b0:=HV1.out.c7;go_wp2_with fail;clear q0 b0;refine (Xdq Aq cq Ac cc B' cF H ch ⟨p,F,h⟩ q w7 HTA.out).mono ?_;rintro e w8 ⟨hb8,hpost⟩;have HB8:Hid (Below n0 w w8):=HVB.out.trans (hb8.mono (by have:=HV2.out.lt; omega))
 have HU0:=Lib.hid (HV0.out.below hb8 HV0.out.lt);have HU1:=Lib.hid (HV1.out.below hb8 HV1.out.lt);have HU2:=Lib.hid (HV2.out.below hb8 HV2.out.lt);clear hb8 HV0 HV1 HV2 HV3 HVB HTA;rcases hpost with ⟨x,hx,rfl, -⟩ | ⟨m,Mh,cM,hear,rfl,hhm⟩
 ·have HF:Hid (TryPost Aq cq Ac cc p now q pm ts w (.returned (.tuple #[.pointer none,.bool false])) w8):=⟨by rw[hn0]; exact HB8.out,.inl ⟨none,rfl⟩⟩
  have d1:(x == 0)=false:=by simpa using hx
  have d2:(x != 0)=true:=by simpa using hx
  clear hx;go_wp2;go_ret2;exact HF.out
 ·have HEA:=Lib.hid hear;have HMH:=Lib.hid hhm;clear hear hhm;go_upto_region 5 with fail
  go_cut [44] from 45 (fun s44 wc => ∃v:Bool,s44 = .bool v∧(v=false→pm ≠ [] → Xac m<Xac pm)∧Below w8.heap.size w8 wc)
  case first =>
   have HB0:Hid (Below w8.heap.size w8 w8):=Below.refl _ _
   by_cases hpn:pm = []
   ·subst hpn;go_wp2;go_meet
    case rel=>exact ⟨false,rfl,fun _ h=>absurd rfl h,HB0.out⟩
   ·have hlp:(0:Int)<(pm.length:Int):=by
     have:=List.length_pos_iff.2 hpn;omega
    have d0:decide ((pm.length:Int) > 0)=true:=decide_eq_true hlp;have HPN:Hid (pm ≠ []):=hpn;have HA1:=Lib.hid (Xfl Mh cM m w8 HMH.out.s HEA.out.good.1 (by
     obtain ⟨_,_,n',_,hg⟩:=HEA.out.good;have:=hg.rt.2.2.1;omega))
    clear hpn;go_wp2_with fail;refine HA1.out.mono ?_;rintro e w9 ⟨rfl,hb9⟩;have HB9:=Lib.hid hb9;have HA2:=Lib.hid (Xfl Ap cp pm w9 ((HPM.out.below (by rw[hn0]; exact HB8.out)).below hb9).s HPN.out (by have:=HPL.out; omega))
    clear hb9 HA1;go_wp2_with fail;refine HA2.out.mono ?_;rintro e w10 ⟨rfl,hb10⟩;have HB10:Hid (Below w8.heap.size w8 w10):=Xa HB9.out hb10;clear hb10 HA2
    by_cases hle:Xac pm≤Xac m
    ·have d1:decide (Xac m ≥ Xac pm)=true:=decide_eq_true hle;clear hle;go_wp2;go_meet
     case rel=>exact ⟨true,by first | rfl | simp[d1],fun h=>(by cases h),HB10.out⟩
    ·have d1:decide (Xac m ≥ Xac pm)=false:=decide_eq_false hle;have HLT:Hid (Xac m<Xac pm):=by show _<_; omega
     clear hle;go_wp2;go_meet
     case rel=>exact ⟨false,by first | rfl | simp[d1] | (have:=HLT.out; simp; omega),fun _ _=>HLT.out,HB10.out⟩
  case rest =>
   obtain ⟨v,rfl,hlt,hb9⟩:=hcut;have HLT:=Lib.hid hlt;have HB9:Hid (Below n0 w wc):=HB8.out.trans (hb9.mono (by have:=HU2.out.lt; omega))
   have HX0:=Lib.hid (HU0.out.below hb9 HU0.out.lt);have HX1:=Lib.hid (HU1.out.below hb9 HU1.out.lt);have HX2:=Lib.hid (HU2.out.below hb9 HU2.out.lt);have HMH9:=Lib.hid (HMH.out.below hb9);obtain ⟨w9,rfl⟩:∃v,v=wc:=⟨_,rfl⟩;clear hlt hb9 HU0 HU1 HU2 HB8 HMH;cases v with
   | true =>
     have HF:Hid (TryPost Aq cq Ac cc p now q pm ts w (.returned (.tuple #[.pointer none,.bool false])) w9):=⟨by rw[hn0]; exact HB9.out,.inl ⟨none,rfl⟩⟩
     go_wp2;go_ret2;exact HF.out
   | false =>
     go_wp2_with fail;obtain ⟨ms,hms,hsl,hhp⟩:=HL.out.t;have HMS:Hid (ms.map (·.k)=ts):=hms;have HSM:=Lib.hid hsl;have HHP:=Lib.hid hhp;have HML:Hid (ts.length=ms.length):=by show ts.length=ms.length; rw[←hms,List.length_map]
     have HSFS:Hid (∀W',Bk W' n0 53 (lgA Aq cq Ac cc p A ts.length ct)→Bk W' (n0+1+1) 3 #[.int .i64 now] → (fun w' => w'.cell? ⟨n0,0,none⟩=some (.slice Aq p.q.length cq)∧w'.cell? ⟨n0,1,none⟩=some (.slice Ac p.c.length cc)∧w'.cell? ⟨n0,2,none⟩=some (.slice none 0 0)∧w'.cell? ⟨n0,3,none⟩=some (.slice A ts.length ct)∧w'.cell? ⟨n0+1+1,0,none⟩=some (.int .i64 now)) W'):=fun W' h1 h2=>⟨h1.cell 0,h1.cell 1,h1.cell 2,h1.cell 3,h2.cell 0⟩;clear hms hsl hhp;go_cut [14] from 15 (fun s14 wc => ∃X vT,s14 = .pointer (some ⟨X,0,none⟩)∧ExS n0 X w Aq cq Ac cc p now ⟨vT,ms,none,0, [],false,0,.slice none 0 0, [],.slice none 0 0, []⟩ wc∧Below w9.heap.size w9 wc)
     case first =>
      refine Xam (S:=fun w' => w'.cell? ⟨n0,0,none⟩=some (.slice Aq p.q.length cq)∧w'.cell? ⟨n0,1,none⟩=some (.slice Ac p.c.length cc)∧w'.cell? ⟨n0,2,none⟩=some (.slice none 0 0)∧w'.cell? ⟨n0,3,none⟩=some (.slice A ts.length ct)∧w'.cell? ⟨n0+1+1,0,none⟩=some (.int .i64 now)) [] (by kernel_rfl) (HSFS.out _ (HX0.out.below (Below.refl _ _).drew HX0.out.lt) (HX2.out.below (Below.refl _ _).drew HX2.out.lt)) (fun hHeld=>?_)
      have HBV:Hid (Below w9.heap.size w9 w9.drew):=(Below.refl _ _).drew;generalize w9.drew=U at HBV hHeld ⊢;refine tkG 0 (.agg (lgA Aq cq Ac cc p A ts.length ct)) ?_;refine tkG 2 (.int .i64 now) ?_;refine Xaa (i:=1) rfl (by kernel_rfl) (by rfl) (fun K hK=>?_)
      go_simp;have hbu:Below n0 w U:=HB9.out.trans (HBV.out.mono (by have:=HX2.out.lt; omega))
      refine (open_any Aq cq Ac cc p A ts.length ct ms U (HSM.out.below (by rw[hn0]; exact hbu)) HML.out (by have h1:=HML.out; have h2:=HTL.out; omega)).mono ?_
      rintro e w10 ⟨B2,cb2,rfl,hrow,hb10⟩;have HB10:Hid (Below w9.heap.size w9 w10):=Xa HBV.out hb10;have HRW:Hid (w10.ownsRow n0 55 11 (.slice B2 ms.length cb2) ms.length (ms.flatMap tmE.f)):=Xgl hrow (by have h1:=HBV.out.size; have h2:=HX2.out.lt; omega)
      refine hK _ _ (HSFS.out _ (HX0.out.below HB10.out HX0.out.lt) (HX2.out.below HB10.out HX2.out.lt)) ?_;clear hK K hHeld hb10 hrow hbu HBV;have hHeld:(fun w' => w'.cell? ⟨n0,0,none⟩=some (.slice Aq p.q.length cq)∧w'.cell? ⟨n0,1,none⟩=some (.slice Ac p.c.length cc)∧w'.cell? ⟨n0,2,none⟩=some (.slice none 0 0)∧w'.cell? ⟨n0,3,none⟩=some (.slice A ts.length ct)∧w'.cell? ⟨n0+1+1,0,none⟩=some (.int .i64 now)) w10:=HSFS.out _ (HX0.out.below HB10.out HX0.out.lt) (HX2.out.below HB10.out HX2.out.lt)
      try simp only[PU]
      refine tkF 3 _ ?_;clear hHeld;refine Xaa (i:=4) rfl (by kernel_rfl) (by rfl) (fun K hK=>?_)
      go_simp;have hal:Below w10.heap.size w10 (w10.alloc (.cells #[.slice Aq p.q.length cq,.slice Ac p.c.length cc,.slice none 0 0,.slice B2 ms.length cb2,.int .i64 now,.slice none 0 0,.bool false,.int .i64 0,.slice none 0 0,.slice none 0 0,.slice none 0 0] 120)):=(Below.refl _ _).alloc (Nat.le_refl _) _;have HB11:Hid (Below w9.heap.size w9 (w10.alloc (.cells #[.slice Aq p.q.length cq,.slice Ac p.c.length cc,.slice none 0 0,.slice B2 ms.length cb2,.int .i64 now,.slice none 0 0,.bool false,.int .i64 0,.slice none 0 0,.slice none 0 0,.slice none 0 0] 120))):=Xa HB10.out hal;have hb0:Below n0 w (w10.alloc (.cells #[.slice Aq p.q.length cq,.slice Ac p.c.length cc,.slice none 0 0,.slice B2 ms.length cb2,.int .i64 now,.slice none 0 0,.bool false,.int .i64 0,.slice none 0 0,.slice none 0 0,.slice none 0 0] 120)):=HB9.out.trans (HB11.out.mono (by have:=HX2.out.lt; omega))
      have hnX:n0≤w10.heap.size:=by have h1:=HB10.out.size; have h2:=HX2.out.lt; omega
      have HS11:Hid (ExS n0 w10.heap.size w Aq cq Ac cc p now ⟨.slice B2 ms.length cb2,ms,none,0, [],false,0,.slice none 0 0, [],.slice none 0 0, []⟩ (w10.alloc (.cells #[.slice Aq p.q.length cq,.slice Ac p.c.length cc,.slice none 0 0,.slice B2 ms.length cb2,.int .i64 now,.slice none 0 0,.bool false,.int .i64 0,.slice none 0 0,.slice none 0 0,.slice none 0 0] 120))) :=
       ⟨⟨hb0,Xa6 HRW.out hal,World.ownsRow_nil _ _ _ _,World.ownsRow_nil _ _ _ _,SlAt.nil _ _,Nat.le_refl _,fun a e=>(nomatch e),fun r e=>(nomatch e),fun y hy=>(HHP.out y hy).below (by rw[hn0]; exact hb0),Nat.le_trans hnX hal.size⟩,Bk.new _ _ _,hnX⟩
      refine hK _ _ (HSFS.out _ (HX0.out.below HB11.out HX0.out.lt) (HX2.out.below HB11.out HX2.out.lt)) ?_;have hHeld:(fun w' => w'.cell? ⟨n0,0,none⟩=some (.slice Aq p.q.length cq)∧w'.cell? ⟨n0,1,none⟩=some (.slice Ac p.c.length cc)∧w'.cell? ⟨n0,2,none⟩=some (.slice none 0 0)∧w'.cell? ⟨n0,3,none⟩=some (.slice A ts.length ct)∧w'.cell? ⟨n0+1+1,0,none⟩=some (.int .i64 now)) (w10.alloc (.cells #[.slice Aq p.q.length cq,.slice Ac p.c.length cc,.slice none 0 0,.slice B2 ms.length cb2,.int .i64 now,.slice none 0 0,.bool false,.int .i64 0,.slice none 0 0,.slice none 0 0,.slice none 0 0] 120)):=HSFS.out _ (HX0.out.below HB11.out HX0.out.lt) (HX2.out.below HB11.out HX2.out.lt);clear hK K hal hb0 hnX HRW HB10
      try simp only[PU]
      generalize w10.alloc (.cells #[.slice Aq p.q.length cq,.slice Ac p.c.length cc,.slice none 0 0,.slice B2 ms.length cb2,.int .i64 now,.slice none 0 0,.bool false,.int .i64 0,.slice none 0 0,.slice none 0 0,.slice none 0 0] 120)=w11 at HB11 HS11 hHeld ⊢;generalize w10.heap.size=X at HS11 ⊢;refine tkF 5 _ ?_;refine Xbd (by kernel_rfl) ?_
      clear hHeld;go_wp2;go_meet
      case rel=>exact ⟨X,_,rfl,HS11.out,HB11.out⟩
     case rest =>
      obtain ⟨X,vT,rfl,hs11,hb11⟩:=hcut;have HY1:=Lib.hid (HX1.out.below hb11 HX1.out.lt);have HMK:Hid (Calls Tryz.prog 118 #[.pointer (some ⟨X,0,none⟩),.agg (rqA q),.slice Mh m.length cM] wc (Xdt X Aq cq Ac cc p now q m ts n0 w)):=by
       have hrt:=HEA.out.good.2.2;obtain ⟨n',_,hg⟩:=hrt;have hrt:=hg.rt;have h:=Xot X Aq cq Ac cc p now q Mh cM m ms vT w wc HL.out.p HOK.out (by rw[hn0]; exact hs11) (by have h1:=HML.out; have h2:=HTL.out; omega) (fun y hy=>HHB.out y.k (by rw[←HMS.out]; exact List.mem_map.2 ⟨y,hy,rfl⟩)) (fun y hy=>HHL.out y.k (by rw[←HMS.out]; exact List.mem_map.2 ⟨y,hy,rfl⟩)) (by rw[HMS.out]; exact HNM.out) (by rw[HMS.out]; exact HNX.out) (HMH9.out.below hb11) (Xc3 hrt.1 hrt.2.2.2.1) hrt.2.2.1
       rwa [HMS.out,hn0] at h
      obtain ⟨w11,rfl⟩:∃v,v=wc:=⟨_,rfl⟩;clear hs11 hb11;have b0:=HY1.out.c7;go_wp2_with fail;refine HMK.out.mono ?_;rintro e w12 ⟨hbe,rfl | ⟨rfl,x',hmv,hs,ha,hn,ho,hvs,hext⟩⟩
      ·have HF:Hid (TryPost Aq cq Ac cc p now q pm ts w (.returned (.tuple #[.pointer (some ⟨X,0,none⟩),.bool false])) w12):=⟨by rw[hn0]; exact hbe,.inl ⟨_,rfl⟩⟩
       clear hbe HMK;go_wp2;go_ret2;exact HF.out
      ·have HF:Hid (TryPost Aq cq Ac cc p now q pm ts w (.returned (.tuple #[.pointer (some ⟨X,0,none⟩),.bool true])) w12):=⟨by rw[hn0]; exact hbe,.inr ⟨X,x',⟨p,b,h⟩,m,rfl,HR.out,by
        have h1:=HEA.out;rw[HFE.out,HLE.out] at h1;exact h1,HLT.out (by trivial),hmv,by rw[hn0]; exact hs,ha,hn,ho,hvs,hext⟩⟩
       clear hbe hmv hs ha hn ho hvs hext HMK;go_wp2;go_ret2;exact HF.out
end Go.Proofs.YtebkgbmijocdjaaGreat.Tp
