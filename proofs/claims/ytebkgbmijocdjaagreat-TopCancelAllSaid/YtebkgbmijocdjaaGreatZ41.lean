/- A part of the proof for the ledger. No condition beyond those that each theorem states. -/
import Derived.Test.YtebkgbmijocdjaaGreatZ40
set_option maxHeartbeats 32000000
set_option maxRecDepth 100000
set_option linter.unusedVariables false
set_option linter.unusedSimpArgs false
namespace Go.Proofs.YtebkgbmijocdjaaGreat.Tp
open Go Go.RowKit
def Xk8 (p:Pln)(Aq:Option Addr)(cq:Nat)(Ac:Option Addr)(cc:Nat)(ts:List Tk)(vs:List Int)(now:Int)(w:World)(e:Ending)(w':World):Prop:=Below w.heap.size w w' ∧ ((e = .panicked [{ v:=.iface 237 (.agg #[]),recovered:=false }]) ∨ ∃(t:Tbl)(B:Option Addr)(cb:Nat)(H:Option Addr)(ch:Nat),ExT p ts vs now t∧e = .returned (.agg (tbA Aq cq Ac cc B cb H ch t))∧Xcm w' Aq cq Ac cc B cb H ch t)
theorem Xqk {t:Tbl}(h:Xi5 t=false):Xf3 t:=by
 unfold Xi5 at h;simp only[Bool.or_eq_false_iff,decide_eq_false_iff_not] at h;exact ⟨by omega,by omega⟩
theorem Xgf (X:Nat)(Aq:Option Addr)(cq:Nat)(Ac:Option Addr)(cc:Nat)(p:Pln)(A:Option Addr)(ct:Nat)(ts:List Tk)(now:Int)(V:Option Addr)(cV:Nat)(vs:List Int)(r6 r7 r8 r9 r10:Value)(w:World)(h:LgAt w Aq cq Ac cc p A ct ts)(hok:Xbe p)(hb:∀k ∈ ts,∀x ∈ k.hops,HopB p x)(hx:Bk w X 120 #[.slice Aq p.q.length cq,.slice Ac p.c.length cc,.slice none 0 0,.slice A ts.length ct,.int .i64 now,.slice V vs.length cV,r6,r7,r8,r9,r10])(hv:SlAt intE w V vs)(hvl:vs.length≤1000) :
  Calls Tryz.prog 167 #[.pointer (some ⟨X,0,none⟩)] w (Xk8 p Aq cq Ac cc ts vs now w):=by
 have HL:=Lib.hid h;have HX:=Lib.hid hx;have HV:=Lib.hid hv;have HVL:Hid (vs.length≤1000):=hvl;obtain ⟨_,_,rfl,rfl,-,HB0,HK0,HK1⟩:=box2 w 114 #[.pointer (some ⟨X,0,none⟩)] 29 #[.slice none 0 0,.slice none 0 0,.slice none 0 0,.slice none 0 0];have HXW:=Lib.hid (HX.out.below HB0.out HX.out.lt);have HTB:=Lib.hid (Xbt Aq cq Ac cc p A ct ts ((w.alloc (.cells #[.pointer (some ⟨X,0,none⟩)] 114)).alloc (.cells #[.slice none 0 0,.slice none 0 0,.slice none 0 0,.slice none 0 0] 29)) (h.below HB0.out) hok hb);have x0:=HXW.out.c4;have k0:=HK0.out.n0;have hmf:=fun (fn:Fn) (first cap:Array Value) (w:World)=>(rfl:(Instr.makeFunc fn first cap).run Tryz.prog w = .ok (.func fn first cap) w)
 clear h hx hv hvl hok hb;go_enter Tryz.func167,Tryz.ntmps167;go_wp2_with fail;clear x0 k0;have HSZ:Hid (((w.alloc (.cells #[.pointer (some ⟨X,0,none⟩)] 114)).alloc (.cells #[.slice none 0 0,.slice none 0 0,.slice none 0 0,.slice none 0 0] 29)).heap.size=w.heap.size+1+1):=by show _=_; simp
 generalize ((w.alloc (.cells #[.pointer (some ⟨X,0,none⟩)] 114)).alloc (.cells #[.slice none 0 0,.slice none 0 0,.slice none 0 0,.slice none 0 0] 29))=W at HB0 HK0 HK1 HXW HTB HSZ ⊢;generalize hn0:w.heap.size=n0 at HB0 HK0 HK1 HSZ ⊢;refine HTB.out.mono ?_;rintro e w1 ⟨⟨p',b,h⟩,B,cb,H,ch,hR,rfl,hT,⟨hrb,hrh⟩,hbe⟩;have hpe:p=p':=hR.1.symm;subst hpe;have HR:=Lib.hid hR;have HT:=Lib.hid hT;have HRB:=Lib.hid hrb;have HRH:=Lib.hid hrh;have HB1:Hid (Below n0 w w1):=HB0.out.trans (hbe.mono (by have:=HSZ.out; omega))
 have HM0:=Lib.hid (HK0.out.below hbe HK0.out.lt);have HM1:=Lib.hid (HK1.out.below hbe HK1.out.lt);have HXM:=Lib.hid (HXW.out.below hbe HXW.out.lt);clear hR hT hrb hrh hbe HB0 HK0 HK1 HXW HTB
 dsimp only
 have HB3:Hid (Below n0 w (w1.alloc (.cells (tbB Aq cq Ac cc p B b cb H h ch) 29))):=HB1.out.alloc (by have:=HM1.out.lt; omega) _
 have HN0:=Lib.hid (HM0.out.alloc (.cells (tbB Aq cq Ac cc p B b cb H h ch) 29));have HN1:=Lib.hid (HM1.out.alloc (.cells (tbB Aq cq Ac cc p B b cb H h ch) 29));have HN3:Hid (Bk (w1.alloc (.cells (tbB Aq cq Ac cc p B b cb H h ch) 29)) w1.heap.size 29 (tbB Aq cq Ac cc p B b cb H h ch)):=Bk.new _ _ _;have HXN:=Lib.hid (HXM.out.alloc (.cells (tbB Aq cq Ac cc p B b cb H h ch) 29));have HRN:Hid ((w1.alloc (.cells (tbB Aq cq Ac cc p B b cb H h ch) 29)).ownsRow (n0+1+1) 95 4 (.slice B b.length cb) b.length (b.flatMap bkE.f)):=by
  have h:=HRB.out.alloc (.cells (tbB Aq cq Ac cc p B b cb H h ch) 29)
  rwa [HSZ.out] at h
 have HHN:Hid ((w1.alloc (.cells (tbB Aq cq Ac cc p B b cb H h ch) 29)).ownsRow (n0+1+1) 99 5 (.slice H h.length ch) h.length (h.flatMap hdE.f)):=by
  have h:=HRH.out.alloc (.cells (tbB Aq cq Ac cc p B b cb H h ch) 29)
  rwa [HSZ.out] at h
 have HSZ1:Hid (n0+1+1≤w1.heap.size):=by have:=HM1.out.lt; show _≤_; omega
 have HFU:Hid (Calls Tryz.prog 55 #[.agg (tbB Aq cq Ac cc p B b cb H h ch)] (w1.alloc (.cells (tbB Aq cq Ac cc p B b cb H h ch) 29)) fun e w' => e = .returned (.bool (Xi5 ⟨p,b,h⟩))∧Below (w1.alloc (.cells (tbB Aq cq Ac cc p B b cb H h ch) 29)).heap.size (w1.alloc (.cells (tbB Aq cq Ac cc p B b cb H h ch) 29)) w'):=Xnn Aq cq Ac cc B cb H ch ⟨p,b,h⟩ (w1.alloc (.cells (tbB Aq cq Ac cc p B b cb H h ch) 29));have HSZ3:Hid ((w1.alloc (.cells (tbB Aq cq Ac cc p B b cb H h ch) 29)).heap.size=w1.heap.size+1):=World.size_alloc _ _;have t0:=HN3.out.c4;clear HM0 HM1 HXM HRB HRH HSZ HB1;go_wp2_with fail;clear t0;generalize (w1.alloc (.cells (tbB Aq cq Ac cc p B b cb H h ch) 29))=W3 at HB3 HN0 HN1 HN3 HXN HRN HHN HFU HSZ3 ⊢;generalize w1.heap.size=g3 at HN3 HSZ1 HSZ3 ⊢;refine HFU.out.mono ?_;rintro e w4 ⟨rfl,hb4⟩;have HB4:Hid (Below n0 w w4):=HB3.out.trans (hb4.mono (by have:=HN0.out.lt; omega))
 have HP0:=Lib.hid (HN0.out.below hb4 HN0.out.lt);have HP1:=Lib.hid (HN1.out.below hb4 HN1.out.lt);have HP3:=Lib.hid (HN3.out.below hb4 HN3.out.lt);have HXP:=Lib.hid (HXN.out.below hb4 HXN.out.lt);have HRP:=Lib.hid (Xa6 HRN.out hb4);have HHP:=Lib.hid (Xa6 HHN.out hb4);have HSZ4:Hid (g3+1≤w4.heap.size):=by have:=hb4.size; have:=HSZ3.out; show _≤_; omega
 clear hb4 HFU HB3 HN0 HN1 HN3 HXN HRN HHN HSZ3;cases hfu:Xi5 ⟨p,b,h⟩ with
 | true =>
   have HPO:Hid (Xk8 p Aq cq Ac cc ts vs now w (.panicked [{ v:=.iface 237 (.agg #[]),recovered:=false }]) w4):=⟨by rw[hn0]; exact HB4.out,.inl rfl⟩
   clear hfu;go_wp2;exact ⟨rfl,HPO.out⟩
 | false =>
   have HNF:=Lib.hid (Xqk hfu);obtain ⟨PD,hPD⟩:∃PD:Bkg→Bool,PD=fun y=>vs.contains y.tick && decide (now<y.beg):=⟨_,rfl⟩;have HDL:=Lib.hid (Xtr n0 (n0+1+1) PD (.slice B b.length cb) b w4 HRP.out (by have:=HSZ1.out; have:=HSZ4.out; omega) (fun y hy w' hg=>by
    have hlt:=fun r e=>(HRP.out.lt r e).1;have h:=Xm4 n0 X V cV vs now y w' ((HP0.out.grown hg (Xa1 HP0.out (by decide) HRP.out)).cell 0) ((HXP.out.grown hg (Xa1 HXP.out (by decide) HRP.out)).cell 5) ((HXP.out.grown hg (Xa1 HXP.out (by decide) HRP.out)).cell 4) (Xdc (HV.out.below (by rw[hn0]; exact HB4.out)) hg (fun a hne e h2=>by
     obtain ⟨b',off,e2,hr⟩:=HV.out.one (List.length_pos_iff.2 hne);rw[e] at e2;cases e2;have h3:=hr 0 _ (List.getElem?_eq_getElem (List.length_pos_iff.2 hne)) 0 _ rfl;have h4:=World.block_lt_of_cell? _ _ h3;have h5:=hlt b' h2.symm;simp only at h4;omega)) (by have:=HVL.out; omega)
    rwa [hPD]) (by have h1:b.length≤512:=HNF.out.1; omega))
   have HFE:Hid ((b.filter fun y => !PD y)=Xgj vs now b):=by rw[hPD]; rfl
   clear hPD hfu;generalize (b.filter fun y => !PD y)=F at HDL HFE;have q0:=HP3.out.c4;have z0:=HP0.out.n0;go_wp2_with fail;clear q0;refine HDL.out.mono ?_;rintro e w5 ⟨v',rfl,hrow,hob,hg⟩;obtain ⟨B',cF,rfl,hs5,hc5, -⟩:=Xab (E:=bkE) hrow;have HS5:=Lib.hid hs5;have HC5:=Lib.hid hc5;have HR5:=Lib.hid hrow;have HB5:Hid (Below n0 w w5):=HB4.out.grown hg (by have:=HP1.out.lt; omega) (fun r e=>by have:=(HRP.out.lt r e).1; omega)
   have HQ1:=Lib.hid (HP1.out.grown hg (Xa1 HP1.out (by decide) HRP.out))
   have HQ3:=Lib.hid (HP3.out.grown hg (Xa1 HP3.out (by decide) HRP.out))
   have HH5:=Lib.hid (Xbz HRP.out HHP.out (by decide) hg)
   clear hrow hob hg hs5 hc5 HDL HP0 HP1 HP3 HXP HRP HHP HB4;have q0:=HQ3.out.c4;have f0:=HQ3.out.f4;go_upto_region 5 with fail
   have HV1:=Lib.hid (HQ1.out.other (p:=⟨g3,2,none⟩) (by have:=HSZ1.out; show n0+1 ≠ g3; omega) (.slice B' F.length cF))
   have HV3:=Lib.hid (HQ3.out.put 2 (.slice B' F.length cF));have HVB:Hid (Below n0 w (w5.setCell ⟨g3,2,none⟩ (.slice B' F.length cF))):=HB5.out.setCell (p:=⟨g3,2,none⟩) (by have:=HSZ1.out; show n0≤g3; omega) _
   have HVR:Hid ((w5.setCell ⟨g3,2,none⟩ (.slice B' F.length cF)).ownsRow (n0+1+1) 95 4 (.slice B' F.length cF) F.length (F.flatMap bkE.f)):=HR5.out.kept (Xa0 _ _ _ _) (.inr (Xa1 HQ3.out (by decide) HR5.out).symm)
   have HVH:Hid ((w5.setCell ⟨g3,2,none⟩ (.slice B' F.length cF)).ownsRow (n0+1+1) 99 5 (.slice H h.length ch) h.length (h.flatMap hdE.f)):=HH5.out.kept (Xa0 _ _ _ _) (.inr (Xa1 HQ3.out (by decide) HH5.out).symm)
   clear HQ1 HQ3 HB5 HR5 HH5 HS5 HC5 q0 f0;generalize w5.setCell ⟨g3,2,none⟩ (.slice B' F.length cF)=w6 at HV1 HV3 HVB HVR HVH ⊢;have q0:=HV3.out.c4;have r0:=HV1.out.c4;have f0:=HV1.out.f4;go_wp2;have hrb:=HVR.out;have hrh:=HVH.out;have hne1:∀ {r:Nat},(Value.slice B' F.length cF).ownBlock=some r→r ≠ n0+1:=fun {r} e e2=>Xa1 HV1.out (by decide) HVR.out (by rw[←e2]; exact e.symm)
   have hne2:∀ {r:Nat},(Value.slice H h.length ch).ownBlock=some r→r ≠ n0+1:=fun {r} e e2=>Xa1 HV1.out (by decide) HVH.out (by rw[←e2]; exact e.symm)
   have hrb:=hrb.kept (Xa0 _ (n0+1) 0 (.slice Aq p.q.length cq)) (.inr (fun e=>hne1 e rfl));have hrh:=hrh.kept (Xa0 _ (n0+1) 0 (.slice Aq p.q.length cq)) (.inr (fun e=>hne2 e rfl));have hrb:=hrb.kept (Xa0 _ (n0+1) 1 (.slice Ac p.c.length cc)) (.inr (fun e=>hne1 e rfl));have hrh:=hrh.kept (Xa0 _ (n0+1) 1 (.slice Ac p.c.length cc)) (.inr (fun e=>hne2 e rfl));have hrb:=hrb.kept (Xa0 _ (n0+1) 2 (.slice B' F.length cF)) (.inr (fun e=>hne1 e rfl));have hrh:=hrh.kept (Xa0 _ (n0+1) 2 (.slice B' F.length cF)) (.inr (fun e=>hne2 e rfl));have hrb:=hrb.kept (Xa0 _ (n0+1) 3 (.slice H h.length ch)) (.inr (fun e=>hne1 e rfl));have hrh:=hrh.kept (Xa0 _ (n0+1) 3 (.slice H h.length ch)) (.inr (fun e=>hne2 e rfl));obtain ⟨hq,hbe⟩:=Xmb HV1.out HVB.out (by omega) (.slice Aq p.q.length cq) (.slice Ac p.c.length cc) (.slice B' F.length cF) (.slice H h.length ch)
   generalize ((((w6.setCell ⟨n0+1,0,none⟩ (.slice Aq p.q.length cq)).setCell ⟨n0+1,1,none⟩ (.slice Ac p.c.length cc)).setCell ⟨n0+1,2,none⟩ (.slice B' F.length cF)).setCell ⟨n0+1,3,none⟩ (.slice H h.length ch))=WF at hq hbe hrb hrh ⊢;have p0:=hq.c4;obtain ⟨A3,c3,e3,hsb,hcb, -⟩:=Xab (E:=bkE) hrb;obtain ⟨A4,c4,e4,hsh,hch, -⟩:=Xab (E:=hdE) hrh
   injection e3 with e31 _ e33
   injection e4 with e41 _ e43
   subst e31 e33 e41 e43;exact bodyPost_ret (v:=.agg #[.slice Aq p.q.length cq,.slice Ac p.c.length cc,.slice B' F.length cF,.slice H h.length ch]) (by simp[results,Tryz.results167,go_sem,p0]) rfl ⟨by rw[hn0]; exact hbe,.inr ⟨⟨p,F,h⟩,B',cF,H,ch,⟨⟨p,b,h⟩,HR.out,HNF.out,by rw[HFE.out]⟩,rfl,⟨HL.out.p.below (by rw[hn0]; exact hbe),hsb,hsh,hcb,hch,by have h1:b.length≤512:=HNF.out.1; have h2:F.length≤b.length:=(by rw[HFE.out]; exact List.length_filter_le _ _); unfold maxLen; show F.length≤_; omega,by have h1:h.length≤512:=HNF.out.2; unfold maxLen; show h.length≤_; omega⟩⟩⟩
def Fr (E:Nat→Prop)(W W':World):Prop:=W.heap.size≤W'.heap.size ∧ ∀j,j<W.heap.size → ¬ E j→W'.heap[j]? = W.heap[j]?
theorem Fr.below {W W':World}(h:Below W.heap.size W W'):Fr (fun _=>False) W W':=⟨h.size,fun j hj _=>h.block j hj⟩
theorem Fr.grown {W W':World}{row:Option Nat}(h:W.grownBy W' row):Fr (fun j=>row=some j) W W':=⟨h.size,fun j hj hn=>h.block j hj (fun e=>hn e.symm)⟩
theorem Xft {E:Nat→Prop}{W W':World}{g:Nat}{t:TypeId}{cs:Array Value}(h:Bk W g t cs)(hf:Fr E W W')(hn:¬ E g):Bk W' g t cs:=(hf.2 g h.lt hn).trans h
theorem Xbn {W:World}{base k n r:Nat}{t:TypeId}{v:Value}{xs:List Value}(h:W.ownsRow base t k v n xs)(e:v.ownBlock=some r):∃cs,Bk W r t cs:=by
 rcases h.2 with ⟨rfl,_⟩ | ⟨g,cap,cur,rfl,_,hg,_⟩
 ·cases e
 ·obtain rfl:g=r:=Option.some.inj e;exact ⟨cur,hg⟩
theorem Xeq {W:World}{g g':Nat}{t u:TypeId}{cs cs':Array Value}(h:Bk W g t cs)(h':Bk W g' u cs')(htu:t ≠ u):g ≠ g':=fun e=>by
 subst e;unfold Bk at h h';rw[h] at h';cases h';exact htu rfl
theorem Xde {E:Nat→Prop}{W W':World}{base k n:Nat}{t:TypeId}{v:Value}{xs:List Value}(h:W.ownsRow base t k v n xs)(hf:Fr E W W')(hn:∀r,v.ownBlock=some r → ¬ E r):W'.ownsRow base t k v n xs:=by
 refine ⟨h.1,?_⟩;rcases h.2 with h2 | ⟨g,cap,cur,rfl,h4,hg,h5⟩
 ·exact .inl h2
 ·exact .inr ⟨g,cap,cur,rfl,h4,(hf.2 g (Array.getElem?_eq_some_iff.1 hg).1 (hn g rfl)).trans hg,h5⟩
theorem Xj5 {α:Type}{Ec:Enc α}{E:Nat→Prop}{W W':World}{A:Option Addr}{l:List α}(h:SlAt Ec W A l)(hf:Fr E W W')(hn:∀a,A=some a → ¬ E a.block):SlAt Ec W' A l:=fun j r hj=>by
 obtain ⟨b,off,rfl,hr⟩:=h j r hj;refine ⟨b,off,rfl,fun i v hv=>?_⟩;have h1:=hr i v hv;exact (World.cell?_of_block (a:=⟨b,_,none⟩) (hf.2 b (World.block_lt_of_cell? _ _ h1) (hn _ rfl))).trans h1
theorem Xep {E:Nat→Prop}{W W':World}{A:Option Addr}{c:Nat}{l:List Hop}(h:HpAt W A c l)(hf:Fr E W W')(hn:∀j cs mk,W.heap[j]? = some (.cells cs 41 mk) → ¬ E j):HpAt W' A c l:=h.keep fun j cs mk hj=>(hf.2 j (Array.getElem?_eq_some_iff.1 hj).1 (hn j cs mk hj)).trans hj
structure ExV where
 vT:Value
 ms:List Tm
 V:Option Addr
 cV:Nat
 vs:List Int
 acc:Bool
 num:Int
 vM:Value
 M:List Int
 vD:Value
 D:List Int
structure ExC (n0:Nat)(w:World)(x:ExV)(W:World):Prop where
 be:Below n0 w W
 rt:W.ownsRow n0 55 11 x.vT x.ms.length (x.ms.flatMap tmE.f)
 rm:W.ownsRow n0 3 1 x.vM x.M.length (x.M.flatMap intE.f)
 rd:W.ownsRow n0 3 1 x.vD x.D.length (x.D.flatMap intE.f)
 sv:SlAt intE W x.V x.vs
 vc:x.vs.length≤x.cV
 vt:∀a,x.V=some a→n0≤a.block∧(∃cs,Bk W a.block 3 cs)∧x.vM.ownBlock ≠ some a.block∧x.vD.ownBlock ≠ some a.block
 md:∀r,x.vM.ownBlock=some r→x.vD.ownBlock ≠ some r
 hp:∀m ∈ x.ms,HpAt W m.A m.c m.k.hops
 gs:n0≤W.heap.size
structure ExS (n0 X:Nat)(w:World)(Aq:Option Addr)(cq:Nat)(Ac:Option Addr)(cc:Nat)(p:Pln)(now:Int)(x:ExV)(W:World):Prop where
 c:ExC n0 w x W
 x:Bk W X 120 #[.slice Aq p.q.length cq,.slice Ac p.c.length cc,.slice none 0 0,x.vT,.int .i64 now,.slice x.V x.vs.length x.cV,.bool x.acc,.int .i64 x.num,x.vM,x.vD,.slice none 0 0]
 nX:n0≤X
section
variable {n0 X:Nat} {w W W':World} {Aq:Option Addr} {cq:Nat} {Ac:Option Addr} {cc:Nat} {p:Pln} {now:Int} {x:ExV}
theorem ExC.fr {E:Nat→Prop}(h:ExC n0 w x W)(hf:Fr E W W')(hb:Below n0 w W')(h1:∀r,x.vT.ownBlock=some r → ¬ E r)(h2:∀r,x.vM.ownBlock=some r → ¬ E r)(h3:∀r,x.vD.ownBlock=some r → ¬ E r)(h4:∀a,x.V=some a → ¬ E a.block)
  (h5:∀j cs mk,W.heap[j]? = some (.cells cs 41 mk) → ¬ E j):ExC n0 w x W':=by
 refine ⟨hb,Xde h.rt hf h1,Xde h.rm hf h2,Xde h.rd hf h3,Xj5 h.sv hf h4,h.vc,fun a ha=>?_,h.md,fun m hm=>Xep (h.hp m hm) hf h5,Nat.le_trans h.gs hf.1⟩;obtain ⟨e1,⟨cs,e2⟩,e3,e4⟩:=h.vt a ha;exact ⟨e1,⟨cs,Xft e2 hf (h4 a ha)⟩,e3,e4⟩
theorem ExC.at {g:Nat}{t:TypeId}{cs:Array Value}(h:ExC n0 w x W)(hg:Bk W g t cs)(h1:t ≠ 55)(h2:t ≠ 3)(h3:t ≠ 41)(hf:Fr (fun j=>j=g) W W')(hb:Below n0 w W'):ExC n0 w x W':=by
 refine h.fr hf hb (fun r e e2=>?_) (fun r e e2=>?_) (fun r e e2=>?_) (fun a e e2=>?_) (fun j cs' mk hj e2=>?_)
 ·obtain ⟨cs',hc⟩:=Xbn h.rt e;exact Xeq hg hc h1 e2.symm
 ·obtain ⟨cs',hc⟩:=Xbn h.rm e;exact Xeq hg hc h2 e2.symm
 ·obtain ⟨cs',hc⟩:=Xbn h.rd e;exact Xeq hg hc h2 e2.symm
 ·obtain ⟨_,⟨cs',hc⟩,_⟩:=h.vt a e;exact Xeq hg hc h2 e2.symm
 ·subst e2;unfold Bk at hg;rw[hg] at hj;cases hj;exact h3 rfl
theorem Fr.put (W:World)(g i:Nat)(u:Value):Fr (fun j=>j=g) W (W.setCell ⟨g,i,none⟩ u):=⟨by simp[World.setCell],fun j _ hn=>Below.heap_setCell _ _ _ _ (fun e=>hn (by rw[e]))⟩
theorem ExS.next (h:ExS n0 X w Aq cq Ac cc p now x W)(hb:Below W.heap.size W W'):ExS n0 X w Aq cq Ac cc p now x W' :=
 ⟨h.c.fr (Fr.below hb) (h.c.be.trans (hb.mono h.c.gs)) (fun _ _ e=>e) (fun _ _ e=>e) (fun _ _ e=>e) (fun _ _ e=>e) (fun _ _ _ _ e=>e),h.x.below hb h.x.lt,h.nX⟩
theorem ExS.set {m:Tm}{e:Ending}(h:ExS n0 X w Aq cq Ac cc p now x W)(hm:HpAt W m.A m.c m.k.hops)(hs:Xn2 X 120 #[.slice Aq p.q.length cq,.slice Ac p.c.length cc,.slice none 0 0,x.vT,.int .i64 now,.slice x.V x.vs.length x.cV,.bool x.acc,.int .i64 x.num,x.vM,x.vD,.slice none 0 0] n0 x.vT x.ms m W e W') :
  e = .returned (.tuple #[]) ∧ ∃v' ms',ms'.map (·.k)=setT (x.ms.map (·.k)) m.k∧(∀y ∈ ms',y=m∨y ∈ x.ms)∧ExS n0 X w Aq cq Ac cc p now { x with vT:=v',ms:=ms' } W' ∧ Fr (fun j=>j=X∨x.vT.ownBlock=some j) W W' ∧ (v'.ownBlock=x.vT.ownBlock ∨ ∀r,v'.ownBlock=some r→W.heap.size≤r):=by
 obtain ⟨rfl,v',ms',h1,h2,h3,h4,h5,h6,h7,h8⟩:=hs;have hf:Fr (fun j=>j=X∨x.vT.ownBlock=some j) W W':=⟨h5,fun j hj hn=>h6 j hj (fun e=>hn (.inl e)) (fun e=>hn (.inr e))⟩;have hrow:∀ {v:Value} {n:Nat} {xs:List Value},W.ownsRow n0 3 1 v n xs → ∀r,v.ownBlock=some r → ¬ (r=X∨x.vT.ownBlock=some r):=fun {v n xs} hr r e e2=>by
  obtain ⟨cs',hc⟩:=Xbn hr e;rcases e2 with e2 | e2
  ·exact Xeq h.x hc (by decide) e2.symm
  ·obtain ⟨cs2,hc2⟩:=Xbn h.c.rt e2;exact Xeq hc2 hc (by decide) rfl
 have hhp:∀j cs mk,W.heap[j]? = some (.cells cs 41 mk) → ¬ (j=X∨x.vT.ownBlock=some j):=fun j cs mk hj e2=>by
  rcases e2 with e2 | e2
  ·subst e2;have hx:=h.x;unfold Bk at hx;rw[hx] at hj;cases hj
  ·obtain ⟨cs2,hc2⟩:=Xbn h.c.rt e2;unfold Bk at hc2;rw[hc2] at hj;cases hj
 have hvb:∀a,x.V=some a → ¬ (a.block=X∨x.vT.ownBlock=some a.block):=fun a ha e2=>by
  obtain ⟨_,⟨cs',hc⟩,_⟩:=h.c.vt a ha;rcases e2 with e2 | e2
  ·exact Xeq h.x hc (by decide) e2.symm
  ·obtain ⟨cs2,hc2⟩:=Xbn h.c.rt e2;exact Xeq hc2 hc (by decide) rfl
 refine ⟨rfl,v',ms',h1,h2,⟨⟨h.c.be.trans (h8 n0 (Nat.le_refl _) h.nX h.c.gs),h4,Xde h.c.rm hf (hrow h.c.rm),Xde h.c.rd hf (hrow h.c.rd),Xj5 h.c.sv hf hvb,h.c.vc,fun a ha=>?_,h.c.md,fun y hy=>?_,Nat.le_trans h.c.gs h5⟩,h3,h.nX⟩,hf,h7⟩
 ·obtain ⟨e1,⟨cs,e2⟩,e3,e4⟩:=h.c.vt a ha;exact ⟨e1,⟨cs,Xft e2 hf (hvb a ha)⟩,e3,e4⟩
 ·rcases h2 y hy with e | e
  ·subst e; exact Xep hm hf hhp
  ·exact Xep (h.c.hp y e) hf hhp
theorem ExS.vic {b off:Nat}{n:Int}{l:List Int}(h:ExS n0 X w Aq cq Ac cc p now x W)(hV:x.V=some ⟨b,off,none⟩)(hl:x.vs=n :: l){V':Option Addr}(hV':V' = if x.cV=1 then some ⟨b,off,none⟩ else some ⟨b,off+1,none⟩) :
  ExS n0 X w Aq cq Ac cc p now { x with V:=V',cV:=x.cV - 1,vs:=l } (W.setCell ⟨X,5,none⟩ (.slice V' l.length (x.cV - 1))):=by
 have hf:=Fr.put W X 5 (.slice V' l.length (x.cV - 1));have hc:=h.c.at h.x (by decide) (by decide) (by decide) hf (h.c.be.setCell (p:=⟨X,5,none⟩) h.nX _)
 have hvc:=h.c.vc;rw[hl,List.length_cons] at hvc;refine ⟨⟨hc.be,hc.rt,hc.rm,hc.rd,fun j r hj=>?_,by show l.length≤x.cV - 1; omega,fun a ha=>?_,hc.md,hc.hp,hc.gs⟩,h.x.put 5 _,h.nX⟩
 ·have h1:(n :: l)[j+1]? = some r:=by simpa using hj
  rw[←hl] at h1;obtain ⟨b',off',e,hr⟩:=hc.sv (j+1) r h1;rw[hV] at e;cases e;have h2:¬ x.cV=1:=fun e=>by
   have:=(List.getElem?_eq_some_iff.1 hj).1;have h3:j<l.length:=this;omega
  rw[if_neg h2] at hV';refine ⟨b,off+1,hV',?_⟩;have h3:off+(j+1) * intE.k=off+1+j * intE.k:=by show off+(j+1) * 1=off+1+j * 1; omega
  rwa [h3] at hr
 ·have hab:a.block=b:=by
   have ha:V' = some a:=ha;rw[hV'] at ha
   split at ha <;> (cases ha; rfl)
  obtain ⟨e1,e2,e3,e4⟩:=hc.vt _ hV;rw[hab];exact ⟨e1,e2,e3,e4⟩
theorem ExS.moved {W1:World}{v':Value}{n:Int}(h:ExS n0 X w Aq cq Ac cc p now x W)(hg:W.grownBy W1 x.vM.ownBlock)(hr:W1.ownsRow n0 3 1 v' (x.M.length+1) (x.M.flatMap intE.f ++ [.int .i64 n]))(hob:v'.ownBlock=x.vM.ownBlock ∨ ∀r,v'.ownBlock=some r→W.heap.size≤r) :
  Bk W1 X 120 #[.slice Aq p.q.length cq,.slice Ac p.c.length cc,.slice none 0 0,x.vT,.int .i64 now,.slice x.V x.vs.length x.cV,.bool x.acc,.int .i64 x.num,x.vM,x.vD,.slice none 0 0] ∧ ExS n0 X w Aq cq Ac cc p now { x with vM:=v',M:=x.M ++ [n] } (W1.setCell ⟨X,8,none⟩ v'):=by
 have hf:=Fr.grown hg;have hx1:Bk W1 X 120 #[.slice Aq p.q.length cq,.slice Ac p.c.length cc,.slice none 0 0,x.vT,.int .i64 now,.slice x.V x.vs.length x.cV,.bool x.acc,.int .i64 x.num,x.vM,x.vD,.slice none 0 0]:=h.x.grown hg (Xa1 h.x (by decide) h.c.rm)
 have hb1:Below n0 w W1:=h.c.be.grown hg h.c.gs (fun r e=>(h.c.rm.lt r e).1);have hn:∀r,(∃cs,Bk W r 3 cs)→x.vM.ownBlock ≠ some r→v'.ownBlock ≠ some r:=fun r ⟨cs,hr⟩ h1 e=>by
  rcases hob with h2 | h2
  ·exact h1 (h2.symm.trans e)
  ·have:=h2 r e; have:=hr.lt; omega
 have hf2:=Fr.put W1 X 8 v';have hr':W1.ownsRow n0 3 1 v' (x.M ++ [n]).length ((x.M ++ [n]).flatMap intE.f):=by
  rw[List.length_append,List.flatMap_append]; exact hr
 have hc1:ExC n0 w { x with vM:=v',M:=x.M ++ [n] } W1:=by
  refine ⟨hb1,Xbz h.c.rm h.c.rt (by decide) hg,hr',Xde h.c.rd hf (fun r e e2=>h.c.md r e2 e),Xj5 h.c.sv hf (fun a ha e=>(h.c.vt a ha).2.2.1 e),h.c.vc,fun a ha=>?_,fun r e e2=>?_,fun m hm=>Xep (h.c.hp m hm) hf (fun j cs mk hj e=>?_),Nat.le_trans h.c.gs hg.size⟩
  ·obtain ⟨e1,⟨cs,e2⟩,e3,e4⟩:=h.c.vt a ha;exact ⟨e1,⟨cs,Xft e2 hf e3⟩,hn _ ⟨cs,e2⟩ e3,e4⟩
  ·exact hn r (Xbn h.c.rd e2) (fun e3=>h.c.md r e3 e2) e
  ·obtain ⟨cs2,hc2⟩:=Xbn h.c.rm e;unfold Bk at hc2;rw[hc2] at hj;cases hj
 exact ⟨hx1,⟨hc1.at hx1 (by decide) (by decide) (by decide) hf2 (hb1.setCell (p:=⟨X,8,none⟩) h.nX _),hx1.put 8 v',h.nX⟩⟩
theorem ExS.dropped {W1:World}{v':Value}{n:Int}(h:ExS n0 X w Aq cq Ac cc p now x W)(hg:W.grownBy W1 x.vD.ownBlock)(hr:W1.ownsRow n0 3 1 v' (x.D.length+1) (x.D.flatMap intE.f ++ [.int .i64 n]))(hob:v'.ownBlock=x.vD.ownBlock ∨ ∀r,v'.ownBlock=some r→W.heap.size≤r) :
  Bk W1 X 120 #[.slice Aq p.q.length cq,.slice Ac p.c.length cc,.slice none 0 0,x.vT,.int .i64 now,.slice x.V x.vs.length x.cV,.bool x.acc,.int .i64 x.num,x.vM,x.vD,.slice none 0 0] ∧ ExS n0 X w Aq cq Ac cc p now { x with vD:=v',D:=x.D ++ [n] } (W1.setCell ⟨X,9,none⟩ v'):=by
 have hf:=Fr.grown hg;have hx1:Bk W1 X 120 #[.slice Aq p.q.length cq,.slice Ac p.c.length cc,.slice none 0 0,x.vT,.int .i64 now,.slice x.V x.vs.length x.cV,.bool x.acc,.int .i64 x.num,x.vM,x.vD,.slice none 0 0]:=h.x.grown hg (Xa1 h.x (by decide) h.c.rd)
 have hb1:Below n0 w W1:=h.c.be.grown hg h.c.gs (fun r e=>(h.c.rd.lt r e).1);have hn:∀r,(∃cs,Bk W r 3 cs)→x.vD.ownBlock ≠ some r→v'.ownBlock ≠ some r:=fun r ⟨cs,hr⟩ h1 e=>by
  rcases hob with h2 | h2
  ·exact h1 (h2.symm.trans e)
  ·have:=h2 r e; have:=hr.lt; omega
 have hf2:=Fr.put W1 X 9 v';have hr':W1.ownsRow n0 3 1 v' (x.D ++ [n]).length ((x.D ++ [n]).flatMap intE.f):=by
  rw[List.length_append,List.flatMap_append]; exact hr
 have hc1:ExC n0 w { x with vD:=v',D:=x.D ++ [n] } W1:=by
  refine ⟨hb1,Xbz h.c.rd h.c.rt (by decide) hg,Xde h.c.rm hf (fun r e e2=>h.c.md r e e2),hr',Xj5 h.c.sv hf (fun a ha e=>(h.c.vt a ha).2.2.2 e),h.c.vc,fun a ha=>?_,fun r e e2=>?_,fun m hm=>Xep (h.c.hp m hm) hf (fun j cs mk hj e=>?_),Nat.le_trans h.c.gs hg.size⟩
  ·obtain ⟨e1,⟨cs,e2⟩,e3,e4⟩:=h.c.vt a ha;exact ⟨e1,⟨cs,Xft e2 hf e4⟩,e3,hn _ ⟨cs,e2⟩ e4⟩
  ·exact hn r (Xbn h.c.rm e) (fun e3=>h.c.md r e e3) e2
  ·obtain ⟨cs2,hc2⟩:=Xbn h.c.rd e;unfold Bk at hc2;rw[hc2] at hj;cases hj
 exact ⟨hx1,⟨hc1.at hx1 (by decide) (by decide) (by decide) hf2 (hb1.setCell (p:=⟨X,9,none⟩) h.nX _),hx1.put 9 v',h.nX⟩⟩
end
def NPP (R:List PanicEntry→World→Prop)(Q:Exit→Act→World→Prop)(e:Exit)(a:Act)(w:World):Prop:=(e = .normal∧Q e a w) ∨ ∃c,e = .panic c∧a.defers = [] ∧ R c w
theorem Xc0 {R:List PanicEntry→World→Prop}{Q:Exit→Act→World→Prop}{d:Option Tmp}{v:Value}:∀c a w,NPP R Q (.panic c) (a.put d v) w→NPP R Q (.panic c) a w:=fun c a w h=>by
 rcases h with ⟨e,_⟩ | ⟨c',e,hd,hr⟩
 ·nomatch e
 ·refine .inr ⟨c',e,?_,hr⟩;cases d <;> exact hd
section
variable {P:Program} {ops:Array Oper} {Q:Exit→Act→World→Prop} {S:World→Prop} {St:List Nat} {R:List PanicEntry→World→Prop}
theorem Xt1 {L:List Oper}{fuel:Nat}{listed:Array Bool}{a:Act}{w:World}{md:Region.Mode}(hr:Region.ready md L.toArray listed = [])(h:Q .normal a w):Xb9 P md L.toArray (NPP R Q) S St fuel listed a w:=by
 cases fuel with
 | zero=>exact ⟨hr,.inl ⟨rfl,h⟩⟩
 | succ n=>exact ⟨fun _ => .inl ⟨rfl,h⟩,fun i hi=>by rw[hr] at hi; cases hi⟩
theorem Xpx {id:Nat}{a:Act}{w:World}(R:List PanicEntry→World→Prop)(St:List Nat)(hm:P.follows .mixedOrders=true)(hR:∀c a w,a.defers = [] → R c w→Q (.panic c) a w)(hS:S w.drew)
  (h:S w.drew→Xb9 P .any ops (NPP R Q) S St ops.size (Array.replicate ops.size false) a w.drew):(Code.region id ops true).wp P Q a w :=
 wp_mono (wp_region_any hm (Xfw _ _ _ _ (h hS))) fun e a w h=>by
  rcases h with ⟨_,h⟩ | ⟨c,rfl,hd,hr⟩
  ·exact h
  ·exact hR c a w hd hr
end
end Go.Proofs.YtebkgbmijocdjaaGreat.Tp
