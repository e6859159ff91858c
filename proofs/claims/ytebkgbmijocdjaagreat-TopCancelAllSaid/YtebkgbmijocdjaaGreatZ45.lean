/- A part of the proof for the ledger. No condition beyond those that each theorem states. -/
import Derived.Deep.CutRange
import Derived.Test.YtebkgbmijocdjaaGreatZ43
import Derived.Test.YtebkgbmijocdjaaGreatZ44
set_option maxHeartbeats 32000000
set_option maxRecDepth 100000
set_option linter.unusedVariables false
set_option linter.unusedSimpArgs false
namespace Go.Proofs.YtebkgbmijocdjaaGreat.Tp
open Go Go.RowKit
def Xdt (X:Nat)(Aq:Option Addr)(cq:Nat)(Ac:Option Addr)(cc:Nat)(p:Pln)(now:Int)(q:Rq)(m:List Hop)(ts:List Tk)(n0:Nat)(w0:World)(e:Ending)(w':World):Prop:=Below n0 w0 w' ∧ (e = .returned (.bool false)∨e = .returned (.bool true) ∧ ∃x':ExV,Xd0 p now (setT ts ⟨Xad ts,q,m,1,0⟩) (vicF p now m ts) x'.M x'.D (x'.ms.map (·.k))∧ExS n0 X w0 Aq cq Ac cc p now x' w' ∧ x'.acc=true∧x'.num=Xad ts∧ExOK p x' ∧ x'.vs = [] ∧ ∃t',ExT p (x'.ms.map (·.k)) [] now t')
theorem ExS.lgT {n0 X:Nat}{w0 W:World}{Aq:Option Addr}{cq:Nat}{Ac:Option Addr}{cc:Nat}{p:Pln}{now:Int}{x:ExV}(h:ExS n0 X w0 Aq cq Ac cc p now x W)(hn:n0=w0.heap.size)(hp:Xas w0 Aq cq Ac cc p)(h1:x.ms.length≤70)(h2:∀m ∈ x.ms,m.k.hops.length≤2000){A:Option Addr}{ct:Nat}(e:x.vT = .slice A x.ms.length ct):LgAt W Aq cq Ac cc p A ct (x.ms.map (·.k)):=by
 have hrt:=h.c.rt;obtain ⟨A',ct',e2,hs,hc⟩:=Xah (E:=tmE) hrt;rw[e] at e2
 injection e2 with e3 _ e4
 subst e3 e4 hn;exact ⟨hp.below h.c.be,⟨x.ms,rfl,hs,h.c.hp⟩,by rw[List.length_map]; exact hc,by rw[List.length_map]; omega,fun k hk=>by
  obtain ⟨m,hm,rfl⟩:=List.mem_map.1 hk;have:=h2 m hm; omega⟩
theorem Xot (X:Nat)(Aq:Option Addr)(cq:Nat)(Ac:Option Addr)(cc:Nat)(p:Pln)(now:Int)(q:Rq)(Mh:Option Addr)(cM:Nat)(m:List Hop)(ms:List Tm)(vT:Value)(w0 W:World)(hp:Xas w0 Aq cq Ac cc p)(hok:Xbe p)
  (hS:ExS w0.heap.size X w0 Aq cq Ac cc p now ⟨vT,ms,none,0, [],false,0,.slice none 0 0, [],.slice none 0 0, []⟩ W) (hl:ms.length≤64) (hb:∀y ∈ ms,∀h ∈ y.k.hops,HopB p h) (hll:∀y ∈ ms,y.k.hops.length≤1000) (hnm:Xbh (ms.map (·.k))) (hnx:Xad (ms.map (·.k))≤1152921504606846976) (hm:HpAt W Mh cM m) (hmB:∀h ∈ m,HopB p h) (hmL:m.length≤1000) :
  Calls Tryz.prog 118 #[.pointer (some ⟨X,0,none⟩),.agg (rqA q),.slice Mh m.length cM] W (Xdt X Aq cq Ac cc p now q m (ms.map (·.k)) w0.heap.size w0):=by
 obtain ⟨A,ct,hvT⟩:=Xa8 hS.c.rt;have hvT:vT = .slice A ms.length ct:=hvT;subst hvT;have HP:=Lib.hid hp;have HOK:=Lib.hid hok;have HL:Hid (ms.length≤64):=hl;have HHB:=Lib.hid hb;have HHL:=Lib.hid hll;have HNM:=Lib.hid hnm;have HNX:=Lib.hid hnx;have HMB:=Lib.hid hmB;have HML:Hid (m.length≤1000):=hmL;obtain ⟨_,_,rfl,rfl,-,HB0,HK0,HK1⟩:=box2 W 31 (rqA q) 4 #[.bool false];have HSW:=Lib.hid (hS.next HB0.out);have HMW:=Lib.hid (hm.below HB0.out);have HGS:Hid (w0.heap.size≤W.heap.size):=hS.c.gs;generalize hn0:w0.heap.size=n0 at hS HSW HGS ⊢;have HN0:Hid (n0=w0.heap.size):=hn0.symm;clear hS hm hp hok hl hb hll hnm hnx hmB hmL;have hmf:=fun (fn:Fn) (first cap:Array Value) (w:World)=>(rfl:(Instr.makeFunc fn first cap).run Tryz.prog w = .ok (.func fn first cap) w)
 go_enter_defers Tryz.func118,Tryz.ntmps118;go_wp2_with fail;generalize ((W.alloc (.cells (rqA q) 31)).alloc (.cells #[.bool false] 4))=W1 at HB0 HK0 HK1 HSW HMW ⊢;generalize hg0:W.heap.size=g0 at HB0 HK0 HK1 ⊢;have HLG:Hid (∀W' V cV vs,ExS n0 X w0 Aq cq Ac cc p now ⟨(.slice A ms.length ct),ms,V,cV,vs,false,0,(.slice none 0 0), [],(.slice none 0 0), []⟩ W' → LgAt W' Aq cq Ac cc p A ct (ms.map (·.k))):=fun W' V cV vs h=>h.lgT HN0.out HP.out (by have h1:=HL.out; show ms.length≤70; omega) (fun y hy=>by have:=HHL.out y hy; omega) rfl
 have HHK:Hid (∀k ∈ ms.map (·.k),∀x ∈ k.hops,HopB p x):=fun k hk=>by
  obtain ⟨y,hy,rfl⟩:=List.mem_map.1 hk;exact HHB.out y hy
 have HSF:Hid (∀W' V cV vs,ExS n0 X w0 Aq cq Ac cc p now ⟨(.slice A ms.length ct),ms,V,cV,vs,false,0,(.slice none 0 0), [],(.slice none 0 0), []⟩ W' → (fun w' => w'.cell? ⟨X,0,none⟩=some (.slice Aq p.q.length cq)∧w'.cell? ⟨X,1,none⟩=some (.slice Ac p.c.length cc)∧w'.cell? ⟨X,2,none⟩=some (.slice none 0 0)∧w'.cell? ⟨X,3,none⟩=some (.slice A ms.length ct)∧w'.cell? ⟨X,4,none⟩=some (.int .i64 now)) W'):=fun W' V cV vs h=>⟨h.x.cell 0,h.x.cell 1,h.x.cell 2,h.x.cell 3,h.x.cell 4⟩;obtain ⟨L,hL⟩:∃L,L=Xbk p now (ms.map (·.k)):=⟨_,rfl⟩;have HLE:=Lib.hid hL;have HLL:Hid (L.length≤64):=by
  have h1:=Xf5 p now (ms.map (·.k));rw[←hL,List.length_map] at h1;have h2:=HL.out;show _≤_;omega
 have HWK:Hid (∀W' V cV vs,ExS n0 X w0 Aq cq Ac cc p now ⟨(.slice A ms.length ct),ms,V,cV,vs,false,0,(.slice none 0 0), [],(.slice none 0 0), []⟩ W' → Calls Tryz.prog 113 #[(.agg (lgA Aq cq Ac cc p A ms.length ct)),.int .i64 now] W' (Xcz intE L W')):=fun W' V cV vs h=>by
  have h1:=Xia Aq cq Ac cc p A ct (ms.map (·.k)) now W' (HLG.out W' V cV vs h) HOK.out HHK.out
  rwa [List.length_map, ←hL] at h1
 clear hL;go_cut [22,23,24] from 25 (fun s22 s23 s24 wc => ∃AL cL,s22 = .slice AL L.length cL∧s23 = .int .i64 L.length∧s24 = .int .i64 0∧SlAt intE wc AL L∧(∀a,AL=some a→X<a.block)∧Below W1.heap.size W1 wc)
 case first =>
  refine Xam (S:=fun w' => w'.cell? ⟨X,0,none⟩=some (.slice Aq p.q.length cq)∧w'.cell? ⟨X,1,none⟩=some (.slice Ac p.c.length cc)∧w'.cell? ⟨X,2,none⟩=some (.slice none 0 0)∧w'.cell? ⟨X,3,none⟩=some (.slice A ms.length ct)∧w'.cell? ⟨X,4,none⟩=some (.int .i64 now)) [] (by kernel_rfl) (HSF.out _ _ _ _ (HSW.out.next (Below.refl _ _).drew)) (fun hHeld=>?_)
  have HVS:=Lib.hid (HSW.out.next (Below.refl W1.heap.size W1).drew);have HBV:Hid (Below W1.heap.size W1 W1.drew):=(Below.refl _ _).drew;clear HSW;generalize W1.drew=U at HVS HBV hHeld ⊢;refine tkF 0 _ ?_;refine tkF 1 _ ?_;refine tkF 2 _ ?_;refine tkF 3 _ ?_;refine tkG 4 (.agg (lgA Aq cq Ac cc p A ms.length ct)) ?_;refine tkF 5 _ ?_;refine tkF 6 _ ?_;refine tkF 7 _ ?_;refine tkG 8 (.int .i64 now) ?_;refine tkF 11 _ ?_;refine Xaa (i:=9) rfl (by kernel_rfl) (by rfl) (fun K hK=>?_)
  go_simp;refine (HWK.out U _ _ _ HVS.out).mono ?_;rintro e w2 ⟨AL,cL,rfl,hs,hcl,hbl,hb2⟩;have HU:=Lib.hid (HVS.out.next hb2);have HB2:Hid (Below W1.heap.size W1 w2):=Xa HBV.out hb2;have HSL:=Lib.hid hs;have HXL:Hid (∀a,AL=some a→X<a.block):=fun a ha=>by have h1:=hbl a ha; have h2:=HVS.out.x.lt; omega
  refine hK _ _ (HSF.out _ _ _ _ HU.out) ?_;clear hK K hHeld hb2 hs hcl hbl HVS HBV;have hHeld:(fun w' => w'.cell? ⟨X,0,none⟩=some (.slice Aq p.q.length cq)∧w'.cell? ⟨X,1,none⟩=some (.slice Ac p.c.length cc)∧w'.cell? ⟨X,2,none⟩=some (.slice none 0 0)∧w'.cell? ⟨X,3,none⟩=some (.slice A ms.length ct)∧w'.cell? ⟨X,4,none⟩=some (.int .i64 now)) w2:=HSF.out _ _ _ _ HU.out
  try simp only[PU]
  refine tkF 10 _ ?_;refine Xbd (by kernel_rfl) ?_
  clear hHeld;go_wp2;go_meet
  case rel=>exact ⟨AL,cL,rfl,rfl,rfl,HSL.out,HXL.out,HB2.out⟩
 case rest =>
  obtain ⟨AL,cL,rfl,rfl,rfl,hs2,hxl,hb2⟩:=hcut;have HXL:=Lib.hid hxl;have HS2:=Lib.hid (HSW.out.next hb2);have HM2:=Lib.hid (HMW.out.below hb2);have HQ2:=Lib.hid (HK0.out.below hb2 HK0.out.lt);have HB2:=Lib.hid (HK1.out.below hb2 HK1.out.lt);have HSL:=Lib.hid hs2;obtain ⟨w2,rfl⟩:∃v,v=wc:=⟨_,rfl⟩;clear hs2 hb2 hxl HSW HMW HK0 HK1 HB0;obtain ⟨PV,hPV⟩:∃PV:Int→Bool,PV=fun n=>match Xbg (ms.map (·.k)) n with | none=>false | some k=>ovlF now m k:=⟨_,rfl⟩
  have HPV:=Lib.hid hPV;have HVE:Hid (vicF p now m (ms.map (·.k))=L.filter PV):=by
   show vicF p now m _=_;unfold vicF;rw[←HLE.out,hPV]
   rfl
  have HFT:Hid (∀n ∈ L,∃k,Xbg (ms.map (·.k)) n=some k∧k ∈ ms.map (·.k)):=fun n hn=>by
   rw[HLE.out] at hn;obtain ⟨k,hk,e⟩:=List.mem_map.1 (show n ∈ ((ms.map (·.k)).filter _).map (·.num) from hn);exact ⟨k,by rw[←e]; exact Xcd HNM.out (List.mem_filter.1 hk).1,(List.mem_filter.1 hk).1⟩
  clear hPV;go_wp2_with fail;go_loopw [8,9,10,24] (fun _ _ _ i wr => ∃j:Nat,j≤L.length∧i = .int .i64 j ∧ ∃V cV vs,vs=(L.take j).filter PV∧ExS n0 X w0 Aq cq Ac cc p now ⟨(.slice A ms.length ct),ms,V,cV,vs,false,0,(.slice none 0 0), [],(.slice none 0 0), []⟩ wr∧wr.ownsRow n0 3 1 (.slice V vs.length cV) vs.length (vs.flatMap intE.f)∧HpAt wr Mh cM m∧Bk wr g0 31 (rqA q)∧Bk wr (g0+1) 4 #[.bool false] ∧ SlAt intE wr AL L ∧ ∀r a,(Value.slice V vs.length cV).ownBlock=some r→AL=some a→a.block ≠ r) (fun _ _ _ i _=>L.length - (intOf i).toNat)
  case atStart=>exact ⟨0,Nat.zero_le _,rfl,none,0, [],rfl,HS2.out,World.ownsRow_nil _ _ _ _,HM2.out,HQ2.out,HB2.out,HSL.out,fun r a e=>nomatch e⟩
  case round =>
   obtain ⟨j,hj,rfl,V,cV,vs,hvs,hs,hrow,hm,hq,hbo,hsl,hap⟩:=hrel;have HVS:=Lib.hid hvs;have HS:=Lib.hid hs;have HRW:=Lib.hid hrow;have HM:=Lib.hid hm;have HQ:=Lib.hid hq;have HBO:=Lib.hid hbo;have HSLR:=Lib.hid hsl;have HAP:=Lib.hid hap;have hj100:(j:Int)≤100:=by have:=HLL.out; omega
   clear hvs hs hrow hm hq hbo hsl hap HS2 HM2 HQ2 HB2 HSL
   by_cases hlt:j<L.length
   ·obtain ⟨b,off,rfl,hr⟩:=HSLR.out.one (by omega)
    obtain ⟨n,hn⟩:∃n,L[j]? = some n:=⟨_,List.getElem?_eq_getElem hlt⟩;have HN:=Lib.hid hn;obtain ⟨k,hfk,hkm⟩:=HFT.out n (List.mem_of_getElem? hn);have HFK:=Lib.hid hfk;have HKL:Hid (k.hops.length≤1000):=by
     obtain ⟨y,hy,rfl⟩:=List.mem_map.1 hkm;exact HHL.out y hy
    have HBL:Hid (b<wr.heap.size):=World.block_lt_of_cell? _ _ (hr j n hn 0 _ rfl);have c0:wr.cell? ⟨b,off+j,none⟩=some (.int .i64 n):=by
     have:=hr j n hn 0 _ rfl;simpa[intE] using this
    have HFD:Hid (Calls Tryz.prog 21 #[(.agg (lgA Aq cq Ac cc p A ms.length ct)),.int .i64 n] wr fun e w'' => Below wr.heap.size wr w'' ∧ ∃Ak ck,e = .returned (.tuple #[.agg (tkA k Ak ck),.bool true])∧HpAt w'' Ak ck k.hops):=by
     have h:=Xfr Aq cq Ac cc p A ct (ms.map (·.k)) n wr (HLG.out wr V cV vs HS.out).t (by rw[List.length_map]; have:=HL.out; omega)
     rw[List.length_map] at h;refine h.mono fun e w'' ⟨h1,h2⟩=>⟨h1,?_⟩;rw[hfk] at h2;exact h2
    have HTJ:Hid ((L.take (j+1)).filter PV=(L.take j).filter PV ++ if PV n=true then [n] else []):=by
     show _=_;rw[take_snoc hn,List.filter_append,List.filter_cons,List.filter_nil]
    have HPN:Hid (PV n=ovlF now m k):=by rw[HPV.out]; show (match Xbg _ n with | none=>false | some k=>ovlF now m k)=_; rw[hfk]
    obtain ⟨x0,x1,x2,x3⟩:=HS.out.x.c4;clear hr hn hfk hkm;go_wp2_with fail;clear x0 x1 x2 x3 c0;refine HFD.out.mono ?_;rintro e w3 ⟨hb3,Ak,ck,rfl,hhp⟩;have hal:Below wr.heap.size wr (w3.alloc (.cells (tkA k Ak ck) 55)):=hb3.alloc hb3.size _;have HS4:=Lib.hid (HS.out.next hal);have HRW4:=Lib.hid (Xa6 HRW.out hal);have HM4:=Lib.hid (HM.out.below hal);have HQ4:=Lib.hid (HQ.out.below hal HQ.out.lt);have HBO4:=Lib.hid (HBO.out.below hal HBO.out.lt);have HSL4:=Lib.hid (HSLR.out.below hal);have HH4:Hid (HpAt (w3.alloc (.cells (tkA k Ak ck) 55)) Ak ck k.hops):=hhp.below ((Below.refl _ _).alloc (Nat.le_refl _) _);have HK4:Hid (Bk (w3.alloc (.cells (tkA k Ak ck) 55)) w3.heap.size 55 (tkA k Ak ck)):=Bk.new _ _ _;have HBL4:Hid (b<(w3.alloc (.cells (tkA k Ak ck) 55)).heap.size):=by have:=hal.size; have:=HBL.out; show _<_; omega
    clear hal hb3 hhp HS HRW HM HQ HBO HSLR HBL HFD;go_wp2_with fail;generalize w3.alloc (.cells (tkA k Ak ck) 55)=w4 at HS4 HRW4 HM4 HQ4 HBO4 HSL4 HH4 HK4 HBL4 ⊢;generalize w3.heap.size=g9 at HK4 ⊢;have HSF6:Hid (∀W' x',ExS n0 X w0 Aq cq Ac cc p now x' W' → Bk W' g9 55 (tkA k Ak ck)→(fun w' => w'.cell? ⟨X,4,none⟩=some (.int .i64 now)∧w'.cell? ⟨g9,0,none⟩=some (.int .i64 k.num)∧w'.cell? ⟨g9,1,none⟩=some (.int .i64 k.rq.src)∧w'.cell? ⟨g9,2,none⟩=some (.int .i64 k.rq.dst)∧w'.cell? ⟨g9,3,none⟩=some (.int .i64 k.rq.size)∧w'.cell? ⟨g9,4,none⟩=some (.int .i64 k.rq.ready)∧w'.cell? ⟨g9,5,none⟩=some (.int .i64 k.rq.dead)∧w'.cell? ⟨g9,6,none⟩=some (.int .i64 k.rq.prio)∧w'.cell? ⟨g9,7,none⟩=some (.bool k.rq.cust)∧w'.cell? ⟨g9,8,none⟩=some (.slice Ak k.hops.length ck)∧w'.cell? ⟨g9,9,none⟩=some (.int .i64 k.st)∧w'.cell? ⟨g9,10,none⟩=some (.int .i64 k.til)) W'):=fun W' x' h h2=>⟨h.x.cell 4,h2.cell 0,h2.cell 1,h2.cell 2,h2.cell 3,h2.cell 4,h2.cell 5,h2.cell 6,h2.cell 7,h2.cell 8,h2.cell 9,h2.cell 10⟩;go_cut [44] from 45 to 55 (fun s44 wc => ∃v:Bool,s44 = .bool v∧v=PV n∧Below w4.heap.size w4 wc)
    case first =>
     refine Xam (S:=fun w' => w'.cell? ⟨X,4,none⟩=some (.int .i64 now)∧w'.cell? ⟨g9,0,none⟩=some (.int .i64 k.num)∧w'.cell? ⟨g9,1,none⟩=some (.int .i64 k.rq.src)∧w'.cell? ⟨g9,2,none⟩=some (.int .i64 k.rq.dst)∧w'.cell? ⟨g9,3,none⟩=some (.int .i64 k.rq.size)∧w'.cell? ⟨g9,4,none⟩=some (.int .i64 k.rq.ready)∧w'.cell? ⟨g9,5,none⟩=some (.int .i64 k.rq.dead)∧w'.cell? ⟨g9,6,none⟩=some (.int .i64 k.rq.prio)∧w'.cell? ⟨g9,7,none⟩=some (.bool k.rq.cust)∧w'.cell? ⟨g9,8,none⟩=some (.slice Ak k.hops.length ck)∧w'.cell? ⟨g9,9,none⟩=some (.int .i64 k.st)∧w'.cell? ⟨g9,10,none⟩=some (.int .i64 k.til)) [] (by kernel_rfl) (HSF6.out _ _ (HS4.out.next (Below.refl _ _).drew) (HK4.out.below (Below.refl _ _).drew HK4.out.lt)) (fun hHeld=>?_)
     have HBV:Hid (Below w4.heap.size w4 w4.drew):=(Below.refl _ _).drew;generalize w4.drew=U at HBV hHeld ⊢;refine tkG 0 (.agg (tkA k Ak ck)) ?_;refine tkF 1 _ ?_;refine tkF 2 _ ?_;refine tkF 3 _ ?_;refine tkF 4 _ ?_;refine tkG 5 (.int .i64 now) ?_;refine Xaa (i:=6) rfl (by kernel_rfl) (by rfl) (fun K hK=>?_)
     go_simp;refine (Xjo k Ak ck Mh cM m now U (HH4.out.below HBV.out) (HM4.out.below HBV.out) (by have:=HKL.out; omega) (by have:=HML.out; omega)).mono ?_
     rintro e w5 ⟨v,rfl,hv,hb5⟩;have HB5:Hid (Below w4.heap.size w4 w5):=Xa HBV.out hb5;have HVV:Hid (v=PV n):=by
      show _=_;rw[HPN.out];cases v <;> cases hov:ovlF now m k <;> simp[hov] at hv ⊢
     refine hK _ _ (HSF6.out _ _ (HS4.out.next HB5.out) (HK4.out.below HB5.out HK4.out.lt)) ?_;clear hK K hHeld hb5 hv HBV
     try simp only[PU]
     refine Xbd (by kernel_rfl) ?_
     go_wp2;go_meet
     case rel=>exact ⟨v,rfl,HVV.out,HB5.out⟩
    case rest =>
     obtain ⟨v,rfl,hv,hb5⟩:=hcut;have HS5:=Lib.hid (HS4.out.next hb5);have HRW5:=Lib.hid (Xa6 HRW4.out hb5);have HM5:=Lib.hid (HM4.out.below hb5);have HQ5:=Lib.hid (HQ4.out.below hb5 HQ4.out.lt);have HBO5:=Lib.hid (HBO4.out.below hb5 HBO4.out.lt);have HSL5:=Lib.hid (HSL4.out.below hb5);have HBL5:Hid (b<wc.heap.size):=by have:=hb5.size; have:=HBL4.out; show _<_; omega
     obtain ⟨w5,rfl⟩:∃v,v=wc:=⟨_,rfl⟩;clear hb5 HS4 HRW4 HM4 HQ4 HBO4 HSL4 HBL4 HSF6 HH4 HK4;cases v with
     | false =>
       have HTK:Hid (vs=(L.take (j+1)).filter PV):=by
        show _=_;rw[HTJ.out, ←hv,HVS.out]; simp
       clear hv;go_wp2;go_roundw
       case rel=>exact ⟨j+1,by omega,by go_num,V,cV,vs,HTK.out,HS5.out,HRW5.out,HM5.out,HQ5.out,HBO5.out,HSL5.out,HAP.out⟩
       case measure=>simp[intOf]; omega
     | true =>
       have HTK:Hid (vs ++ [n] = (L.take (j+1)).filter PV):=by
        show _=_;rw[HTJ.out, ←hv,HVS.out]; simp
       have HVL:Hid (vs.length≤64):=by
        have h1:((L.take j).filter PV).length≤(L.take j).length:=List.length_filter_le _ _;rw[←HVS.out,List.length_take] at h1;have h2:=HLL.out;show _≤_;omega
       clear hv;have x5:w5.cell? ⟨X,5,none⟩=some (.slice V vs.length cV):=(HS5.out.x.cell 5);have HBA:Hid (Below w5.heap.size w5 (w5.alloc (.cells #[.int .i64 n] 3))):=(Below.refl _ _).alloc (Nat.le_refl _) _;have HSA:=Lib.hid (HS5.out.next HBA.out);have HON:=Lib.hid (Xa6 HRW5.out HBA.out);obtain ⟨i0,hi0,hz0,hz1,hz2⟩:=info_parts Xqh;go_wp2_with (at_builtin; refine wpList_append_own_at _ rfl _ _ 22 rfl n0 3 i0 (.int .i64 0) 1 8 Tryz.underlying22 hi0 hz0 hz1 hz2 rfl (by decide) _ _ _ rfl HON.out ⟨w5.heap.size,0,none⟩ 1 1 [.int .i64 n] rfl rfl ?d1 ?d2 ?d3 ?d4 ?d5 ?_)
       case d1=>exact fun j u hu=>by rw[Addr.add_mid,Nat.zero_add]; exact Xcj _ [.int .i64 n] _ rfl j u hu
       case d2=>exact fun u hu=>intE.one n u hu
       case d3=>have:=HVL.out; unfold maxLen; omega
       case d4=>have:=HVL.out; omega
       case d5=>exact HSA.out.c.gs
       intro v' w6 hown' hg' _ hob;obtain ⟨A',c',e'⟩:=Xa8 hown';subst e';obtain ⟨hx6,hs6,hr6⟩:=HSA.out.vict rfl rfl HON.out hg' hown';have hle:(vs ++ [n]).length=vs.length+1:=by simp
       have hne:g0 ≠ X:=by
        have:=Xeq HQ5.out HS5.out.x (by decide)
        exact this
       have hne1:g0+1 ≠ X:=by
        have:=Xeq HBO5.out HS5.out.x (by decide)
        exact this
       have HX6:=Lib.hid hx6;have HS6:=Lib.hid hs6;have HR6:=Lib.hid hr6;have HM6:Hid (HpAt (w6.setCell ⟨X,5,none⟩ (.slice A' (vs.length+1) c')) Mh cM m):=((HM5.out.below HBA.out).keep (Xhh HON.out (by decide) hg')).keep (Xai.put hx6 (by decide) _)
       have HQ6:Hid (Bk (w6.setCell ⟨X,5,none⟩ (.slice A' (vs.length+1) c')) g0 31 (rqA q)):=((HQ5.out.below HBA.out HQ5.out.lt).grown hg' (Xa1 (HQ5.out.below HBA.out HQ5.out.lt) (by decide) HON.out)).other (p:=⟨X,5,none⟩) hne _
       have HBO6:Hid (Bk (w6.setCell ⟨X,5,none⟩ (.slice A' (vs.length+1) c')) (g0+1) 4 #[.bool false]):=((HBO5.out.below HBA.out HBO5.out.lt).grown hg' (Xa1 (HBO5.out.below HBA.out HBO5.out.lt) (by decide) HON.out)).other (p:=⟨X,5,none⟩) hne1 _
       have HSL6:Hid (SlAt intE (w6.setCell ⟨X,5,none⟩ (.slice A' (vs.length+1) c')) (some ⟨b,off,none⟩) L):=Xj5 (Xdc (HSL5.out.below HBA.out) hg' (fun a _ e h2=>HAP.out _ _ h2.symm e rfl)) (Fr.put _ _ _ _) (fun a e h2=>by
        have:=HXL.out a e;omega)
       have HAP6:Hid (∀r a,(Value.slice A' (vs.length+1) c').ownBlock=some r→some (⟨b,off,none⟩:Addr)=some a→a.block ≠ r):=fun r a e e2 h2=>by
        rcases hob with h3 | h3
        ·rw[h3] at e;exact HAP.out r a e e2 h2
        ·rw[h3] at e;cases e2;have h4:=Option.some.inj e;have h5:=HBA.out.size;have h6:=HBL5.out;simp only at h2;omega
       have y5:=HX6.out.n5;have f5:=HX6.out.free 5;clear hx6 hs6 hr6 hown' hg' hob hi0 hz0 hz1 hz2 x5 hne hne1 HS5 HRW5 HM5 HQ5 HBO5 HSL5 HBA HSA HON HX6;go_wp2;clear y5 f5;generalize w6.setCell ⟨X,5,none⟩ (.slice A' (vs.length+1) c')=w7 at HS6 HR6 HM6 HQ6 HBO6 HSL6 ⊢;have HR7:Hid (w7.ownsRow n0 3 1 (.slice A' (vs ++ [n]).length c') (vs ++ [n]).length ((vs ++ [n]).flatMap intE.f)):=by
        have h:w7.ownsRow n0 3 1 (.slice A' (vs.length+1) c') (vs ++ [n]).length ((vs ++ [n]).flatMap intE.f):=HR6.out
        rwa [←hle] at h
       have HAP7:Hid (∀r a,(Value.slice A' (vs ++ [n]).length c').ownBlock=some r→some (⟨b,off,none⟩:Addr)=some a→a.block ≠ r):=by rw[hle]; exact HAP6.out
       clear hle;go_roundw
       case rel=>exact ⟨j+1,by omega,by go_num,A',c',vs ++ [n],HTK.out,HS6.out,HR7.out,HM6.out,HQ6.out,HBO6.out,HSL6.out,HAP7.out⟩
       case measure=>simp[intOf]; omega
   ·have HVV:Hid (vs=L.filter PV):=by
     have h:=HVS.out
     rwa [List.take_of_length_le (by omega)] at h
    have x3:=HS.out.x.n3;have HNXT:Hid (Calls Tryz.prog 53 #[.pointer (some ⟨X,0,none⟩)] wr fun e w' => e = .returned (.int .i64 (Xad (ms.map (·.k))))∧Below wr.heap.size wr w'):=Lib.hid (next_any X A ct (ms.map (·.k)) wr (HLG.out wr V cV vs HS.out).t (by rw[List.length_map]; exact x3) (by rw[List.length_map]; have:=HL.out; omega) ⟨(Xe3 HNM.out).1,by have:=HNX.out; omega⟩)
    obtain ⟨nx,hnx⟩:∃nx,nx=Xad (ms.map (·.k)):=⟨_,rfl⟩;have HNE:=Lib.hid hnx;rw[←hnx] at HNXT;clear HVS x3 hnx;go_wp2_with fail;refine HNXT.out.mono ?_;rintro e w3 ⟨rfl,hb3⟩;have HS3:=Lib.hid (HS.out.next hb3);have HM3:=Lib.hid (HM.out.below hb3);have HQ3:=Lib.hid (HQ.out.below hb3 HQ.out.lt);have HBO3:=Lib.hid (HBO.out.below hb3 HBO.out.lt);clear hb3 HNXT HS HRW HM HQ HBO HSLR HAP;go_wp2_with fail;have HSFT:Hid (∀W',Bk W' g0 31 (rqA q)→(fun w' => w'.cell? ⟨g0,0,none⟩=some (.int .i64 q.src)∧w'.cell? ⟨g0,1,none⟩=some (.int .i64 q.dst)∧w'.cell? ⟨g0,2,none⟩=some (.int .i64 q.size)∧w'.cell? ⟨g0,3,none⟩=some (.int .i64 q.ready)∧w'.cell? ⟨g0,4,none⟩=some (.int .i64 q.dead)∧w'.cell? ⟨g0,5,none⟩=some (.int .i64 q.prio)∧w'.cell? ⟨g0,6,none⟩=some (.bool q.cust)) W'):=fun W' h2=>⟨h2.cell 0,h2.cell 1,h2.cell 2,h2.cell 3,h2.cell 4,h2.cell 5,h2.cell 6⟩;go_cut [] from 25 (fun wc => ∃A2 c2 ms2,ms2.map (·.k)=setT (ms.map (·.k)) ⟨nx,q,m,1,0⟩∧(∀y ∈ ms2,y.k=⟨nx,q,m,1,0⟩∨y ∈ ms)∧ExS n0 X w0 Aq cq Ac cc p now ⟨(.slice A2 ms2.length c2),ms2,V,cV,vs,false,0,(.slice none 0 0), [],(.slice none 0 0), []⟩ wc∧Bk wc (g0+1) 4 #[.bool false])
    case first =>
     refine Xam (S:=fun w' => w'.cell? ⟨g0,0,none⟩=some (.int .i64 q.src)∧w'.cell? ⟨g0,1,none⟩=some (.int .i64 q.dst)∧w'.cell? ⟨g0,2,none⟩=some (.int .i64 q.size)∧w'.cell? ⟨g0,3,none⟩=some (.int .i64 q.ready)∧w'.cell? ⟨g0,4,none⟩=some (.int .i64 q.dead)∧w'.cell? ⟨g0,5,none⟩=some (.int .i64 q.prio)∧w'.cell? ⟨g0,6,none⟩=some (.bool q.cust)) [] (by kernel_rfl) (HSFT.out _ (HQ3.out.below (Below.refl _ _).drew HQ3.out.lt)) (fun hHeld=>?_)
     have HVS:=Lib.hid (HS3.out.next (Below.refl w3.heap.size w3).drew);have HVM:=Lib.hid (HM3.out.below (Below.refl w3.heap.size w3).drew);have HVQ:=Lib.hid (HQ3.out.below (Below.refl w3.heap.size w3).drew HQ3.out.lt);have HVB:=Lib.hid (HBO3.out.below (Below.refl w3.heap.size w3).drew HBO3.out.lt);clear HS3 HM3 HQ3 HBO3;generalize w3.drew=U at HVS HVM HVQ HVB hHeld ⊢;refine tkF 0 _ ?_;refine tkF 1 _ ?_;refine tkF 2 _ ?_;refine tkF 3 _ ?_;refine tkG 4 (.agg (rqA q)) ?_;refine tkF 5 _ ?_;refine tkF 6 _ ?_;refine Xaa (i:=7) rfl (by kernel_rfl) (by rfl) (fun K hK=>?_)
     go_simp;refine (set_any X 120 _ n0 (.slice A ms.length ct) ms ⟨⟨nx,q,m,1,0⟩,Mh,cM⟩ U HVS.out.x rfl (by decide) HVS.out.c.rt HVS.out.c.gs (by have:=HL.out; omega)).mono ?_
     intro e w4 hset;obtain ⟨rfl,vT2,ms2,h1,h2,h3,h4,h5⟩:=HVS.out.set HVM.out hset;obtain ⟨A2,c2,h6⟩:=Xa8 h3.c.rt;have h6:vT2 = .slice A2 ms2.length c2:=h6;subst h6;have hq4:Bk w4 g0 31 (rqA q):=Xft HVQ.out h4 (fun e=>by
      rcases e with e | e
      ·exact Xeq HVQ.out HVS.out.x (by decide) e
      ·obtain ⟨cs2,hc2⟩:=Xbn HVS.out.c.rt e;exact Xeq HVQ.out hc2 (by decide) rfl)
     have hb4:Bk w4 (g0+1) 4 #[.bool false]:=Xgq h4 HVS.out.bool _ _ _ HVB.out;have HB4:=Lib.hid hb4;have HS4:=Lib.hid h3;have HM1:Hid (ms2.map (·.k)=setT (ms.map (·.k)) ⟨nx,q,m,1,0⟩):=h1;have HM2:Hid (∀y ∈ ms2,y.k=⟨nx,q,m,1,0⟩∨y ∈ ms):=fun y hy=>by
      rcases h2 y hy with e | e
      ·exact .inl (by rw[e])
      ·exact .inr e
     refine hK _ _ (HSFT.out _ hq4) ?_;clear hK K h1 h2 h3 h4 h5 hset hq4 hb4 hHeld HVS HVM HVQ HVB
     try simp only[PU]
     refine Xbd (by kernel_rfl) ?_
     go_wp2;go_meet
     case rel=>exact ⟨A2,c2,ms2,HM1.out,HM2.out,HS4.out,HB4.out⟩
    case rest =>
     obtain ⟨A2,c2,ms2,hm1,hm2,hs4,hb4⟩:=hcut;have HM1:=Lib.hid hm1;have HM2:=Lib.hid hm2;have HS4:=Lib.hid hs4;have HB4:=Lib.hid hb4;obtain ⟨w4,rfl⟩:∃v,v=wc:=⟨_,rfl⟩;have x6:=HS4.out.x.n6;have x7:=HS4.out.x.n7;have f6:=HS4.out.x.free 6;have f7:=HS4.out.x.free 7;have HS5:Hid (ExS n0 X w0 Aq cq Ac cc p now ⟨(.slice A2 ms2.length c2),ms2,V,cV,vs,true,nx,(.slice none 0 0), [],(.slice none 0 0), []⟩ ((w4.setCell ⟨X,6,none⟩ (.bool true)).setCell ⟨X,7,none⟩ (.int .i64 nx))):=HS4.out.accd;have hne1:g0+1 ≠ X:=Xeq HB4.out HS4.out.x (by decide)
     have HB5:Hid (Bk ((w4.setCell ⟨X,6,none⟩ (.bool true)).setCell ⟨X,7,none⟩ (.int .i64 nx)) (g0+1) 4 #[.bool false]):=(HB4.out.other (p:=⟨X,6,none⟩) hne1 _).other (p:=⟨X,7,none⟩) hne1 _;have hst:setT (ms.map (·.k)) ⟨nx,q,m,1,0⟩=ms.map (·.k) ++ [⟨nx,q,m,1,0⟩]:=Xb HNM.out HNE.out;have HOK1:Hid (ExOK p ⟨(.slice A2 ms2.length c2),ms2,V,cV,vs,true,nx,(.slice none 0 0), [],(.slice none 0 0), []⟩):=by
      have hvl:vs.length≤64:=by
       rw[HVV.out];have h1:(L.filter PV).length≤L.length:=List.length_filter_le _ _;have h2:=HLL.out;omega
      have hlen:ms2.length=ms.length+1:=by
       have:=congrArg List.length HM1.out;rw[hst] at this;simpa using this
      refine ⟨by show ms2.length≤70; have:=HL.out; omega,fun y hy=>?_,fun y hy=>?_,fun y hy _=>?_,?_,fun n hn=>?_,by show vs.length+0+0≤100; omega⟩
      ·rcases HM2.out y hy with e | e
       ·rw[e]; exact HMB.out
       ·exact HHB.out y e
      ·rcases HM2.out y hy with e | e
       ·rw[e]; have:=HML.out; show m.length≤2000; omega
       ·have:=HHL.out y e; omega
      ·rcases HM2.out y hy with e | e
       ·rw[e]; exact HML.out
       ·exact HHL.out y e
      ·show vs.Nodup;rw[HVV.out,HLE.out];exact (Xib HNM.out).sublist List.filter_sublist
      ·have hn:n ∈ L:=by
        have hn:n ∈ vs:=hn;rw[HVV.out] at hn;exact (List.mem_filter.1 hn).1
       obtain ⟨k,hfk,hkm⟩:=HFT.out n hn;have h1:k ∈ ms2.map (·.k):=by rw[HM1.out,hst]; exact List.mem_append_left _ hkm
       obtain ⟨y,hy,e⟩:=List.mem_map.1 h1;exact ⟨y,hy,by rw[e]; exact (Xau hfk).1⟩
     clear hm1 hm2 hs4 hb4 hst HS4 HB4 hne1;go_wp2_with fail;generalize (w4.setCell ⟨X,6,none⟩ (.bool true)).setCell ⟨X,7,none⟩ (.int .i64 nx)=w5 at HS5 HB5 ⊢;clear x6 x7 f6 f7;have HG0:Hid (n0≤g0+1):=by
      have h1:=hg0.symm;have h2:=HGS.out;show _≤_;omega
     have HPAN:Hid (∀(wz:World) (tmps:Array Value),tmps[6]? = some (.pointer (some ⟨g0+1,0,none⟩))→Below n0 w0 wz→Bk wz (g0+1) 4 #[.bool false] → Leaves Tryz.prog Tryz.f118 tmps (Xdt X Aq cq Ac cc p now q m (ms.map (·.k)) n0 w0) [{ target:=.fn (.func 164) #[.pointer (some ⟨g0+1,0,none⟩)],args := #[] }] (.panicking [{ v:=.iface 237 (.agg #[]),recovered:=false }]) wz):=fun wz tmps h6 hbe hbk=>by
      refine leaves_cons (f:=164) (args := #[.pointer (some ⟨g0+1,0,none⟩)]) (by simp) (by simp[go_sem]) ?_
      refine (Xhc (g0+1) false [] wz hbk).mono ?_;rintro e u' w'' ⟨rfl,rfl,rfl⟩;have hb2:Below n0 w0 ((wz.alloc (.cells #[] 237)).setCell ⟨g0+1,0,none⟩ (.bool false)):=(hbe.alloc (by have:=hbk.lt; have:=HG0.out; omega) _).setCell (p:=⟨g0+1,0,none⟩) HG0.out _
      have hc:((wz.alloc (.cells #[] 237)).setCell ⟨g0+1,0,none⟩ (.bool false)).cell? ⟨g0+1,0,none⟩=some (.bool false):=((Bk.alloc hbk _).put 0 (.bool false)).cell 0;have hmp:Xdt X Aq cq Ac cc p now q m (ms.map (·.k)) n0 w0 (.returned (.bool false)) ((wz.alloc (.cells #[] 237)).setCell ⟨g0+1,0,none⟩ (.bool false)):=⟨hb2,.inl rfl⟩;simp[Leaves,settle,results,Tryz.results118,go_sem,h6,hc];exact hmp
     have HRET:Hid (∀(wz:World) (tmps:Array Value),tmps[6]? = some (.pointer (some ⟨g0+1,0,none⟩))→wz.cell? ⟨g0+1,0,none⟩=some (.bool true)→Xdt X Aq cq Ac cc p now q m (ms.map (·.k)) n0 w0 (.returned (.bool true)) wz→Leaves Tryz.prog Tryz.f118 tmps (Xdt X Aq cq Ac cc p now q m (ms.map (·.k)) n0 w0) [{ target:=.fn (.func 164) #[.pointer (some ⟨g0+1,0,none⟩)],args := #[] }] .returning wz):=fun wz tmps h6 hc hmp=>by
      refine leaves_cons (f:=164) (args := #[.pointer (some ⟨g0+1,0,none⟩)]) (by simp) (by simp[go_sem]) ?_
      refine (Xoe (g0+1) wz).mono ?_;rintro e u' w'' ⟨rfl,rfl,rfl⟩;simp[Leaves,settle,results,Tryz.results118,go_sem,h6,hc];exact hmp
     obtain ⟨PI,hPI⟩:∃PI:ExV→Prop,PI=fun x' => (∀M' D' ts',Xd0 p now (x'.ms.map (·.k)) x'.vs M' D' ts' → Xd0 p now (setT (ms.map (·.k)) ⟨nx,q,m,1,0⟩) (vicF p now m (ms.map (·.k))) (x'.M ++ M') (x'.D ++ D') ts')∧ExOK p x' ∧ x'.acc=true∧x'.num=nx:=⟨_,rfl⟩;have HPI:=Lib.hid hPI;have HPI1:Hid (PI ⟨(.slice A2 ms2.length c2),ms2,V,cV,vs,true,nx,(.slice none 0 0), [],(.slice none 0 0), []⟩):=by
      rw[hPI];refine ⟨fun M' D' ts' h=>?_,HOK1.out,rfl,rfl⟩;rw[HVE.out, ←HVV.out, ←HM1.out];exact h
     clear hPI HOK1 HLG HSF HWK;go_loopw [82] (fun _ wr => ∃x',PI x' ∧ ExS n0 X w0 Aq cq Ac cc p now x' wr∧Bk wr (g0+1) 4 #[.bool false]) (fun _ wr=>match wr.cell? ⟨X,5,none⟩ with | some (.slice _ n _)=>n | _=>0)
     case atStart=>exact ⟨_,HPI1.out,HS5.out,HB5.out⟩
     case round =>
      obtain ⟨x',hpi,hs,hbo⟩:=hrel;have HPX:=Lib.hid hpi;have HSX:=Lib.hid hs;have HBX:=Lib.hid hbo;clear hpi hs hbo HS5 HB5 HPI1;obtain ⟨wq,rfl⟩:∃v,v=wr:=⟨_,rfl⟩;obtain ⟨vT,msx,V,cV,vs,acc,num,vM,M,vD,D⟩:=x';have c5:=HSX.out.x.n5;cases vs with
      | cons n l =>
        have c5:wq.cell? ⟨X,5,none⟩=some (.slice V (l.length+1) cV):=c5;have hpx:=HPX.out;rw[HPI.out] at hpx;have HP1:=Lib.hid hpx.1;have HP2:=Lib.hid hpx.2.2;have HMV:=Lib.hid (Xos X Aq cq Ac cc p now n l ⟨vT,msx,V,cV,n :: l,acc,num,vM,M,vD,D⟩ rfl w0 wq HP.out HOK.out (by rw[←HN0.out]; exact HSX.out) hpx.2.1)
        rw[←HN0.out] at HMV;clear hpx HPX;go_wp2_with fail;refine HMV.out.mono ?_;rintro e w6 ⟨hbe,hkt,rfl | ⟨rfl,x2,mv,hmv,hvs,hs,ho,hmd,ha,hn⟩⟩
        ·exact HPAN.out w6 _ rfl hbe (hkt _ _ _ HBX.out)
        ·have HPX2:Hid (PI x2):=by
          rw[HPI.out];refine ⟨fun M' D' ts' h=>?_,ho,ha.trans HP2.out.1,hn.trans HP2.out.2⟩;rcases hmd with ⟨rfl,e1,e2⟩ | ⟨rfl,e1,e2⟩
          ·have h1:=HP1.out (n :: M') D' ts' (.moved hmv (by rw[hvs] at h; exact h))
           rw[e1,e2,List.append_assoc];exact h1
          ·have h1:=HP1.out M' (n :: D') ts' (.dropped hmv (by rw[hvs] at h; exact h))
           rw[e1,e2,List.append_assoc];exact h1
         have HS6:=Lib.hid hs;have HB6:Hid (Bk w6 (g0+1) 4 #[.bool false]):=hkt _ _ _ HBX.out;have d5:w6.cell? ⟨X,5,none⟩=some (.slice x2.V l.length x2.cV):=by
          have h:=hs.x.n5
          rwa [hvs] at h
         clear hbe hkt hmv hvs hs ho hmd ha hn HMV HSX HBX;go_wp2;go_roundw
         case rel=>exact ⟨x2,HPX2.out,HS6.out,HB6.out⟩
         case measure=>simp[c5,d5]
      | nil =>
        have c5:wq.cell? ⟨X,5,none⟩=some (.slice V 0 cV):=c5;have hpx:=HPX.out;rw[HPI.out] at hpx;have HP1:=Lib.hid hpx;obtain ⟨A4,c4,e4⟩:=Xa8 HSX.out.c.rt;have e4:vT = .slice A4 msx.length c4:=e4;subst e4;have HET:Hid (Calls Tryz.prog 167 #[.pointer (some ⟨X,0,none⟩)] wq (Xk8 p Aq cq Ac cc (msx.map (·.k)) [] now wq)):=Lib.hid
         (Xgf X Aq cq Ac cc p A4 c4 (msx.map (·.k)) now V cV [] (.bool acc) (.int .i64 num) vM vD (.slice none 0 0) wq (HSX.out.lg HN0.out HP.out hpx.2.1 rfl) HOK.out (fun k hk=>by
           obtain ⟨y,hy,rfl⟩:=List.mem_map.1 hk;exact hpx.2.1.hb y hy) (by rw[List.length_map]; exact HSX.out.x) HSX.out.c.sv (by simp))
        clear hpx HPX;go_wp2_with fail;refine HET.out.mono ?_;rintro e w6 ⟨hb6,rfl | ⟨t,B,cb,H,ch,hext,rfl,htb⟩⟩
        ·exact HPAN.out w6 _ rfl (HSX.out.next hb6).c.be (HBX.out.below hb6 HBX.out.lt)
        ·have HS6:=Lib.hid (HSX.out.next hb6);have HB6:=Lib.hid (HBX.out.below hb6 HBX.out.lt);have HEX:=Lib.hid hext;have r0:=HB6.out.n0;have f0:=HB6.out.free 0;clear hb6 hext htb HET HSX HBX;go_wp2;have hne:X ≠ g0+1:=Xeq HS6.out.x HB6.out (by decide)
         have hs7:ExS n0 X w0 Aq cq Ac cc p now ⟨.slice A4 msx.length c4,msx,V,cV, [],acc,num,vM,M,vD,D⟩ (w6.setCell ⟨g0+1,0,none⟩ (.bool true)):=⟨HS6.out.c.at HB6.out (by decide) (by decide) (by decide) (Fr.put _ _ _ _) (HS6.out.c.be.setCell (p:=⟨g0+1,0,none⟩) HG0.out _),HS6.out.x.other (p:=⟨g0+1,0,none⟩) hne _,HS6.out.nX⟩
         have hmp:Xdt X Aq cq Ac cc p now q m (ms.map (·.k)) n0 w0 (.returned (.bool true)) (w6.setCell ⟨g0+1,0,none⟩ (.bool true)):=⟨hs7.c.be,.inr ⟨rfl,_,by
          have h:=HP1.out.1 [] [] _ (.nil _);rw[List.append_nil,List.append_nil] at h;rw[HNE.out] at h;exact h,hs7,HP1.out.2.2.1,HP1.out.2.2.2.trans HNE.out,HP1.out.2.1,rfl,t,HEX.out⟩⟩
         have hc:(w6.setCell ⟨g0+1,0,none⟩ (.bool true)).cell? ⟨g0+1,0,none⟩=some (.bool true):=(HB6.out.put 0 (.bool true)).cell 0;exact HRET.out _ _ rfl hc hmp
end Go.Proofs.YtebkgbmijocdjaaGreat.Tp
