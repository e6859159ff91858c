/- A part of the proof for the ledger. No condition beyond those that each theorem states. -/
import Derived.Test.YtebkgbmijocdjaaGreatZ41
set_option maxHeartbeats 32000000
set_option maxRecDepth 100000
set_option linter.unusedVariables false
set_option linter.unusedSimpArgs false
namespace Go.Proofs.YtebkgbmijocdjaaGreat.Tp
open Go Go.RowKit
structure ExOK (p:Pln)(x:ExV):Prop where
 ln:x.ms.length≤70
 hb:∀m ∈ x.ms,∀h ∈ m.k.hops,HopB p h
 l2:∀m ∈ x.ms,m.k.hops.length≤2000
 l1:∀m ∈ x.ms,m.k.num ∈ x.vs→m.k.hops.length≤1000
 nd:x.vs.Nodup
 fd:∀n ∈ x.vs,∃m ∈ x.ms,m.k.num=n
 vl:x.vs.length+x.M.length+x.D.length≤100
def Xsl (X:Nat)(Aq:Option Addr)(cq:Nat)(Ac:Option Addr)(cc:Nat)(p:Pln)(now:Int)(n:Int)(l:List Int)(x:ExV)(n0:Nat)(w0 W:World)(e:Ending)(w':World):Prop:=Below n0 w0 w' ∧ Xai 4 W w' ∧ (e = .panicked [{ v:=.iface 237 (.agg #[]),recovered:=false }] ∨ e = .returned (.tuple #[]) ∧ ∃(x':ExV)(mv:Bool),Xn5 p now (x.ms.map (·.k)) n l (x'.ms.map (·.k)) mv∧x'.vs=l∧ExS n0 X w0 Aq cq Ac cc p now x' w' ∧ ExOK p x' ∧ (mv=true∧x'.M=x.M ++ [n] ∧ x'.D=x.D∨mv=false∧x'.M=x.M∧x'.D=x.D ++ [n])∧x'.acc=x.acc∧x'.num=x.num)
theorem ExS.lg {n0 X:Nat}{w0 W:World}{Aq:Option Addr}{cq:Nat}{Ac:Option Addr}{cc:Nat}{p:Pln}{now:Int}{x:ExV}(h:ExS n0 X w0 Aq cq Ac cc p now x W)(hn:n0=w0.heap.size)(hp:Xas w0 Aq cq Ac cc p)(ho:ExOK p x){A:Option Addr}{ct:Nat}(e:x.vT = .slice A x.ms.length ct):LgAt W Aq cq Ac cc p A ct (x.ms.map (·.k)):=by
 have hrt:=h.c.rt;obtain ⟨A',ct',e2,hs,hc⟩:=Xah (E:=tmE) hrt;rw[e] at e2
 injection e2 with e3 _ e4
 subst e3 e4 hn;exact ⟨hp.below h.c.be,⟨x.ms,rfl,hs,h.c.hp⟩,by rw[List.length_map]; exact hc,by rw[List.length_map]; have:=ho.ln; omega,fun k hk=>by
  obtain ⟨m,hm,rfl⟩:=List.mem_map.1 hk;have:=ho.l2 m hm; omega⟩
theorem Xks {k:Tk}:∀ {ts:List Tk},(∃t ∈ ts,t.num=k.num)→(setT ts k).map (·.num)=ts.map (·.num)
 | [],h=>by obtain ⟨t,ht,_⟩:=h; simp at ht
 | y :: ts,h=>by
   rw[setT]
   by_cases e:y.num=k.num
   ·rw[if_pos e,List.map_cons,List.map_cons,e]
   ·rw[if_neg e,List.map_cons,List.map_cons,Xks];obtain ⟨t,ht,e2⟩:=h;rcases List.mem_cons.1 ht with rfl | ht
    ·exact absurd e2 e
    ·exact ⟨t,ht,e2⟩
theorem Xnb {k:Tk}:∀ {ts:List Tk},k ∈ setT ts k
 | [] => by simp[setT]
 | y :: ts=>by
   rw[setT]
   split
   ·simp
   ·exact List.mem_cons_of_mem _ Xnb
theorem ExOK.put {p:Pln}{x x':ExV}{n:Int}{k':Tk}{l:List Int}(h:ExOK p x)(hn:k'.num=n)(hf:∃m ∈ x.ms,m.k.num=n)(hl:∀a ∈ l,a ∈ x.vs)(hnd:l.Nodup)(hnl:n ∉ l)(hk1:∀h ∈ k'.hops,HopB p h)(hk2:k'.hops.length≤2000)
  (hms:x'.ms.map (·.k)=setT (x.ms.map (·.k)) k') (hmem:∀y ∈ x'.ms,y.k=k' ∨ y ∈ x.ms) (e2:x'.vs=l) (hlen:x'.vs.length+x'.M.length+x'.D.length≤100):ExOK p x':=by
 have hnum:(x'.ms.map (·.k)).map (·.num)=(x.ms.map (·.k)).map (·.num):=by
  rw[hms];refine Xks ?_;obtain ⟨m,hm,e⟩:=hf;exact ⟨m.k,List.mem_map.2 ⟨m,hm,rfl⟩,by rw[hn]; exact e⟩
 refine ⟨?_,fun y hy=>?_,fun y hy=>?_,fun y hy hv=>?_,by rw[e2]; exact hnd,fun a ha=>?_,hlen⟩
 ·have:=congrArg List.length hnum;simp only[List.length_map] at this;rw[this]; exact h.ln
 ·rcases hmem y hy with e | e
  ·rw[e]; exact hk1
  ·exact h.hb y e
 ·rcases hmem y hy with e | e
  ·rw[e]; exact hk2
  ·exact h.l2 y e
 ·rw[e2] at hv;rcases hmem y hy with e | e
  ·rw[e,hn] at hv;exact absurd hv hnl
  ·exact h.l1 y e (hl _ hv)
 ·rw[e2] at ha;obtain ⟨m,hm,e⟩:=h.fd a (hl a ha);have h1:a ∈ (x.ms.map (·.k)).map (·.num):=List.mem_map.2 ⟨m.k,List.mem_map.2 ⟨m,hm,rfl⟩,e⟩;rw[←hnum] at h1;obtain ⟨k2,hk2,e3⟩:=List.mem_map.1 h1;obtain ⟨m2,hm2,rfl⟩:=List.mem_map.1 hk2;exact ⟨m2,hm2,e3⟩
theorem Xgq {E:Nat→Prop}{T:TypeId}{W W':World}(hf:Fr E W W')(h:∀j cs mk,W.heap[j]? = some (.cells cs T mk) → ¬ E j):Xai T W W':=fun j cs mk hj=>(hf.2 j (Array.getElem?_eq_some_iff.1 hj).1 (h j cs mk hj)).trans hj
theorem ExS.bool {n0 X:Nat}{w W:World}{Aq:Option Addr}{cq:Nat}{Ac:Option Addr}{cc:Nat}{p:Pln}{now:Int}{x:ExV}(h:ExS n0 X w Aq cq Ac cc p now x W)(j:Nat)(cs:Array Value)(mk:Nat × Nat)(hj:W.heap[j]? = some (.cells cs 4 mk)):¬ (j=X∨x.vT.ownBlock=some j):=fun e2=>by
 rcases e2 with e2 | e2
 ·subst e2;have hx:=h.x;unfold Bk at hx;rw[hx] at hj;cases hj
 ·obtain ⟨cs2,hc2⟩:=Xbn h.c.rt e2;unfold Bk at hc2;rw[hc2] at hj;cases hj
theorem Xhh {W W':World}{T t:TypeId}{base k n:Nat}{v:Value}{xs:List Value}(hr:W.ownsRow base t k v n xs)(hne:t ≠ T)(hg:W.grownBy W' v.ownBlock):Xai T W W':=Xai.grown hg fun g e cs mk hb=>by
 obtain ⟨cs2,hc2⟩:=Xbn hr e;unfold Bk at hc2;rw[hc2] at hb;cases hb;exact hne rfl
theorem ExS.hop {n0 X:Nat}{w W:World}{Aq:Option Addr}{cq:Nat}{Ac:Option Addr}{cc:Nat}{p:Pln}{now:Int}{x:ExV}(h:ExS n0 X w Aq cq Ac cc p now x W)(j:Nat)(cs:Array Value)(mk:Nat × Nat)(hj:W.heap[j]? = some (.cells cs 41 mk)):¬ (j=X∨x.vT.ownBlock=some j):=fun e2=>by
 rcases e2 with e2 | e2
 ·subst e2;have hx:=h.x;unfold Bk at hx;rw[hx] at hj;cases hj
 ·obtain ⟨cs2,hc2⟩:=Xbn h.c.rt e2;unfold Bk at hc2;rw[hc2] at hj;cases hj
theorem Xos (X:Nat)(Aq:Option Addr)(cq:Nat)(Ac:Option Addr)(cc:Nat)(p:Pln)(now:Int)(n:Int)(l:List Int)(x:ExV)(hv:x.vs=n :: l)(w0 W:World)(hp:Xas w0 Aq cq Ac cc p)(hok:Xbe p)(hS:ExS w0.heap.size X w0 Aq cq Ac cc p now x W)(hO:ExOK p x) :
  Calls Tryz.prog 166 #[.pointer (some ⟨X,0,none⟩)] W (Xsl X Aq cq Ac cc p now n l x w0.heap.size w0 W):=by
 obtain ⟨vT,ms,V,cV,vs,acc,num,vM,M,vD,D⟩:=x;have hv:vs=n :: l:=hv;subst hv;obtain ⟨b,off,hV,hel⟩:=hS.c.sv.one (by simp)
 have hV:V=some ⟨b,off,none⟩:=hV;subst hV;obtain ⟨A,ct,hvT⟩:=Xa8 hS.c.rt;have hvT:vT = .slice A ms.length ct:=hvT;subst hvT;have HP:=Lib.hid hp;have HOK:=Lib.hid hok;have HO:=Lib.hid hO;have hlg:=hS.lg rfl hp hO rfl;generalize hn0:w0.heap.size=n0 at hS ⊢;have HS:=Lib.hid hS;have HN0:Hid (n0=w0.heap.size):=hn0.symm;obtain ⟨m0,hm0,hmn⟩:=hO.fd n (by simp)
 obtain ⟨k,hfk⟩:∃k,Xbg (ms.map (·.k)) n=some k:=by
  cases e:Xbg (ms.map (·.k)) n with
  | some k=>exact ⟨k,rfl⟩
  | none =>
    unfold Xbg at e;rw[List.find?_eq_none] at e;have:=e m0.k (List.mem_map.2 ⟨m0,hm0,rfl⟩);rw[hmn] at this;simp at this
 obtain ⟨hkn, -⟩:=Xau hfk;obtain ⟨m1,hm1,hmk⟩:∃m ∈ ms,m.k=k:=by
  have h:=List.mem_of_find?_eq_some hfk;obtain ⟨m,hm,e⟩:=List.mem_map.1 h;exact ⟨m,hm,e⟩
 have HKB:Hid (∀h ∈ k.hops,HopB p h):=by rw[←hmk]; exact hO.hb m1 hm1
 have HKL:Hid (k.hops.length≤1000):=by rw[←hmk]; exact hO.l1 m1 hm1 (by rw[hmk,hkn]; simp)
 have HKN:=Lib.hid hkn;have HFK:=Lib.hid hfk;have hcel:W.cell? ⟨b,off,none⟩=some (.int .i64 n):=by
  have:=hel 0 n rfl 0 _ rfl;simpa using this
 have HLE:Hid ((n :: l).length=l.length+1):=rfl;have HFD:Hid (∀w',Below W.heap.size W w' → Calls Tryz.prog 21 #[(.agg (lgA Aq cq Ac cc p A ms.length ct)),.int .i64 n] w' fun e w'' => Below w'.heap.size w' w'' ∧ ∃Ak ck,e = .returned (.tuple #[.agg (tkA k Ak ck),.bool true])∧HpAt w'' Ak ck k.hops):=fun w' hb=>by
  have h:=Xfr Aq cq Ac cc p A ct (ms.map (·.k)) n w' (hlg.t.below hb) (by rw[List.length_map]; have h1:ms.length≤70:=hO.ln; omega)
  rw[List.length_map] at h;refine h.mono fun e w'' ⟨h1,h2⟩=>⟨h1,?_⟩;rw[hfk] at h2;exact h2
 have HSF:Hid (∀W',Below W.heap.size W W' → (fun w' => w'.cell? ⟨X,0,none⟩=some (.slice Aq p.q.length cq)∧w'.cell? ⟨X,1,none⟩=some (.slice Ac p.c.length cc)∧w'.cell? ⟨X,2,none⟩=some (.slice none 0 0)∧w'.cell? ⟨X,3,none⟩=some (.slice A ms.length ct)∧w'.cell? ⟨X,5,none⟩=some (.slice (some ⟨b,off,none⟩) (l.length+1) cV)∧w'.cell? ⟨b,off,none⟩=some (.int .i64 n)) W'):=fun W' hb=>by
  have h:=(hS.next hb).x;exact ⟨h.cell 0,h.cell 1,h.cell 2,h.cell 3,h.cell 5,(hb.cell (p:=⟨b,off,none⟩) (World.block_lt_of_cell? _ _ hcel)).trans hcel⟩
 clear hp hok hS hO hlg hel hm0 hmn hfk hm1 hmk hcel hkn hV hv hvT;go_enter Tryz.func166,Tryz.ntmps166;go_wp2_with fail;go_cut [2,3] from 9 (fun s2 s3 wc=>s3 = .bool true ∧ ∃g2 Ak ck,s2 = .pointer (some ⟨g2,0,none⟩)∧W.heap.size≤g2∧Bk wc g2 55 (tkA k Ak ck)∧HpAt wc Ak ck k.hops∧Below W.heap.size W wc)
 case first =>
  refine Xam (S:=fun w' => w'.cell? ⟨X,0,none⟩=some (.slice Aq p.q.length cq)∧w'.cell? ⟨X,1,none⟩=some (.slice Ac p.c.length cc)∧w'.cell? ⟨X,2,none⟩=some (.slice none 0 0)∧w'.cell? ⟨X,3,none⟩=some (.slice A ms.length ct)∧w'.cell? ⟨X,5,none⟩=some (.slice (some ⟨b,off,none⟩) (l.length+1) cV)∧w'.cell? ⟨b,off,none⟩=some (.int .i64 n)) [16] (by kernel_rfl) (HSF.out _ (Below.refl _ _).drew) (fun hHeld=>?_)
  have HBV:Hid (Below W.heap.size W W.drew):=(Below.refl _ _).drew;generalize W.drew=U at HBV hHeld ⊢;refine tkF 0 _ ?_;refine tkF 1 _ ?_;refine tkF 2 _ ?_;refine tkF 3 _ ?_;refine tkG 4 (.agg (lgA Aq cq Ac cc p A ms.length ct)) ?_;refine tkF 5 _ ?_;refine tkF 6 _ ?_;refine tkF 7 _ ?_;refine tkG 8 (.slice (some ⟨b,off,none⟩) (l.length+1) cV) ?_;refine tkF 9 _ ?_;refine tkG 10 (.int .i64 n) ?_;refine Xe1 (i:=11) (j:=15) rfl rfl (by kernel_rfl) (by rfl) (by rfl) (fun K hK=>?_) (fun K hK=>?_)
  ·go_simp;refine (HFD.out U HBV.out).mono ?_;rintro e w1 ⟨hb1,Ak,ck,rfl,hhp⟩;have HB1:Hid (Below W.heap.size W w1):=Xa HBV.out hb1;have HH1:=Lib.hid hhp;refine hK _ _ (HSF.out _ HB1.out) ?_;clear hK K hHeld hb1 hhp;have hHeld:(fun w' => w'.cell? ⟨X,0,none⟩=some (.slice Aq p.q.length cq)∧w'.cell? ⟨X,1,none⟩=some (.slice Ac p.c.length cc)∧w'.cell? ⟨X,2,none⟩=some (.slice none 0 0)∧w'.cell? ⟨X,3,none⟩=some (.slice A ms.length ct)∧w'.cell? ⟨X,5,none⟩=some (.slice (some ⟨b,off,none⟩) (l.length+1) cV)∧w'.cell? ⟨b,off,none⟩=some (.int .i64 n)) w1:=HSF.out _ HB1.out
   try simp only[PU]
   refine tkF 12 _ ?_;refine tkF 13 _ ?_;refine tkF 14 _ ?_;clear hHeld;refine Xaa (i:=15) rfl (by kernel_rfl) (by rfl) (fun K hK=>?_)
   go_simp;have hal:Below w1.heap.size w1 (w1.alloc (.cells #[.int .i64 0,.int .i64 0,.int .i64 0,.int .i64 0,.int .i64 0,.int .i64 0,.int .i64 0,.bool false,.slice none 0 0,.int .i64 0,.int .i64 0] 55)):=(Below.refl _ _).alloc (Nat.le_refl _) _;have HB2:Hid (Below W.heap.size W (w1.alloc (.cells #[.int .i64 0,.int .i64 0,.int .i64 0,.int .i64 0,.int .i64 0,.int .i64 0,.int .i64 0,.bool false,.slice none 0 0,.int .i64 0,.int .i64 0] 55))):=Xa HB1.out hal;have HK2:Hid (Bk (w1.alloc (.cells #[.int .i64 0,.int .i64 0,.int .i64 0,.int .i64 0,.int .i64 0,.int .i64 0,.int .i64 0,.bool false,.slice none 0 0,.int .i64 0,.int .i64 0] 55)) w1.heap.size 55 #[.int .i64 0,.int .i64 0,.int .i64 0,.int .i64 0,.int .i64 0,.int .i64 0,.int .i64 0,.bool false,.slice none 0 0,.int .i64 0,.int .i64 0]):=Bk.new _ _ _;have HH2:=Lib.hid (HH1.out.below hal);have HSZ2:Hid (W.heap.size≤w1.heap.size):=HB1.out.size;refine hK _ _ (HSF.out _ HB2.out) ?_;clear hK K hal
   try simp only[PU]
   generalize w1.alloc (.cells #[.int .i64 0,.int .i64 0,.int .i64 0,.int .i64 0,.int .i64 0,.int .i64 0,.int .i64 0,.bool false,.slice none 0 0,.int .i64 0,.int .i64 0] 55)=w2 at HB2 HK2 HH2 ⊢;generalize w1.heap.size=g2 at HK2 HSZ2 ⊢;obtain ⟨r0,r1,r2,r3,r4,r5,r6,r7,r8,r9,r10⟩:=HK2.out.c11;obtain ⟨f0,f1,f2,f3,f4,f5,f6,f7,f8,f9,f10⟩:=HK2.out.f11;refine Xb4 (i:=16) rfl (by kernel_rfl) (by rfl) (by rfl) (fun K hK=>?_)
   go_simp;refine hK _ _ ?_;clear hK K
   try simp only[PU]
   clear r0 r1 r2 r3 r4 r5 r6 r7 r8 r9 r10 f0 f1 f2 f3 f4 f5 f6 f7 f8 f9 f10;obtain ⟨hq,hbe⟩:=Xii HK2.out HB2.out (by have:=HSZ2.out; omega) (.int .i64 k.num) (.int .i64 k.rq.src) (.int .i64 k.rq.dst) (.int .i64 k.rq.size) (.int .i64 k.rq.ready) (.int .i64 k.rq.dead) (.int .i64 k.rq.prio) (.bool k.rq.cust) (.slice Ak k.hops.length ck) (.int .i64 k.st) (.int .i64 k.til)
   have hkp:HpAt (((((((((((w2.setCell ⟨g2,0,none⟩ (.int .i64 k.num)).setCell ⟨g2,1,none⟩ (.int .i64 k.rq.src)).setCell ⟨g2,2,none⟩ (.int .i64 k.rq.dst)).setCell ⟨g2,3,none⟩ (.int .i64 k.rq.size)).setCell ⟨g2,4,none⟩ (.int .i64 k.rq.ready)).setCell ⟨g2,5,none⟩ (.int .i64 k.rq.dead)).setCell ⟨g2,6,none⟩ (.int .i64 k.rq.prio)).setCell ⟨g2,7,none⟩ (.bool k.rq.cust)).setCell ⟨g2,8,none⟩ (.slice Ak k.hops.length ck)).setCell ⟨g2,9,none⟩ (.int .i64 k.st)).setCell ⟨g2,10,none⟩ (.int .i64 k.til)) Ak ck k.hops:=HH2.out.keep (Xdp HK2.out (by decide) (.int .i64 k.num) (.int .i64 k.rq.src) (.int .i64 k.rq.dst) (.int .i64 k.rq.size) (.int .i64 k.rq.ready) (.int .i64 k.rq.dead) (.int .i64 k.rq.prio) (.bool k.rq.cust) (.slice Ak k.hops.length ck) (.int .i64 k.st) (.int .i64 k.til))
   generalize (((((((((((w2.setCell ⟨g2,0,none⟩ (.int .i64 k.num)).setCell ⟨g2,1,none⟩ (.int .i64 k.rq.src)).setCell ⟨g2,2,none⟩ (.int .i64 k.rq.dst)).setCell ⟨g2,3,none⟩ (.int .i64 k.rq.size)).setCell ⟨g2,4,none⟩ (.int .i64 k.rq.ready)).setCell ⟨g2,5,none⟩ (.int .i64 k.rq.dead)).setCell ⟨g2,6,none⟩ (.int .i64 k.rq.prio)).setCell ⟨g2,7,none⟩ (.bool k.rq.cust)).setCell ⟨g2,8,none⟩ (.slice Ak k.hops.length ck)).setCell ⟨g2,9,none⟩ (.int .i64 k.st)).setCell ⟨g2,10,none⟩ (.int .i64 k.til))=w3 at hq hbe hkp ⊢;have HQ3:=Lib.hid hq;have HB3:=Lib.hid hbe;have HP3:=Lib.hid hkp;clear hq hbe hkp HB2 HK2 HH2;have hHeld:(fun w' => w'.cell? ⟨X,0,none⟩=some (.slice Aq p.q.length cq)∧w'.cell? ⟨X,1,none⟩=some (.slice Ac p.c.length cc)∧w'.cell? ⟨X,2,none⟩=some (.slice none 0 0)∧w'.cell? ⟨X,3,none⟩=some (.slice A ms.length ct)∧w'.cell? ⟨X,5,none⟩=some (.slice (some ⟨b,off,none⟩) (l.length+1) cV)∧w'.cell? ⟨b,off,none⟩=some (.int .i64 n)) w3:=HSF.out _ HB3.out;refine tkF 17 _ ?_;refine Xbd (by kernel_rfl) ?_
   clear hHeld;go_wp2;go_meet
   case rel=>exact ⟨rfl,g2,Ak,ck,rfl,HSZ2.out,HQ3.out,HP3.out,HB3.out⟩
  ·go_simp;have hal:Below U.heap.size U (U.alloc (.cells #[.int .i64 0,.int .i64 0,.int .i64 0,.int .i64 0,.int .i64 0,.int .i64 0,.int .i64 0,.bool false,.slice none 0 0,.int .i64 0,.int .i64 0] 55)):=(Below.refl _ _).alloc (Nat.le_refl _) _;have HBA:Hid (Below W.heap.size W (U.alloc (.cells #[.int .i64 0,.int .i64 0,.int .i64 0,.int .i64 0,.int .i64 0,.int .i64 0,.int .i64 0,.bool false,.slice none 0 0,.int .i64 0,.int .i64 0] 55))):=Xa HBV.out hal;have HKA:Hid (Bk (U.alloc (.cells #[.int .i64 0,.int .i64 0,.int .i64 0,.int .i64 0,.int .i64 0,.int .i64 0,.int .i64 0,.bool false,.slice none 0 0,.int .i64 0,.int .i64 0] 55)) U.heap.size 55 #[.int .i64 0,.int .i64 0,.int .i64 0,.int .i64 0,.int .i64 0,.int .i64 0,.int .i64 0,.bool false,.slice none 0 0,.int .i64 0,.int .i64 0]):=Bk.new _ _ _;have HSZ2:Hid (W.heap.size≤U.heap.size):=HBV.out.size;refine hK _ _ (HSF.out _ HBA.out) ?_;clear hK K hal hHeld;have hHeld:(fun w' => w'.cell? ⟨X,0,none⟩=some (.slice Aq p.q.length cq)∧w'.cell? ⟨X,1,none⟩=some (.slice Ac p.c.length cc)∧w'.cell? ⟨X,2,none⟩=some (.slice none 0 0)∧w'.cell? ⟨X,3,none⟩=some (.slice A ms.length ct)∧w'.cell? ⟨X,5,none⟩=some (.slice (some ⟨b,off,none⟩) (l.length+1) cV)∧w'.cell? ⟨b,off,none⟩=some (.int .i64 n)) (U.alloc (.cells #[.int .i64 0,.int .i64 0,.int .i64 0,.int .i64 0,.int .i64 0,.int .i64 0,.int .i64 0,.bool false,.slice none 0 0,.int .i64 0,.int .i64 0] 55)):=HSF.out _ HBA.out
   try simp only[PU]
   generalize U.alloc (.cells #[.int .i64 0,.int .i64 0,.int .i64 0,.int .i64 0,.int .i64 0,.int .i64 0,.int .i64 0,.bool false,.slice none 0 0,.int .i64 0,.int .i64 0] 55)=w1 at HBA HKA hHeld ⊢;generalize U.heap.size=g2 at HKA HSZ2 ⊢;refine Xaa (i:=11) rfl (by kernel_rfl) (by rfl) (fun K hK=>?_)
   go_simp;refine (HFD.out w1 HBA.out).mono ?_;rintro e w2 ⟨hb2,Ak,ck,rfl,hhp⟩;have HB2:Hid (Below W.heap.size W w2):=Xa HBA.out hb2;have HK2:=Lib.hid (HKA.out.below hb2 HKA.out.lt);have HH2:=Lib.hid hhp;refine hK _ _ (HSF.out _ HB2.out) ?_;clear hK K hHeld hb2 hhp HBA HKA;have hHeld:(fun w' => w'.cell? ⟨X,0,none⟩=some (.slice Aq p.q.length cq)∧w'.cell? ⟨X,1,none⟩=some (.slice Ac p.c.length cc)∧w'.cell? ⟨X,2,none⟩=some (.slice none 0 0)∧w'.cell? ⟨X,3,none⟩=some (.slice A ms.length ct)∧w'.cell? ⟨X,5,none⟩=some (.slice (some ⟨b,off,none⟩) (l.length+1) cV)∧w'.cell? ⟨b,off,none⟩=some (.int .i64 n)) w2:=HSF.out _ HB2.out
   try simp only[PU]
   refine tkF 12 _ ?_;refine tkF 13 _ ?_;refine tkF 14 _ ?_;clear hHeld;obtain ⟨r0,r1,r2,r3,r4,r5,r6,r7,r8,r9,r10⟩:=HK2.out.c11;obtain ⟨f0,f1,f2,f3,f4,f5,f6,f7,f8,f9,f10⟩:=HK2.out.f11;refine Xb4 (i:=16) rfl (by kernel_rfl) (by rfl) (by rfl) (fun K hK=>?_)
   go_simp;refine hK _ _ ?_;clear hK K
   try simp only[PU]
   clear r0 r1 r2 r3 r4 r5 r6 r7 r8 r9 r10 f0 f1 f2 f3 f4 f5 f6 f7 f8 f9 f10;obtain ⟨hq,hbe⟩:=Xii HK2.out HB2.out (by have:=HSZ2.out; omega) (.int .i64 k.num) (.int .i64 k.rq.src) (.int .i64 k.rq.dst) (.int .i64 k.rq.size) (.int .i64 k.rq.ready) (.int .i64 k.rq.dead) (.int .i64 k.rq.prio) (.bool k.rq.cust) (.slice Ak k.hops.length ck) (.int .i64 k.st) (.int .i64 k.til)
   have hkp:HpAt (((((((((((w2.setCell ⟨g2,0,none⟩ (.int .i64 k.num)).setCell ⟨g2,1,none⟩ (.int .i64 k.rq.src)).setCell ⟨g2,2,none⟩ (.int .i64 k.rq.dst)).setCell ⟨g2,3,none⟩ (.int .i64 k.rq.size)).setCell ⟨g2,4,none⟩ (.int .i64 k.rq.ready)).setCell ⟨g2,5,none⟩ (.int .i64 k.rq.dead)).setCell ⟨g2,6,none⟩ (.int .i64 k.rq.prio)).setCell ⟨g2,7,none⟩ (.bool k.rq.cust)).setCell ⟨g2,8,none⟩ (.slice Ak k.hops.length ck)).setCell ⟨g2,9,none⟩ (.int .i64 k.st)).setCell ⟨g2,10,none⟩ (.int .i64 k.til)) Ak ck k.hops:=HH2.out.keep (Xdp HK2.out (by decide) (.int .i64 k.num) (.int .i64 k.rq.src) (.int .i64 k.rq.dst) (.int .i64 k.rq.size) (.int .i64 k.rq.ready) (.int .i64 k.rq.dead) (.int .i64 k.rq.prio) (.bool k.rq.cust) (.slice Ak k.hops.length ck) (.int .i64 k.st) (.int .i64 k.til))
   generalize (((((((((((w2.setCell ⟨g2,0,none⟩ (.int .i64 k.num)).setCell ⟨g2,1,none⟩ (.int .i64 k.rq.src)).setCell ⟨g2,2,none⟩ (.int .i64 k.rq.dst)).setCell ⟨g2,3,none⟩ (.int .i64 k.rq.size)).setCell ⟨g2,4,none⟩ (.int .i64 k.rq.ready)).setCell ⟨g2,5,none⟩ (.int .i64 k.rq.dead)).setCell ⟨g2,6,none⟩ (.int .i64 k.rq.prio)).setCell ⟨g2,7,none⟩ (.bool k.rq.cust)).setCell ⟨g2,8,none⟩ (.slice Ak k.hops.length ck)).setCell ⟨g2,9,none⟩ (.int .i64 k.st)).setCell ⟨g2,10,none⟩ (.int .i64 k.til))=w3 at hq hbe hkp ⊢;have HQ3:=Lib.hid hq;have HB3:=Lib.hid hbe;have HP3:=Lib.hid hkp;clear hq hbe hkp HB2 HK2 HH2;have hHeld:(fun w' => w'.cell? ⟨X,0,none⟩=some (.slice Aq p.q.length cq)∧w'.cell? ⟨X,1,none⟩=some (.slice Ac p.c.length cc)∧w'.cell? ⟨X,2,none⟩=some (.slice none 0 0)∧w'.cell? ⟨X,3,none⟩=some (.slice A ms.length ct)∧w'.cell? ⟨X,5,none⟩=some (.slice (some ⟨b,off,none⟩) (l.length+1) cV)∧w'.cell? ⟨b,off,none⟩=some (.int .i64 n)) w3:=HSF.out _ HB3.out;refine tkF 17 _ ?_;refine Xbd (by kernel_rfl) ?_
   clear hHeld;go_wp2;go_meet
   case rel=>exact ⟨rfl,g2,Ak,ck,rfl,HSZ2.out,HQ3.out,HP3.out,HB3.out⟩
 case rest =>
  obtain ⟨rfl,g2,Ak,ck,rfl,hg2,hk2,hh2,hb2⟩:=hcut;have HG2:Hid (W.heap.size≤g2):=hg2;have HK2:=Lib.hid hk2;have HH2:=Lib.hid hh2;have HS2:=Lib.hid (HS.out.next hb2);have HX2:Hid (X<g2):=by have:=HS.out.x.lt; show _<_; omega
  have HV2:Hid (∀r,(Value.slice A ms.length ct).ownBlock=some r→r<g2):=fun r e=>by have:=(HS.out.c.rt.lt r e).2; omega
  have HVC:Hid (l.length+1≤cV):=HS.out.c.vc;have hcv:1≤cV:=by have:=HVC.out; omega
  have hcv2:(1:Int)≤(cV:Int):=by omega
  have HKT2:Hid (Xai 4 W wc):=Xai.below hb2;clear hg2 hk2 hh2 hb2 HFD HSF;obtain ⟨w2,rfl⟩:∃v,v=wc:=⟨_,rfl⟩;have x5:=HS2.out.x.n5;have f5:=HS2.out.x.free 5;go_upto_region 1 with fail
  go_cut [] from 9 (fun wc => ∃V',V' = (if cV=1 then some (⟨b,off,none⟩:Addr) else some ⟨b,off+1,none⟩)∧wc=w2.setCell ⟨X,5,none⟩ (.slice V' l.length (cV - 1)))
  case first =>
   go_wp2
   all_goals (go_meet; case rel=>(refine ⟨_,rfl,?_⟩; first | rfl | simp[*]))
  case rest =>
   obtain ⟨V',hV',rfl⟩:=hcut;have HS3:Hid (ExS n0 X w0 Aq cq Ac cc p now ⟨(.slice A ms.length ct),ms,V',(cV - 1),l,acc,num,vM,M,vD,D⟩ (w2.setCell ⟨X,5,none⟩ (.slice V' l.length (cV - 1)))):=HS2.out.vic rfl rfl hV';have HK3:=Lib.hid (HK2.out.other (p:=⟨X,5,none⟩) (by have:=HX2.out; show g2 ≠ X; omega) (.slice V' l.length (cV - 1)))
   have HH3:=Lib.hid (HH2.out.keep (Xai.put HS2.out.x (by decide) (i:=5) (.slice V' l.length (cV - 1))))
   have HKT3:Hid (Xai 4 W (w2.setCell ⟨X,5,none⟩ (.slice V' l.length (cV - 1)))):=HKT2.out.trans (Xai.put HS2.out.x (by decide) _)
   clear hV' x5 f5 HS2 HK2 HH2 HS HKT2;generalize w2.setCell ⟨X,5,none⟩ (.slice V' l.length (cV - 1))=w3 at HS3 HK3 HH3 HKT3 ⊢;have HS2F:Hid (∀W',Below w3.heap.size w3 W' → (fun w' => w'.cell? ⟨X,0,none⟩=some (.slice Aq p.q.length cq)∧w'.cell? ⟨X,1,none⟩=some (.slice Ac p.c.length cc)∧w'.cell? ⟨X,4,none⟩=some (.int .i64 now)∧w'.cell? ⟨g2,0,none⟩=some (.int .i64 k.num)∧w'.cell? ⟨g2,1,none⟩=some (.int .i64 k.rq.src)∧w'.cell? ⟨g2,2,none⟩=some (.int .i64 k.rq.dst)∧w'.cell? ⟨g2,3,none⟩=some (.int .i64 k.rq.size)∧w'.cell? ⟨g2,4,none⟩=some (.int .i64 k.rq.ready)∧w'.cell? ⟨g2,5,none⟩=some (.int .i64 k.rq.dead)∧w'.cell? ⟨g2,6,none⟩=some (.int .i64 k.rq.prio)∧w'.cell? ⟨g2,7,none⟩=some (.bool k.rq.cust)∧w'.cell? ⟨g2,8,none⟩=some (.slice Ak k.hops.length ck)∧w'.cell? ⟨g2,9,none⟩=some (.int .i64 k.st)∧w'.cell? ⟨g2,10,none⟩=some (.int .i64 k.til)) W'):=fun W' hb=>by
    have h:=(HS3.out.next hb).x;have h2:=HK3.out.below hb HK3.out.lt;exact ⟨h.cell 0,h.cell 1,h.cell 4,h2.cell 0,h2.cell 1,h2.cell 2,h2.cell 3,h2.cell 4,h2.cell 5,h2.cell 6,h2.cell 7,h2.cell 8,h2.cell 9,h2.cell 10⟩
   go_wp2_with fail;go_cut [4,5] from 9 (fun s4 s5 wc=>s4 = .int .i64 (posD p now k).1∧s5 = .int .i64 (posD p now k).2∧Below w3.heap.size w3 wc)
   case first =>
    refine Xam (S:=fun w' => w'.cell? ⟨X,0,none⟩=some (.slice Aq p.q.length cq)∧w'.cell? ⟨X,1,none⟩=some (.slice Ac p.c.length cc)∧w'.cell? ⟨X,4,none⟩=some (.int .i64 now)∧w'.cell? ⟨g2,0,none⟩=some (.int .i64 k.num)∧w'.cell? ⟨g2,1,none⟩=some (.int .i64 k.rq.src)∧w'.cell? ⟨g2,2,none⟩=some (.int .i64 k.rq.dst)∧w'.cell? ⟨g2,3,none⟩=some (.int .i64 k.rq.size)∧w'.cell? ⟨g2,4,none⟩=some (.int .i64 k.rq.ready)∧w'.cell? ⟨g2,5,none⟩=some (.int .i64 k.rq.dead)∧w'.cell? ⟨g2,6,none⟩=some (.int .i64 k.rq.prio)∧w'.cell? ⟨g2,7,none⟩=some (.bool k.rq.cust)∧w'.cell? ⟨g2,8,none⟩=some (.slice Ak k.hops.length ck)∧w'.cell? ⟨g2,9,none⟩=some (.int .i64 k.st)∧w'.cell? ⟨g2,10,none⟩=some (.int .i64 k.til)) [] (by kernel_rfl) (HS2F.out _ (Below.refl _ _).drew) (fun hHeld=>?_)
    have HBV:Hid (Below w3.heap.size w3 w3.drew):=(Below.refl _ _).drew;generalize w3.drew=U at HBV hHeld ⊢;refine tkF 0 _ ?_;refine tkF 1 _ ?_;refine tkF 2 _ ?_;refine tkF 3 _ ?_;refine tkF 4 _ ?_;refine tkG 5 (.agg (plA Aq cq Ac cc p)) ?_;refine tkG 6 (.agg (tkA k Ak ck)) ?_;refine tkF 7 _ ?_;refine tkF 8 _ ?_;refine tkF 9 _ ?_;refine tkG 10 (.int .i64 now) ?_;refine Xaa (i:=11) rfl (by kernel_rfl) (by rfl) (fun K hK=>?_)
    go_simp;refine (Xe2 Aq cq Ac cc p k Ak ck now U (HP.out.below (by rw[←HN0.out]; exact (HS3.out.next HBV.out).c.be)) (HH3.out.below HBV.out) (by have:=HKL.out; omega) HKB.out).mono ?_
    rintro e w4 ⟨rfl,hb4⟩;have HB4:Hid (Below w3.heap.size w3 w4):=Xa HBV.out hb4;refine hK _ _ (HS2F.out _ HB4.out) ?_;clear hK K hHeld hb4 HBV;unfold posV;have hHeld:(fun w' => w'.cell? ⟨X,0,none⟩=some (.slice Aq p.q.length cq)∧w'.cell? ⟨X,1,none⟩=some (.slice Ac p.c.length cc)∧w'.cell? ⟨X,4,none⟩=some (.int .i64 now)∧w'.cell? ⟨g2,0,none⟩=some (.int .i64 k.num)∧w'.cell? ⟨g2,1,none⟩=some (.int .i64 k.rq.src)∧w'.cell? ⟨g2,2,none⟩=some (.int .i64 k.rq.dst)∧w'.cell? ⟨g2,3,none⟩=some (.int .i64 k.rq.size)∧w'.cell? ⟨g2,4,none⟩=some (.int .i64 k.rq.ready)∧w'.cell? ⟨g2,5,none⟩=some (.int .i64 k.rq.dead)∧w'.cell? ⟨g2,6,none⟩=some (.int .i64 k.rq.prio)∧w'.cell? ⟨g2,7,none⟩=some (.bool k.rq.cust)∧w'.cell? ⟨g2,8,none⟩=some (.slice Ak k.hops.length ck)∧w'.cell? ⟨g2,9,none⟩=some (.int .i64 k.st)∧w'.cell? ⟨g2,10,none⟩=some (.int .i64 k.til)) w4:=HS2F.out _ HB4.out
    try simp only[PU]
    refine tkF 12 _ ?_;refine tkF 13 _ ?_;refine tkF 14 _ ?_;refine tkF 15 _ ?_;refine tkF 16 _ ?_;refine tkF 17 _ ?_;refine tkF 18 _ ?_;refine Xbd (by kernel_rfl) ?_
    clear hHeld;go_wp2;go_meet
    case rel=>exact ⟨rfl,rfl,HB4.out⟩
   case rest =>
    obtain ⟨rfl,rfl,hb4⟩:=hcut;have HS4:=Lib.hid (HS3.out.next hb4);have HK4:=Lib.hid (HK3.out.below hb4 HK3.out.lt);have HH4:=Lib.hid (HH3.out.below hb4);have HKT4:Hid (Xai 4 W wc):=HKT3.out.trans (Xai.below hb4);obtain ⟨w4,rfl⟩:∃v,v=wc:=⟨_,rfl⟩;obtain ⟨nd,hnd⟩:∃nd,nd=(posD p now k).1:=⟨_,rfl⟩;obtain ⟨tm,htm⟩:∃tm,tm=(posD p now k).2:=⟨_,rfl⟩;have HPD:Hid ((posF p now k).getD (0,0)=(nd,tm)):=by rw[hnd,htm]; rfl
    rw[←hnd, ←htm];clear hb4 HS2F HS3 HK3 HH3 hnd htm HKT3;have HS3F:Hid (∀W',(∃x',ExS n0 X w0 Aq cq Ac cc p now x' W')→Bk W' g2 55 (tkA k Ak ck)→(fun w' => w'.cell? ⟨X,4,none⟩=some (.int .i64 now)∧w'.cell? ⟨g2,0,none⟩=some (.int .i64 k.num)∧w'.cell? ⟨g2,1,none⟩=some (.int .i64 k.rq.src)∧w'.cell? ⟨g2,2,none⟩=some (.int .i64 k.rq.dst)∧w'.cell? ⟨g2,3,none⟩=some (.int .i64 k.rq.size)∧w'.cell? ⟨g2,4,none⟩=some (.int .i64 k.rq.ready)∧w'.cell? ⟨g2,5,none⟩=some (.int .i64 k.rq.dead)∧w'.cell? ⟨g2,6,none⟩=some (.int .i64 k.rq.prio)∧w'.cell? ⟨g2,7,none⟩=some (.bool k.rq.cust)∧w'.cell? ⟨g2,8,none⟩=some (.slice Ak k.hops.length ck)∧w'.cell? ⟨g2,9,none⟩=some (.int .i64 k.st)∧w'.cell? ⟨g2,10,none⟩=some (.int .i64 k.til)) W'):=fun W' ⟨x',h⟩ h2=>⟨h.x.cell 4,h2.cell 0,h2.cell 1,h2.cell 2,h2.cell 3,h2.cell 4,h2.cell 5,h2.cell 6,h2.cell 7,h2.cell 8,h2.cell 9,h2.cell 10⟩;obtain ⟨k1,hk1⟩:∃k1,k1=Xao now tm k:=⟨_,rfl⟩;have HKE1:=Lib.hid hk1;go_wp2_with fail;go_cut [] from 9 (fun wc => ∃vT2 ms2 A1 c1,ms2.map (·.k)=setT (ms.map (·.k)) k1∧(∀y ∈ ms2,y.k=k1∨y ∈ ms)∧ExS n0 X w0 Aq cq Ac cc p now ⟨vT2,ms2,V',(cV - 1),l,acc,num,vM,M,vD,D⟩ wc∧Bk wc g2 55 (tkA k Ak ck)∧HpAt wc Ak ck k.hops∧vT2=Value.slice A1 ms2.length c1∧Xai 4 W wc ∧ ∀r,vT2.ownBlock=some r→r ≠ g2)
    case first =>
     refine Xam (S:=fun w' => w'.cell? ⟨X,4,none⟩=some (.int .i64 now)∧w'.cell? ⟨g2,0,none⟩=some (.int .i64 k.num)∧w'.cell? ⟨g2,1,none⟩=some (.int .i64 k.rq.src)∧w'.cell? ⟨g2,2,none⟩=some (.int .i64 k.rq.dst)∧w'.cell? ⟨g2,3,none⟩=some (.int .i64 k.rq.size)∧w'.cell? ⟨g2,4,none⟩=some (.int .i64 k.rq.ready)∧w'.cell? ⟨g2,5,none⟩=some (.int .i64 k.rq.dead)∧w'.cell? ⟨g2,6,none⟩=some (.int .i64 k.rq.prio)∧w'.cell? ⟨g2,7,none⟩=some (.bool k.rq.cust)∧w'.cell? ⟨g2,8,none⟩=some (.slice Ak k.hops.length ck)∧w'.cell? ⟨g2,9,none⟩=some (.int .i64 k.st)∧w'.cell? ⟨g2,10,none⟩=some (.int .i64 k.til)) [] (by kernel_rfl) (HS3F.out _ ⟨_,HS4.out.next (Below.refl _ _).drew⟩ (HK4.out.below (Below.refl _ _).drew HK4.out.lt)) (fun hHeld=>?_)
     have HVS:=Lib.hid (HS4.out.next (Below.refl w4.heap.size w4).drew);have HVK:=Lib.hid (HK4.out.below (Below.refl w4.heap.size w4).drew HK4.out.lt);have HVH:=Lib.hid (HH4.out.below (Below.refl w4.heap.size w4).drew);have HVT:Hid (Xai 4 W w4.drew):=HKT4.out;clear HS4 HK4 HH4 HKT4;generalize w4.drew=U at HVS HVK HVH HVT hHeld ⊢;refine tkF 0 _ ?_;refine tkF 1 _ ?_;refine tkF 2 _ ?_;refine tkG 3 (.agg (tkA k Ak ck)) ?_;refine tkF 4 _ ?_;refine tkF 5 _ ?_;refine tkF 6 _ ?_;refine tkG 7 (.int .i64 now) ?_;refine tkF 8 _ ?_;refine Xaa (i:=9) rfl (by kernel_rfl) (by rfl) (fun K hK=>?_)
     go_simp;refine (Xet k k1 Ak ck now tm U HVH.out (by have:=HKL.out; omega) hk1).mono ?_
     rintro e w5 ⟨A1,c1,rfl,hhp,hb5⟩;have HU:=Lib.hid (HVS.out.next hb5);have HUK:=Lib.hid (HVK.out.below hb5 HVK.out.lt);have HUH:=Lib.hid (HVH.out.below hb5);have HUT:Hid (Xai 4 W w5):=HVT.out.trans (Xai.below hb5);have HP1:=Lib.hid hhp;refine hK _ _ (HS3F.out _ ⟨_,HU.out⟩ HUK.out) ?_;clear hK K hHeld hb5 hhp HVS HVK HVH hk1
     try simp only[PU]
     refine Xaa (i:=10) rfl (by kernel_rfl) (by rfl) (fun K hK=>?_)
     go_simp;refine (set_any X 120 _ n0 (.slice A ms.length ct) ms ⟨k1,A1,c1⟩ w5 HU.out.x rfl (by decide) HU.out.c.rt HU.out.c.gs (by have h1:ms.length≤70:=HO.out.ln; omega)).mono ?_
     intro e w6 hset;obtain ⟨rfl,vT2,ms2,h1,h2,h3,h4,h5⟩:=HU.out.set HP1.out hset;obtain ⟨A2,c2,h6⟩:=Xa8 h3.c.rt;have hg2:¬ (g2=X∨(Value.slice A ms.length ct).ownBlock=some g2):=fun e=>by
      rcases e with e | e
      ·have:=HX2.out; omega
      ·have:=HV2.out _ e; omega
     have HKF:=Lib.hid (Xft HUK.out h4 hg2);have HHF:=Lib.hid (Xep HUH.out h4 HU.out.hop);have HSF3:Hid (ExS n0 X w0 Aq cq Ac cc p now ⟨vT2,ms2,V',(cV - 1),l,acc,num,vM,M,vD,D⟩ w6):=h3;have HFT:Hid (Xai 4 W w6):=HUT.out.trans (Xgq h4 HU.out.bool);have HR:Hid (∀r,vT2.ownBlock=some r→r ≠ g2):=fun r e e2=>by
      rcases h5 with h5 | h5
      ·rw[h5] at e;exact hg2 (.inr (by rw[←e2]; exact e))
      ·have:=h5 r e;have:=HUK.out.lt;omega
     have HM2:Hid (∀y ∈ ms2,y.k=k1∨y ∈ ms):=fun y hy=>by
      rcases h2 y hy with e | e
      ·exact .inl (by rw[e])
      ·exact .inr e
     have HM1:Hid (ms2.map (·.k)=setT (ms.map (·.k)) k1):=h1;have HV6:Hid (vT2 = .slice A2 ms2.length c2):=h6;refine hK _ _ (HS3F.out _ ⟨_,h3⟩ HKF.out) ?_;clear hK K h1 h2 h3 h4 h5 h6 hg2 hset HU HUK HUH HP1
     try simp only[PU]
     refine Xbd (by kernel_rfl) ?_
     go_wp2;go_meet
     case rel=>exact ⟨vT2,ms2,A2,c2,HM1.out,HM2.out,HSF3.out,HKF.out,HHF.out,HV6.out,HFT.out,HR.out⟩
    case rest =>
     obtain ⟨vT2,ms2,A2,c2,hm1,hm2,hs5,hk5,hh5,rfl,ht5,hr5⟩:=hcut;have HM1:=Lib.hid hm1;have HM2:=Lib.hid hm2;have HS5:=Lib.hid hs5;have HK5:=Lib.hid hk5;have HH5:=Lib.hid hh5;have HR5:=Lib.hid hr5;have HKT5:=Lib.hid ht5;obtain ⟨w5,rfl⟩:∃v,v=wc:=⟨_,rfl⟩;clear hm1 hm2 hs5 hk5 hh5 hr5 ht5 HS4 HK4 HH4 hk1 HKT4;have HND:Hid (n ∉ l∧l.Nodup):=List.nodup_cons.1 HO.out.nd;have HMF:Hid (∃m ∈ ms2,m.k.num=n):=by
      have h1:k1 ∈ setT (ms.map (·.k)) k1:=Xnb;rw[←HM1.out] at h1;obtain ⟨m,hm,e⟩:=List.mem_map.1 h1;exact ⟨m,hm,by rw[e,HKE1.out]; exact HKN.out⟩
     have HKF1:Hid ((∀h ∈ k1.hops,HopB p h)∧k1.hops.length≤1000∧k1.num=n):=by
      rw[HKE1.out];refine ⟨fun h hh=>HKB.out h (List.mem_of_mem_take hh),?_,HKN.out⟩;have:=HKL.out;show (k.hops.take _).length≤1000;rw[List.length_take]; omega
     have HO2:Hid (ExOK p ⟨(.slice A2 ms2.length c2),ms2,V',(cV - 1),l,acc,num,vM,M,vD,D⟩):=HO.out.put (n:=n) HKF1.out.2.2 (HO.out.fd n (by simp)) (l:=l) (fun a ha=>by simp[ha]) HND.out.2 HND.out.1 HKF1.out.1 (by have:=HKF1.out.2.1; omega) HM1.out HM2.out rfl (by
      have h:=HO.out.vl;simp only[List.length_cons] at h;show l.length+M.length+D.length≤100;omega)
     have HLG:=Lib.hid (HS5.out.lg HN0.out HP.out HO2.out rfl);have HET:Hid (∀W',Below w5.heap.size w5 W' → Calls Tryz.prog 167 #[.pointer (some ⟨X,0,none⟩)] W' (Xk8 p Aq cq Ac cc (ms2.map (·.k)) l now W')):=fun W' hb =>
      Xgf X Aq cq Ac cc p A2 c2 (ms2.map (·.k)) now V' (cV - 1) l (.bool acc) (.int .i64 num) vM vD (.slice none 0 0) W' (HLG.out.below hb) HOK.out (fun k hk=>by
       obtain ⟨m,hm,rfl⟩:=List.mem_map.1 hk;exact HO2.out.hb m hm) (by rw[List.length_map]; exact (HS5.out.next hb).x) (HS5.out.next hb).c.sv (by
       have h:=HO2.out.vl;have h:l.length+M.length+D.length≤100:=h;omega)
     have HS4F:Hid (∀W',Bk W' g2 55 (tkA k Ak ck)→(fun w' => w'.cell? ⟨g2,0,none⟩=some (.int .i64 k.num)∧w'.cell? ⟨g2,1,none⟩=some (.int .i64 k.rq.src)∧w'.cell? ⟨g2,2,none⟩=some (.int .i64 k.rq.dst)∧w'.cell? ⟨g2,3,none⟩=some (.int .i64 k.rq.size)∧w'.cell? ⟨g2,4,none⟩=some (.int .i64 k.rq.ready)∧w'.cell? ⟨g2,5,none⟩=some (.int .i64 k.rq.dead)∧w'.cell? ⟨g2,6,none⟩=some (.int .i64 k.rq.prio)∧w'.cell? ⟨g2,7,none⟩=some (.bool k.rq.cust)∧w'.cell? ⟨g2,8,none⟩=some (.slice Ak k.hops.length ck)∧w'.cell? ⟨g2,9,none⟩=some (.int .i64 k.st)∧w'.cell? ⟨g2,10,none⟩=some (.int .i64 k.til)) W'):=fun W' h2=>⟨h2.cell 0,h2.cell 1,h2.cell 2,h2.cell 3,h2.cell 4,h2.cell 5,h2.cell 6,h2.cell 7,h2.cell 8,h2.cell 9,h2.cell 10⟩;go_wp2_with fail;go_cut [7,8] from 9 (fun s7 s8 wc=>Below w5.heap.size w5 wc ∧ ∃t,ExT p (ms2.map (·.k)) l now t∧((EarR t { k.rq with src:=nd,ready:=tm } none∧s8 = .bool false) ∨ ∃m Mh cM,EarR t { k.rq with src:=nd,ready:=tm } (some m)∧s7 = .slice Mh m.length cM∧s8 = .bool true∧HpAt wc Mh cM m))
     case first =>
      refine Xpx (S:=fun w' => w'.cell? ⟨g2,0,none⟩=some (.int .i64 k.num)∧w'.cell? ⟨g2,1,none⟩=some (.int .i64 k.rq.src)∧w'.cell? ⟨g2,2,none⟩=some (.int .i64 k.rq.dst)∧w'.cell? ⟨g2,3,none⟩=some (.int .i64 k.rq.size)∧w'.cell? ⟨g2,4,none⟩=some (.int .i64 k.rq.ready)∧w'.cell? ⟨g2,5,none⟩=some (.int .i64 k.rq.dead)∧w'.cell? ⟨g2,6,none⟩=some (.int .i64 k.rq.prio)∧w'.cell? ⟨g2,7,none⟩=some (.bool k.rq.cust)∧w'.cell? ⟨g2,8,none⟩=some (.slice Ak k.hops.length ck)∧w'.cell? ⟨g2,9,none⟩=some (.int .i64 k.st)∧w'.cell? ⟨g2,10,none⟩=some (.int .i64 k.til)) (fun c w' => c = [{ v:=.iface 237 (.agg #[]),recovered:=false }] ∧ Below n0 w0 w' ∧ Xai 4 W w') [] (by kernel_rfl) (fun c a w hd h=>⟨hd,h.2.1,h.2.2,.inl (by rw[h.1])⟩) (HS4F.out _ (HK5.out.below (Below.refl _ _).drew HK5.out.lt)) (fun hHeld=>?_)
      have HBV:Hid (Below w5.heap.size w5 w5.drew):=(Below.refl _ _).drew;generalize w5.drew=U at HBV hHeld ⊢;refine Xf6 (i:=0) (v:=?p1) rfl (by kernel_rfl) (by kernel_rfl) (by kernel_rfl) (by kernel_rfl) Xc0 (Or.inl ⟨by rfl,?hp1⟩) (by assumption) ?_
      case hp1=>(intro w _; go_simp; try with_reducible rfl)
      try simp only[PU]
      refine takeG (i:=2) (v:=(.agg (tkA k Ak ck))) rfl (by kernel_rfl) (by kernel_rfl) (by kernel_rfl) (by kernel_rfl) (by kernel_rfl) Xc0 (Or.inl ⟨by rfl,?hp14⟩) (by assumption) ?_
      case hp14=>(intro w hSw; (try dsimp only at hSw); go_simp; try with_reducible rfl)
      try simp only[PU]
      refine Xf6 (i:=3) (v:=?p2) rfl (by kernel_rfl) (by kernel_rfl) (by kernel_rfl) (by kernel_rfl) Xc0 (Or.inl ⟨by rfl,?hp2⟩) (by assumption) ?_
      case hp2=>(intro w _; go_simp; try with_reducible rfl)
      try simp only[PU]
      refine Xf6 (i:=4) (v:=?p3) rfl (by kernel_rfl) (by kernel_rfl) (by kernel_rfl) (by kernel_rfl) Xc0 (Or.inl ⟨by rfl,?hp3⟩) (by assumption) ?_
      case hp3=>(intro w _; go_simp; try with_reducible rfl)
      try simp only[PU]
      refine Xaa (i:=1) rfl (by kernel_rfl) (by rfl) (fun K hK=>?_)
      go_simp;refine (HET.out U HBV.out).mono ?_;rintro e w6 ⟨hb6,rfl | ⟨t,B,cb,H,ch,hext,rfl,htb⟩⟩
      ·exact .inr ⟨_,rfl,rfl,rfl,((HS5.out.next HBV.out).next hb6).c.be,HKT5.out.trans (Xai.below (Xa HBV.out hb6))⟩
      ·have HB6:Hid (Below w5.heap.size w5 w6):=Xa HBV.out hb6;have HEX:=Lib.hid hext;have HTB:=Lib.hid htb;have hpt:t.p=p:=by
        obtain ⟨t0,ht0,_,rfl⟩:=hext;exact ht0.1
       have HPT:=Lib.hid hpt;refine hK _ _ (HS4F.out _ (HK5.out.below HB6.out HK5.out.lt)) ?_;clear hK K hHeld hb6 hext htb hpt HBV;have hHeld:(fun w' => w'.cell? ⟨g2,0,none⟩=some (.int .i64 k.num)∧w'.cell? ⟨g2,1,none⟩=some (.int .i64 k.rq.src)∧w'.cell? ⟨g2,2,none⟩=some (.int .i64 k.rq.dst)∧w'.cell? ⟨g2,3,none⟩=some (.int .i64 k.rq.size)∧w'.cell? ⟨g2,4,none⟩=some (.int .i64 k.rq.ready)∧w'.cell? ⟨g2,5,none⟩=some (.int .i64 k.rq.dead)∧w'.cell? ⟨g2,6,none⟩=some (.int .i64 k.rq.prio)∧w'.cell? ⟨g2,7,none⟩=some (.bool k.rq.cust)∧w'.cell? ⟨g2,8,none⟩=some (.slice Ak k.hops.length ck)∧w'.cell? ⟨g2,9,none⟩=some (.int .i64 k.st)∧w'.cell? ⟨g2,10,none⟩=some (.int .i64 k.til)) w6:=HS4F.out _ (HK5.out.below HB6.out HK5.out.lt)
       try simp only[PU]
       refine Xaa (i:=5) rfl (by kernel_rfl) (by rfl) (fun K hK=>?_)
       go_simp;refine (Xr0 Aq cq Ac cc B cb H ch t k Ak ck { k.rq with src:=nd,ready:=tm } w6 HTB.out rfl).mono ?_
       rintro e w7 ⟨hb7,hpost⟩;have HB7:Hid (Below w5.heap.size w5 w7):=Xa HB6.out hb7;clear hHeld hb7;have hHeld:(fun w' => w'.cell? ⟨g2,0,none⟩=some (.int .i64 k.num)∧w'.cell? ⟨g2,1,none⟩=some (.int .i64 k.rq.src)∧w'.cell? ⟨g2,2,none⟩=some (.int .i64 k.rq.dst)∧w'.cell? ⟨g2,3,none⟩=some (.int .i64 k.rq.size)∧w'.cell? ⟨g2,4,none⟩=some (.int .i64 k.rq.ready)∧w'.cell? ⟨g2,5,none⟩=some (.int .i64 k.rq.dead)∧w'.cell? ⟨g2,6,none⟩=some (.int .i64 k.rq.prio)∧w'.cell? ⟨g2,7,none⟩=some (.bool k.rq.cust)∧w'.cell? ⟨g2,8,none⟩=some (.slice Ak k.hops.length ck)∧w'.cell? ⟨g2,9,none⟩=some (.int .i64 k.st)∧w'.cell? ⟨g2,10,none⟩=some (.int .i64 k.til)) w7:=HS4F.out _ (HK5.out.below HB7.out HK5.out.lt);rcases hpost with ⟨hear,rfl⟩ | ⟨m,Mh,cM,hear,rfl,hhm⟩
       ·have HEA:=Lib.hid hear;refine hK _ _ hHeld ?_;clear hK K hear HTB HB6
        try simp only[PU]
        refine Xf6 (i:=6) (v:=?p4) rfl (by kernel_rfl) (by kernel_rfl) (by kernel_rfl) (by kernel_rfl) Xc0 (Or.inl ⟨by rfl,?hp4⟩) (by assumption) ?_
        case hp4=>(intro w _; go_simp; try with_reducible rfl)
        try simp only[PU]
        refine Xf6 (i:=7) (v:=?p5) rfl (by kernel_rfl) (by kernel_rfl) (by kernel_rfl) (by kernel_rfl) Xc0 (Or.inl ⟨by rfl,?hp5⟩) (by assumption) ?_
        case hp5=>(intro w _; go_simp; try with_reducible rfl)
        try simp only[PU]
        refine Xf6 (i:=8) (v:=?p6) rfl (by kernel_rfl) (by kernel_rfl) (by kernel_rfl) (by kernel_rfl) Xc0 (Or.inl ⟨by rfl,?hp6⟩) (by assumption) ?_
        case hp6=>(intro w _; go_simp; try with_reducible rfl)
        try simp only[PU]
        refine Xf6 (i:=9) (v:=?p7) rfl (by kernel_rfl) (by kernel_rfl) (by kernel_rfl) (by kernel_rfl) Xc0 (Or.inl ⟨by rfl,?hp7⟩) (by assumption) ?_
        case hp7=>(intro w _; go_simp; try with_reducible rfl)
        try simp only[PU]
        refine Xf6 (i:=10) (v:=?p8) rfl (by kernel_rfl) (by kernel_rfl) (by kernel_rfl) (by kernel_rfl) Xc0 (Or.inl ⟨by rfl,?hp8⟩) (by assumption) ?_
        case hp8=>(intro w _; go_simp; try with_reducible rfl)
        try simp only[PU]
        refine Xt1 (by kernel_rfl) ?_
        clear hHeld;go_wp2;go_meet
        case rel=>exact ⟨HB7.out,t,HEX.out,.inl ⟨HEA.out,rfl⟩⟩
       ·have HEA:=Lib.hid hear;have HMH:=Lib.hid hhm;refine hK _ _ hHeld ?_;clear hK K hear hhm HTB HB6
        try simp only[PU]
        refine Xf6 (i:=6) (v:=?p9) rfl (by kernel_rfl) (by kernel_rfl) (by kernel_rfl) (by kernel_rfl) Xc0 (Or.inl ⟨by rfl,?hp9⟩) (by assumption) ?_
        case hp9=>(intro w _; go_simp; try with_reducible rfl)
        try simp only[PU]
        refine Xf6 (i:=7) (v:=?p10) rfl (by kernel_rfl) (by kernel_rfl) (by kernel_rfl) (by kernel_rfl) Xc0 (Or.inl ⟨by rfl,?hp10⟩) (by assumption) ?_
        case hp10=>(intro w _; go_simp; try with_reducible rfl)
        try simp only[PU]
        refine Xf6 (i:=8) (v:=?p11) rfl (by kernel_rfl) (by kernel_rfl) (by kernel_rfl) (by kernel_rfl) Xc0 (Or.inl ⟨by rfl,?hp11⟩) (by assumption) ?_
        case hp11=>(intro w _; go_simp; try with_reducible rfl)
        try simp only[PU]
        refine Xf6 (i:=9) (v:=?p12) rfl (by kernel_rfl) (by kernel_rfl) (by kernel_rfl) (by kernel_rfl) Xc0 (Or.inl ⟨by rfl,?hp12⟩) (by assumption) ?_
        case hp12=>(intro w _; go_simp; try with_reducible rfl)
        try simp only[PU]
        refine Xf6 (i:=10) (v:=?p13) rfl (by kernel_rfl) (by kernel_rfl) (by kernel_rfl) (by kernel_rfl) Xc0 (Or.inl ⟨by rfl,?hp13⟩) (by assumption) ?_
        case hp13=>(intro w _; go_simp; try with_reducible rfl)
        try simp only[PU]
        refine Xt1 (by kernel_rfl) ?_
        clear hHeld;go_wp2;go_meet
        case rel=>exact ⟨HB7.out,t,HEX.out,.inr ⟨m,Mh,cM,HEA.out,rfl,rfl,HMH.out⟩⟩
     case rest =>
      obtain ⟨hb6,t,hext,hans⟩:=hcut;have HEX:=Lib.hid hext;have HS6:=Lib.hid (HS5.out.next hb6);have HK6:=Lib.hid (HK5.out.below hb6 HK5.out.lt);have HH6:=Lib.hid (HH5.out.below hb6);have HKT6:Hid (Xai 4 W wc):=HKT5.out.trans (Xai.below hb6);clear hb6 hext HS5 HK5 HH5 HET HLG HS4F HKT5;obtain ⟨w6,rfl⟩:∃v,v=wc:=⟨_,rfl⟩;have hpt:t.p=p:=by
       obtain ⟨t0,ht0,_,rfl⟩:=HEX.out;exact ht0.1
      have HPT:=Lib.hid hpt;clear hpt;rcases hans with ⟨hear,rfl⟩ | ⟨m,Mh,cM,hear,rfl,rfl,hhm⟩
      ·have HEA:=Lib.hid hear;clear hear;have c7:=HK6.out.n7;cases hcu:k.rq.cust with
       | true =>
         rw[hcu] at c7;have HBE:Hid (Below n0 w0 w6):=HS6.out.c.be;clear hcu;go_wp2;exact ⟨rfl,HBE.out,HKT6.out,.inl rfl⟩
       | false =>
         rw[hcu] at c7;have HCU:Hid (k.rq.cust=false):=hcu;clear hcu;obtain ⟨k2,hk2⟩:∃k2,k2=Xao now now k:=⟨_,rfl⟩;have HKE2:=Lib.hid hk2;have HKF2:Hid ((∀h ∈ k2.hops,HopB p h)∧k2.hops.length≤2000∧k2.num=n):=by
          rw[hk2];refine ⟨fun h hh=>HKB.out h (List.mem_of_mem_take hh),?_,HKN.out⟩;have:=HKL.out;show (k.hops.take _).length≤2000;rw[List.length_take]; omega
         go_wp2_with fail;clear c7;have HS7F:Hid (∀W',(∃x',ExS n0 X w0 Aq cq Ac cc p now x' W')→Bk W' g2 55 (tkA k Ak ck)→(fun w' => w'.cell? ⟨X,4,none⟩=some (.int .i64 now)∧w'.cell? ⟨g2,0,none⟩=some (.int .i64 k.num)∧w'.cell? ⟨g2,1,none⟩=some (.int .i64 k.rq.src)∧w'.cell? ⟨g2,2,none⟩=some (.int .i64 k.rq.dst)∧w'.cell? ⟨g2,3,none⟩=some (.int .i64 k.rq.size)∧w'.cell? ⟨g2,4,none⟩=some (.int .i64 k.rq.ready)∧w'.cell? ⟨g2,5,none⟩=some (.int .i64 k.rq.dead)∧w'.cell? ⟨g2,6,none⟩=some (.int .i64 k.rq.prio)∧w'.cell? ⟨g2,7,none⟩=some (.bool k.rq.cust)∧w'.cell? ⟨g2,8,none⟩=some (.slice Ak k.hops.length ck)∧w'.cell? ⟨g2,9,none⟩=some (.int .i64 k.st)∧w'.cell? ⟨g2,10,none⟩=some (.int .i64 k.til)) W'):=fun W' ⟨x',h⟩ h2=>⟨h.x.cell 4,h2.cell 0,h2.cell 1,h2.cell 2,h2.cell 3,h2.cell 4,h2.cell 5,h2.cell 6,h2.cell 7,h2.cell 8,h2.cell 9,h2.cell 10⟩;go_cut [] from 9 (fun wc => ∃vT3 ms3,ms3.map (·.k)=setT (ms2.map (·.k)) k2∧(∀y ∈ ms3,y.k=k2∨y ∈ ms2)∧ExS n0 X w0 Aq cq Ac cc p now ⟨vT3,ms3,V',(cV - 1),l,acc,num,vM,M,vD,D⟩ wc∧Bk wc g2 55 (tkA k Ak ck)∧Xai 4 W wc)
         case first =>
          refine Xam (S:=fun w' => w'.cell? ⟨X,4,none⟩=some (.int .i64 now)∧w'.cell? ⟨g2,0,none⟩=some (.int .i64 k.num)∧w'.cell? ⟨g2,1,none⟩=some (.int .i64 k.rq.src)∧w'.cell? ⟨g2,2,none⟩=some (.int .i64 k.rq.dst)∧w'.cell? ⟨g2,3,none⟩=some (.int .i64 k.rq.size)∧w'.cell? ⟨g2,4,none⟩=some (.int .i64 k.rq.ready)∧w'.cell? ⟨g2,5,none⟩=some (.int .i64 k.rq.dead)∧w'.cell? ⟨g2,6,none⟩=some (.int .i64 k.rq.prio)∧w'.cell? ⟨g2,7,none⟩=some (.bool k.rq.cust)∧w'.cell? ⟨g2,8,none⟩=some (.slice Ak k.hops.length ck)∧w'.cell? ⟨g2,9,none⟩=some (.int .i64 k.st)∧w'.cell? ⟨g2,10,none⟩=some (.int .i64 k.til)) [] (by kernel_rfl) (HS7F.out _ ⟨_,HS6.out.next (Below.refl _ _).drew⟩ (HK6.out.below (Below.refl _ _).drew HK6.out.lt)) (fun hHeld=>?_)
          have HVS:=Lib.hid (HS6.out.next (Below.refl w6.heap.size w6).drew);have HVK:=Lib.hid (HK6.out.below (Below.refl w6.heap.size w6).drew HK6.out.lt);have HVH:=Lib.hid (HH6.out.below (Below.refl w6.heap.size w6).drew);have HVT:Hid (Xai 4 W w6.drew):=HKT6.out;clear HS6 HK6 HH6 HKT6;generalize w6.drew=U at HVS HVK HVH HVT hHeld ⊢;refine tkF 0 _ ?_;refine tkF 1 _ ?_;refine tkF 2 _ ?_;refine tkG 3 (.agg (tkA k Ak ck)) ?_;refine tkF 4 _ ?_;refine tkF 5 _ ?_;refine tkF 6 _ ?_;refine tkG 7 (.int .i64 now) ?_;refine tkF 8 _ ?_;refine tkF 9 _ ?_;refine tkF 10 _ ?_;refine tkG 11 (.int .i64 now) ?_;refine Xaa (i:=12) rfl (by kernel_rfl) (by rfl) (fun K hK=>?_)
          go_simp;refine (Xet k k2 Ak ck now now U HVH.out (by have:=HKL.out; omega) hk2).mono ?_
          rintro e w7 ⟨A3,c3,rfl,hhp,hb7⟩;have HU:=Lib.hid (HVS.out.next hb7);have HUT:Hid (Xai 4 W w7):=HVT.out.trans (Xai.below hb7);have HUK:=Lib.hid (HVK.out.below hb7 HVK.out.lt);have HP1:=Lib.hid hhp;refine hK _ _ (HS7F.out _ ⟨_,HU.out⟩ HUK.out) ?_;clear hK K hHeld hb7 hhp HVS HVK HVH hk2
          try simp only[PU]
          refine Xaa (i:=13) rfl (by kernel_rfl) (by rfl) (fun K hK=>?_)
          go_simp;refine (set_any X 120 _ n0 (.slice A2 ms2.length c2) ms2 ⟨k2,A3,c3⟩ w7 HU.out.x rfl (by decide) HU.out.c.rt HU.out.c.gs (by have h1:ms2.length≤70:=HO2.out.ln; omega)).mono ?_
          intro e w8 hset;obtain ⟨rfl,vT3,ms3,h1,h2,h3,h4,h5⟩:=HU.out.set HP1.out hset;have hg2:¬ (g2=X∨(Value.slice A2 ms2.length c2).ownBlock=some g2):=fun e=>by
           rcases e with e | e
           ·have:=HX2.out; omega
           ·exact HR5.out _ e rfl
          have HKF:=Lib.hid (Xft HUK.out h4 hg2);have HSF3:Hid (ExS n0 X w0 Aq cq Ac cc p now ⟨vT3,ms3,V',(cV - 1),l,acc,num,vM,M,vD,D⟩ w8):=h3;have HFT:Hid (Xai 4 W w8):=HUT.out.trans (Xgq h4 HU.out.bool);have HM4:Hid (∀y ∈ ms3,y.k=k2∨y ∈ ms2):=fun y hy=>by
           rcases h2 y hy with e | e
           ·exact .inl (by rw[e])
           ·exact .inr e
          have HM3:Hid (ms3.map (·.k)=setT (ms2.map (·.k)) k2):=h1;refine hK _ _ (HS7F.out _ ⟨_,h3⟩ HKF.out) ?_;clear hK K h1 h2 h3 h4 h5 hg2 hset HU HUK HP1
          try simp only[PU]
          refine Xbd (by kernel_rfl) ?_
          go_wp2;go_meet
          case rel=>exact ⟨vT3,ms3,HM3.out,HM4.out,HSF3.out,HKF.out,HFT.out⟩
         case rest =>
          obtain ⟨vT3,ms3,hm3,hm4,hs8,hk8,ht8⟩:=hcut;have HM3:=Lib.hid hm3;have HM4:=Lib.hid hm4;have HS8:=Lib.hid hs8;have HK8:=Lib.hid hk8;have HKT8:=Lib.hid ht8;obtain ⟨w8,rfl⟩:∃v,v=wc:=⟨_,rfl⟩;clear hm3 hm4 hs8 hk8 ht8 hk2 HS6 HK6 HH6 HS7F HKT6;go_wp2_with fail;obtain ⟨AD,cD,hvD⟩:=Xa8 HS8.out.c.rd;have hvD:vD = .slice AD D.length cD:=hvD;subst hvD;obtain ⟨i0,hi0,hz0,hz1,hz2⟩:=info_parts Xqh;have HSAF:Hid (∀W',(∃x',ExS n0 X w0 Aq cq Ac cc p now x' W' ∧ x'.vD = .slice AD D.length cD)→Bk W' g2 55 (tkA k Ak ck)→(fun w' => w'.cell? ⟨X,9,none⟩=some (.slice AD D.length cD)∧w'.cell? ⟨g2,0,none⟩=some (.int .i64 k.num)) W'):=fun W' ⟨x',h,e⟩ h2=>⟨by rw[h.x.cell 9]; show some x'.vD=_; rw[e],h2.cell 0⟩
          refine Xam (S:=fun w' => w'.cell? ⟨X,9,none⟩=some (.slice AD D.length cD)∧w'.cell? ⟨g2,0,none⟩=some (.int .i64 k.num)) [13] (by kernel_rfl) (HSAF.out _ ⟨_,HS8.out.next (Below.refl _ _).drew,rfl⟩ (HK8.out.below (Below.refl _ _).drew HK8.out.lt)) (fun hHeld=>?_)
          have HVS:=Lib.hid (HS8.out.next (Below.refl w8.heap.size w8).drew);have HVK:=Lib.hid (HK8.out.below (Below.refl w8.heap.size w8).drew HK8.out.lt);have HVT:Hid (Xai 4 W w8.drew):=HKT8.out;clear HS8 HK8 HKT8;generalize w8.drew=U at HVS HVK HVT hHeld ⊢;refine tkF 0 _ ?_;refine tkF 1 _ ?_;refine tkF 2 _ ?_;refine tkF 3 _ ?_;refine tkF 4 _ ?_;refine tkG 5 (.slice AD D.length cD) ?_;refine tkF 6 _ ?_;refine tkG 7 (.int .i64 k.num) ?_;clear hHeld;refine Xaa (i:=8) rfl (by kernel_rfl) (by rfl) (fun K hK=>?_)
          go_simp;have hal:Below U.heap.size U (U.alloc (.cells #[.int .i64 k.num] 3)):=(Below.refl _ _).alloc (Nat.le_refl _) _;have HN9:Hid (Bk (U.alloc (.cells #[.int .i64 k.num] 3)) U.heap.size 3 #[.int .i64 k.num]):=Bk.new _ _ _;have HU:=Lib.hid (HVS.out.next hal);have HUK:=Lib.hid (HVK.out.below hal HVK.out.lt);have HUT:Hid (Xai 4 W (U.alloc (.cells #[.int .i64 k.num] 3))):=HVT.out.trans (Xai.below hal);refine hK _ _ (HSAF.out _ ⟨_,HU.out,rfl⟩ HUK.out) ?_;clear hK K hal HVS HVK
          try simp only[PU]
          generalize U.alloc (.cells #[.int .i64 k.num] 3)=V1 at HN9 HU HUK HUT ⊢;generalize U.heap.size=g9 at HN9 ⊢;refine Xaa (i:=9) rfl (by kernel_rfl) (by rfl) (fun K hK=>?_)
          have hN9s:SlAt intE V1 (some ⟨g9,0,none⟩) [k.num]:=fun j r hj=>by
           cases j with
           | zero =>
             simp only[List.getElem?_cons_zero,Option.some.injEq] at hj;subst hj;refine ⟨g9,0,rfl,fun a u hu=>?_⟩;simp only[Nat.zero_mul,Nat.zero_add];rw[HN9.out.cell];simpa[intE] using hu
           | succ j=>simp at hj
          have hLL:D.length≤100:=by have h:l.length+M.length+D.length≤100:=HO2.out.vl; omega
          refine Xaq intE (.tmp 87) (.tmp 90) 22 3 rfl n0 i0 (.int .i64 0) 8 Tryz.underlying22 hi0 hz0 hz1 hz2 rfl (by decide) (.slice AD D.length cD) D.length (D.flatMap intE.f) rfl HU.out.c.rd (some ⟨g9,0,none⟩) [k.num] 1 rfl hN9s (by simp; unfold maxLen; omega) (by simp; omega) HU.out.c.gs (fun v8 w9 h2 h3 h4=>?_)
          have h2:w9.ownsRow n0 3 1 v8 (D.length+1) (D.flatMap intE.f ++ [.int .i64 k.num]):=h2;obtain ⟨A8,c8,e8⟩:=Xa8 h2;subst e8;obtain ⟨e1,e2⟩:=HU.out.dropped h3 h2 (by
           rcases h4 with h4 | h4
           ·exact .inl h4
           ·exact .inr (fun r e=>by rw[h4] at e; cases e; exact Nat.le_refl _))
          have HT7:=Lib.hid e1;have HFS:=Lib.hid e2;have HT9:Hid (Xai 4 W w9):=HUT.out.trans (Xhh HU.out.c.rd (by decide) h3)
          have HK7:=Lib.hid (HUK.out.grown h3 (Xa1 HUK.out (by decide) HU.out.c.rd))
          have hHeld:(fun w' => w'.cell? ⟨X,9,none⟩=some (.slice AD D.length cD)∧w'.cell? ⟨g2,0,none⟩=some (.int .i64 k.num)) w9:=⟨HT7.out.cell 9,HK7.out.cell 0⟩;refine hK _ _ hHeld ?_;clear hK K h2 h3 h4 e1 e2 HU HUK HSAF hN9s HK7 hLL
          try simp only[PU]
          refine tkF 10 _ ?_;refine tkF 11 _ ?_;refine tkF 12 _ ?_;clear hHeld;have r0:=HT7.out.n9;have f0:=HT7.out.free 9;refine Xb4 (i:=13) rfl (by kernel_rfl) (by rfl) (by rfl) (fun K hK=>?_)
          go_simp;refine hK _ _ ?_;have HTF:Hid (Xai 4 W (w9.setCell ⟨X,9,none⟩ (.slice A8 (D.length+1) c8))):=HT9.out.trans (Xai.put HT7.out (by decide) _)
          clear hK K r0 f0 HT7
          try simp only[PU]
          have HFS2:Hid (ExS n0 X w0 Aq cq Ac cc p now ⟨vT3,ms3,V',(cV - 1),l,acc,num,vM,M,(.slice A8 (D.length+1) c8),(D ++ [k.num])⟩ (w9.setCell ⟨X,9,none⟩ (.slice A8 (D.length+1) c8))):=HFS.out;clear HFS;generalize w9.setCell ⟨X,9,none⟩ (.slice A8 (D.length+1) c8)=wF at HFS2 HTF ⊢;refine Xbd (by kernel_rfl) ?_
          go_wp2;go_end0;exact ⟨HFS2.out.c.be,HTF.out,.inr ⟨rfl,⟨vT3,ms3,V',(cV - 1),l,acc,num,vM,M,(.slice A8 (D.length+1) c8),(D ++ [k.num])⟩,false,⟨k,HFK.out,nd,tm,HPD.out,t,by rw[←HKE1.out, ←HM1.out]; exact HEX.out,.inr ⟨rfl,HEA.out,HCU.out,by rw[←HKE1.out, ←HM1.out, ←HKE2.out]; exact HM3.out⟩⟩,rfl,HFS2.out,HO2.out.put (n:=n) HKF2.out.2.2 HMF.out (l:=l) (fun a ha=>ha) HND.out.2 HND.out.1 HKF2.out.1 HKF2.out.2.1 HM3.out HM4.out rfl (by
           have h:=HO.out.vl;simp only[List.length_cons] at h;have h:l.length+1+M.length+D.length≤100:=h;simp only[List.length_append,List.length_cons,List.length_nil];omega),.inr ⟨rfl,rfl,by rw[HKN.out]⟩,rfl,rfl⟩⟩
      ·have HEA:=Lib.hid hear;have HMH:=Lib.hid hhm;obtain ⟨k2,hk2⟩:∃k2,k2=resF now m k:=⟨_,rfl⟩;have HKE2:=Lib.hid hk2;have HML:Hid (m.length≤1000):=hear.good.2.2.elim fun x h=>h.2.rt.2.2.1;have HKF2:Hid ((∀h ∈ k2.hops,HopB p h)∧k2.hops.length≤2000∧k2.num=n):=by
        rw[hk2];obtain ⟨_,_,n',_,hg⟩:=hear.good;have hrt:=hg.rt;rw[HPT.out] at hrt;refine ⟨fun h hh=>?_,?_,HKN.out⟩
        ·have hh:h ∈ k.hops.take (begN now k.hops) ++ m:=hh;rcases List.mem_append.1 hh with e | e
         ·exact HKB.out h (List.mem_of_mem_take e)
         ·exact Xc3 hrt.1 hrt.2.2.2.1 h e
        ·have:=HKL.out;have:=hrt.2.2.1;show (k.hops.take _ ++ m).length≤2000;rw[List.length_append,List.length_take]; omega
       clear hear hhm;go_wp2_with fail;have HS7F:Hid (∀W',(∃x',ExS n0 X w0 Aq cq Ac cc p now x' W')→Bk W' g2 55 (tkA k Ak ck)→(fun w' => w'.cell? ⟨X,4,none⟩=some (.int .i64 now)∧w'.cell? ⟨g2,0,none⟩=some (.int .i64 k.num)∧w'.cell? ⟨g2,1,none⟩=some (.int .i64 k.rq.src)∧w'.cell? ⟨g2,2,none⟩=some (.int .i64 k.rq.dst)∧w'.cell? ⟨g2,3,none⟩=some (.int .i64 k.rq.size)∧w'.cell? ⟨g2,4,none⟩=some (.int .i64 k.rq.ready)∧w'.cell? ⟨g2,5,none⟩=some (.int .i64 k.rq.dead)∧w'.cell? ⟨g2,6,none⟩=some (.int .i64 k.rq.prio)∧w'.cell? ⟨g2,7,none⟩=some (.bool k.rq.cust)∧w'.cell? ⟨g2,8,none⟩=some (.slice Ak k.hops.length ck)∧w'.cell? ⟨g2,9,none⟩=some (.int .i64 k.st)∧w'.cell? ⟨g2,10,none⟩=some (.int .i64 k.til)) W'):=fun W' ⟨x',h⟩ h2=>⟨h.x.cell 4,h2.cell 0,h2.cell 1,h2.cell 2,h2.cell 3,h2.cell 4,h2.cell 5,h2.cell 6,h2.cell 7,h2.cell 8,h2.cell 9,h2.cell 10⟩;go_cut [] from 9 (fun wc => ∃vT3 ms3,ms3.map (·.k)=setT (ms2.map (·.k)) k2∧(∀y ∈ ms3,y.k=k2∨y ∈ ms2)∧ExS n0 X w0 Aq cq Ac cc p now ⟨vT3,ms3,V',(cV - 1),l,acc,num,vM,M,vD,D⟩ wc∧Bk wc g2 55 (tkA k Ak ck)∧Xai 4 W wc)
       case first =>
        refine Xam (S:=fun w' => w'.cell? ⟨X,4,none⟩=some (.int .i64 now)∧w'.cell? ⟨g2,0,none⟩=some (.int .i64 k.num)∧w'.cell? ⟨g2,1,none⟩=some (.int .i64 k.rq.src)∧w'.cell? ⟨g2,2,none⟩=some (.int .i64 k.rq.dst)∧w'.cell? ⟨g2,3,none⟩=some (.int .i64 k.rq.size)∧w'.cell? ⟨g2,4,none⟩=some (.int .i64 k.rq.ready)∧w'.cell? ⟨g2,5,none⟩=some (.int .i64 k.rq.dead)∧w'.cell? ⟨g2,6,none⟩=some (.int .i64 k.rq.prio)∧w'.cell? ⟨g2,7,none⟩=some (.bool k.rq.cust)∧w'.cell? ⟨g2,8,none⟩=some (.slice Ak k.hops.length ck)∧w'.cell? ⟨g2,9,none⟩=some (.int .i64 k.st)∧w'.cell? ⟨g2,10,none⟩=some (.int .i64 k.til)) [] (by kernel_rfl) (HS7F.out _ ⟨_,HS6.out.next (Below.refl _ _).drew⟩ (HK6.out.below (Below.refl _ _).drew HK6.out.lt)) (fun hHeld=>?_)
        have HVS:=Lib.hid (HS6.out.next (Below.refl w6.heap.size w6).drew);have HVK:=Lib.hid (HK6.out.below (Below.refl w6.heap.size w6).drew HK6.out.lt);have HVH:=Lib.hid (HH6.out.below (Below.refl w6.heap.size w6).drew);have HVM:=Lib.hid (HMH.out.below (Below.refl w6.heap.size w6).drew);have HVT:Hid (Xai 4 W w6.drew):=HKT6.out;clear HS6 HK6 HH6 HKT6;generalize w6.drew=U at HVS HVK HVH HVT HVM hHeld ⊢;refine tkF 0 _ ?_;refine tkF 1 _ ?_;refine tkF 2 _ ?_;refine tkG 3 (.agg (tkA k Ak ck)) ?_;refine tkF 4 _ ?_;refine tkF 5 _ ?_;refine tkF 6 _ ?_;refine tkF 7 _ ?_;refine tkG 8 (.int .i64 now) ?_;refine Xaa (i:=9) rfl (by kernel_rfl) (by rfl) (fun K hK=>?_)
        go_simp;refine (Xma k k2 Ak ck Mh cM m now U HVH.out HVM.out (by have:=HKL.out; omega) (by have:=HML.out; omega) hk2).mono ?_
        rintro e w7 ⟨A3,c3,rfl,hhp,hb7⟩;have HU:=Lib.hid (HVS.out.next hb7);have HUT:Hid (Xai 4 W w7):=HVT.out.trans (Xai.below hb7);have HUK:=Lib.hid (HVK.out.below hb7 HVK.out.lt);have HP1:=Lib.hid hhp;refine hK _ _ (HS7F.out _ ⟨_,HU.out⟩ HUK.out) ?_;clear hK K hHeld hb7 hhp HVS HVK HVH hk2
        try simp only[PU]
        refine Xaa (i:=10) rfl (by kernel_rfl) (by rfl) (fun K hK=>?_)
        go_simp;refine (set_any X 120 _ n0 (.slice A2 ms2.length c2) ms2 ⟨k2,A3,c3⟩ w7 HU.out.x rfl (by decide) HU.out.c.rt HU.out.c.gs (by have h1:ms2.length≤70:=HO2.out.ln; omega)).mono ?_
        intro e w8 hset;obtain ⟨rfl,vT3,ms3,h1,h2,h3,h4,h5⟩:=HU.out.set HP1.out hset;have hg2:¬ (g2=X∨(Value.slice A2 ms2.length c2).ownBlock=some g2):=fun e=>by
         rcases e with e | e
         ·have:=HX2.out; omega
         ·exact HR5.out _ e rfl
        have HKF:=Lib.hid (Xft HUK.out h4 hg2);have HSF3:Hid (ExS n0 X w0 Aq cq Ac cc p now ⟨vT3,ms3,V',(cV - 1),l,acc,num,vM,M,vD,D⟩ w8):=h3;have HFT:Hid (Xai 4 W w8):=HUT.out.trans (Xgq h4 HU.out.bool);have HM4:Hid (∀y ∈ ms3,y.k=k2∨y ∈ ms2):=fun y hy=>by
         rcases h2 y hy with e | e
         ·exact .inl (by rw[e])
         ·exact .inr e
        have HM3:Hid (ms3.map (·.k)=setT (ms2.map (·.k)) k2):=h1;refine hK _ _ (HS7F.out _ ⟨_,h3⟩ HKF.out) ?_;clear hK K h1 h2 h3 h4 h5 hg2 hset HU HUK HP1
        try simp only[PU]
        refine Xbd (by kernel_rfl) ?_
        go_wp2;go_meet
        case rel=>exact ⟨vT3,ms3,HM3.out,HM4.out,HSF3.out,HKF.out,HFT.out⟩
       case rest =>
        obtain ⟨vT3,ms3,hm3,hm4,hs8,hk8,ht8⟩:=hcut;have HM3:=Lib.hid hm3;have HM4:=Lib.hid hm4;have HS8:=Lib.hid hs8;have HK8:=Lib.hid hk8;have HKT8:=Lib.hid ht8;obtain ⟨w8,rfl⟩:∃v,v=wc:=⟨_,rfl⟩;clear hm3 hm4 hs8 hk8 ht8 hk2 HS6 HK6 HH6 HS7F HKT6;go_wp2_with fail;obtain ⟨AD,cD,hvD⟩:=Xa8 HS8.out.c.rm;have hvD:vM = .slice AD M.length cD:=hvD;subst hvD;obtain ⟨i0,hi0,hz0,hz1,hz2⟩:=info_parts Xqh;have HSAF:Hid (∀W',(∃x',ExS n0 X w0 Aq cq Ac cc p now x' W' ∧ x'.vM = .slice AD M.length cD)→Bk W' g2 55 (tkA k Ak ck)→(fun w' => w'.cell? ⟨X,8,none⟩=some (.slice AD M.length cD)∧w'.cell? ⟨g2,0,none⟩=some (.int .i64 k.num)) W'):=fun W' ⟨x',h,e⟩ h2=>⟨by rw[h.x.cell 8]; show some x'.vM=_; rw[e],h2.cell 0⟩
        refine Xam (S:=fun w' => w'.cell? ⟨X,8,none⟩=some (.slice AD M.length cD)∧w'.cell? ⟨g2,0,none⟩=some (.int .i64 k.num)) [13] (by kernel_rfl) (HSAF.out _ ⟨_,HS8.out.next (Below.refl _ _).drew,rfl⟩ (HK8.out.below (Below.refl _ _).drew HK8.out.lt)) (fun hHeld=>?_)
        have HVS:=Lib.hid (HS8.out.next (Below.refl w8.heap.size w8).drew);have HVK:=Lib.hid (HK8.out.below (Below.refl w8.heap.size w8).drew HK8.out.lt);have HVT:Hid (Xai 4 W w8.drew):=HKT8.out;clear HS8 HK8 HKT8;generalize w8.drew=U at HVS HVK HVT hHeld ⊢;refine tkF 0 _ ?_;refine tkF 1 _ ?_;refine tkF 2 _ ?_;refine tkF 3 _ ?_;refine tkF 4 _ ?_;refine tkG 5 (.slice AD M.length cD) ?_;refine tkF 6 _ ?_;refine tkG 7 (.int .i64 k.num) ?_;clear hHeld;refine Xaa (i:=8) rfl (by kernel_rfl) (by rfl) (fun K hK=>?_)
        go_simp;have hal:Below U.heap.size U (U.alloc (.cells #[.int .i64 k.num] 3)):=(Below.refl _ _).alloc (Nat.le_refl _) _;have HN9:Hid (Bk (U.alloc (.cells #[.int .i64 k.num] 3)) U.heap.size 3 #[.int .i64 k.num]):=Bk.new _ _ _;have HU:=Lib.hid (HVS.out.next hal);have HUK:=Lib.hid (HVK.out.below hal HVK.out.lt);have HUT:Hid (Xai 4 W (U.alloc (.cells #[.int .i64 k.num] 3))):=HVT.out.trans (Xai.below hal);refine hK _ _ (HSAF.out _ ⟨_,HU.out,rfl⟩ HUK.out) ?_;clear hK K hal HVS HVK
        try simp only[PU]
        generalize U.alloc (.cells #[.int .i64 k.num] 3)=V1 at HN9 HU HUK HUT ⊢;generalize U.heap.size=g9 at HN9 ⊢;refine Xaa (i:=9) rfl (by kernel_rfl) (by rfl) (fun K hK=>?_)
        have hN9s:SlAt intE V1 (some ⟨g9,0,none⟩) [k.num]:=fun j r hj=>by
         cases j with
         | zero =>
           simp only[List.getElem?_cons_zero,Option.some.injEq] at hj;subst hj;refine ⟨g9,0,rfl,fun a u hu=>?_⟩;simp only[Nat.zero_mul,Nat.zero_add];rw[HN9.out.cell];simpa[intE] using hu
         | succ j=>simp at hj
        have hLL:M.length≤100:=by have h:l.length+M.length+D.length≤100:=HO2.out.vl; omega
        refine Xaq intE (.tmp 113) (.tmp 116) 22 3 rfl n0 i0 (.int .i64 0) 8 Tryz.underlying22 hi0 hz0 hz1 hz2 rfl (by decide) (.slice AD M.length cD) M.length (M.flatMap intE.f) rfl HU.out.c.rm (some ⟨g9,0,none⟩) [k.num] 1 rfl hN9s (by simp; unfold maxLen; omega) (by simp; omega) HU.out.c.gs (fun v8 w9 h2 h3 h4=>?_)
        have h2:w9.ownsRow n0 3 1 v8 (M.length+1) (M.flatMap intE.f ++ [.int .i64 k.num]):=h2;obtain ⟨A8,c8,e8⟩:=Xa8 h2;subst e8;obtain ⟨e1,e2⟩:=HU.out.moved h3 h2 (by
         rcases h4 with h4 | h4
         ·exact .inl h4
         ·exact .inr (fun r e=>by rw[h4] at e; cases e; exact Nat.le_refl _))
        have HT7:=Lib.hid e1;have HFS:=Lib.hid e2;have HT9:Hid (Xai 4 W w9):=HUT.out.trans (Xhh HU.out.c.rm (by decide) h3)
        have HK7:=Lib.hid (HUK.out.grown h3 (Xa1 HUK.out (by decide) HU.out.c.rm))
        have hHeld:(fun w' => w'.cell? ⟨X,8,none⟩=some (.slice AD M.length cD)∧w'.cell? ⟨g2,0,none⟩=some (.int .i64 k.num)) w9:=⟨HT7.out.cell 8,HK7.out.cell 0⟩;refine hK _ _ hHeld ?_;clear hK K h2 h3 h4 e1 e2 HU HUK HSAF hN9s HK7 hLL
        try simp only[PU]
        refine tkF 10 _ ?_;refine tkF 11 _ ?_;refine tkF 12 _ ?_;clear hHeld;have r0:=HT7.out.n8;have f0:=HT7.out.free 8;refine Xb4 (i:=13) rfl (by kernel_rfl) (by rfl) (by rfl) (fun K hK=>?_)
        go_simp;refine hK _ _ ?_;have HTF:Hid (Xai 4 W (w9.setCell ⟨X,8,none⟩ (.slice A8 (M.length+1) c8))):=HT9.out.trans (Xai.put HT7.out (by decide) _)
        clear hK K r0 f0 HT7
        try simp only[PU]
        have HFS2:Hid (ExS n0 X w0 Aq cq Ac cc p now ⟨vT3,ms3,V',(cV - 1),l,acc,num,(.slice A8 (M.length+1) c8),(M ++ [k.num]),vD,D⟩ (w9.setCell ⟨X,8,none⟩ (.slice A8 (M.length+1) c8))):=HFS.out;clear HFS;generalize w9.setCell ⟨X,8,none⟩ (.slice A8 (M.length+1) c8)=wF at HFS2 HTF ⊢;refine Xbd (by kernel_rfl) ?_
        go_wp2;go_end0;exact ⟨HFS2.out.c.be,HTF.out,.inr ⟨rfl,⟨vT3,ms3,V',(cV - 1),l,acc,num,(.slice A8 (M.length+1) c8),(M ++ [k.num]),vD,D⟩,true,⟨k,HFK.out,nd,tm,HPD.out,t,by rw[←HKE1.out, ←HM1.out]; exact HEX.out,.inl ⟨rfl,m,HEA.out,by rw[←HKE1.out, ←HM1.out, ←HKE2.out]; exact HM3.out⟩⟩,rfl,HFS2.out,HO2.out.put (n:=n) HKF2.out.2.2 HMF.out (l:=l) (fun a ha=>ha) HND.out.2 HND.out.1 HKF2.out.1 HKF2.out.2.1 HM3.out HM4.out rfl (by
         have h:=HO.out.vl;simp only[List.length_cons] at h;have h:l.length+1+M.length+D.length≤100:=h;simp only[List.length_append,List.length_cons,List.length_nil];omega),.inl ⟨rfl,by rw[HKN.out],rfl⟩,rfl,rfl⟩⟩
end Go.Proofs.YtebkgbmijocdjaaGreat.Tp
