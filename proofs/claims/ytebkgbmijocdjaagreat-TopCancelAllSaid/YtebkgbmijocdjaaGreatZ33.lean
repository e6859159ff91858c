/- A part of the proof for the ledger. No condition beyond those that each theorem states. -/
import Derived.Test.YtebkgbmijocdjaaGreatZ16
import Derived.Test.YtebkgbmijocdjaaGreatZ31
import Derived.Test.YtebkgbmijocdjaaGreatZ32
set_option maxHeartbeats 32000000
set_option maxRecDepth 100000
set_option linter.unusedVariables false
set_option linter.unusedSimpArgs false
namespace Go.Proofs.YtebkgbmijocdjaaGreat.Tp
open Go Go.RowKit Go.Lib
theorem Xht (c:Nat)(w:World):Calls Tryz.prog 110 #[.slice none 0 c] w fun e w' => e = .returned (.slice none 0 0)∧w' = w:=by
 have hn:=fun (w:World)=>Lib.run_eql_slice_nil (P:=Tryz.prog) w 26 95 none 0 c 0 0 Tryz.underlying26;go_enter Tryz.func110,Tryz.ntmps110;go_wp2;go_ret;exact ⟨rfl,rfl⟩
theorem wp_to {P:Program}{c:Code}{Q:Exit→Act→World→Prop}{a a0:Act}{w w0:World}(h:c.wp P (fun e a' w' => e = .normal∧a' = a0∧w' = w0) a w)(h2:Q .normal a0 w0):c.wp P Q a w :=
 wp_mono h fun e a w ⟨h3,h4,h5⟩=>by subst h3 h4 h5; exact h2
structure TaS (n0 base:Nat)(w:World)(Aq:Option Addr)(cq:Nat)(Ac:Option Addr)(cc:Nat)(p:Pln)(A:Option Addr)(n ct:Nat)(vB:Value)(LB:List Bkg)(vH:Value)(LH:List Hld)(W:World):Prop where
 be:Below n0 w W
 lg:Bk W n0 53 (lgA Aq cq Ac cc p A n ct)
 rs:Bk W (n0+1) 29 #[.slice none 0 0,.slice none 0 0,.slice none 0 0,.slice none 0 0]
 tb:Bk W (n0+1+1) 29 #[.slice Aq p.q.length cq,.slice Ac p.c.length cc,vB,vH]
 rb:W.ownsRow base 95 4 vB LB.length (LB.flatMap bkE.f)
 rh:W.ownsRow base 99 5 vH LH.length (LH.flatMap hdE.f)
 gs:n0+3≤base∧base≤W.heap.size
section
variable {n0 base:Nat} {w:World} {Aq:Option Addr} {cq:Nat} {Ac:Option Addr} {cc:Nat} {p:Pln} {A:Option Addr} {n ct:Nat} {vB:Value} {LB:List Bkg} {vH:Value} {LH:List Hld} {W:World}
theorem TaS.below {W':World}(h:TaS n0 base w Aq cq Ac cc p A n ct vB LB vH LH W)(hb:Below W.heap.size W W'):TaS n0 base w Aq cq Ac cc p A n ct vB LB vH LH W' :=
 ⟨h.be.trans (hb.mono (by have:=h.gs; omega)),h.lg.below hb h.lg.lt,h.rs.below hb h.rs.lt,h.tb.below hb h.tb.lt,Xa6 h.rb hb,Xa6 h.rh hb,by have h1:=h.gs; have h2:=hb.size; omega⟩
theorem TaS.addB {W':World}(h:TaS n0 base w Aq cq Ac cc p A n ct vB LB vH LH W){v:Value}{L:List Bkg}(hr:W'.ownsRow base 95 4 v (LB.length+L.length) (LB.flatMap bkE.f ++ L.flatMap bkE.f))(hg:W.grownBy W' vB.ownBlock) :
  Bk W' (n0+1+1) 29 #[.slice Aq p.q.length cq,.slice Ac p.c.length cc,vB,vH] ∧ TaS n0 base w Aq cq Ac cc p A n ct v (LB ++ L) vH LH (W'.setCell ⟨n0+1+1,2,none⟩ v):=by
 have hlt:=fun r e=>(h.rb.lt r e).1;have e1:=h.lg.grown hg (Xa1 h.lg (by decide) h.rb)
 have e2:=h.rs.grown hg (Xa1 h.rs (by decide) h.rb)
 have e3:=h.tb.grown hg (Xa1 h.tb (by decide) h.rb)
 have e4:=Xbz h.rb h.rh (by decide) hg
 have hz:=hg.size;have hgs:=h.gs;rw[←List.length_append, ←List.flatMap_append] at hr;refine ⟨e3,⟨(h.be.grown hg (by omega) (fun r e=>by have:=hlt r e; omega)).setCell (p:=⟨n0+1+1,2,none⟩) (by show n0≤n0+1+1; omega) _,e1.other (p:=⟨n0+1+1,2,none⟩) (by show n0 ≠ n0+1+1; omega) _,e2.other (p:=⟨n0+1+1,2,none⟩) (by show n0+1 ≠ n0+1+1; omega) _,e3.put 2 v,?_,?_,?_⟩⟩
 ·exact hr.kept (Xa0 _ _ _ _) (.inr (Xa1 e3 (by decide) hr).symm)
 ·exact e4.kept (Xa0 _ _ _ _) (.inr (Xa1 e3 (by decide) e4).symm)
 ·simp only[World.setCell,Array.size_modify]; omega
theorem TaS.addH {W':World}(h:TaS n0 base w Aq cq Ac cc p A n ct vB LB vH LH W){v:Value}{L:List Hld}(hr:W'.ownsRow base 99 5 v (LH.length+L.length) (LH.flatMap hdE.f ++ L.flatMap hdE.f))(hg:W.grownBy W' vH.ownBlock) :
  Bk W' (n0+1+1) 29 #[.slice Aq p.q.length cq,.slice Ac p.c.length cc,vB,vH] ∧ TaS n0 base w Aq cq Ac cc p A n ct vB LB v (LH ++ L) (W'.setCell ⟨n0+1+1,3,none⟩ v):=by
 have hlt:=fun r e=>(h.rh.lt r e).1;have e1:=h.lg.grown hg (Xa1 h.lg (by decide) h.rh)
 have e2:=h.rs.grown hg (Xa1 h.rs (by decide) h.rh)
 have e3:=h.tb.grown hg (Xa1 h.tb (by decide) h.rh)
 have e4:=Xbz h.rh h.rb (by decide) hg
 have hz:=hg.size;have hgs:=h.gs;rw[←List.length_append, ←List.flatMap_append] at hr;refine ⟨e3,⟨(h.be.grown hg (by omega) (fun r e=>by have:=hlt r e; omega)).setCell (p:=⟨n0+1+1,3,none⟩) (by show n0≤n0+1+1; omega) _,e1.other (p:=⟨n0+1+1,3,none⟩) (by show n0 ≠ n0+1+1; omega) _,e2.other (p:=⟨n0+1+1,3,none⟩) (by show n0+1 ≠ n0+1+1; omega) _,e3.put 3 v,?_,?_,?_⟩⟩
 ·exact e4.kept (Xa0 _ _ _ _) (.inr (Xa1 e3 (by decide) e4).symm)
 ·exact hr.kept (Xa0 _ _ _ _) (.inr (Xa1 e3 (by decide) hr).symm)
 ·simp only[World.setCell,Array.size_modify]; omega
end
theorem Xk2:∀ {ts:List Tk},(∀k ∈ ts,k.hops.length≤4000)→(bksA ts).length≤ts.length * 4000
 | [],_=>by simp[bksA]
 | k :: ts,h=>by
   have ih:=Xk2 (ts:=ts) fun x hx=>h x (by simp[hx])
   have h1:=h k (by simp)
   have e:bksA (k :: ts)=bksT k ++ bksA ts:=by unfold bksA; rw[List.flatMap_cons]
   have e2:(bksT k).length=k.hops.length:=by unfold bksT bksL; rw[List.length_map]
   rw[e,List.length_append,List.length_cons];omega
theorem Xju (p:Pln)(k:Tk):(hdsT p k).length≤k.hops.length+1:=by
 unfold hdsT;rw[Xgr,List.length_append];have h1:=Xel p k.rq k.num k.rq.src k.rq.ready k.hops
 split
 ·simp only[List.length_nil]; omega
 ·have:=Xlw k.rq k.num (endN p k.rq.src k.hops) (endF k.rq.ready k.hops) k.til;omega
theorem Xnl (p:Pln):∀ {ts:List Tk},(∀k ∈ ts,k.hops.length≤4000)→(hdsA p ts).length≤ts.length * 4001
 | [],_=>by simp[hdsA]
 | k :: ts,h=>by
   have ih:=Xnl p (ts:=ts) fun x hx=>h x (by simp[hx])
   have h1:=h k (by simp)
   have h2:=Xju p k;have e:hdsA p (k :: ts)=hdsT p k ++ hdsA p ts:=by unfold hdsA; rw[List.flatMap_cons]
   rw[e,List.length_append,List.length_cons];omega
theorem Xqw (ts:List Tk)(k:Tk):bksA (ts ++ [k])=bksA ts ++ bksT k:=by unfold bksA; rw[List.flatMap_append]; simp
theorem Xqi (p:Pln)(ts:List Tk)(k:Tk):hdsA p (ts ++ [k])=hdsA p ts ++ hdsT p k:=by unfold hdsA; rw[List.flatMap_append]; simp
def Xp4 (p:Pln)(Aq:Option Addr)(cq:Nat)(Ac:Option Addr)(cc:Nat)(ts:List Tk)(w:World)(e:Ending)(w':World):Prop:=∃(t:Tbl)(B:Option Addr)(cb:Nat)(H:Option Addr)(ch:Nat),TblR p ts t∧e = .returned (.agg (tbA Aq cq Ac cc B cb H ch t))∧Xcm w' Aq cq Ac cc B cb H ch t∧(w'.ownsRow w.heap.size 95 4 (.slice B t.b.length cb) t.b.length (t.b.flatMap bkE.f)∧w'.ownsRow w.heap.size 99 5 (.slice H t.h.length ch) t.h.length (t.h.flatMap hdE.f))∧Below w.heap.size w w'
theorem Xgl {W:World}{base base' k n:Nat}{t:TypeId}{v:Value}{xs:List Value}(h:W.ownsRow base t k v n xs)(hb:base' ≤ base):W.ownsRow base' t k v n xs:=by
 refine ⟨h.1,?_⟩;rcases h.2 with h2 | ⟨g,cap,cur,h3,h4,h5⟩
 ·exact .inl h2
 ·exact .inr ⟨g,cap,cur,h3,by omega,h5⟩
theorem Xbt (Aq:Option Addr)(cq:Nat)(Ac:Option Addr)(cc:Nat)(p:Pln)(A:Option Addr)(ct:Nat)(ts:List Tk)(w:World)(h:LgAt w Aq cq Ac cc p A ct ts)(hok:Xbe p)(hb:∀k ∈ ts,∀x ∈ k.hops,HopB p x) :
  Calls Tryz.prog 46 #[.agg (lgA Aq cq Ac cc p A ts.length ct)] w (Xp4 p Aq cq Ac cc ts w):=by
 have HP:=Lib.hid h.p;have HT:=Lib.hid h.t;have HOK:=Lib.hid hok;have HHB:=Lib.hid hb;have HTM:Hid (ts.length≤100):=h.tm;have HHM:=Lib.hid h.hm;obtain ⟨_,_,rfl,rfl,-,HB0,HK0,HK1⟩:=box2 w 53 (lgA Aq cq Ac cc p A ts.length ct) 29 #[.slice none 0 0,.slice none 0 0,.slice none 0 0,.slice none 0 0];have a0:=HK0.out.c4;clear h hok hb;go_enter Tryz.func46,Tryz.ntmps46;go_wp2_with fail;clear a0;have HSZ:Hid (((w.alloc (.cells (lgA Aq cq Ac cc p A ts.length ct) 53)).alloc (.cells #[.slice none 0 0,.slice none 0 0,.slice none 0 0,.slice none 0 0] 29)).heap.size=w.heap.size+1+1):=by show _=_; simp
 generalize ((w.alloc (.cells (lgA Aq cq Ac cc p A ts.length ct) 53)).alloc (.cells #[.slice none 0 0,.slice none 0 0,.slice none 0 0,.slice none 0 0] 29))=W at HB0 HK0 HK1 HSZ ⊢;generalize hn0:w.heap.size=n0 at HB0 HK0 HK1 HSZ ⊢;apply wp_to
 case h =>
  have HSF:Hid (∀X,Bk X n0 53 (lgA Aq cq Ac cc p A ts.length ct)→(fun w' => w'.cell? ⟨n0,0,none⟩=some (.slice Aq p.q.length cq)∧w'.cell? ⟨n0,1,none⟩=some (.slice Ac p.c.length cc)∧w'.cell? ⟨n0,2,none⟩=some (.slice none 0 0)) X):=fun X h=>⟨h.cell 0,h.cell 1,h.cell 2⟩;refine Xam (S:=fun w' => w'.cell? ⟨n0,0,none⟩=some (.slice Aq p.q.length cq)∧w'.cell? ⟨n0,1,none⟩=some (.slice Ac p.c.length cc)∧w'.cell? ⟨n0,2,none⟩=some (.slice none 0 0)) [7] (by kernel_rfl) (HSF.out _ HK0.out) (fun hHeld=>?_)
  have HV0:Hid (Bk W.drew n0 53 (lgA Aq cq Ac cc p A ts.length ct)):=HK0.out;refine tkF 0 _ ?_;refine tkG 1 (.agg (plA Aq cq Ac cc p)) ?_;refine tkF 2 _ ?_;refine tkG 3 (.slice none 0 0) ?_;have HT1:Hid (Bk (W.drew.alloc (.cells #[.slice none 0 0,.slice none 0 0,.slice none 0 0,.slice none 0 0] 29)) W.drew.heap.size 29 #[.slice none 0 0,.slice none 0 0,.slice none 0 0,.slice none 0 0]):=Bk.new _ _ _;have HL1:=Lib.hid (HSF.out _ (HV0.out.alloc (.cells #[.slice none 0 0,.slice none 0 0,.slice none 0 0,.slice none 0 0] 29)));obtain ⟨r0,r1,r2,r3⟩:=HT1.out.c4;obtain ⟨f0,f1,f2,f3⟩:=HT1.out.f4;refine Xe1 (i:=4) (j:=6) rfl rfl (by kernel_rfl) (by rfl) (by rfl) (fun K hK=>?_) (fun K hK=>?_)
  ·go_simp;refine (Xht _ _).mono ?_;rintro e w' ⟨rfl,rfl⟩;refine hK _ _ hHeld ?_;clear hK K
   try simp only[PU]
   refine tkF 5 _ ?_;refine Xaa (i:=6) rfl (by kernel_rfl) (by rfl) (fun K hK=>?_)
   go_simp;refine hK _ _ HL1.out ?_;clear hK K
   try simp only[PU]
   refine Xb4 (i:=7) rfl (by kernel_rfl) (by rfl) (by rfl) (fun K hK=>?_)
   go_simp;refine hK _ _ ?_;clear hK K
   try simp only[PU]
   exact Xbd (by kernel_rfl) ⟨rfl,rfl,rfl⟩
  ·go_simp;refine hK _ _ HL1.out ?_;clear hK K hHeld;have hHeld:=HL1.out
   try simp only[PU]
   refine Xaa (i:=4) rfl (by kernel_rfl) (by rfl) (fun K hK=>?_)
   go_simp;refine (Xht _ _).mono ?_;rintro e w' ⟨rfl,rfl⟩;refine hK _ _ hHeld ?_;clear hK K
   try simp only[PU]
   refine tkF 5 _ ?_;refine Xb4 (i:=7) rfl (by kernel_rfl) (by rfl) (by rfl) (fun K hK=>?_)
   go_simp;refine hK _ _ ?_;clear hK K
   try simp only[PU]
   exact Xbd (by kernel_rfl) ⟨rfl,rfl,rfl⟩
 have HT1:Hid (Bk (W.alloc (.cells (lgA Aq cq Ac cc p none 0 0) 29)).drew (n0+1+1) 29 (lgA Aq cq Ac cc p none 0 0)):=by
  have h:Bk (W.alloc (.cells (lgA Aq cq Ac cc p none 0 0) 29)) W.heap.size 29 (lgA Aq cq Ac cc p none 0 0):=Bk.new _ _ _;rw[HSZ.out] at h;exact h
 have HST:Hid (TaS n0 (n0+3) w Aq cq Ac cc p A ts.length ct (.slice none 0 0) [] (.slice none 0 0) [] (W.alloc (.cells (lgA Aq cq Ac cc p none 0 0) 29)).drew) :=
  ⟨(HB0.out.alloc (by have:=HSZ.out; omega) _).drew,Bk.alloc HK0.out _,Bk.alloc HK1.out _,HT1.out,World.ownsRow_nil _ _ _ _,World.ownsRow_nil _ _ _ _,Nat.le_refl _,by
   show n0+3≤(W.alloc (.cells (lgA Aq cq Ac cc p none 0 0) 29)).heap.size;rw[World.size_alloc,HSZ.out];omega⟩
 rw[HSZ.out];clear HT1 HB0 HK0 HK1 HSZ;generalize (W.alloc (.cells (lgA Aq cq Ac cc p none 0 0) 29)).drew=W3 at HST ⊢;generalize hbs:n0+3=base at HST;have HBS:Hid (base=n0+3):=hbs.symm;clear hbs;have a0:=HST.out.lg.c4;go_wp2_with fail;clear a0;obtain ⟨i0,hi0,hz0,hz1,hz2⟩:=info_parts Xsz;obtain ⟨i1,hi1,hy0,hy1,hy2⟩:=info_parts Xsy;go_loopw [5,15] (fun _ i wr => ∃j:Nat,j≤ts.length∧i = .int .i64 j ∧ ∃vB LB vH,LB.Perm (bksA (ts.take j))∧TaS n0 base w Aq cq Ac cc p A ts.length ct vB LB vH (hdsA p (ts.take j)) wr) (fun _ i _=>ts.length - (intOf i).toNat)
 case atStart=>exact ⟨0,Nat.zero_le _,rfl,_, [],_,List.Perm.refl _,HST.out⟩
 case round =>
  obtain ⟨j,hj,rfl,vB,LB,vH,hpm,hv⟩:=hrel;have HV:=Lib.hid hv;have HPM:=Lib.hid hpm;have HTK:Hid (∀k ∈ ts.take j,k.hops.length≤4000):=fun k hk=>HHM.out k (List.mem_of_mem_take hk);have HLB:Hid (LB.length≤400000):=by
   have h1:=hpm.length_eq;have h2:=Xk2 HTK.out;have h3:(ts.take j).length≤ts.length:=by rw[List.length_take]; omega
   have h4:=HTM.out;show _≤_;omega
  have HLH:Hid ((hdsA p (ts.take j)).length≤400100):=by
   have h2:=Xnl p HTK.out;have h3:(ts.take j).length≤ts.length:=by rw[List.length_take]; omega
   have h4:=HTM.out;show _≤_;omega
  obtain ⟨AB,cB,rfl⟩:=Xa8 hv.rb;obtain ⟨AH,cH,rfl⟩:=Xa8 hv.rh;clear hpm hv HST HTK
  by_cases hlt:j<ts.length
  ·obtain ⟨b,off,rfl,hr⟩:=HT.out.one (by omega)
   obtain ⟨x,hx⟩:∃x,ts[j]? = some x:=⟨_,List.getElem?_eq_getElem hlt⟩;obtain ⟨Ah,ch,hrg',hhp⟩:=hr j x hx;have hrg:=Xa3 hrg' (show Below w.heap.size w wr by rw[hn0]; exact HV.out.be)
   have HHP:=Lib.hid hhp;have HHL:Hid (x.hops.length≤4000):=HHM.out x (List.mem_of_getElem? hx);have HHO:=Lib.hid (HHB.out x (List.mem_of_getElem? hx));have HSN:Hid (ts.take (j+1)=ts.take j ++ [x]):=take_snoc hx;have c0:wr.cell? ⟨b,off+j * 11,none⟩=some (.int .i64 x.num):=hrg 0 _ rfl;have c1:wr.cell? ⟨b,off+j * 11+1,none⟩=some (.int .i64 x.rq.src):=hrg 1 _ rfl;have c2:wr.cell? ⟨b,off+j * 11+2,none⟩=some (.int .i64 x.rq.dst):=hrg 2 _ rfl;have c3:wr.cell? ⟨b,off+j * 11+3,none⟩=some (.int .i64 x.rq.size):=hrg 3 _ rfl;have c4:wr.cell? ⟨b,off+j * 11+4,none⟩=some (.int .i64 x.rq.ready):=hrg 4 _ rfl;have c5:wr.cell? ⟨b,off+j * 11+5,none⟩=some (.int .i64 x.rq.dead):=hrg 5 _ rfl;have c6:wr.cell? ⟨b,off+j * 11+6,none⟩=some (.int .i64 x.rq.prio):=hrg 6 _ rfl;have c7:wr.cell? ⟨b,off+j * 11+7,none⟩=some (.bool x.rq.cust):=hrg 7 _ rfl;have c8:wr.cell? ⟨b,off+j * 11+8,none⟩=some (.slice Ah x.hops.length ch):=hrg 8 _ rfl;have c9:wr.cell? ⟨b,off+j * 11+9,none⟩=some (.int .i64 x.st):=hrg 9 _ rfl;have c10:wr.cell? ⟨b,off+j * 11+10,none⟩=some (.int .i64 x.til):=hrg 10 _ rfl;have hj100:(j:Int)≤100:=by have:=HTM.out; omega
   have HLHE:Hid (hdsA p (ts.take j)=hdsA p (ts.take j)):=rfl;generalize hLH:hdsA p (ts.take j)=LH at HV HLH HLHE ⊢
   replace HLHE:Hid (hdsA p (ts.take j)=LH):=hLH
   obtain ⟨_,_,rfl,rfl,-,HBN,HX8⟩:=box1 wr 55 (tkA x Ah ch);have HV8:=Lib.hid (HV.out.below HBN.out);have HGE:Hid (wr.heap.size ≠ n0+1+1):=by have:=HV.out.gs; show _ ≠ _; omega
   clear hr hx hrg hrg' hhp HV hLH HBN;go_wp2_with fail;clear c0 c1 c2 c3 c4 c5 c6 c7 c8 c9 c10;generalize wr.alloc (.cells (tkA x Ah ch) 55)=w8 at HX8 HV8 ⊢;generalize wr.heap.size=g8 at HX8 HGE ⊢;have HSF:Hid (∀W,TaS n0 base w Aq cq Ac cc p (some ⟨b,off,none⟩) ts.length ct (.slice AB LB.length cB) LB (.slice AH LH.length cH) LH W→Bk W g8 55 (tkA x Ah ch)→(fun w' => w'.cell? ⟨n0+1+1,2,none⟩=some (.slice AB LB.length cB)∧w'.cell? ⟨g8,8,none⟩=some (.slice Ah x.hops.length ch)∧w'.cell? ⟨g8,0,none⟩=some (.int .i64 x.num)) W):=fun W h1 h2=>⟨h1.tb.cell 2,h2.cell 8,h2.cell 0⟩;go_wp2_with fail;refine Xam (S:=fun w' => w'.cell? ⟨n0+1+1,2,none⟩=some (.slice AB LB.length cB)∧w'.cell? ⟨g8,8,none⟩=some (.slice Ah x.hops.length ch)∧w'.cell? ⟨g8,0,none⟩=some (.int .i64 x.num)) [9] (by kernel_rfl) (HSF.out _ (HV8.out.below (Below.refl _ _).drew) (HX8.out.below (Below.refl _ _).drew HX8.out.lt)) (fun hHeld=>?_)
   have HV9:=Lib.hid (HV8.out.below (Below.refl w8.heap.size w8).drew);have HX9:=Lib.hid (HX8.out.below (Below.refl w8.heap.size w8).drew HX8.out.lt);clear HV8 HX8;generalize w8.drew=V at HV9 HX9 hHeld ⊢;refine tkF 0 _ ?_;refine tkG 1 (.slice AB LB.length cB) ?_;refine tkF 2 _ ?_;refine tkG 3 (.slice Ah x.hops.length ch) ?_;refine tkF 4 _ ?_;refine tkG 5 (.int .i64 x.num) ?_;clear hHeld;refine Xaa (i:=6) rfl (by kernel_rfl) (by rfl) (fun K hK=>?_)
   go_simp;refine (Xk0 Ah ch x.hops x.num V (HHP.out.below (by rw[hn0]; exact HV9.out.be)).s (by have:=HHL.out; omega)).mono ?_
   rintro e w6 ⟨L,hpm,A6,c6,rfl,hs6,hc6,hba6,hb6⟩;have HV6:=Lib.hid (HV9.out.below hb6);have HX6:=Lib.hid (HX9.out.below hb6 HX9.out.lt);have HS6:=Lib.hid hs6;have HPM6:=Lib.hid hpm;have HLL:Hid (L.length≤4000):=by
    have h1:=hpm.length_eq;have h2:=HHL.out;unfold bksL at h1;rw[List.length_map] at h1;show _≤_;omega
   refine hK _ _ (HSF.out _ HV6.out HX6.out) ?_;clear hK K hs6 hc6 hba6 hb6 hpm HV9 HX9
   try simp only[PU]
   refine Xaa (i:=7) rfl (by kernel_rfl) (by rfl) (fun K hK=>?_)
   refine Xaq bkE (.tmp 20) (.tmp 25) 26 95 rfl base i0 (.agg #[.int .i64 0,.int .i64 0,.int .i64 0,.int .i64 0]) 32 Tryz.underlying26 hi0 hz0 hz1 hz2 rfl (by decide) (.slice AB LB.length cB) LB.length (LB.flatMap bkE.f) rfl HV6.out.rb A6 L c6 rfl HS6.out (by have:=HLB.out; have:=HLL.out; unfold maxLen; omega) (by have:=HLB.out; have:=HLL.out; omega) HV6.out.gs.2 (fun v8 w9 h2 h3 h4=>?_)
   obtain ⟨e1,e2⟩:=HV6.out.addB h2 h3;have HX7:=Lib.hid (HX6.out.grown h3 (Xa1 HX6.out (by decide) HV6.out.rb))
   have HT7:=Lib.hid e1;have HV7:=Lib.hid e2;obtain ⟨A8,c8,rfl⟩:=Xa8 h2;have hHeld:(fun w' => w'.cell? ⟨n0+1+1,2,none⟩=some (.slice AB LB.length cB)∧w'.cell? ⟨g8,8,none⟩=some (.slice Ah x.hops.length ch)∧w'.cell? ⟨g8,0,none⟩=some (.int .i64 x.num)) w9:=⟨HT7.out.cell 2,HX7.out.cell 8,HX7.out.cell 0⟩;refine hK _ _ hHeld ?_;clear hK K h2 h3 h4 e1 e2 HV6 HX6 HS6 HSF
   try simp only[PU]
   refine tkF 8 _ ?_;clear hHeld;have r0:=HT7.out.n2;have f0:=HT7.out.free 2;refine Xb4 (i:=9) rfl (by kernel_rfl) (by rfl) (by rfl) (fun K hK=>?_)
   go_simp;refine hK _ _ ?_;clear hK K r0 f0 HT7
   try simp only[PU]
   have HXA:=Lib.hid (HX7.out.other (p:=⟨n0+1+1,2,none⟩) (by show g8 ≠ n0+1+1; exact HGE.out) (.slice A8 (LB.length+L.length) c8))
   generalize w9.setCell ⟨n0+1+1,2,none⟩ (.slice A8 (LB.length+L.length) c8)=wA at HV7 HXA ⊢;refine Xbd (by kernel_rfl) ?_
   clear HX7;have HPB:Hid ((LB ++ L).Perm (bksA (ts.take (j+1)))):=by
    show List.Perm _ _;rw[HSN.out,Xqw];exact HPM.out.append HPM6.out
   have HLN:Hid (LB.length+L.length=(LB ++ L).length):=by show _=_; rw[List.length_append]
   rw[HLN.out] at HV7;clear HPM HPM6 HLB HLL HLN;generalize LB ++ L=LB2 at HV7 HPB;have HSF:Hid (∀W,TaS n0 base w Aq cq Ac cc p (some ⟨b,off,none⟩) ts.length ct (.slice A8 LB2.length c8) LB2 (.slice AH LH.length cH) LH W→Bk W g8 55 (tkA x Ah ch)→(fun w' => w'.cell? ⟨n0+1+1,3,none⟩=some (.slice AH LH.length cH)∧(w'.cell? ⟨n0,0,none⟩=some (.slice Aq p.q.length cq)∧w'.cell? ⟨n0,1,none⟩=some (.slice Ac p.c.length cc))∧w'.cell? ⟨g8,0,none⟩=some (.int .i64 x.num)∧w'.cell? ⟨g8,1,none⟩=some (.int .i64 x.rq.src)∧w'.cell? ⟨g8,2,none⟩=some (.int .i64 x.rq.dst)∧w'.cell? ⟨g8,3,none⟩=some (.int .i64 x.rq.size)∧w'.cell? ⟨g8,4,none⟩=some (.int .i64 x.rq.ready)∧w'.cell? ⟨g8,5,none⟩=some (.int .i64 x.rq.dead)∧w'.cell? ⟨g8,6,none⟩=some (.int .i64 x.rq.prio)∧w'.cell? ⟨g8,7,none⟩=some (.bool x.rq.cust)∧w'.cell? ⟨g8,8,none⟩=some (.slice Ah x.hops.length ch)∧w'.cell? ⟨g8,9,none⟩=some (.int .i64 x.st)∧w'.cell? ⟨g8,10,none⟩=some (.int .i64 x.til)) W):=fun W h1 h2=>⟨h1.tb.cell 3,⟨h1.lg.cell 0,h1.lg.cell 1⟩,h2.cell 0,h2.cell 1,h2.cell 2,h2.cell 3,h2.cell 4,h2.cell 5,h2.cell 6,h2.cell 7,h2.cell 8,h2.cell 9,h2.cell 10⟩;go_wp2_with fail;refine Xam (S:=fun w' => w'.cell? ⟨n0+1+1,3,none⟩=some (.slice AH LH.length cH)∧(w'.cell? ⟨n0,0,none⟩=some (.slice Aq p.q.length cq)∧w'.cell? ⟨n0,1,none⟩=some (.slice Ac p.c.length cc))∧w'.cell? ⟨g8,0,none⟩=some (.int .i64 x.num)∧w'.cell? ⟨g8,1,none⟩=some (.int .i64 x.rq.src)∧w'.cell? ⟨g8,2,none⟩=some (.int .i64 x.rq.dst)∧w'.cell? ⟨g8,3,none⟩=some (.int .i64 x.rq.size)∧w'.cell? ⟨g8,4,none⟩=some (.int .i64 x.rq.ready)∧w'.cell? ⟨g8,5,none⟩=some (.int .i64 x.rq.dead)∧w'.cell? ⟨g8,6,none⟩=some (.int .i64 x.rq.prio)∧w'.cell? ⟨g8,7,none⟩=some (.bool x.rq.cust)∧w'.cell? ⟨g8,8,none⟩=some (.slice Ah x.hops.length ch)∧w'.cell? ⟨g8,9,none⟩=some (.int .i64 x.st)∧w'.cell? ⟨g8,10,none⟩=some (.int .i64 x.til)) [15] (by kernel_rfl) (HSF.out _ (HV7.out.below (Below.refl _ _).drew) (HXA.out.below (Below.refl _ _).drew HXA.out.lt)) (fun hHeld=>?_)
   have HV9:=Lib.hid (HV7.out.below (Below.refl wA.heap.size wA).drew);have HX9:=Lib.hid (HXA.out.below (Below.refl wA.heap.size wA).drew HXA.out.lt);clear HV7 HXA;generalize wA.drew=V at HV9 HX9 hHeld ⊢;refine tkF 0 _ ?_;refine tkG 1 (.slice AH LH.length cH) ?_;refine tkF 2 _ ?_;refine tkG 3 (.agg (plA Aq cq Ac cc p)) ?_;refine tkF 4 _ ?_;refine tkG 5 (.agg (rqA x.rq)) ?_;refine tkF 6 _ ?_;refine tkG 7 (.slice Ah x.hops.length ch) ?_;refine tkF 8 _ ?_;refine tkG 9 (.int .i64 x.num) ?_;refine tkF 10 _ ?_;refine tkG 11 (.int .i64 x.til) ?_;clear hHeld;refine Xaa (i:=12) rfl (by kernel_rfl) (by rfl) (fun K hK=>?_)
   go_simp;refine (Xmi Aq cq Ac cc p x.rq Ah ch x.hops x.num x.til V (HP.out.below (by rw[hn0]; exact HV9.out.be)) HOK.out (HHP.out.below (by rw[hn0]; exact HV9.out.be)).s HHL.out HHO.out).mono ?_
   rintro e w6 ⟨A6,c6,rfl,hs6,hc6,hba6,hb6⟩;have HSN2:Hid (hdsA p (ts.take (j+1))=LH ++ Xck p x.rq x.num x.til x.rq.src x.rq.ready x.hops):=by
    show _=_;rw[HSN.out,Xqi,HLHE.out]; rfl
   have HML:Hid ((Xck p x.rq x.num x.til x.rq.src x.rq.ready x.hops).length≤4001):=by
    have h1:=Xju p x;have h2:=HHL.out;have h3:hdsT p x=Xck p x.rq x.num x.til x.rq.src x.rq.ready x.hops:=rfl;rw[h3] at h1;show _≤_;omega
   generalize Xck p x.rq x.num x.til x.rq.src x.rq.ready x.hops=M at HSN2 HML hs6 hc6 ⊢;have HV6:=Lib.hid (HV9.out.below hb6);have HX6:=Lib.hid (HX9.out.below hb6 HX9.out.lt);have HS6:=Lib.hid hs6;refine hK _ _ (HSF.out _ HV6.out HX6.out) ?_;clear hK K hs6 hc6 hba6 hb6 HV9 HX9
   try simp only[PU]
   refine Xaa (i:=13) rfl (by kernel_rfl) (by rfl) (fun K hK=>?_)
   refine Xaq hdE (.tmp 29) (.tmp 40) 27 99 rfl base i1 (.agg #[.int .i64 0,.int .i64 0,.int .i64 0,.int .i64 0,.int .i64 0]) 40 Tryz.underlying27 hi1 hy0 hy1 hy2 rfl (by decide) (.slice AH LH.length cH) LH.length (LH.flatMap hdE.f) rfl HV6.out.rh A6 M c6 rfl HS6.out (by have:=HLH.out; have:=HML.out; unfold maxLen; omega) (by have:=HLH.out; have:=HML.out; omega) HV6.out.gs.2 (fun v8 w9 h2 h3 h4=>?_)
   obtain ⟨e1,e2⟩:=HV6.out.addH h2 h3;have HX7:=Lib.hid (HX6.out.grown h3 (Xa1 HX6.out (by decide) HV6.out.rh))
   have HT7:=Lib.hid e1;have HV7:=Lib.hid e2;have HG7:=Lib.hid (HV6.out.lg.grown h3 (Xa1 HV6.out.lg (by decide) HV6.out.rh))
   obtain ⟨A9,c9,rfl⟩:=Xa8 h2;have hHeld:(fun w' => w'.cell? ⟨n0+1+1,3,none⟩=some (.slice AH LH.length cH)∧(w'.cell? ⟨n0,0,none⟩=some (.slice Aq p.q.length cq)∧w'.cell? ⟨n0,1,none⟩=some (.slice Ac p.c.length cc))∧w'.cell? ⟨g8,0,none⟩=some (.int .i64 x.num)∧w'.cell? ⟨g8,1,none⟩=some (.int .i64 x.rq.src)∧w'.cell? ⟨g8,2,none⟩=some (.int .i64 x.rq.dst)∧w'.cell? ⟨g8,3,none⟩=some (.int .i64 x.rq.size)∧w'.cell? ⟨g8,4,none⟩=some (.int .i64 x.rq.ready)∧w'.cell? ⟨g8,5,none⟩=some (.int .i64 x.rq.dead)∧w'.cell? ⟨g8,6,none⟩=some (.int .i64 x.rq.prio)∧w'.cell? ⟨g8,7,none⟩=some (.bool x.rq.cust)∧w'.cell? ⟨g8,8,none⟩=some (.slice Ah x.hops.length ch)∧w'.cell? ⟨g8,9,none⟩=some (.int .i64 x.st)∧w'.cell? ⟨g8,10,none⟩=some (.int .i64 x.til)) w9:=⟨HT7.out.cell 3,⟨HG7.out.cell 0,HG7.out.cell 1⟩,HX7.out.cell 0,HX7.out.cell 1,HX7.out.cell 2,HX7.out.cell 3,HX7.out.cell 4,HX7.out.cell 5,HX7.out.cell 6,HX7.out.cell 7,HX7.out.cell 8,HX7.out.cell 9,HX7.out.cell 10⟩;refine hK _ _ hHeld ?_;clear hK K h2 h3 h4 e1 e2 HV6 HX6 HS6 HSF HX7 HG7
   try simp only[PU]
   refine tkF 14 _ ?_;clear hHeld;have r0:=HT7.out.n3;have f0:=HT7.out.free 3;refine Xb4 (i:=15) rfl (by kernel_rfl) (by rfl) (by rfl) (fun K hK=>?_)
   go_simp;refine hK _ _ ?_;clear hK K r0 f0 HT7
   try simp only[PU]
   generalize w9.setCell ⟨n0+1+1,3,none⟩ (.slice A9 (LH.length+M.length) c9)=wB at HV7 ⊢;refine Xbd (by kernel_rfl) ?_
   go_wp2;go_roundw
   case rel=>exact ⟨j+1,by omega,by go_num,_,LB2,_,HPB.out,by rw[HSN2.out]; exact HV7.out⟩
   case measure=>simp[intOf]; omega
  ·have e:ts.take j=ts:=List.take_of_length_le (by omega)
   rw[e] at HV HPM HLH;clear e;generalize hLH:hdsA p ts=LH at HV HLH;have HLHE:Hid (LH=hdsA p ts):=hLH.symm;have HTB:=HV.out.tb;have a0:=HTB.c4;clear hLH HTB;go_wp2_with fail;clear a0;refine (Xo2 Aq cq Ac cc AB cB AH cH ⟨p,LB,LH⟩ base wr HV.out.rb HV.out.rh HV.out.gs.2 (by have:=HLB.out; show LB.length≤_; omega) (by have:=HLH.out; show LH.length≤_; omega)).mono ?_
   rintro e w1 ⟨rfl,L,M,hp1,hs1,hp2,hs2,hrb,hrh,hbe⟩;have hp1:L.Perm LB:=hp1;have hp2:M.Perm LH:=hp2;have HN1:=Lib.hid (HV.out.rs.below hbe (by have:=HV.out.gs; omega))
   have HC2:Hid (Below n0 w w1):=HV.out.be.trans (hbe.mono (by have:=HV.out.gs; omega))
   have HE1:Hid (LB.length=L.length):=hp1.length_eq.symm;have HE2:Hid (LH.length=M.length):=hp2.length_eq.symm;have HRB:Hid (w1.ownsRow base 95 4 (.slice AB LB.length cB) L.length (L.flatMap bkE.f)):=hrb;have HRH:Hid (w1.ownsRow base 99 5 (.slice AH LH.length cH) M.length (M.flatMap hdE.f)):=hrh;have HFR:Hid (TblR p ts ⟨p,L,M⟩):=⟨rfl,hp1.trans HPM.out,hs1,by rw[←HLHE.out]; exact hp2,hs2⟩
   have HML:Hid (L.length≤400000∧M.length≤400100):=by have:=HLB.out; have:=HLH.out; have:=HE1.out; have:=HE2.out; exact ⟨by omega,by omega⟩
   clear hp1 hs1 hp2 hs2 hrb hrh hbe HV HPM HLB HLH HLHE;rw[HE1.out] at HRB;rw[HE2.out] at HRH;obtain ⟨r0,r1,r2,r3⟩:=HN1.out.c4;obtain ⟨f0,f1,f2,f3⟩:=HN1.out.f4;go_wp2;rw[HE1.out,HE2.out];obtain ⟨hq,hbe⟩:=Xmb HN1.out HC2.out (by omega) (.slice Aq p.q.length cq) (.slice Ac p.c.length cc) (.slice AB L.length cB) (.slice AH M.length cH)
   have hne:∀ {r:Nat},(Value.slice AB L.length cB).ownBlock=some r→r ≠ n0+1:=fun {r} e e2=>Xa1 HN1.out (by decide) HRB.out (by rw[←e2]; exact e.symm)
   have hne2:∀ {r:Nat},(Value.slice AH M.length cH).ownBlock=some r→r ≠ n0+1:=fun {r} e e2=>Xa1 HN1.out (by decide) HRH.out (by rw[←e2]; exact e.symm)
   have hrb:=HRB.out;have hrh:=HRH.out;have hrb:=hrb.kept (Xa0 _ (n0+1) 0 (.slice Aq p.q.length cq)) (.inr (fun e=>hne e rfl));have hrh:=hrh.kept (Xa0 _ (n0+1) 0 (.slice Aq p.q.length cq)) (.inr (fun e=>hne2 e rfl));have hrb:=hrb.kept (Xa0 _ (n0+1) 1 (.slice Ac p.c.length cc)) (.inr (fun e=>hne e rfl));have hrh:=hrh.kept (Xa0 _ (n0+1) 1 (.slice Ac p.c.length cc)) (.inr (fun e=>hne2 e rfl));have hrb:=hrb.kept (Xa0 _ (n0+1) 2 (.slice AB L.length cB)) (.inr (fun e=>hne e rfl));have hrh:=hrh.kept (Xa0 _ (n0+1) 2 (.slice AB L.length cB)) (.inr (fun e=>hne2 e rfl));have hrb:=hrb.kept (Xa0 _ (n0+1) 3 (.slice AH M.length cH)) (.inr (fun e=>hne e rfl));have hrh:=hrh.kept (Xa0 _ (n0+1) 3 (.slice AH M.length cH)) (.inr (fun e=>hne2 e rfl));generalize ((((w1.setCell ⟨n0+1,0,none⟩ (.slice Aq p.q.length cq)).setCell ⟨n0+1,1,none⟩ (.slice Ac p.c.length cc)).setCell ⟨n0+1,2,none⟩ (.slice AB L.length cB)).setCell ⟨n0+1,3,none⟩ (.slice AH M.length cH))=WF at hq hbe hrb hrh ⊢;have p0:=hq.c4;obtain ⟨A3,c3,e3,hsb,hcb, -⟩:=Xab (E:=bkE) hrb;obtain ⟨A4,c4,e4,hsh,hch, -⟩:=Xab (E:=hdE) hrh
   injection e3 with e31 _ e33
   injection e4 with e41 _ e43
   subst e31 e33 e41 e43;refine bodyPost_ret (v:=.agg #[.slice Aq p.q.length cq,.slice Ac p.c.length cc,.slice AB L.length cB,.slice AH M.length cH]) (by simp[results,Tryz.results46,go_sem,p0]) rfl ⟨⟨p,L,M⟩,AB,cB,AH,cH,HFR.out,rfl,⟨HP.out.below (by rw[hn0]; exact hbe),hsb,hsh,hcb,hch,by have:=HML.out; unfold maxLen; show L.length≤_; omega,by have:=HML.out; unfold maxLen; show M.length≤_; omega⟩,?_,by rw[hn0]; exact hbe⟩
   rw[hn0];exact ⟨Xgl hrb (by have:=HBS.out; omega),Xgl hrh (by have:=HBS.out; omega)⟩
end Go.Proofs.YtebkgbmijocdjaaGreat.Tp
