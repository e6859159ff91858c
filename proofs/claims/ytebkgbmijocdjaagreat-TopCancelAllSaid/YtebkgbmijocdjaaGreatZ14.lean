/- A part of the proof for the ledger. No condition beyond those that each theorem states. -/
import Derived.Test.YtebkgbmijocdjaaGreatZ12
import Derived.Test.YtebkgbmijocdjaaGreatZ13
set_option maxHeartbeats 32000000
set_option maxRecDepth 100000
set_option linter.unusedVariables false
set_option linter.unusedSimpArgs false
namespace Go.Proofs.YtebkgbmijocdjaaGreat.Tp
open Go Go.RowKit
attribute [local go_sem] Oper.semAt_some
theorem Xda (p:Pln)(q:Rq):∀(l:List Hop)(n a:Int),Xbw p q n a l ↔ ∀x ∈ plcF p n a l,Xc2 p q x.node x.time x.hop
 | [],n,a=>by simp[Xbw,plcF]
 | h :: l,n,a=>by
   constructor
   ·rintro ⟨c,hc,h1,h2,h3,h4,h5,h6,h7⟩ x hx;rw[plcF,if_pos hc.1,hc.2,List.mem_cons] at hx;rcases hx with rfl | hx
    ·exact ⟨c,hc,h1,h2,h3,h4,h5,h6⟩
    ·exact (Xda p q l c.dst h.arr).1 h7 x hx
   ·intro hx;obtain ⟨c,hc,h1,h2,h3,h4,h5,h6⟩:=hx ⟨n,a,h⟩ (by rw[plcF]; exact List.mem_cons_self ..)
    exact ⟨c,hc,h1,h2,h3,h4,h5,h6,(Xda p q l c.dst h.arr).2 fun x hm=>hx x (by rw[plcF,if_pos hc.1,hc.2]; exact List.mem_cons_of_mem _ hm)⟩
theorem Xis {p:Pln}{h:Hop}:∀ {l:List Hop}{m:Nat}{n a:Int},l[m]? = some h→l.length=m+1→Xc7 p n a l=((p.c[h.ct.toNat]?.map Ct.dst).getD 0,h.arr)
 | [],m,n,a,h1,h2=>by simp at h2
 | x :: l,0,n,a,h1,h2=>by
   have:l = []:=List.eq_nil_of_length_eq_zero (by simpa using h2)
   subst this;simp at h1;subst h1
   rfl
 | x :: l,m+1,n,a,h1,h2=>by
   rw[Xc7];exact Xis (by simpa using h1) (by simpa using h2)
theorem Xaj {W W':World}(h:Below W.heap.size W W'):KeepsOthers W W' :=
 ⟨h.size,fun k o hk _=>(h.block k (Array.getElem?_eq_some_iff.1 hk).1).trans hk⟩
theorem Xhb {F:Fence}{n:Nat}{P:Program}{fn:Func}{R:Ending→World→Prop}{a:Act}{w:World}{v:Value}(hr:(results fn a.tmps).run P w = .ok v w)(hd:a.defers = [])(hR:R (.returned v) w):bodyPostM F n P fn R .ret a w:=by
 show LeavesInM F n P fn a.tmps R a.defers .returning w;rw[hd];exact ⟨v,hr,hR⟩
theorem Xef {F:Fence}{n:Nat}{P:Program}{fn:Func}{R:Ending→World→Prop}{a:Act}{w w':World}{v:Value}{D:Nat}(hd:a.defers = [{ target:=.collected D,args := #[] }])(hD:(Instr.takeDeferred D).run P w = .ok [] w')(hr:(results fn a.tmps).run P w' = .ok v w')(hR:R (.returned v) w'):bodyPostM F n P fn R .ret a w:=by
 show LeavesInM F n P fn a.tmps R a.defers .returning w;rw[hd];exact ⟨by simp,.inl ⟨_,_,rfl,hD,v,hr,hR⟩⟩
theorem Bk.putObj {w:World}{g D:Nat}{t:TypeId}{cs:Array Value}{o:Obj}(h:Bk w g t cs)(hD:g ≠ D):Bk (w.putObj D o) g t cs:=(World.putObj_heap_other hD).trans h
theorem Xeb {w W:World}{n D:Nat}{o:Obj}(h:Below n w W)(hD:n≤D):Below n w (W.putObj D o):=h.trans ⟨rfl,rfl,rfl,by simp,fun k hk=>World.putObj_heap_other (by omega)⟩
theorem Xic {p:Pln}{q:Rq}:∀ {l:List Hop}{n a:Int},Xbw p q n a l → ∀h ∈ l,∃c,0≤h.ct∧p.c[h.ct.toNat]? = some c
 | [],_,_,_,h,hm=>by simp at hm
 | x :: l,n,a,⟨c,hc,_,_,_,_,_,_,hw⟩,h,hm=>by
   rcases List.mem_cons.1 hm with rfl | e
   ·exact ⟨c,hc⟩
   ·exact Xic hw h e
theorem Xk1 {β:Type}{B g:Nat}{t:TypeId}{cs:Array Value}(h:g ≠ B):Xfu B (fun (_:β) W=>Bk W g t cs):=fun _ _ _ _ hb=>hb.other h _
theorem Xmy {β:Type}{B n:Nat}{w:World}(h:n≤B):Xfu B (fun (_:β) W=>Below n w W):=fun _ _ _ _ hb=>hb.setCell h _
theorem Xfu.and {β:Type}{B:Nat}{I J:β → World→Prop}(h:Xfu B I)(h':Xfu B J):Xfu B (fun s W=>I s W∧J s W):=fun s W o v hb=>⟨h s W o v hb.1,h' s W o v hb.2⟩
theorem Xoy {β:Type}(B:Nat)(p:β → Prop):Xfu B (fun s (_:World)=>p s):=fun _ _ _ _ h=>h
def Xg8 (p:Pln)(q:Rq)(l:List Hop):Prop:=RqOK p q∧l ≠ [] ∧ l.length≤1000∧Xbw p q q.src q.ready l∧(Xc7 p q.src q.ready l).1 ≠ q.dst
def Xr6 (p:Pln)(q:Rq)(l:List Hop)(w:World)(e:Ending)(w':World):Prop:=∃r:Int,e = .returned (.int .i64 r)∧(r=0↔Xax p q l)∧(r=18↔Xg8 p q l)∧Below w.heap.size w w'
theorem Xfb {p:Pln}{q:Rq}{l:List Hop}{w w':World}{r:Int}(hr:r ≠ 0)(hr':r ≠ 18)(h:¬ Xax p q l)(h':¬ Xg8 p q l)(hb:Below w.heap.size w w'):Xr6 p q l w (.returned (.int .i64 r)) w':=⟨r,rfl,⟨fun c=>absurd c hr,fun c=>absurd c h⟩,⟨fun c=>absurd c hr',fun c=>absurd c h'⟩,hb⟩
theorem Xkw (Aq:Option Addr)(cq:Nat)(Ac:Option Addr)(cc:Nat)(p:Pln)(q:Rq)(A:Option Addr)(cA:Nat)(l:List Hop)(w:World)(hp:Xas w Aq cq Ac cc p)(hl:SlAt hpE w A l)(hlm:l.length≤maxLen) :
  Calls Tryz.prog 34 #[.agg (plA Aq cq Ac cc p),.agg (rqA q),.slice A l.length cA] w (Xr6 p q l w):=by
 have HP:=Lib.hid hp;have HL:=Lib.hid hl;have HRQ:=Lib.hid (fun w hp=>Xc5 Aq cq Ac cc p q w hp);clear hp hl;refine (callsIn_wide (n:=8)).1 ?_;refine callsIn_of_wp_marks Tryz.func34 rfl trivial ?_ rfl;simp only[Tryz.ntmps34,List.size_toArray,List.length_cons,List.length_nil,Nat.reduceAdd,Nat.reduceSub,Array.replicate_succ,Array.replicate_zero,List.push_toArray,List.append_toArray,List.nil_append,List.cons_append]
 gi_wp2_with fail
 obtain ⟨_,_,rfl,rfl,-,HB0,HK0,HK1, -⟩:=box3 w 25 (plA Aq cq Ac cc p) 31 (rqA q) 34 #[.int .i64 0];have HK2:Hid (Bk (((w.alloc (.cells (plA Aq cq Ac cc p) 25)).alloc (.cells (rqA q) 31)).alloc (.cells #[.int .i64 0] 34)) (w.heap.size+2) 34 #[.int .i64 0]):=by
  have h:=Bk.new ((w.alloc (.cells (plA Aq cq Ac cc p) 25)).alloc (.cells (rqA q) 31)) 34 #[.int .i64 0]
  rwa [World.size_alloc,World.size_alloc] at h
 have HHS:Hid ((((w.alloc (.cells (plA Aq cq Ac cc p) 25)).alloc (.cells (rqA q) 31)).alloc (.cells #[.int .i64 0] 34)).heap.size=w.heap.size+3):=by show _=_; simp
 generalize ((w.alloc (.cells (plA Aq cq Ac cc p) 25)).alloc (.cells (rqA q) 31)).alloc (.cells #[.int .i64 0] 34)=W0 at HB0 HK0 HK1 HK2 HHS ⊢;generalize hg0:w.heap.size=g0 at HB0 HK0 HK1 HK2 HHS ⊢;refine ⟨trivial,?_⟩;refine (callsIn_wide.2 (HRQ.out W0 (HP.out.below (by rw[hg0]; exact HB0.out)))).mono ?_
 rintro e w1 ⟨q1,rfl,hq1,hb1⟩;have HBX:=Lib.hid hb1;have HB1:Hid (Below g0 w w1):=HB0.out.trans (hb1.mono (by rw[←hg0]; exact HB0.out.size))
 have HKA:=Lib.hid (HK0.out.below hb1 HK0.out.lt);have HKB:=Lib.hid (HK1.out.below hb1 HK1.out.lt);have HKC:=Lib.hid (HK2.out.below hb1 HK2.out.lt);have HHS1:Hid (g0+3≤w1.heap.size):=by have h1:=hb1.size; have h2:=HHS.out; show _≤_; omega
 clear hb1 HB0 HK0 HK1 HK2 HHS HBX HRQ
 by_cases hrq:RqOK p q
 ·obtain rfl:q1=0:=hq1.2 hrq;clear hq1;have HRQ:=Lib.hid hrq;clear hrq
  by_cases h0:l = []
  ·subst h0;have HN:Hid (¬ Xax p q []):=fun h=>h.2.1 rfl;have HN2:Hid (¬ Xg8 p q []):=fun h=>h.2.1 rfl;have f0:=HKC.out.free 0;have f1:=HKC.out.n0
   gi_wp2
   have HF:=HKC.out.put 0 (.int .i64 20);have HBF:Below w.heap.size w (w1.setCell ⟨g0+2,0,none⟩ (.int .i64 20)):=by rw[hg0]; exact HB1.out.setCell (p:=⟨g0+2,0,none⟩) (by show g0≤g0+2; omega) _
   have hc0:=HF.cell 0;simp only[List.getElem?_toArray,List.getElem?_cons_zero,List.setIfInBounds_toArray,List.set_cons_zero] at hc0;exact Xhb (v:=.int .i64 20) (by simp[results,Tryz.results34,go_sem,hc0]) rfl (Xfb (by decide) (by decide) HN.out HN2.out HBF)
  ·by_cases h1:1000<l.length
   ·have HN:Hid (¬ Xax p q l):=fun h=>by have:=h.2.2.1; omega
    have HN2:Hid (¬ Xg8 p q l):=fun h=>by have:=h.2.2.1; omega
    have f0:=HKC.out.free 0;have f1:=HKC.out.n0
    gi_wp2
    have HF:=HKC.out.put 0 (.int .i64 4);have HBF:Below w.heap.size w (w1.setCell ⟨g0+2,0,none⟩ (.int .i64 4)):=by rw[hg0]; exact HB1.out.setCell (p:=⟨g0+2,0,none⟩) (by show g0≤g0+2; omega) _
    have hc0:=HF.cell 0;simp only[List.getElem?_toArray,List.getElem?_cons_zero,List.setIfInBounds_toArray,List.set_cons_zero] at hc0;exact Xhb (v:=.int .i64 4) (by simp[results,Tryz.results34,go_sem,hc0]) rfl (Xfb (by decide) (by decide) HN.out HN2.out HBF)
   ·have h2:0<l.length:=List.length_pos_iff.2 h0;have h3:(l.length:Int)≤1000:=by omega
    have h4:(0:Int)<l.length:=by omega
    have h5:((l.length:Int) == 0)=false:=by simp; omega
    have h6:¬ (1000:Int)<l.length:=by omega
    obtain ⟨a0,a1⟩:=HKA.out.c2;obtain ⟨b0,b1,b2,b3,b4,b5,b6⟩:=HKB.out.c7
    gi_wp2_with fail
    refine ⟨trivial,?_⟩;refine (Xpy _ Aq cq Ac cc p q A cA l w1).mono ?_;rintro e w2 ⟨rfl,rfl⟩;clear a0 a1 b0 b1 b2 b3 b4 b5 b6 h5;obtain ⟨hbP,hbQ,hbL,hbB,hbS⟩:=Xri w1 Aq cq Ac cc p q A cA l;have HWA:=Lib.hid (HKA.out.below hbB HKA.out.lt);have HWB:=Lib.hid (HKB.out.below hbB HKB.out.lt);have HWC:=Lib.hid (HKC.out.below hbB HKC.out.lt);have HBP:Hid (Below g0 w (plcW w1 Aq cq Ac cc p q A cA l)):=HB1.out.trans (hbB.mono (by have:=HHS1.out; omega))
    have HHW:Hid (g0+3≤w1.heap.size∧(plcW w1 Aq cq Ac cc p q A cA l).heap.size=w1.heap.size+3):=⟨HHS1.out,hbS⟩;generalize plcW w1 Aq cq Ac cc p q A cA l=wP at hbP hbQ hbL hbB hbS HWA HWB HWC HBP HHW ⊢
    gi_wp2_with fail
    refine Xdm rfl (by omega) (gf:=144) (lb := #[.pointer (some ⟨w1.heap.size+1,0,none⟩),.pointer (some ⟨w1.heap.size+2,0,none⟩),.pointer (some ⟨w1.heap.size,0,none⟩)]) rfl trivial (enters_of Tryz.func144 (by kernel_rfl) rfl)
     (Xl4 _ (by omega) g0 (w1.heap.size+1) (w1.heap.size+2) w1.heap.size A cA l Aq cq Ac cc p q wP (by have:=HHW.out; omega) hbQ hbL hbP (fun W' hb=>HP.out.below (by rw[hg0]; exact HBP.out.trans hb)) (fun W' hb=>HL.out.below (by rw[hg0]; exact HBP.out.trans hb)) (by omega)) KpT.trans (Xru (by have:=HHW.out; omega)) (Below.refl _ _) (fun _=>rfl)
     (fun pre W=>(Bk W g0 25 (plA Aq cq Ac cc p)∧Bk W (g0+1) 31 (rqA q)∧Bk W (g0+2) 34 #[.int .i64 0])∧Below g0 w W ∧ ∀x ∈ pre,Xc2 p q x.node x.time x.hop)
     (fun pre W => ∃e:Int,(e ≠ 0∧e ≠ 18)∧Bk W (g0+2) 34 #[.int .i64 e] ∧ Below g0 w W ∧ ¬ ∀x ∈ pre,Xc2 p q x.node x.time x.hop)
     (fun pre x b W=>((Bk W g0 25 (plA Aq cq Ac cc p)∧Bk W (g0+1) 31 (rqA q)∧Bk W (g0+2) 34 #[.int .i64 0])∧Below g0 w W ∧ ∀x ∈ pre,Xc2 p q x.node x.time x.hop)∧Bk W b 158 #[.int .i64 x.node,.int .i64 x.time] ∧ Bk W (b+1) 41 #[.int .i64 x.hop.ct,.int .i64 x.hop.beg,.int .i64 x.hop.fin,.int .i64 x.hop.arr] ∧ g0+3≤b)
     (OwnFrom.and (OwnFrom.and (Xa9 _ _ _ _) (OwnFrom.and (Xa9 _ _ _ _) (Xa9 _ _ _ _))) (OwnFrom.and (ownFrom_below (by omega) (by have:=HHW.out; omega)) (ownFrom_pure _ _)))
     ?ox ?o1
     (Xfu.and (Xfu.and (Xk1 (by have:=HHW.out; omega)) (Xfu.and (Xk1 (by have:=HHW.out; omega)) (Xk1 (by have:=HHW.out; omega)))) (Xfu.and (Xmy (by have:=HHW.out; omega)) (Xoy _ _)))
     ⟨⟨HWA.out,HWB.out,HWC.out⟩,HBP.out,by simp⟩ ?a1 ?assign ?body ?done ?stop
    case assign =>
     rintro l' pre x W ⟨⟨k1,k2,k3⟩,kb,kp⟩ _ _ hpl;have HB1:Hid (Bk ((W.alloc (.cells #[.int .i64 x.node,.int .i64 x.time] 158)).alloc (.cells #[.int .i64 x.hop.ct,.int .i64 x.hop.beg,.int .i64 x.hop.fin,.int .i64 x.hop.arr] 41)) W.heap.size 158 #[.int .i64 x.node,.int .i64 x.time]):=(Bk.new _ _ _).alloc _;have HB2:Hid (Bk ((W.alloc (.cells #[.int .i64 x.node,.int .i64 x.time] 158)).alloc (.cells #[.int .i64 x.hop.ct,.int .i64 x.hop.beg,.int .i64 x.hop.fin,.int .i64 x.hop.arr] 41)) (W.heap.size+1) 41 #[.int .i64 x.hop.ct,.int .i64 x.hop.beg,.int .i64 x.hop.fin,.int .i64 x.hop.arr]):=by
      have h:=Bk.new (W.alloc (.cells #[.int .i64 x.node,.int .i64 x.time] 158)) 41 #[.int .i64 x.hop.ct,.int .i64 x.hop.beg,.int .i64 x.hop.fin,.int .i64 x.hop.arr]
      rwa [World.size_alloc] at h
     have hsz:=kb.size;have hlt:=k3.lt;have HBB:Hid (Below W.heap.size W ((W.alloc (.cells #[.int .i64 x.node,.int .i64 x.time] 158)).alloc (.cells #[.int .i64 x.hop.ct,.int .i64 x.hop.beg,.int .i64 x.hop.fin,.int .i64 x.hop.arr] 41))):=((Below.refl _ _).alloc (Nat.le_refl _) _).alloc (by simp) _
     gi_wp2
     generalize (W.alloc (.cells #[.int .i64 x.node,.int .i64 x.time] 158)).alloc (.cells #[.int .i64 x.hop.ct,.int .i64 x.hop.beg,.int .i64 x.hop.fin,.int .i64 x.hop.arr] 41)=W2 at HB1 HB2 HBB ⊢;refine ⟨Xaj HBB.out,KpT.of_below HBB.out (by omega),?_⟩
     have j1:=k1.below HBB.out k1.lt;have j2:=k2.below HBB.out k2.lt;have j3:=k3.below HBB.out k3.lt;have jb:=kb.trans (HBB.out.mono (show g0≤W.heap.size by omega))
     have HJ:=Lib.hid (⟨⟨⟨j1,j2,j3⟩,jb,kp⟩,HB1.out,HB2.out,by omega⟩:((Bk W2 g0 25 (plA Aq cq Ac cc p)∧Bk W2 (g0+1) 31 (rqA q)∧Bk W2 (g0+2) 34 #[.int .i64 0])∧Below g0 w W2 ∧ ∀x ∈ pre,Xc2 p q x.node x.time x.hop)∧Bk W2 W.heap.size 158 #[.int .i64 x.node,.int .i64 x.time] ∧ Bk W2 (W.heap.size+1) 41 #[.int .i64 x.hop.ct,.int .i64 x.hop.beg,.int .i64 x.hop.fin,.int .i64 x.hop.arr] ∧ g0+3≤W.heap.size)
     clear HB1 HB2 HBB j1 j2 j3 jb hlt hsz k1 k2 k3 kb;generalize W.heap.size=b at HJ ⊢;refine ⟨b,?_,HJ.out⟩
     rfl
    case ox =>
     rintro pre W W' row ⟨e,he,k1,k2,k3⟩ hg hr;exact ⟨e,he,Xa9 (β:=Unit) _ _ _ _ () _ _ row k1 hg hr,ownFrom_below (β:=Unit) (by omega) (by have:=HHW.out; omega) () _ _ row k2 hg hr,k3⟩
    case o1 =>
     rintro s W W' row ⟨⟨⟨k1,k2,k3⟩,k4,k5⟩,k6,k7,k8⟩ hg hr;exact ⟨⟨⟨Xa9 (β:=Unit) _ _ _ _ () _ _ row k1 hg hr,Xa9 (β:=Unit) _ _ _ _ () _ _ row k2 hg hr,Xa9 (β:=Unit) _ _ _ _ () _ _ row k3 hg hr⟩,ownFrom_below (β:=Unit) (by omega) (by have:=HHW.out; omega) () _ _ row k4 hg hr,k5⟩,Xa9 (β:=Unit) _ _ _ _ () _ _ row k6 hg hr,Xa9 (β:=Unit) _ _ _ _ () _ _ row k7 hg hr,k8⟩
    case body =>
     rintro l' pre x b W ⟨⟨⟨k1,k2,k3⟩,k4,k5⟩,k6,k7,k8⟩ _ _ hpl;have HK3:=Lib.hid k3;have HK4:=Lib.hid k4;have HK5:=Lib.hid k5;have HK1:=Lib.hid k1;have HK2:=Lib.hid k2;have HPW:Hid (Xas W Aq cq Ac cc p):=HP.out.below (by rw[hg0]; exact k4)
     have hW3:=k3.lt;obtain ⟨a0,a1⟩:=k1.c2;obtain ⟨b0,b1,b2,b3,b4,b5,b6⟩:=k2.c7;have d0:=k6.c2;have e0:=k7.c4;clear k1 k2 k3 k4 k5 k6 k7 hpl
     gi_wp2_with fail
     clear a0 a1 b0 b1 b2 b3 b4 b5 b6 d0 e0;refine ⟨trivial,?_⟩;refine (callsIn_wide.2 (Xk Aq cq Ac cc p q x.node x.time x.hop W HPW.out HRQ.out)).mono ?_;rintro e w5 ⟨q5,rfl,hq5,hq18,hb5⟩;have m1:=HK1.out.below hb5 HK1.out.lt;have m2:=HK2.out.below hb5 HK2.out.lt;have m3:=HK3.out.below hb5 HK3.out.lt;have m4:=HK4.out.trans (hb5.mono (show g0≤W.heap.size by omega))
     by_cases hz:q5=0
     ·subst hz;have HS:=hq5.1 rfl;have HX:=Lib.hid (⟨Xaj hb5,KpT.of_below hb5 (by omega),⟨m1,m2,m3⟩,m4,fun y hy=>by
       rcases List.mem_append.1 hy with h | h
       ·exact HK5.out y h
       ·rw[List.mem_singleton.1 h]; exact HS⟩:KeepsOthers W w5∧KpT g0 W w5∧(Bk w5 g0 25 (plA Aq cq Ac cc p)∧Bk w5 (g0+1) 31 (rqA q)∧Bk w5 (g0+2) 34 #[.int .i64 0])∧Below g0 w w5 ∧ ∀y ∈ pre ++ [x],Xc2 p q y.node y.time y.hop)
      clear hb5 m1 m2 m3 m4 hq5 hq18 HS HK1 HK2 HK3 HK4 HK5
      gi_wp2
      exact HX.out
     ·have HN:Hid (¬ ∀y ∈ pre ++ [x],Xc2 p q y.node y.time y.hop):=fun h=>hz (hq5.2 (h x (by simp)))
      have hz1:(q5 == 0)=false:=by simpa using hz
      have hz2:(q5 != 0)=true:=by simpa using hz
      have HZ:Hid (q5 ≠ 0∧q5 ≠ 18):=⟨hz,hq18⟩;have f0:=m3.free 0;have f1:=m3.n0;have HM3:Hid (Bk (w5.setCell ⟨g0+2,0,none⟩ (.int .i64 q5)) (g0+2) 34 #[.int .i64 q5]):=m3.put 0 _;have HM4:Hid (Below g0 w (w5.setCell ⟨g0+2,0,none⟩ (.int .i64 q5))):=m4.setCell (p:=⟨g0+2,0,none⟩) (by show g0≤g0+2; omega) _
      have HKO:Hid (KeepsOthers W (w5.setCell ⟨g0+2,0,none⟩ (.int .i64 q5))):=(Xaj hb5).trans (KeepsOthers.setCell _ _ _);clear hb5 m1 m2 m3 m4 hq5 hq18 hz HK1 HK2 HK3 HK4 HK5
      gi_wp2
      exact ⟨HKO.out,rfl,q5,HZ.out,HM3.out,HM4.out,HN.out⟩
    case done =>
     rintro D xs W hD rfl ⟨⟨k1,k2,k3⟩,k4,k5⟩ hK;have HWY:Hid (Xbw p q q.src q.ready l):=(Xda p q l _ _).2 k5;obtain ⟨m,hm⟩:∃m,l.length=m+1:=⟨l.length - 1,by omega⟩
     obtain ⟨h,hlast⟩:∃h,l[m]? = some h:=⟨_,List.getElem?_eq_getElem (by omega)⟩
     obtain ⟨c,hc0,hc⟩:=Xic HWY.out h (List.mem_of_getElem? hlast);obtain ⟨i,hi⟩:∃i:Nat,h.ct=(i:Int):=⟨h.ct.toNat,by omega⟩
     rw[hi,Int.toNat_natCast] at hc;have HEA:Hid (Xc7 p q.src q.ready l=(c.dst,h.arr)):=by
      show _=_;rw[Xis hlast hm,hi,Int.toNat_natCast,hc]
      rfl
     have hil:i<p.c.length:=(List.getElem?_eq_some_iff.1 hc).1;have HDD:=Lib.hid hK;have hDg:g0+3≤D:=by have:=HHW.out; omega
     have HDG:=Lib.hid hDg;have HIFF:Hid (Xax p q l↔c.dst=q.dst∧h.arr≤q.dead):=by
      show _↔_;unfold Xax;rw[HEA.out];exact ⟨fun h=>h.2.2.2.2,fun h=>⟨HRQ.out,h0,by omega,HWY.out,h⟩⟩
     have HIFW:Hid (Xg8 p q l↔c.dst ≠ q.dst):=by
      show _↔_;unfold Xg8;rw[HEA.out];exact ⟨fun h=>h.2.2.2.2,fun h=>⟨HRQ.out,h0,by omega,HWY.out,h⟩⟩
     have hcm:=HP.out.cm;unfold maxLen at hcm;obtain ⟨bc,oc,rfl,hrc⟩:=(HP.out.below (by rw[hg0]; exact k4)).c.one (by omega)
     obtain ⟨bh,oh,rfl,hrh⟩:=(HL.out.below (show Below w.heap.size w W by rw[hg0]; exact k4)).one (by omega)
     have hrc1:W.cell? ⟨bc,oc+i * 7+1,none⟩=some (.int .i64 c.dst):=hrc i c hc 1 _ rfl;have hrg:W.rangeAt bh (oh+m * 4) (hpE.f h):=hrh m h hlast;have c0:=Tp.rgHp hrg;have hw:IntKind.i64.wrap ((l.length:Int) - 1)=(m:Int):=by
      rw[show (l.length:Int) - 1=(m:Int) by omega]
      exact IntWalk.i64_in _ (by omega)
     have hw2:(l.length:Int) - 1=(m:Int):=by omega
     have hm0:(0:Int)≤(m:Int):=by omega
     have hm1:(m:Int)<(l.length:Int):=by omega
     have hi0:(0:Int)≤(i:Int):=by omega
     have hi1:(i:Int)<(p.c.length:Int):=by omega
     obtain ⟨hct,hbeg,hfin,harr⟩:=h;simp only at hi HIFF;subst hi;have a1:=k1.n1;have b1:=k2.n1;have b4:=k2.n4;have HW1:=Lib.hid k1;have HW2:=Lib.hid k2;have HW3:=Lib.hid k3;have HW4:=Lib.hid k4;have HLT:=Lib.hid k3.lt;clear hlast hc hc0 hrc hrh hrg k1 k2 k3 k4 k5 HWY HEA hK hbP hbQ hbL hbB HWA HWB HWC HBP hm hDg hD
     gi_wp2_with fail
     obtain ⟨_,_,rfl,rfl,-,HA,HN4⟩:=box1 W 41 #[.int .i64 i,.int .i64 hbeg,.int .i64 hfin,.int .i64 harr];have hblk:bc<W.heap.size:=World.block_lt_of_cell? _ _ hrc1;have HC1:(W.alloc (.cells #[.int .i64 i,.int .i64 hbeg,.int .i64 hfin,.int .i64 harr] 41)).cell? ⟨bc,oc+i * 7+1,none⟩=some (.int .i64 c.dst):=(HA.out.cell (p:=⟨bc,_,none⟩) hblk).trans hrc1;have HV1:=Lib.hid (HW1.out.below HA.out HW1.out.lt);have HV2:=Lib.hid (HW2.out.below HA.out HW2.out.lt);have HV3:=Lib.hid (HW3.out.below HA.out HW3.out.lt);have HV4:Hid (Below g0 w (W.alloc (.cells #[.int .i64 i,.int .i64 hbeg,.int .i64 hfin,.int .i64 harr] 41))):=HW4.out.trans (HA.out.mono (by have:=HLT.out; omega))
     have HVD:Hid ((W.alloc (.cells #[.int .i64 i,.int .i64 hbeg,.int .i64 hfin,.int .i64 harr] 41)).heap[D]? = some (.deferred (some []))):=(HA.out.block D (Array.getElem?_eq_some_iff.1 HDD.out).1).trans HDD.out;clear a1 b1 b4 c0 hrc1 hblk;generalize W.alloc (.cells #[.int .i64 i,.int .i64 hbeg,.int .i64 hfin,.int .i64 harr] 41)=V at HN4 HC1 HV1 HV2 HV3 HV4 HVD HA ⊢;have a1:=HV1.out.n1;have b1:=HV2.out.n1;have b4:=HV2.out.n4;have n0:=HN4.out.n0;have n3:=HN4.out.n3;have f0:=HV3.out.free 0;have f1:=HV3.out.n0;have HDG2:Hid (g0+2 ≠ D∧g0≤D):=by have:=HDG.out; exact ⟨by omega,by omega⟩
     have FIN:Hid (∀(x:Int),(x=0↔Xax p q l)→(x=18↔Xg8 p q l)→(V.setCell ⟨g0+2,0,none⟩ (.int .i64 x)).drew.heap[D]? = some (.deferred (some []))∧Bk ((V.setCell ⟨g0+2,0,none⟩ (.int .i64 x)).drew.putObj D (.deferred none)) (g0+2) 34 #[.int .i64 x] ∧ Xr6 p q l w (.returned (.int .i64 x)) ((V.setCell ⟨g0+2,0,none⟩ (.int .i64 x)).drew.putObj D (.deferred none))):=fun x h4 h4w=>by
      have h1:Bk (V.setCell ⟨g0+2,0,none⟩ (.int .i64 x)).drew (g0+2) 34 #[.int .i64 x]:=HV3.out.put 0 _;have h2:Below g0 w (V.setCell ⟨g0+2,0,none⟩ (.int .i64 x)).drew:=(HV4.out.setCell (p:=⟨g0+2,0,none⟩) (by show g0≤g0+2; omega) _).drew
      exact ⟨(Below.heap_setCell V ⟨g0+2,0,none⟩ _ _ (fun e=>HDG2.out.1 e.symm)).trans HVD.out,Bk.putObj h1 HDG2.out.1,x,rfl,h4,h4w,by rw[hg0]; exact Xeb h2 HDG2.out.2⟩
     by_cases hd:c.dst=q.dst
     ·have x1:(c.dst == q.dst)=true:=by simpa using hd
      have x2:(c.dst != q.dst)=false:=by simpa using hd
      have HD1:=Lib.hid hd;clear hd HW1 HW2 HW3 HW4 HA
      gi_region
      by_cases ha:q.dead<harr
      ·have HI:Hid ((16:Int)=0↔Xax p q l):=⟨fun h=>by omega,fun h=>absurd (HIFF.out.1 h).2 (by omega)⟩
       gi_wp2
       obtain ⟨z1,z2,z3⟩:=FIN.out 16 HI.out ⟨fun h=>by omega,fun h=>absurd HD1.out (HIFW.out.1 h)⟩
       have hc0:=z2.cell 0;simp only[List.getElem?_toArray,List.getElem?_cons_zero] at hc0;exact Xef rfl (run_takeDeferred z1) (by simp[results,Tryz.results34,go_sem,hc0]) z3
      ·have HI:Hid ((0:Int)=0↔Xax p q l):=⟨fun _=>HIFF.out.2 ⟨HD1.out,by omega⟩,fun _=>rfl⟩
       gi_wp2
       obtain ⟨z1,z2,z3⟩:=FIN.out 0 (by simpa using HI.out) ⟨fun h=>by omega,fun h=>absurd HD1.out (HIFW.out.1 h)⟩
       have hc0:=z2.cell 0;simp only[List.getElem?_toArray,List.getElem?_cons_zero] at hc0;exact Xef rfl (run_takeDeferred z1) (by simp[results,Tryz.results34,go_sem,hc0]) z3
     ·have x1:(c.dst == q.dst)=false:=by simpa using hd
      have x2:(c.dst != q.dst)=true:=by simpa using hd
      have HI:Hid ((18:Int)=0↔Xax p q l):=⟨fun h=>by omega,fun h=>absurd (HIFF.out.1 h).1 hd⟩
      have HI2:Hid ((18:Int)=18↔Xg8 p q l):=⟨fun _=>HIFW.out.2 hd,fun _=>rfl⟩;clear hd HW1 HW2 HW3 HW4 HA
      gi_region
      gi_wp2
      obtain ⟨z1,z2,z3⟩:=FIN.out 18 HI.out (by simpa using HI2.out)
      have hc0:=z2.cell 0;simp only[List.getElem?_toArray,List.getElem?_cons_zero] at hc0;exact Xef rfl (run_takeDeferred z1) (by simp[results,Tryz.results34,go_sem,hc0]) z3
    case stop =>
     rintro D pre W hD hpre ⟨e,he,k3,k4,k5⟩ hK;have HN:Hid (¬ Xax p q l):=fun h=>k5 fun x hx=>(Xda p q l _ _).1 h.2.2.2.1 x (hpre.subset hx);have HN2:Hid (¬ Xg8 p q l):=fun h=>k5 fun x hx=>(Xda p q l _ _).1 h.2.2.2.1 x (hpre.subset hx);have HF:Bk (W.putObj D (.deferred none)) (g0+2) 34 #[.int .i64 e]:=Bk.putObj k3 (by have:=HHW.out; omega)
     have HB:Below w.heap.size w (W.putObj D (.deferred none)):=by rw[hg0]; exact Xeb k4 (by have:=HHW.out; omega)
     have hc0:=HF.cell 0;simp only[List.getElem?_toArray,List.getElem?_cons_zero] at hc0
     gi_wp2
     exact Xef rfl (run_takeDeferred hK) (by simp[results,Tryz.results34,go_sem,hc0]) (Xfb he.1 he.2 HN.out HN2.out HB)
 ·have HQ1:q1 ≠ 0:=fun e=>hrq (hq1.1 e);have HN:Hid (¬ Xax p q l):=fun h=>hrq h.1;have HN2:Hid (¬ Xg8 p q l):=fun h=>hrq h.1;have hb:(q1 == 0)=false:=by simpa using HQ1
  have hb2:(q1 != 0)=true:=by simpa using HQ1
  have f0:=HKC.out.free 0;have f1:=HKC.out.n0;clear hq1 hrq
  gi_wp2
  have HF:=HKC.out.put 0 (.int .i64 1);have HBF:Below w.heap.size w (w1.setCell ⟨g0+2,0,none⟩ (.int .i64 1)):=by rw[hg0]; exact HB1.out.setCell (p:=⟨g0+2,0,none⟩) (by show g0≤g0+2; omega) _
  have hc0:=HF.cell 0;simp only[List.getElem?_toArray,List.getElem?_cons_zero,List.setIfInBounds_toArray,List.set_cons_zero] at hc0;exact Xhb (v:=.int .i64 1) (by simp[results,Tryz.results34,go_sem,hc0]) rfl (Xfb (by decide) (by decide) HN.out HN2.out HBF)
end Go.Proofs.YtebkgbmijocdjaaGreat.Tp
