/- A part of the proof for the ledger. No condition beyond those that each theorem states. -/
import Derived.Test.YtebkgbmijocdjaaGreatZ15
set_option maxHeartbeats 32000000
set_option maxRecDepth 100000
set_option linter.unusedVariables false
set_option linter.unusedSimpArgs false
namespace Go.Proofs.YtebkgbmijocdjaaGreat.Tp
open Go Go.RowKit
def Xny (G2 base:Nat)(v:Value)(M:List Hld)(N:List Hld)(w:World)(e:Ending)(w':World):Prop:=e = .returned (.tuple #[]) ∧ ∃v',Bk w' G2 27 #[v'] ∧ w'.ownsRow base 99 5 v' (M ++ N).length ((M ++ N).flatMap hdE.f)∧w.heap.size≤w'.heap.size∧(∀j,j<w.heap.size→j ≠ G2→v.ownBlock ≠ some j→w'.heap[j]? = w.heap[j]?) ∧ ∀b0,b0≤base→b0≤G2→Below b0 w w'
theorem Xfm (G1 G2 G3 G4 G5 base:Nat)(v:Value)(M:List Hld)(node frm til tk:Int)(q:Rq)(w:World)(h1:Bk w G1 3 #[.int .i64 frm])(h2:Bk w G2 27 #[v])(h3:Bk w G3 3 #[.int .i64 node])(h4:Bk w G4 31 (rqA q))(h5:Bk w G5 3 #[.int .i64 tk])
  (hr:w.ownsRow base 99 5 v M.length (M.flatMap hdE.f)) (hb:base≤w.heap.size) (hM:M.length≤100000) :
  Calls Tryz.prog 159 #[.int .i64 til,.pointer (some ⟨G1,0,none⟩),.pointer (some ⟨G2,0,none⟩),.pointer (some ⟨G3,0,none⟩),.pointer (some ⟨G4,0,none⟩),.pointer (some ⟨G5,0,none⟩)] w (Xny G2 base v M (Xc9 q tk node frm til) w):=by
 have a1:=h1.n0;have a2:w.cell? ⟨G2,0,none⟩=some v:=h2.cell 0;have a3:=h3.n0;have a4:=h4.n2;have a5:=h5.n0;have f2:=h2.free 0;have H2:=Lib.hid h2;have H3:=Lib.hid hr;obtain ⟨i0,hi0,hz0,hz1,hz2⟩:=info_parts Xsy;have HI:=Lib.hid (And.intro hi0 (And.intro hz0 (And.intro hz1 hz2)));clear h1 h2 h3 h4 h5 hr hi0 hz0 hz1 hz2
 by_cases hat:frm<til
 ·have HG:Hid (Xc9 q tk node frm til = [⟨node,frm,til,q.size,tk⟩]):=by show _=_; unfold Xc9; rw[if_pos hat]
  obtain ⟨hi0,hz0,hz1,hz2⟩:=HI.out;go_enter Tryz.func159,Tryz.ntmps159;go_wp2_with (at_builtin; refine wpList_append_own_at _ rfl _ _ 27 rfl base 99 i0 (.agg #[.int .i64 0,.int .i64 0,.int .i64 0,.int .i64 0,.int .i64 0]) 5 40 Tryz.underlying27 hi0 hz0 hz1 hz2 rfl (by decide) _ _ _ rfl (H3.out.alloc _) ⟨w.heap.size,0,none⟩ 1 1 [.int .i64 node,.int .i64 frm,.int .i64 til,.int .i64 q.size,.int .i64 tk] rfl rfl ?d1 ?d2 ?d3 ?d4 ?d5 ?_)
  case d1=>exact fun j u hu=>by rw[Addr.add_mid,Nat.zero_add]; exact Xcj _ [.int .i64 node,.int .i64 frm,.int .i64 til,.int .i64 q.size,.int .i64 tk] _ rfl j u hu
  case d2=>exact fun u hu=>hdE.one ⟨node,frm,til,q.size,tk⟩ u hu
  case d3=>unfold maxLen; omega
  case d4=>omega
  case d5=>simp; omega
  intro v' w4 hown' hg' _ _;have hown2:w4.ownsRow base 99 5 v' (M ++ Xc9 q tk node frm til).length ((M ++ Xc9 q tk node frm til).flatMap hdE.f):=by
   rw[HG.out,List.length_append,List.flatMap_append,show [(⟨node,frm,til,q.size,tk⟩:Hld)].flatMap hdE.f = [.int .i64 node,.int .i64 frm,.int .i64 til,.int .i64 q.size,.int .i64 tk] from rfl];exact hown'
  have hrb:∀j,v.ownBlock=some j→base≤j:=fun j hj=>(H3.out.lt j hj).1;have x1:Bk w4 G2 27 #[v]:=(H2.out.alloc _).grown hg' (Xa1 H2.out (by decide) H3.out)
  have x2:Bk (w4.setCell ⟨G2,0,none⟩ v') G2 27 #[v']:=x1.put 0 v';have x3:(w4.setCell ⟨G2,0,none⟩ v').ownsRow base 99 5 v' (M ++ Xc9 q tk node frm til).length ((M ++ Xc9 q tk node frm til).flatMap hdE.f):=hown2.kept (Xa0 w4 G2 0 v') (.inr (Xa1 x1 (by decide) hown2).symm)
  have x6:w.heap.size≤(w4.setCell ⟨G2,0,none⟩ v').heap.size:=by have:=hg'.size; simp[World.setCell] at this ⊢; omega
  have x7:∀j,j<w.heap.size→j ≠ G2→v.ownBlock ≠ some j→(w4.setCell ⟨G2,0,none⟩ v').heap[j]? = w.heap[j]? := by
   intro j hj hne hno;rw[Below.heap_setCell w4 ⟨G2,0,none⟩ v' j hne];rw[hg'.block j (by simp; omega) (fun e=>hno e.symm)]
   exact Below.heap_alloc w _ j hj
  have x8:∀b0,b0≤base→b0≤G2→Below b0 w (w4.setCell ⟨G2,0,none⟩ v'):=fun b0 h1 h2 =>
   (((Below.refl b0 w).alloc (by omega) _).grown hg' (by simp; omega) (fun j hj=>Nat.le_trans h1 (hrb j hj))).setCell (p:=⟨G2,0,none⟩) h2 v'
  obtain ⟨A4,k4,rfl,_,_⟩:=Xah (E:=hdE) hown2;have c2':w4.cell? ⟨G2,0,none⟩=some v:=x1.cell 0;have f2':=x1.free 0;have HX:=Lib.hid (And.intro x2 (And.intro x3 (And.intro x6 (And.intro x7 x8))));clear hown' hg' hown2 x1 x2 x3 x6 x7 x8 a1 a2 a3 a4 a5 f2 hi0 hz0 hz1 hz2 hrb;go_wp2;go_end0;refine ⟨rfl,.slice A4 (M ++ Xc9 q tk node frm til).length k4,?_⟩;have h:=HX.out;rw[List.length_append] at h ⊢;exact h
 ·have HG:Hid (Xc9 q tk node frm til = []):=by show _=_; unfold Xc9; rw[if_neg hat]
  go_enter Tryz.func159,Tryz.ntmps159;go_wp2;go_end0;refine ⟨rfl,v,H2.out,?_,Nat.le_refl _,fun _ _ _ _=>rfl,fun _ _ _=>Below.refl _ _⟩;rw[HG.out,List.append_nil];exact H3.out
def Xbc (p:Pln)(q:Rq)(tk:Int):Int→Int→List Hop→List Hld
 | _,_, [] => []
 | n,f,h :: l=>Xc9 q tk n f (Xav q.cust (ctD p h.ct) h) ++ Xbc p q tk (ctD p h.ct).dst h.beg l
def endN (p:Pln):Int→List Hop→Int
 | n, [] => n
 | _,h :: l=>endN p (ctD p h.ct).dst l
def endF:Int→List Hop→Int
 | f, [] => f
 | _,h :: l=>endF h.beg l
theorem Xhr (p:Pln)(h:Hop):∀(n:Int)(l:List Hop),endN p n (l ++ [h])=(ctD p h.ct).dst
 | _, [] => rfl
 | _,x :: l=>Xhr p h _ l
theorem Xhs (h:Hop):∀(f:Int)(l:List Hop),endF f (l ++ [h])=h.beg
 | _, [] => rfl
 | _,x :: l=>Xhs h _ l
theorem Xf0 (p:Pln)(q:Rq)(tk:Int)(h:Hop):∀(n f:Int)(l:List Hop),Xbc p q tk n f (l ++ [h])=Xbc p q tk n f l ++ Xc9 q tk (endN p n l) (endF f l) (Xav q.cust (ctD p h.ct) h)
 | n,f, [] => by simp[Xbc,endN,endF]
 | n,f,x :: l=>by
   rw[List.cons_append,Xbc,Xf0 p q tk h _ _ l,Xbc,endN,endF,List.append_assoc]
theorem Xlw (q:Rq)(tk n f t:Int):(Xc9 q tk n f t).length≤1:=by unfold Xc9; split <;> simp
theorem Xel (p:Pln)(q:Rq)(tk:Int):∀(n f:Int)(l:List Hop),(Xbc p q tk n f l).length≤l.length
 | _,_, [] => Nat.le_refl _
 | n,f,x :: l=>by
   have h1:=Xel p q tk (ctD p x.ct).dst x.beg l;have h2:=Xlw q tk n f (Xav q.cust (ctD p x.ct) x);rw[Xbc,List.length_append,List.length_cons];omega
theorem Xgr (p:Pln)(q:Rq)(tk til:Int):∀(n f:Int)(l:List Hop),Xck p q tk til n f l=Xbc p q tk n f l ++ (if endN p n l=q.dst then [] else Xc9 q tk (endN p n l) (endF f l) til)
 | n,f, [] => by rw[Xck,Xbc,endN,endF,List.nil_append]
 | n,f,x :: l=>by rw[Xck,Xgr p q tk til _ _ l,Xbc,endN,endF,List.append_assoc]
structure HoS (n0 gN gF base:Nat)(w:World)(Aq:Option Addr)(cq:Nat)(Ac:Option Addr)(cc:Nat)(p:Pln)(q:Rq)(tk node frm:Int)(v:Value)(M:List Hld)(W:World):Prop where
 be:Below n0 w W
 pl:Bk W n0 25 (plA Aq cq Ac cc p)
 rq:Bk W (n0+1) 31 (rqA q)
 tk:Bk W (n0+1+1) 3 #[.int .i64 tk]
 ou:Bk W (n0+1+1+1) 27 #[v]
 nd:Bk W gN 3 #[.int .i64 node]
 fr:Bk W gF 3 #[.int .i64 frm]
 ro:W.ownsRow base 99 5 v M.length (M.flatMap hdE.f)
 gs:n0+6≤base∧(n0+4≤gN∧gN<base)∧(n0+4≤gF∧gF<base)∧gN ≠ gF∧base≤W.heap.size
section
variable {n0 gN gF base:Nat} {w:World} {Aq:Option Addr} {cq:Nat} {Ac:Option Addr} {cc:Nat} {p:Pln} {q:Rq} {tk node frm:Int} {v:Value} {M:List Hld} {W:World}
theorem HoS.below {W':World}(h:HoS n0 gN gF base w Aq cq Ac cc p q tk node frm v M W)(hb:Below W.heap.size W W'):HoS n0 gN gF base w Aq cq Ac cc p q tk node frm v M W' :=
 ⟨h.be.trans (hb.mono (by have:=h.gs; omega)),h.pl.below hb h.pl.lt,h.rq.below hb h.rq.lt,h.tk.below hb h.tk.lt,h.ou.below hb h.ou.lt,h.nd.below hb h.nd.lt,h.fr.below hb h.fr.lt,Xa6 h.ro hb,by have h1:=h.gs; have h2:=hb.size; omega⟩
theorem HoS.ob {r:Nat}(h:HoS n0 gN gF base w Aq cq Ac cc p q tk node frm v M W)(hr:r<base):v.ownBlock ≠ some r:=fun e=>by have:=(h.ro.lt r e).1; omega
theorem Xcy {W W':World}{g:Nat}{t:TypeId}{cs:Array Value}(h:Bk W g t cs)(he:W'.heap[g]? = W.heap[g]?):Bk W' g t cs:=he.trans h
theorem HoS.add {W':World}{e:Ending}{N:List Hld}(h:HoS n0 gN gF base w Aq cq Ac cc p q tk node frm v M W)(hp:Xny (n0+1+1+1) base v M N W e W'):e = .returned (.tuple #[]) ∧ ∃v',HoS n0 gN gF base w Aq cq Ac cc p q tk node frm v' (M ++ N) W':=by
 obtain ⟨rfl,v',x1,x2,x3,x4,x5⟩:=hp;have hg:=h.gs;refine ⟨rfl,v',h.be.trans (x5 n0 (by omega) (by omega)),Xcy h.pl (x4 _ h.pl.lt (by omega) (h.ob (by omega))),Xcy h.rq (x4 _ h.rq.lt (by omega) (h.ob (by omega))),Xcy h.tk (x4 _ h.tk.lt (by omega) (h.ob (by omega))),x1,Xcy h.nd (x4 _ h.nd.lt (by omega) (h.ob (by omega))),Xcy h.fr (x4 _ h.fr.lt (by omega) (h.ob (by omega))),x2,by omega⟩
theorem HoS.put (h:HoS n0 gN gF base w Aq cq Ac cc p q tk node frm v M W)(a b:Int):HoS n0 gN gF base w Aq cq Ac cc p q tk a b v M ((W.setCell ⟨gN,0,none⟩ (.int .i64 a)).setCell ⟨gF,0,none⟩ (.int .i64 b)).drew:=by
 have hg:=h.gs;have e:∀j,j ≠ gN→j ≠ gF→((W.setCell ⟨gN,0,none⟩ (.int .i64 a)).setCell ⟨gF,0,none⟩ (.int .i64 b)).drew.heap[j]? = W.heap[j]? := fun j h1 h2 =>
  (Below.heap_setCell (W.setCell ⟨gN,0,none⟩ (.int .i64 a)) ⟨gF,0,none⟩ _ j h2).trans (Below.heap_setCell W ⟨gN,0,none⟩ _ j h1)
 refine ⟨((h.be.setCell (p:=⟨gN,0,none⟩) (by show n0≤gN; omega) _).setCell (p:=⟨gF,0,none⟩) (by show n0≤gF; omega) _).drew,Xcy h.pl (e _ (by omega) (by omega)),Xcy h.rq (e _ (by omega) (by omega)),Xcy h.tk (e _ (by omega) (by omega)),Xcy h.ou (e _ (by omega) (by omega)),?_,?_,?_,?_⟩
 ·exact (h.nd.put 0 _).other (p:=⟨gF,0,none⟩) (by show gN ≠ gF; omega) _
 ·exact (h.fr.other (p:=⟨gN,0,none⟩) (by show gF ≠ gN; omega) _).put 0 _
 ·have k1:=h.ro.kept (Xa0 W gN 0 (.int .i64 a)) (.inr (fun e=>h.ob (r:=gN) (by omega) e))
  have k2:=k1.kept (Xa0 _ gF 0 (.int .i64 b)) (.inr (fun e=>h.ob (r:=gF) (by omega) e))
  exact k2
 ·refine ⟨hg.1,hg.2.1,hg.2.2.1,hg.2.2.2.1,?_⟩;have:=hg.2.2.2.2;simpa[World.setCell,World.drew] using this
end
theorem Xmi (Aq:Option Addr)(cq:Nat)(Ac:Option Addr)(cc:Nat)(p:Pln)(q:Rq)(A:Option Addr)(cA:Nat)(l:List Hop)(tk til:Int)(w:World)(hp:Xas w Aq cq Ac cc p)(hok:Xbe p)(h:SlAt hpE w A l)(hl:l.length≤4000)(hb:∀x ∈ l,HopB p x) :
  Calls Tryz.prog 111 #[.agg (plA Aq cq Ac cc p),.agg (rqA q),.slice A l.length cA,.int .i64 tk,.int .i64 til] w (Xcz hdE (Xck p q tk til q.src q.ready l) w):=by
 have HP:=Lib.hid hp;have HS:=Lib.hid h;have HOK:=Lib.hid hok;have HHB:=Lib.hid hb;obtain ⟨_,_,rfl,rfl,-,HB0,HK0,HK1,HK2,HK3⟩:=box4 w 25 (plA Aq cq Ac cc p) 31 (rqA q) 3 #[.int .i64 tk] 27 #[.slice none 0 0];obtain ⟨q0,q1,q2,q3,q4,q5,q6⟩:=HK1.out.c7;have hmf:=fun (fn:Fn) (first cap:Array Value) (w:World)=>(rfl:(Instr.makeFunc fn first cap).run Tryz.prog w = .ok (.func fn first cap) w)
 clear hp hok h hb;go_enter Tryz.func111,Tryz.ntmps111;go_wp2_with fail;go_region
 all_goals clear q0 q1 q2 q3 q4 q5 q6 HB0 HK0 HK1 HK2 HK3
 ·
  obtain ⟨_,_,rfl,rfl,-,HB6,HJ0,HJ1,HJ2,HJ3,HJ4,HJ5⟩:=box6 w 25 (plA Aq cq Ac cc p) 31 (rqA q) 3 #[.int .i64 tk] 27 #[.slice none 0 0] 3 #[.int .i64 q.src] 3 #[.int .i64 q.ready];have HST:Hid (HoS w.heap.size (w.heap.size+1+1+1+1) (w.heap.size+1+1+1+1+1) (w.heap.size+6) w Aq cq Ac cc p q tk q.src q.ready (.slice none 0 0) [] (((((((w.alloc (.cells (plA Aq cq Ac cc p) 25)).alloc (.cells (rqA q) 31)).alloc (.cells #[.int .i64 tk] 3)).alloc (.cells #[.slice none 0 0] 27)).alloc (.cells #[.int .i64 q.src] 3)).alloc (.cells #[.int .i64 q.ready] 3)).drew)) :=
   ⟨HB6.out.drew,HJ0.out,HJ1.out,HJ2.out,HJ3.out,HJ4.out,HJ5.out,World.ownsRow_nil _ _ _ _,by omega,by omega,by omega,by omega,by simp[World.drew]⟩
  clear HB6 HJ0 HJ1 HJ2 HJ3 HJ4 HJ5;generalize ((((((w.alloc (.cells (plA Aq cq Ac cc p) 25)).alloc (.cells (rqA q) 31)).alloc (.cells #[.int .i64 tk] 3)).alloc (.cells #[.slice none 0 0] 27)).alloc (.cells #[.int .i64 q.src] 3)).alloc (.cells #[.int .i64 q.ready] 3)).drew=W6 at HST ⊢;generalize w.heap.size+1+1+1+1+1=g5 at HST ⊢;generalize w.heap.size+1+1+1+1=g4 at HST ⊢;generalize hn0:w.heap.size=n0 at HST ⊢;generalize hbs:n0+6=base at HST;clear hbs;go_wp2_with fail;go_loopw [16,24] (fun _ i wr => ∃j:Nat,j≤l.length∧i = .int .i64 j ∧ ∃v,HoS n0 g4 g5 base w Aq cq Ac cc p q tk (endN p q.src (l.take j)) (endF q.ready (l.take j)) v (Xbc p q tk q.src q.ready (l.take j)) wr) (fun _ i _=>l.length - (intOf i).toNat)
  case atStart=>exact ⟨0,Nat.zero_le _,rfl,_,HST.out⟩
  case round =>
   obtain ⟨j,hj,rfl,v,hs⟩:=hrel;have HV:=Lib.hid hs;have HPL:Hid ((Xbc p q tk q.src q.ready (l.take j)).length≤100000):=by
    have:=Xel p q tk q.src q.ready (l.take j);have:(l.take j).length≤l.length:=by rw[List.length_take]; omega
    show _≤_;omega
   clear hs HST
   by_cases hlt:j<l.length
   ·obtain ⟨b,off,rfl,hr⟩:=HS.out.one (by omega)
    obtain ⟨x,hx⟩:∃x,l[j]? = some x:=⟨_,List.getElem?_eq_getElem hlt⟩;have hrg:=Xa3 (hr j x hx) (show Below w.heap.size w wr by rw[hn0]; exact HV.out.be)
    have HXB:=Lib.hid (HHB.out x (List.mem_of_getElem? hx));have HSN:Hid (endN p q.src (l.take (j+1))=(ctD p x.ct).dst∧endF q.ready (l.take (j+1))=x.beg∧Xbc p q tk q.src q.ready (l.take (j+1))=Xbc p q tk q.src q.ready (l.take j) ++ Xc9 q tk (endN p q.src (l.take j)) (endF q.ready (l.take j)) (Xav q.cust (ctD p x.ct) x)):=by
     show _∧_∧_;rw[take_snoc hx];exact ⟨Xhr _ _ _ _,Xhs _ _ _,Xf0 _ _ _ _ _ _ _⟩
    have c0:wr.cell? ⟨b,off+j * 4,none⟩=some (.int .i64 x.ct):=hrg 0 _ rfl;have c1:wr.cell? ⟨b,off+j * 4+1,none⟩=some (.int .i64 x.beg):=hrg 1 _ rfl;have c2:wr.cell? ⟨b,off+j * 4+2,none⟩=some (.int .i64 x.fin):=hrg 2 _ rfl;have c3:wr.cell? ⟨b,off+j * 4+3,none⟩=some (.int .i64 x.arr):=hrg 3 _ rfl;generalize endN p q.src (l.take j)=nd at HV HSN;generalize endF q.ready (l.take j)=fr at HV HSN;generalize Xbc p q tk q.src q.ready (l.take j)=M at HV HSN HPL;obtain ⟨_,_,rfl,rfl,-,HBN,HX8⟩:=box1 wr 41 #[.int .i64 x.ct,.int .i64 x.beg,.int .i64 x.fin,.int .i64 x.arr];have HV8:=Lib.hid (HV.out.below HBN.out);have HLV:=Lib.hid (fun w' hb' => Xez Aq cq Ac cc p q x w' (HP.out.below (w':=w') hb') HOK.out HXB.out);have HGE:Hid (base≤wr.heap.size):=HV.out.gs.2.2.2.2;have HVB:Hid (v.ownBlock ≠ some wr.heap.size):=fun e=>Nat.lt_irrefl _ (HV.out.ro.lt _ e).2;have a0:=HV8.out.pl.c2;have k0:=HV8.out.rq.c7;obtain ⟨y0,y1,y2,y3⟩:=HX8.out.c4;clear hr hx hrg HV;go_wp2_with fail;clear a0 k0 y0 y1 y2 y3 c0 c1 c2 c3;generalize wr.alloc (.cells #[.int .i64 x.ct,.int .i64 x.beg,.int .i64 x.fin,.int .i64 x.arr] 41)=w8 at HX8 HV8 HBN ⊢;generalize wr.heap.size=g8 at HX8 HGE HVB ⊢;refine (HLV.out w8 (by rw[hn0]; exact HV8.out.be)).mono ?_
    rintro e w9 ⟨rfl,hb9⟩;have HX9:=Lib.hid (HX8.out.below hb9 HX8.out.lt);have HV9:=Lib.hid (HV8.out.below hb9);clear hb9 HLV HX8 HV8 HBN;generalize Xav q.cust (ctD p x.ct) x=lv at HSN ⊢;go_wp2_with fail;refine (Xfm g5 (n0+1+1+1) g4 (n0+1) (n0+1+1) base v M nd fr lv tk q w9 HV9.out.fr HV9.out.ou HV9.out.nd HV9.out.rq HV9.out.tk HV9.out.ro HV9.out.gs.2.2.2.2 HPL.out).mono ?_;rintro e w10 hpost;have hx10:Bk w10 g8 41 #[.int .i64 x.ct,.int .i64 x.beg,.int .i64 x.fin,.int .i64 x.arr]:=Xcy HX9.out (hpost.2.choose_spec.2.2.2.1 g8 HX9.out.lt (by have:=HV9.out.gs; have:=HGE.out; omega) HVB.out)
    obtain ⟨rfl,v',hv'⟩:=HV9.out.add hpost;have HV10:=Lib.hid hv';have HX10:=Lib.hid hx10;clear hpost hv' hx10 HV9 HX9;obtain ⟨⟨hct0,ct,hct⟩,hrb⟩:=HXB.out;obtain ⟨i,hi⟩:∃i:Nat,x.ct=(i:Int):=⟨x.ct.toNat,by omega⟩
    rw[hi,Int.toNat_natCast] at hct;have HCD:Hid (ctD p x.ct=ct):=by
     show _=_;unfold ctD;rw[hi,Int.toNat_natCast,List.getD_eq_getElem?_getD,hct]
     rfl
    rw[HCD.out] at HSN;have hil:i<p.c.length:=(List.getElem?_eq_some_iff.1 hct).1;obtain ⟨bc,oc,hAc,hrc⟩:=(HP.out.below (show Below w.heap.size w w10 by rw[hn0]; exact HV10.out.be)).c.one (by omega)
    have hcm:=HP.out.cm;unfold maxLen at hcm;have hcg:w10.rangeAt bc (oc+i * 7) (ctE.f ct):=hrc i ct hct;have x1:w10.cell? ⟨bc,oc+i * 7+1,none⟩=some (.int .i64 ct.dst):=hcg 1 _ rfl;have hi0:(0:Int)≤(i:Int):=by omega
    have hi1:(i:Int)<(p.c.length:Int):=by omega
    have p1:w10.cell? ⟨n0,1,none⟩=some (.slice (some ⟨bc,oc,none⟩) p.c.length cc):=by rw[←hAc]; exact HV10.out.pl.cell 1
    have y0:w10.cell? ⟨g8,0,none⟩=some (.int .i64 i):=by rw[←hi]; exact HX10.out.cell 0
    have y1:=HX10.out.n1;have z0:=HV10.out.nd.n0;have z1:=HV10.out.fr.n0;have f0:=HV10.out.nd.free 0;have f1:=HV10.out.fr.free 0;have HVP:=Lib.hid (HV10.out.put ct.dst x.beg);have hne:g4 ≠ g5:=HV10.out.gs.2.2.2.1;clear hct hrc hcg HV10 HX10 hrb hAc;go_wp2_with fail;go_region;go_wp2;go_roundw
    case rel=>exact ⟨j+1,by omega,by go_num,v',by rw[HSN.out.1,HSN.out.2.1,HSN.out.2.2]; exact HVP.out⟩
    case measure=>simp[intOf]; omega
   ·have e:l.take j=l:=List.take_of_length_le (by omega)
    rw[e] at HV HPL;have HGO:Hid (Xck p q tk til q.src q.ready l=Xbc p q tk q.src q.ready l ++ (if endN p q.src l=q.dst then [] else Xc9 q tk (endN p q.src l) (endF q.ready l) til)):=Xgr p q tk til q.src q.ready l
    clear e;generalize endN p q.src l=nd at HV HGO;generalize endF q.ready l=fr at HV HGO;generalize Xbc p q tk q.src q.ready l=M at HV HGO HPL;have z0:=HV.out.nd.n0;have y1:=HV.out.rq.n1
    by_cases hd:nd=q.dst
    ·have d1:(nd != q.dst)=false:=by simpa using hd
     have HG2:Hid (Xck p q tk til q.src q.ready l=M):=by show _=_; rw[HGO.out,if_pos hd,List.append_nil]
     obtain ⟨A1,c1,hve,s1,s2,s3⟩:=Xab (E:=hdE) HV.out.ro;have o1:wr.cell? ⟨n0+1+1+1,0,none⟩=some (.slice A1 M.length c1):=by rw[←hve]; exact HV.out.ou.cell 0
     have HF:Hid (Xcz hdE (Xck p q tk til q.src q.ready l) w (.returned (.slice A1 M.length c1)) wr):=by
      show Xcz _ _ _ _ _;rw[HG2.out];exact ⟨A1,c1,rfl,s1,s2,fun a ha=>by have:=s3 a ha; have:=HV.out.gs; omega,by rw[hn0]; exact HV.out.be⟩
     clear s1 s2 s3 hve HV hd HGO;go_wp2;go_ret;exact HF.out
    ·have d1:(nd != q.dst)=true:=by simpa using hd
     have HG2:Hid (Xck p q tk til q.src q.ready l=M ++ Xc9 q tk nd fr til):=by show _=_; rw[HGO.out,if_neg hd]
     clear hd HGO;go_wp2_with fail;refine (Xfm g5 (n0+1+1+1) g4 (n0+1) (n0+1+1) base v M nd fr til tk q wr HV.out.fr HV.out.ou HV.out.nd HV.out.rq HV.out.tk HV.out.ro HV.out.gs.2.2.2.2 HPL.out).mono ?_;rintro e w10 hpost;obtain ⟨rfl,v',hv'⟩:=HV.out.add hpost;generalize M ++ Xc9 q tk nd fr til=G at hv' HG2;obtain ⟨A1,c1,hve,s1,s2,s3⟩:=Xab (E:=hdE) hv'.ro;have o1:w10.cell? ⟨n0+1+1+1,0,none⟩=some (.slice A1 G.length c1):=by rw[←hve]; exact hv'.ou.cell 0
     have HF:Hid (Xcz hdE (Xck p q tk til q.src q.ready l) w (.returned (.slice A1 G.length c1)) w10):=by
      show Xcz _ _ _ _ _;rw[HG2.out];exact ⟨A1,c1,rfl,s1,s2,fun a ha=>by have:=s3 a ha; have:=hv'.gs; omega,by rw[hn0]; exact hv'.be⟩
     clear s1 s2 s3 hve hv' hpost HV HG2 z0 y1;go_wp2;go_ret;exact HF.out
 ·
  obtain ⟨_,_,rfl,rfl,-,HB6,HJ0,HJ1,HJ2,HJ3,HJ4,HJ5⟩:=box6 w 25 (plA Aq cq Ac cc p) 31 (rqA q) 3 #[.int .i64 tk] 27 #[.slice none 0 0] 3 #[.int .i64 q.ready] 3 #[.int .i64 q.src];have HST:Hid (HoS w.heap.size (w.heap.size+1+1+1+1+1) (w.heap.size+1+1+1+1) (w.heap.size+6) w Aq cq Ac cc p q tk q.src q.ready (.slice none 0 0) [] (((((((w.alloc (.cells (plA Aq cq Ac cc p) 25)).alloc (.cells (rqA q) 31)).alloc (.cells #[.int .i64 tk] 3)).alloc (.cells #[.slice none 0 0] 27)).alloc (.cells #[.int .i64 q.ready] 3)).alloc (.cells #[.int .i64 q.src] 3)).drew)) :=
   ⟨HB6.out.drew,HJ0.out,HJ1.out,HJ2.out,HJ3.out,HJ5.out,HJ4.out,World.ownsRow_nil _ _ _ _,by omega,by omega,by omega,by omega,by simp[World.drew]⟩
  clear HB6 HJ0 HJ1 HJ2 HJ3 HJ4 HJ5;generalize ((((((w.alloc (.cells (plA Aq cq Ac cc p) 25)).alloc (.cells (rqA q) 31)).alloc (.cells #[.int .i64 tk] 3)).alloc (.cells #[.slice none 0 0] 27)).alloc (.cells #[.int .i64 q.ready] 3)).alloc (.cells #[.int .i64 q.src] 3)).drew=W6 at HST ⊢;generalize w.heap.size+1+1+1+1+1=g5 at HST ⊢;generalize w.heap.size+1+1+1+1=g4 at HST ⊢;generalize hn0:w.heap.size=n0 at HST ⊢;generalize hbs:n0+6=base at HST;clear hbs;go_wp2_with fail;go_loopw [16,24] (fun _ i wr => ∃j:Nat,j≤l.length∧i = .int .i64 j ∧ ∃v,HoS n0 g5 g4 base w Aq cq Ac cc p q tk (endN p q.src (l.take j)) (endF q.ready (l.take j)) v (Xbc p q tk q.src q.ready (l.take j)) wr) (fun _ i _=>l.length - (intOf i).toNat)
  case atStart=>exact ⟨0,Nat.zero_le _,rfl,_,HST.out⟩
  case round =>
   obtain ⟨j,hj,rfl,v,hs⟩:=hrel;have HV:=Lib.hid hs;have HPL:Hid ((Xbc p q tk q.src q.ready (l.take j)).length≤100000):=by
    have:=Xel p q tk q.src q.ready (l.take j);have:(l.take j).length≤l.length:=by rw[List.length_take]; omega
    show _≤_;omega
   clear hs HST
   by_cases hlt:j<l.length
   ·obtain ⟨b,off,rfl,hr⟩:=HS.out.one (by omega)
    obtain ⟨x,hx⟩:∃x,l[j]? = some x:=⟨_,List.getElem?_eq_getElem hlt⟩;have hrg:=Xa3 (hr j x hx) (show Below w.heap.size w wr by rw[hn0]; exact HV.out.be)
    have HXB:=Lib.hid (HHB.out x (List.mem_of_getElem? hx));have HSN:Hid (endN p q.src (l.take (j+1))=(ctD p x.ct).dst∧endF q.ready (l.take (j+1))=x.beg∧Xbc p q tk q.src q.ready (l.take (j+1))=Xbc p q tk q.src q.ready (l.take j) ++ Xc9 q tk (endN p q.src (l.take j)) (endF q.ready (l.take j)) (Xav q.cust (ctD p x.ct) x)):=by
     show _∧_∧_;rw[take_snoc hx];exact ⟨Xhr _ _ _ _,Xhs _ _ _,Xf0 _ _ _ _ _ _ _⟩
    have c0:wr.cell? ⟨b,off+j * 4,none⟩=some (.int .i64 x.ct):=hrg 0 _ rfl;have c1:wr.cell? ⟨b,off+j * 4+1,none⟩=some (.int .i64 x.beg):=hrg 1 _ rfl;have c2:wr.cell? ⟨b,off+j * 4+2,none⟩=some (.int .i64 x.fin):=hrg 2 _ rfl;have c3:wr.cell? ⟨b,off+j * 4+3,none⟩=some (.int .i64 x.arr):=hrg 3 _ rfl;generalize endN p q.src (l.take j)=nd at HV HSN;generalize endF q.ready (l.take j)=fr at HV HSN;generalize Xbc p q tk q.src q.ready (l.take j)=M at HV HSN HPL;obtain ⟨_,_,rfl,rfl,-,HBN,HX8⟩:=box1 wr 41 #[.int .i64 x.ct,.int .i64 x.beg,.int .i64 x.fin,.int .i64 x.arr];have HV8:=Lib.hid (HV.out.below HBN.out);have HLV:=Lib.hid (fun w' hb' => Xez Aq cq Ac cc p q x w' (HP.out.below (w':=w') hb') HOK.out HXB.out);have HGE:Hid (base≤wr.heap.size):=HV.out.gs.2.2.2.2;have HVB:Hid (v.ownBlock ≠ some wr.heap.size):=fun e=>Nat.lt_irrefl _ (HV.out.ro.lt _ e).2;have a0:=HV8.out.pl.c2;have k0:=HV8.out.rq.c7;obtain ⟨y0,y1,y2,y3⟩:=HX8.out.c4;clear hr hx hrg HV;go_wp2_with fail;clear a0 k0 y0 y1 y2 y3 c0 c1 c2 c3;generalize wr.alloc (.cells #[.int .i64 x.ct,.int .i64 x.beg,.int .i64 x.fin,.int .i64 x.arr] 41)=w8 at HX8 HV8 HBN ⊢;generalize wr.heap.size=g8 at HX8 HGE HVB ⊢;refine (HLV.out w8 (by rw[hn0]; exact HV8.out.be)).mono ?_
    rintro e w9 ⟨rfl,hb9⟩;have HX9:=Lib.hid (HX8.out.below hb9 HX8.out.lt);have HV9:=Lib.hid (HV8.out.below hb9);clear hb9 HLV HX8 HV8 HBN;generalize Xav q.cust (ctD p x.ct) x=lv at HSN ⊢;go_wp2_with fail;refine (Xfm g4 (n0+1+1+1) g5 (n0+1) (n0+1+1) base v M nd fr lv tk q w9 HV9.out.fr HV9.out.ou HV9.out.nd HV9.out.rq HV9.out.tk HV9.out.ro HV9.out.gs.2.2.2.2 HPL.out).mono ?_;rintro e w10 hpost;have hx10:Bk w10 g8 41 #[.int .i64 x.ct,.int .i64 x.beg,.int .i64 x.fin,.int .i64 x.arr]:=Xcy HX9.out (hpost.2.choose_spec.2.2.2.1 g8 HX9.out.lt (by have:=HV9.out.gs; have:=HGE.out; omega) HVB.out)
    obtain ⟨rfl,v',hv'⟩:=HV9.out.add hpost;have HV10:=Lib.hid hv';have HX10:=Lib.hid hx10;clear hpost hv' hx10 HV9 HX9;obtain ⟨⟨hct0,ct,hct⟩,hrb⟩:=HXB.out;obtain ⟨i,hi⟩:∃i:Nat,x.ct=(i:Int):=⟨x.ct.toNat,by omega⟩
    rw[hi,Int.toNat_natCast] at hct;have HCD:Hid (ctD p x.ct=ct):=by
     show _=_;unfold ctD;rw[hi,Int.toNat_natCast,List.getD_eq_getElem?_getD,hct]
     rfl
    rw[HCD.out] at HSN;have hil:i<p.c.length:=(List.getElem?_eq_some_iff.1 hct).1;obtain ⟨bc,oc,hAc,hrc⟩:=(HP.out.below (show Below w.heap.size w w10 by rw[hn0]; exact HV10.out.be)).c.one (by omega)
    have hcm:=HP.out.cm;unfold maxLen at hcm;have hcg:w10.rangeAt bc (oc+i * 7) (ctE.f ct):=hrc i ct hct;have x1:w10.cell? ⟨bc,oc+i * 7+1,none⟩=some (.int .i64 ct.dst):=hcg 1 _ rfl;have hi0:(0:Int)≤(i:Int):=by omega
    have hi1:(i:Int)<(p.c.length:Int):=by omega
    have p1:w10.cell? ⟨n0,1,none⟩=some (.slice (some ⟨bc,oc,none⟩) p.c.length cc):=by rw[←hAc]; exact HV10.out.pl.cell 1
    have y0:w10.cell? ⟨g8,0,none⟩=some (.int .i64 i):=by rw[←hi]; exact HX10.out.cell 0
    have y1:=HX10.out.n1;have z0:=HV10.out.nd.n0;have z1:=HV10.out.fr.n0;have f0:=HV10.out.nd.free 0;have f1:=HV10.out.fr.free 0;have HVP:=Lib.hid (HV10.out.put ct.dst x.beg);have hne:g5 ≠ g4:=HV10.out.gs.2.2.2.1;clear hct hrc hcg HV10 HX10 hrb hAc;go_wp2_with fail;go_region;go_wp2;go_roundw
    case rel=>exact ⟨j+1,by omega,by go_num,v',by rw[HSN.out.1,HSN.out.2.1,HSN.out.2.2]; exact HVP.out⟩
    case measure=>simp[intOf]; omega
   ·have e:l.take j=l:=List.take_of_length_le (by omega)
    rw[e] at HV HPL;have HGO:Hid (Xck p q tk til q.src q.ready l=Xbc p q tk q.src q.ready l ++ (if endN p q.src l=q.dst then [] else Xc9 q tk (endN p q.src l) (endF q.ready l) til)):=Xgr p q tk til q.src q.ready l
    clear e;generalize endN p q.src l=nd at HV HGO;generalize endF q.ready l=fr at HV HGO;generalize Xbc p q tk q.src q.ready l=M at HV HGO HPL;have z0:=HV.out.nd.n0;have y1:=HV.out.rq.n1
    by_cases hd:nd=q.dst
    ·have d1:(nd != q.dst)=false:=by simpa using hd
     have HG2:Hid (Xck p q tk til q.src q.ready l=M):=by show _=_; rw[HGO.out,if_pos hd,List.append_nil]
     obtain ⟨A1,c1,hve,s1,s2,s3⟩:=Xab (E:=hdE) HV.out.ro;have o1:wr.cell? ⟨n0+1+1+1,0,none⟩=some (.slice A1 M.length c1):=by rw[←hve]; exact HV.out.ou.cell 0
     have HF:Hid (Xcz hdE (Xck p q tk til q.src q.ready l) w (.returned (.slice A1 M.length c1)) wr):=by
      show Xcz _ _ _ _ _;rw[HG2.out];exact ⟨A1,c1,rfl,s1,s2,fun a ha=>by have:=s3 a ha; have:=HV.out.gs; omega,by rw[hn0]; exact HV.out.be⟩
     clear s1 s2 s3 hve HV hd HGO;go_wp2;go_ret;exact HF.out
    ·have d1:(nd != q.dst)=true:=by simpa using hd
     have HG2:Hid (Xck p q tk til q.src q.ready l=M ++ Xc9 q tk nd fr til):=by show _=_; rw[HGO.out,if_neg hd]
     clear hd HGO;go_wp2_with fail;refine (Xfm g4 (n0+1+1+1) g5 (n0+1) (n0+1+1) base v M nd fr til tk q wr HV.out.fr HV.out.ou HV.out.nd HV.out.rq HV.out.tk HV.out.ro HV.out.gs.2.2.2.2 HPL.out).mono ?_;rintro e w10 hpost;obtain ⟨rfl,v',hv'⟩:=HV.out.add hpost;generalize M ++ Xc9 q tk nd fr til=G at hv' HG2;obtain ⟨A1,c1,hve,s1,s2,s3⟩:=Xab (E:=hdE) hv'.ro;have o1:w10.cell? ⟨n0+1+1+1,0,none⟩=some (.slice A1 G.length c1):=by rw[←hve]; exact hv'.ou.cell 0
     have HF:Hid (Xcz hdE (Xck p q tk til q.src q.ready l) w (.returned (.slice A1 G.length c1)) w10):=by
      show Xcz _ _ _ _ _;rw[HG2.out];exact ⟨A1,c1,rfl,s1,s2,fun a ha=>by have:=s3 a ha; have:=hv'.gs; omega,by rw[hn0]; exact hv'.be⟩
     clear s1 s2 s3 hve hv' hpost HV HG2 z0 y1;go_wp2;go_ret;exact HF.out
end Go.Proofs.YtebkgbmijocdjaaGreat.Tp
